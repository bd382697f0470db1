/-
  DERIVED. GIVEN WITH THE SEED: THE CARDS: each row of YtfeeacaofjpkaaaGreatDoorRows.lean that lists a variable, with what it lists TIED to the program's text (the seventh form; the later family's looks); each row that meets fmt, with fmt's text TOLD by the authors' own Lean function (tested against real Go, not proved from fmt's source: count such statements apart). THE CARD IS WHAT COUNTS. Prove the row's statement (the work); the ties are given (YtfeeacaofjpkaaaGreatDoorTie.lean); close each card by the builder's one call (the guide's Derived/Test/ToyasCard.lean, 'card_holds'). Laid BY PROGRAM, IN A SANDBOX (cutbox-door.mjs). By AI agents, Wed Nov 11 2026. No macro, syntax, notation, axiom, sorry.
-/
import Derived.Test.YtfeeacaofjpkaaaGreatDoorRows
import GoSem.ClaimSeven
namespace Go.Proofs.YtfeeacaofjpkaaaGreatDoor
namespace Rows

/-- THE TIED CARD OF 'waypointlaw43.FlowsSolve'. -/
def flowsSolveCard : Claim7 := { stood := { row := flowsSolveRow, standIns := [], harness := (true, "7a3d84afca3ec30c1a871464fb241e2a3813f0a2839a1c27d9325a644c7316e9"), looks := true }, kinds := [], alts := [], laidByText := true, laidKinds := [.data, .data, .data], laidTests := true, laidLooks := .later }
def FlowsSolveCardSaid : Prop := Claim7.holds Tryz.pinned (.plain (OpenSpec.ofChange flowsSolveSpec)) flowsSolveCard

/-- THE TIED CARD OF 'waypointlaw43.FlowsProgram'. -/
def flowsProgramCard : Claim7 := { stood := { row := flowsProgramRow, standIns := [], harness := (true, "7a3d84afca3ec30c1a871464fb241e2a3813f0a2839a1c27d9325a644c7316e9"), looks := true }, kinds := [], alts := [], laidByText := true, laidKinds := [.data, .data, .data], laidTests := true, laidLooks := .later }
def FlowsProgramCardSaid : Prop := Claim7.holds Tryz.pinned (.plain (OpenSpec.ofChange flowsProgramSpec)) flowsProgramCard

/-- THE SECOND FORM's CARD OF 'waypointlaw43.FlowsSolve'. -/
def flowsSolveUptoCard : Claim7 := { stood := { row := flowsSolveUptoRow, standIns := [], harness := (true, "7a3d84afca3ec30c1a871464fb241e2a3813f0a2839a1c27d9325a644c7316e9"), looks := true }, kinds := [], alts := [], laidByText := true, laidKinds := [.data, .data, .data], laidTests := true, laidLooks := .later }
def FlowsSolveUptoCardSaid : Prop := Claim7.holds Tryz.pinned (.plain (OpenSpec.upto flowsSolveSpec)) flowsSolveUptoCard

/-- THE SECOND FORM's CARD OF 'waypointlaw43.FlowsProgram'. -/
def flowsProgramUptoCard : Claim7 := { stood := { row := flowsProgramUptoRow, standIns := [], harness := (true, "7a3d84afca3ec30c1a871464fb241e2a3813f0a2839a1c27d9325a644c7316e9"), looks := true }, kinds := [], alts := [], laidByText := true, laidKinds := [.data, .data, .data], laidTests := true, laidLooks := .later }
def FlowsProgramUptoCardSaid : Prop := Claim7.holds Tryz.pinned (.plain (OpenSpec.upto flowsProgramSpec)) flowsProgramUptoCard
end Rows
end Go.Proofs.YtfeeacaofjpkaaaGreatDoor
