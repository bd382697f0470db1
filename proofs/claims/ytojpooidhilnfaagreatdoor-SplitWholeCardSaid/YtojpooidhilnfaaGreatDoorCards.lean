/-
  DERIVED. GIVEN WITH THE SEED: THE CARDS: each row of YtojpooidhilnfaaGreatDoorRows.lean that lists a variable, with what it lists TIED to the program's text (the seventh form; the later family's looks); each row that meets fmt, with fmt's text TOLD by the authors' own Lean function (tested against real Go, not proved from fmt's source: count such statements apart). THE CARD IS WHAT COUNTS. Prove the row's statement (the work); the ties are given (YtojpooidhilnfaaGreatDoorTie.lean); close each card by the builder's one call (the guide's Derived/Test/ToyasCard.lean, 'card_holds'). Laid BY PROGRAM, IN A SANDBOX (cutbox-door.mjs). By AI agents, Wed Nov 11 2026. No macro, syntax, notation, axiom, sorry.
-/
import Derived.Test.YtojpooidhilnfaaGreatDoorRows
import GoSem.ClaimSeven
namespace Go.Proofs.YtojpooidhilnfaaGreatDoor
namespace Rows

/-- THE TIED CARD OF 'waypointlaw43.FlowsCut'. -/
def flowsCutCard : Claim7 := { stood := { row := flowsCutRow, standIns := [], harness := (true, "8c7b131f0472dd47256596c65b47abbf5d7e0a451bbcaaa97506efa26405e549"), looks := true }, kinds := [], alts := [], laidByText := true, laidKinds := [.data, .data, .data], laidTests := true, laidLooks := .later }
def FlowsCutCardSaid : Prop := Claim7.holds Tryz.pinned (.plain (OpenSpec.ofChange flowsCutSpec)) flowsCutCard

/-- THE TIED CARD OF 'waypointlaw43.FlowsLoads'. -/
def flowsLoadsCard : Claim7 := { stood := { row := flowsLoadsRow, standIns := [], harness := (true, "8c7b131f0472dd47256596c65b47abbf5d7e0a451bbcaaa97506efa26405e549"), looks := true }, kinds := [], alts := [], laidByText := true, laidKinds := [.data, .data, .data], laidTests := true, laidLooks := .later }
def FlowsLoadsCardSaid : Prop := Claim7.holds Tryz.pinned (.plain (OpenSpec.ofChange flowsLoadsSpec)) flowsLoadsCard

/-- THE TIED CARD OF 'waypointlaw46.SplitFactor'. -/
def splitFactorCard : Claim7 := { stood := { row := splitFactorRow, standIns := [], harness := (true, "8c7b131f0472dd47256596c65b47abbf5d7e0a451bbcaaa97506efa26405e549"), looks := true }, kinds := [], alts := [], laidByText := true, laidKinds := [.data, .data, .data], laidTests := true, laidLooks := .later }
def SplitFactorCardSaid : Prop := Claim7.holds Tryz.pinned (.plain (OpenSpec.ofChange splitFactorSpec)) splitFactorCard

/-- THE TIED CARD OF 'waypointlaw46.SplitWhole'. -/
def splitWholeCard : Claim7 := { stood := { row := splitWholeRow, standIns := [], harness := (true, "8c7b131f0472dd47256596c65b47abbf5d7e0a451bbcaaa97506efa26405e549"), looks := true }, kinds := [], alts := [], laidByText := true, laidKinds := [.data, .data, .data], laidTests := true, laidLooks := .later }
def SplitWholeCardSaid : Prop := Claim7.holds Tryz.pinned (.plain (OpenSpec.ofChange splitWholeSpec)) splitWholeCard

/-- THE SECOND FORM's CARD OF 'waypointlaw43.FlowsCut'. -/
def flowsCutUptoCard : Claim7 := { stood := { row := flowsCutUptoRow, standIns := [], harness := (true, "8c7b131f0472dd47256596c65b47abbf5d7e0a451bbcaaa97506efa26405e549"), looks := true }, kinds := [], alts := [], laidByText := true, laidKinds := [.data, .data, .data], laidTests := true, laidLooks := .later }
def FlowsCutUptoCardSaid : Prop := Claim7.holds Tryz.pinned (.plain (OpenSpec.upto flowsCutSpec)) flowsCutUptoCard

/-- THE SECOND FORM's CARD OF 'waypointlaw43.FlowsLoads'. -/
def flowsLoadsUptoCard : Claim7 := { stood := { row := flowsLoadsUptoRow, standIns := [], harness := (true, "8c7b131f0472dd47256596c65b47abbf5d7e0a451bbcaaa97506efa26405e549"), looks := true }, kinds := [], alts := [], laidByText := true, laidKinds := [.data, .data, .data], laidTests := true, laidLooks := .later }
def FlowsLoadsUptoCardSaid : Prop := Claim7.holds Tryz.pinned (.plain (OpenSpec.upto flowsLoadsSpec)) flowsLoadsUptoCard

/-- THE SECOND FORM's CARD OF 'waypointlaw46.SplitFactor'. -/
def splitFactorUptoCard : Claim7 := { stood := { row := splitFactorUptoRow, standIns := [], harness := (true, "8c7b131f0472dd47256596c65b47abbf5d7e0a451bbcaaa97506efa26405e549"), looks := true }, kinds := [], alts := [], laidByText := true, laidKinds := [.data, .data, .data], laidTests := true, laidLooks := .later }
def SplitFactorUptoCardSaid : Prop := Claim7.holds Tryz.pinned (.plain (OpenSpec.upto splitFactorSpec)) splitFactorUptoCard

/-- THE SECOND FORM's CARD OF 'waypointlaw46.SplitWhole'. -/
def splitWholeUptoCard : Claim7 := { stood := { row := splitWholeUptoRow, standIns := [], harness := (true, "8c7b131f0472dd47256596c65b47abbf5d7e0a451bbcaaa97506efa26405e549"), looks := true }, kinds := [], alts := [], laidByText := true, laidKinds := [.data, .data, .data], laidTests := true, laidLooks := .later }
def SplitWholeUptoCardSaid : Prop := Claim7.holds Tryz.pinned (.plain (OpenSpec.upto splitWholeSpec)) splitWholeUptoCard
end Rows
end Go.Proofs.YtojpooidhilnfaaGreatDoor
