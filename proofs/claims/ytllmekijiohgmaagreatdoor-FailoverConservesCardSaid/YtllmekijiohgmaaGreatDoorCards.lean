/-
  DERIVED. GIVEN WITH THE SEED: THE CARDS: each row of YtllmekijiohgmaaGreatDoorRows.lean that lists a variable, with what it lists TIED to the program's text (the seventh form; the later family's looks); each row that meets fmt, with fmt's text TOLD by the authors' own Lean function (tested against real Go, not proved from fmt's source: count such statements apart). THE CARD IS WHAT COUNTS. Prove the row's statement (the work); the ties are given (YtllmekijiohgmaaGreatDoorTie.lean); close each card by the builder's one call (the guide's Derived/Test/ToyasCard.lean, 'card_holds'). Laid BY PROGRAM, IN A SANDBOX (cutbox-door.mjs). By AI agents, Wed Nov 11 2026. No macro, syntax, notation, axiom, sorry.
-/
import Derived.Test.YtllmekijiohgmaaGreatDoorRows
import GoSem.ClaimSeven
namespace Go.Proofs.YtllmekijiohgmaaGreatDoor
namespace Rows

/-- THE TIED CARD OF 'waypointlaw44.FailoverShares'. -/
def failoverSharesCard : Claim7 := { stood := { row := failoverSharesRow, standIns := [], harness := (true, "b695e58643375a721aca1c7e48e052efef3eeb2db873f52f6f832d03c7f12bfd"), looks := false }, kinds := [], alts := [], laidByText := true, laidKinds := [.data, .data, .data], laidTests := true, laidLooks := .later }
def FailoverSharesCardSaid : Prop := Claim7.holds Tryz.pinned (.plain (OpenSpec.ofChange failoverSharesSpec)) failoverSharesCard

/-- THE TIED CARD OF 'waypointlaw44.FailoverTables'. -/
def failoverTablesCard : Claim7 := { stood := { row := failoverTablesRow, standIns := [], harness := (true, "b695e58643375a721aca1c7e48e052efef3eeb2db873f52f6f832d03c7f12bfd"), looks := false }, kinds := [], alts := [], laidByText := true, laidKinds := [.data, .data, .data], laidTests := true, laidLooks := .later }
def FailoverTablesCardSaid : Prop := Claim7.holds Tryz.pinned (.plain (OpenSpec.ofChange failoverTablesSpec)) failoverTablesCard

/-- THE TIED CARD OF 'waypointlaw44.FailoverRepairs'. -/
def failoverRepairsCard : Claim7 := { stood := { row := failoverRepairsRow, standIns := [], harness := (true, "b695e58643375a721aca1c7e48e052efef3eeb2db873f52f6f832d03c7f12bfd"), looks := false }, kinds := [], alts := [], laidByText := true, laidKinds := [.data, .data, .data], laidTests := true, laidLooks := .later }
def FailoverRepairsCardSaid : Prop := Claim7.holds Tryz.pinned (.plain (OpenSpec.ofChange failoverRepairsSpec)) failoverRepairsCard

/-- THE TIED CARD OF 'waypointlaw44.FailoverConserves'. -/
def failoverConservesCard : Claim7 := { stood := { row := failoverConservesRow, standIns := [], harness := (true, "b695e58643375a721aca1c7e48e052efef3eeb2db873f52f6f832d03c7f12bfd"), looks := false }, kinds := [], alts := [], laidByText := true, laidKinds := [.data, .data, .data], laidTests := true, laidLooks := .later }
def FailoverConservesCardSaid : Prop := Claim7.holds Tryz.pinned (.plain (OpenSpec.ofChange failoverConservesSpec)) failoverConservesCard

/-- THE TIED CARD OF 'waypointlaw44.FailoverLoads'. -/
def failoverLoadsCard : Claim7 := { stood := { row := failoverLoadsRow, standIns := [], harness := (true, "b695e58643375a721aca1c7e48e052efef3eeb2db873f52f6f832d03c7f12bfd"), looks := false }, kinds := [], alts := [], laidByText := true, laidKinds := [.data, .data, .data], laidTests := true, laidLooks := .later }
def FailoverLoadsCardSaid : Prop := Claim7.holds Tryz.pinned (.plain (OpenSpec.ofChange failoverLoadsSpec)) failoverLoadsCard

/-- THE TIED CARD OF 'waypointlaw44.FailoverLinear'. -/
def failoverLinearCard : Claim7 := { stood := { row := failoverLinearRow, standIns := [], harness := (true, "b695e58643375a721aca1c7e48e052efef3eeb2db873f52f6f832d03c7f12bfd"), looks := false }, kinds := [], alts := [], laidByText := true, laidKinds := [.data, .data, .data], laidTests := true, laidLooks := .later }
def FailoverLinearCardSaid : Prop := Claim7.holds Tryz.pinned (.plain (OpenSpec.ofChange failoverLinearSpec)) failoverLinearCard

/-- THE SECOND FORM's CARD OF 'waypointlaw44.FailoverShares'. -/
def failoverSharesUptoCard : Claim7 := { stood := { row := failoverSharesUptoRow, standIns := [], harness := (true, "b695e58643375a721aca1c7e48e052efef3eeb2db873f52f6f832d03c7f12bfd"), looks := false }, kinds := [], alts := [], laidByText := true, laidKinds := [.data, .data, .data], laidTests := true, laidLooks := .later }
def FailoverSharesUptoCardSaid : Prop := Claim7.holds Tryz.pinned (.plain (OpenSpec.upto failoverSharesSpec)) failoverSharesUptoCard

/-- THE SECOND FORM's CARD OF 'waypointlaw44.FailoverTables'. -/
def failoverTablesUptoCard : Claim7 := { stood := { row := failoverTablesUptoRow, standIns := [], harness := (true, "b695e58643375a721aca1c7e48e052efef3eeb2db873f52f6f832d03c7f12bfd"), looks := false }, kinds := [], alts := [], laidByText := true, laidKinds := [.data, .data, .data], laidTests := true, laidLooks := .later }
def FailoverTablesUptoCardSaid : Prop := Claim7.holds Tryz.pinned (.plain (OpenSpec.upto failoverTablesSpec)) failoverTablesUptoCard

/-- THE SECOND FORM's CARD OF 'waypointlaw44.FailoverRepairs'. -/
def failoverRepairsUptoCard : Claim7 := { stood := { row := failoverRepairsUptoRow, standIns := [], harness := (true, "b695e58643375a721aca1c7e48e052efef3eeb2db873f52f6f832d03c7f12bfd"), looks := false }, kinds := [], alts := [], laidByText := true, laidKinds := [.data, .data, .data], laidTests := true, laidLooks := .later }
def FailoverRepairsUptoCardSaid : Prop := Claim7.holds Tryz.pinned (.plain (OpenSpec.upto failoverRepairsSpec)) failoverRepairsUptoCard

/-- THE SECOND FORM's CARD OF 'waypointlaw44.FailoverConserves'. -/
def failoverConservesUptoCard : Claim7 := { stood := { row := failoverConservesUptoRow, standIns := [], harness := (true, "b695e58643375a721aca1c7e48e052efef3eeb2db873f52f6f832d03c7f12bfd"), looks := false }, kinds := [], alts := [], laidByText := true, laidKinds := [.data, .data, .data], laidTests := true, laidLooks := .later }
def FailoverConservesUptoCardSaid : Prop := Claim7.holds Tryz.pinned (.plain (OpenSpec.upto failoverConservesSpec)) failoverConservesUptoCard

/-- THE SECOND FORM's CARD OF 'waypointlaw44.FailoverLoads'. -/
def failoverLoadsUptoCard : Claim7 := { stood := { row := failoverLoadsUptoRow, standIns := [], harness := (true, "b695e58643375a721aca1c7e48e052efef3eeb2db873f52f6f832d03c7f12bfd"), looks := false }, kinds := [], alts := [], laidByText := true, laidKinds := [.data, .data, .data], laidTests := true, laidLooks := .later }
def FailoverLoadsUptoCardSaid : Prop := Claim7.holds Tryz.pinned (.plain (OpenSpec.upto failoverLoadsSpec)) failoverLoadsUptoCard

/-- THE SECOND FORM's CARD OF 'waypointlaw44.FailoverLinear'. -/
def failoverLinearUptoCard : Claim7 := { stood := { row := failoverLinearUptoRow, standIns := [], harness := (true, "b695e58643375a721aca1c7e48e052efef3eeb2db873f52f6f832d03c7f12bfd"), looks := false }, kinds := [], alts := [], laidByText := true, laidKinds := [.data, .data, .data], laidTests := true, laidLooks := .later }
def FailoverLinearUptoCardSaid : Prop := Claim7.holds Tryz.pinned (.plain (OpenSpec.upto failoverLinearSpec)) failoverLinearUptoCard
end Rows
end Go.Proofs.YtllmekijiohgmaaGreatDoor
