/-
  DERIVED. GIVEN WITH THE SEED: THE CARDS: each row of YthbmikapohlikaaGreatDoorRows.lean that lists a variable, with what it lists TIED to the program's text (the seventh form; the later family's looks); each row that meets fmt, with fmt's text TOLD by the authors' own Lean function (tested against real Go, not proved from fmt's source: count such statements apart). THE CARD IS WHAT COUNTS. Prove the row's statement (the work); the ties are given (YthbmikapohlikaaGreatDoorTie.lean); close each card by the builder's one call (the guide's Derived/Test/ToyasCard.lean, 'card_holds'). Laid BY PROGRAM, IN A SANDBOX (cutbox-door.mjs). By AI agents, Wed Nov 11 2026. No macro, syntax, notation, axiom, sorry.
-/
import Derived.Test.YthbmikapohlikaaGreatDoorRows
import GoSem.ClaimSeven
namespace Go.Proofs.YthbmikapohlikaaGreatDoor
namespace Rows

/-- THE TIED CARD OF 'waypointlaw43.FlowsCut'. -/
def flowsCutCard : Claim7 := { stood := { row := flowsCutRow, standIns := [], harness := (true, "712c1ff4c8140e5ba518835624bd16ef78ed3ab8ab12741ee5053052fe2f391f"), looks := true }, kinds := [], alts := [], laidByText := true, laidKinds := [.data, .data, .data], laidTests := true, laidLooks := .later }
def FlowsCutCardSaid : Prop := Claim7.holds Tryz.pinned (.plain (OpenSpec.ofChange flowsCutSpec)) flowsCutCard

/-- THE TIED CARD OF 'waypointlaw43.FlowsScale'. -/
def flowsScaleCard : Claim7 := { stood := { row := flowsScaleRow, standIns := [], harness := (true, "712c1ff4c8140e5ba518835624bd16ef78ed3ab8ab12741ee5053052fe2f391f"), looks := true }, kinds := [], alts := [], laidByText := true, laidKinds := [.data, .data, .data], laidTests := true, laidLooks := .later }
def FlowsScaleCardSaid : Prop := Claim7.holds Tryz.pinned (.plain (OpenSpec.ofChange flowsScaleSpec)) flowsScaleCard

/-- THE TIED CARD OF 'waypointlaw43.FlowsOrder'. -/
def flowsOrderCard : Claim7 := { stood := { row := flowsOrderRow, standIns := [], harness := (true, "712c1ff4c8140e5ba518835624bd16ef78ed3ab8ab12741ee5053052fe2f391f"), looks := true }, kinds := [], alts := [], laidByText := true, laidKinds := [.data, .data, .data], laidTests := true, laidLooks := .later }
def FlowsOrderCardSaid : Prop := Claim7.holds Tryz.pinned (.plain (OpenSpec.ofChange flowsOrderSpec)) flowsOrderCard

/-- THE TIED CARD OF 'waypointlaw43.FlowsRaise'. -/
def flowsRaiseCard : Claim7 := { stood := { row := flowsRaiseRow, standIns := [], harness := (true, "712c1ff4c8140e5ba518835624bd16ef78ed3ab8ab12741ee5053052fe2f391f"), looks := true }, kinds := [], alts := [], laidByText := true, laidKinds := [.data, .data, .data], laidTests := true, laidLooks := .later }
def FlowsRaiseCardSaid : Prop := Claim7.holds Tryz.pinned (.plain (OpenSpec.ofChange flowsRaiseSpec)) flowsRaiseCard

/-- THE TIED CARD OF 'waypointlaw43.FlowsHalf'. -/
def flowsHalfCard : Claim7 := { stood := { row := flowsHalfRow, standIns := [], harness := (true, "712c1ff4c8140e5ba518835624bd16ef78ed3ab8ab12741ee5053052fe2f391f"), looks := true }, kinds := [], alts := [], laidByText := true, laidKinds := [.data, .data, .data], laidTests := true, laidLooks := .later }
def FlowsHalfCardSaid : Prop := Claim7.holds Tryz.pinned (.plain (OpenSpec.ofChange flowsHalfSpec)) flowsHalfCard

/-- THE TIED CARD OF 'waypointlaw43.FlowsLoads'. -/
def flowsLoadsCard : Claim7 := { stood := { row := flowsLoadsRow, standIns := [], harness := (true, "712c1ff4c8140e5ba518835624bd16ef78ed3ab8ab12741ee5053052fe2f391f"), looks := true }, kinds := [], alts := [], laidByText := true, laidKinds := [.data, .data, .data], laidTests := true, laidLooks := .later }
def FlowsLoadsCardSaid : Prop := Claim7.holds Tryz.pinned (.plain (OpenSpec.ofChange flowsLoadsSpec)) flowsLoadsCard

/-- THE SECOND FORM's CARD OF 'waypointlaw43.FlowsCut'. -/
def flowsCutUptoCard : Claim7 := { stood := { row := flowsCutUptoRow, standIns := [], harness := (true, "712c1ff4c8140e5ba518835624bd16ef78ed3ab8ab12741ee5053052fe2f391f"), looks := true }, kinds := [], alts := [], laidByText := true, laidKinds := [.data, .data, .data], laidTests := true, laidLooks := .later }
def FlowsCutUptoCardSaid : Prop := Claim7.holds Tryz.pinned (.plain (OpenSpec.upto flowsCutSpec)) flowsCutUptoCard

/-- THE SECOND FORM's CARD OF 'waypointlaw43.FlowsScale'. -/
def flowsScaleUptoCard : Claim7 := { stood := { row := flowsScaleUptoRow, standIns := [], harness := (true, "712c1ff4c8140e5ba518835624bd16ef78ed3ab8ab12741ee5053052fe2f391f"), looks := true }, kinds := [], alts := [], laidByText := true, laidKinds := [.data, .data, .data], laidTests := true, laidLooks := .later }
def FlowsScaleUptoCardSaid : Prop := Claim7.holds Tryz.pinned (.plain (OpenSpec.upto flowsScaleSpec)) flowsScaleUptoCard

/-- THE SECOND FORM's CARD OF 'waypointlaw43.FlowsOrder'. -/
def flowsOrderUptoCard : Claim7 := { stood := { row := flowsOrderUptoRow, standIns := [], harness := (true, "712c1ff4c8140e5ba518835624bd16ef78ed3ab8ab12741ee5053052fe2f391f"), looks := true }, kinds := [], alts := [], laidByText := true, laidKinds := [.data, .data, .data], laidTests := true, laidLooks := .later }
def FlowsOrderUptoCardSaid : Prop := Claim7.holds Tryz.pinned (.plain (OpenSpec.upto flowsOrderSpec)) flowsOrderUptoCard

/-- THE SECOND FORM's CARD OF 'waypointlaw43.FlowsRaise'. -/
def flowsRaiseUptoCard : Claim7 := { stood := { row := flowsRaiseUptoRow, standIns := [], harness := (true, "712c1ff4c8140e5ba518835624bd16ef78ed3ab8ab12741ee5053052fe2f391f"), looks := true }, kinds := [], alts := [], laidByText := true, laidKinds := [.data, .data, .data], laidTests := true, laidLooks := .later }
def FlowsRaiseUptoCardSaid : Prop := Claim7.holds Tryz.pinned (.plain (OpenSpec.upto flowsRaiseSpec)) flowsRaiseUptoCard

/-- THE SECOND FORM's CARD OF 'waypointlaw43.FlowsHalf'. -/
def flowsHalfUptoCard : Claim7 := { stood := { row := flowsHalfUptoRow, standIns := [], harness := (true, "712c1ff4c8140e5ba518835624bd16ef78ed3ab8ab12741ee5053052fe2f391f"), looks := true }, kinds := [], alts := [], laidByText := true, laidKinds := [.data, .data, .data], laidTests := true, laidLooks := .later }
def FlowsHalfUptoCardSaid : Prop := Claim7.holds Tryz.pinned (.plain (OpenSpec.upto flowsHalfSpec)) flowsHalfUptoCard

/-- THE SECOND FORM's CARD OF 'waypointlaw43.FlowsLoads'. -/
def flowsLoadsUptoCard : Claim7 := { stood := { row := flowsLoadsUptoRow, standIns := [], harness := (true, "712c1ff4c8140e5ba518835624bd16ef78ed3ab8ab12741ee5053052fe2f391f"), looks := true }, kinds := [], alts := [], laidByText := true, laidKinds := [.data, .data, .data], laidTests := true, laidLooks := .later }
def FlowsLoadsUptoCardSaid : Prop := Claim7.holds Tryz.pinned (.plain (OpenSpec.upto flowsLoadsSpec)) flowsLoadsUptoCard
end Rows
end Go.Proofs.YthbmikapohlikaaGreatDoor
