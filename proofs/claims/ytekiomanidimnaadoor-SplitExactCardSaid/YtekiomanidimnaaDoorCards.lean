/-
  DERIVED. GIVEN WITH THE SEED: THE CARDS: each row of YtekiomanidimnaaDoorRows.lean that lists a variable, with what it lists TIED to the program's text (the seventh form; the later family's looks); each row that meets fmt, with fmt's text TOLD by the authors' own Lean function (tested against real Go, not proved from fmt's source: count such statements apart). THE CARD IS WHAT COUNTS. Prove the row's statement (the work); the ties are given (YtekiomanidimnaaDoorTie.lean); close each card by the builder's one call (the guide's Derived/Test/ToyasCard.lean, 'card_holds'). Laid BY PROGRAM, IN A SANDBOX (cutbox-door.mjs). By AI agents, Wed Nov 11 2026. No macro, syntax, notation, axiom, sorry.
-/
import Derived.Test.YtekiomanidimnaaDoorRows
import GoSem.ClaimSeven
namespace Go.Proofs.YtekiomanidimnaaDoor
namespace Rows

/-- THE TIED CARD OF 'waypointlaw46.SplitExact'. -/
def splitExactCard : Claim7 := { stood := { row := splitExactRow, standIns := [], harness := (true, "9e5a7bd1d2d38f7bc8cf0e98dbc3aed27bfbb79d35e49c8a4b85fc34f621d85a"), looks := false }, kinds := [], alts := [], laidByText := true, laidKinds := [.data, .data, .data], laidTests := true, laidLooks := .later }
def SplitExactCardSaid : Prop := Claim7.holds Tryd.pinned (.plain (OpenSpec.ofChange splitExactSpec)) splitExactCard

/-- THE SECOND FORM's CARD OF 'waypointlaw46.SplitExact'. -/
def splitExactUptoCard : Claim7 := { stood := { row := splitExactUptoRow, standIns := [], harness := (true, "9e5a7bd1d2d38f7bc8cf0e98dbc3aed27bfbb79d35e49c8a4b85fc34f621d85a"), looks := false }, kinds := [], alts := [], laidByText := true, laidKinds := [.data, .data, .data], laidTests := true, laidLooks := .later }
def SplitExactUptoCardSaid : Prop := Claim7.holds Tryd.pinned (.plain (OpenSpec.upto splitExactSpec)) splitExactUptoCard
end Rows
end Go.Proofs.YtekiomanidimnaaDoor
