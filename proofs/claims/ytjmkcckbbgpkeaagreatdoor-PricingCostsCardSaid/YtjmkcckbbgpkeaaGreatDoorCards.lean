/-
  DERIVED. GIVEN WITH THE SEED: THE CARDS: each row of YtjmkcckbbgpkeaaGreatDoorRows.lean that lists a variable, with what it lists TIED to the program's text (the seventh form; the later family's looks); each row that meets fmt, with fmt's text TOLD by the authors' own Lean function (tested against real Go, not proved from fmt's source: count such statements apart). THE CARD IS WHAT COUNTS. Prove the row's statement (the work); the ties are given (YtjmkcckbbgpkeaaGreatDoorTie.lean); close each card by the builder's one call (the guide's Derived/Test/ToyasCard.lean, 'card_holds'). Laid BY PROGRAM, IN A SANDBOX (cutbox-door.mjs). By AI agents, Wed Nov 11 2026. No macro, syntax, notation, axiom, sorry.
-/
import Derived.Test.YtjmkcckbbgpkeaaGreatDoorRows
import GoSem.ClaimSeven
namespace Go.Proofs.YtjmkcckbbgpkeaaGreatDoor
namespace Rows

/-- THE TIED CARD OF 'waypointlaw42.PricingCosts'. -/
def pricingCostsCard : Claim7 := { stood := { row := pricingCostsRow, standIns := [], harness := (true, "cc593c3766046ebd03a050af94d9ee3e7feaa018c8eabe8950ab6bf89e31c8bb"), looks := true }, kinds := [], alts := [], laidByText := true, laidKinds := [.data, .data, .data], laidTests := true, laidLooks := .later }
def PricingCostsCardSaid : Prop := Claim7.holds Tryz.pinned (.plain (OpenSpec.ofChange pricingCostsSpec)) pricingCostsCard

/-- THE SECOND FORM's CARD OF 'waypointlaw42.PricingCosts'. -/
def pricingCostsUptoCard : Claim7 := { stood := { row := pricingCostsUptoRow, standIns := [], harness := (true, "cc593c3766046ebd03a050af94d9ee3e7feaa018c8eabe8950ab6bf89e31c8bb"), looks := true }, kinds := [], alts := [], laidByText := true, laidKinds := [.data, .data, .data], laidTests := true, laidLooks := .later }
def PricingCostsUptoCardSaid : Prop := Claim7.holds Tryz.pinned (.plain (OpenSpec.upto pricingCostsSpec)) pricingCostsUptoCard
end Rows
end Go.Proofs.YtjmkcckbbgpkeaaGreatDoor
