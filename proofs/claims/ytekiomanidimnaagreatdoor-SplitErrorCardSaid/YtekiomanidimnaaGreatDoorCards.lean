/-
  DERIVED. GIVEN WITH THE SEED: THE CARDS: each row of YtekiomanidimnaaGreatDoorRows.lean that lists a variable, with what it lists TIED to the program's text (the seventh form; the later family's looks); each row that meets fmt, with fmt's text TOLD by the authors' own Lean function (tested against real Go, not proved from fmt's source: count such statements apart). THE CARD IS WHAT COUNTS. Prove the row's statement (the work); the ties are given (YtekiomanidimnaaGreatDoorTie.lean); close each card by the builder's one call (the guide's Derived/Test/ToyasCard.lean, 'card_holds'). Laid BY PROGRAM, IN A SANDBOX (cutbox-door.mjs). By AI agents, Wed Nov 11 2026. No macro, syntax, notation, axiom, sorry.
-/
import Derived.Test.YtekiomanidimnaaGreatDoorRows
import GoSem.ClaimSeven
namespace Go.Proofs.YtekiomanidimnaaGreatDoor
namespace Rows

/-- THE TIED CARD OF 'waypointlaw42.PricingSimple'. -/
def pricingSimpleCard : Claim7 := { stood := { row := pricingSimpleRow, standIns := [], harness := (true, "2dcbaf3df7c498e31c7e049a87c18c0943d148a67580cd3bc0c076376bf34c5b"), looks := false }, kinds := [], alts := [], laidByText := true, laidKinds := [.data, .data, .data], laidTests := true, laidLooks := .later }
def PricingSimpleCardSaid : Prop := Claim7.holds Tryz.pinned (.plain (OpenSpec.ofChange pricingSimpleSpec)) pricingSimpleCard

/-- THE TIED CARD OF 'waypointlaw42.PricingCheapest'. -/
def pricingCheapestCard : Claim7 := { stood := { row := pricingCheapestRow, standIns := [], harness := (true, "2dcbaf3df7c498e31c7e049a87c18c0943d148a67580cd3bc0c076376bf34c5b"), looks := false }, kinds := [], alts := [], laidByText := true, laidKinds := [.data, .data, .data], laidTests := true, laidLooks := .later }
def PricingCheapestCardSaid : Prop := Claim7.holds Tryz.pinned (.plain (OpenSpec.ofChange pricingCheapestSpec)) pricingCheapestCard

/-- THE TIED CARD OF 'waypointlaw42.PricingScale'. -/
def pricingScaleCard : Claim7 := { stood := { row := pricingScaleRow, standIns := [], harness := (true, "2dcbaf3df7c498e31c7e049a87c18c0943d148a67580cd3bc0c076376bf34c5b"), looks := false }, kinds := [], alts := [], laidByText := true, laidKinds := [.data, .data, .data], laidTests := true, laidLooks := .later }
def PricingScaleCardSaid : Prop := Claim7.holds Tryz.pinned (.plain (OpenSpec.ofChange pricingScaleSpec)) pricingScaleCard

/-- THE TIED CARD OF 'waypointlaw42.PricingPrice'. -/
def pricingPriceCard : Claim7 := { stood := { row := pricingPriceRow, standIns := [], harness := (true, "2dcbaf3df7c498e31c7e049a87c18c0943d148a67580cd3bc0c076376bf34c5b"), looks := false }, kinds := [], alts := [], laidByText := true, laidKinds := [.data, .data, .data], laidTests := true, laidLooks := .later }
def PricingPriceCardSaid : Prop := Claim7.holds Tryz.pinned (.plain (OpenSpec.ofChange pricingPriceSpec)) pricingPriceCard

/-- THE TIED CARD OF 'waypointlaw42.PricingConsistent'. -/
def pricingConsistentCard : Claim7 := { stood := { row := pricingConsistentRow, standIns := [], harness := (true, "2dcbaf3df7c498e31c7e049a87c18c0943d148a67580cd3bc0c076376bf34c5b"), looks := false }, kinds := [], alts := [], laidByText := true, laidKinds := [.data, .data, .data], laidTests := true, laidLooks := .later }
def PricingConsistentCardSaid : Prop := Claim7.holds Tryz.pinned (.plain (OpenSpec.ofChange pricingConsistentSpec)) pricingConsistentCard

/-- THE TIED CARD OF 'waypointlaw42.PricingDist'. -/
def pricingDistCard : Claim7 := { stood := { row := pricingDistRow, standIns := [], harness := (true, "2dcbaf3df7c498e31c7e049a87c18c0943d148a67580cd3bc0c076376bf34c5b"), looks := false }, kinds := [], alts := [], laidByText := true, laidKinds := [.data, .data, .data], laidTests := true, laidLooks := .later }
def PricingDistCardSaid : Prop := Claim7.holds Tryz.pinned (.plain (OpenSpec.ofChange pricingDistSpec)) pricingDistCard

/-- THE TIED CARD OF 'waypointlaw46.SplitRound'. -/
def splitRoundCard : Claim7 := { stood := { row := splitRoundRow, standIns := [], harness := (true, "2dcbaf3df7c498e31c7e049a87c18c0943d148a67580cd3bc0c076376bf34c5b"), looks := false }, kinds := [], alts := [], laidByText := true, laidKinds := [.data, .data, .data], laidTests := true, laidLooks := .later }
def SplitRoundCardSaid : Prop := Claim7.holds Tryz.pinned (.plain (OpenSpec.ofChange splitRoundSpec)) splitRoundCard

/-- THE TIED CARD OF 'waypointlaw46.SplitKeep'. -/
def splitKeepCard : Claim7 := { stood := { row := splitKeepRow, standIns := [], harness := (true, "2dcbaf3df7c498e31c7e049a87c18c0943d148a67580cd3bc0c076376bf34c5b"), looks := false }, kinds := [], alts := [], laidByText := true, laidKinds := [.data, .data, .data], laidTests := true, laidLooks := .later }
def SplitKeepCardSaid : Prop := Claim7.holds Tryz.pinned (.plain (OpenSpec.ofChange splitKeepSpec)) splitKeepCard

/-- THE TIED CARD OF 'waypointlaw46.SplitError'. -/
def splitErrorCard : Claim7 := { stood := { row := splitErrorRow, standIns := [], harness := (true, "2dcbaf3df7c498e31c7e049a87c18c0943d148a67580cd3bc0c076376bf34c5b"), looks := false }, kinds := [], alts := [], laidByText := true, laidKinds := [.data, .data, .data], laidTests := true, laidLooks := .later }
def SplitErrorCardSaid : Prop := Claim7.holds Tryz.pinned (.plain (OpenSpec.ofChange splitErrorSpec)) splitErrorCard

/-- THE TIED CARD OF 'waypointlaw46.SplitBound'. -/
def splitBoundCard : Claim7 := { stood := { row := splitBoundRow, standIns := [], harness := (true, "2dcbaf3df7c498e31c7e049a87c18c0943d148a67580cd3bc0c076376bf34c5b"), looks := false }, kinds := [], alts := [], laidByText := true, laidKinds := [.data, .data, .data], laidTests := true, laidLooks := .later }
def SplitBoundCardSaid : Prop := Claim7.holds Tryz.pinned (.plain (OpenSpec.ofChange splitBoundSpec)) splitBoundCard

/-- THE TIED CARD OF 'waypointlaw42.PricingProof'. -/
def pricingProofCard : Claim7 := { stood := { row := pricingProofRow, standIns := [], harness := (true, "2dcbaf3df7c498e31c7e049a87c18c0943d148a67580cd3bc0c076376bf34c5b"), looks := false }, kinds := [], alts := [], laidByText := true, laidKinds := [.data, .data, .data], laidTests := true, laidLooks := .later }
def PricingProofCardSaid : Prop := Claim7.holds Tryz.pinned (.plain (OpenSpec.ofChange pricingProofSpec)) pricingProofCard

/-- THE SECOND FORM's CARD OF 'waypointlaw42.PricingSimple'. -/
def pricingSimpleUptoCard : Claim7 := { stood := { row := pricingSimpleUptoRow, standIns := [], harness := (true, "2dcbaf3df7c498e31c7e049a87c18c0943d148a67580cd3bc0c076376bf34c5b"), looks := false }, kinds := [], alts := [], laidByText := true, laidKinds := [.data, .data, .data], laidTests := true, laidLooks := .later }
def PricingSimpleUptoCardSaid : Prop := Claim7.holds Tryz.pinned (.plain (OpenSpec.upto pricingSimpleSpec)) pricingSimpleUptoCard

/-- THE SECOND FORM's CARD OF 'waypointlaw42.PricingCheapest'. -/
def pricingCheapestUptoCard : Claim7 := { stood := { row := pricingCheapestUptoRow, standIns := [], harness := (true, "2dcbaf3df7c498e31c7e049a87c18c0943d148a67580cd3bc0c076376bf34c5b"), looks := false }, kinds := [], alts := [], laidByText := true, laidKinds := [.data, .data, .data], laidTests := true, laidLooks := .later }
def PricingCheapestUptoCardSaid : Prop := Claim7.holds Tryz.pinned (.plain (OpenSpec.upto pricingCheapestSpec)) pricingCheapestUptoCard

/-- THE SECOND FORM's CARD OF 'waypointlaw42.PricingScale'. -/
def pricingScaleUptoCard : Claim7 := { stood := { row := pricingScaleUptoRow, standIns := [], harness := (true, "2dcbaf3df7c498e31c7e049a87c18c0943d148a67580cd3bc0c076376bf34c5b"), looks := false }, kinds := [], alts := [], laidByText := true, laidKinds := [.data, .data, .data], laidTests := true, laidLooks := .later }
def PricingScaleUptoCardSaid : Prop := Claim7.holds Tryz.pinned (.plain (OpenSpec.upto pricingScaleSpec)) pricingScaleUptoCard

/-- THE SECOND FORM's CARD OF 'waypointlaw42.PricingPrice'. -/
def pricingPriceUptoCard : Claim7 := { stood := { row := pricingPriceUptoRow, standIns := [], harness := (true, "2dcbaf3df7c498e31c7e049a87c18c0943d148a67580cd3bc0c076376bf34c5b"), looks := false }, kinds := [], alts := [], laidByText := true, laidKinds := [.data, .data, .data], laidTests := true, laidLooks := .later }
def PricingPriceUptoCardSaid : Prop := Claim7.holds Tryz.pinned (.plain (OpenSpec.upto pricingPriceSpec)) pricingPriceUptoCard

/-- THE SECOND FORM's CARD OF 'waypointlaw42.PricingConsistent'. -/
def pricingConsistentUptoCard : Claim7 := { stood := { row := pricingConsistentUptoRow, standIns := [], harness := (true, "2dcbaf3df7c498e31c7e049a87c18c0943d148a67580cd3bc0c076376bf34c5b"), looks := false }, kinds := [], alts := [], laidByText := true, laidKinds := [.data, .data, .data], laidTests := true, laidLooks := .later }
def PricingConsistentUptoCardSaid : Prop := Claim7.holds Tryz.pinned (.plain (OpenSpec.upto pricingConsistentSpec)) pricingConsistentUptoCard

/-- THE SECOND FORM's CARD OF 'waypointlaw42.PricingDist'. -/
def pricingDistUptoCard : Claim7 := { stood := { row := pricingDistUptoRow, standIns := [], harness := (true, "2dcbaf3df7c498e31c7e049a87c18c0943d148a67580cd3bc0c076376bf34c5b"), looks := false }, kinds := [], alts := [], laidByText := true, laidKinds := [.data, .data, .data], laidTests := true, laidLooks := .later }
def PricingDistUptoCardSaid : Prop := Claim7.holds Tryz.pinned (.plain (OpenSpec.upto pricingDistSpec)) pricingDistUptoCard

/-- THE SECOND FORM's CARD OF 'waypointlaw46.SplitRound'. -/
def splitRoundUptoCard : Claim7 := { stood := { row := splitRoundUptoRow, standIns := [], harness := (true, "2dcbaf3df7c498e31c7e049a87c18c0943d148a67580cd3bc0c076376bf34c5b"), looks := false }, kinds := [], alts := [], laidByText := true, laidKinds := [.data, .data, .data], laidTests := true, laidLooks := .later }
def SplitRoundUptoCardSaid : Prop := Claim7.holds Tryz.pinned (.plain (OpenSpec.upto splitRoundSpec)) splitRoundUptoCard

/-- THE SECOND FORM's CARD OF 'waypointlaw46.SplitKeep'. -/
def splitKeepUptoCard : Claim7 := { stood := { row := splitKeepUptoRow, standIns := [], harness := (true, "2dcbaf3df7c498e31c7e049a87c18c0943d148a67580cd3bc0c076376bf34c5b"), looks := false }, kinds := [], alts := [], laidByText := true, laidKinds := [.data, .data, .data], laidTests := true, laidLooks := .later }
def SplitKeepUptoCardSaid : Prop := Claim7.holds Tryz.pinned (.plain (OpenSpec.upto splitKeepSpec)) splitKeepUptoCard

/-- THE SECOND FORM's CARD OF 'waypointlaw46.SplitError'. -/
def splitErrorUptoCard : Claim7 := { stood := { row := splitErrorUptoRow, standIns := [], harness := (true, "2dcbaf3df7c498e31c7e049a87c18c0943d148a67580cd3bc0c076376bf34c5b"), looks := false }, kinds := [], alts := [], laidByText := true, laidKinds := [.data, .data, .data], laidTests := true, laidLooks := .later }
def SplitErrorUptoCardSaid : Prop := Claim7.holds Tryz.pinned (.plain (OpenSpec.upto splitErrorSpec)) splitErrorUptoCard

/-- THE SECOND FORM's CARD OF 'waypointlaw46.SplitBound'. -/
def splitBoundUptoCard : Claim7 := { stood := { row := splitBoundUptoRow, standIns := [], harness := (true, "2dcbaf3df7c498e31c7e049a87c18c0943d148a67580cd3bc0c076376bf34c5b"), looks := false }, kinds := [], alts := [], laidByText := true, laidKinds := [.data, .data, .data], laidTests := true, laidLooks := .later }
def SplitBoundUptoCardSaid : Prop := Claim7.holds Tryz.pinned (.plain (OpenSpec.upto splitBoundSpec)) splitBoundUptoCard

/-- THE SECOND FORM's CARD OF 'waypointlaw42.PricingProof'. -/
def pricingProofUptoCard : Claim7 := { stood := { row := pricingProofUptoRow, standIns := [], harness := (true, "2dcbaf3df7c498e31c7e049a87c18c0943d148a67580cd3bc0c076376bf34c5b"), looks := false }, kinds := [], alts := [], laidByText := true, laidKinds := [.data, .data, .data], laidTests := true, laidLooks := .later }
def PricingProofUptoCardSaid : Prop := Claim7.holds Tryz.pinned (.plain (OpenSpec.upto pricingProofSpec)) pricingProofUptoCard
end Rows
end Go.Proofs.YtekiomanidimnaaGreatDoor
