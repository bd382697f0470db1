/-
  NARROWER THAN 'FOR EVERY INPUT', by the rows' own cells (each row's printed sentence says how): PricingSimple: laid · PricingCheapest: laid · PricingScale: laid · PricingPrice: laid · PricingConsistent: laid · PricingDist: laid · SplitRound: laid · SplitKeep: laid · SplitError: laid · SplitBound: laid · PricingProof: laid.
  DERIVED. THE GIVEN ROWS OF THIS SEAT. 11 by the template 'for every input the law returns true; each argument reads behind the call as it read before'; 0 by the template 'total and deterministic' (their statements: YtekiomanidimnaaGreatDoorTotals.lean).
  GIVEN WITH THE SEED: the statements are not yours to turn. If you find one false, say at which input.
  Laid BY PROGRAM, IN A SANDBOX (cutbox-rows.mjs): the forced cells as the released guide's own fill.sh prints them over the translation 6558a744b4b7177f… (all of the seat's roots in one cut). By AI agents, Wed Nov 11 2026. No macro, syntax, notation, axiom, sorry.
-/
import Derived.Test.YtekiomanidimnaaGreatDoorChecked
import GoSem.Claim
import GoSem.ClaimJoined
import GoSem.ClaimMapViews
import Derived.JoinedTies
import Derived.KernelRfl
namespace Go.Proofs.YtekiomanidimnaaGreatDoor
/- THE CELL 'sum', in the pinned program and in every row, IS THE sha256 OF THE DUMP (.gsa) THAT YtekiomanidimnaaGreatDoorProg.lean LOADS. Nothing in Lean hashes anything: it is a label: what it is worth is what the hold of that sum in a sandbox is worth. -/
noncomputable def Tryz.pinned : Pinned := { name := "ytekiomanidimnaagreatdoor", sum := "6558a744b4b7177ff820208606edafeef7369b3bc737f79bd0f4309c65c4068f", checked := Tryz.checked }
namespace Rows
def none {H : Type} : Left H := { results := [], args := [] }

/- WHAT THE LISTED PACKAGE-LEVEL VARIABLES READ AS WHEN THE CALL BEGINS. Each datum BY PROGRAM (the guide's laid-datum.mjs) off the statement by which the dump's own 'gosem.cut.vars' lays the variable. In a bare row this is a premise. The card (YtekiomanidimnaaGreatDoorCards.lean) ties it to the program's text. -/
def laid_math_bits_deBruijn32tab {H : Type} : DataW H := .agg [.lit (.int .u8 0), .lit (.int .u8 1), .lit (.int .u8 28), .lit (.int .u8 2), .lit (.int .u8 29), .lit (.int .u8 14), .lit (.int .u8 24), .lit (.int .u8 3), .lit (.int .u8 30), .lit (.int .u8 22), .lit (.int .u8 20), .lit (.int .u8 15), .lit (.int .u8 25), .lit (.int .u8 17), .lit (.int .u8 4), .lit (.int .u8 8), .lit (.int .u8 31), .lit (.int .u8 27), .lit (.int .u8 13), .lit (.int .u8 23), .lit (.int .u8 21), .lit (.int .u8 19), .lit (.int .u8 16), .lit (.int .u8 7), .lit (.int .u8 26), .lit (.int .u8 12), .lit (.int .u8 18), .lit (.int .u8 6), .lit (.int .u8 11), .lit (.int .u8 5), .lit (.int .u8 10), .lit (.int .u8 9)]
def laid_math_bits_deBruijn64tab {H : Type} : DataW H := .agg [.lit (.int .u8 0), .lit (.int .u8 1), .lit (.int .u8 56), .lit (.int .u8 2), .lit (.int .u8 57), .lit (.int .u8 49), .lit (.int .u8 28), .lit (.int .u8 3), .lit (.int .u8 61), .lit (.int .u8 58), .lit (.int .u8 42), .lit (.int .u8 50), .lit (.int .u8 38), .lit (.int .u8 29), .lit (.int .u8 17), .lit (.int .u8 4), .lit (.int .u8 62), .lit (.int .u8 47), .lit (.int .u8 59), .lit (.int .u8 36), .lit (.int .u8 45), .lit (.int .u8 43), .lit (.int .u8 51), .lit (.int .u8 22), .lit (.int .u8 53), .lit (.int .u8 39), .lit (.int .u8 33), .lit (.int .u8 30), .lit (.int .u8 24), .lit (.int .u8 18), .lit (.int .u8 12), .lit (.int .u8 5), .lit (.int .u8 63), .lit (.int .u8 55), .lit (.int .u8 48), .lit (.int .u8 27), .lit (.int .u8 60), .lit (.int .u8 41), .lit (.int .u8 37), .lit (.int .u8 16), .lit (.int .u8 46), .lit (.int .u8 35), .lit (.int .u8 44), .lit (.int .u8 21), .lit (.int .u8 52), .lit (.int .u8 32), .lit (.int .u8 23), .lit (.int .u8 11), .lit (.int .u8 54), .lit (.int .u8 26), .lit (.int .u8 40), .lit (.int .u8 15), .lit (.int .u8 34), .lit (.int .u8 20), .lit (.int .u8 31), .lit (.int .u8 10), .lit (.int .u8 25), .lit (.int .u8 14), .lit (.int .u8 19), .lit (.int .u8 9), .lit (.int .u8 13), .lit (.int .u8 8), .lit (.int .u8 7), .lit (.int .u8 6)]
def laid_internal_strconv_uint64pow10 {H : Type} : DataW H := .agg [.lit (.int .u64 1), .lit (.int .u64 10), .lit (.int .u64 100), .lit (.int .u64 1000), .lit (.int .u64 10000), .lit (.int .u64 100000), .lit (.int .u64 1000000), .lit (.int .u64 10000000), .lit (.int .u64 100000000), .lit (.int .u64 1000000000), .lit (.int .u64 10000000000), .lit (.int .u64 100000000000), .lit (.int .u64 1000000000000), .lit (.int .u64 10000000000000), .lit (.int .u64 100000000000000), .lit (.int .u64 1000000000000000), .lit (.int .u64 10000000000000000), .lit (.int .u64 100000000000000000), .lit (.int .u64 1000000000000000000), .lit (.int .u64 10000000000000000000)]

/-- 'waypointlaw42.PricingSimple': WHATEVER THE INPUT: true; the input reads as it did. -/
def pricingSimpleSpec : ChangeSpec := { name := "pricingSimple", fn := fun _ => fun
  | [d1, d2, d3] => { results := [.lit (.bool true)], args := [d1, d2, d3] }
  | _ => none }
def pricingSimpleRow : OpenClaim := { program := "ytekiomanidimnaagreatdoor", sum := "6558a744b4b7177ff820208606edafeef7369b3bc737f79bd0f4309c65c4068f", func := "waypoint/waypointlaw42.PricingSimple", spec := "pricingSimple", inPlace := ["internal/abi.NoEscape", "internal/bytealg.MakeNoZero"], unfollowed := true, recurses := true, named := ["math/bits.overflowError", "internal/strconv.uint64pow10", "math/bits.deBruijn32tab", "math/bits.deBruijn64tab"], apart := false, laid := [("math/bits.deBruijn32tab", laid_math_bits_deBruijn32tab), ("math/bits.deBruijn64tab", laid_math_bits_deBruijn64tab), ("internal/strconv.uint64pow10", laid_internal_strconv_uint64pow10)] }
def PricingSimpleSaid : Prop := pricingSimpleRow.holds Tryz.pinned (OpenSpec.ofChange pricingSimpleSpec)

/-- ITS FALSE NEIGHBOUR: 'it returns false'. Refute it at one input. -/
def pricingSimpleWrong : ChangeSpec := { name := "pricingSimple", fn := fun _ => fun
  | [d1, d2, d3] => { results := [.lit (.bool false)], args := [d1, d2, d3] }
  | _ => none }
def PricingSimpleWrongFalsely : Prop := pricingSimpleRow.holds Tryz.pinned (OpenSpec.ofChange pricingSimpleWrong)

/-- 'waypointlaw42.PricingCheapest': WHATEVER THE INPUT: true; the input reads as it did. -/
def pricingCheapestSpec : ChangeSpec := { name := "pricingCheapest", fn := fun _ => fun
  | [d1, d2] => { results := [.lit (.bool true)], args := [d1, d2] }
  | _ => none }
def pricingCheapestRow : OpenClaim := { program := "ytekiomanidimnaagreatdoor", sum := "6558a744b4b7177ff820208606edafeef7369b3bc737f79bd0f4309c65c4068f", func := "waypoint/waypointlaw42.PricingCheapest", spec := "pricingCheapest", inPlace := ["internal/abi.NoEscape", "internal/bytealg.MakeNoZero", "internal/bytealg.IndexByteString", "internal/bytealg.IndexString"], unfollowed := true, recurses := true, named := ["math/bits.overflowError", "internal/strconv.uint64pow10", "math/bits.deBruijn32tab", "math/bits.deBruijn64tab", "internal/bytealg.MaxLen"], apart := false, laid := [("math/bits.deBruijn32tab", laid_math_bits_deBruijn32tab), ("math/bits.deBruijn64tab", laid_math_bits_deBruijn64tab), ("internal/strconv.uint64pow10", laid_internal_strconv_uint64pow10)] }
def PricingCheapestSaid : Prop := pricingCheapestRow.holds Tryz.pinned (OpenSpec.ofChange pricingCheapestSpec)

/-- ITS FALSE NEIGHBOUR: 'it returns false'. Refute it at one input. -/
def pricingCheapestWrong : ChangeSpec := { name := "pricingCheapest", fn := fun _ => fun
  | [d1, d2] => { results := [.lit (.bool false)], args := [d1, d2] }
  | _ => none }
def PricingCheapestWrongFalsely : Prop := pricingCheapestRow.holds Tryz.pinned (OpenSpec.ofChange pricingCheapestWrong)

/-- 'waypointlaw42.PricingScale': WHATEVER THE INPUT: true; the input reads as it did. -/
def pricingScaleSpec : ChangeSpec := { name := "pricingScale", fn := fun _ => fun
  | [d1, d2, d3] => { results := [.lit (.bool true)], args := [d1, d2, d3] }
  | _ => none }
def pricingScaleRow : OpenClaim := { program := "ytekiomanidimnaagreatdoor", sum := "6558a744b4b7177ff820208606edafeef7369b3bc737f79bd0f4309c65c4068f", func := "waypoint/waypointlaw42.PricingScale", spec := "pricingScale", inPlace := ["internal/abi.NoEscape", "internal/bytealg.MakeNoZero", "internal/bytealg.IndexByteString", "internal/bytealg.IndexString"], unfollowed := true, recurses := true, named := ["math/bits.overflowError", "internal/strconv.uint64pow10", "math/bits.deBruijn32tab", "math/bits.deBruijn64tab", "internal/bytealg.MaxLen"], apart := false, laid := [("math/bits.deBruijn32tab", laid_math_bits_deBruijn32tab), ("math/bits.deBruijn64tab", laid_math_bits_deBruijn64tab), ("internal/strconv.uint64pow10", laid_internal_strconv_uint64pow10)] }
def PricingScaleSaid : Prop := pricingScaleRow.holds Tryz.pinned (OpenSpec.ofChange pricingScaleSpec)

/-- ITS FALSE NEIGHBOUR: 'it returns false'. Refute it at one input. -/
def pricingScaleWrong : ChangeSpec := { name := "pricingScale", fn := fun _ => fun
  | [d1, d2, d3] => { results := [.lit (.bool false)], args := [d1, d2, d3] }
  | _ => none }
def PricingScaleWrongFalsely : Prop := pricingScaleRow.holds Tryz.pinned (OpenSpec.ofChange pricingScaleWrong)

/-- 'waypointlaw42.PricingPrice': WHATEVER THE INPUT: true; the input reads as it did. -/
def pricingPriceSpec : ChangeSpec := { name := "pricingPrice", fn := fun _ => fun
  | [d1, d2] => { results := [.lit (.bool true)], args := [d1, d2] }
  | _ => none }
def pricingPriceRow : OpenClaim := { program := "ytekiomanidimnaagreatdoor", sum := "6558a744b4b7177ff820208606edafeef7369b3bc737f79bd0f4309c65c4068f", func := "waypoint/waypointlaw42.PricingPrice", spec := "pricingPrice", inPlace := ["internal/abi.NoEscape", "internal/bytealg.MakeNoZero", "internal/bytealg.IndexByteString", "internal/bytealg.IndexString"], unfollowed := true, recurses := true, named := ["math/bits.overflowError", "internal/strconv.uint64pow10", "math/bits.deBruijn32tab", "math/bits.deBruijn64tab", "internal/bytealg.MaxLen"], apart := false, laid := [("math/bits.deBruijn32tab", laid_math_bits_deBruijn32tab), ("math/bits.deBruijn64tab", laid_math_bits_deBruijn64tab), ("internal/strconv.uint64pow10", laid_internal_strconv_uint64pow10)] }
def PricingPriceSaid : Prop := pricingPriceRow.holds Tryz.pinned (OpenSpec.ofChange pricingPriceSpec)

/-- ITS FALSE NEIGHBOUR: 'it returns false'. Refute it at one input. -/
def pricingPriceWrong : ChangeSpec := { name := "pricingPrice", fn := fun _ => fun
  | [d1, d2] => { results := [.lit (.bool false)], args := [d1, d2] }
  | _ => none }
def PricingPriceWrongFalsely : Prop := pricingPriceRow.holds Tryz.pinned (OpenSpec.ofChange pricingPriceWrong)

/-- 'waypointlaw42.PricingConsistent': WHATEVER THE INPUT: true; the input reads as it did. -/
def pricingConsistentSpec : ChangeSpec := { name := "pricingConsistent", fn := fun _ => fun
  | [d1, d2, d3] => { results := [.lit (.bool true)], args := [d1, d2, d3] }
  | _ => none }
def pricingConsistentRow : OpenClaim := { program := "ytekiomanidimnaagreatdoor", sum := "6558a744b4b7177ff820208606edafeef7369b3bc737f79bd0f4309c65c4068f", func := "waypoint/waypointlaw42.PricingConsistent", spec := "pricingConsistent", inPlace := ["internal/abi.NoEscape", "internal/bytealg.MakeNoZero", "internal/bytealg.IndexByteString", "internal/bytealg.IndexString"], unfollowed := true, recurses := true, named := ["math/bits.overflowError", "internal/strconv.uint64pow10", "math/bits.deBruijn32tab", "math/bits.deBruijn64tab", "internal/bytealg.MaxLen"], apart := false, laid := [("math/bits.deBruijn32tab", laid_math_bits_deBruijn32tab), ("math/bits.deBruijn64tab", laid_math_bits_deBruijn64tab), ("internal/strconv.uint64pow10", laid_internal_strconv_uint64pow10)] }
def PricingConsistentSaid : Prop := pricingConsistentRow.holds Tryz.pinned (OpenSpec.ofChange pricingConsistentSpec)

/-- ITS FALSE NEIGHBOUR: 'it returns false'. Refute it at one input. -/
def pricingConsistentWrong : ChangeSpec := { name := "pricingConsistent", fn := fun _ => fun
  | [d1, d2, d3] => { results := [.lit (.bool false)], args := [d1, d2, d3] }
  | _ => none }
def PricingConsistentWrongFalsely : Prop := pricingConsistentRow.holds Tryz.pinned (OpenSpec.ofChange pricingConsistentWrong)

/-- 'waypointlaw42.PricingDist': WHATEVER THE INPUT: true; the input reads as it did. -/
def pricingDistSpec : ChangeSpec := { name := "pricingDist", fn := fun _ => fun
  | [d1, d2] => { results := [.lit (.bool true)], args := [d1, d2] }
  | _ => none }
def pricingDistRow : OpenClaim := { program := "ytekiomanidimnaagreatdoor", sum := "6558a744b4b7177ff820208606edafeef7369b3bc737f79bd0f4309c65c4068f", func := "waypoint/waypointlaw42.PricingDist", spec := "pricingDist", inPlace := ["internal/abi.NoEscape", "internal/bytealg.MakeNoZero", "internal/bytealg.IndexByteString", "internal/bytealg.IndexString"], unfollowed := true, recurses := true, named := ["math/bits.overflowError", "internal/strconv.uint64pow10", "math/bits.deBruijn32tab", "math/bits.deBruijn64tab", "internal/bytealg.MaxLen"], apart := false, laid := [("math/bits.deBruijn32tab", laid_math_bits_deBruijn32tab), ("math/bits.deBruijn64tab", laid_math_bits_deBruijn64tab), ("internal/strconv.uint64pow10", laid_internal_strconv_uint64pow10)] }
def PricingDistSaid : Prop := pricingDistRow.holds Tryz.pinned (OpenSpec.ofChange pricingDistSpec)

/-- ITS FALSE NEIGHBOUR: 'it returns false'. Refute it at one input. -/
def pricingDistWrong : ChangeSpec := { name := "pricingDist", fn := fun _ => fun
  | [d1, d2] => { results := [.lit (.bool false)], args := [d1, d2] }
  | _ => none }
def PricingDistWrongFalsely : Prop := pricingDistRow.holds Tryz.pinned (OpenSpec.ofChange pricingDistWrong)

/-- 'waypointlaw46.SplitRound': WHATEVER THE INPUT: true; the input reads as it did. -/
def splitRoundSpec : ChangeSpec := { name := "splitRound", fn := fun _ => fun
  | [d1, d2] => { results := [.lit (.bool true)], args := [d1, d2] }
  | _ => none }
def splitRoundRow : OpenClaim := { program := "ytekiomanidimnaagreatdoor", sum := "6558a744b4b7177ff820208606edafeef7369b3bc737f79bd0f4309c65c4068f", func := "waypoint/waypointlaw46.SplitRound", spec := "splitRound", inPlace := ["internal/abi.NoEscape", "internal/bytealg.MakeNoZero", "internal/bytealg.IndexByteString", "internal/bytealg.IndexString"], unfollowed := true, recurses := true, named := ["math/bits.overflowError", "internal/strconv.uint64pow10", "math/bits.deBruijn32tab", "math/bits.deBruijn64tab", "internal/bytealg.MaxLen"], apart := false, laid := [("math/bits.deBruijn32tab", laid_math_bits_deBruijn32tab), ("math/bits.deBruijn64tab", laid_math_bits_deBruijn64tab), ("internal/strconv.uint64pow10", laid_internal_strconv_uint64pow10)] }
def SplitRoundSaid : Prop := splitRoundRow.holds Tryz.pinned (OpenSpec.ofChange splitRoundSpec)

/-- ITS FALSE NEIGHBOUR: 'it returns false'. Refute it at one input. -/
def splitRoundWrong : ChangeSpec := { name := "splitRound", fn := fun _ => fun
  | [d1, d2] => { results := [.lit (.bool false)], args := [d1, d2] }
  | _ => none }
def SplitRoundWrongFalsely : Prop := splitRoundRow.holds Tryz.pinned (OpenSpec.ofChange splitRoundWrong)

/-- 'waypointlaw46.SplitKeep': WHATEVER THE INPUT: true; the input reads as it did. -/
def splitKeepSpec : ChangeSpec := { name := "splitKeep", fn := fun _ => fun
  | [d1, d2] => { results := [.lit (.bool true)], args := [d1, d2] }
  | _ => none }
def splitKeepRow : OpenClaim := { program := "ytekiomanidimnaagreatdoor", sum := "6558a744b4b7177ff820208606edafeef7369b3bc737f79bd0f4309c65c4068f", func := "waypoint/waypointlaw46.SplitKeep", spec := "splitKeep", inPlace := ["internal/abi.NoEscape", "internal/bytealg.MakeNoZero", "internal/bytealg.IndexByteString", "internal/bytealg.IndexString"], unfollowed := true, recurses := true, named := ["math/bits.overflowError", "internal/strconv.uint64pow10", "math/bits.deBruijn32tab", "math/bits.deBruijn64tab", "internal/bytealg.MaxLen"], apart := false, laid := [("math/bits.deBruijn32tab", laid_math_bits_deBruijn32tab), ("math/bits.deBruijn64tab", laid_math_bits_deBruijn64tab), ("internal/strconv.uint64pow10", laid_internal_strconv_uint64pow10)] }
def SplitKeepSaid : Prop := splitKeepRow.holds Tryz.pinned (OpenSpec.ofChange splitKeepSpec)

/-- ITS FALSE NEIGHBOUR: 'it returns false'. Refute it at one input. -/
def splitKeepWrong : ChangeSpec := { name := "splitKeep", fn := fun _ => fun
  | [d1, d2] => { results := [.lit (.bool false)], args := [d1, d2] }
  | _ => none }
def SplitKeepWrongFalsely : Prop := splitKeepRow.holds Tryz.pinned (OpenSpec.ofChange splitKeepWrong)

/-- 'waypointlaw46.SplitError': WHATEVER THE INPUT: true; the input reads as it did. -/
def splitErrorSpec : ChangeSpec := { name := "splitError", fn := fun _ => fun
  | [d1, d2] => { results := [.lit (.bool true)], args := [d1, d2] }
  | _ => none }
def splitErrorRow : OpenClaim := { program := "ytekiomanidimnaagreatdoor", sum := "6558a744b4b7177ff820208606edafeef7369b3bc737f79bd0f4309c65c4068f", func := "waypoint/waypointlaw46.SplitError", spec := "splitError", inPlace := ["internal/abi.NoEscape", "internal/bytealg.MakeNoZero", "internal/bytealg.IndexByteString", "internal/bytealg.IndexString"], unfollowed := true, recurses := true, named := ["math/bits.overflowError", "internal/strconv.uint64pow10", "math/bits.deBruijn32tab", "math/bits.deBruijn64tab", "internal/bytealg.MaxLen"], apart := false, laid := [("math/bits.deBruijn32tab", laid_math_bits_deBruijn32tab), ("math/bits.deBruijn64tab", laid_math_bits_deBruijn64tab), ("internal/strconv.uint64pow10", laid_internal_strconv_uint64pow10)] }
def SplitErrorSaid : Prop := splitErrorRow.holds Tryz.pinned (OpenSpec.ofChange splitErrorSpec)

/-- ITS FALSE NEIGHBOUR: 'it returns false'. Refute it at one input. -/
def splitErrorWrong : ChangeSpec := { name := "splitError", fn := fun _ => fun
  | [d1, d2] => { results := [.lit (.bool false)], args := [d1, d2] }
  | _ => none }
def SplitErrorWrongFalsely : Prop := splitErrorRow.holds Tryz.pinned (OpenSpec.ofChange splitErrorWrong)

/-- 'waypointlaw46.SplitBound': WHATEVER THE INPUT: true; the input reads as it did. -/
def splitBoundSpec : ChangeSpec := { name := "splitBound", fn := fun _ => fun
  | [d1, d2] => { results := [.lit (.bool true)], args := [d1, d2] }
  | _ => none }
def splitBoundRow : OpenClaim := { program := "ytekiomanidimnaagreatdoor", sum := "6558a744b4b7177ff820208606edafeef7369b3bc737f79bd0f4309c65c4068f", func := "waypoint/waypointlaw46.SplitBound", spec := "splitBound", inPlace := ["internal/abi.NoEscape", "internal/bytealg.MakeNoZero", "internal/bytealg.IndexByteString", "internal/bytealg.IndexString"], unfollowed := true, recurses := true, named := ["math/bits.overflowError", "internal/strconv.uint64pow10", "math/bits.deBruijn32tab", "math/bits.deBruijn64tab", "internal/bytealg.MaxLen"], apart := false, laid := [("math/bits.deBruijn32tab", laid_math_bits_deBruijn32tab), ("math/bits.deBruijn64tab", laid_math_bits_deBruijn64tab), ("internal/strconv.uint64pow10", laid_internal_strconv_uint64pow10)] }
def SplitBoundSaid : Prop := splitBoundRow.holds Tryz.pinned (OpenSpec.ofChange splitBoundSpec)

/-- ITS FALSE NEIGHBOUR: 'it returns false'. Refute it at one input. -/
def splitBoundWrong : ChangeSpec := { name := "splitBound", fn := fun _ => fun
  | [d1, d2] => { results := [.lit (.bool false)], args := [d1, d2] }
  | _ => none }
def SplitBoundWrongFalsely : Prop := splitBoundRow.holds Tryz.pinned (OpenSpec.ofChange splitBoundWrong)

/-- 'waypointlaw42.PricingProof': WHATEVER THE INPUT: true; the input reads as it did. -/
def pricingProofSpec : ChangeSpec := { name := "pricingProof", fn := fun _ => fun
  | [d1, d2] => { results := [.lit (.bool true)], args := [d1, d2] }
  | _ => none }
def pricingProofRow : OpenClaim := { program := "ytekiomanidimnaagreatdoor", sum := "6558a744b4b7177ff820208606edafeef7369b3bc737f79bd0f4309c65c4068f", func := "waypoint/waypointlaw42.PricingProof", spec := "pricingProof", inPlace := ["internal/abi.NoEscape", "internal/bytealg.MakeNoZero", "internal/bytealg.IndexByteString", "internal/bytealg.IndexString"], unfollowed := true, recurses := true, named := ["math/bits.overflowError", "internal/strconv.uint64pow10", "math/bits.deBruijn32tab", "math/bits.deBruijn64tab", "internal/bytealg.MaxLen"], apart := false, laid := [("math/bits.deBruijn32tab", laid_math_bits_deBruijn32tab), ("math/bits.deBruijn64tab", laid_math_bits_deBruijn64tab), ("internal/strconv.uint64pow10", laid_internal_strconv_uint64pow10)] }
def PricingProofSaid : Prop := pricingProofRow.holds Tryz.pinned (OpenSpec.ofChange pricingProofSpec)

/-- ITS FALSE NEIGHBOUR: 'it returns false'. Refute it at one input. -/
def pricingProofWrong : ChangeSpec := { name := "pricingProof", fn := fun _ => fun
  | [d1, d2] => { results := [.lit (.bool false)], args := [d1, d2] }
  | _ => none }
def PricingProofWrongFalsely : Prop := pricingProofRow.holds Tryz.pinned (OpenSpec.ofChange pricingProofWrong)

/- THE SECOND FORM. 'bulk': how many values and letters a reading holds, each counted each time it is reached (what is shared counts as often as it is met; a slice's spare places count too). A statement '..UptoSaid' is the law's where the arguments, and the package variables that the reading takes, are together of bulk at most 1048576: NARROWER than '..Said'. Prove '..Said' where nothing that the law and all that it calls make is longer than what came in: it says more and counts as full. Else prove '..UptoSaid'. A law counts once. -/
mutual
def uptoBulk {H : Type} : DataW H → Nat
  | .lit (.string bytes) => bytes.length + 1
  | .lit _ => 1
  | .nil => 1
  | .ptr d => uptoBulk d + 1
  | .slice elems spare => uptoBulkAll elems + uptoBulkAll spare + 1
  | .agg parts => uptoBulkAll parts + 1
  | .iface _ d => uptoBulk d + 1
  | .map entries => uptoBulkEntries entries + 1
  | .held _ => 1
def uptoBulkAll {H : Type} : List (DataW H) → Nat
  | [] => 0
  | d :: r => uptoBulk d + uptoBulkAll r
def uptoBulkEntries {H : Type} : List (Lit × DataW H) → Nat
  | [] => 0
  | x :: r => uptoBulkEntry x + uptoBulkEntries r
def uptoBulkEntry {H : Type} : Lit × DataW H → Nat
  | (.string bytes, d) => bytes.length + uptoBulk d + 1
  | (_, d) => uptoBulk d + 1
 end
def uptoSmall : (H : Type) → List (DataW H) → Bool := fun _ ds => decide (uptoBulkAll ds ≤ 1048576)
def OpenSpec.upto (s : _root_.Go.ChangeSpec) : _root_.Go.OpenSpec := { _root_.Go.OpenSpec.ofChange s with cond := some uptoSmall }

/-- 'waypointlaw42.PricingSimple', WHERE WHAT IT READS IS OF BULK AT MOST 1048576: true; the input reads as it did. -/
def pricingSimpleUptoRow : OpenClaim := { program := "ytekiomanidimnaagreatdoor", sum := "6558a744b4b7177ff820208606edafeef7369b3bc737f79bd0f4309c65c4068f", func := "waypoint/waypointlaw42.PricingSimple", spec := "pricingSimple", inPlace := ["internal/abi.NoEscape", "internal/bytealg.MakeNoZero"], unfollowed := true, recurses := true, named := ["math/bits.overflowError", "internal/strconv.uint64pow10", "math/bits.deBruijn32tab", "math/bits.deBruijn64tab"], apart := false, laid := [("math/bits.deBruijn32tab", laid_math_bits_deBruijn32tab), ("math/bits.deBruijn64tab", laid_math_bits_deBruijn64tab), ("internal/strconv.uint64pow10", laid_internal_strconv_uint64pow10)], narrowed := true }
def PricingSimpleUptoSaid : Prop := pricingSimpleUptoRow.holds Tryz.pinned (OpenSpec.upto pricingSimpleSpec)

/-- 'waypointlaw42.PricingCheapest', WHERE WHAT IT READS IS OF BULK AT MOST 1048576: true; the input reads as it did. -/
def pricingCheapestUptoRow : OpenClaim := { program := "ytekiomanidimnaagreatdoor", sum := "6558a744b4b7177ff820208606edafeef7369b3bc737f79bd0f4309c65c4068f", func := "waypoint/waypointlaw42.PricingCheapest", spec := "pricingCheapest", inPlace := ["internal/abi.NoEscape", "internal/bytealg.MakeNoZero", "internal/bytealg.IndexByteString", "internal/bytealg.IndexString"], unfollowed := true, recurses := true, named := ["math/bits.overflowError", "internal/strconv.uint64pow10", "math/bits.deBruijn32tab", "math/bits.deBruijn64tab", "internal/bytealg.MaxLen"], apart := false, laid := [("math/bits.deBruijn32tab", laid_math_bits_deBruijn32tab), ("math/bits.deBruijn64tab", laid_math_bits_deBruijn64tab), ("internal/strconv.uint64pow10", laid_internal_strconv_uint64pow10)], narrowed := true }
def PricingCheapestUptoSaid : Prop := pricingCheapestUptoRow.holds Tryz.pinned (OpenSpec.upto pricingCheapestSpec)

/-- 'waypointlaw42.PricingScale', WHERE WHAT IT READS IS OF BULK AT MOST 1048576: true; the input reads as it did. -/
def pricingScaleUptoRow : OpenClaim := { program := "ytekiomanidimnaagreatdoor", sum := "6558a744b4b7177ff820208606edafeef7369b3bc737f79bd0f4309c65c4068f", func := "waypoint/waypointlaw42.PricingScale", spec := "pricingScale", inPlace := ["internal/abi.NoEscape", "internal/bytealg.MakeNoZero", "internal/bytealg.IndexByteString", "internal/bytealg.IndexString"], unfollowed := true, recurses := true, named := ["math/bits.overflowError", "internal/strconv.uint64pow10", "math/bits.deBruijn32tab", "math/bits.deBruijn64tab", "internal/bytealg.MaxLen"], apart := false, laid := [("math/bits.deBruijn32tab", laid_math_bits_deBruijn32tab), ("math/bits.deBruijn64tab", laid_math_bits_deBruijn64tab), ("internal/strconv.uint64pow10", laid_internal_strconv_uint64pow10)], narrowed := true }
def PricingScaleUptoSaid : Prop := pricingScaleUptoRow.holds Tryz.pinned (OpenSpec.upto pricingScaleSpec)

/-- 'waypointlaw42.PricingPrice', WHERE WHAT IT READS IS OF BULK AT MOST 1048576: true; the input reads as it did. -/
def pricingPriceUptoRow : OpenClaim := { program := "ytekiomanidimnaagreatdoor", sum := "6558a744b4b7177ff820208606edafeef7369b3bc737f79bd0f4309c65c4068f", func := "waypoint/waypointlaw42.PricingPrice", spec := "pricingPrice", inPlace := ["internal/abi.NoEscape", "internal/bytealg.MakeNoZero", "internal/bytealg.IndexByteString", "internal/bytealg.IndexString"], unfollowed := true, recurses := true, named := ["math/bits.overflowError", "internal/strconv.uint64pow10", "math/bits.deBruijn32tab", "math/bits.deBruijn64tab", "internal/bytealg.MaxLen"], apart := false, laid := [("math/bits.deBruijn32tab", laid_math_bits_deBruijn32tab), ("math/bits.deBruijn64tab", laid_math_bits_deBruijn64tab), ("internal/strconv.uint64pow10", laid_internal_strconv_uint64pow10)], narrowed := true }
def PricingPriceUptoSaid : Prop := pricingPriceUptoRow.holds Tryz.pinned (OpenSpec.upto pricingPriceSpec)

/-- 'waypointlaw42.PricingConsistent', WHERE WHAT IT READS IS OF BULK AT MOST 1048576: true; the input reads as it did. -/
def pricingConsistentUptoRow : OpenClaim := { program := "ytekiomanidimnaagreatdoor", sum := "6558a744b4b7177ff820208606edafeef7369b3bc737f79bd0f4309c65c4068f", func := "waypoint/waypointlaw42.PricingConsistent", spec := "pricingConsistent", inPlace := ["internal/abi.NoEscape", "internal/bytealg.MakeNoZero", "internal/bytealg.IndexByteString", "internal/bytealg.IndexString"], unfollowed := true, recurses := true, named := ["math/bits.overflowError", "internal/strconv.uint64pow10", "math/bits.deBruijn32tab", "math/bits.deBruijn64tab", "internal/bytealg.MaxLen"], apart := false, laid := [("math/bits.deBruijn32tab", laid_math_bits_deBruijn32tab), ("math/bits.deBruijn64tab", laid_math_bits_deBruijn64tab), ("internal/strconv.uint64pow10", laid_internal_strconv_uint64pow10)], narrowed := true }
def PricingConsistentUptoSaid : Prop := pricingConsistentUptoRow.holds Tryz.pinned (OpenSpec.upto pricingConsistentSpec)

/-- 'waypointlaw42.PricingDist', WHERE WHAT IT READS IS OF BULK AT MOST 1048576: true; the input reads as it did. -/
def pricingDistUptoRow : OpenClaim := { program := "ytekiomanidimnaagreatdoor", sum := "6558a744b4b7177ff820208606edafeef7369b3bc737f79bd0f4309c65c4068f", func := "waypoint/waypointlaw42.PricingDist", spec := "pricingDist", inPlace := ["internal/abi.NoEscape", "internal/bytealg.MakeNoZero", "internal/bytealg.IndexByteString", "internal/bytealg.IndexString"], unfollowed := true, recurses := true, named := ["math/bits.overflowError", "internal/strconv.uint64pow10", "math/bits.deBruijn32tab", "math/bits.deBruijn64tab", "internal/bytealg.MaxLen"], apart := false, laid := [("math/bits.deBruijn32tab", laid_math_bits_deBruijn32tab), ("math/bits.deBruijn64tab", laid_math_bits_deBruijn64tab), ("internal/strconv.uint64pow10", laid_internal_strconv_uint64pow10)], narrowed := true }
def PricingDistUptoSaid : Prop := pricingDistUptoRow.holds Tryz.pinned (OpenSpec.upto pricingDistSpec)

/-- 'waypointlaw46.SplitRound', WHERE WHAT IT READS IS OF BULK AT MOST 1048576: true; the input reads as it did. -/
def splitRoundUptoRow : OpenClaim := { program := "ytekiomanidimnaagreatdoor", sum := "6558a744b4b7177ff820208606edafeef7369b3bc737f79bd0f4309c65c4068f", func := "waypoint/waypointlaw46.SplitRound", spec := "splitRound", inPlace := ["internal/abi.NoEscape", "internal/bytealg.MakeNoZero", "internal/bytealg.IndexByteString", "internal/bytealg.IndexString"], unfollowed := true, recurses := true, named := ["math/bits.overflowError", "internal/strconv.uint64pow10", "math/bits.deBruijn32tab", "math/bits.deBruijn64tab", "internal/bytealg.MaxLen"], apart := false, laid := [("math/bits.deBruijn32tab", laid_math_bits_deBruijn32tab), ("math/bits.deBruijn64tab", laid_math_bits_deBruijn64tab), ("internal/strconv.uint64pow10", laid_internal_strconv_uint64pow10)], narrowed := true }
def SplitRoundUptoSaid : Prop := splitRoundUptoRow.holds Tryz.pinned (OpenSpec.upto splitRoundSpec)

/-- 'waypointlaw46.SplitKeep', WHERE WHAT IT READS IS OF BULK AT MOST 1048576: true; the input reads as it did. -/
def splitKeepUptoRow : OpenClaim := { program := "ytekiomanidimnaagreatdoor", sum := "6558a744b4b7177ff820208606edafeef7369b3bc737f79bd0f4309c65c4068f", func := "waypoint/waypointlaw46.SplitKeep", spec := "splitKeep", inPlace := ["internal/abi.NoEscape", "internal/bytealg.MakeNoZero", "internal/bytealg.IndexByteString", "internal/bytealg.IndexString"], unfollowed := true, recurses := true, named := ["math/bits.overflowError", "internal/strconv.uint64pow10", "math/bits.deBruijn32tab", "math/bits.deBruijn64tab", "internal/bytealg.MaxLen"], apart := false, laid := [("math/bits.deBruijn32tab", laid_math_bits_deBruijn32tab), ("math/bits.deBruijn64tab", laid_math_bits_deBruijn64tab), ("internal/strconv.uint64pow10", laid_internal_strconv_uint64pow10)], narrowed := true }
def SplitKeepUptoSaid : Prop := splitKeepUptoRow.holds Tryz.pinned (OpenSpec.upto splitKeepSpec)

/-- 'waypointlaw46.SplitError', WHERE WHAT IT READS IS OF BULK AT MOST 1048576: true; the input reads as it did. -/
def splitErrorUptoRow : OpenClaim := { program := "ytekiomanidimnaagreatdoor", sum := "6558a744b4b7177ff820208606edafeef7369b3bc737f79bd0f4309c65c4068f", func := "waypoint/waypointlaw46.SplitError", spec := "splitError", inPlace := ["internal/abi.NoEscape", "internal/bytealg.MakeNoZero", "internal/bytealg.IndexByteString", "internal/bytealg.IndexString"], unfollowed := true, recurses := true, named := ["math/bits.overflowError", "internal/strconv.uint64pow10", "math/bits.deBruijn32tab", "math/bits.deBruijn64tab", "internal/bytealg.MaxLen"], apart := false, laid := [("math/bits.deBruijn32tab", laid_math_bits_deBruijn32tab), ("math/bits.deBruijn64tab", laid_math_bits_deBruijn64tab), ("internal/strconv.uint64pow10", laid_internal_strconv_uint64pow10)], narrowed := true }
def SplitErrorUptoSaid : Prop := splitErrorUptoRow.holds Tryz.pinned (OpenSpec.upto splitErrorSpec)

/-- 'waypointlaw46.SplitBound', WHERE WHAT IT READS IS OF BULK AT MOST 1048576: true; the input reads as it did. -/
def splitBoundUptoRow : OpenClaim := { program := "ytekiomanidimnaagreatdoor", sum := "6558a744b4b7177ff820208606edafeef7369b3bc737f79bd0f4309c65c4068f", func := "waypoint/waypointlaw46.SplitBound", spec := "splitBound", inPlace := ["internal/abi.NoEscape", "internal/bytealg.MakeNoZero", "internal/bytealg.IndexByteString", "internal/bytealg.IndexString"], unfollowed := true, recurses := true, named := ["math/bits.overflowError", "internal/strconv.uint64pow10", "math/bits.deBruijn32tab", "math/bits.deBruijn64tab", "internal/bytealg.MaxLen"], apart := false, laid := [("math/bits.deBruijn32tab", laid_math_bits_deBruijn32tab), ("math/bits.deBruijn64tab", laid_math_bits_deBruijn64tab), ("internal/strconv.uint64pow10", laid_internal_strconv_uint64pow10)], narrowed := true }
def SplitBoundUptoSaid : Prop := splitBoundUptoRow.holds Tryz.pinned (OpenSpec.upto splitBoundSpec)

/-- 'waypointlaw42.PricingProof', WHERE WHAT IT READS IS OF BULK AT MOST 1048576: true; the input reads as it did. -/
def pricingProofUptoRow : OpenClaim := { program := "ytekiomanidimnaagreatdoor", sum := "6558a744b4b7177ff820208606edafeef7369b3bc737f79bd0f4309c65c4068f", func := "waypoint/waypointlaw42.PricingProof", spec := "pricingProof", inPlace := ["internal/abi.NoEscape", "internal/bytealg.MakeNoZero", "internal/bytealg.IndexByteString", "internal/bytealg.IndexString"], unfollowed := true, recurses := true, named := ["math/bits.overflowError", "internal/strconv.uint64pow10", "math/bits.deBruijn32tab", "math/bits.deBruijn64tab", "internal/bytealg.MaxLen"], apart := false, laid := [("math/bits.deBruijn32tab", laid_math_bits_deBruijn32tab), ("math/bits.deBruijn64tab", laid_math_bits_deBruijn64tab), ("internal/strconv.uint64pow10", laid_internal_strconv_uint64pow10)], narrowed := true }
def PricingProofUptoSaid : Prop := pricingProofUptoRow.holds Tryz.pinned (OpenSpec.upto pricingProofSpec)

end Rows
end Go.Proofs.YtekiomanidimnaaGreatDoor
