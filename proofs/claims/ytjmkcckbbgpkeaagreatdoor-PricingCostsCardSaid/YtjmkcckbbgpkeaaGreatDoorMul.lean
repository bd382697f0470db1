/- rational.Mul: what the call returns. -/
import Derived.Test.YtjmkcckbbgpkeaaGreatDoorMG
set_option linter.unusedVariables false
set_option linter.unusedSimpArgs false

namespace Go.Proofs.YtjmkcckbbgpkeaaGreatDoor
open Go.RowKit
theorem mul_mkQ (a b : Rat) : a * b = mkQ (decide (a.num < 0) != decide (b.num < 0)) (a.num.natAbs * b.num.natAbs) (a.den * b.den) := by
  have hs : (if (decide (a.num < 0) != decide (b.num < 0)) = true then -((a.num.natAbs * b.num.natAbs : Nat) : Int) else ((a.num.natAbs * b.num.natAbs : Nat) : Int)) = a.num * b.num := by
    rw [Int.natCast_mul]
    rcases Int.lt_or_le a.num 0 with ha | ha <;> rcases Int.lt_or_le b.num 0 with hb | hb
    · rw [show ((a.num.natAbs : Nat) : Int) = -a.num by omega, show ((b.num.natAbs : Nat) : Int) = -b.num by omega]
      simp only [ha, hb, decide_true, bne_self_eq_false, Bool.false_eq_true, if_false, Int.neg_mul_neg]
    · rw [show ((a.num.natAbs : Nat) : Int) = -a.num by omega, show ((b.num.natAbs : Nat) : Int) = b.num by omega]
      simp only [ha, show ¬ b.num < 0 by omega, decide_true, decide_false, Bool.true_bne, Bool.not_false, if_true, Int.neg_mul, Int.neg_neg]
    · rw [show ((a.num.natAbs : Nat) : Int) = a.num by omega, show ((b.num.natAbs : Nat) : Int) = -b.num by omega]
      simp only [hb, show ¬ a.num < 0 by omega, decide_true, decide_false, Bool.false_bne, if_true, Int.mul_neg, Int.neg_neg]
    · rw [show ((a.num.natAbs : Nat) : Int) = a.num by omega, show ((b.num.natAbs : Nat) : Int) = b.num by omega]
      simp [show ¬ a.num < 0 by omega, show ¬ b.num < 0 by omega]
  unfold mkQ
  rw [hs]
  conv => lhs; rw [← Rat.mkRat_self a, ← Rat.mkRat_self b]
  rw [Rat.mkRat_mul_mkRat]
end Go.Proofs.YtjmkcckbbgpkeaaGreatDoor
