/- rational: Neg, Sub, Num, Div, Floor of a number that is not negative. -/
import Derived.Test.YtjmkcckbbgpkeaaGreatDoorMul
import Derived.Test.YtjmkcckbbgpkeaaGreatDoorMS
set_option linter.unusedVariables false
set_option linter.unusedSimpArgs false

namespace Go.Proofs.YtjmkcckbbgpkeaaGreatDoor
open Go.RowKit
theorem div_mkQ (a b : Rat) (h : b ≠ 0) : a / b = mkQ (decide (a.num < 0) != decide (b.num < 0)) (a.num.natAbs * b.den) (b.num.natAbs * a.den) := by
  have hn : b.num ≠ 0 := fun e => h (Rat.num_eq_zero.1 e)
  have h1 : (b⁻¹).num.natAbs = b.den := by
    rw [Rat.num_inv, Int.natAbs_mul, Int.natAbs_sign_of_ne_zero hn]
    simp
  have h2 : (b⁻¹).den = b.num.natAbs := by rw [Rat.den_inv, if_neg hn]
  have h3 : decide ((b⁻¹).num < 0) = decide (b.num < 0) := by
    rw [Rat.num_inv]
    have hd := b.den_pos
    rcases Int.lt_or_gt_of_ne hn with x | x
    · rw [Int.sign_eq_neg_one_of_neg x]
      simp [x]; omega
    · rw [Int.sign_eq_one_of_pos x]
      simp; omega
  rw [Rat.div_def, mul_mkQ, h1, h2, h3, Nat.mul_comm a.den]
theorem neg_dec (q : Rat) (h : q ≠ 0) : (!decide (q.num < 0)) = decide ((-q).num < 0) := by
  have hn : q.num ≠ 0 := fun e => h (Rat.num_eq_zero.1 e)
  have : (-q).num = -q.num := rfl
  rw [this]
  rcases Int.lt_or_gt_of_ne hn with x | x
  · rw [decide_eq_true x, decide_eq_false (by omega)]; rfl
  · rw [decide_eq_false (by omega), decide_eq_true (by omega)]; rfl
theorem RatR.neg {w : World} {neg : Bool} {A : Option Addr} {n c : Nat} {A' : Option Addr} {n' c' : Nat} {q : Rat} (h : RatR w neg A n c A' n' c' q) (h0 : q ≠ 0) : RatR w (!neg) A n c A' n' c' (-q) := by
  refine ⟨?_, ?_, h.2.2⟩
  · rw [h.1]; exact neg_dec q h0
  · have : (-q).num.natAbs = q.num.natAbs := by show (-(q.num)).natAbs = _; omega
    rw [this]; exact h.2.1
/-- A quotient and no error. -/
def QuoPost (w : World) (q : Rat) (e : Ending) (w' : World) : Prop :=
  ∃ (neg : Bool) (A : Option Addr) (n c : Nat) (A' : Option Addr) (n' c' : Nat), e = .returned (.tuple #[.agg #[.bool neg, .slice A n c, .slice A' n' c'], .int .i64 0]) ∧ RatR w' neg A n c A' n' c' q ∧ Ext w w'
/-- The whole part of a number that is not negative. -/
def flN (q : Rat) : Nat := q.num.natAbs / q.den
def flQ (q : Rat) : Rat := mkQ false (flN q) 1
end Go.Proofs.YtjmkcckbbgpkeaaGreatDoor
