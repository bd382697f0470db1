/- What the specification of split computes is what split computes (plain). -/
import Derived.Test.YtekiomanidimnaaGreatDoorSpE
import Derived.Test.YtekiomanidimnaaGreatDoorMW
set_option linter.unusedVariables false
set_option linter.unusedSimpArgs false

namespace Go.Proofs.YtekiomanidimnaaGreatDoor
open Go.RowKit
/-- Whether numbers are shares, as specified. -/
def sharesP (qs : List Rat) : Bool := !qs.any negB && (decide (1 ≤ qs.length) && (decide (qs.length ≤ 64) && decide (0 < sgnI (sumQ qs))))
theorem sumQ_zero_of : ∀ {l : List Rat}, (∀ q ∈ l, 0 ≤ q) → (∀ q ∈ l, ¬ 0 < q) → sumQ l = 0
  | [], _, _ => rfl
  | a :: l, h, h2 => by
    have e : a = 0 := Rat.le_antisymm (Rat.not_lt.1 (h2 a (by simp))) (h a (by simp))
    show a + sumQ l = 0
    rw [e, sumQ_zero_of (fun q hq => h q (by simp [hq])) (fun q hq => h2 q (by simp [hq])), Rat.zero_add]
theorem shares_proper (qs : List Rat) : sharesP qs = properP qs := by
  unfold sharesP properP
  cases hn : qs.any negB
  case true => simp
  case false =>
    have h0 : ∀ q ∈ qs, 0 ≤ q := fun q hq => by
      have := List.any_eq_false.1 hn q hq
      unfold negB at this
      rw [decide_eq_true_eq, sgn_neg, Rat.not_lt] at this
      exact this
    have e : decide (0 < sgnI (sumQ qs)) = qs.any posB := by
      by_cases hp : qs.any posB = true
      · rw [hp]
        obtain ⟨q, hq, h2⟩ := List.any_eq_true.1 hp
        unfold posB at h2
        rw [decide_eq_true_eq, sgn_pos] at h2
        refine decide_eq_true ((sgn_pos _).2 ?_)
        have := le_sumQ h0 q hq
        exact Rat.not_le.1 (fun h3 => absurd h2 (Rat.not_lt.2 (Rat.le_trans this h3)))
      · have hp : qs.any posB = false := by simpa using hp
        rw [hp]
        have : sumQ qs = 0 := sumQ_zero_of h0 (fun q hq h2 => by
          have := List.any_eq_false.1 hp q hq
          unfold posB at this
          rw [decide_eq_true_eq, sgn_pos] at this
          exact this h2)
        rw [this]; decide
    rw [e]
    cases qs with
    | nil => rfl
    | cons a l =>
      simp
theorem cmpQ_pos' (a b : Rat) : 0 < cmpQ a b ↔ b < a := by
  unfold cmpQ
  split
  · rename_i h
    exact ⟨fun h2 => by omega, fun h2 => absurd h (Rat.not_lt.2 (Rat.le_of_lt h2))⟩
  · rename_i h
    split
    · rename_i h1
      exact ⟨fun h2 => by omega, fun h2 => by rw [h1] at h2; exact absurd h2 Rat.lt_irrefl⟩
    · rename_i h1
      exact ⟨fun _ => Rat.not_le.1 (fun h2 => h1 (Rat.le_antisymm h2 (Rat.not_lt.1 h))), fun _ => by decide⟩
theorem cmpQ_zero' (a b : Rat) : cmpQ a b = 0 ↔ a = b := by
  unfold cmpQ
  split
  · rename_i h
    exact ⟨fun h2 => by omega, fun h2 => by rw [h2] at h; exact absurd h Rat.lt_irrefl⟩
  · split
    · rename_i h1; simp [h1]
    · rename_i h1; exact ⟨fun h2 => by omega, fun h2 => absurd h2 h1⟩
theorem ltB_cmp (qs : List Rat) (j i : Nat) : ltB (bfV (cvQ qs)) j i ↔ (0 < cmpQ (qs[j]?.getD 0) (qs[i]?.getD 0) ∨ (cmpQ (qs[j]?.getD 0) (qs[i]?.getD 0) = 0 ∧ j < i)) := by
  unfold ltB bfV cvQ
  rw [decide_eq_true_eq, decide_eq_false_iff_not, cmpQ_neg, cmpQ_neg, cmpQ_pos', cmpQ_zero']
  generalize qs[j]?.getD 0 = a
  generalize qs[i]?.getD 0 = b
  constructor
  · rintro (h | ⟨h1, h2⟩)
    · exact .inl h
    · by_cases h3 : b < a
      · exact .inl h3
      · exact .inr ⟨Rat.le_antisymm (Rat.not_lt.1 h3) (Rat.not_lt.1 h1), h2⟩
  · rintro (h | ⟨h1, h2⟩)
    · exact .inl h
    · exact .inr ⟨by rw [h1]; exact Rat.lt_irrefl, h2⟩
/-- How many of the first are before one. -/
def cntTo (qs : List Rat) (i p : Nat) : Nat := (List.range p).countP fun j => decide (ltB (bfV (cvQ qs)) j i)
theorem cntTo_next (qs : List Rat) (i p : Nat) : cntTo qs i (p + 1) = if 0 < cmpQ (qs[p]?.getD 0) (qs[i]?.getD 0) ∨ (cmpQ (qs[p]?.getD 0) (qs[i]?.getD 0) = 0 ∧ p < i) then cntTo qs i p + 1 else cntTo qs i p := by
  unfold cntTo
  rw [List.range_succ, List.countP_append]
  by_cases h : ltB (bfV (cvQ qs)) p i
  · rw [if_pos ((ltB_cmp qs p i).1 h)]
    simp [h]
  · rw [if_neg (fun h2 => h ((ltB_cmp qs p i).2 h2))]
    simp [h]
theorem cntTo_le (qs : List Rat) (i p : Nat) : cntTo qs i p ≤ p := by
  unfold cntTo
  have := List.countP_le_length (p := fun j => decide (ltB (bfV (cvQ qs)) j i)) (l := List.range p)
  rw [List.length_range] at this
  exact this
theorem cntTo_end (qs : List Rat) (i : Nat) : cntTo qs i qs.length = rankQ qs i := rfl
theorem quo_ref (qs : List Rat) (T i : Nat) : ((T : Int) : Rat) * (qs[i]?.getD 0) / sumQ qs = quoQ qs T i := by
  unfold quoQ
  rw [Rat.div_def, Rat.div_def, Rat.mul_comm ((T : Int) : Rat), Rat.mul_assoc]
theorem max_abs (d : Rat) : maxQ d (-d) = absQ d := by
  unfold maxQ absQ
  have h : 0 ≤ cmpQ d (-d) ↔ ¬ sgnI d < 0 := by
    rw [sgn_neg, ← Int.not_lt, cmpQ_neg]
    constructor
    · intro h1 h2
      have h3 := Rat.neg_le_neg (Rat.le_of_lt h2)
      have h3 : 0 ≤ -d := by simpa using h3
      exact h1 (Rat.not_le.1 (fun h4 => absurd h2 (Rat.not_lt.2 (Rat.le_trans h3 h4))))
    · intro h1 h2
      have h3 := Rat.neg_le_neg (Rat.not_lt.1 h1)
      have h3 : -d ≤ 0 := by simpa using h3
      exact absurd h2 (Rat.not_lt.2 (Rat.le_trans h3 (Rat.not_lt.1 h1)))
  by_cases c : sgnI d < 0
  · rw [if_pos c, if_neg (fun h2 => (h.1 h2) c)]
  · rw [if_neg c, if_pos (h.2 c)]
theorem max_worst (a w : Rat) : maxQ w a = if 0 < cmpQ a w then a else w := by
  unfold maxQ
  by_cases c : 0 < cmpQ a w
  · rw [if_pos c, if_neg (fun h2 => by have := (cmpQ_neg w a).2 ((cmpQ_pos' a w).1 c); omega)]
  · rw [if_neg c, if_pos]
    rw [← Int.not_lt, cmpQ_neg]
    exact fun h => c ((cmpQ_pos' a w).2 h)
theorem worst_max (qs : List Rat) (ws : List Int) (T : Int) (i : Nat) : worstTo qs ws T (i + 1) = maxQ (worstTo qs ws T i) (maxQ (diffQ qs ws T i) (-(diffQ qs ws T i))) := by
  rw [max_abs, max_worst]; rfl
end Go.Proofs.YtekiomanidimnaaGreatDoor
