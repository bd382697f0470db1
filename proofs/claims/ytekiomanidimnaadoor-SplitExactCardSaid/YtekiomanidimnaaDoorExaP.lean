/- Weights that add up to a total are the rounded weights of themselves (plain). -/
import Derived.Test.YtekiomanidimnaaDoorBndP
set_option linter.unusedVariables false
set_option linter.unusedSimpArgs false

namespace Go.Proofs.YtekiomanidimnaaDoor
open Go.RowKit
def nsum : List Nat → Nat
  | [] => 0
  | a :: l => a + nsum l
theorem nsum_append (l m : List Nat) : nsum (l ++ m) = nsum l + nsum m := by
  induction l with
  | nil => simp [nsum]
  | cons a l ih => show a + nsum (l ++ m) = a + nsum l + nsum m; rw [ih]; omega
theorem nsum_next (l : List Nat) (i x : Nat) (h : l[i]? = some x) : nsum (l.take (i + 1)) = nsum (l.take i) + x := by
  rw [List.take_add_one, h, nsum_append]
  simp [nsum]
theorem nsum_bound : ∀ (l : List Nat), (∀ x ∈ l, x ≤ 255) → nsum l ≤ l.length * 255
  | [], _ => by simp [nsum]
  | a :: l, h => by
    have := nsum_bound l (fun x hx => h x (by simp [hx]))
    have h1 := h a (by simp)
    show a + nsum l ≤ (l.length + 1) * 255
    omega
theorem nsum_pos : ∀ (l : List Nat), 0 < nsum l → ∃ x ∈ l, 0 < x
  | [], h => by simp [nsum] at h
  | a :: l, h => by
    by_cases ha : 0 < a
    · exact ⟨a, by simp, ha⟩
    · obtain ⟨x, hx, h2⟩ := nsum_pos l (by have h3 : 0 < a + nsum l := h; omega)
      exact ⟨x, by simp [hx], h2⟩
theorem nsum_zero : ∀ (l : List Nat), nsum l = 0 → ∀ x ∈ l, x = 0
  | [], _, x, hx => by cases hx
  | a :: l, h, x, hx => by
    have h3 : a + nsum l = 0 := h
    rcases List.mem_cons.1 hx with rfl | hx
    · omega
    · exact nsum_zero l (by omega) x hx
def timesL (f : Rat) (ws : List Nat) : List Rat := ws.map fun x : Nat => f * ((x : Int) : Rat)
theorem timesL_len (f : Rat) (ws : List Nat) : (timesL f ws).length = ws.length := by unfold timesL; simp
theorem timesL_get (f : Rat) (ws : List Nat) (i : Nat) (x : Nat) (h : ws[i]? = some x) : (timesL f ws)[i]? = some (f * ((x : Int) : Rat)) := by
  unfold timesL
  rw [List.getElem?_map, h]; rfl
theorem sum_times (f : Rat) : ∀ ws : List Nat, sumQ (timesL f ws) = f * ((nsum ws : Int) : Rat)
  | [] => by show (0 : Rat) = f * 0; rw [Rat.mul_zero]
  | a :: l => by
    show f * ((a : Int) : Rat) + sumQ (timesL f l) = f * (((a + nsum l : Nat) : Int) : Rat)
    rw [sum_times f l, Int.natCast_add, Rat.intCast_add, Rat.mul_add]
theorem fl_nat (x : Nat) : flN ((x : Int) : Rat) = x := by
  unfold flN
  simp only [Rat.num_intCast, Rat.den_intCast]
  simp
theorem times_proper {f : Rat} (hf : 0 < f) {ws : List Nat} (hl : ws.length ≤ 64) : properP (timesL f ws) = decide (0 < nsum ws) := by
  have hn : (timesL f ws).any negB = false := by
    rw [List.any_eq_false]
    intro q hq
    unfold timesL at hq
    obtain ⟨x, hx, rfl⟩ := List.mem_map.1 hq
    unfold negB
    simp only [decide_eq_true_eq]
    rw [sgn_neg, Rat.not_lt]
    exact Rat.mul_nonneg (Rat.le_of_lt hf) (Rat.intCast_nonneg.2 (by omega))
  unfold properP
  rw [hn, timesL_len, decide_eq_true hl]
  simp only [Bool.not_false, Bool.true_and]
  by_cases h0 : 0 < nsum ws
  · rw [decide_eq_true h0]
    obtain ⟨x, hx, hp⟩ := nsum_pos ws h0
    refine List.any_eq_true.2 ⟨_, List.mem_map.2 ⟨x, hx, rfl⟩, ?_⟩
    unfold posB
    refine decide_eq_true ((sgn_pos _).2 (Rat.mul_pos hf (Rat.intCast_pos.2 (by omega))))
  · rw [decide_eq_false h0, List.any_eq_false]
    intro q hq
    unfold timesL at hq
    obtain ⟨x, hx, rfl⟩ := List.mem_map.1 hq
    have := nsum_zero ws (by omega) x hx
    subst this
    unfold posB
    rw [show f * ((((0 : Nat) : Nat) : Int) : Rat) = 0 from Rat.mul_zero f]
    decide
theorem times_quo {f : Rat} (hf : 0 < f) {ws : List Nat} (h0 : 0 < nsum ws) {i x : Nat} (hx : ws[i]? = some x) : quoQ (timesL f ws) (nsum ws) i = ((x : Int) : Rat) := by
  unfold quoQ
  rw [timesL_get f ws i x hx, sum_times]
  show f * ((x : Int) : Rat) * _ = _
  have hf0 : f ≠ 0 := fun e => by rw [e] at hf; exact Rat.lt_irrefl hf
  have hs : ((nsum ws : Int) : Rat) ≠ 0 := fun e => by
    have : ((nsum ws : Nat) : Int) = 0 := Rat.intCast_inj.1 e
    omega
  generalize ((nsum ws : Int) : Rat) = s at *
  generalize ((x : Int) : Rat) = y at *
  have e : f * y * (s / (f * s)) = y * (f * s * (s / (f * s))) / s := by
    generalize s / (f * s) = z
    have e3 : y * (f * s * z) = f * y * z * s := by
      rw [Rat.mul_assoc f s z, Rat.mul_comm s z, ← Rat.mul_assoc f z s, ← Rat.mul_assoc y, ← Rat.mul_assoc y f z, Rat.mul_comm y f]
    rw [e3, Rat.mul_div_cancel hs]
  have e2 : f * s * (s / (f * s)) = s := by
    rw [Rat.mul_comm, Rat.div_mul_cancel (fun e9 => (Rat.mul_eq_zero.1 e9).elim hf0 hs)]
  rw [e, e2, Rat.mul_div_cancel hs]
theorem sumTo_nsum (ws : List Nat) : ∀ i, i ≤ ws.length → sumTo (fun j => ws[j]?.getD 0) i = nsum (ws.take i)
  | 0, _ => rfl
  | i + 1, h => by
    show sumTo _ i + _ = _
    rw [sumTo_nsum ws i (by omega), nsum_next ws i (ws[i]?.getD 0) (by rw [List.getElem?_eq_getElem (by omega)]; rfl)]
theorem exact_round {f : Rat} (hf : 0 < f) {ws : List Nat} (hl : ws.length ≤ 64) (hb : ∀ x ∈ ws, x ≤ 255) : roundP (timesL f ws) (nsum ws : Int) = if 0 < nsum ws then (ws, 0) else ([], 1) := by
  unfold roundP
  rw [times_proper hf hl]
  by_cases h0 : 0 < nsum ws
  · have hB := nsum_bound ws hb
    rw [if_pos h0, decide_eq_true h0, decide_eq_true (show (1 : Int) ≤ (nsum ws : Int) by omega), decide_eq_true (show (nsum ws : Int) ≤ 65536 by omega), timesL_len, Int.toNat_natCast]
    have hfl : ∀ i x, ws[i]? = some x → flN (quoQ (timesL f ws) (nsum ws) i) = x := fun i x hx => by rw [times_quo hf h0 hx, fl_nat]
    have hm : missQ (timesL f ws) (nsum ws) = 0 := by
      unfold missQ
      rw [timesL_len, sumTo_congr (g := fun j => ws[j]?.getD 0) ws.length (fun i hi => hfl i _ (by rw [List.getElem?_eq_getElem hi]; rfl)), sumTo_nsum ws _ (Nat.le_refl _), List.take_of_length_le (Nat.le_refl _)]
      omega
    have : (List.range ws.length).map (weightQ (timesL f ws) (nsum ws)) = ws := by
      apply List.ext_getElem?
      intro i
      by_cases hi : i < ws.length
      · rw [List.getElem?_map, List.getElem?_range hi, List.getElem?_eq_getElem hi]
        show some (weightQ _ _ i) = _
        unfold weightQ
        rw [hm, if_neg (by omega), hfl i _ (List.getElem?_eq_getElem hi)]
      · rw [List.getElem?_eq_none (by simp; omega), List.getElem?_eq_none (by omega)]
    rw [this]; rfl
  · rw [if_neg h0, decide_eq_false h0]; rfl
end Go.Proofs.YtekiomanidimnaaDoor
