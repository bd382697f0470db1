/- Prices that are multiplied by a positive number: the cheapest path stays, its price is multiplied (plain). -/
import Derived.Test.YtjmkcckbbgpkeaaGreatDoorMJ
set_option linter.unusedVariables false
set_option linter.unusedSimpArgs false

namespace Go.Proofs.YtjmkcckbbgpkeaaGreatDoor
theorem cmpQ_scale {a b f : Rat} (hf : 0 < f) : cmpQ (a * f) (b * f) = cmpQ a b := by
  unfold cmpQ
  have h1 : a * f < b * f ↔ a < b := Rat.mul_lt_mul_right hf
  have h2 : b * f < a * f ↔ b < a := Rat.mul_lt_mul_right hf
  by_cases h : a < b
  · rw [if_pos h, if_pos (h1.2 h)]
  · rw [if_neg h, if_neg (fun x => h (h1.1 x))]
    by_cases e : a = b
    · rw [if_pos e, if_pos (by rw [e])]
    · rw [if_neg e, if_neg]
      intro e2
      have h3 : ¬ b < a := fun x => by have := h2.2 x; rw [e2] at this; exact Rat.lt_irrefl this
      exact e (Rat.le_antisymm (Rat.not_lt.1 h3) (Rat.not_lt.1 h))
def scaleL (f : Rat) (ps : List Rat) : List Rat := ps.map (· * f)
theorem scale_get (f : Rat) (ps : List Rat) (a : Nat) : (scaleL f ps)[a]?.getD 0 = ps[a]?.getD 0 * f := by
  unfold scaleL
  rw [List.getElem?_map]
  cases ps[a]? with
  | none => simp [Rat.zero_mul]
  | some x => rfl
theorem prQ_scale (f : Rat) (ps : List Rat) (arcs : List Nat) : prQ (scaleL f ps) arcs = prQ ps arcs * f := by
  unfold prQ
  have key : ∀ (l : List Nat) (s : Rat), l.foldl (fun s a => s + (scaleL f ps)[a]?.getD 0) (s * f) = l.foldl (fun s a => s + ps[a]?.getD 0) s * f := by
    intro l
    induction l with
    | nil => intro s; rfl
    | cons a l ih => intro s; rw [List.foldl_cons, List.foldl_cons, scale_get, ← Rat.add_mul, ih]
  have := key arcs 0
  rw [Rat.zero_mul] at this
  exact this
theorem befP_scale {f : Rat} (hf : 0 < f) (ps : List Rat) : befP (scaleL f ps) = befP ps := by
  funext x y
  unfold befP cmpL
  rw [prQ_scale, prQ_scale, cmpQ_scale hf]
theorem firstTo_scale {f : Rat} (hf : 0 < f) (ps : List Rat) (ls : List Lb) : ∀ k, firstTo (scaleL f ps) ls k = firstTo ps ls k
  | 0 => rfl
  | k + 1 => by
    unfold firstTo
    rw [firstTo_scale hf ps ls k, befP_scale hf]
theorem firstP_scale {f : Rat} (hf : 0 < f) (ps : List Rat) (ls : List Lb) : firstP (scaleL f ps) ls = firstP ps ls := firstTo_scale hf ps ls _
theorem relaxP_scale {f : Rat} (hf : 0 < f) (t : Tp) (down : List Bool) (ps : List Rat) (d n : Nat) : relaxP t down (scaleL f ps) d n = relaxP t down ps d n := by
  funext ls a
  unfold relaxP
  rw [befP_scale hf]
theorem dijP_scale {f : Rat} (hf : 0 < f) (t : Tp) (down : List Bool) (ps : List Rat) (d : Nat) : ∀ (k : Nat) (ls : List Lb), dijP t down (scaleL f ps) d k ls = dijP t down ps d k ls
  | 0, _ => rfl
  | k + 1, ls => by
    unfold dijP
    rw [firstP_scale hf, relaxP_scale hf, dijP_scale hf t down ps d k]
theorem sgn_neg (q : Rat) : sgnI q < 0 ↔ q < 0 := by
  have h : q.num < 0 ↔ q < 0 := by
    rw [← Int.not_le, Rat.num_nonneg, Rat.not_le]
  unfold sgnI
  split
  · rename_i h0
    rw [← h, h0]
  · split
    · rename_i h1; exact ⟨fun _ => h.1 h1, fun _ => by decide⟩
    · rename_i h1; exact ⟨fun x => by omega, fun x => absurd (h.2 x) h1⟩
theorem pricedP_scale {f : Rat} (hf : 0 < f) (t : Tp) (ps : List Rat) : pricedP t (scaleL f ps) = pricedP t ps := by
  unfold pricedP scaleL
  rw [List.length_map, List.any_map]
  congr 2
  have : ((fun q => decide (sgnI q < 0)) ∘ fun x => x * f) = fun q => decide (sgnI q < 0) := by
    funext q
    simp only [Function.comp, decide_eq_decide]
    rw [sgn_neg, sgn_neg]
    have : q * f < 0 * f ↔ q < 0 := Rat.mul_lt_mul_right hf
    rw [Rat.zero_mul] at this
    exact this
  rw [this]
theorem chP_scale {f : Rat} (hf : 0 < f) (t : Tp) (down : List Bool) (ps : List Rat) (s d : Int) : chP t down (scaleL f ps) s d = chP t down ps s d := by
  unfold chP bad1 cheapP
  rw [pricedP_scale hf, dijP_scale hf]
end Go.Proofs.YtjmkcckbbgpkeaaGreatDoor
