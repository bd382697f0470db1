/- Lists of rational numbers that a call has made: a row of three cells for each number. -/
import Derived.Test.YtjmkcckbbgpkeaaGreatDoorParD
import Derived.Test.YtjmkcckbbgpkeaaGreatDoorMI
import Derived.Maps.AppendAt
set_option linter.unusedVariables false
set_option linter.unusedSimpArgs false

namespace Go.Proofs.YtjmkcckbbgpkeaaGreatDoor
open Go.RowKit
theorem Tryz.info44 : (Tryz.prog.info? 38).map (fun i => (i.zero, i.size, i.bytes)) = some (some (.agg #[.bool false, .slice none 0 0, .slice none 0 0]), 3, 56) := by kernel_rfl
section
variable (R : World → List Value → Rat → Prop) (t : TypeId)
/-- A slice of numbers, to be read. -/
def QLg (w : World) (P : Option Addr) (qs : List Rat) : Prop :=
  ∃ css : List (List Value), css.length = qs.length ∧ (∀ cs ∈ css, cs.length = 3) ∧ Rd w P css.flatten ∧ ∀ (i : Nat) (q : Rat), qs[i]? = some q → ∃ cs, css[i]? = some cs ∧ R w cs q
/-- A slice of numbers that the call has made. -/
def OQ (w : World) (B : Nat) (v : Value) (qs : List Rat) : Prop :=
  ∃ css : List (List Value), css.length = qs.length ∧ (∀ cs ∈ css, cs.length = 3) ∧ w.ownsRow B t 3 v qs.length css.flatten ∧ ∀ (i : Nat) (q : Rat), qs[i]? = some q → ∃ cs, css[i]? = some cs ∧ R w cs q
end
section
variable {R : World → List Value → Rat → Prop} {t : TypeId} {w w' : World} {B : Nat} {v v' : Value} {qs : List Rat}
theorem OQ.nil : OQ R t w B (.slice none 0 0) [] := ⟨[], rfl, (fun _ h => by cases h), World.ownsRow_nil _ _ _ _, fun i q h => by simp at h⟩
theorem OQ.keep (hR : ∀ (w w' : World) (cs : List Value) (q : Rat), R w cs q → Ext w w' → R w' cs q) (h : OQ R t w B v qs) (hx : Ext w w') : OQ R t w' B v qs := by
  obtain ⟨css, h1, h2, h3, h4⟩ := h
  refine ⟨css, h1, h2, h3.kept (grown_ext hx) (own_none _), fun i q hq => ?_⟩
  obtain ⟨cs, k1, k2⟩ := h4 i q hq
  exact ⟨cs, k1, hR _ _ _ _ k2 hx⟩
theorem OQ.list (h : OQ R t w B v qs) : ∃ (A : Option Addr) (c : Nat), v = .slice A qs.length c ∧ qs.length ≤ c ∧ QLg R w A qs := by
  obtain ⟨css, h1, h2, h3, h4⟩ := h
  rcases h3.2 with ⟨e1, e2⟩ | ⟨g, cap, cur, e1, _, e3, e4, _, _, e7⟩
  · have hx : css.flatten = [] := List.eq_nil_of_length_eq_zero (by rw [h3.1, e2])
    exact ⟨none, 0, by rw [e2]; exact e1, by omega, css, h1, h2, by rw [hx]; exact Rd.nil _ _, h4⟩
  · refine ⟨_, cap, e1, e4, css, h1, h2, fun _ => ⟨g, 0, rfl, lt_of_get e3, fun i hi => ?_⟩, h4⟩
    rw [cell_of_row w g (0 + i) cur t (0, 0) e3, Nat.zero_add, ← e7, List.getElem?_take, if_pos (by have := h3.1; omega)]
    simp
theorem OQ.push {css : List (List Value)} {cs : List Value} {q : Rat} (h1 : css.length = qs.length) (h2 : ∀ cs ∈ css, cs.length = 3) (hl : cs.length = 3) (h4 : ∀ (i : Nat) (q : Rat), qs[i]? = some q → ∃ cs, css[i]? = some cs ∧ R w' cs q)
    (hq : R w' cs q) (hown : w'.ownsRow B t 3 v' (qs.length + 1) (css.flatten ++ cs)) : OQ R t w' B v' (qs ++ [q]) := by
  refine ⟨css ++ [cs], by simp [h1], fun c hc => ?_, by rw [List.flatten_append, List.length_append]; simpa using hown, fun i q' hq' => ?_⟩
  · rcases List.mem_append.1 hc with h | h
    · exact h2 c h
    · simp at h; rw [h]; exact hl
  · by_cases hi : i < qs.length
    · rw [List.getElem?_append_left hi] at hq'
      obtain ⟨c, k1, k2⟩ := h4 i q' hq'
      exact ⟨c, by rw [List.getElem?_append_left (by omega)]; exact k1, k2⟩
    · rw [List.getElem?_append_right (by omega)] at hq'
      have hi0 : i - qs.length = 0 := by
        rcases Nat.eq_zero_or_pos (i - qs.length) with h0 | h0
        · exact h0
        · rw [List.getElem?_eq_none (by simp; omega)] at hq'; cases hq'
      rw [hi0] at hq'
      simp at hq'
      subst hq'
      exact ⟨cs, by rw [List.getElem?_append_right (by omega), show i - css.length = 0 by omega]; rfl, hq⟩
end
theorem wpList_push3 {ops : Array Oper} {rest : List Oper} {o : Oper} {a : Act} {Q : Exit → Act → World → Prop} (w : World) (t e : TypeId) (hgd : o.guard = none) (s x : Operand)
    (ho : o.op = .call { callee := .builtin .append, args := #[s, x], argTypes := #[t, t] })
    (ht : Tryz.prog.underlying t = some (.slice e)) (hinfo : (Tryz.prog.info? e).map (fun i => (i.zero, i.size, i.bytes)) = some (some (.agg #[.bool false, .slice none 0 0, .slice none 0 0]), 3, 56))
    (B : Nat) (v : Value) (n : Nat) (xs : List Value) (hs : a.eval s = v) (hown : w.ownsRow B e 3 v n xs) (u0 u1 u2 : Value) (h0 : u0.oneCell' = true) (h1 : u1.oneCell' = true) (h2 : u2.oneCell' = true) (hx : a.eval x = .slice (some ⟨w.heap.size, 0, none⟩) 1 1)
    (hl : n ≤ 1000000000) (hB : B ≤ w.heap.size)
    (h : ∀ v' w', w'.ownsRow B e 3 v' (n + 1) (xs ++ [u0, u1, u2]) → (w.alloc (.cells #[u0, u1, u2] e)).grownBy w' v.ownBlock → (∃ A c, v' = .slice A (n + 1) c) → wpList Tryz.prog ops Q rest (a.put o.dst v') w') : wpList Tryz.prog ops Q (o :: rest) a (w.alloc (.cells #[u0, u1, u2] e)) := by
  obtain ⟨ti, hi, hz0, hz1, hz2⟩ := info_parts hinfo
  refine wpList_append_own_at _ hgd s x t ho B e ti _ 3 56 ht hi hz0 hz1 hz2 rfl (by decide) v n xs hs (hown.alloc _) ⟨w.heap.size, 0, none⟩ 1 1 [u0, u1, u2] hx rfl ?_ ?_ ?_ ?_ ?_ ?_
  · intro j u hj
    rw [addr_add, Nat.zero_add]
    exact ((Blk.new w _ _).cell j).trans (by simpa using hj)
  · intro u hu
    simp only [List.mem_cons, List.not_mem_nil, or_false] at hu
    rcases hu with rfl | rfl | rfl
    · exact h0
    · exact h1
    · exact h2
  · unfold maxLen; omega
  · omega
  · simp; omega
  · intro v' w' k1 k2 _ _
    refine h v' w' k1 k2 ?_
    rcases k1.2 with ⟨_, e2⟩ | ⟨g, cap, _, e1, _⟩
    · omega
    · exact ⟨_, cap, e1⟩
end Go.Proofs.YtjmkcckbbgpkeaaGreatDoor
