/- Own rows of integers by an index function; waypointref01: Add, Sub. -/
import Derived.Test.YtekiomanidimnaaGreatDoorGrpC
set_option linter.unusedVariables false
set_option linter.unusedSimpArgs false

namespace Go.Proofs.YtekiomanidimnaaGreatDoor
open Go.RowKit
/-- Block g begins with n integers, by their index. -/
def IRow (w : World) (g n : Nat) (f : Nat → Int) : Prop := ∃ cur : Array Value, w.heap[g]? = some (.cells cur 3 (0, 0)) ∧ ∀ j, j < n → cur[j]? = some (.int .i64 (f j))
section
variable {w w' : World} {g n : Nat} {f f' : Nat → Int}
theorem IRow.lt (h : IRow w g n f) : g < w.heap.size := by
  obtain ⟨cur, h1, _⟩ := h
  exact lt_of_get h1
theorem IRow.cell (h : IRow w g n f) {j : Nat} (hj : j < n) : w.cell? ⟨g, j, none⟩ = some (.int .i64 (f j)) := by
  obtain ⟨cur, h1, h2⟩ := h
  rw [cell_of_row w g j cur _ (0, 0) h1, h2 j hj]
theorem IRow.frozen (h : IRow w g n f) (j : Nat) : w.frozen? ⟨g, j, none⟩ = false := by
  obtain ⟨cur, h1, h2⟩ := h
  simp [World.frozen?, h1]
theorem IRow.keep (h : IRow w g n f) (hx : Ext w w') : IRow w' g n f := by
  have hl := h.lt
  obtain ⟨cur, h1, h2⟩ := h
  exact ⟨cur, (hx.block g hl).trans h1, h2⟩
theorem IRow.drewN (h : IRow w g n f) (k : Nat) : IRow (w.drewN k) g n f := h
theorem IRow.congr (h : IRow w g n f) (hf : ∀ j, j < n → f j = f' j) : IRow w g n f' := by
  obtain ⟨cur, h1, h2⟩ := h
  exact ⟨cur, h1, fun j hj => by rw [h2 j hj, hf j hj]⟩
theorem IRow.set_ (h : IRow w g n f) (i : Nat) (v : Int) : IRow (w.setCell ⟨g, i, none⟩ (.int .i64 v)) g n (fun j => if j = i then v else f j) := by
  obtain ⟨cur, h1, h2⟩ := h
  refine ⟨cur.setIfInBounds i (.int .i64 v), ?_, fun j hj => ?_⟩
  · simp [World.setCell, Array.getElem?_modify, h1]
  · have h3 := h2 j hj
    have hlt := (Array.getElem?_eq_some_iff.1 h3).1
    by_cases e : j = i
    · subst e; simp [hlt]
    · rw [Array.getElem?_setIfInBounds_ne (fun h => e h.symm), h3]; simp only [if_neg e]
theorem IRow.rd (h : IRow w g n f) {l : List Nat} (hl : l.length = n) (hf : ∀ j, j < n → f j = ((l[j]?.getD 0 : Nat) : Int)) : Rd w (some ⟨g, 0, none⟩) (ints l) := fun _ => by
  refine ⟨g, 0, rfl, h.lt, fun i hi => ?_⟩
  rw [ints_length, hl] at hi
  rw [Nat.zero_add, h.cell hi, hf i hi]
  simp [ints, show i < l.length by omega]
end
theorem IRow.of_blk {w : World} {g n : Nat} {cs : Array Value} {f : Nat → Int} (h : Blk w g 3 cs) (hf : ∀ j, j < n → cs[j]? = some (.int .i64 (f j))) : IRow w g n f := ⟨cs, h, hf⟩
theorem OI.irow {w : World} {B : Nat} {v : Value} {l : List Nat} (h : OI w B v l) (hl : 0 < l.length) : ∃ g c, v = .slice (some ⟨g, 0, none⟩) l.length c ∧ l.length ≤ c ∧ B ≤ g ∧ IRow w g l.length (fun j => ((l[j]?.getD 0 : Nat) : Int)) := by
  have hb := fun k hk => h.lt k hk
  rcases h.2 with ⟨h1, h2⟩ | ⟨g, cap, cur, h2, h3, h4, h5, h6, h7, h8⟩
  · omega
  · refine ⟨g, cap, h2, h5, h3, cur, h4, fun j hj => ?_⟩
    have hlen : (ints l).length = l.length := ints_length l
    rw [Nat.mul_one] at h8
    have h9 : (ints l)[j]? = cur[j]? := by
      rw [← h8, List.getElem?_take, if_pos hj]; simp
    rw [← h9]
    simp [ints, hj]
/-- A subtraction's state: digits that are done, and a borrow. -/
structure SubSt (xs ys : List Nat) (i : Nat) (r : List Nat) (β : Nat) : Prop where
  len : r.length = i
  lt : ∀ d ∈ r, d < G6
  b1 : β ≤ 1
  val : Dig.val G6 (xs.take i) + G6 ^ i * β = Dig.val G6 r + Dig.val G6 (ys.take i)
theorem SubSt.step {xs ys r : List Nat} {i β d β' : Nat} (h : SubSt xs ys i r β) (hd : d < G6) (hb : β' ≤ 1) (he : xs[i]?.getD 0 + G6 * β' = β + d + ys[i]?.getD 0) : SubSt xs ys (i + 1) (r ++ [d]) β' := by
  refine ⟨by rw [List.length_append, h.len]; rfl, fun x hx => ?_, hb, ?_⟩
  · rcases List.mem_append.1 hx with h1 | h1
    · exact h.lt x h1
    · simp at h1; subst h1; exact hd
  · rw [val_take_next, val_take_next, Dig.val_snoc, h.len, Nat.pow_succ]
    have h1 := h.val
    have h2 : G6 ^ i * (xs[i]?.getD 0 + G6 * β') = G6 ^ i * (β + d + ys[i]?.getD 0) := by rw [he]
    rw [Nat.mul_add, Nat.mul_add, Nat.mul_add, ← Nat.mul_assoc] at h2
    omega
theorem SubSt.done {xs ys r : List Nat} {n β : Nat} (h : SubSt xs ys n r β) (hx : xs.length ≤ n) (hy : ys.length ≤ n) (hle : Dig.val G6 ys ≤ Dig.val G6 xs) : β = 0 ∧ Dig.val G6 r = Dig.val G6 xs - Dig.val G6 ys := by
  have h1 := h.val
  rw [List.take_of_length_le hx, List.take_of_length_le hy] at h1
  have h2 := Dig.val_lt G6_pos h.lt
  rw [h.len] at h2
  have h3 := h.b1
  rcases Nat.eq_zero_or_pos β with h0 | h0
  · subst h0; exact ⟨rfl, by rw [Nat.mul_zero] at h1; omega⟩
  · obtain rfl : β = 1 := by omega
    rw [Nat.mul_one] at h1
    omega
/-- The row at the beginning of round i. -/
def subF (xs r : List Nat) (i β : Nat) (j : Nat) : Int := if j < i then ((r[j]?.getD 0 : Nat) : Int) else if j = i then ((xs[j]?.getD 0 : Nat) : Int) - β else ((xs[j]?.getD 0 : Nat) : Int)
end Go.Proofs.YtekiomanidimnaaGreatDoor
