/- Arguments in memory: a slice whose elements have k cells each, read as a list; topologies, masks and fractions as arguments. -/
import Derived.Test.YtekiomanidimnaaDoorMC
import Derived.Lib.SmallJoins
import Derived.Deep.Slices
import Derived.OpenShut
set_option linter.unusedVariables false
set_option linter.unusedSimpArgs false

namespace Go.Proofs.YtekiomanidimnaaDoor
open Go.RowKit Go.ChangeShapes Go.WideShapes Go.Deep
theorem flatMap_k {α : Type} (mk : α → List Value) (k : Nat) (hk : ∀ a, (mk a).length = k) (l : List α) (i r : Nat) (hi : i < l.length) (hr : r < k) : (l.flatMap mk)[i * k + r]? = (mk l[i])[r]? := by
  induction l generalizing i with
  | nil => simp at hi
  | cons a l ih =>
    cases i with
    | zero =>
      simp only [List.flatMap_cons, Nat.zero_mul, Nat.zero_add, List.getElem_cons_zero]
      rw [List.getElem?_append_left (by rw [hk]; exact hr)]
    | succ i =>
      simp only [List.flatMap_cons, List.getElem_cons_succ]
      rw [List.getElem?_append_right (by rw [hk, Nat.add_mul]; omega), hk, show (i + 1) * k + r - k = i * k + r by rw [Nat.add_mul]; omega]
      exact ih i (by simpa using hi)
theorem flatMap_len {α : Type} (mk : α → List Value) (k : Nat) (hk : ∀ a, (mk a).length = k) (l : List α) : (l.flatMap mk).length = l.length * k := by
  induction l with
  | nil => simp
  | cons a l ih => rw [List.flatMap_cons, List.length_append, ih, hk, List.length_cons, Nat.add_mul]; omega
theorem cell_spot {w : World} {a : Addr} {v : Value} (h : w.cell? a = some v) : a.spot = none ∧ a.block < w.heap.size := by
  unfold World.cell? at h
  split at h
  · rename_i hb
    split at h
    · cases h
    · rename_i hs
      refine ⟨by cases ha : a.spot <;> simp_all, Nat.lt_of_not_le fun hge => by rw [Array.getElem?_eq_none hge] at hb; cases hb⟩
  · cases h
theorem open_list {H : Type} {enc : TypeId × Value → H} {P : Program} {w : World} {base : Nat} {spare : Nat → Bool} {held : Bool} {α : Type} [Inhabited α] (mk : α → List Value) (wf : α → Prop) (k : Nat) (hk1 : 0 < k) (hk : ∀ a, (mk a).length = k) {t e : TypeId} {fuel : Nat} {cs : List Value} {x : DataW H × List MemPlace}
    (ht : P.underlying t = some (.slice e)) (hc : P.cellsOf e = k) (hel : ∀ (n : Nat) (cs' : List Value) (y : DataW H × List MemPlace), DataW.trod enc P w base spare held n e cs' = some y → ∃ a, cs' = mk a ∧ wf a)
    (h : DataW.trod enc P w base spare held fuel t cs = some x) :
    ∃ (A : Option Addr) (l : List α) (c : Nat), cs = [.slice A l.length c] ∧ l.length ≤ c ∧ c ≤ maxLen ∧ (∀ a ∈ l, wf a) ∧ Rd w A (l.flatMap mk) := by
  rcases open_slice ht h with ⟨rfl, _⟩ | ⟨a, len, cap, m, n, D, Pl, rfl, hb, hl, hm, hmm, rfl, hx⟩
  · exact ⟨none, [], 0, rfl, Nat.le_refl _, Nat.zero_le _, (fun _ h => by cases h), Rd.nil _ _⟩
  have hlm : len ≤ m := by rw [hmm]; split <;> omega
  obtain ⟨F, hF⟩ := choose_lt (α := α) (p := fun i v => w.cells? base (a.add (i * k)) k = some (mk v) ∧ wf v) (n := m) (fun i hi => by
    obtain ⟨cs', h1, h2⟩ := hx i hi
    rw [hc] at h1
    obtain ⟨v, rfl, hv⟩ := hel _ _ _ h2
    exact ⟨v, h1, hv⟩)
  refine ⟨some a, (List.range len).map F, cap, by simp, by simpa using hl, hm, ?_, ?_⟩
  · intro v hv
    obtain ⟨i, hi, rfl⟩ := List.mem_map.1 hv
    exact (hF i (by have := List.mem_range.1 hi; omega)).2
  · intro hne
    have hpos : 0 < len := by
      rcases Nat.eq_zero_or_pos len with h0 | h0
      · subst h0; simp at hne
      · exact h0
    have hcell : ∀ i r, i < len → r < k → w.cell? (a.add (i * k + r)) = (mk (F i))[r]? := fun i r hi hr => by
      have := (World.cells?_some (hF i (by omega)).1).2.2 r hr
      rwa [add_add] at this
    have h00 := hcell 0 0 hpos hk1
    rw [show a.add (0 * k + 0) = a from by simp [Addr.add], List.getElem?_eq_getElem (by rw [hk]; exact hk1)] at h00
    obtain ⟨hs, hlt⟩ := cell_spot h00
    obtain ⟨b, o, s⟩ := a
    simp only at hs hlt
    subst hs
    refine ⟨b, o, rfl, hlt, fun j hj => ?_⟩
    rw [flatMap_len mk k hk, List.length_map, List.length_range] at hj
    have hd : j / k < len := Nat.div_lt_of_lt_mul (by rw [Nat.mul_comm]; exact hj)
    have hr := Nat.mod_lt j hk1
    have h1 := hcell (j / k) (j % k) hd hr
    have h2 := flatMap_k mk k hk ((List.range len).map F) (j / k) (j % k) (by simpa using hd) hr
    rw [addr_add, Nat.mul_comm, Nat.div_add_mod] at h1
    rw [Nat.mul_comm (j / k) k, Nat.div_add_mod] at h2
    rw [h1, h2]
    simp
theorem wf_i64 {n : Int} (h : (Lit.int .i64 n).wf = true) : i64 n := by
  simp [Lit.wf, IntKind.min, IntKind.max, IntKind.signed, IntKind.bits] at h
  unfold i64
  omega
theorem bools_flat (l : List Bool) : bools l = l.flatMap fun b : Bool => [Value.bool b] := by
  induction l with
  | nil => rfl
  | cons a l ih => rw [List.flatMap_cons, ← ih]; rfl
theorem open_bools {H : Type} {enc : TypeId × Value → H} {P : Program} {w : World} {base : Nat} {spare : Nat → Bool} {held : Bool} {t e : TypeId} {fuel : Nat} {cs : List Value} {x : DataW H × List MemPlace}
    (ht : P.underlying t = some (.slice e)) (he : P.underlying e = some .bool) (hc : P.cellsOf e = 1) (h : DataW.trod enc P w base spare held fuel t cs = some x) :
    ∃ (A : Option Addr) (l : List Bool) (c : Nat), cs = [.slice A l.length c] ∧ l.length ≤ c ∧ c ≤ maxLen ∧ Rd w A (bools l) := by
  obtain ⟨A, l, c, h1, h2, h3, _, h5⟩ := open_list (fun b : Bool => [Value.bool b]) (fun _ => True) 1 (by decide) (fun _ => rfl) ht hc (fun n cs' y hy => by
    obtain ⟨b, rfl, _⟩ := DataW.trod_bool he hy
    exact ⟨b, rfl, trivial⟩) h
  refine ⟨A, l, c, h1, h2, h3, ?_⟩
  rw [bools_flat]
  exact h5
instance : Inhabited Lk := ⟨⟨0, 0, 0, 0, 0, 0, 0⟩⟩
theorem list7 {α : Type} {l : List α} (h : l.length = 7) : ∃ a b c d e f g, l = [a, b, c, d, e, f, g] := by
  match l, h with
  | [a, b, c, d, e, f, g], _ => exact ⟨a, b, c, d, e, f, g, rfl⟩
theorem list2 {α : Type} {l : List α} (h : l.length = 2) : ∃ a b, l = [a, b] := by
  match l, h with
  | [a, b], _ => exact ⟨a, b, rfl⟩
theorem some_at {α : Type} {l : List α} {n : Nat} (i : Nat) (h : l.length = n) (hi : i < n) : ∃ y, l[i]? = some y := ⟨_, List.getElem?_eq_getElem (by omega)⟩
section
variable {H : Type} {enc : TypeId × Value → H} {w : World} {base : Nat} {spare : Nat → Bool} {held : Bool}
theorem Tryd.cells_int : Tryd.prog.cellsOf 3 = 1 := by kernel_rfl
theorem open_int {n : Nat} {v : Value} {y : Option (DataW H × List MemPlace)} {z : DataW H × List MemPlace} (hy : y = some z) (h : DataW.trod enc Tryd.prog w base spare held n 3 [v] = y) : ∃ x, v = .int .i64 x ∧ i64 x := by
  rw [hy] at h
  obtain ⟨x, e, _, hw⟩ := DataW.trod_int Tryd.underlying3 h
  exact ⟨x, by simpa using e, wf_i64 hw⟩
/-- A fraction as it came in: two small numbers. -/
structure Fr where
  num : Int
  den : Int
instance : Inhabited Fr := ⟨⟨0, 0⟩⟩
def Fr.cells (x : Fr) : List Value := [.int .i8 x.num, .int .i8 x.den]
def Fr.wf (x : Fr) : Prop := (-128 ≤ x.num ∧ x.num ≤ 127) ∧ (-128 ≤ x.den ∧ x.den ≤ 127)
end
end Go.Proofs.YtekiomanidimnaaDoor
