/- Arguments in memory: a slice whose elements have k cells each, read as a list; topologies, masks and fractions as arguments. -/
import Derived.Test.YtjmkcckbbgpkeaaGreatDoorMC
import Derived.Lib.SmallJoins
import Derived.Deep.Slices
import Derived.OpenShut
set_option linter.unusedVariables false
set_option linter.unusedSimpArgs false

namespace Go.Proofs.YtjmkcckbbgpkeaaGreatDoor
open Go.RowKit Go.ChangeShapes Go.WideShapes Go.Deep
theorem flatMap_k {α : Type} (mk : α → List Value) (k : Nat) (hk : ∀ a, (mk a).length = k) (l : List α) (i r : Nat) (hi : i < l.length) (hr : r < k) : (l.flatMap mk)[i * k + r]? = (mk l[i])[r]? := by
  induction l generalizing i with
  | nil => simp at hi
  | cons a l ih =>
    cases i with
    | zero =>
      simp only [List.flatMap_cons, Nat.zero_mul, Nat.zero_add, List.getElem_cons_zero]
      rw [List.getElem?_append_left (by rw [hk]; exact hr)]
    | succ i =>
      simp only [List.flatMap_cons, List.getElem_cons_succ]
      rw [List.getElem?_append_right (by rw [hk, Nat.add_mul]; omega), hk, show (i + 1) * k + r - k = i * k + r by rw [Nat.add_mul]; omega]
      exact ih i (by simpa using hi)
theorem flatMap_len {α : Type} (mk : α → List Value) (k : Nat) (hk : ∀ a, (mk a).length = k) (l : List α) : (l.flatMap mk).length = l.length * k := by
  induction l with
  | nil => simp
  | cons a l ih => rw [List.flatMap_cons, List.length_append, ih, hk, List.length_cons, Nat.add_mul]; omega
theorem cell_spot {w : World} {a : Addr} {v : Value} (h : w.cell? a = some v) : a.spot = none ∧ a.block < w.heap.size := by
  unfold World.cell? at h
  split at h
  · rename_i hb
    split at h
    · cases h
    · rename_i hs
      refine ⟨by cases ha : a.spot <;> simp_all, Nat.lt_of_not_le fun hge => by rw [Array.getElem?_eq_none hge] at hb; cases hb⟩
  · cases h
theorem open_list {H : Type} {enc : TypeId × Value → H} {P : Program} {w : World} {base : Nat} {spare : Nat → Bool} {held : Bool} {α : Type} [Inhabited α] (mk : α → List Value) (wf : α → Prop) (k : Nat) (hk1 : 0 < k) (hk : ∀ a, (mk a).length = k) {t e : TypeId} {fuel : Nat} {cs : List Value} {x : DataW H × List MemPlace}
    (ht : P.underlying t = some (.slice e)) (hc : P.cellsOf e = k) (hel : ∀ (n : Nat) (cs' : List Value) (y : DataW H × List MemPlace), DataW.trod enc P w base spare held n e cs' = some y → ∃ a, cs' = mk a ∧ wf a)
    (h : DataW.trod enc P w base spare held fuel t cs = some x) :
    ∃ (A : Option Addr) (l : List α) (c : Nat), cs = [.slice A l.length c] ∧ l.length ≤ c ∧ c ≤ maxLen ∧ (∀ a ∈ l, wf a) ∧ Rd w A (l.flatMap mk) := by
  rcases open_slice ht h with ⟨rfl, _⟩ | ⟨a, len, cap, m, n, D, Pl, rfl, hb, hl, hm, hmm, rfl, hx⟩
  · exact ⟨none, [], 0, rfl, Nat.le_refl _, Nat.zero_le _, (fun _ h => by cases h), Rd.nil _ _⟩
  have hlm : len ≤ m := by rw [hmm]; split <;> omega
  obtain ⟨F, hF⟩ := choose_lt (α := α) (p := fun i v => w.cells? base (a.add (i * k)) k = some (mk v) ∧ wf v) (n := m) (fun i hi => by
    obtain ⟨cs', h1, h2⟩ := hx i hi
    rw [hc] at h1
    obtain ⟨v, rfl, hv⟩ := hel _ _ _ h2
    exact ⟨v, h1, hv⟩)
  refine ⟨some a, (List.range len).map F, cap, by simp, by simpa using hl, hm, ?_, ?_⟩
  · intro v hv
    obtain ⟨i, hi, rfl⟩ := List.mem_map.1 hv
    exact (hF i (by have := List.mem_range.1 hi; omega)).2
  · intro hne
    have hpos : 0 < len := by
      rcases Nat.eq_zero_or_pos len with h0 | h0
      · subst h0; simp at hne
      · exact h0
    have hcell : ∀ i r, i < len → r < k → w.cell? (a.add (i * k + r)) = (mk (F i))[r]? := fun i r hi hr => by
      have := (World.cells?_some (hF i (by omega)).1).2.2 r hr
      rwa [add_add] at this
    have h00 := hcell 0 0 hpos hk1
    rw [show a.add (0 * k + 0) = a from by simp [Addr.add], List.getElem?_eq_getElem (by rw [hk]; exact hk1)] at h00
    obtain ⟨hs, hlt⟩ := cell_spot h00
    obtain ⟨b, o, s⟩ := a
    simp only at hs hlt
    subst hs
    refine ⟨b, o, rfl, hlt, fun j hj => ?_⟩
    rw [flatMap_len mk k hk, List.length_map, List.length_range] at hj
    have hd : j / k < len := Nat.div_lt_of_lt_mul (by rw [Nat.mul_comm]; exact hj)
    have hr := Nat.mod_lt j hk1
    have h1 := hcell (j / k) (j % k) hd hr
    have h2 := flatMap_k mk k hk ((List.range len).map F) (j / k) (j % k) (by simpa using hd) hr
    rw [addr_add, Nat.mul_comm, Nat.div_add_mod] at h1
    rw [Nat.mul_comm (j / k) k, Nat.div_add_mod] at h2
    rw [h1, h2]
    simp
theorem wf_i64 {n : Int} (h : (Lit.int .i64 n).wf = true) : i64 n := by
  simp [Lit.wf, IntKind.min, IntKind.max, IntKind.signed, IntKind.bits] at h
  unfold i64
  omega
theorem bools_flat (l : List Bool) : bools l = l.flatMap fun b : Bool => [Value.bool b] := by
  induction l with
  | nil => rfl
  | cons a l ih => rw [List.flatMap_cons, ← ih]; rfl
theorem open_bools {H : Type} {enc : TypeId × Value → H} {P : Program} {w : World} {base : Nat} {spare : Nat → Bool} {held : Bool} {t e : TypeId} {fuel : Nat} {cs : List Value} {x : DataW H × List MemPlace}
    (ht : P.underlying t = some (.slice e)) (he : P.underlying e = some .bool) (hc : P.cellsOf e = 1) (h : DataW.trod enc P w base spare held fuel t cs = some x) :
    ∃ (A : Option Addr) (l : List Bool) (c : Nat), cs = [.slice A l.length c] ∧ l.length ≤ c ∧ c ≤ maxLen ∧ Rd w A (bools l) := by
  obtain ⟨A, l, c, h1, h2, h3, _, h5⟩ := open_list (fun b : Bool => [Value.bool b]) (fun _ => True) 1 (by decide) (fun _ => rfl) ht hc (fun n cs' y hy => by
    obtain ⟨b, rfl, _⟩ := DataW.trod_bool he hy
    exact ⟨b, rfl, trivial⟩) h
  refine ⟨A, l, c, h1, h2, h3, ?_⟩
  rw [bools_flat]
  exact h5
instance : Inhabited Lk := ⟨⟨0, 0, 0, 0, 0, 0, 0⟩⟩
theorem list7 {α : Type} {l : List α} (h : l.length = 7) : ∃ a b c d e f g, l = [a, b, c, d, e, f, g] := by
  match l, h with
  | [a, b, c, d, e, f, g], _ => exact ⟨a, b, c, d, e, f, g, rfl⟩
theorem list2 {α : Type} {l : List α} (h : l.length = 2) : ∃ a b, l = [a, b] := by
  match l, h with
  | [a, b], _ => exact ⟨a, b, rfl⟩
theorem some_at {α : Type} {l : List α} {n : Nat} (i : Nat) (h : l.length = n) (hi : i < n) : ∃ y, l[i]? = some y := ⟨_, List.getElem?_eq_getElem (by omega)⟩
section
variable {H : Type} {enc : TypeId × Value → H} {w : World} {base : Nat} {spare : Nat → Bool} {held : Bool}
theorem Tryz.cells_int : Tryz.prog.cellsOf 3 = 1 := by kernel_rfl
theorem open_int {n : Nat} {v : Value} {y : Option (DataW H × List MemPlace)} {z : DataW H × List MemPlace} (hy : y = some z) (h : DataW.trod enc Tryz.prog w base spare held n 3 [v] = y) : ∃ x, v = .int .i64 x ∧ i64 x := by
  rw [hy] at h
  obtain ⟨x, e, _, hw⟩ := DataW.trod_int Tryz.underlying3 h
  exact ⟨x, by simpa using e, wf_i64 hw⟩
theorem open_link {n : Nat} {cs : List Value} {y : DataW H × List MemPlace} (h : DataW.trod enc Tryz.prog w base spare held n 58 cs = some y) : ∃ l : Lk, cs = l.cells ∧ l.wf := by
  obtain ⟨xs, m, _, _, hl, hlen, hf⟩ := DataW.trod_struct Tryz.underlying58 h
  have c7 : Tryz.prog.cellsOf 58 = 7 := by kernel_rfl
  have c2 : Tryz.prog.cellsOf 56 = 2 := by kernel_rfl
  have c1 := Tryz.cells_int
  rw [c7] at hl
  obtain ⟨a0, a1, a2, a3, a4, a5, a6, rfl⟩ := list7 hl
  have hlen : xs.length = 6 := hlen
  have h0 : DataW.trod enc Tryz.prog w base spare held m 3 (List.take (Tryz.prog.cellsOf 3) (List.drop 0 [a0, a1, a2, a3, a4, a5, a6])) = xs[0]? := hf 0 _ rfl
  have h1 : DataW.trod enc Tryz.prog w base spare held m 3 (List.take (Tryz.prog.cellsOf 3) (List.drop 1 [a0, a1, a2, a3, a4, a5, a6])) = xs[1]? := hf 1 _ rfl
  have h2 : DataW.trod enc Tryz.prog w base spare held m 56 (List.take (Tryz.prog.cellsOf 56) (List.drop 2 [a0, a1, a2, a3, a4, a5, a6])) = xs[2]? := hf 2 _ rfl
  have h3 : DataW.trod enc Tryz.prog w base spare held m 3 (List.take (Tryz.prog.cellsOf 3) (List.drop 4 [a0, a1, a2, a3, a4, a5, a6])) = xs[3]? := hf 3 _ rfl
  have h4 : DataW.trod enc Tryz.prog w base spare held m 3 (List.take (Tryz.prog.cellsOf 3) (List.drop 5 [a0, a1, a2, a3, a4, a5, a6])) = xs[4]? := hf 4 _ rfl
  have h5 : DataW.trod enc Tryz.prog w base spare held m 3 (List.take (Tryz.prog.cellsOf 3) (List.drop 6 [a0, a1, a2, a3, a4, a5, a6])) = xs[5]? := hf 5 _ rfl
  clear hf h
  obtain ⟨y0, e0⟩ := some_at 0 hlen (by omega)
  obtain ⟨y1, e1⟩ := some_at 1 hlen (by omega)
  obtain ⟨y2, e2⟩ := some_at 2 hlen (by omega)
  obtain ⟨y3, e3⟩ := some_at 3 hlen (by omega)
  obtain ⟨y4, e4⟩ := some_at 4 hlen (by omega)
  obtain ⟨y5, e5⟩ := some_at 5 hlen (by omega)
  rw [c1] at h0 h1 h3 h4 h5
  rw [c2] at h2
  obtain ⟨x0, rfl, g0⟩ := open_int e0 h0
  obtain ⟨x1, rfl, g1⟩ := open_int e1 h1
  obtain ⟨x4, rfl, g4⟩ := open_int e3 h3
  obtain ⟨x5, rfl, g5⟩ := open_int e4 h4
  obtain ⟨x6, rfl, g6⟩ := open_int e5 h5
  rw [e2] at h2
  obtain ⟨zs, m2, _, _, _, hz, hel⟩ := DataW.trod_array Tryz.underlying56 h2
  have k0 := hel 0 (by decide)
  have k1 := hel 1 (by decide)
  obtain ⟨z0, d0⟩ := some_at 0 hz (by omega)
  obtain ⟨z1, d1⟩ := some_at 1 hz (by omega)
  simp only [c1] at k0 k1
  obtain ⟨x2, rfl, g2⟩ := open_int d0 k0
  obtain ⟨x3, rfl, g3⟩ := open_int d1 k1
  exact ⟨⟨x0, x1, x2, x3, x4, x5, x6⟩, rfl, g0, g1, g2, g3, g4, g5, g6⟩
set_option maxRecDepth 100000 in
theorem open_top {v : Value} {d : DataW H} {p : List MemPlace} {r : Reach} {b0 : Nat} (hv : Value.okWide Tryz.prog w r b0 25 v) (h : DataW.Trod enc Tryz.prog w base spare held 25 v d p) :
    ∃ (t : Tp) (AO : Option Addr) (co : Nat) (AL : Option Addr) (cl : Nat), v = .agg #[.int .i64 t.nodes, .slice AO t.over.length co, .slice AL t.links.length cl] ∧ i64 t.nodes ∧ t.over.length ≤ co ∧ t.links.length ≤ cl ∧ co ≤ maxLen ∧ cl ≤ maxLen ∧ Rd w AO (bools t.over) ∧ Rd w AL (t.links.flatMap Lk.cells) ∧ ∀ l ∈ t.links, l.wf := by
  obtain ⟨v0, v1, v2, y0, y1, y2, n, rfl, _, _, h0, h1, h2⟩ := Joins.open_agg3 Tryz.underlying25 (by kernel_rfl) (by kernel_rfl) hv h
  obtain ⟨N, rfl, hN⟩ := open_int rfl h0
  obtain ⟨AO, over, co, e1, l1, m1, r1⟩ := open_bools Tryz.underlying22 Tryz.underlying4 (by kernel_rfl) h1
  obtain ⟨AL, links, cl, e2, l2, m2, wf, r2⟩ := open_list Lk.cells Lk.wf 7 (by decide) (fun _ => rfl) Tryz.underlying23 (by kernel_rfl) (fun n cs y hy => open_link hy) h2
  injection e1 with e1
  injection e2 with e2
  subst e1 e2
  exact ⟨⟨N, over, links⟩, AO, co, AL, cl, rfl, hN, l1, l2, m1, m2, r1, r2, wf⟩
/-- A fraction as it came in: two small numbers. -/
structure Fr where
  num : Int
  den : Int
instance : Inhabited Fr := ⟨⟨0, 0⟩⟩
def Fr.cells (x : Fr) : List Value := [.int .i8 x.num, .int .i8 x.den]
def Fr.wf (x : Fr) : Prop := (-128 ≤ x.num ∧ x.num ≤ 127) ∧ (-128 ≤ x.den ∧ x.den ≤ 127)
theorem open_frac {n : Nat} {cs : List Value} {y : DataW H × List MemPlace} (h : DataW.trod enc Tryz.prog w base spare held n 217 cs = some y) : ∃ x : Fr, cs = x.cells ∧ x.wf := by
  obtain ⟨xs, m, _, _, hl, hlen, hf⟩ := DataW.trod_struct Tryz.underlying217 h
  have c2 : Tryz.prog.cellsOf 217 = 2 := by kernel_rfl
  have c1 : Tryz.prog.cellsOf 215 = 1 := by kernel_rfl
  rw [c2] at hl
  obtain ⟨a0, a1, rfl⟩ := list2 hl
  have hlen : xs.length = 2 := hlen
  have h0 : DataW.trod enc Tryz.prog w base spare held m 215 (List.take (Tryz.prog.cellsOf 215) (List.drop 0 [a0, a1])) = xs[0]? := hf 0 _ rfl
  have h1 : DataW.trod enc Tryz.prog w base spare held m 215 (List.take (Tryz.prog.cellsOf 215) (List.drop 1 [a0, a1])) = xs[1]? := hf 1 _ rfl
  clear hf h
  obtain ⟨y0, e0⟩ := some_at 0 hlen (by omega)
  obtain ⟨y1, e1⟩ := some_at 1 hlen (by omega)
  rw [c1] at h0 h1
  rw [e0] at h0
  rw [e1] at h1
  obtain ⟨x0, f0, _, g0⟩ := DataW.trod_int Tryz.underlying215 h0
  obtain ⟨x1, f1, _, g1⟩ := DataW.trod_int Tryz.underlying215 h1
  simp at f0 f1
  subst f0 f1
  exact ⟨⟨x0, x1⟩, rfl, bounds_i8 g0, bounds_i8 g1⟩
set_option maxRecDepth 100000 in
/-- A query as it came in. -/
theorem open_query {v : Value} {d : DataW H} {p : List MemPlace} {r : Reach} {b0 : Nat} (hv : Value.okWide Tryz.prog w r b0 28 v) (h : DataW.Trod enc Tryz.prog w base spare held 28 v d p) :
    ∃ (AD : Option Addr) (down : List Bool) (cd : Nat) (AF : Option Addr) (fr : List Fr) (cf : Nat) (s dd : Int), v = .agg #[.slice AD down.length cd, .slice AF fr.length cf, .int .i64 s, .int .i64 dd] ∧ down.length ≤ cd ∧ cd ≤ maxLen ∧ Rd w AD (bools down) ∧ fr.length ≤ cf ∧ cf ≤ maxLen ∧ Rd w AF (fr.flatMap Fr.cells) ∧ (∀ x ∈ fr, x.wf) ∧ i64 s ∧ i64 dd := by
  obtain ⟨v0, v1, v2, v3, y0, y1, y2, y3, n, rfl, _, _, h0, h1, h2, h3⟩ := Joins.open_agg4 Tryz.underlying28 (by kernel_rfl) (by kernel_rfl) hv h
  obtain ⟨AD, down, cd, e1, l1, m1, r1⟩ := open_bools Tryz.underlying22 Tryz.underlying4 (by kernel_rfl) h0
  obtain ⟨AF, fr, cf, e2, l2, m2, wf, r2⟩ := open_list Fr.cells Fr.wf 2 (by decide) (fun _ => rfl) Tryz.underlying26 (by kernel_rfl) (fun n cs y hy => open_frac hy) h1
  obtain ⟨s, rfl, hs⟩ := open_int rfl h2
  obtain ⟨dd, rfl, hd⟩ := open_int rfl h3
  injection e1 with e1
  injection e2 with e2
  subst e1 e2
  exact ⟨AD, down, cd, AF, fr, cf, s, dd, rfl, l1, m1, r1, l2, m2, r2, wf, hs, hd⟩
end
end Go.Proofs.YtjmkcckbbgpkeaaGreatDoor
