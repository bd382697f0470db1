/- For waypointref46.Round: an own row of integers beside numbers of waypointref02, whose digits are integers, too. -/
import Derived.Test.YtekiomanidimnaaGreatDoorRke
import Derived.Test.YtekiomanidimnaaGreatDoorMV
set_option linter.unusedVariables false
set_option linter.unusedSimpArgs false

namespace Go.Proofs.YtekiomanidimnaaGreatDoor
open Go.RowKit
theorem own_apart {w : World} {B1 B2 s1 s2 n1 n2 : Nat} {e1 e2 : TypeId} {v1 v2 : Value} {xs1 xs2 : List Value} (h1 : w.ownsRow B1 e1 s1 v1 n1 xs1) (h2 : w.ownsRow B2 e2 s2 v2 n2 xs2) (hne : e1 ≠ e2) : v1.ownBlock = none ∨ v1.ownBlock ≠ v2.ownBlock := by
  cases hk : v1.ownBlock with
  | none => exact .inl rfl
  | some k =>
    right
    intro e
    obtain ⟨c1, f1, g1⟩ := own_heap h1 k hk
    obtain ⟨c2, f2, g2⟩ := own_heap h2 k e.symm
    rw [g1] at g2
    injection g2 with g2
    injection g2 with _ g2
    exact hne g2
theorem wpList_pushI {ops : Array Oper} {rest : List Oper} {o : Oper} {a : Act} {Q : Exit → Act → World → Prop} (w : World) (hgd : o.guard = none) (s x : Operand)
    (ho : o.op = .call { callee := .builtin .append, args := #[s, x], argTypes := #[39, 39] })
    (B : Nat) (v : Value) (n : Nat) (xs : List Value) (hs : a.eval s = v) (hown : w.ownsRow B 3 1 v n xs) (u : Value) (m : Nat) (hu : u = .int .i64 (m : Int)) (hx : a.eval x = .slice (some ⟨w.heap.size, 0, none⟩) 1 1)
    (hl : n ≤ 1000000000) (hB : B ≤ w.heap.size)
    (h : ∀ v' w', w'.ownsRow B 3 1 v' (n + 1) (xs ++ [.int .i64 (m : Int)]) → (w.alloc (.cells #[u] 3)).grownBy w' v.ownBlock → (∃ A c, v' = .slice A (n + 1) c) → (v'.ownBlock = v.ownBlock ∨ v'.ownBlock = some (w.heap.size + 1)) → wpList Tryz.prog ops Q rest (a.put o.dst v') w') : wpList Tryz.prog ops Q (o :: rest) a (w.alloc (.cells #[u] 3)) := by
  obtain ⟨ti, hi, hz0, hz1, hz2⟩ := info_parts Tryz.info3
  subst hu
  refine wpList_append_own_at _ hgd s x 39 ho B 3 ti _ 1 8 Tryz.underlying39 hi hz0 hz1 hz2 rfl (by decide) v n xs hs (hown.alloc _) ⟨w.heap.size, 0, none⟩ 1 1 [.int .i64 (m : Int)] hx rfl ?_ ?_ ?_ ?_ ?_ ?_
  · intro j u hj
    rw [addr_add, Nat.zero_add]
    exact ((Blk.new w _ _).cell j).trans (by simpa using hj)
  · intro u hu
    simp only [List.mem_cons, List.not_mem_nil, or_false] at hu
    subst hu
    rfl
  · unfold maxLen; omega
  · omega
  · simp; omega
  · intro v' w' k1 k2 _ k4
    refine h v' w' k1 k2 ?_ (by simpa using k4)
    rcases k1.2 with ⟨_, e2⟩ | ⟨g, cap, _, e1, _⟩
    · omega
    · exact ⟨_, cap, e1⟩
theorem ints_ne0 {ds : List Nat} (h : 0 < ds.length) : ints ds ≠ [] := fun e => by
  have := congrArg List.length e
  rw [ints_length] at this
  simp at this
  rw [this] at h
  simp at h
theorem GrpR.lt {w : World} {A : Option Addr} {n c N : Nat} (h : GrpR w A n c N) (h0 : 0 < n) {ad : Addr} (ha : A = some ad) : ad.block < w.heap.size := by
  obtain ⟨ds, h1, _, _, _, h5⟩ := h
  obtain ⟨b, o, cs, fr, e, hb, hc⟩ := h5 (ints_ne0 (by omega))
  rw [ha] at e
  injection e with e
  subst e
  exact lt_of_get hb
/-- The digits are in no block of a row that grows. -/
theorem GrpR.grownF {w w' : World} {A : Option Addr} {n c N : Nat} {row : Option Nat} (h : GrpR w A n c N) (hg : w.grownBy w' row) (hA : 0 < n → ∀ ad, A = some ad → row ≠ some ad.block) : GrpR w' A n c N := by
  obtain ⟨ds, h1, h2, h3, h4, h5⟩ := h
  refine ⟨ds, h1, h2, h3, h4, fun hx => ?_⟩
  obtain ⟨b, o, cs, fr, e, hb, hc⟩ := h5 hx
  refine ⟨b, o, cs, fr, e, (hg.block b (lt_of_get hb) ?_).trans hb, hc⟩
  intro e2
  refine hA ?_ _ e e2.symm
  rcases Nat.eq_zero_or_pos n with h0 | h0
  · exact absurd (show ints ds = [] by rw [List.length_eq_zero_iff.1 (show ds.length = 0 by omega)]; rfl) hx
  · exact h0
def FarR (k : Option Nat) (n : Nat) (A : Option Addr) (n' : Nat) (A' : Option Addr) : Prop := (0 < n → ∀ ad, A = some ad → k ≠ some ad.block) ∧ (0 < n' → ∀ ad, A' = some ad → k ≠ some ad.block)
theorem RQR.grownF {w w' : World} {neg : Bool} {A : Option Addr} {n c : Nat} {A' : Option Addr} {n' c' : Nat} {q : Rat} {row : Option Nat} (h : RQR w neg A n c A' n' c' q) (hg : w.grownBy w' row) (hA : FarR row n A n' A') : RQR w' neg A n c A' n' c' q :=
  ⟨h.1, h.2.1.grownF hg hA.1, h.2.2.grownF hg hA.2⟩
theorem RQR.far_new {w : World} {neg : Bool} {A : Option Addr} {n c : Nat} {A' : Option Addr} {n' c' : Nat} {q : Rat} (h : RQR w neg A n c A' n' c' q) {k : Nat} (hk : w.heap.size ≤ k) : FarR (some k) n A n' A' :=
  ⟨fun h0 ad e e2 => by injection e2 with e2; have := h.2.1.lt h0 e; omega, fun h0 ad e e2 => by injection e2 with e2; have := h.2.2.lt h0 e; omega⟩
theorem FrsR.far {w : World} {A A' : Option Addr} (h : FrsR w A A') {k : Option Nat} (hk : ∀ x, k = some x → x < w.heap.size) (n n' : Nat) : FarR k n A n' A' :=
  ⟨fun _ ad e e2 => by have := hk _ e2; have := h.1 ad e; omega, fun _ ad e e2 => by have := hk _ e2; have := h.2 ad e; omega⟩
/-- A number whose digits are in no block of a row. -/
def RQF (k : Option Nat) (w : World) (cs : List Value) (q : Rat) : Prop :=
  ∃ (neg : Bool) (A : Option Addr) (n c : Nat) (A' : Option Addr) (n' c' : Nat), cs = [.bool neg, .slice A n c, .slice A' n' c'] ∧ RQR w neg A n c A' n' c' q ∧ FarR k n A n' A'
theorem RQF.rqc {k : Option Nat} {w : World} {cs : List Value} {q : Rat} (h : RQF k w cs q) : RQC w cs q := by
  obtain ⟨neg, A, n, c, A', n', c', e, h1, _⟩ := h
  exact ⟨neg, A, n, c, A', n', c', e, h1⟩
theorem RQF.keep {k : Option Nat} (w w' : World) (cs : List Value) (q : Rat) (h : RQF k w cs q) (hx : Ext w w') : RQF k w' cs q := by
  obtain ⟨neg, A, n, c, A', n', c', e, h1, h2⟩ := h
  exact ⟨neg, A, n, c, A', n', c', e, h1.keep hx, h2⟩
theorem RQF.grow {k k' : Option Nat} {w w' : World} {cs : List Value} {q : Rat} (h : RQF k w cs q) (hg : w.grownBy w' k) (hk : k' = k ∨ k' = some w.heap.size) : RQF k' w' cs q := by
  obtain ⟨neg, A, n, c, A', n', c', e, h1, h2⟩ := h
  refine ⟨neg, A, n, c, A', n', c', e, h1.grownF hg h2, ?_⟩
  rcases hk with rfl | rfl
  · exact h2
  · exact h1.far_new (Nat.le_refl _)
theorem RQF.grownK {k : Option Nat} {w w' : World} {cs : List Value} {q : Rat} {t' : TypeId} {row : Option Nat} (h : RQF k w cs q) (hg : w.grownBy w' row) (hr : ∀ j, row = some j → ∃ cs fr, w.heap[j]? = some (.cells cs t' fr)) (hne : 3 ≠ t') : RQF k w' cs q := by
  obtain ⟨neg, A, n, c, A', n', c', e, h1, h2⟩ := h
  obtain ⟨neg2, A2, n2, c2, A2', n2', c2', e2, h3⟩ := RQC.grownK ⟨neg, A, n, c, A', n', c', e, h1⟩ hg hr hne
  rw [e] at e2
  simp only [List.cons.injEq, Value.bool.injEq, Value.slice.injEq, and_true] at e2
  obtain ⟨rfl, ⟨rfl, rfl, rfl⟩, rfl, rfl, rfl⟩ := e2
  exact ⟨_, _, _, _, _, _, _, e, h3, h2⟩
theorem RQR.grownK {w w' : World} {neg : Bool} {A : Option Addr} {n c : Nat} {A' : Option Addr} {n' c' : Nat} {q : Rat} {t' : TypeId} {row : Option Nat} (h : RQR w neg A n c A' n' c' q) (hg : w.grownBy w' row) (hr : ∀ j, row = some j → ∃ cs fr, w.heap[j]? = some (.cells cs t' fr)) (hne : 3 ≠ t') : RQR w' neg A n c A' n' c' q := by
  obtain ⟨neg2, A2, n2, c2, A2', n2', c2', e2, h3⟩ := RQC.grownK ⟨neg, A, n, c, A', n', c', rfl, h⟩ hg hr hne
  simp only [List.cons.injEq, Value.bool.injEq, Value.slice.injEq, and_true] at e2
  obtain ⟨rfl, ⟨rfl, rfl, rfl⟩, rfl, rfl, rfl⟩ := e2
  exact h3
/-- Both rows of Round, under way. -/
structure RoT (wB wr : World) (vo vr : Value) (qs : List Rat) (T i : Nat) : Prop where
  oi : wr.ownsRow wB.heap.size 3 1 vo i (ints ((List.range i).map fun j => flN (quoQ qs T j)))
  oq : OQ (RQF vo.ownBlock) 51 wr wB.heap.size vr ((List.range i).map (restQ qs T))
  ext : Ext wB wr
theorem RoT.keep {wB wr w' : World} {vo vr : Value} {qs : List Rat} {T i : Nat} (h : RoT wB wr vo vr qs T i) (hx : Ext wr w') : RoT wB w' vo vr qs T i :=
  ⟨h.oi.kept (grown_ext hx) (own_none _), h.oq.keep RQF.keep hx, h.ext.tr hx⟩
theorem ints_next (f : Nat → Nat) (i : Nat) : ints ((List.range (i + 1)).map f) = ints ((List.range i).map f) ++ [.int .i64 ((f i : Nat) : Int)] := by
  rw [List.range_succ]; simp [ints]
/-- The weights, of which the first are raised. -/
def midTo (n : Nat) (f g : Nat → Nat) (i : Nat) : List Nat := (List.range n).map fun j => if j < i then f j else g j
theorem midTo_len (n : Nat) (f g : Nat → Nat) (i : Nat) : (midTo n f g i).length = n := by unfold midTo; simp
theorem midTo_get (n : Nat) (f g : Nat → Nat) (i j : Nat) (hj : j < n) : (midTo n f g i)[j]? = some (if j < i then f j else g j) := by
  unfold midTo
  rw [List.getElem?_map, List.getElem?_range hj]; rfl
theorem midTo_zero (n : Nat) (f g : Nat → Nat) : midTo n f g 0 = (List.range n).map g := by
  unfold midTo
  apply List.map_congr_left
  intro j _
  rw [if_neg (by omega)]
theorem midTo_end (n : Nat) (f g : Nat → Nat) : midTo n f g n = (List.range n).map f := by
  unfold midTo
  apply List.map_congr_left
  intro j hj
  rw [if_pos (List.mem_range.1 hj)]
theorem midTo_next (n : Nat) (f g : Nat → Nat) {i : Nat} (hi : i < n) : midTo n f g (i + 1) = (midTo n f g i).set i (f i) := by
  apply List.ext_getElem?
  intro j
  by_cases hj : j < n
  · rw [midTo_get n f g (i + 1) j hj]
    by_cases e : i = j
    · subst e
      rw [List.getElem?_set_self (by rw [midTo_len]; exact hi), if_pos (by omega)]
    · rw [List.getElem?_set_ne e, midTo_get n f g i j hj]
      by_cases h : j < i
      · rw [if_pos h, if_pos (by omega)]
      · rw [if_neg h, if_neg (by omega)]
  · rw [List.getElem?_eq_none (by rw [midTo_len]; omega), List.getElem?_eq_none (by rw [List.length_set, midTo_len]; omega)]
theorem midTo_same (n : Nat) (f g : Nat → Nat) {i : Nat} (hi : i < n) (h : f i = g i) : midTo n f g (i + 1) = midTo n f g i := by
  rw [midTo_next n f g hi]
  apply List.ext_getElem?
  intro j
  by_cases e : i = j
  · subst e
    rw [List.getElem?_set_self (by rw [midTo_len]; exact hi), midTo_get n f g i i hi, if_neg (by omega), h]
  · rw [List.getElem?_set_ne e]
/-- A list of numbers beside a row of integers. -/
structure RoU (wB wr : World) (gw : Nat) (A : Option Addr) (ws : List Nat) (rs : List Rat) : Prop where
  nr : NRow wr gw ws
  ql : ∃ css : List (List Value), css.length = rs.length ∧ (∀ cs ∈ css, cs.length = 3) ∧ RdT wr 51 A css.flatten ∧ ∀ (i : Nat) (q : Rat), rs[i]? = some q → ∃ cs, css[i]? = some cs ∧ RQF (some gw) wr cs q
  ext : Ext wB wr
  gw : wB.heap.size ≤ gw
theorem own_rdT {w : World} {B n c s : Nat} {e : TypeId} {A : Option Addr} {xs : List Value} (h : w.ownsRow B e s (.slice A n c) n xs) : RdT w e A xs := by
  have hl := h.1
  rcases h.2 with ⟨h3, h4⟩ | ⟨g', cap, cur, h3, h4, h5, h6, h7, h8, h9⟩
  · have : xs = [] := List.eq_nil_of_length_eq_zero (by rw [hl, h4, Nat.zero_mul])
    subst this
    exact RdT.nil _ _ _
  · injection h3 with e1 e2 e3
    refine fun _ => ⟨g', 0, cur, (0, 0), e1, h5, fun i hi => ?_⟩
    rw [Nat.zero_add, ← h9, List.getElem?_take, if_pos (by omega)]
    simp
theorem RoU.rql {wB wr : World} {gw : Nat} {A : Option Addr} {ws : List Nat} {rs : List Rat} (h : RoU wB wr gw A ws rs) : QLg RQC wr A rs := by
  obtain ⟨css, h1, h2, h3, h4⟩ := h.ql
  refine ⟨css, h1, h2, h3.rd, fun i q hq => ?_⟩
  obtain ⟨cs, k1, k2⟩ := h4 i q hq
  exact ⟨cs, k1, k2.rqc⟩
theorem RoU.keep {wB wr w' : World} {gw : Nat} {A : Option Addr} {ws : List Nat} {rs : List Rat} (h : RoU wB wr gw A ws rs) (hx : Ext wr w') : RoU wB w' gw A ws rs := by
  obtain ⟨css, h1, h2, h3, h4⟩ := h.ql
  refine ⟨h.nr.keep hx, ⟨css, h1, h2, h3.keep hx, fun i q hq => ?_⟩, h.ext.tr hx, h.gw⟩
  obtain ⟨cs, k1, k2⟩ := h4 i q hq
  exact ⟨cs, k1, RQF.keep _ _ _ _ k2 hx⟩
theorem RoU.put {wB wr : World} {gw : Nat} {A : Option Addr} {ws : List Nat} {rs : List Rat} (h : RoU wB wr gw A ws rs) (v : Nat) {i : Nat} (hi : i < ws.length) : RoU wB (wr.setCell ⟨gw, i, none⟩ (.int .i64 ((v : Nat) : Int))) gw A (ws.set i v) rs := by
  have hg := grown_set wr gw i (.int .i64 ((v : Nat) : Int))
  obtain ⟨css, h1, h2, h3, h4⟩ := h.ql
  obtain ⟨cs0, hb0, _⟩ := h.nr
  refine ⟨h.nr.put v hi, ⟨css, h1, h2, ?_, fun j q hq => ?_⟩, h.ext.set_ (p := ⟨gw, i, none⟩) h.gw _, h.gw⟩
  · exact h3.other hg hb0 (by decide)
  · obtain ⟨cs, k1, k2⟩ := h4 j q hq
    exact ⟨cs, k1, k2.grow hg (.inl rfl)⟩
end Go.Proofs.YtekiomanidimnaaGreatDoor
