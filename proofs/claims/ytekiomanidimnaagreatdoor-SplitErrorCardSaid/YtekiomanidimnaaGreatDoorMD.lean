/- waypointref14.extend: all loopless paths that continue a path. -/
/- waypointref14.extend: the walk. -/
/- waypointref14.Simple: all loopless paths. -/
/- waypointref42.Simple. -/
/- waypointref09.SameInts, waypointref14.Same. -/
/- A queue: a row of the call's own that is read from an offset on; one element is appended. -/
import Derived.Test.YtekiomanidimnaaGreatDoorMC
import Derived.Lib.OwnKind
import Derived.Deep.Onto
import Derived.Deep.AppendSrc
set_option linter.unusedVariables false
set_option linter.unusedSimpArgs false

namespace Go.Proofs.YtekiomanidimnaaGreatDoor
open Go.RowKit

/-- Blocks whose elements are no slices of numbers are as they were. -/
structure Keep39 (w w' : World) : Prop where
  size : w.heap.size ≤ w'.heap.size
  blk : ∀ (i : Nat) (cs : Array Value) (t : TypeId) (fr : Nat × Nat), t ≠ 39 → w.heap[i]? = some (.cells cs t fr) → w'.heap[i]? = some (.cells cs t fr)
theorem Keep39.refl (w : World) : Keep39 w w := ⟨Nat.le_refl _, fun _ _ _ _ _ h => h⟩
theorem Keep39.trans {a b c : World} (h : Keep39 a b) (k : Keep39 b c) : Keep39 a c := ⟨Nat.le_trans h.size k.size, fun i cs t fr ht hi => k.blk i cs t fr ht (h.blk i cs t fr ht hi)⟩
theorem lt_of_get {w : World} {i : Nat} {o : Obj} (h : w.heap[i]? = some o) : i < w.heap.size := by
  rcases Nat.lt_or_ge i w.heap.size with hlt | hge
  · exact hlt
  · rw [Array.getElem?_eq_none hge] at h; cases h
theorem Keep39.ofExt {w w' : World} (h : Ext w w') : Keep39 w w' := ⟨h.size, fun i _ _ _ _ hi => (h.block i (lt_of_get hi)).trans hi⟩
theorem Keep39.rdT {w w' : World} {t : TypeId} {A : Option Addr} {xs : List Value} (h : Keep39 w w') (ht : t ≠ 39) (hr : RdT w t A xs) : RdT w' t A xs := fun hne => by
  obtain ⟨b, o, cs, fr, e, hb, hc⟩ := hr hne
  exact ⟨b, o, cs, fr, e, h.blk b cs t fr ht hb, hc⟩
theorem Keep39.blk' {w w' : World} {g : Nat} {t : TypeId} {cs : Array Value} (h : Keep39 w w') (ht : t ≠ 39) (hb : Blk w g t cs) : Blk w' g t cs := h.blk g cs t (0, 0) ht hb
theorem Keep39.grown {w w' : World} {row : Option Nat} (hg : w.grownBy w' row) (hr : ∀ k, row = some k → ∃ cs fr, w.heap[k]? = some (.cells cs 39 fr)) : Keep39 w w' :=
  ⟨hg.size, fun i cs t fr ht hi => by
    refine (hg.block i (lt_of_get hi) (fun e => ?_)).trans hi
    obtain ⟨cs', fr', h'⟩ := hr i e.symm
    rw [hi] at h'
    injection h' with h'
    injection h' with _ h'
    exact ht h'⟩
/-- A flag of a block is set, much happens elsewhere, and it is taken back. -/
theorem Keep39.round {w w2 : World} {g k : Nat} {l : List Bool} (hb : Blk w g 4 (bools l).toArray) (hk : l[k]? = some false) (h : Keep39 (w.setCell ⟨g, k, none⟩ (.bool true)) w2) : Keep39 w (w2.setCell ⟨g, k, none⟩ (.bool false)) := by
  have h1 := hb.set_ k (.bool true)
  have h2 := h.blk' (by decide) h1
  have h3 := h2.set_ k (.bool false)
  have e : ((bools l).toArray.setIfInBounds k (.bool true)).setIfInBounds k (.bool false) = (bools l).toArray := by
    apply Array.ext'
    simp only [List.setIfInBounds_toArray, List.set_set]
    apply List.ext_getElem?
    intro i
    by_cases e : i = k
    · subst e
      obtain ⟨hlt, he⟩ := List.getElem?_eq_some_iff.1 hk
      rw [List.getElem?_set_self (by simpa [bools] using hlt)]
      simp [bools, hk]
    · rw [List.getElem?_set_ne (fun h => e h.symm)]
  rw [e] at h3
  refine ⟨Nat.le_trans (by simp [World.setCell]) (Nat.le_trans h.size (by simp [World.setCell])), fun i cs t fr ht hi => ?_⟩
  by_cases e : i = g
  · subst e
    unfold Blk at hb h3
    rw [hb] at hi
    rw [h3]; exact hi
  · have h4 : (w.setCell ⟨g, k, none⟩ (.bool true)).heap[i]? = some (.cells cs t fr) := (Below.heap_setCell w ⟨g, k, none⟩ _ i e).trans hi
    exact (Below.heap_setCell w2 ⟨g, k, none⟩ _ i e).trans (h.blk i cs t fr ht h4)
theorem Paths.keep {w w' : World} {B : Nat} {v : Value} {ps : List (List Nat)} (h : Paths w B v ps) (hx : Ext w w') : Paths w' B v ps := by
  obtain ⟨cells, h1, h2, h3⟩ := h.ex
  refine ⟨cells, h1, h2.kept (row := none) ⟨hx.os, hx.tape, hx.output, hx.size, fun k hk _ => hx.block k hk⟩ ?_, fun i p hp => ?_⟩
  · by_cases e : v.ownBlock = none
    · exact .inl e
    · exact .inr e
  · obtain ⟨A, c, h4, h5, h6⟩ := h3 i p hp
    exact ⟨A, c, h4, h5, h6.keep hx⟩
theorem Paths.set_ {w : World} {B : Nat} {v : Value} {ps : List (List Nat)} (h : Paths w B v ps) {p : Addr} {cs : Array Value} (hp : Blk w p.block 4 cs) (u : Value) : Paths (w.setCell p u) B v ps := by
  obtain ⟨cells, h1, h2, h3⟩ := h.ex
  refine ⟨cells, h1, ⟨h2.1, ?_⟩, fun i q hq => ?_⟩
  · rcases h2.2 with h4 | ⟨g', cap, cur, h4, h5, h6, h7⟩
    · exact .inl h4
    · refine .inr ⟨g', cap, cur, h4, h5, (Below.heap_setCell w p u g' ?_).trans h6, h7⟩
      rintro rfl
      unfold Blk at hp
      rw [h6] at hp
      injection hp with hp
      injection hp with _ ht
      revert ht; decide
  · obtain ⟨A, c, h4, h5, h6⟩ := h3 i q hq
    exact ⟨A, c, h4, h5, h6.set_ hp (by decide) u⟩
/-- A path is appended. -/
theorem Paths.snoc {w w1 : World} {B : Nat} {v v' : Value} {ps : List (List Nat)} {p : List Nat} {A : Option Addr} {c : Nat} {cells : List Value} (h1 : cells.length = ps.length)
    (h3 : ∀ (i : Nat) (q : List Nat), ps[i]? = some q → ∃ (A : Option Addr) (c : Nat), cells[i]? = some (.slice A q.length c) ∧ q.length ≤ c ∧ RdT w1 3 A (ints q))
    (hp : RdT w1 3 A (ints p)) (hc : p.length ≤ c) (hown : w1.ownsRow B 39 1 v' (ps.length + 1) (cells ++ [.slice A p.length c])) : Paths w1 B v' (ps ++ [p]) := by
  refine ⟨cells ++ [.slice A p.length c], by simp [h1], by rw [List.length_append]; exact hown, fun i q hq => ?_⟩
  by_cases e : i < ps.length
  · rw [List.getElem?_append_left e] at hq
    obtain ⟨A', c', h4, h5, h6⟩ := h3 i q hq
    exact ⟨A', c', by rw [List.getElem?_append_left (by omega)]; exact h4, h5, h6⟩
  · rw [List.getElem?_append_right (by omega)] at hq
    have hi : i = ps.length := by
      have := (List.getElem?_eq_some_iff.1 hq).1; simp at this; omega
    subst hi
    simp at hq
    subst hq
    exact ⟨A, c, by rw [List.getElem?_append_right (by omega), h1]; simp, hc, hp⟩

/-- The loopless paths that continue a path. -/
def extP (t : Tp) (down : List Bool) (d : Nat) : Nat → List Nat → Nat → List Bool → List (List Nat)
  | 0, _, _, _ => []
  | f + 1, path, at_, seen => if at_ = d then [path] else if (0 < path.length) ∧ overP t at_ = true then [] else
    (leavP t at_).flatMap fun a => if downP down a || seen[(headP t a).toNat]?.getD false then [] else extP t down d f (path ++ [a]) (headP t a).toNat (seen.set (headP t a).toNat true)
/-- How many flags are not set. -/
def unset (l : List Bool) : Nat := l.count false
theorem unset_set {l : List Bool} {k : Nat} (h : l[k]? = some false) : unset (l.set k true) + 1 = unset l := by
  unfold unset
  induction l generalizing k with
  | nil => simp at h
  | cons b l ih =>
    cases k with
    | zero => simp at h; subst h; simp
    | succ k => simp at h; have := ih h; cases b <;> simp [List.set_cons_succ] <;> omega
end Go.Proofs.YtekiomanidimnaaGreatDoor


namespace Go.Proofs.YtekiomanidimnaaGreatDoor
open Go.RowKit

theorem extP_len (t : Tp) (down : List Bool) (d : Nat) : ∀ (f : Nat) (path : List Nat) (n : Nat) (seen : List Bool), (extP t down d f path n seen).length ≤ (2 * t.links.length + 1) ^ f := by
  intro f
  induction f with
  | zero => intro path n seen; simp [extP]
  | succ f ih =>
    intro path n seen
    have h1 : 1 ≤ (2 * t.links.length + 1) ^ (f + 1) := Nat.one_le_pow _ _ (by omega)
    unfold extP
    split
    · simpa using h1
    · split
      · simp
      · have hl : ∀ l : List Nat, (l.flatMap fun a => if downP down a || seen[(headP t a).toNat]?.getD false then [] else extP t down d f (path ++ [a]) (headP t a).toNat (seen.set (headP t a).toNat true)).length ≤ l.length * (2 * t.links.length + 1) ^ f := by
          intro l
          induction l with
          | nil => simp
          | cons a l ihl =>
            rw [List.flatMap_cons, List.length_append, List.length_cons, Nat.add_mul, Nat.one_mul, Nat.add_comm]
            refine Nat.add_le_add ihl ?_
            split
            · simp
            · exact ih _ _ _
        refine Nat.le_trans (hl _) ?_
        rw [Nat.pow_succ, Nat.mul_comm]
        exact Nat.mul_le_mul_left _ (Nat.le_trans (leavTo_len t _ n) (by omega))
theorem headP_ok {t : Tp} (hv : validP t = true) {a : Nat} (ha : a < 2 * t.links.length) : ∃ h : Nat, headP t a = (h : Int) ∧ (h : Int) < t.nodes := by
  rw [head_tail']
  have ha' : a / 2 * 2 + 1 - a % 2 < 2 * t.links.length := by omega
  generalize a / 2 * 2 + 1 - a % 2 = b at *
  unfold validP at hv
  rw [Bool.and_eq_true] at hv
  obtain ⟨l, hl⟩ : ∃ l, t.links[b / 2]? = some l := ⟨_, List.getElem?_eq_getElem (by omega)⟩
  have hlk := List.all_eq_true.1 hv.2 l (List.mem_of_getElem? hl)
  unfold Lk.ok ndB at hlk
  simp at hlk
  unfold tailP
  rw [hl]
  simp only []
  split
  · exact ⟨l.a.toNat, by omega, by omega⟩
  · exact ⟨l.b.toNat, by omega, by omega⟩
theorem leavP_lt {t : Tp} {n a : Nat} (h : a ∈ leavP t n) : a < 2 * t.links.length := by
  unfold leavP leavTo at h
  rw [List.mem_filter] at h
  simpa using h.1

/-- A path is appended to a list of paths. -/
theorem Paths.push {w w1 : World} {B : Nat} {ov v' : Value} {ps : List (List Nat)} {p : List Nat} {A : Option Addr} {c : Nat} {cells : List Value} (h1 : cells.length = ps.length) (h2 : w.ownsRow B 39 1 ov ps.length cells)
    (h3 : ∀ (i : Nat) (q : List Nat), ps[i]? = some q → ∃ (A : Option Addr) (c : Nat), cells[i]? = some (.slice A q.length c) ∧ q.length ≤ c ∧ RdT w 3 A (ints q))
    (hp : RdT w 3 A (ints p)) (hc : p.length ≤ c) (hB : B ≤ w.heap.size) (hown : w1.ownsRow B 39 1 v' (ps.length + 1) (cells ++ [.slice A p.length c])) (hg : w.grownBy w1 ov.ownBlock) :
    Paths w1 B v' (ps ++ [p]) ∧ Keep39 w w1 ∧ Below B w w1 := by
  have hk : Keep39 w w1 := Keep39.grown hg (fun k hk => Lib.ownsRow_kind h2 k hk)
  refine ⟨Paths.snoc (w := w) (v := ov) h1 (fun i q hq => ?_) (hk.rdT (by decide) hp) hc hown, hk, (Below.refl B w).grown hg hB (fun k hk => (h2.lt k hk).1)⟩
  obtain ⟨A', c', h4, h5, h6⟩ := h3 i q hq
  exact ⟨A', c', h4, h5, hk.rdT (by decide) h6⟩
/-- What one arc adds. -/
def extG (t : Tp) (down : List Bool) (d f : Nat) (path : List Nat) (seen : List Bool) (a : Nat) : List (List Nat) :=
  if downP down a || seen[(headP t a).toNat]?.getD false then [] else extP t down d f (path ++ [a]) (headP t a).toNat (seen.set (headP t a).toNat true)
theorem extG_len (t : Tp) (down : List Bool) (d f : Nat) (path : List Nat) (seen : List Bool) (a : Nat) : (extG t down d f path seen a).length ≤ (2 * t.links.length + 1) ^ f := by
  unfold extG
  split
  · simp
  · exact extP_len _ _ _ _ _ _ _
theorem extG_sum (t : Tp) (down : List Bool) (d f : Nat) (path : List Nat) (seen : List Bool) (l : List Nat) : (l.flatMap (extG t down d f path seen)).length ≤ l.length * (2 * t.links.length + 1) ^ f := by
  induction l with
  | nil => simp
  | cons a l ih =>
    rw [List.flatMap_cons, List.length_append, List.length_cons, Nat.add_mul, Nat.one_mul, Nat.add_comm]
    exact Nat.add_le_add ih (extG_len ..)
theorem cell_alloc_of {w : World} {p : Addr} {v : Value} (h : w.cell? p = some v) (o : Obj) : (w.alloc o).cell? p = some v := by
  have hb : p.block < w.heap.size := by
    unfold World.cell? at h
    rcases Nat.lt_or_ge p.block w.heap.size with hlt | hge
    · exact hlt
    · rw [Array.getElem?_eq_none hge] at h; simp at h
  exact (World.cell?_of_block (Below.heap_alloc _ _ _ hb)).trans h
theorem rd_grown {w w3 : World} {g : Nat} {xs : List Value} {row : Option Nat} (h : Rd w (some ⟨g, 0, none⟩) xs) (hg : w.grownBy w3 row) (hne : some g ≠ row) : Rd w3 (some ⟨g, 0, none⟩) xs := fun hx => by
  obtain ⟨b, o, e, hb, hc⟩ := h hx
  injection e with e
  injection e with e1 e2
  subst e1 e2
  exact ⟨g, 0, rfl, Nat.lt_of_lt_of_le hb hg.size, fun i hi => (World.cell?_of_block (hg.block g hb hne)).trans (hc i hi)⟩
theorem RdT.get_ {w : World} {ty : TypeId} {b o m a : Nat} {l : List Nat} (h : RdT w ty (some ⟨b, o, none⟩) (ints l)) (hm : l[m]? = some a) : w.cell? ⟨b, o + m, none⟩ = some (.int .i64 (a : Int)) := by
  have hlt := (List.getElem?_eq_some_iff.1 hm).1
  obtain ⟨b', o', e, _, hc⟩ := h.rd.at_ (i := m) (by rw [ints_length]; exact hlt)
  injection e with e
  injection e with e1 e2
  subst e1 e2
  rw [hc m (by rw [ints_length]; exact hlt), ints_get _ _ hlt, hm]; rfl
theorem ownsRow_fresh (w : World) (B : Nat) (e : TypeId) (hB : B ≤ w.heap.size) : (w.alloc (.cells #[] e)).ownsRow B e 1 (.slice (some ⟨w.heap.size, 0, none⟩) 0 0) 0 [] :=
  World.ownsRow_made w #[] 0 hB (by decide) (by simp)

set_option maxRecDepth 100000 in
set_option maxHeartbeats 8000000 in
theorem ext_any (t : Tp) (AO : Option Addr) (co : Nat) (AL : Option Addr) (cl : Nat) (AD : Option Addr) (cd : Nat) (down : List Bool) (d : Nat) (w0 : World) (ht : TopR w0 t AO co AL cl) (hv : validP t = true) (hll : t.links.length ≤ 256) (hdn : Rd w0 AD (bools down)) (hdl : down.length ≤ 600) (hd : d ≤ 1000) (f : Nat) :
    ∀ (path : List Nat) (AP : Option Addr) (cp : Nat) (n : Nat) (seen : List Bool) (gs : Nat) (ov : Value) (ps : List (List Nat)) (w : World), unset seen < f → (seen.length : Int) = t.nodes → n ≤ 1000 → path.length ≤ cp → path.length + f ≤ 1000 → (AP = none → path.length = 0) → Ext w0 w → RdT w 3 AP (ints path) → Blk w gs 4 (bools seen).toArray → w0.heap.size ≤ gs → Paths w w0.heap.size ov ps →
    ps.length + (2 * t.links.length + 1) ^ f ≤ 2 ^ 42 →
    Calls Tryz.prog 114 #[.agg #[.int .i64 t.nodes, .slice AO t.over.length co, .slice AL t.links.length cl], .slice AD down.length cd, .slice AP path.length cp, .int .i64 n, .int .i64 d, .slice (some ⟨gs, 0, none⟩) seen.length seen.length, ov] w fun e w' => ∃ ov', e = .returned ov' ∧ Paths w' w0.heap.size ov' (ps ++ extP t down d f path n seen) ∧ Ext w0 w' ∧ Keep39 w w' := by
  induction f with
  | zero => intro path AP cp n seen gs ov ps w h; omega
  | succ f ih =>
  intro path AP cp n seen gs ov ps w hf hsl hn hcp hpl hAP hx0 hpath hseen hgs hps hbd
  have HT := Lib.hid (ht)
  have HV := Lib.hid (hv)
  have HDN := Lib.hid (hdn)
  have IH := Lib.hid (ih)
  have HF := Lib.hid (hf)
  have HSL := Lib.hid (hsl)
  have X0 := Lib.hid (hx0)
  have HP := Lib.hid (hpath)
  have HS := Lib.hid (hseen)
  have PS := Lib.hid (hps)
  have BD := Lib.hid (hbd)
  have APN := Lib.hid (hAP)
  have h3 := ht.ll
  have h4 := ht.cl
  have h5 : seen.length ≤ 1000 := by
    unfold validP headOk inB at hv
    simp at hv
    omega
  clear ht hv hdn ih hf hsl hx0 hpath hseen hps hbd hAP
  obtain ⟨ti, hi, hz0, hz1, hz2⟩ := info_parts Tryz.info3
  obtain ⟨ti2, hi2, hy0, hy1, hy2⟩ := info_parts Tryz.info39
  obtain ⟨hba, e0⟩ := boxes1 w #[.int .i64 t.nodes, .slice AO t.over.length co, .slice AL t.links.length cl] 25
  by_cases hnd : n = d
  · have hval : extP t down d (f + 1) path n seen = [path] := by unfold extP; rw [if_pos hnd]
    rw [hval]
    have hb : ((n : Int) == (d : Int)) = true := by simp; omega
    clear hnd hval
    obtain ⟨cells, pc, pown, prd⟩ := PS.out.ex
    have POWN := Lib.hid (pown)
    have PRD := Lib.hid (prd)
    have PC := Lib.hid (pc)
    clear pown prd pc
    go_enter Tryz.func114, Tryz.ntmps114
    go_wp2_with (at_builtin; go_must (refine wpList_append_rd _ rfl (.tmp 22) (.tmp 23) 39 rfl (w.heap.size + 1) 3 ti (.int .i64 0) 8 Tryz.underlying39 hi hz0 hz1 hz2 rfl (.slice (some ⟨w.heap.size + 1, 0, none⟩) 0 0) 0 [] rfl ?c0 AP path.length cp (ints path) rfl ?c1 ?c2 ?c3 (ints_one _) ?c4 ?c5 ?c6 ?_))
    case c0 => have := ownsRow_fresh (w.alloc (.cells #[.int .i64 t.nodes, .slice AO t.over.length co, .slice AL t.links.length cl] 25)) (w.heap.size + 1) 3 (by simp); simpa using this
    case c1 => exact (ints_length _).symm
    case c2 => exact HP.out.rd.keep (e0.alloc _)
    case c3 => exact fun h => .inr (APN.out h)
    case c4 => unfold maxLen; omega
    case c5 => omega
    case c6 => simp
    intro v3 w3 hown3 hgrow3 _
    have e3 : Ext w w3 := Below.grown (e0.alloc (.cells #[] 3)) hgrow3 (by simp; omega) (fun k hk => by simp [Value.ownBlock] at hk; omega)
    obtain ⟨A3, c3, rfl, hc3, hr3⟩ := ownsRow_rdT (l := path) hown3 (by omega)
    have e4 : Ext w (w3.alloc (.cells #[.slice A3 path.length c3] 39)) := e3.alloc _
    have E4 := Lib.hid (e4)
    have R3 := Lib.hid (hr3)
    clear hown3 hgrow3 hr3 e3 e4
    have b1 : ps.length + 1 ≤ 4398046511104 := by
      have := BD.out
      have h1 : 1 ≤ (2 * t.links.length + 1) ^ (f + 1) := Nat.one_le_pow _ _ (by omega)
      omega
    have POWN4 := Lib.hid (POWN.out.kept (row := none) (w' := w3.alloc (.cells #[.slice A3 path.length c3] 39)) ⟨E4.out.os, E4.out.tape, E4.out.output, E4.out.size, fun k hk _ => E4.out.block k hk⟩ (by
      by_cases e : ov.ownBlock = none
      · exact .inl e
      · exact .inr e))
    go_wp2_with (at_builtin; go_must (refine wpList_append_rd _ rfl (.tmp 21) (.tmp 25) 31 rfl w0.heap.size 39 ti2 (.slice none 0 0) 24 Tryz.underlying31 hi2 hy0 hy1 hy2 rfl ov ps.length cells rfl ?d0 (some ⟨w3.heap.size, 0, none⟩) 1 1 [.slice A3 path.length c3] rfl rfl ?d1 ?d2 ?d3 ?d4 ?d5 ?d6 ?_))
    case d0 => exact POWN4.out
    case d1 => exact Rd.new _ _ _ rfl rfl
    case d2 => intro h; cases h
    case d3 => intro u hu; simp at hu; subst hu; rfl
    case d4 => unfold maxLen; omega
    case d5 => omega
    case d6 => exact Nat.le_trans X0.out.size E4.out.size
    intro v5 w5 hown5 hgrow5 _
    obtain ⟨q1, q2, q3⟩ := Paths.push (p := path) PC.out POWN4.out (fun i q hq => by
      obtain ⟨A', c', k1, k2, k3⟩ := PRD.out i q hq
      exact ⟨A', c', k1, k2, k3.keep E4.out⟩) (R3.out.keep ((Ext.refl w3).alloc _)) hc3 (Nat.le_trans X0.out.size E4.out.size) hown5 hgrow5
    have Q1 := Lib.hid (q1)
    have Q2 := Lib.hid ((Keep39.ofExt E4.out).trans q2)
    have Q3 := Lib.hid ((X0.out.tr E4.out).trans q3)
    clear q1 q2 q3 hown5 hgrow5
    go_wp2
    go_ret
    exact ⟨v5, rfl, Q1.out, Q3.out, Q2.out⟩
  · have hb : ((n : Int) == (d : Int)) = false := beq_eq_false_iff_ne.2 (by omega)
    have hval : extP t down d (f + 1) path n seen = if (0 < path.length) ∧ overP t n = true then [] else
      (leavP t n).flatMap fun a => if downP down a || seen[(headP t a).toNat]?.getD false then [] else extP t down d f (path ++ [a]) (headP t a).toNat (seen.set (headP t a).toNat true) := by
      rw [extP, if_neg hnd]
    generalize hE : extP t down d (f + 1) path n seen = E at *
    have HE := Lib.hid (hval)
    clear hval hE hnd
    obtain ⟨⟨i0, i1, i2⟩, g0, g1, g2⟩ := hba.three
    go_enter Tryz.func114, Tryz.ntmps114
    go_upto_region 3 with fail
    go_cut [34] (fun s wx => s = .bool (decide (0 < path.length) && overP t n) ∧ Blk wx w.heap.size 25 #[.int .i64 t.nodes, .slice AO t.over.length co, .slice AL t.links.length cl] ∧ Ext w wx)
    case first =>
      by_cases hp : 0 < path.length
      · go_wp2_with fail
        refine (rOver_ok t AO co AL cl n _ (HT.out.keep (X0.out.tr e0)) HV.out).mono ?_
        rintro e w1 ⟨rfl, hx1⟩
        go_wp2
        go_meet
        exact ⟨by simp [hp], hba.keep hx1, e0.tr hx1⟩
      · go_wp2_with fail
        go_meet
        exact ⟨by simp [hp], hba, e0⟩
    case rest =>
      obtain ⟨rfl, hba, hx⟩ := hcut
      clear i0 i1 i2 g0 g1 g2 e0
      obtain ⟨⟨i0, i1, i2⟩, g0, g1, g2⟩ := hba.three
      cases hov : (decide (0 < path.length) && overP t n)
      case true =>
        have hnil : E = [] := by
          rw [HE.out, if_pos (by simpa using hov)]
        subst hnil
        have EX := Lib.hid (hx)
        clear hx hov
        go_wp2
        go_ret
        exact ⟨ov, rfl, by rw [List.append_nil]; exact PS.out.keep EX.out, X0.out.tr EX.out, Keep39.ofExt EX.out⟩
      case false =>
        have hE2 : E = (leavP t n).flatMap (extG t down d f path seen) := by
          rw [HE.out, if_neg (by simpa using hov)]; rfl
        have HE2 := Lib.hid (hE2)
        have EX := Lib.hid (hx)
        clear hx hov hE2 HE
        go_wp2_with fail
        refine (rOut_ok t AO co AL cl n _ (HT.out.keep (X0.out.tr EX.out)) HV.out hll).mono ?_
        rintro e w1 ⟨AR, cr, rfl, hcr, hrr, hx1⟩
        have E1 := Lib.hid (EX.out.tr hx1)
        have BA1 := Lib.hid (hba.keep hx1)
        have RR := Lib.hid (hrr)
        clear hrr hx1 EX hba i0 i1 i2 g0 g1 g2
        have hlen := leavTo_len t (2 * t.links.length) n
        change (leavP t n).length ≤ _ at hlen
        generalize hL : (leavP t n).length = L at *
        have HL := Lib.hid (hL)
        clear hL
        go_wp2
        go_loopw [6, 16, 17] (fun v it _ wr => ∃ m : Nat, m ≤ L ∧ it = .int .i64 m ∧ Paths wr w0.heap.size v (ps ++ ((leavP t n).take m).flatMap (extG t down d f path seen)) ∧ Ext w0 wr ∧ Keep39 w1 wr) (fun _ i _ _ => L - (intOf i).toNat)
        case atStart => exact ⟨0, Nat.zero_le _, rfl, by rw [List.take_zero, List.flatMap_nil, List.append_nil]; exact PS.out.keep E1.out, X0.out.tr E1.out, Keep39.refl _⟩
        case round =>
          obtain ⟨m, hm, rfl, hpw, hxw, hkw⟩ := hrel
          have PW := Lib.hid (hpw)
          have XW0 := Lib.hid (hxw)
          have KW := Lib.hid (hkw)
          clear hpw hxw hkw
          by_cases hml : m < L
          · obtain ⟨a, ha⟩ : ∃ a, (leavP t n)[m]? = some a := ⟨_, List.getElem?_eq_getElem (by rw [HL.out]; exact hml)⟩
            have ha2 : a < 2 * t.links.length := leavP_lt (List.mem_of_getElem? ha)
            obtain ⟨h, hh, hhn⟩ := headP_ok HV.out ha2
            have hhl : h < seen.length := by have := HSL.out; omega
            obtain ⟨b, o, rfl, hbl, hbc⟩ := (KW.out.rdT (by decide) RR.out).rd.at_ (i := m) (by rw [ints_length, HL.out]; exact hml)
            have hcell := hbc m (by rw [ints_length, HL.out]; exact hml)
            rw [ints_get _ _ (by rw [HL.out]; exact hml), ha, Option.getD_some] at hcell
            have hbw := KW.out.blk' (by decide) BA1.out
            have hsw := KW.out.blk' (by decide) ((Keep39.ofExt E1.out).blk' (by decide) HS.out)
            obtain ⟨⟨i0, i1, i2⟩, g0, g1, g2⟩ := hbw.three
            have x0 := XW.cell _ _ _ hbw.lt i0
            have x1 := XW.cell _ _ _ hbw.lt i1
            have x2 := XW.cell _ _ _ hbw.lt i2
            have y0 := XW.cell _ _ _ hbl hcell
            have HA := Lib.hid (ha)
            have HH := Lib.hid (hh)
            have HBW := Lib.hid (hbw)
            have HSW := Lib.hid (hsw)
            clear ha hh hbc hbw hsw
            go_wp2_with fail
            refine wp_region_ext (by kernel_rfl) (by kernel_rfl) ?_
            repeat (go_big_quiet_step ((go_at_call 82; exact Calls.ext_of (rHead_ok t AO co AL cl a _ (HT.out.keep (XW0.out.tr (XW.ext _))) HV.out ha2))))
            refine wpQuiet_nil ?_
            rintro _ ⟨x, rfl⟩
            rw [HH.out]
            have hx2 := x.ext
            have hcell := y0 x
            clear x0 x1 x2 y0 i0 i1 i2 g0 g1 g2
            generalize x.val = w2 at *
            clear x
            have hb2 := HBW.out.keep hx2
            have hs2 := HSW.out.keep hx2
            have PW2 := Lib.hid (PW.out.keep hx2)
            have XX2 := Lib.hid (XW0.out.tr hx2)
            have KK2 := Lib.hid (KW.out.trans (Keep39.ofExt hx2))
            have hbl2 : b < w2.heap.size := Nat.lt_of_lt_of_le hbl hx2.size
            clear hx2 PW XW0 KW HBW HSW hbl
            obtain ⟨⟨i0, i1, i2⟩, g0, g1, g2⟩ := hb2.three
            have hse := hs2.cell h
            have hsf := hs2.frozen h
            obtain ⟨sb, hsb⟩ : ∃ sb, seen[h]? = some sb := ⟨_, List.getElem?_eq_getElem hhl⟩
            have hsv : (bools seen).toArray[h]? = some (.bool sb) := by simp [bools, hsb]
            rw [hsv] at hse
            have HSB := Lib.hid (hsb)
            clear hsb hsv
            go_wp2_with fail
            refine (rDown_any AD cd down a _ (HDN.out.keep XX2.out)).mono ?_
            rintro e w3 ⟨rfl, rfl⟩
            have TS := Lib.hid (show ((leavP t n).take (m + 1)).flatMap (extG t down d f path seen) = ((leavP t n).take m).flatMap (extG t down d f path seen) ++ extG t down d f path seen a by
              rw [List.take_add_one, HA.out, List.flatMap_append]; simp)
            have GA := Lib.hid (show extG t down d f path seen a = if downP down a || sb then [] else extP t down d f (path ++ [a]) h (seen.set h true) by
              unfold extG; rw [HH.out, Int.toNat_natCast, HSB.out]; rfl)
            cases hdn : downP down a
            case true =>
              rw [hdn] at GA
              go_wp2
              go_roundw
              case rel => exact ⟨m + 1, by omega, by go_num, by rw [TS.out, GA.out]; simpa using PW2.out, XX2.out, KK2.out⟩
              case measure => simp [intOf]; omega
            case false =>
              rw [hdn] at GA
              cases sb
              case true =>
                go_wp2
                go_roundw
                case rel => exact ⟨m + 1, by omega, by go_num, by rw [TS.out, GA.out]; simpa using PW2.out, XX2.out, KK2.out⟩
                case measure => simp [intOf]; omega
              case false =>
                go_upto_region 12 with fail
                go_cut [6] (fun s wx => Paths wx w0.heap.size s (ps ++ ((leavP t n).take (m + 1)).flatMap (extG t down d f path seen)) ∧ Ext w0 wx ∧ Keep39 (w2.setCell ⟨gs, h, none⟩ (.bool true)) wx)
                case first =>
                  have sw := hs2.set_ h (.bool true)
                  have bw := hb2.far (p := ⟨gs, h, none⟩) (fun e => by
                    have h1 := hb2; have h2 := hs2
                    unfold Blk at h1 h2
                    simp only [] at e
                    rw [e, h2] at h1
                    injection h1 with h1
                    injection h1 with _ h1
                    revert h1; decide) (.bool true)
                  have rw_ := (KK2.out.rdT (by decide) RR.out).set_ (p := ⟨gs, h, none⟩) hs2 (by decide) (.bool true)
                  have pw := ((KK2.out.rdT (by decide) (HP.out.keep E1.out)).set_ (p := ⟨gs, h, none⟩) hs2 (by decide) (.bool true))
                  have psw := PW2.out.set_ (p := ⟨gs, h, none⟩) hs2 (.bool true)
                  have xw := Ext.set_ XX2.out (p := ⟨gs, h, none⟩) hgs (.bool true)
                  have hsz : w.heap.size < w2.heap.size := hb2.lt
                  clear i0 i1 i2 g0 g1 g2 hcell hse hsf
                  have sw2 : Blk (w2.setCell ⟨gs, h, none⟩ (.bool true)) gs 4 (bools (seen.set h true)).toArray := by
                    have e : ((bools seen).toArray.setIfInBounds h (.bool true)) = (bools (seen.set h true)).toArray := by
                      apply Array.ext'; simp [bools, List.map_set]
                    rw [← e]; exact sw
                  have hb1 : (ps ++ ((leavP t n).take m).flatMap (extG t down d f path seen)).length + (2 * t.links.length + 1) ^ f ≤ 2 ^ 42 := by
                    have h1 := extG_sum t down d f path seen ((leavP t n).take m)
                    have h2 : ((leavP t n).take m).length ≤ m := by simp; omega
                    have h3 := BD.out
                    rw [Nat.pow_succ] at h3
                    have h4 : ((leavP t n).take m).length * (2 * t.links.length + 1) ^ f ≤ m * (2 * t.links.length + 1) ^ f := Nat.mul_le_mul_right _ h2
                    have h5 : m * (2 * t.links.length + 1) ^ f + (2 * t.links.length + 1) ^ f = (m + 1) * (2 * t.links.length + 1) ^ f := by rw [Nat.add_mul, Nat.one_mul]
                    have h6 : (m + 1) * (2 * t.links.length + 1) ^ f ≤ (2 * t.links.length + 1) * (2 * t.links.length + 1) ^ f := Nat.mul_le_mul_right _ (by omega)
                    have h7 : (2 * t.links.length + 1) ^ f * (2 * t.links.length + 1) = (2 * t.links.length + 1) * (2 * t.links.length + 1) ^ f := Nat.mul_comm _ _
                    rw [List.length_append]
                    omega
                  have hun := unset_set HSB.out
                  generalize hW : w2.setCell ⟨gs, h, none⟩ (.bool true) = W at *
                  have hszW : w.heap.size < W.heap.size := by rw [← hW]; simpa [World.setCell] using hsz
                  clear hW sw hs2 hb2 PW2 XX2 KK2 hsz
                  have hcall : ∀ (A5 : Option Addr) (c5 : Nat) (W5 : World), Ext W W5 → RdT W5 3 A5 (ints (path ++ [a])) → path.length + 1 ≤ c5 → (A5 = none → path.length + 1 = 0) →
                      Calls Tryz.prog 114 #[.agg #[.int .i64 t.nodes, .slice AO t.over.length co, .slice AL t.links.length cl], .slice AD down.length cd, .slice A5 (path.length + 1) c5, .int .i64 h, .int .i64 d, .slice (some ⟨gs, 0, none⟩) seen.length seen.length, u6] W5 fun e w' => ∃ ov', e = .returned ov' ∧ Paths w' w0.heap.size ov' ((ps ++ ((leavP t n).take m).flatMap (extG t down d f path seen)) ++ extP t down d f (path ++ [a]) h (seen.set h true)) ∧ Ext w0 w' ∧ Keep39 W w' := by
                    intro A5 c5 W5 hx5 hr5 hc5 hn5
                    have hl : (path ++ [a]).length = path.length + 1 := by simp
                    have hl2 : (seen.set h true).length = seen.length := by simp
                    have := IH.out (path ++ [a]) A5 c5 h (seen.set h true) gs u6 _ W5 (by have := HF.out; omega) (by rw [hl2]; exact HSL.out) (by omega) (by rw [hl]; exact hc5) (by rw [hl]; omega) (by rw [hl]; exact hn5) (xw.tr hx5) hr5 (sw2.keep hx5) hgs (psw.keep hx5) hb1
                    rw [hl, hl2] at this
                    exact this.mono fun e w' ⟨ov', k1, k2, k3, k4⟩ => ⟨ov', k1, k2, k3, (Keep39.ofExt hx5).trans k4⟩
                  have CALL := Lib.hid (hcall)
                  have PWR := Lib.hid (pw.rd)
                  have BWH := Lib.hid (bw)
                  have RWH := Lib.hid (rw_)
                  obtain ⟨_, _, e', hbl3, hbc3⟩ := rw_.rd.at_ (i := m) (by rw [ints_length, HL.out]; exact hml)
                  injection e' with e'
                  injection e' with e1' e2'
                  subst e1' e2'
                  have hcell := hbc3 m (by rw [ints_length, HL.out]; exact hml)
                  rw [ints_get _ _ (by rw [HL.out]; exact hml), HA.out, Option.getD_some] at hcell
                  obtain ⟨⟨i0, i1, i2⟩, _⟩ := bw.three
                  clear hcall pw rw_ psw xw sw2 hb1 hun hbc3 bw
                  have KK := Lib.hid ((show w.heap.size < W.heap.size ∧ b < W.heap.size from ⟨hszW, hbl3⟩))
                  have b1 : path.length + 1 ≤ 1000 := by omega
                  have j0 := i0
                  have j1 := i1
                  have j2 := i2
                  have jcell := hcell
                  have EXA := Lib.hid (show Ext W (W.alloc (.cells #[] 3)).drew from ((Ext.refl W).alloc _).drewN 1)
                  have EXB := Lib.hid (show Ext W ((W.alloc (.cells #[] 3)).alloc (.cells #[.int .i64 (a : Int)] 3)).drew from (((Ext.refl W).alloc _).alloc _).drewN 1)
                  have EXC := Lib.hid (show Ext W ((W.alloc (.cells #[.int .i64 (a : Int)] 3)).alloc (.cells #[] 3)).drew from (((Ext.refl W).alloc _).alloc _).drewN 1)
                  have OWNA := Lib.hid (show (W.alloc (.cells #[] 3)).drew.ownsRow W.heap.size 3 1 (.slice (some ⟨W.heap.size, 0, none⟩) 0 0) 0 [] from ownsRow_fresh W _ _ (Nat.le_refl _))
                  have OWNB := Lib.hid (show ((W.alloc (.cells #[] 3)).alloc (.cells #[.int .i64 (a : Int)] 3)).drew.ownsRow W.heap.size 3 1 (.slice (some ⟨W.heap.size, 0, none⟩) 0 0) 0 [] from (ownsRow_fresh W _ _ (Nat.le_refl _)).alloc _)
                  have OWNC := Lib.hid (show ((W.alloc (.cells #[.int .i64 (a : Int)] 3)).alloc (.cells #[] 3)).drew.ownsRow W.heap.size 3 1 (.slice (some ⟨W.heap.size + 1, 0, none⟩) 0 0) 0 [] by
                    have := ownsRow_fresh (W.alloc (.cells #[.int .i64 (a : Int)] 3)) W.heap.size 3 (by simp)
                    simp at this
                    exact this)
                  have RDB := Lib.hid (show Rd ((W.alloc (.cells #[] 3)).alloc (.cells #[.int .i64 (a : Int)] 3)).drew (some ⟨W.heap.size + 1, 0, none⟩) [.int .i64 (a : Int)] from Rd.new (W.alloc (.cells #[] 3)) _ _ (by simp) rfl)
                  have RDC := Lib.hid (show Rd ((W.alloc (.cells #[.int .i64 (a : Int)] 3)).alloc (.cells #[] 3)).drew (some ⟨W.heap.size, 0, none⟩) [.int .i64 (a : Int)] from (Rd.new W 3 #[.int .i64 (a : Int)] rfl rfl).keep (Ext.drewN (Ext.alloc (Ext.refl _) _) 1))
                  go_region_held3 (fun w' => w'.cell? ⟨w.heap.size, 0, none⟩ = some (.int .i64 t.nodes) ∧ w'.cell? ⟨w.heap.size, 1, none⟩ = some (.slice AO t.over.length co) ∧ w'.cell? ⟨w.heap.size, 2, none⟩ = some (.slice AL t.links.length cl) ∧
                      w'.cell? ⟨b, o + m, none⟩ = some (.int .i64 (a : Int))) (first
                    | exact ⟨i0, i1, i2, hcell⟩
                    | exact ⟨cell_alloc_of i0 _, cell_alloc_of i1 _, cell_alloc_of i2 _, cell_alloc_of hcell _⟩
                    | exact ⟨cell_alloc_of (cell_alloc_of i0 _) _, cell_alloc_of (cell_alloc_of i1 _) _, cell_alloc_of (cell_alloc_of i2 _) _, cell_alloc_of (cell_alloc_of hcell _) _⟩)
                    (first
                    | (rw [if_pos (by rfl)]
                       refine wp_append_rd _ (.tmp 68) (.tmp 69) 39 (by rfl) W.heap.size 3 ti (.int .i64 0) 8 Tryz.underlying39 hi hz0 hz1 hz2 rfl (.slice (some ⟨W.heap.size, 0, none⟩) 0 0) 0 [] (by rfl) OWNA.out AP path.length cp (ints path) (by rfl) (ints_length _).symm (PWR.out.keep EXA.out) (fun h => .inr (APN.out h)) (ints_one _) (by unfold maxLen; omega) (by omega) EXA.out.size ?_
                       intro v3 w3 hown3 hgrow3 _
                       have e3 : Ext W w3 := Below.grown EXA.out hgrow3 EXA.out.size (fun k hk => by simp [Value.ownBlock] at hk; omega)
                       have i0 := (e3.cell (p := ⟨w.heap.size, 0, none⟩) KK.out.1).trans j0
                       have i1 := (e3.cell (p := ⟨w.heap.size, 1, none⟩) KK.out.1).trans j1
                       have i2 := (e3.cell (p := ⟨w.heap.size, 2, none⟩) KK.out.1).trans j2
                       have hcell := (e3.cell (p := ⟨b, o + m, none⟩) KK.out.2).trans jcell
                       have E3 := Lib.hid e3
                       rw [Nat.zero_add, List.nil_append] at hown3
                       have OWN3 := Lib.hid hown3
                       clear e3 hown3 hgrow3)
                    | (rw [if_pos (by rfl)]
                       refine wp_append_rd _ (.tmp 68) (.tmp 69) 39 (by rfl) W.heap.size 3 ti (.int .i64 0) 8 Tryz.underlying39 hi hz0 hz1 hz2 rfl (.slice (some ⟨W.heap.size, 0, none⟩) 0 0) 0 [] (by rfl) OWNB.out AP path.length cp (ints path) (by rfl) (ints_length _).symm (PWR.out.keep EXB.out) (fun h => .inr (APN.out h)) (ints_one _) (by unfold maxLen; omega) (by omega) EXB.out.size ?_
                       intro v3 w3 hown3 hgrow3 _
                       have e3 : Ext W w3 := Below.grown EXB.out hgrow3 EXB.out.size (fun k hk => by simp [Value.ownBlock] at hk; omega)
                       have hg2 : Rd w3 (some ⟨W.heap.size + 1, 0, none⟩) [.int .i64 (a : Int)] := rd_grown RDB.out hgrow3 (by simp [Value.ownBlock])
                       have i0 := (e3.cell (p := ⟨w.heap.size, 0, none⟩) KK.out.1).trans j0
                       have i1 := (e3.cell (p := ⟨w.heap.size, 1, none⟩) KK.out.1).trans j1
                       have i2 := (e3.cell (p := ⟨w.heap.size, 2, none⟩) KK.out.1).trans j2
                       have hcell := (e3.cell (p := ⟨b, o + m, none⟩) KK.out.2).trans jcell
                       have E3 := Lib.hid e3
                       rw [Nat.zero_add, List.nil_append] at hown3
                       have OWN3 := Lib.hid hown3
                       clear e3 hown3 hgrow3)
                    | (rw [if_pos (by rfl)]
                       refine wp_append_rd _ (.tmp 68) (.tmp 69) 39 (by rfl) W.heap.size 3 ti (.int .i64 0) 8 Tryz.underlying39 hi hz0 hz1 hz2 rfl (.slice (some ⟨W.heap.size + 1, 0, none⟩) 0 0) 0 [] (by rfl) OWNC.out AP path.length cp (ints path) (by rfl) (ints_length _).symm (PWR.out.keep EXC.out) (fun h => .inr (APN.out h)) (ints_one _) (by unfold maxLen; omega) (by omega) EXC.out.size ?_
                       intro v3 w3 hown3 hgrow3 _
                       have e3 : Ext W w3 := Below.grown EXC.out hgrow3 EXC.out.size (fun k hk => by simp [Value.ownBlock] at hk; omega)
                       have hg2 : Rd w3 (some ⟨W.heap.size, 0, none⟩) [.int .i64 (a : Int)] := rd_grown RDC.out hgrow3 (by simp [Value.ownBlock])
                       have i0 := (e3.cell (p := ⟨w.heap.size, 0, none⟩) KK.out.1).trans j0
                       have i1 := (e3.cell (p := ⟨w.heap.size, 1, none⟩) KK.out.1).trans j1
                       have i2 := (e3.cell (p := ⟨w.heap.size, 2, none⟩) KK.out.1).trans j2
                       have hcell := (e3.cell (p := ⟨b, o + m, none⟩) KK.out.2).trans jcell
                       have E3 := Lib.hid e3
                       rw [Nat.zero_add, List.nil_append] at hown3
                       have OWN3 := Lib.hid hown3
                       clear e3 hown3 hgrow3)
                    | (rw [if_pos (by rfl)]
                       refine wp_append_rd _ (.tmp 70) (.tmp 75) 39 (by rfl) W.heap.size 3 ti (.int .i64 0) 8 Tryz.underlying39 hi hz0 hz1 hz2 rfl v3 path.length (ints path) (by rfl) (by first | exact OWN3.out | exact OWN3.out.alloc _) _ 1 1 [.int .i64 (a : Int)] (by rfl) rfl (by first | exact hg2 | exact Rd.new _ _ _ rfl rfl) (fun h => by cases h) (fun u hu => by simp at hu; subst hu; rfl) (by unfold maxLen; omega) (by omega) (by first | exact E3.out.size | exact (E3.out.alloc _).size) ?_
                       intro v5 w5 hown5 hgrow5 _
                       have e5 : Ext W w5 := by first | exact Below.grown E3.out hgrow5 E3.out.size (fun k hk => (OWN3.out.lt k hk).1) | exact Below.grown (E3.out.alloc _) hgrow5 (E3.out.alloc _).size (fun k hk => (OWN3.out.lt k hk).1)
                       have hown6 : w5.ownsRow W.heap.size 3 1 v5 (path.length + 1) (ints (path ++ [a])) := by rw [ints_snoc]; exact hown5
                       obtain ⟨g5, c5, rfl⟩ : ∃ g5 c5, v5 = .slice (some ⟨g5, 0, none⟩) (path.length + 1) c5 := by
                         rcases hown6.2 with ⟨_, hq⟩ | ⟨g5, c5, _, hq, _⟩
                         · omega
                         · exact ⟨g5, c5, hq⟩
                       have hr5 : RdT w5 3 (some ⟨g5, 0, none⟩) (ints (path ++ [a])) ∧ path.length + 1 ≤ c5 := by
                         obtain ⟨A', c', q1, q2, q3⟩ := ownsRow_rdT (l := path ++ [a]) hown6 (by simp)
                         injection q1 with q1 _ q4
                         subst q1 q4
                         rw [List.length_append] at q2
                         exact ⟨q3, q2⟩
                       have i0 := (e5.cell (p := ⟨w.heap.size, 0, none⟩) KK.out.1).trans j0
                       have i1 := (e5.cell (p := ⟨w.heap.size, 1, none⟩) KK.out.1).trans j1
                       have i2 := (e5.cell (p := ⟨w.heap.size, 2, none⟩) KK.out.1).trans j2
                       have hcell := (e5.cell (p := ⟨b, o + m, none⟩) KK.out.2).trans jcell
                       have E5 := Lib.hid e5
                       have R5 := Lib.hid hr5
                       clear e5 hown5 hgrow5 hown6 hr5)
                    | (go_at_call 114
                       refine (CALL.out _ _ _ E5.out R5.out.1 R5.out.2 (fun h => by cases h)).mono ?_
                       rintro e w6 ⟨ov', rfl, q1, q2, q3⟩
                       obtain ⟨⟨i0, i1, i2⟩, _⟩ := (q3.blk' (by decide) BWH.out).three
                       have hcell := (q3.rdT (by decide) RWH.out).get_ HA.out
                       have Q1 := Lib.hid q1
                       have Q2 := Lib.hid q2
                       have Q3 := Lib.hid q3
                       clear q1 q2 q3))
                  all_goals
                    go_wp2
                    go_meet
                    exact ⟨by rw [TS.out, GA.out, ← List.append_assoc]; exact Q1.out, Q2.out, Q3.out⟩
                case rest =>
                  obtain ⟨hpc, hxc, hkc⟩ := hcut
                  have hsc := hkc.blk' (by decide) (hs2.set_ h (.bool true))
                  have KC := Lib.hid (KK2.out.trans (Keep39.round hs2 HSB.out hkc))
                  have PC := Lib.hid (hpc.set_ (p := ⟨gs, h, none⟩) hsc (.bool false))
                  have XC := Lib.hid (Ext.set_ hxc (p := ⟨gs, h, none⟩) hgs (.bool false))
                  have hcc : wc.cell? ⟨gs, h, none⟩ = some (.bool true) := (hsc.cell h).trans (by simp [bools, hhl])
                  have hcf := hsc.frozen h
                  clear hpc hxc hkc hsc hs2 hb2 i0 i1 i2 g0 g1 g2 hcell hse hsf
                  go_wp2
                  go_roundw
                  case rel => exact ⟨m + 1, by omega, by go_num, PC.out, XC.out, KC.out⟩
                  case measure => simp [intOf]; omega
          · have hme : m = L := by omega
            subst hme
            have PF := Lib.hid (show Paths _ w0.heap.size _ (ps ++ E) by
              have := PW.out
              rw [List.take_of_length_le (by rw [HL.out]; exact Nat.le_refl _), ← HE2.out] at this
              exact this)
            have KF := Lib.hid ((Keep39.ofExt E1.out).trans KW.out)
            go_wp2
            go_ret
            exact ⟨_, rfl, PF.out, XW0.out, KF.out⟩
end Go.Proofs.YtekiomanidimnaaGreatDoor


namespace Go.Proofs.YtekiomanidimnaaGreatDoor
open Go.RowKit
theorem Tryz.info4 : (Tryz.prog.info? 4).map (fun i => (i.zero, i.size, i.bytes)) = some (some (.bool false), 1, 1) := by kernel_rfl
/-- All loopless paths of the reference. -/
def simP (t : Tp) (down : List Bool) (s d : Nat) : List (List Nat) := extP t down d t.nodes.toNat [] s ((List.replicate t.nodes.toNat false).set s true)
theorem unset_replicate (N : Nat) : unset (List.replicate N false) = N := by unfold unset; simp
set_option maxHeartbeats 4000000 in
theorem rSimple_ok (t : Tp) (AO : Option Addr) (co : Nat) (AL : Option Addr) (cl : Nat) (AD : Option Addr) (cd : Nat) (down : List Bool) (s d : Nat) (w : World) (ht : TopR w t AO co AL cl) (hv : validP t = true) (hdn : Rd w AD (bools down)) (hdl : down.length ≤ 600)
    (hs : (s : Int) < t.nodes) (hd : (d : Int) < t.nodes) (hb : (2 * t.links.length + 1) ^ t.nodes.toNat ≤ 2 ^ 42) :
    Calls Tryz.prog 59 #[.agg #[.int .i64 t.nodes, .slice AO t.over.length co, .slice AL t.links.length cl], .slice AD down.length cd, .int .i64 s, .int .i64 d] w fun e w' => ∃ v, e = .returned v ∧ Paths w' w.heap.size v (simP t down s d) ∧ Ext w w' := by
  have hN : ∃ N : Nat, t.nodes = (N : Int) ∧ N ≤ 64 ∧ t.links.length ≤ 256 := by
    unfold validP headOk inB at hv
    simp at hv
    exact ⟨t.nodes.toNat, by omega, by omega, by omega⟩
  obtain ⟨N, hN1, hN2, hll⟩ := hN
  have hsim : simP t down s d = extP t down d N [] s ((List.replicate N false).set s true) := by unfold simP; rw [hN1]; rfl
  rw [hsim]
  have hargs : (Value.agg #[.int .i64 t.nodes, .slice AO t.over.length co, .slice AL t.links.length cl]) = .agg #[.int .i64 (N : Int), .slice AO t.over.length co, .slice AL t.links.length cl] := by rw [hN1]
  rw [hargs]
  have hb' : (2 * t.links.length + 1) ^ N ≤ 2 ^ 42 := by have := hb; rw [hN1] at this; exact this
  have hsN : s < N := by omega
  have hdN : d < N := by omega
  have hlen : ((List.replicate N false).set s true).length = N := by simp
  have hun := unset_set (l := List.replicate N false) (k := s) (by simp [hsN])
  rw [unset_replicate] at hun
  have hcall : ∀ (W : World) (gs : Nat), Ext w W → w.heap.size ≤ gs → Blk W gs 4 (bools ((List.replicate N false).set s true)).toArray →
      Calls Tryz.prog 114 #[.agg #[.int .i64 (N : Int), .slice AO t.over.length co, .slice AL t.links.length cl], .slice AD down.length cd, .slice none 0 0, .int .i64 s, .int .i64 d, .slice (some ⟨gs, 0, none⟩) N N, .slice none 0 0] W fun e w' => ∃ ov', e = .returned ov' ∧ Paths w' w.heap.size ov' (extP t down d N [] s ((List.replicate N false).set s true)) ∧ Ext w w' := by
    intro W gs hW hgs hblk
    have := ext_any t AO co AL cl AD cd down d w ht hv hll hdn hdl (by omega) N [] none 0 s ((List.replicate N false).set s true) gs (.slice none 0 0) [] W (by omega) (by rw [hlen]; exact hN1.symm) (by omega) (Nat.le_refl _) (by simp; omega) (fun _ => rfl) hW (RdT.nil _ _ _) hblk hgs (Paths.nil _ _) (by simpa using hb')
    rw [hlen, hargs] at this
    exact this.mono fun e w' ⟨ov', k1, k2, k3, _⟩ => ⟨ov', k1, k2, k3⟩
  have CALL := Lib.hid (hcall)
  have h3 := ht.ll
  have h4 := ht.cl
  obtain ⟨hba, e0⟩ := boxes1 w #[.int .i64 (N : Int), .slice AO t.over.length co, .slice AL t.links.length cl] 25
  have hmk := run_make_row' (P := Tryz.prog) 22 4 (.bool false) 1 Tryz.underlying22 Tryz.info4 rfl .i64 .i64 N (by omega) (by omega)
  have hset : (madeCells #[.bool false] N).setIfInBounds s (.bool true) = (bools ((List.replicate N false).set s true)).toArray := by
    apply Array.ext'
    rw [Array.toList_setIfInBounds, toList_madeCells_one]
    simp [bools, List.map_set]
  have HSET := Lib.hid (hset)
  clear ht hv hdn hsim hargs hb hb' hlen hun hcall hN1 hset hs hd
  obtain ⟨⟨i0, i1, i2⟩, g0, g1, g2⟩ := hba.three
  have hcs : (madeCells #[.bool false] N)[s]? = some (.bool false) := by
    rw [← Array.getElem?_toList, toList_madeCells_one]; simp [hsN]
  have E0 := Lib.hid (e0)
  clear hba e0
  go_enter Tryz.func59, Tryz.ntmps59
  go_wp2_with fail
  rw [HSET.out]
  refine (CALL.out _ _ (E0.out.alloc _) (Nat.le_succ _) (Blk.new' _ _ _ (by simp))).mono ?_
  rintro e w2 ⟨v, rfl, q1, q2⟩
  have Q1 := Lib.hid (q1)
  have Q2 := Lib.hid (q2)
  clear q1 q2
  go_wp2
  go_ret
  exact ⟨v, rfl, Q1.out, Q2.out⟩
end Go.Proofs.YtekiomanidimnaaGreatDoor


namespace Go.Proofs.YtekiomanidimnaaGreatDoor
open Go.RowKit
theorem Paths.form {w : World} {B : Nat} {v : Value} {ps : List (List Nat)} (h : Paths w B v ps) : ∃ A c, v = .slice A ps.length c := by
  obtain ⟨cells, _, h2, _⟩ := h.ex
  rcases h2.2 with ⟨h3, h4⟩ | ⟨g, cap, _, h3, _⟩
  · exact ⟨none, 0, by rw [h4]; exact h3⟩
  · exact ⟨_, _, h3⟩
def simBad1 (t : Tp) (down : List Bool) (most : Int) : Bool := !validP t || !fitsP t down || decide (most < 0) || decide (most > 1000)
def simBad2 (t : Tp) (s d : Int) : Bool := decide (s < 0) || decide (s ≥ t.nodes) || decide (d < 0) || decide (d ≥ t.nodes)
/-- What the reference answers. -/
def refSim (t : Tp) (down : List Bool) (s d most : Int) : List (List Nat) × Int :=
  if simBad1 t down most then ([], 1) else if simBad2 t s d then ([], 2) else if ((simP t down s.toNat d.toNat).length : Int) > most then ([], 6) else (simP t down s.toNat d.toNat, 0)
set_option maxRecDepth 100000 in
set_option maxHeartbeats 4000000 in
theorem r42Simple_ok (t : Tp) (AO : Option Addr) (co : Nat) (AL : Option Addr) (cl : Nat) (AD : Option Addr) (cd : Nat) (down : List Bool) (s d most : Int) (w : World) (ht : TopR w t AO co AL cl) (hdn : Rd w AD (bools down)) (hdl : down.length ≤ 600)
    (hb : validP t = true → (2 * t.links.length + 1) ^ t.nodes.toNat ≤ 2 ^ 42) :
    Calls Tryz.prog 17 #[.agg #[.int .i64 t.nodes, .slice AO t.over.length co, .slice AL t.links.length cl], .slice AD down.length cd, .int .i64 s, .int .i64 d, .int .i64 most] w fun e w' => ∃ v, e = .returned (.tuple #[v, .int .i64 (refSim t down s d most).2]) ∧ Paths w' w.heap.size v (refSim t down s d most).1 ∧ Ext w w' := by
  have HT := Lib.hid (ht)
  have HDN := Lib.hid (hdn)
  have HB := Lib.hid (hb)
  have h3 := ht.ll
  have h4 := ht.cl
  clear ht hdn hb
  generalize hR : refSim t down s d most = R
  have HR := Lib.hid (hR)
  clear hR
  obtain ⟨hba, e0⟩ := boxes1 w #[.int .i64 t.nodes, .slice AO t.over.length co, .slice AL t.links.length cl] 25
  obtain ⟨⟨i0, i1, i2⟩, g0, g1, g2⟩ := hba.three
  go_enter Tryz.func17, Tryz.ntmps17
  go_upto_region 1 with fail
  go_cut [13] (fun s wx => s = .bool (simBad1 t down most) ∧ Blk wx w.heap.size 25 #[.int .i64 t.nodes, .slice AO t.over.length co, .slice AL t.links.length cl] ∧ Ext w wx)
  case first =>
    go_wp2_with fail
    refine (rValid_any t AO co AL cl _ (HT.out.keep e0)).mono ?_
    rintro e w1 ⟨rfl, hx1⟩
    have hba := hba.keep hx1
    obtain ⟨⟨i0, i1, i2⟩, g0, g1, g2⟩ := hba.three
    have E1 := Lib.hid (e0.tr hx1)
    clear hx1
    cases hv : validP t
    case false =>
      go_wp2
      go_meet
      exact ⟨by simp [simBad1, hv], hba, E1.out⟩
    case true =>
      have HV := Lib.hid (hv)
      go_wp2_with fail
      refine (rMask_ok t AO co AL cl AD cd down _ (HT.out.keep E1.out) HV.out).mono ?_
      rintro e w2 ⟨rfl, hx2⟩
      have hba := hba.keep hx2
      have E2 := Lib.hid (E1.out.tr hx2)
      clear hx2
      cases hf : fitsP t down
      case false =>
        go_wp2
        go_meet
        exact ⟨by simp [simBad1, hf], hba, E2.out⟩
      case true =>
        by_cases hm : most < 0
        · go_wp2
          go_meet
          exact ⟨by simp [simBad1, hm], hba, E2.out⟩
        · by_cases hm2 : most > 1000
          · go_wp2
            go_meet
            exact ⟨by simp [simBad1, hm2], hba, E2.out⟩
          · go_wp2
            go_meet
            exact ⟨by simp [simBad1, hm, hm2, hf, HV.out], hba, E2.out⟩
  case rest =>
    obtain ⟨rfl, hba, hx⟩ := hcut
    clear i0 i1 i2 g0 g1 g2 e0
    have EX := Lib.hid (hx)
    clear hx
    obtain ⟨⟨i0, i1, i2⟩, g0, g1, g2⟩ := hba.three
    cases hb1 : simBad1 t down most
    case true =>
      have hr : R = ([], 1) := by rw [← HR.out]; unfold refSim; rw [hb1]; rfl
      subst hr
      go_wp2
      exact bodyPost_ret (v := .tuple #[.slice none 0 0, .int .i64 1]) (by simp [results, Tryz.results17, go_sem]) rfl (⟨_, rfl, Paths.nil _ _, EX.out⟩)
    case false =>
      have HB1 := Lib.hid (hb1)
      go_upto_region 3 with fail
      go_cut [31] (fun x wx => x = .bool (simBad2 t s d) ∧ Blk wx w.heap.size 25 #[.int .i64 t.nodes, .slice AO t.over.length co, .slice AL t.links.length cl] ∧ Ext w wx)
      case first =>
        by_cases k1 : s < 0
        · go_wp2
          go_meet
          exact ⟨by simp [simBad2, k1], hba, EX.out⟩
        · by_cases k2 : s ≥ t.nodes
          · go_wp2
            go_meet
            exact ⟨by simp [simBad2, k2], hba, EX.out⟩
          · by_cases k3 : d < 0
            · go_wp2
              go_meet
              exact ⟨by simp [simBad2, k3], hba, EX.out⟩
            · by_cases k4 : d ≥ t.nodes
              · go_wp2
                go_meet
                exact ⟨by simp [simBad2, k4], hba, EX.out⟩
              · go_wp2
                go_meet
                exact ⟨by simp [simBad2, k1, k3]; omega, hba, EX.out⟩
      case rest =>
        obtain ⟨rfl, hba, hx⟩ := hcut
        clear i0 i1 i2 g0 g1 g2 EX
        have EX := Lib.hid (hx)
        clear hx
        obtain ⟨⟨i0, i1, i2⟩, g0, g1, g2⟩ := hba.three
        cases hb2 : simBad2 t s d
        case true =>
          have hr : R = ([], 2) := by rw [← HR.out]; unfold refSim; rw [HB1.out, hb2]; rfl
          subst hr
          go_wp2
          exact bodyPost_ret (v := .tuple #[.slice none 0 0, .int .i64 2]) (by simp [results, Tryz.results17, go_sem]) rfl (⟨_, rfl, Paths.nil _ _, EX.out⟩)
        case false =>
          have hv : validP t = true := by
            have := HB1.out
            unfold simBad1 at this
            simp at this
            exact this.1.1.1
          have hsd : 0 ≤ s ∧ s < t.nodes ∧ 0 ≤ d ∧ d < t.nodes := by
            unfold simBad2 at hb2
            simp at hb2
            omega
          have hr : R = if ((simP t down s.toNat d.toNat).length : Int) > most then ([], 6) else (simP t down s.toNat d.toNat, 0) := by rw [← HR.out]; unfold refSim; rw [HB1.out, hb2]; rfl
          obtain ⟨n, rfl⟩ : ∃ n : Nat, s = (n : Int) := ⟨s.toNat, by omega⟩
          obtain ⟨k, rfl⟩ : ∃ k : Nat, d = (k : Int) := ⟨d.toNat, by omega⟩
          rw [Int.toNat_natCast, Int.toNat_natCast] at hr
          have HR2 := Lib.hid (hr)
          have HV := Lib.hid (hv)
          have SD := Lib.hid (hsd)
          clear hr hv hsd hb2 HR
          go_wp2_with fail
          refine (rSimple_ok t AO co AL cl AD cd down n k _ (HT.out.keep EX.out) HV.out (HDN.out.keep EX.out) hdl SD.out.2.1 SD.out.2.2.2 (HB.out HV.out)).mono ?_
          rintro e w2 ⟨v, rfl, q1, q2⟩
          obtain ⟨A, c, rfl⟩ := q1.form
          have hlt : (simP t down n k).length ≤ 4398046511104 := Nat.le_trans (extP_len _ _ _ _ _ _ _) (HB.out HV.out)
          have Q1 := Lib.hid (show Paths w2 w.heap.size (.slice A (simP t down n k).length c) (simP t down n k) by
            obtain ⟨cells, z1, z2, z3⟩ := q1.ex
            exact ⟨cells, z1, z2.mono EX.out.size, z3⟩)
          have Q2 := Lib.hid (EX.out.tr q2)
          clear q1 q2
          by_cases hl : ((simP t down n k).length : Int) > most
          · have hr : R = ([], 6) := by rw [HR2.out, if_pos hl]
            subst hr
            generalize (simP t down n k).length = L at *
            go_wp2
            exact bodyPost_ret (v := .tuple #[.slice none 0 0, .int .i64 6]) (by simp [results, Tryz.results17, go_sem]) rfl (⟨_, rfl, Paths.nil _ _, Q2.out⟩)
          · have hr : R = (simP t down n k, 0) := by rw [HR2.out, if_neg hl]
            subst hr
            generalize hL : (simP t down n k).length = L at *
            go_wp2
            exact bodyPost_ret (v := .tuple #[.slice A L c, .int .i64 0]) (by simp [results, Tryz.results17, go_sem]) rfl (⟨_, rfl, Q1.out, Q2.out⟩)
end Go.Proofs.YtekiomanidimnaaGreatDoor


namespace Go.Proofs.YtekiomanidimnaaGreatDoor
open Go.RowKit
theorem same_step {α : Type} [DecidableEq α] {l1 l2 : List α} {m : Nat} {a b : α} (h : l1.take m = l2.take m) (h1 : l1[m]? = some a) (h2 : l2[m]? = some b) (hab : a = b) : l1.take (m + 1) = l2.take (m + 1) := by
  rw [List.take_add_one, List.take_add_one, h, h1, h2, hab]
theorem Rd.ints_ {w : World} {A : Option Addr} {l : List Nat} (h : Rd w A (ints l)) {k : Nat} (hk : k < l.length) :
    ∃ b o, A = some ⟨b, o, none⟩ ∧ b < w.heap.size ∧ w.cell? ⟨b, o + k, none⟩ = some (.int .i64 ((l[k]?.getD 0 : Nat) : Int)) := by
  obtain ⟨b, o, e, hb, hc⟩ := h.at_ (i := k) (by rw [ints_length]; exact hk)
  exact ⟨b, o, e, hb, (hc k (by rw [ints_length]; exact hk)).trans (ints_get l k hk)⟩
set_option maxHeartbeats 4000000 in
theorem sameInts_ok (A1 A2 : Option Addr) (c1 c2 : Nat) (l1 l2 : List Nat) (w : World) (hr1 : Rd w A1 (ints l1)) (hr2 : Rd w A2 (ints l2)) (hc1 : l1.length ≤ c1) (hc2 : l2.length ≤ c2) (hl1 : l1.length ≤ 4398046511104) (hl2 : l2.length ≤ 4398046511104) :
    Calls Tryz.prog 23 #[.slice A1 l1.length c1, .slice A2 l2.length c2] w fun e w' => e = .returned (.bool (decide (l1 = l2))) ∧ Ext w w' := by
  have R1 := Lib.hid (hr1)
  have R2 := Lib.hid (hr2)
  clear hr1 hr2
  by_cases hl : l1.length = l2.length
  · have hL : ((l1.length : Int) != (l2.length : Int)) = false := by simp; omega
    have HL := Lib.hid (hl)
    clear hl
    generalize hB : decide (l1 = l2) = B
    have HB := Lib.hid (hB)
    clear hB
    go_enter Tryz.func23, Tryz.ntmps23
    go_wp2_with fail
    go_loopw [5] (fun it wr => ∃ m : Nat, m ≤ l1.length ∧ it = .int .i64 m ∧ l1.take m = l2.take m ∧ Ext w wr) (fun i _ => l1.length - (intOf i).toNat)
    case atStart => exact ⟨0, Nat.zero_le _, rfl, by simp, Ext.refl w⟩
    case round =>
      obtain ⟨m, hm, rfl, htk, hx⟩ := hrel
      have TK := Lib.hid (htk)
      have EX := Lib.hid (hx)
      clear htk hx
      by_cases hml : m < l1.length
      · have hml2 : m < l2.length := by have := HL.out; omega
        obtain ⟨a, ha⟩ : ∃ a, l1[m]? = some a := ⟨_, List.getElem?_eq_getElem hml⟩
        obtain ⟨b, hb⟩ : ∃ b, l2[m]? = some b := ⟨_, List.getElem?_eq_getElem hml2⟩
        obtain ⟨b1, o1, rfl, hb1, hcell1⟩ := (R1.out.keep EX.out).ints_ hml
        obtain ⟨b2, o2, rfl, hb2, hcell2⟩ := (R2.out.keep EX.out).ints_ hml2
        rw [ha, Option.getD_some] at hcell1
        rw [hb, Option.getD_some] at hcell2
        have x1 := XW.cell _ _ _ hb1 hcell1
        have x2 := XW.cell _ _ _ hb2 hcell2
        have HA := Lib.hid (ha)
        have HBB := Lib.hid (hb)
        clear ha hb hcell1 hcell2
        go_wp2_with fail
        refine wp_region_ext (by kernel_rfl) (by kernel_rfl) ?_
        repeat (go_big_quiet_step (fail))
        refine wpQuiet_nil ?_
        rintro _ ⟨x, rfl⟩
        have hx2 := x.ext
        clear x1 x2
        generalize x.val = w2 at *
        clear x
        have E2 := Lib.hid (EX.out.tr hx2)
        clear hx2
        by_cases hab : a = b
        · subst hab
          go_wp2
          go_roundw
          case rel => exact ⟨m + 1, by omega, by go_num, same_step TK.out HA.out HBB.out rfl, E2.out⟩
          case measure => simp [intOf]; omega
        · have hne : ((a : Int) != (b : Int)) = true := by simp; omega
          have hB : B = false := by
            rw [← HB.out]
            apply decide_eq_false
            rintro rfl
            have := HA.out.symm.trans HBB.out
            injection this with this
            exact hab this
          subst hB
          go_wp2
          go_ret
          exact ⟨rfl, E2.out⟩
      · have hme : m = l1.length := by omega
        subst hme
        have hB : B = true := by
          rw [← HB.out]
          apply decide_eq_true
          have := TK.out
          rw [List.take_of_length_le (Nat.le_refl _), HL.out, List.take_of_length_le (Nat.le_refl _)] at this
          exact this
        subst hB
        go_wp2
        go_ret
        exact ⟨rfl, EX.out⟩
  · have hL : ((l1.length : Int) != (l2.length : Int)) = true := by simp; omega
    have hB : decide (l1 = l2) = false := decide_eq_false (fun e => hl (by rw [e]))
    rw [hB]
    clear hl hB
    go_enter Tryz.func23, Tryz.ntmps23
    go_wp2
    go_ret
    exact ⟨rfl, Ext.refl w⟩
/-- A slice of paths, to be read. -/
def RdP (w : World) (v : Value) (ps : List (List Nat)) : Prop :=
  ∃ (A : Option Addr) (c : Nat) (cells : List Value), v = .slice A ps.length c ∧ ps.length ≤ c ∧ cells.length = ps.length ∧ Rd w A cells ∧
    ∀ (i : Nat) (p : List Nat), ps[i]? = some p → ∃ (A : Option Addr) (c : Nat), cells[i]? = some (.slice A p.length c) ∧ p.length ≤ c ∧ Rd w A (ints p)
theorem RdP.keep {w w' : World} {v : Value} {ps : List (List Nat)} (h : RdP w v ps) (hx : Ext w w') : RdP w' v ps := by
  obtain ⟨A, c, cells, h1, h2, h3, h4, h5⟩ := h
  refine ⟨A, c, cells, h1, h2, h3, h4.keep hx, fun i p hp => ?_⟩
  obtain ⟨A', c', k1, k2, k3⟩ := h5 i p hp
  exact ⟨A', c', k1, k2, k3.keep hx⟩
theorem Paths.rdP {w : World} {B : Nat} {v : Value} {ps : List (List Nat)} (h : Paths w B v ps) : RdP w v ps := by
  obtain ⟨cells, h1, h2, h3⟩ := h.ex
  have h4 : ∀ (i : Nat) (p : List Nat), ps[i]? = some p → ∃ (A : Option Addr) (c : Nat), cells[i]? = some (.slice A p.length c) ∧ p.length ≤ c ∧ Rd w A (ints p) := fun i p hp => by
    obtain ⟨A', c', k1, k2, k3⟩ := h3 i p hp
    exact ⟨A', c', k1, k2, k3.rd⟩
  rcases h2.2 with ⟨k1, k2⟩ | ⟨g', cap, cur, k3, k4, k5, k6, k7, k8, k9⟩
  · have hc : cells = [] := List.eq_nil_of_length_eq_zero (by omega)
    exact ⟨none, 0, cells, by rw [k2]; exact k1, by omega, h1, by rw [hc]; exact Rd.nil _ _, h4⟩
  · refine ⟨some ⟨g', 0, none⟩, cap, cells, k3, k6, h1, fun _ => ⟨g', 0, rfl, lt_of_get k5, fun i hi => ?_⟩, h4⟩
    have e : w.cell? ⟨g', 0 + i, none⟩ = cur[i]? := by unfold World.cell?; simp [k5]
    rw [e, ← k9, List.getElem?_take, if_pos (by omega)]; simp
theorem RdP.at_ {w : World} {A : Option Addr} {n c : Nat} {ps : List (List Nat)} (h : RdP w (.slice A n c) ps) {i : Nat} {p : List Nat} (hp : ps[i]? = some p) :
    ∃ (b o : Nat) (A' : Option Addr) (c' : Nat), A = some ⟨b, o, none⟩ ∧ b < w.heap.size ∧ w.cell? ⟨b, o + i, none⟩ = some (.slice A' p.length c') ∧ p.length ≤ c' ∧ Rd w A' (ints p) := by
  obtain ⟨A1, c1, cells, h1, h2, h3, h4, h5⟩ := h
  injection h1 with e1 e2 e3
  subst e1
  have hlt := (List.getElem?_eq_some_iff.1 hp).1
  obtain ⟨b, o, e, hb, hc⟩ := h4.at_ (i := i) (by omega)
  obtain ⟨A', c', k1, k2, k3⟩ := h5 i p hp
  exact ⟨b, o, A', c', e, hb, (hc i (by omega)).trans k1, k2, k3⟩
set_option maxHeartbeats 4000000 in
theorem same_ok (v1 v2 : Value) (l1 l2 : List (List Nat)) (w : World) (hr1 : RdP w v1 l1) (hr2 : RdP w v2 l2) (hl1 : l1.length ≤ 4398046511104) (hl2 : l2.length ≤ 4398046511104) (hp1 : ∀ p ∈ l1, p.length ≤ 1000) (hp2 : ∀ p ∈ l2, p.length ≤ 1000) :
    Calls Tryz.prog 18 #[v1, v2] w fun e w' => e = .returned (.bool (decide (l1 = l2))) ∧ Ext w w' := by
  have f1 := hr1
  have f2 := hr2
  obtain ⟨A1, c1, _, rfl, hc1, _⟩ := f1
  obtain ⟨A2, c2, _, rfl, hc2, _⟩ := f2
  have R1 := Lib.hid (hr1)
  have R2 := Lib.hid (hr2)
  have P1 := Lib.hid (hp1)
  have P2 := Lib.hid (hp2)
  clear hr1 hr2 hp1 hp2
  by_cases hl : l1.length = l2.length
  · have hL : ((l1.length : Int) != (l2.length : Int)) = false := by simp; omega
    have HL := Lib.hid (hl)
    clear hl
    generalize hB : decide (l1 = l2) = B
    have HB := Lib.hid (hB)
    clear hB
    go_enter Tryz.func18, Tryz.ntmps18
    go_wp2_with fail
    go_loopw [5] (fun it wr => ∃ m : Nat, m ≤ l1.length ∧ it = .int .i64 m ∧ l1.take m = l2.take m ∧ Ext w wr) (fun i _ => l1.length - (intOf i).toNat)
    case atStart => exact ⟨0, Nat.zero_le _, rfl, by simp, Ext.refl w⟩
    case round =>
      obtain ⟨m, hm, rfl, htk, hx⟩ := hrel
      have TK := Lib.hid (htk)
      have EX := Lib.hid (hx)
      clear htk hx
      by_cases hml : m < l1.length
      · have hml2 : m < l2.length := by have := HL.out; omega
        obtain ⟨a, ha⟩ : ∃ a, l1[m]? = some a := ⟨_, List.getElem?_eq_getElem hml⟩
        obtain ⟨b, hb⟩ : ∃ b, l2[m]? = some b := ⟨_, List.getElem?_eq_getElem hml2⟩
        have za := P1.out a (List.mem_of_getElem? ha)
        have zb := P2.out b (List.mem_of_getElem? hb)
        obtain ⟨b1, o1, A3, c3, rfl, hb1, hcell1, hc3, hr3⟩ := (R1.out.keep EX.out).at_ ha
        obtain ⟨b2, o2, A4, c4, rfl, hb2, hcell2, hc4, hr4⟩ := (R2.out.keep EX.out).at_ hb
        have x1 := XW.cell _ _ _ hb1 hcell1
        have x2 := XW.cell _ _ _ hb2 hcell2
        have HA := Lib.hid (ha)
        have HBB := Lib.hid (hb)
        have R3 := Lib.hid (hr3)
        have R4 := Lib.hid (hr4)
        clear ha hb hcell1 hcell2 hr3 hr4
        go_wp2_with fail
        refine wp_region_ext (by kernel_rfl) (by kernel_rfl) ?_
        repeat (go_big_quiet_step ((go_at_call 23; exact Calls.ext_of (sameInts_ok A3 A4 c3 c4 a b _ (R3.out.keep (XW.ext _)) (R4.out.keep (XW.ext _)) hc3 hc4 (by omega) (by omega)))))
        refine wpQuiet_nil ?_
        rintro _ ⟨x, rfl⟩
        have hx2 := x.ext
        clear x1 x2
        generalize x.val = w2 at *
        clear x
        have E2 := Lib.hid (EX.out.tr hx2)
        clear hx2
        cases hab : decide (a = b)
        case true =>
          have hab' := of_decide_eq_true hab
          clear hab
          subst hab'
          go_wp2
          go_roundw
          case rel => exact ⟨m + 1, by omega, by go_num, same_step TK.out HA.out HBB.out rfl, E2.out⟩
          case measure => simp [intOf]; omega
        case false =>
          have hB : B = false := by
            rw [← HB.out]
            apply decide_eq_false
            rintro rfl
            have := HA.out.symm.trans HBB.out
            injection this with this
            exact of_decide_eq_false hab this
          subst hB
          go_wp2
          go_ret
          exact ⟨rfl, E2.out⟩
      · have hme : m = l1.length := by omega
        subst hme
        have hB : B = true := by
          rw [← HB.out]
          apply decide_eq_true
          have := TK.out
          rw [List.take_of_length_le (Nat.le_refl _), HL.out, List.take_of_length_le (Nat.le_refl _)] at this
          exact this
        subst hB
        go_wp2
        go_ret
        exact ⟨rfl, EX.out⟩
  · have hL : ((l1.length : Int) != (l2.length : Int)) = true := by simp; omega
    have hB : decide (l1 = l2) = false := decide_eq_false (fun e => hl (by rw [e]))
    rw [hB]
    clear hl hB
    go_enter Tryz.func18, Tryz.ntmps18
    go_wp2
    go_ret
    exact ⟨rfl, Ext.refl w⟩
end Go.Proofs.YtekiomanidimnaaGreatDoor


namespace Go.Proofs.YtekiomanidimnaaGreatDoor
open Go.RowKit
def Que (w : World) (B : Nat) (e : TypeId) (v : Value) (xs : List Value) : Prop :=
  ∃ (g off cap : Nat) (cur : Array Value), v = .slice (some ⟨g, off, none⟩) xs.length cap ∧ B ≤ g ∧ w.heap[g]? = some (.cells cur e (0, 0)) ∧ xs.length ≤ cap ∧ off + cap ≤ cur.size ∧ ∀ i, i < xs.length → cur[off + i]? = xs[i]?
theorem Que.lt {w : World} {B : Nat} {e : TypeId} {v : Value} {xs : List Value} (h : Que w B e v xs) : ∀ k, v.ownBlock = some k → B ≤ k ∧ k < w.heap.size := by
  obtain ⟨g, off, cap, cur, rfl, h1, h2, _⟩ := h
  intro k hk
  simp [Value.ownBlock] at hk
  subst hk
  exact ⟨h1, lt_of_get h2⟩
theorem Que.keep {w w' : World} {B : Nat} {e : TypeId} {v : Value} {xs : List Value} (h : Que w B e v xs) (hx : Ext w w') : Que w' B e v xs := by
  obtain ⟨g, off, cap, cur, h0, h1, h2, h3⟩ := h
  exact ⟨g, off, cap, cur, h0, h1, (hx.block g (lt_of_get h2)).trans h2, h3⟩
theorem Que.far {w : World} {B : Nat} {e e' : TypeId} {v : Value} {xs : List Value} (h : Que w B e v xs) {p : Addr} {cs : Array Value} (hp : Blk w p.block e' cs) (hne : e ≠ e') (u : Value) : Que (w.setCell p u) B e v xs := by
  obtain ⟨g, off, cap, cur, h0, h1, h2, h3⟩ := h
  refine ⟨g, off, cap, cur, h0, h1, (Below.heap_setCell w p u g ?_).trans h2, h3⟩
  rintro rfl
  unfold Blk at hp
  rw [h2] at hp
  injection hp with hp
  injection hp with _ ht
  exact hne ht
theorem Que.cell {w : World} {B : Nat} {e : TypeId} {g off n cap : Nat} {xs : List Value} (h : Que w B e (.slice (some ⟨g, off, none⟩) n cap) xs) {i : Nat} (hi : i < xs.length) : w.cell? ⟨g, off + i, none⟩ = xs[i]? := by
  obtain ⟨g', off', cap', cur, h0, h1, h2, h3, h4, h5⟩ := h
  injection h0 with e1 e2 e3
  injection e1 with e1
  injection e1 with e4 e5
  subst e4 e5
  rw [← h5 i hi]
  unfold World.cell?
  simp [h2]
/-- The first is taken off. -/
theorem Que.pop {w : World} {B : Nat} {e : TypeId} {g off n cap : Nat} {x : Value} {xs : List Value} (h : Que w B e (.slice (some ⟨g, off, none⟩) n cap) (x :: xs)) : Que w B e (.slice (some ⟨g, off + 1, none⟩) xs.length (cap - 1)) xs := by
  obtain ⟨g', off', cap', cur, h0, h1, h2, h3, h4, h5⟩ := h
  injection h0 with e1 e2 e3
  injection e1 with e1
  injection e1 with e4 e5
  subst e4 e5 e3
  simp only [List.length_cons] at h3 h5
  refine ⟨g, off + 1, cap - 1, cur, rfl, h1, h2, by omega, by omega, fun i hi => ?_⟩
  have := h5 (i + 1) (by omega)
  rw [List.getElem?_cons_succ] at this
  rw [← this]
  congr 1
  omega
section
variable {P : Program} (w : World)
theorem run_append_que (base : Nat) (t ty e : TypeId) (i : TypeInfo) (z : Value) (bytes : Nat) (ht : P.underlying t = some (.slice e)) (hi : P.info? e = some i) (hz : i.zero = some z)
    (hsize : i.size = 1) (hby : i.bytes = bytes) (hzs : z.cells.size = 1)
    (v : Value) (xs : List Value) (hq : Que w base e v xs) (a : Addr) (u : Value) (hu : w.cell? a = some u) (ha : a.spot = none) (h1 : u.oneCell' = true)
    (h63 : xs.length + 1 ≤ maxLen) (hbytes : (xs.length + 1) * bytes ≤ 140737488355328) (hbase : base ≤ w.heap.size) :
    ∃ v' w', (Builtin.append_ #[t, t] ty #[v, .slice (some a) 1 1]).run P w = .ok v' w' ∧ Que w' base e v' (xs ++ [u]) ∧ w.grownBy w' v.ownBlock := by
  obtain ⟨g, off, cap, cur, rfl, k1, k2, k3, k4, k5⟩ := hq
  have hsrc : Src P i.size t (.slice (some a) 1 1) 1 [u] w := Src.ofSlice (P := P) w ht a 1 1 [u] (by rw [hsize]; rfl) (fun j x hj => by
    match j, hj with
    | 0, hj => simp at hj; subst hj; rw [show a.add 0 = a by obtain ⟨b, o, s⟩ := a; simp only at ha; subst ha; simp [addr_add]]; exact hu) (fun x hx => by simp at hx; subst hx; exact h1)
  by_cases hroom : xs.length + 1 ≤ cap
  · have hlt : off + xs.length < cur.size := by omega
    have hr := run_append_room_src (P := P) w t t ty e i ht hi g off xs.length cap (.slice (some a) 1 1) 1 [u] hsrc hroom (fun j hj => by
      have : j = 0 := by simp at hj; omega
      subst this
      rw [hsize]; unfold World.cell?; simp [k2, hlt]) (fun j hj => by
      unfold World.frozen?; simp [k2])
    rw [hsize, Nat.mul_one] at hr
    refine ⟨_, _, hr, ⟨g, off, cap, cur.setIfInBounds (off + xs.length) u, by simp, k1, ?_, by simp; omega, by simpa using k4, fun j hj => ?_⟩, ⟨rfl, rfl, rfl, by simp [World.setCells, World.setCell], fun k _ hk => ?_⟩⟩
    · have := (show Blk w g e cur from k2).set_ (off + xs.length) u
      exact this
    · simp at hj
      by_cases e : j = xs.length
      · subst e; simp [hlt]
      · rw [List.getElem?_append_left (by omega), ← k5 j (by omega), Array.getElem?_setIfInBounds_ne (by omega)]
    · refine Below.heap_setCell w ⟨g, off + xs.length, none⟩ u k (fun e => hk ?_)
      rw [e]; simp [Value.ownBlock]
  · have hcell : ∀ j x, xs[j]? = some x → w.drew.cell? ((⟨g, off, none⟩ : Addr).add j) = some x := fun j x hj => by
      have hlt := (List.getElem?_eq_some_iff.1 hj).1
      rw [addr_add, ← hj, ← k5 j hlt]
      unfold World.cell?
      have : w.drew.heap[g]? = some (.cells cur e (0, 0)) := k2
      simp [this]
    have hold := run_firstCells_some (P := P) w.drew i.size xs.length ⟨g, off, none⟩ xs.length cap xs (by rw [hsize, Nat.mul_one]) hcell
    have hr := run_append_grow_src (P := P) w t t ty e i z ht hi hz (some ⟨g, off, none⟩) xs.length cap xs hold (.slice (some a) 1 1) 1 [u] hsrc (by omega) (by simp only [maxLen] at h63; omega) (growslice_fits (by omega) (by rw [hby]; exact hbytes))
    have hge := grownCap_ge w (xs.length + 1) cap e
    refine ⟨_, _, hr, ⟨w.heap.size, 0, _, _, by rw [List.length_append]; rfl, hbase, heap_alloc_new w.drew _, by simpa using hge, ?_, fun j hj => ?_⟩, ⟨rfl, rfl, rfl, by simp, fun k hk _ => Below.heap_alloc w.drew _ k hk⟩⟩
    · simp only [Array.size_append, List.size_toArray, size_zeroCells, hzs, List.length_append, List.length_singleton]
      omega
    · rw [Nat.zero_add, Array.getElem?_append_left (by simpa using hj)]
      simp
theorem wpList_append_que {ops : Array Oper} {rest : List Oper} {o : Oper} {a : Act} {Q : Exit → Act → World → Prop} (hgd : o.guard = none) (s x : Operand) (t : TypeId)
    (ho : o.op = .call { callee := .builtin .append, args := #[s, x], argTypes := #[t, t] })
    (base : Nat) (e : TypeId) (i : TypeInfo) (z : Value) (bytes : Nat) (ht : P.underlying t = some (.slice e)) (hi : P.info? e = some i) (hz : i.zero = some z)
    (hsize : i.size = 1) (hby : i.bytes = bytes) (hzs : z.cells.size = 1)
    (v : Value) (xs : List Value) (hs : a.eval s = v) (hq : Que w base e v xs)
    (ad : Addr) (u : Value) (hx : a.eval x = .slice (some ad) 1 1) (hu : w.cell? ad = some u) (ha : ad.spot = none) (h1 : u.oneCell' = true)
    (h63 : xs.length + 1 ≤ maxLen) (hbytes : (xs.length + 1) * bytes ≤ 140737488355328) (hbase : base ≤ w.heap.size)
    (h : ∀ v' w', Que w' base e v' (xs ++ [u]) → w.grownBy w' v.ownBlock → wpList P ops Q rest (a.put o.dst v') w') : wpList P ops Q (o :: rest) a w :=
  wpList_plain hgd fun _ hK => by
    obtain ⟨v', w', hrun, h2, h3⟩ := run_append_que (P := P) w base t o.type e i z bytes ht hi hz hsize hby hzs v xs hq ad u hu ha h1 h63 hbytes hbase
    unfold Oper.wp execOp
    simp only [ho, resolve, invoke, builtin, Sem.run_bind, Sem.run_pure, Result.andThen_ok, List.map_toArray, List.map_cons, List.map_nil, hs, hx, hrun]
    exact hK _ _ (h v' w' h2 h3)
end
end Go.Proofs.YtekiomanidimnaaGreatDoor
