/- waypointref14.extend: all loopless paths that continue a path. -/
/- waypointref14.extend: the walk. -/
/- waypointref14.Simple: all loopless paths. -/
/- waypointref42.Simple. -/
/- waypointref09.SameInts, waypointref14.Same. -/
/- A queue: a row of the call's own that is read from an offset on; one element is appended. -/
import Derived.Test.YtjmkcckbbgpkeaaGreatDoorMC
import Derived.Lib.OwnKind
import Derived.Deep.Onto
import Derived.Deep.AppendSrc
set_option linter.unusedVariables false
set_option linter.unusedSimpArgs false

namespace Go.Proofs.YtjmkcckbbgpkeaaGreatDoor
open Go.RowKit

/-- Blocks whose elements are no slices of numbers are as they were. -/
structure Keep39 (w w' : World) : Prop where
  size : w.heap.size ≤ w'.heap.size
  blk : ∀ (i : Nat) (cs : Array Value) (t : TypeId) (fr : Nat × Nat), t ≠ 41 → w.heap[i]? = some (.cells cs t fr) → w'.heap[i]? = some (.cells cs t fr)
theorem Keep39.refl (w : World) : Keep39 w w := ⟨Nat.le_refl _, fun _ _ _ _ _ h => h⟩
theorem Keep39.trans {a b c : World} (h : Keep39 a b) (k : Keep39 b c) : Keep39 a c := ⟨Nat.le_trans h.size k.size, fun i cs t fr ht hi => k.blk i cs t fr ht (h.blk i cs t fr ht hi)⟩
theorem lt_of_get {w : World} {i : Nat} {o : Obj} (h : w.heap[i]? = some o) : i < w.heap.size := by
  rcases Nat.lt_or_ge i w.heap.size with hlt | hge
  · exact hlt
  · rw [Array.getElem?_eq_none hge] at h; cases h
theorem Keep39.ofExt {w w' : World} (h : Ext w w') : Keep39 w w' := ⟨h.size, fun i _ _ _ _ hi => (h.block i (lt_of_get hi)).trans hi⟩
theorem Keep39.rdT {w w' : World} {t : TypeId} {A : Option Addr} {xs : List Value} (h : Keep39 w w') (ht : t ≠ 41) (hr : RdT w t A xs) : RdT w' t A xs := fun hne => by
  obtain ⟨b, o, cs, fr, e, hb, hc⟩ := hr hne
  exact ⟨b, o, cs, fr, e, h.blk b cs t fr ht hb, hc⟩
theorem Keep39.blk' {w w' : World} {g : Nat} {t : TypeId} {cs : Array Value} (h : Keep39 w w') (ht : t ≠ 41) (hb : Blk w g t cs) : Blk w' g t cs := h.blk g cs t (0, 0) ht hb
theorem Keep39.grown {w w' : World} {row : Option Nat} (hg : w.grownBy w' row) (hr : ∀ k, row = some k → ∃ cs fr, w.heap[k]? = some (.cells cs 41 fr)) : Keep39 w w' :=
  ⟨hg.size, fun i cs t fr ht hi => by
    refine (hg.block i (lt_of_get hi) (fun e => ?_)).trans hi
    obtain ⟨cs', fr', h'⟩ := hr i e.symm
    rw [hi] at h'
    injection h' with h'
    injection h' with _ h'
    exact ht h'⟩
/-- A flag of a block is set, much happens elsewhere, and it is taken back. -/
theorem Keep39.round {w w2 : World} {g k : Nat} {l : List Bool} (hb : Blk w g 4 (bools l).toArray) (hk : l[k]? = some false) (h : Keep39 (w.setCell ⟨g, k, none⟩ (.bool true)) w2) : Keep39 w (w2.setCell ⟨g, k, none⟩ (.bool false)) := by
  have h1 := hb.set_ k (.bool true)
  have h2 := h.blk' (by decide) h1
  have h3 := h2.set_ k (.bool false)
  have e : ((bools l).toArray.setIfInBounds k (.bool true)).setIfInBounds k (.bool false) = (bools l).toArray := by
    apply Array.ext'
    simp only [List.setIfInBounds_toArray, List.set_set]
    apply List.ext_getElem?
    intro i
    by_cases e : i = k
    · subst e
      obtain ⟨hlt, he⟩ := List.getElem?_eq_some_iff.1 hk
      rw [List.getElem?_set_self (by simpa [bools] using hlt)]
      simp [bools, hk]
    · rw [List.getElem?_set_ne (fun h => e h.symm)]
  rw [e] at h3
  refine ⟨Nat.le_trans (by simp [World.setCell]) (Nat.le_trans h.size (by simp [World.setCell])), fun i cs t fr ht hi => ?_⟩
  by_cases e : i = g
  · subst e
    unfold Blk at hb h3
    rw [hb] at hi
    rw [h3]; exact hi
  · have h4 : (w.setCell ⟨g, k, none⟩ (.bool true)).heap[i]? = some (.cells cs t fr) := (Below.heap_setCell w ⟨g, k, none⟩ _ i e).trans hi
    exact (Below.heap_setCell w2 ⟨g, k, none⟩ _ i e).trans (h.blk i cs t fr ht h4)
theorem Paths.keep {w w' : World} {B : Nat} {v : Value} {ps : List (List Nat)} (h : Paths w B v ps) (hx : Ext w w') : Paths w' B v ps := by
  obtain ⟨cells, h1, h2, h3⟩ := h.ex
  refine ⟨cells, h1, h2.kept (row := none) ⟨hx.os, hx.tape, hx.output, hx.size, fun k hk _ => hx.block k hk⟩ ?_, fun i p hp => ?_⟩
  · by_cases e : v.ownBlock = none
    · exact .inl e
    · exact .inr e
  · obtain ⟨A, c, h4, h5, h6⟩ := h3 i p hp
    exact ⟨A, c, h4, h5, h6.keep hx⟩
theorem Paths.set_ {w : World} {B : Nat} {v : Value} {ps : List (List Nat)} (h : Paths w B v ps) {p : Addr} {cs : Array Value} (hp : Blk w p.block 4 cs) (u : Value) : Paths (w.setCell p u) B v ps := by
  obtain ⟨cells, h1, h2, h3⟩ := h.ex
  refine ⟨cells, h1, ⟨h2.1, ?_⟩, fun i q hq => ?_⟩
  · rcases h2.2 with h4 | ⟨g', cap, cur, h4, h5, h6, h7⟩
    · exact .inl h4
    · refine .inr ⟨g', cap, cur, h4, h5, (Below.heap_setCell w p u g' ?_).trans h6, h7⟩
      rintro rfl
      unfold Blk at hp
      rw [h6] at hp
      injection hp with hp
      injection hp with _ ht
      revert ht; decide
  · obtain ⟨A, c, h4, h5, h6⟩ := h3 i q hq
    exact ⟨A, c, h4, h5, h6.set_ hp (by decide) u⟩
/-- A path is appended. -/
theorem Paths.snoc {w w1 : World} {B : Nat} {v v' : Value} {ps : List (List Nat)} {p : List Nat} {A : Option Addr} {c : Nat} {cells : List Value} (h1 : cells.length = ps.length)
    (h3 : ∀ (i : Nat) (q : List Nat), ps[i]? = some q → ∃ (A : Option Addr) (c : Nat), cells[i]? = some (.slice A q.length c) ∧ q.length ≤ c ∧ RdT w1 3 A (ints q))
    (hp : RdT w1 3 A (ints p)) (hc : p.length ≤ c) (hown : w1.ownsRow B 41 1 v' (ps.length + 1) (cells ++ [.slice A p.length c])) : Paths w1 B v' (ps ++ [p]) := by
  refine ⟨cells ++ [.slice A p.length c], by simp [h1], by rw [List.length_append]; exact hown, fun i q hq => ?_⟩
  by_cases e : i < ps.length
  · rw [List.getElem?_append_left e] at hq
    obtain ⟨A', c', h4, h5, h6⟩ := h3 i q hq
    exact ⟨A', c', by rw [List.getElem?_append_left (by omega)]; exact h4, h5, h6⟩
  · rw [List.getElem?_append_right (by omega)] at hq
    have hi : i = ps.length := by
      have := (List.getElem?_eq_some_iff.1 hq).1; simp at this; omega
    subst hi
    simp at hq
    subst hq
    exact ⟨A, c, by rw [List.getElem?_append_right (by omega), h1]; simp, hc, hp⟩

/-- The loopless paths that continue a path. -/
def extP (t : Tp) (down : List Bool) (d : Nat) : Nat → List Nat → Nat → List Bool → List (List Nat)
  | 0, _, _, _ => []
  | f + 1, path, at_, seen => if at_ = d then [path] else if (0 < path.length) ∧ overP t at_ = true then [] else
    (leavP t at_).flatMap fun a => if downP down a || seen[(headP t a).toNat]?.getD false then [] else extP t down d f (path ++ [a]) (headP t a).toNat (seen.set (headP t a).toNat true)
/-- How many flags are not set. -/
def unset (l : List Bool) : Nat := l.count false
theorem unset_set {l : List Bool} {k : Nat} (h : l[k]? = some false) : unset (l.set k true) + 1 = unset l := by
  unfold unset
  induction l generalizing k with
  | nil => simp at h
  | cons b l ih =>
    cases k with
    | zero => simp at h; subst h; simp
    | succ k => simp at h; have := ih h; cases b <;> simp [List.set_cons_succ] <;> omega
end Go.Proofs.YtjmkcckbbgpkeaaGreatDoor


namespace Go.Proofs.YtjmkcckbbgpkeaaGreatDoor
open Go.RowKit

theorem extP_len (t : Tp) (down : List Bool) (d : Nat) : ∀ (f : Nat) (path : List Nat) (n : Nat) (seen : List Bool), (extP t down d f path n seen).length ≤ (2 * t.links.length + 1) ^ f := by
  intro f
  induction f with
  | zero => intro path n seen; simp [extP]
  | succ f ih =>
    intro path n seen
    have h1 : 1 ≤ (2 * t.links.length + 1) ^ (f + 1) := Nat.one_le_pow _ _ (by omega)
    unfold extP
    split
    · simpa using h1
    · split
      · simp
      · have hl : ∀ l : List Nat, (l.flatMap fun a => if downP down a || seen[(headP t a).toNat]?.getD false then [] else extP t down d f (path ++ [a]) (headP t a).toNat (seen.set (headP t a).toNat true)).length ≤ l.length * (2 * t.links.length + 1) ^ f := by
          intro l
          induction l with
          | nil => simp
          | cons a l ihl =>
            rw [List.flatMap_cons, List.length_append, List.length_cons, Nat.add_mul, Nat.one_mul, Nat.add_comm]
            refine Nat.add_le_add ihl ?_
            split
            · simp
            · exact ih _ _ _
        refine Nat.le_trans (hl _) ?_
        rw [Nat.pow_succ, Nat.mul_comm]
        exact Nat.mul_le_mul_left _ (Nat.le_trans (leavTo_len t _ n) (by omega))
theorem headP_ok {t : Tp} (hv : validP t = true) {a : Nat} (ha : a < 2 * t.links.length) : ∃ h : Nat, headP t a = (h : Int) ∧ (h : Int) < t.nodes := by
  rw [head_tail']
  have ha' : a / 2 * 2 + 1 - a % 2 < 2 * t.links.length := by omega
  generalize a / 2 * 2 + 1 - a % 2 = b at *
  unfold validP at hv
  rw [Bool.and_eq_true] at hv
  obtain ⟨l, hl⟩ : ∃ l, t.links[b / 2]? = some l := ⟨_, List.getElem?_eq_getElem (by omega)⟩
  have hlk := List.all_eq_true.1 hv.2 l (List.mem_of_getElem? hl)
  unfold Lk.ok ndB at hlk
  simp at hlk
  unfold tailP
  rw [hl]
  simp only []
  split
  · exact ⟨l.a.toNat, by omega, by omega⟩
  · exact ⟨l.b.toNat, by omega, by omega⟩
theorem leavP_lt {t : Tp} {n a : Nat} (h : a ∈ leavP t n) : a < 2 * t.links.length := by
  unfold leavP leavTo at h
  rw [List.mem_filter] at h
  simpa using h.1

/-- A path is appended to a list of paths. -/
theorem Paths.push {w w1 : World} {B : Nat} {ov v' : Value} {ps : List (List Nat)} {p : List Nat} {A : Option Addr} {c : Nat} {cells : List Value} (h1 : cells.length = ps.length) (h2 : w.ownsRow B 41 1 ov ps.length cells)
    (h3 : ∀ (i : Nat) (q : List Nat), ps[i]? = some q → ∃ (A : Option Addr) (c : Nat), cells[i]? = some (.slice A q.length c) ∧ q.length ≤ c ∧ RdT w 3 A (ints q))
    (hp : RdT w 3 A (ints p)) (hc : p.length ≤ c) (hB : B ≤ w.heap.size) (hown : w1.ownsRow B 41 1 v' (ps.length + 1) (cells ++ [.slice A p.length c])) (hg : w.grownBy w1 ov.ownBlock) :
    Paths w1 B v' (ps ++ [p]) ∧ Keep39 w w1 ∧ Below B w w1 := by
  have hk : Keep39 w w1 := Keep39.grown hg (fun k hk => Lib.ownsRow_kind h2 k hk)
  refine ⟨Paths.snoc (w := w) (v := ov) h1 (fun i q hq => ?_) (hk.rdT (by decide) hp) hc hown, hk, (Below.refl B w).grown hg hB (fun k hk => (h2.lt k hk).1)⟩
  obtain ⟨A', c', h4, h5, h6⟩ := h3 i q hq
  exact ⟨A', c', h4, h5, hk.rdT (by decide) h6⟩
/-- What one arc adds. -/
def extG (t : Tp) (down : List Bool) (d f : Nat) (path : List Nat) (seen : List Bool) (a : Nat) : List (List Nat) :=
  if downP down a || seen[(headP t a).toNat]?.getD false then [] else extP t down d f (path ++ [a]) (headP t a).toNat (seen.set (headP t a).toNat true)
theorem extG_len (t : Tp) (down : List Bool) (d f : Nat) (path : List Nat) (seen : List Bool) (a : Nat) : (extG t down d f path seen a).length ≤ (2 * t.links.length + 1) ^ f := by
  unfold extG
  split
  · simp
  · exact extP_len _ _ _ _ _ _ _
theorem extG_sum (t : Tp) (down : List Bool) (d f : Nat) (path : List Nat) (seen : List Bool) (l : List Nat) : (l.flatMap (extG t down d f path seen)).length ≤ l.length * (2 * t.links.length + 1) ^ f := by
  induction l with
  | nil => simp
  | cons a l ih =>
    rw [List.flatMap_cons, List.length_append, List.length_cons, Nat.add_mul, Nat.one_mul, Nat.add_comm]
    exact Nat.add_le_add ih (extG_len ..)
theorem cell_alloc_of {w : World} {p : Addr} {v : Value} (h : w.cell? p = some v) (o : Obj) : (w.alloc o).cell? p = some v := by
  have hb : p.block < w.heap.size := by
    unfold World.cell? at h
    rcases Nat.lt_or_ge p.block w.heap.size with hlt | hge
    · exact hlt
    · rw [Array.getElem?_eq_none hge] at h; simp at h
  exact (World.cell?_of_block (Below.heap_alloc _ _ _ hb)).trans h
theorem rd_grown {w w3 : World} {g : Nat} {xs : List Value} {row : Option Nat} (h : Rd w (some ⟨g, 0, none⟩) xs) (hg : w.grownBy w3 row) (hne : some g ≠ row) : Rd w3 (some ⟨g, 0, none⟩) xs := fun hx => by
  obtain ⟨b, o, e, hb, hc⟩ := h hx
  injection e with e
  injection e with e1 e2
  subst e1 e2
  exact ⟨g, 0, rfl, Nat.lt_of_lt_of_le hb hg.size, fun i hi => (World.cell?_of_block (hg.block g hb hne)).trans (hc i hi)⟩
theorem RdT.get_ {w : World} {ty : TypeId} {b o m a : Nat} {l : List Nat} (h : RdT w ty (some ⟨b, o, none⟩) (ints l)) (hm : l[m]? = some a) : w.cell? ⟨b, o + m, none⟩ = some (.int .i64 (a : Int)) := by
  have hlt := (List.getElem?_eq_some_iff.1 hm).1
  obtain ⟨b', o', e, _, hc⟩ := h.rd.at_ (i := m) (by rw [ints_length]; exact hlt)
  injection e with e
  injection e with e1 e2
  subst e1 e2
  rw [hc m (by rw [ints_length]; exact hlt), ints_get _ _ hlt, hm]; rfl
theorem ownsRow_fresh (w : World) (B : Nat) (e : TypeId) (hB : B ≤ w.heap.size) : (w.alloc (.cells #[] e)).ownsRow B e 1 (.slice (some ⟨w.heap.size, 0, none⟩) 0 0) 0 [] :=
  World.ownsRow_made w #[] 0 hB (by decide) (by simp)

end Go.Proofs.YtjmkcckbbgpkeaaGreatDoor


namespace Go.Proofs.YtjmkcckbbgpkeaaGreatDoor
open Go.RowKit
theorem Tryz.info4 : (Tryz.prog.info? 4).map (fun i => (i.zero, i.size, i.bytes)) = some (some (.bool false), 1, 1) := by kernel_rfl
/-- All loopless paths of the reference. -/
def simP (t : Tp) (down : List Bool) (s d : Nat) : List (List Nat) := extP t down d t.nodes.toNat [] s ((List.replicate t.nodes.toNat false).set s true)
theorem unset_replicate (N : Nat) : unset (List.replicate N false) = N := by unfold unset; simp
end Go.Proofs.YtjmkcckbbgpkeaaGreatDoor


namespace Go.Proofs.YtjmkcckbbgpkeaaGreatDoor
open Go.RowKit
theorem Paths.form {w : World} {B : Nat} {v : Value} {ps : List (List Nat)} (h : Paths w B v ps) : ∃ A c, v = .slice A ps.length c := by
  obtain ⟨cells, _, h2, _⟩ := h.ex
  rcases h2.2 with ⟨h3, h4⟩ | ⟨g, cap, _, h3, _⟩
  · exact ⟨none, 0, by rw [h4]; exact h3⟩
  · exact ⟨_, _, h3⟩
def simBad1 (t : Tp) (down : List Bool) (most : Int) : Bool := !validP t || !fitsP t down || decide (most < 0) || decide (most > 1000)
def simBad2 (t : Tp) (s d : Int) : Bool := decide (s < 0) || decide (s ≥ t.nodes) || decide (d < 0) || decide (d ≥ t.nodes)
/-- What the reference answers. -/
def refSim (t : Tp) (down : List Bool) (s d most : Int) : List (List Nat) × Int :=
  if simBad1 t down most then ([], 1) else if simBad2 t s d then ([], 2) else if ((simP t down s.toNat d.toNat).length : Int) > most then ([], 6) else (simP t down s.toNat d.toNat, 0)
end Go.Proofs.YtjmkcckbbgpkeaaGreatDoor


namespace Go.Proofs.YtjmkcckbbgpkeaaGreatDoor
open Go.RowKit
theorem same_step {α : Type} [DecidableEq α] {l1 l2 : List α} {m : Nat} {a b : α} (h : l1.take m = l2.take m) (h1 : l1[m]? = some a) (h2 : l2[m]? = some b) (hab : a = b) : l1.take (m + 1) = l2.take (m + 1) := by
  rw [List.take_add_one, List.take_add_one, h, h1, h2, hab]
theorem Rd.ints_ {w : World} {A : Option Addr} {l : List Nat} (h : Rd w A (ints l)) {k : Nat} (hk : k < l.length) :
    ∃ b o, A = some ⟨b, o, none⟩ ∧ b < w.heap.size ∧ w.cell? ⟨b, o + k, none⟩ = some (.int .i64 ((l[k]?.getD 0 : Nat) : Int)) := by
  obtain ⟨b, o, e, hb, hc⟩ := h.at_ (i := k) (by rw [ints_length]; exact hk)
  exact ⟨b, o, e, hb, (hc k (by rw [ints_length]; exact hk)).trans (ints_get l k hk)⟩
set_option maxHeartbeats 4000000 in
theorem sameInts_ok (A1 A2 : Option Addr) (c1 c2 : Nat) (l1 l2 : List Nat) (w : World) (hr1 : Rd w A1 (ints l1)) (hr2 : Rd w A2 (ints l2)) (hc1 : l1.length ≤ c1) (hc2 : l2.length ≤ c2) (hl1 : l1.length ≤ 4398046511104) (hl2 : l2.length ≤ 4398046511104) :
    Calls Tryz.prog 13 #[.slice A1 l1.length c1, .slice A2 l2.length c2] w fun e w' => e = .returned (.bool (decide (l1 = l2))) ∧ Ext w w' := by
  have R1 := Lib.hid (hr1)
  have R2 := Lib.hid (hr2)
  clear hr1 hr2
  by_cases hl : l1.length = l2.length
  · have hL : ((l1.length : Int) != (l2.length : Int)) = false := by simp; omega
    have HL := Lib.hid (hl)
    clear hl
    generalize hB : decide (l1 = l2) = B
    have HB := Lib.hid (hB)
    clear hB
    go_enter Tryz.func13, Tryz.ntmps13
    go_wp2_with fail
    go_loopw [5] (fun it wr => ∃ m : Nat, m ≤ l1.length ∧ it = .int .i64 m ∧ l1.take m = l2.take m ∧ Ext w wr) (fun i _ => l1.length - (intOf i).toNat)
    case atStart => exact ⟨0, Nat.zero_le _, rfl, by simp, Ext.refl w⟩
    case round =>
      obtain ⟨m, hm, rfl, htk, hx⟩ := hrel
      have TK := Lib.hid (htk)
      have EX := Lib.hid (hx)
      clear htk hx
      by_cases hml : m < l1.length
      · have hml2 : m < l2.length := by have := HL.out; omega
        obtain ⟨a, ha⟩ : ∃ a, l1[m]? = some a := ⟨_, List.getElem?_eq_getElem hml⟩
        obtain ⟨b, hb⟩ : ∃ b, l2[m]? = some b := ⟨_, List.getElem?_eq_getElem hml2⟩
        obtain ⟨b1, o1, rfl, hb1, hcell1⟩ := (R1.out.keep EX.out).ints_ hml
        obtain ⟨b2, o2, rfl, hb2, hcell2⟩ := (R2.out.keep EX.out).ints_ hml2
        rw [ha, Option.getD_some] at hcell1
        rw [hb, Option.getD_some] at hcell2
        have x1 := XW.cell _ _ _ hb1 hcell1
        have x2 := XW.cell _ _ _ hb2 hcell2
        have HA := Lib.hid (ha)
        have HBB := Lib.hid (hb)
        clear ha hb hcell1 hcell2
        go_wp2_with fail
        refine wp_region_ext (by kernel_rfl) (by kernel_rfl) ?_
        repeat (go_big_quiet_step (fail))
        refine wpQuiet_nil ?_
        rintro _ ⟨x, rfl⟩
        have hx2 := x.ext
        clear x1 x2
        generalize x.val = w2 at *
        clear x
        have E2 := Lib.hid (EX.out.tr hx2)
        clear hx2
        by_cases hab : a = b
        · subst hab
          go_wp2
          go_roundw
          case rel => exact ⟨m + 1, by omega, by go_num, same_step TK.out HA.out HBB.out rfl, E2.out⟩
          case measure => simp [intOf]; omega
        · have hne : ((a : Int) != (b : Int)) = true := by simp; omega
          have hB : B = false := by
            rw [← HB.out]
            apply decide_eq_false
            rintro rfl
            have := HA.out.symm.trans HBB.out
            injection this with this
            exact hab this
          subst hB
          go_wp2
          go_ret
          exact ⟨rfl, E2.out⟩
      · have hme : m = l1.length := by omega
        subst hme
        have hB : B = true := by
          rw [← HB.out]
          apply decide_eq_true
          have := TK.out
          rw [List.take_of_length_le (Nat.le_refl _), HL.out, List.take_of_length_le (Nat.le_refl _)] at this
          exact this
        subst hB
        go_wp2
        go_ret
        exact ⟨rfl, EX.out⟩
  · have hL : ((l1.length : Int) != (l2.length : Int)) = true := by simp; omega
    have hB : decide (l1 = l2) = false := decide_eq_false (fun e => hl (by rw [e]))
    rw [hB]
    clear hl hB
    go_enter Tryz.func13, Tryz.ntmps13
    go_wp2
    go_ret
    exact ⟨rfl, Ext.refl w⟩
/-- A slice of paths, to be read. -/
def RdP (w : World) (v : Value) (ps : List (List Nat)) : Prop :=
  ∃ (A : Option Addr) (c : Nat) (cells : List Value), v = .slice A ps.length c ∧ ps.length ≤ c ∧ cells.length = ps.length ∧ Rd w A cells ∧
    ∀ (i : Nat) (p : List Nat), ps[i]? = some p → ∃ (A : Option Addr) (c : Nat), cells[i]? = some (.slice A p.length c) ∧ p.length ≤ c ∧ Rd w A (ints p)
theorem RdP.keep {w w' : World} {v : Value} {ps : List (List Nat)} (h : RdP w v ps) (hx : Ext w w') : RdP w' v ps := by
  obtain ⟨A, c, cells, h1, h2, h3, h4, h5⟩ := h
  refine ⟨A, c, cells, h1, h2, h3, h4.keep hx, fun i p hp => ?_⟩
  obtain ⟨A', c', k1, k2, k3⟩ := h5 i p hp
  exact ⟨A', c', k1, k2, k3.keep hx⟩
theorem Paths.rdP {w : World} {B : Nat} {v : Value} {ps : List (List Nat)} (h : Paths w B v ps) : RdP w v ps := by
  obtain ⟨cells, h1, h2, h3⟩ := h.ex
  have h4 : ∀ (i : Nat) (p : List Nat), ps[i]? = some p → ∃ (A : Option Addr) (c : Nat), cells[i]? = some (.slice A p.length c) ∧ p.length ≤ c ∧ Rd w A (ints p) := fun i p hp => by
    obtain ⟨A', c', k1, k2, k3⟩ := h3 i p hp
    exact ⟨A', c', k1, k2, k3.rd⟩
  rcases h2.2 with ⟨k1, k2⟩ | ⟨g', cap, cur, k3, k4, k5, k6, k7, k8, k9⟩
  · have hc : cells = [] := List.eq_nil_of_length_eq_zero (by omega)
    exact ⟨none, 0, cells, by rw [k2]; exact k1, by omega, h1, by rw [hc]; exact Rd.nil _ _, h4⟩
  · refine ⟨some ⟨g', 0, none⟩, cap, cells, k3, k6, h1, fun _ => ⟨g', 0, rfl, lt_of_get k5, fun i hi => ?_⟩, h4⟩
    have e : w.cell? ⟨g', 0 + i, none⟩ = cur[i]? := by unfold World.cell?; simp [k5]
    rw [e, ← k9, List.getElem?_take, if_pos (by omega)]; simp
theorem RdP.at_ {w : World} {A : Option Addr} {n c : Nat} {ps : List (List Nat)} (h : RdP w (.slice A n c) ps) {i : Nat} {p : List Nat} (hp : ps[i]? = some p) :
    ∃ (b o : Nat) (A' : Option Addr) (c' : Nat), A = some ⟨b, o, none⟩ ∧ b < w.heap.size ∧ w.cell? ⟨b, o + i, none⟩ = some (.slice A' p.length c') ∧ p.length ≤ c' ∧ Rd w A' (ints p) := by
  obtain ⟨A1, c1, cells, h1, h2, h3, h4, h5⟩ := h
  injection h1 with e1 e2 e3
  subst e1
  have hlt := (List.getElem?_eq_some_iff.1 hp).1
  obtain ⟨b, o, e, hb, hc⟩ := h4.at_ (i := i) (by omega)
  obtain ⟨A', c', k1, k2, k3⟩ := h5 i p hp
  exact ⟨b, o, A', c', e, hb, (hc i (by omega)).trans k1, k2, k3⟩
end Go.Proofs.YtjmkcckbbgpkeaaGreatDoor


namespace Go.Proofs.YtjmkcckbbgpkeaaGreatDoor
open Go.RowKit
def Que (w : World) (B : Nat) (e : TypeId) (v : Value) (xs : List Value) : Prop :=
  ∃ (g off cap : Nat) (cur : Array Value), v = .slice (some ⟨g, off, none⟩) xs.length cap ∧ B ≤ g ∧ w.heap[g]? = some (.cells cur e (0, 0)) ∧ xs.length ≤ cap ∧ off + cap ≤ cur.size ∧ ∀ i, i < xs.length → cur[off + i]? = xs[i]?
theorem Que.lt {w : World} {B : Nat} {e : TypeId} {v : Value} {xs : List Value} (h : Que w B e v xs) : ∀ k, v.ownBlock = some k → B ≤ k ∧ k < w.heap.size := by
  obtain ⟨g, off, cap, cur, rfl, h1, h2, _⟩ := h
  intro k hk
  simp [Value.ownBlock] at hk
  subst hk
  exact ⟨h1, lt_of_get h2⟩
theorem Que.keep {w w' : World} {B : Nat} {e : TypeId} {v : Value} {xs : List Value} (h : Que w B e v xs) (hx : Ext w w') : Que w' B e v xs := by
  obtain ⟨g, off, cap, cur, h0, h1, h2, h3⟩ := h
  exact ⟨g, off, cap, cur, h0, h1, (hx.block g (lt_of_get h2)).trans h2, h3⟩
theorem Que.far {w : World} {B : Nat} {e e' : TypeId} {v : Value} {xs : List Value} (h : Que w B e v xs) {p : Addr} {cs : Array Value} (hp : Blk w p.block e' cs) (hne : e ≠ e') (u : Value) : Que (w.setCell p u) B e v xs := by
  obtain ⟨g, off, cap, cur, h0, h1, h2, h3⟩ := h
  refine ⟨g, off, cap, cur, h0, h1, (Below.heap_setCell w p u g ?_).trans h2, h3⟩
  rintro rfl
  unfold Blk at hp
  rw [h2] at hp
  injection hp with hp
  injection hp with _ ht
  exact hne ht
theorem Que.cell {w : World} {B : Nat} {e : TypeId} {g off n cap : Nat} {xs : List Value} (h : Que w B e (.slice (some ⟨g, off, none⟩) n cap) xs) {i : Nat} (hi : i < xs.length) : w.cell? ⟨g, off + i, none⟩ = xs[i]? := by
  obtain ⟨g', off', cap', cur, h0, h1, h2, h3, h4, h5⟩ := h
  injection h0 with e1 e2 e3
  injection e1 with e1
  injection e1 with e4 e5
  subst e4 e5
  rw [← h5 i hi]
  unfold World.cell?
  simp [h2]
/-- The first is taken off. -/
theorem Que.pop {w : World} {B : Nat} {e : TypeId} {g off n cap : Nat} {x : Value} {xs : List Value} (h : Que w B e (.slice (some ⟨g, off, none⟩) n cap) (x :: xs)) : Que w B e (.slice (some ⟨g, off + 1, none⟩) xs.length (cap - 1)) xs := by
  obtain ⟨g', off', cap', cur, h0, h1, h2, h3, h4, h5⟩ := h
  injection h0 with e1 e2 e3
  injection e1 with e1
  injection e1 with e4 e5
  subst e4 e5 e3
  simp only [List.length_cons] at h3 h5
  refine ⟨g, off + 1, cap - 1, cur, rfl, h1, h2, by omega, by omega, fun i hi => ?_⟩
  have := h5 (i + 1) (by omega)
  rw [List.getElem?_cons_succ] at this
  rw [← this]
  congr 1
  omega
section
variable {P : Program} (w : World)
theorem run_append_que (base : Nat) (t ty e : TypeId) (i : TypeInfo) (z : Value) (bytes : Nat) (ht : P.underlying t = some (.slice e)) (hi : P.info? e = some i) (hz : i.zero = some z)
    (hsize : i.size = 1) (hby : i.bytes = bytes) (hzs : z.cells.size = 1)
    (v : Value) (xs : List Value) (hq : Que w base e v xs) (a : Addr) (u : Value) (hu : w.cell? a = some u) (ha : a.spot = none) (h1 : u.oneCell' = true)
    (h63 : xs.length + 1 ≤ maxLen) (hbytes : (xs.length + 1) * bytes ≤ 140737488355328) (hbase : base ≤ w.heap.size) :
    ∃ v' w', (Builtin.append_ #[t, t] ty #[v, .slice (some a) 1 1]).run P w = .ok v' w' ∧ Que w' base e v' (xs ++ [u]) ∧ w.grownBy w' v.ownBlock := by
  obtain ⟨g, off, cap, cur, rfl, k1, k2, k3, k4, k5⟩ := hq
  have hsrc : Src P i.size t (.slice (some a) 1 1) 1 [u] w := Src.ofSlice (P := P) w ht a 1 1 [u] (by rw [hsize]; rfl) (fun j x hj => by
    match j, hj with
    | 0, hj => simp at hj; subst hj; rw [show a.add 0 = a by obtain ⟨b, o, s⟩ := a; simp only at ha; subst ha; simp [addr_add]]; exact hu) (fun x hx => by simp at hx; subst hx; exact h1)
  by_cases hroom : xs.length + 1 ≤ cap
  · have hlt : off + xs.length < cur.size := by omega
    have hr := run_append_room_src (P := P) w t t ty e i ht hi g off xs.length cap (.slice (some a) 1 1) 1 [u] hsrc hroom (fun j hj => by
      have : j = 0 := by simp at hj; omega
      subst this
      rw [hsize]; unfold World.cell?; simp [k2, hlt]) (fun j hj => by
      unfold World.frozen?; simp [k2])
    rw [hsize, Nat.mul_one] at hr
    refine ⟨_, _, hr, ⟨g, off, cap, cur.setIfInBounds (off + xs.length) u, by simp, k1, ?_, by simp; omega, by simpa using k4, fun j hj => ?_⟩, ⟨rfl, rfl, rfl, by simp [World.setCells, World.setCell], fun k _ hk => ?_⟩⟩
    · have := (show Blk w g e cur from k2).set_ (off + xs.length) u
      exact this
    · simp at hj
      by_cases e : j = xs.length
      · subst e; simp [hlt]
      · rw [List.getElem?_append_left (by omega), ← k5 j (by omega), Array.getElem?_setIfInBounds_ne (by omega)]
    · refine Below.heap_setCell w ⟨g, off + xs.length, none⟩ u k (fun e => hk ?_)
      rw [e]; simp [Value.ownBlock]
  · have hcell : ∀ j x, xs[j]? = some x → w.drew.cell? ((⟨g, off, none⟩ : Addr).add j) = some x := fun j x hj => by
      have hlt := (List.getElem?_eq_some_iff.1 hj).1
      rw [addr_add, ← hj, ← k5 j hlt]
      unfold World.cell?
      have : w.drew.heap[g]? = some (.cells cur e (0, 0)) := k2
      simp [this]
    have hold := run_firstCells_some (P := P) w.drew i.size xs.length ⟨g, off, none⟩ xs.length cap xs (by rw [hsize, Nat.mul_one]) hcell
    have hr := run_append_grow_src (P := P) w t t ty e i z ht hi hz (some ⟨g, off, none⟩) xs.length cap xs hold (.slice (some a) 1 1) 1 [u] hsrc (by omega) (by simp only [maxLen] at h63; omega) (growslice_fits (by omega) (by rw [hby]; exact hbytes))
    have hge := grownCap_ge w (xs.length + 1) cap e
    refine ⟨_, _, hr, ⟨w.heap.size, 0, _, _, by rw [List.length_append]; rfl, hbase, heap_alloc_new w.drew _, by simpa using hge, ?_, fun j hj => ?_⟩, ⟨rfl, rfl, rfl, by simp, fun k hk _ => Below.heap_alloc w.drew _ k hk⟩⟩
    · simp only [Array.size_append, List.size_toArray, size_zeroCells, hzs, List.length_append, List.length_singleton]
      omega
    · rw [Nat.zero_add, Array.getElem?_append_left (by simpa using hj)]
      simp
theorem wpList_append_que {ops : Array Oper} {rest : List Oper} {o : Oper} {a : Act} {Q : Exit → Act → World → Prop} (hgd : o.guard = none) (s x : Operand) (t : TypeId)
    (ho : o.op = .call { callee := .builtin .append, args := #[s, x], argTypes := #[t, t] })
    (base : Nat) (e : TypeId) (i : TypeInfo) (z : Value) (bytes : Nat) (ht : P.underlying t = some (.slice e)) (hi : P.info? e = some i) (hz : i.zero = some z)
    (hsize : i.size = 1) (hby : i.bytes = bytes) (hzs : z.cells.size = 1)
    (v : Value) (xs : List Value) (hs : a.eval s = v) (hq : Que w base e v xs)
    (ad : Addr) (u : Value) (hx : a.eval x = .slice (some ad) 1 1) (hu : w.cell? ad = some u) (ha : ad.spot = none) (h1 : u.oneCell' = true)
    (h63 : xs.length + 1 ≤ maxLen) (hbytes : (xs.length + 1) * bytes ≤ 140737488355328) (hbase : base ≤ w.heap.size)
    (h : ∀ v' w', Que w' base e v' (xs ++ [u]) → w.grownBy w' v.ownBlock → wpList P ops Q rest (a.put o.dst v') w') : wpList P ops Q (o :: rest) a w :=
  wpList_plain hgd fun _ hK => by
    obtain ⟨v', w', hrun, h2, h3⟩ := run_append_que (P := P) w base t o.type e i z bytes ht hi hz hsize hby hzs v xs hq ad u hu ha h1 h63 hbytes hbase
    unfold Oper.wp execOp
    simp only [ho, resolve, invoke, builtin, Sem.run_bind, Sem.run_pure, Result.andThen_ok, List.map_toArray, List.map_cons, List.map_nil, hs, hx, hrun]
    exact hK _ _ (h v' w' h2 h3)
end
end Go.Proofs.YtjmkcckbbgpkeaaGreatDoor
