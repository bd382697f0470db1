/- kpaths: deviation at no root, nothing used and no bound. -/
import Derived.Test.YtjmkcckbbgpkeaaGreatDoorKpU
import Derived.Test.YtjmkcckbbgpkeaaGreatDoorKpV
import Derived.Deep.OwnRows
set_option linter.unusedVariables false
set_option linter.unusedSimpArgs false

namespace Go.Proofs.YtjmkcckbbgpkeaaGreatDoor
open Go.RowKit
def DvPost (t : Tp) (down : List Bool) (s d : Nat) (w : World) (e : Ending) (w' : World) : Prop :=
  (∃ (x : List Nat) (A : Option Addr) (k : Nat), e = .returned (.tuple #[.slice A x.length k, .bool true]) ∧ x.length ≤ k ∧ RdT w' 3 A (ints x) ∧ FW t down d s x d ∧ (∀ p, FW t down d s p d → leL (costL t) x p) ∧ Ext w w') ∨
  (e = .returned (.tuple #[.slice none 0 0, .bool false]) ∧ (∀ p, ¬ FW t down d s p d) ∧ Ext w w')
/-- What is written into least. -/
def lsV (V : List Bool) : List Value := V.map fun b => .int .i64 (if b then 0 else -1)
/-- The finder's box and the row least. -/
structure DvS (F : Array Value) (w wr : World) (L : List Value) : Prop where
  fin : Blk wr w.heap.size 76 F
  lst : Blk wr (w.heap.size + 1) 3 L.toArray
  ext : Ext w wr
theorem DvS.keep {F : Array Value} {w wr w' : World} {L : List Value} (h : DvS F w wr L) (hx : Ext wr w') : DvS F w w' L := ⟨h.fin.keep hx, h.lst.keep hx, h.ext.tr hx⟩
theorem DvS.grow (F : Array Value) {w wr : World} {L : List Value} (h : DvS F w wr L) (k : Nat) (u : Value) : wr.grownBy (wr.setCell ⟨w.heap.size + 1, k, none⟩ u) (some (w.heap.size + 1)) := grown_set _ _ _ _
theorem DvS.set {F : Array Value} {w wr : World} {L : List Value} (h : DvS F w wr L) (k : Nat) (u : Value) : DvS F w (wr.setCell ⟨w.heap.size + 1, k, none⟩ u) (L.set k u) := by
  have hg := grown_set wr (w.heap.size + 1) k u
  refine ⟨(hg.block _ h.fin.lt (fun e => by injection e with e; omega)).trans h.fin, ?_, Below.grown h.ext hg h.ext.size (fun q hq => by injection hq with hq; omega)⟩
  have := h.lst.set_ k u
  rw [List.setIfInBounds_toArray] at this
  exact this
theorem DvS.kf {F : Array Value} {w wr w' : World} {L : List Value} {q g g' : Nat} (h : DvS F w wr L) (k : KF wr w' q g g') (hq : w.heap.size + 2 ≤ q) (hg : w.heap.size + 2 ≤ g) : DvS F w w' L :=
  ⟨k.blk h.fin (by omega) (by omega), k.blk h.lst (by omega) (by omega), k.ext h.ext (by omega) (by omega)⟩
theorem lsV_set (V : List Bool) (n : Nat) : (lsV V).set n (.int .i64 0) = lsV (V.set n true) := by
  unfold lsV
  rw [List.map_set]
  rfl
/-- The queue at the start. -/
theorem KQu.start (t : Tp) (w : World) (B s : Nat) (hB : B ≤ w.heap.size) : KQu t ((w.alloc (.cells #[.int .i64 (s : Int), .int .i64 0, .int .i64 0, .slice none 0 0] 105)).alloc (.cells #[.slice (some ⟨w.heap.size, 0, none⟩) 1 1] 107)) B (w.heap.size + 1) w.heap.size 1 1 [(s, [])] := by
  have hb := (Blk.new w 105 #[.int .i64 (s : Int), .int .i64 0, .int .i64 0, .slice none 0 0]).keep ((Ext.refl _).alloc (.cells #[.slice (some ⟨w.heap.size, 0, none⟩) 1 1] 107))
  refine ⟨Blk.new' (w.alloc _) _ _ (by simp), rfl, [[.int .i64 (s : Int), .int .i64 0, .int .i64 0, .slice none 0 0]], rfl, fun cs h => by simp at h; rw [h]; rfl, ⟨rfl, .inr ⟨_, _, _, rfl, hB, hb, Nat.le_refl _, by decide, rfl, rfl⟩⟩, fun i z hz => ?_⟩
  cases i with
  | zero =>
    injection hz with hz
    subst hz
    exact ⟨_, rfl, none, 0, rfl, Nat.le_refl _, RdT.nil _ _ _, fun p hp => by cases hp⟩
  | succ i => cases hz
def iniL (N i : Nat) : List Value := (List.range N).map fun j => .int .i64 (if j < i then -1 else 0)
theorem iniL_zero (N : Nat) : madeCells #[.int .i64 0] N = (iniL N 0).toArray := by
  apply Array.ext'
  apply List.ext_getElem?
  intro i
  unfold iniL
  by_cases hi : i < N
  · simp [madeCells, hi, Nat.mod_one]
  · rw [List.getElem?_eq_none (by simp [madeCells]; omega), List.getElem?_eq_none (by simp; omega)]
theorem iniL_step (N i : Nat) : (iniL N i).set i (.int .i64 (-1)) = iniL N (i + 1) := by
  unfold iniL
  apply List.ext_getElem?
  intro j
  rw [List.getElem?_set]
  by_cases e : i = j
  · subst e
    by_cases hi : i < N
    · rw [if_pos rfl, if_pos (by simpa using hi), List.getElem?_map, List.getElem?_range hi]; simp
    · rw [if_pos rfl, if_neg (by simpa using hi), List.getElem?_map, List.getElem?_eq_none (by simp; omega)]; rfl
  · rw [if_neg e, List.getElem?_map, List.getElem?_map]
    by_cases hj : j < N
    · rw [List.getElem?_range hj]
      simp only [Option.map_some]
      have h1 : (j < i ↔ j < i + 1) := by omega
      by_cases h2 : j < i
      · rw [if_pos h2, if_pos (h1.1 h2)]
      · rw [if_neg h2, if_neg (fun h3 => h2 (h1.2 h3))]
    · rw [List.getElem?_eq_none (by simp; omega)]; rfl
theorem iniL_all (N : Nat) : iniL N N = lsV (List.replicate N false) := by
  unfold iniL lsV
  apply List.ext_getElem?
  intro j
  rw [List.getElem?_map, List.getElem?_map]
  by_cases hj : j < N
  · rw [List.getElem?_range hj, List.getElem?_replicate, if_pos hj]; simp [hj]
  · rw [List.getElem?_eq_none (by simp; omega), List.getElem?_eq_none (by simp; omega)]; rfl
theorem leO_K (t : Tp) : LeO (leK t) := by
  have h : leK t = fun x y => leL (costL t) x.2 y.2 := by
    funext x y
    exact propext (leK_iff t x.2 y.2).symm
  rw [h]
  exact leO_cost t
theorem over_ok {t : Tp} (hv : validP t = true) {n : Nat} (hn : (n : Int) < t.nodes) : t.over = [] ∨ (n : Int) < t.over.length := by
  unfold validP headOk at hv
  simp at hv
  rcases hv.1.2 with h | h
  · exact .inl h
  · right; omega
theorem down_ok {t : Tp} {down : List Bool} (hf : fitsP t down = true) {a : Nat} (ha : a < 2 * t.links.length) : down = [] ∨ a < down.length := by
  unfold fitsP at hf
  rcases of_decide_eq_true hf with h | h
  · exact .inl (List.length_eq_zero_iff.1 h)
  · right; omega
theorem four_ {w : World} {g : Nat} {t : TypeId} {a b c d : Value} (h : Blk w g t #[a, b, c, d]) : (w.cell? ⟨g, 0, none⟩ = some a ∧ w.cell? ⟨g, 1, none⟩ = some b ∧ w.cell? ⟨g, 2, none⟩ = some c ∧ w.cell? ⟨g, 3, none⟩ = some d) ∧ w.frozen? ⟨g, 0, none⟩ = false ∧ w.frozen? ⟨g, 1, none⟩ = false ∧ w.frozen? ⟨g, 2, none⟩ = false ∧ w.frozen? ⟨g, 3, none⟩ = false :=
  ⟨⟨(h.cell 0).trans rfl, (h.cell 1).trans rfl, (h.cell 2).trans rfl, (h.cell 3).trans rfl⟩, h.frozen 0, h.frozen 1, h.frozen 2, h.frozen 3⟩
theorem set4_ {w0 w : World} {g : Nat} {t : TypeId} {cs : Array Value} (h : Blk w g t cs) (hg : w0.heap.size ≤ g) (hx : Ext w0 w) (v0 v1 v2 v3 : Value) : Ext w0 ((((w.setCell ⟨g, 0, none⟩ v0).setCell ⟨g, 1, none⟩ v1).setCell ⟨g, 2, none⟩ v2).setCell ⟨g, 3, none⟩ v3) :=
  Ext.set_ (Ext.set_ (Ext.set_ (Ext.set_ hx hg v0) hg v1) hg v2) hg v3
/-- The state of the search. -/
structure DvI (t : Tp) (down : List Bool) (s d N : Nat) (F : Array Value) (w wx : World) (q : Nat) (V : List Bool) (fin : Nat → List Nat) (hs : List (Nat × List Nat)) (g c n k : Nat) (todo : List Nat) : Prop where
  ki : KI t down (costL t) s d V fin hs k todo
  hp : HeapN (leK t) hs n
  qu : KQu t wx (w.heap.size + 2) q g n c hs
  st : DvS F w wx (lsV V)
  nn : n + todo.length + V.count false * (2 * t.links.length + 1) ≤ N * (2 * t.links.length + 1) + 1
  hq : w.heap.size + 2 ≤ q
  hc : n ≤ c
set_option maxRecDepth 100000 in
set_option maxHeartbeats 8000000 in
theorem deviation_ok (t : Tp) (AO : Option Addr) (co : Nat) (AL : Option Addr) (cl : Nat) (AD : Option Addr) (cd : Nat) (down : List Bool) (gO N s d : Nat) (w : World) (ht : TopR w t AO co AL cl) (hv : validP t = true) (hN : t.nodes = (N : Int)) (hll : t.links.length ≤ 256) (hdn : Rd w AD (bools down)) (hdl : down.length ≤ cd) (hdc : down.length ≤ 600) (hfit : fitsP t down = true) (hO : LL w gO N (leavP t)) (hs : s < N) (hd : d < N) (hN64 : N ≤ 64) :
    Calls Tryz.prog 31 #[.agg #[.int .i64 t.nodes, .slice AO t.over.length co, .slice AL t.links.length cl, .slice AD down.length cd, .int .i64 (d : Int), .int .i64 0, .slice (some ⟨gO, 0, none⟩) N N], .int .i64 (s : Int), .slice none 0 0, .map none] w (DvPost t down s d w) := by
  have HT := Lib.hid (And.intro ht (And.intro hv (And.intro hdn hO)))
  have HF := Lib.hid hfit
  have HLN := Lib.hid hN
  rw [hN]
  clear ht hv hdn hO hfit hN
  have hmk := run_make_row' (P := Tryz.prog) 41 3 (.int .i64 0) 8 Tryz.underlying41 Tryz.info3 rfl .i64 .i64 N (by omega) (by omega)
  go_enter Tryz.func31, Tryz.ntmps31
  go_wp2
  go_loopg [11, 27] N (fun j _ it wr => ∃ i : Nat, N - i = j ∧ i ≤ N ∧ it = .int .i64 (i : Int) ∧ Hid (DvS #[.int .i64 (N : Int), .slice AO t.over.length co, .slice AL t.links.length cl, .slice AD down.length cd, .int .i64 (d : Int), .int .i64 0, .slice (some ⟨gO, 0, none⟩) N N] w wr (iniL N i)))
  case atStart => exact ⟨0, rfl, Nat.zero_le _, rfl, Lib.hid ⟨(Blk.new w _ _).keep ((Ext.refl _).alloc _), by rw [← iniL_zero]; exact Blk.new' (w.alloc _) _ _ (by simp), ((Ext.refl w).alloc _).alloc _⟩⟩
  case round =>
    obtain ⟨i, rfl, hi, rfl, S⟩ := hrel
    by_cases hiN : i < N
    · have iN : (i : Int) < (N : Int) := by omega
      have S2 := Lib.hid (show DvS _ w (wr.setCell ⟨w.heap.size + 1, i, none⟩ (.int .i64 (-1))) (iniL N (i + 1)) from by rw [← iniL_step]; exact S.out.set i _)
      obtain ⟨v0, c0⟩ : ∃ v, wr.cell? ⟨w.heap.size + 1, i, none⟩ = some v := by
        rw [S.out.lst.cell]
        exact ⟨_, Array.getElem?_eq_getElem (by simp [iniL]; exact hiN)⟩
      have f0 := S.out.lst.frozen i
      go_wp2
      go_roundg (N - (i + 1))
      case measure => omega
      case rel => exact ⟨i + 1, rfl, by omega, by go_num, S2⟩
    · obtain rfl : N = i := by omega
      have hlt : ¬ (N : Int) < (N : Int) := by omega
      have S1 := Lib.hid (show DvS _ w wr (lsV (List.replicate N false)) from by rw [← iniL_all]; exact S.out)
      clear S
      go_wp2
      go_loopg [12, 14, 36] 0 (fun k dt at_ it wx => it = .int .i64 0 ∧ dt = .int .i64 0 ∧ at_ = undef ∧ wr = wx)
      case atStart => exact ⟨rfl, rfl, rfl, rfl⟩
      case round =>
        obtain ⟨rfl, rfl, rfl, rfl⟩ := hrel
        have hwr : w.heap.size + 2 ≤ wr.heap.size := by have := S1.out.lst.lt; omega
        have XA := ((Ext.refl wr).alloc (.cells #[.int .i64 (s : Int), .int .i64 0, .int .i64 0, .slice none 0 0] 105)).alloc (.cells #[.slice (some ⟨wr.heap.size, 0, none⟩) 1 1] 107)
        have S2 := Lib.hid (S1.out.keep XA)
        have Q2 := Lib.hid (KQu.start t wr (w.heap.size + 2) s hwr)
        clear XA
        have I0 := Lib.hid (show DvI t down s d N _ w _ (wr.heap.size + 1) (List.replicate N false) (fun _ => []) [(s, [])] wr.heap.size 1 1 0 [] from by
          have hNt : t.nodes.toNat = N := by rw [HLN.out]; simp
          refine ⟨?_, fun k a b h0 hk => by omega, Q2.out, S2.out, ?_, by omega, Nat.le_refl _⟩
          · have := KI.start (t := t) (down := down) (ps := costL t) (s := s) (d := d) (fin := fun _ => []) (by rw [hNt]; exact hs) (by rw [hNt]; exact hd) 0
            rw [hNt] at this
            exact this
          · simp; omega)
        clear S2 Q2 S1 hmk
        go_wp2
        generalize wr.heap.size + 1 = q at *
        go_loopg [8, 9, 16, 17, 19, 20] (N * (2 * t.links.length + 1) + 1) (fun m _ _ _ _ _ _ wx => ∃ (V : List Bool) (fin : Nat → List Nat) (hs : List (Nat × List Nat)) (g c n : Nat), n + V.count false * (2 * t.links.length + 1) ≤ m ∧ Hid (DvI t down s d N #[.int .i64 (N : Int), .slice AO t.over.length co, .slice AL t.links.length cl, .slice AD down.length cd, .int .i64 (d : Int), .int .i64 0, .slice (some ⟨gO, 0, none⟩) N N] w wx q V fin hs g c n 0 []))
        case atStart => exact ⟨_, _, _, _, _, _, by have := I0.out.nn; simpa using this, I0⟩
        case round =>
          obtain ⟨V, fin, hs1, g, c, n, hmm, I⟩ := hrel
          have hNt : t.nodes.toNat = N := by rw [HLN.out]; simp
          have c0 := I.out.qu.box.one.1
          cases n with
          | zero =>
            have HE := Lib.hid (show hs1 = [] from List.length_eq_zero_iff.1 I.out.qu.row.len)
            go_wp2_with fail
            refine (kLen_ok _ 0 c _).mono ?_
            rintro e w1 ⟨rfl, rfl⟩
            have h00 : ¬ ((0 : Int) > 0) := by decide
            have h01 : ¬ (((0 : Nat) : Int) > 0) := by decide
            have h02 : ¬ ((0 : Int) < 0) := by decide
            have FIN := Lib.hid (show DvPost t down s d w (.returned (.tuple #[.slice none 0 0, .bool false])) wr from .inr ⟨rfl, fun p => by
              have := I.out.ki
              rw [HE.out] at this
              exact this.none_ HT.out.2.1 (costL_pos t) (by rw [hNt]; exact hs) p, I.out.st.ext⟩)
            clear I
            go_wp2
            exact bodyPost_ret (v := .tuple #[.slice none 0 0, .bool false]) (by simp [results, Tryz.results31, go_sem]) rfl FIN.out
          | succ n =>
            go_wp2_with fail
            refine (kLen_ok _ (n + 1) c _).mono ?_
            rintro e w1 ⟨rfl, rfl⟩
            have hgt : ((n + 1 : Nat) : Int) > 0 := by omega
            have hgt2 : ((n : Int) + 1) > 0 := by omega
            go_wp2_with fail
            have O := leO_K t
            have HN1 := Lib.hid (show n + 1 ≤ 1000000 from by have := I.out.nn; have h8 : N * (2 * t.links.length + 1) ≤ 64 * 513 := Nat.mul_le_mul hN64 (by omega); omega)
            have HLE := Lib.hid (show ∀ z ∈ hs1, z.2.length ≤ 1000000 from fun z hz => by
              have h1 := I.out.ki.size z.1 z.2 hz
              have h2 := List.count_le_length (a := true) (l := V)
              rw [I.out.ki.len, hNt] at h2
              omega)
            refine (hPop_ok t O (w.heap.size + 2) q g n c hs1 _ I.out.qu I.out.hp HLE.out HN1.out I.out.hc).mono ?_
            rintro e w2 ⟨z, hs2, hpm, hle, hhp, A, k, rfl, hk, hA, hqu, hkf⟩
            have P2 := Lib.hid (And.intro hpm (And.intro hle (And.intro hhp (And.intro hk (And.intro hA (And.intro hqu hkf))))))
            clear hpm hle hhp hk hA hqu hkf O c0
            obtain ⟨zn, zx⟩ := z
            have hta : ∀ W : World, (Instr.typeAssert (.iface 105 (.agg #[.int .i64 (zn : Int), .int .i64 (kcost t zx : Nat), .int .i64 0, .slice A zx.length k])) 20 105 true).run Tryz.prog W = .ok (.tuple #[.agg #[.int .i64 (zn : Int), .int .i64 (kcost t zx : Nat), .int .i64 0, .slice A zx.length k], .bool true]) W := fun W => by rfl
            unfold kAgg
            simp only
            generalize hkc : kcost t zx = kc at *
            have hmem : (zn, zx) ∈ hs1 := P2.out.1.mem_iff.2 List.mem_cons_self
            have hznN : zn < N := by
              rw [← hNt]
              rcases I.out.ki.lab _ _ hmem with ⟨_, h1⟩ | ⟨y, a, u, _, _, h2, _, h3⟩
              · rw [h1, hNt]; exact hs
              · rw [h3]; exact (leav_head HT.out.2.1 h2).2.2.1
            obtain ⟨b, hb⟩ : ∃ b, V[zn]? = some b := ⟨_, List.getElem?_eq_getElem (by rw [I.out.ki.len, hNt]; exact hznN)⟩
            have S2 := Lib.hid (I.out.st.kf P2.out.2.2.2.2.2.2 I.out.hq I.out.qu.row.lo)
            have X3 := (Ext.refl w2).alloc (.cells #[.int .i64 (zn : Int), .int .i64 (kc : Nat), .int .i64 0, .slice A zx.length k] 105)
            have HB3 := Blk.new w2 105 #[.int .i64 (zn : Int), .int .i64 (kc : Nat), .int .i64 0, .slice A zx.length k]
            have i0 : (w2.alloc (.cells #[.int .i64 (zn : Int), .int .i64 (kc : Nat), .int .i64 0, .slice A zx.length k] 105)).drew.cell? ⟨w.heap.size + 1, zn, none⟩ = some (.int .i64 (if b then 0 else -1)) := by
              have h1 := (S2.out.keep X3).lst.cell zn
              refine Eq.trans h1 ?_
              unfold lsV
              simp [hb]
            have l0 : (w2.alloc (.cells #[.int .i64 (zn : Int), .int .i64 (kc : Nat), .int .i64 0, .slice A zx.length k] 105)).drew.cell? ⟨w2.heap.size, 0, none⟩ = some (.int .i64 (zn : Int)) := (HB3.cell 0).trans rfl
            have l2 : (w2.alloc (.cells #[.int .i64 (zn : Int), .int .i64 (kc : Nat), .int .i64 0, .slice A zx.length k] 105)).drew.cell? ⟨w2.heap.size, 2, none⟩ = some (.int .i64 0) := (HB3.cell 2).trans rfl
            have iN : (zn : Int) < (N : Int) := by omega
            cases b with
            | true =>
              simp only [if_true] at i0
              have I3 := Lib.hid (show DvI t down s d N _ w (w2.alloc (.cells #[.int .i64 (zn : Int), .int .i64 (kc : Nat), .int .i64 0, .slice A zx.length k] 105)).drew q V fin hs2 g c n 0 [] from
                ⟨I.out.ki.skip (fun z hz => by simpa using P2.out.1.mem_iff.1 hz) (fun z hz => P2.out.1.mem_iff.2 (List.mem_cons_of_mem _ hz)) hb 0, P2.out.2.2.1, (P2.out.2.2.2.2.2.1.keep X3).keep ((Ext.refl _).drewN 1), (S2.out.keep X3).keep ((Ext.refl _).drewN 1), by have := I.out.nn; simp at this ⊢; omega, I.out.hq, by have := I.out.hc; omega⟩)
              clear I P2 S2 X3 HB3
              go_wp2_with fail
              go_region
              go_wp2
              go_roundg (gk - 1)
              case measure => omega
              case rel => exact ⟨V, fin, hs2, g, c, n, by omega, I3⟩
            | false =>
              simp only [Bool.false_eq_true, if_false] at i0
              have f0 : (w2.alloc (.cells #[.int .i64 (zn : Int), .int .i64 (kc : Nat), .int .i64 0, .slice A zx.length k] 105)).frozen? ⟨w.heap.size + 1, zn, none⟩ = false := (S2.out.keep X3).lst.frozen zn
              have hng : decide ((-1 : Int) ≥ 0) = false := by decide
              have hng2 : ¬ ((0 : Int) ≤ -1) := by decide
              go_wp2_with fail
              go_region
              go_upto_region 20 with fail
              have hlw : w.heap.size + 1 < w2.heap.size := S2.out.lst.lt
              have hgr := grown_set (w2.alloc (.cells #[.int .i64 (zn : Int), .int .i64 (kc : Nat), .int .i64 0, .slice A zx.length k] 105)) (w.heap.size + 1) zn (.int .i64 0)
              have XD := (Ext.refl ((w2.alloc (.cells #[.int .i64 (zn : Int), .int .i64 (kc : Nat), .int .i64 0, .slice A zx.length k] 105)).setCell ⟨w.heap.size + 1, zn, none⟩ (.int .i64 0))).drewN 1
              have J3 := Lib.hid (show DvS _ w (((w2.alloc (.cells #[.int .i64 (zn : Int), .int .i64 (kc : Nat), .int .i64 0, .slice A zx.length k] 105)).setCell ⟨w.heap.size + 1, zn, none⟩ (.int .i64 0))).drew (lsV (V.set zn true)) ∧ KQu t (((w2.alloc (.cells #[.int .i64 (zn : Int), .int .i64 (kc : Nat), .int .i64 0, .slice A zx.length k] 105)).setCell ⟨w.heap.size + 1, zn, none⟩ (.int .i64 0))).drew (w.heap.size + 2) q g n c hs2 ∧ RdF (w.heap.size + 2) (((w2.alloc (.cells #[.int .i64 (zn : Int), .int .i64 (kc : Nat), .int .i64 0, .slice A zx.length k] 105)).setCell ⟨w.heap.size + 1, zn, none⟩ (.int .i64 0))).drew A (ints zx) ∧ Blk (((w2.alloc (.cells #[.int .i64 (zn : Int), .int .i64 (kc : Nat), .int .i64 0, .slice A zx.length k] 105)).setCell ⟨w.heap.size + 1, zn, none⟩ (.int .i64 0))).drew w2.heap.size 105 #[.int .i64 (zn : Int), .int .i64 (kc : Nat), .int .i64 0, .slice A zx.length k] from
                ⟨by rw [← lsV_set]; exact ((S2.out.keep X3).set zn _).keep XD, ((P2.out.2.2.2.2.2.1.keep X3).below hgr (S2.out.keep X3).lst (by omega)).keep XD, ((P2.out.2.2.2.2.1.keep X3).below hgr (by omega)).keep XD, (show Blk _ _ _ _ from (hgr.block _ HB3.lt (fun e => by injection e with e; omega)).trans HB3).keep XD⟩)
              clear hgr XD i0 l0 l2 f0 hta HB3 X3 hng hng2
              generalize ((w2.alloc (.cells #[.int .i64 (zn : Int), .int .i64 (kc : Nat), .int .i64 0, .slice A zx.length k] 105)).setCell ⟨w.heap.size + 1, zn, none⟩ (.int .i64 0)).drew = W3 at *
              have HKC := Lib.hid hkc
              have F4 : W3.cell? ⟨w.heap.size, 4, none⟩ = some (.int .i64 (d : Int)) := (J3.out.1.fin.cell 4).trans rfl
              have L0 : W3.cell? ⟨w2.heap.size, 0, none⟩ = some (.int .i64 (zn : Int)) := (J3.out.2.2.2.cell 0).trans rfl
              have L3 : W3.cell? ⟨w2.heap.size, 3, none⟩ = some (.slice A zx.length k) := (J3.out.2.2.2.cell 3).trans rfl
              have HM := Lib.hid (show ∀ m y, (m, y) ∈ hs1 → leL (costL t) zx y from fun m y h => (leK_iff t zx y).2 (P2.out.2.1 (m, y) h))
              clear hkc
              by_cases hzd : zn = d
              · obtain rfl : d = zn := hzd.symm
                have FND := Lib.hid (I.out.ki.found HT.out.2.1 (costL_pos t) (by rw [hNt]; exact hs) hmem HM.out)
                have HZ := Lib.hid (show zx.length ≤ 1000000 from HLE.out _ hmem)
                clear hb hmem
                go_wp2_with fail
                refine (concat_ok [(none, [], 0), (A, zx, k)] 2 _ _ rfl (Blk.new W3 41 #[.slice none 0 0, .slice A zx.length k]) (fun r hr => by
                  rcases List.mem_cons.1 hr with rfl | hr
                  · exact RdT.nil _ _ _
                  · obtain rfl : r = (A, zx, k) := by simpa using hr
                    exact (J3.out.2.2.1.keep ((Ext.refl _).alloc _)).1) (by omega) (by have := HZ.out; simp [catS]; omega)).mono ?_
                rintro e w4 ⟨v, rfl, own4, x4⟩
                have hcat : catL [(none, [], 0), (A, zx, k)] = zx := by simp [catL]
                rw [hcat] at own4
                obtain ⟨A4, c4, rfl, hc4, r4⟩ := ownsRow_rdT own4 rfl
                have FIN := Lib.hid (show DvPost t down s d w (.returned (.tuple #[.slice A4 zx.length c4, .bool true])) w4 from .inl ⟨zx, A4, c4, rfl, hc4, r4, FND.out.1, FND.out.2, (J3.out.1.ext.alloc _).tr x4⟩)
                clear own4 x4 r4 hcat hc4 I J3 FND
                go_wp2
                exact bodyPost_ret (v := .tuple #[.slice A4 zx.length c4, .bool true]) (by simp [results, Tryz.results31, go_sem]) rfl FIN.out
              · have hzi : ¬ ((zn : Int) = (d : Int)) := by omega
                have HS0 := Lib.hid (show zn = s → zx = [] from fun e => by
                  subst e
                  exact (HM.out _ _ (I.out.ki.src hb)).anti (leL.nil (costL_pos t) zx))
                have hcf : V.count false = (V.set zn true).count false + 1 := by
                  have hl := (List.getElem?_eq_some_iff.1 hb).1
                  have he := (List.getElem?_eq_some_iff.1 hb).2
                  have hpos : 0 < V.count false := List.count_pos_iff.2 (List.mem_of_getElem? hb)
                  rw [List.count_set hl, he]
                  simp; omega
                have D3 := Lib.hid (show DvI t down s d N _ w W3 q (V.set zn true) (fun u => if u = zn then zx else fin u) hs2 g c n zn (leavP t zn) from
                  ⟨I.out.ki.reach HT.out.2.1 (costL_pos t) (by rw [hNt]; exact hs) hmem (fun z hz => by simpa using P2.out.1.mem_iff.1 hz) (fun z hz => P2.out.1.mem_iff.2 (List.mem_cons_of_mem _ hz)) HM.out hb hzd, P2.out.2.2.1, J3.out.2.1, J3.out.1, by
                    have h1 := I.out.nn
                    have h2 := leavTo_len t (2 * t.links.length) zn
                    change (leavP t zn).length ≤ _ at h2
                    rw [hcf, Nat.add_mul] at h1
                    simp at h1
                    omega, I.out.hq, by have := I.out.hc; omega⟩)
                have hmm2 : n + (V.set zn true).count false * (2 * t.links.length + 1) + 2 * t.links.length + 2 ≤ gk := by
                  rw [hcf, Nat.add_mul] at hmm
                  omega
                have HBx := Lib.hid (And.intro J3.out.2.2.1 J3.out.2.2.2)
                have HGG := Lib.hid (show g ≠ w2.heap.size from fun e => by
                  obtain ⟨cb, hcb⟩ := P2.out.2.2.2.2.2.1.row.blk
                  have := hcb.lt
                  omega)
                have HS1 := Lib.hid (show zx = [] → zn = s from fun e => by
                  rcases I.out.ki.lab _ _ hmem with ⟨_, h1⟩ | ⟨y, a, u, h1, _⟩
                  · exact h1
                  · rw [e] at h1; simp at h1)
                have hzl : zx.length ≤ 64 := by
                  have h1 := I.out.ki.size _ _ hmem
                  have h2 := List.count_le_length (a := true) (l := V)
                  rw [I.out.ki.len, hNt] at h2
                  omega
                have HKB := Lib.hid (show (zn, zx) ∈ hs1 ∧ kc ≤ 65535 * 64 from ⟨hmem, by
                  have := kcost_le HT.out.2.1 zx
                  rw [HKC.out] at this
                  exact Nat.le_trans this (Nat.mul_le_mul_left _ hzl)⟩)
                have HVn := Lib.hid (show (V.set zn true)[zn]? = some true from List.getElem?_set_self (List.getElem?_eq_some_iff.1 hb).1)
                clear I J3 HM P2 S2 hb hcf hmm hmem HLE hzd HN1
                generalize V.set zn true = V2 at *
                have HFN := Lib.hid (show (fun u => if u = zn then zx else fin u) zn = zx from if_pos rfl)
                generalize (fun u => if u = zn then zx else fin u) = fin2 at *
                generalize w2.heap.size = g2 at *
                clear hlw
                go_upto_region 22 with fail
                go_cut [119] (fun sl wx => sl = .bool (decide (0 < zx.length) && overP t (zn : Int)) ∧ Hid (DvI t down s d N #[.int .i64 (N : Int), .slice AO t.over.length co, .slice AL t.links.length cl, .slice AD down.length cd, .int .i64 (d : Int), .int .i64 0, .slice (some ⟨gO, 0, none⟩) N N] w wx q V2 fin2 hs2 g c n zn (leavP t zn)) ∧ Hid (RdF (w.heap.size + 2) wx A (ints zx) ∧ Blk wx g2 105 #[.int .i64 (zn : Int), .int .i64 (kc : Nat), .int .i64 0, .slice A zx.length k]))
                case first =>
                  by_cases hz : zx.length = 0
                  · have HZ := Lib.hid hz
                    have hz1 : ¬ ((zx.length : Int) > 0) := by omega
                    have hz2 : ¬ ((0 : Int) < (zx.length : Int)) := by omega
                    clear hz
                    go_wp2
                    go_meet
                    exact ⟨by rw [HZ.out]; rfl, D3, HBx⟩
                  · have hz1 : ((zx.length : Int) > 0) := by omega
                    have HZ := Lib.hid (show 0 < zx.length by omega)
                    have F0 : W3.cell? ⟨w.heap.size, 0, none⟩ = some (.int .i64 (N : Int)) := (D3.out.st.fin.cell 0).trans rfl
                    have F1 : W3.cell? ⟨w.heap.size, 1, none⟩ = some (.slice AO t.over.length co) := (D3.out.st.fin.cell 1).trans rfl
                    have F2 : W3.cell? ⟨w.heap.size, 2, none⟩ = some (.slice AL t.links.length cl) := (D3.out.st.fin.cell 2).trans rfl
                    have OVR := Lib.hid (show Calls Tryz.prog 52 #[.agg #[.int .i64 (N : Int), .slice AO t.over.length co, .slice AL t.links.length cl], .int .i64 (zn : Int)] W3 fun e w' => e = .returned (.bool (overP t (zn : Int))) ∧ Ext W3 w' from by
                      have h1 := gOver_any t AO co AL cl (zn : Int) W3 (HT.out.1.keep D3.out.st.ext) (by omega) (over_ok HT.out.2.1 (by rw [HLN.out]; omega))
                      rw [HLN.out] at h1
                      exact h1)
                    go_wp2_with fail
                    refine OVR.out.mono ?_
                    rintro e w4 ⟨rfl, x4⟩
                    have X4 := Lib.hid x4
                    clear x4
                    go_wp2
                    go_meet
                    exact ⟨by rw [decide_eq_true HZ.out]; rfl, Lib.hid ⟨D3.out.ki, D3.out.hp, D3.out.qu.keep X4.out, D3.out.st.keep X4.out, D3.out.nn, D3.out.hq, D3.out.hc⟩, Lib.hid ⟨HBx.out.1.keep X4.out, HBx.out.2.keep X4.out⟩⟩
                case rest =>
                  obtain ⟨rfl, D4, B4⟩ := hcut
                  clear D3 HBx F4 L0 L3
                  obtain ⟨bo, hbo⟩ : ∃ bo, (decide (0 < zx.length) && overP t (zn : Int)) = bo := ⟨_, rfl⟩
                  have HBO := Lib.hid hbo
                  rw [hbo]
                  clear hbo
                  cases bo with
                  | true =>
                    have I5 := Lib.hid (show DvI t down s d N _ w wc q V2 fin2 hs2 g c n 0 [] from by
                      have h1 := HBO.out
                      rw [Bool.and_eq_true, decide_eq_true_eq] at h1
                      have h2 := D4.out
                      exact ⟨h2.ki.dead (fun e => by have h3 := HS0.out e; rw [h3] at h1; simp at h1) h1.2 0, h2.hp, h2.qu, h2.st, by have := h2.nn; simp; omega, h2.hq, h2.hc⟩)
                    clear D4 B4
                    go_wp2
                    go_roundg (gk - 1)
                    case measure => omega
                    case rel => exact ⟨V2, fin2, hs2, g, c, n, by omega, I5⟩
                  | false =>
                    have HAL := Lib.hid (show zn = s ∨ overP t (zn : Int) = false from by
                      by_cases h0 : zx = []
                      · exact .inl (HS1.out h0)
                      · right
                        have h1 := HBO.out
                        have h2 : 0 < zx.length := List.length_pos_iff.2 h0
                        rw [decide_eq_true h2] at h1
                        exact h1)
                    have F6 : wc.cell? ⟨w.heap.size, 6, none⟩ = some (.slice (some ⟨gO, 0, none⟩) N N) := (D4.out.st.fin.cell 6).trans rfl
                    have L0 : wc.cell? ⟨g2, 0, none⟩ = some (.int .i64 (zn : Int)) := (B4.out.2.cell 0).trans rfl
                    obtain ⟨V0, v1, v2⟩ := HT.out.2.2.2
                    have cl1 := ((v1.keep D4.out.st.ext).cell zn).trans (range_map_get _ V0 zn hznN)
                    obtain ⟨AR, cr, v3, hcr, hrr⟩ := v2 zn hznN
                    rw [v3] at cl1
                    have HRR := Lib.hid hrr
                    have hlen := leavTo_len t (2 * t.links.length) zn
                    change (leavP t zn).length ≤ _ at hlen
                    have hcr2 := hcr
                    obtain ⟨M, hM⟩ : ∃ M, (leavP t zn).length = M := ⟨_, rfl⟩
                    have HML := Lib.hid hM
                    rw [hM] at cl1 hlen hcr
                    clear v1 v2 v3 hrr hcr2 hM
                    go_wp2
                    have I5 := Lib.hid (And.intro D4.out (And.intro B4.out HGG.out))
                    have hq2 : q ≠ g2 := B4.out.2.ne_ D4.out.qu.box (by decide) |> fun h e => h e.symm
                    clear D4 B4 HGG F6 L0 cl1
                    go_loopg [19, 20, 127] M (fun j _ _ it wy => ∃ (i : Nat) (hs : List (Nat × List Nat)) (gi ci ni : Nat), M - i = j ∧ i ≤ M ∧ it = .int .i64 (i : Int) ∧ Hid (DvI t down s d N #[.int .i64 (N : Int), .slice AO t.over.length co, .slice AL t.links.length cl, .slice AD down.length cd, .int .i64 (d : Int), .int .i64 0, .slice (some ⟨gO, 0, none⟩) N N] w wy q V2 fin2 hs gi ci ni zn ((leavP t zn).drop i) ∧ (RdF (w.heap.size + 2) wy A (ints zx) ∧ Blk wy g2 105 #[.int .i64 (zn : Int), .int .i64 (kc : Nat), .int .i64 0, .slice A zx.length k]) ∧ gi ≠ g2 ∧ ni + (M - i) ≤ n + M))
                    case atStart => exact ⟨0, hs2, g, c, n, rfl, Nat.zero_le _, rfl, Lib.hid ⟨I5.out.1, I5.out.2.1, I5.out.2.2, by omega⟩⟩
                    case round =>
                      obtain ⟨i, hs3, gi, ci, ni, rfl, hiM, rfl, I6⟩ := hrel
                      clear I5
                      by_cases hiL : i < M
                      · obtain ⟨a, ha⟩ : ∃ a, (leavP t zn)[i]? = some a := ⟨_, List.getElem?_eq_getElem (by rw [HML.out]; exact hiL)⟩
                        have hdrop : (leavP t zn).drop i = a :: (leavP t zn).drop (i + 1) := by
                          obtain ⟨h1, h2⟩ := List.getElem?_eq_some_iff.1 ha
                          rw [← h2]; exact List.drop_eq_getElem_cons h1
                        have LHD := Lib.hid (leav_head HT.out.2.1 (List.mem_of_getElem? ha))
                        have HAm := Lib.hid (List.mem_of_getElem? ha)
                        have haL : a < 2 * t.links.length := List.mem_range.1 (List.mem_filter.1 HAm.out).1
                        have haL2 : a / 2 < t.links.length := by omega
                        have I7 := Lib.hid (show DvI t down s d N _ w _ q V2 fin2 hs3 gi ci ni zn (a :: (leavP t zn).drop (i + 1)) from by rw [← hdrop]; exact I6.out.1)
                        obtain ⟨bR, oR, eR, hbR, hcR⟩ := HRR.out.rd.at_ (i := i) (by rw [ints_length, HML.out]; exact hiL)
                        have cR : wr.cell? ⟨bR, oR + i, none⟩ = some (.int .i64 (a : Int)) := by
                          rw [I7.out.st.ext.cell (p := ⟨bR, oR + i, none⟩) hbR]
                          refine (hcR i (by rw [ints_length, HML.out]; exact hiL)).trans ?_
                          simp [ints, ha]
                        have iM : (i : Int) < (M : Int) := by omega
                        have F3 : wr.cell? ⟨w.heap.size, 3, none⟩ = some (.slice AD down.length cd) := (I7.out.st.fin.cell 3).trans rfl
                        have L3 : wr.cell? ⟨g2, 3, none⟩ = some (.slice A zx.length k) := (I6.out.2.1.2.cell 3).trans rfl
                        have DWN := Lib.hid (gDown_any AD cd down a wr (HT.out.2.2.1.keep I7.out.st.ext) hdl (by omega) (down_ok HF.out haL) (by omega))
                        subst eR
                        have HCR := Lib.hid hcR
                        clear hcR hdrop ha
                        obtain ⟨bd, hbd⟩ : ∃ bd, downP down a = bd := ⟨_, rfl⟩
                        have HBD := Lib.hid hbd
                        rw [hbd] at DWN
                        clear hbd
                        go_upto_region 26 with fail
                        go_cut [145] (fun sl wy => sl = .bool bd ∧ wr = wy)
                        case first =>
                          go_wp2_with fail
                          refine DWN.out.mono ?_
                          rintro e w5 ⟨rfl, rfl⟩
                          cases bd with
                          | true =>
                            go_wp2
                            go_meet
                            exact ⟨rfl, rfl⟩
                          | false =>
                            by_cases hz : zx.length = 0
                            · have HZ := Lib.hid hz
                              have hz1 : decide ((zx.length : Int) = 0) = true := by rw [decide_eq_true_eq]; omega
                              have hz2 : ((zx.length : Int) == 0) = true := by rw [beq_iff_eq]; omega
                              have hz3 : (zx.length : Int) = 0 := by omega
                              have hlk : (Instr.lookup 102 (.map none) (.int .i64 (a : Int)) false).run Tryz.prog wr = .ok (.bool false) wr := by kernel_rfl
                              clear hz
                              go_wp2
                              go_meet
                              exact ⟨rfl, rfl⟩
                            · have hz1 : decide ((zx.length : Int) = 0) = false := by rw [decide_eq_false_iff_not]; omega
                              have hz2 : ((zx.length : Int) == 0) = false := by rw [beq_eq_false_iff_ne]; omega
                              have hz3 : ¬ (zx.length : Int) = 0 := by omega
                              go_wp2
                              go_meet
                              exact ⟨rfl, rfl⟩
                        case rest =>
                          obtain ⟨rfl, rfl⟩ := hcut
                          clear DWN
                          cases bd with
                          | true =>
                            have I8 := Lib.hid (show DvI t down s d N _ w _ q V2 fin2 hs3 gi ci ni zn ((leavP t zn).drop (i + 1)) from
                              ⟨I7.out.ki.off HBD.out, I7.out.hp, I7.out.qu, I7.out.st, by have := I7.out.nn; simp at this ⊢; omega, I7.out.hq, I7.out.hc⟩)
                            have J8 := Lib.hid (And.intro I6.out.2.1 (And.intro I6.out.2.2.1 I6.out.2.2.2))
                            clear I6 I7
                            go_wp2
                            go_roundg (M - (i + 1))
                            case measure => omega
                            case rel => exact ⟨i + 1, hs3, gi, ci, ni, rfl, by omega, by go_num, Lib.hid ⟨I8.out, J8.out.1, J8.out.2.1, by have := J8.out.2.2; omega⟩⟩
                          | false =>
                            clear cR F3 L3 HCR
                            have lw : w.heap.size < wr.heap.size := I7.out.st.fin.lt
                            have lg : g2 < wr.heap.size := I6.out.2.1.2.lt
                            have KEEP := Lib.hid (show ∀ wx, Ext wr wx → (wx.cell? ⟨w.heap.size, 0, none⟩ = some (.int .i64 (N : Int)) ∧ wx.cell? ⟨w.heap.size, 1, none⟩ = some (.slice AO t.over.length co) ∧ wx.cell? ⟨w.heap.size, 2, none⟩ = some (.slice AL t.links.length cl) ∧ wx.cell? ⟨g2, 1, none⟩ = some (.int .i64 (kc : Nat)) ∧ wx.cell? ⟨g2, 2, none⟩ = some (.int .i64 0)) from fun wx hx =>
                              have hb := I6.out.2.1.2.keep hx
                              have hf := I7.out.st.fin.keep hx
                              ⟨(hf.cell 0).trans rfl, (hf.cell 1).trans rfl, (hf.cell 2).trans rfl, (hb.cell 1).trans rfl, (hb.cell 2).trans rfl⟩)
                            obtain ⟨hh, hhead, hhN⟩ := headP_ok HT.out.2.1 haL
                            have HEAD := Lib.hid (show ∀ wx, Ext wr wx → Calls Tryz.prog 26 #[.agg #[.int .i64 (N : Int), .slice AO t.over.length co, .slice AL t.links.length cl], .int .i64 a] wx fun e w' => e = .returned (.int .i64 (hh : Int)) ∧ Ext wx w' from fun wx hx => by
                              have h1 := gHead_any t AO co AL cl a wx ((HT.out.1.keep I7.out.st.ext).keep hx) haL2
                              rw [HLN.out, hhead] at h1
                              exact h1)
                            obtain ⟨ca, hca⟩ : ∃ ca, costP t a = ca := ⟨_, rfl⟩
                            have COST := Lib.hid (show ∀ wx, Ext wr wx → Calls Tryz.prog 62 #[.agg #[.int .i64 (N : Int), .slice AO t.over.length co, .slice AL t.links.length cl], .int .i64 a] wx fun e w' => e = .returned (.int .i64 (ca : Int)) ∧ Ext wx w' from fun wx hx => by
                              have h1 := gCost_any t AO co AL cl a wx ((HT.out.1.keep I7.out.st.ext).keep hx) HT.out.2.1 haL2
                              rw [HLN.out, hca] at h1
                              exact h1)
                            have HHD := Lib.hid hhead
                            have HCA := Lib.hid hca
                            have hcb : ca ≤ 65535 := by rw [← hca]; exact costP_le HT.out.2.1 a
                            have hkb := HKB.out.2
                            have hw1 : IntKind.i64.wrap ((kc : Int) + (ca : Int)) = (kc : Int) + (ca : Int) := IntWalk.i64_in _ (by omega)
                            have XD := Lib.hid (show Ext wr wr.drew from (Ext.refl wr).drewN 1)
                            have XA := Lib.hid (show Ext wr (wr.alloc (.cells #[.int .i64 0, .int .i64 0, .int .i64 0, .slice none 0 0] 105)).drew from ((Ext.refl wr).alloc _).drewN 1)
                            have BN := Lib.hid (show Blk (wr.alloc (.cells #[.int .i64 0, .int .i64 0, .int .i64 0, .slice none 0 0] 105)).drew wr.heap.size 105 #[.int .i64 0, .int .i64 0, .int .i64 0, .slice none 0 0] from Blk.new wr _ _)
                            obtain ⟨i0, i1, i2, i3, i4⟩ := KEEP.out _ XD.out
                            obtain ⟨y0, y1, y2, y3, y4⟩ := KEEP.out _ XA.out
                            clear hhead hca
                            go_upto_region 27 with fail
                            go_cut [20] (fun sl wx => ∃ g3 : Nat, sl = .pointer (some ⟨g3, 0, none⟩) ∧ Hid (wr.heap.size ≤ g3 ∧ Blk wx g3 105 #[.int .i64 (hh : Int), .int .i64 ((kc : Int) + (ca : Int)), .int .i64 0, .slice none 0 0] ∧ Ext wr wx))
                            case first =>
                              go_region_held3 (fun w' => w'.cell? ⟨w.heap.size, 0, none⟩ = some (.int .i64 (N : Int)) ∧ w'.cell? ⟨w.heap.size, 1, none⟩ = some (.slice AO t.over.length co) ∧ w'.cell? ⟨w.heap.size, 2, none⟩ = some (.slice AL t.links.length cl) ∧ w'.cell? ⟨g2, 1, none⟩ = some (.int .i64 (kc : Nat)) ∧ w'.cell? ⟨g2, 2, none⟩ = some (.int .i64 0))
                                (first | with_reducible exact ⟨i0, i1, i2, i3, i4⟩ | with_reducible exact ⟨y0, y1, y2, y3, y4⟩ | with_reducible exact ⟨cell_alloc_of i0 _, cell_alloc_of i1 _, cell_alloc_of i2 _, cell_alloc_of i3 _, cell_alloc_of i4 _⟩ | exact ⟨cell_set_of (cell_set_of (cell_set_of (cell_set_of i0 fT) fT) fT) fT, cell_set_of (cell_set_of (cell_set_of (cell_set_of i1 fT) fT) fT) fT, cell_set_of (cell_set_of (cell_set_of (cell_set_of i2 fT) fT) fT) fT, cell_set_of (cell_set_of (cell_set_of (cell_set_of i3 fG) fG) fG) fG, cell_set_of (cell_set_of (cell_set_of (cell_set_of i4 fG) fG) fG) fG⟩ | fail)
                                (first
                                  | (go_at_call 26
                                     first
                                     | (with_reducible refine (HEAD.out _ (by with_reducible exact XD.out)).mono ?_
                                        rintro e w8 ⟨rfl, x8⟩
                                        have E8 := Lib.hid (XD.out.tr x8))
                                     | (with_reducible refine (HEAD.out _ (by with_reducible exact XA.out)).mono ?_
                                        rintro e w8 ⟨rfl, x8⟩
                                        have E8 := Lib.hid (XA.out.tr x8)
                                        have B8 := Lib.hid (BN.out.keep x8))
                                     obtain ⟨i0, i1, i2, i3, i4⟩ := KEEP.out _ E8.out
                                     clear x8)
                                  | (go_at_call 62
                                     first
                                     | (with_reducible refine (COST.out _ (by with_reducible exact E8.out)).mono ?_
                                        rintro e w9 ⟨rfl, x9⟩
                                        have E9 := Lib.hid (E8.out.tr x9)
                                        have hg9 : wr.heap.size ≤ w8.heap.size := E8.out.size
                                        first
                                        | (have B9 := Lib.hid (B8.out.keep x9)
                                           obtain ⟨⟨v0, v1, v2, v3⟩, r0, r1, r2, r3⟩ := four_ B9.out
                                           have gg : wr.heap.size ≤ wr.heap.size := Nat.le_refl _
                                           have fT : w.heap.size ≠ wr.heap.size := Nat.ne_of_lt lw
                                           have fG : g2 ≠ wr.heap.size := Nat.ne_of_lt lg)
                                        | skip)
                                     | (with_reducible refine (COST.out _ (by with_reducible exact E8.out.alloc (.cells #[.int .i64 0, .int .i64 0, .int .i64 0, .slice none 0 0] 105))).mono ?_
                                        rintro e w9 ⟨rfl, x9⟩
                                        have E9 := Lib.hid ((E8.out.alloc (.cells #[.int .i64 0, .int .i64 0, .int .i64 0, .slice none 0 0] 105)).tr x9)
                                        have gg : wr.heap.size ≤ w8.heap.size := E8.out.size
                                        have fT : w.heap.size ≠ w8.heap.size := Nat.ne_of_lt (Nat.lt_of_lt_of_le lw gg)
                                        have fG : g2 ≠ w8.heap.size := Nat.ne_of_lt (Nat.lt_of_lt_of_le lg gg)
                                        have B9 := Lib.hid ((Blk.new w8 105 #[.int .i64 0, .int .i64 0, .int .i64 0, .slice none 0 0]).keep x9)
                                        obtain ⟨⟨v0, v1, v2, v3⟩, r0, r1, r2, r3⟩ := four_ B9.out)
                                     obtain ⟨i0, i1, i2, i3, i4⟩ := KEEP.out _ E9.out
                                     clear x9)
                                  | fail)
                              all_goals
                                go_wp2
                                go_meet
                                first
                                | exact ⟨_, rfl, Lib.hid ⟨gg, (((B9.out.set_ 0 _).set_ 1 _).set_ 2 _).set_ 3 _, set4_ B9.out gg E9.out _ _ _ _⟩⟩
                                | exact ⟨w9.heap.size, rfl, Lib.hid ⟨E9.out.size, Blk.new w9 _ _, E9.out.alloc _⟩⟩
                            case rest =>
                              obtain ⟨g3, rfl, B9⟩ := hcut
                              clear XD XA BN KEEP HEAD COST i0 i1 i2 i3 i4 y0 y1 y2 y3 y4 hw1
                              have F5 : wc.cell? ⟨w.heap.size, 5, none⟩ = some (.int .i64 0) := ((I7.out.st.keep B9.out.2.2).fin.cell 5).trans rfl
                              have L2 : wc.cell? ⟨g3, 2, none⟩ = some (.int .i64 0) := (B9.out.2.1.cell 2).trans rfl
                              have L3 : wc.cell? ⟨g2, 3, none⟩ = some (.slice A zx.length k) := ((I6.out.2.1.2.keep B9.out.2.2).cell 3).trans rfl
                              have CLN := Lib.hid (cloneO_ok A k zx wc (I6.out.2.1.1.keep B9.out.2.2).1 (by omega))
                              obtain ⟨ti, hi, hz0, hz1, hz2⟩ := info_parts Tryz.info3
                              have hwc : wr.heap.size ≤ wc.heap.size := B9.out.2.2.size
                              have hg3 : g3 < wc.heap.size := B9.out.2.1.lt
                              go_wp2_with fail
                              refine CLN.out.mono ?_
                              rintro e w10 ⟨v10, rfl, own10, x10⟩
                              have OWN := Lib.hid own10
                              have X10 := Lib.hid x10
                              have hw10 : wc.heap.size ≤ w10.heap.size := x10.size
                              clear own10 x10 CLN F5 L2 L3
                              go_wp2_with (at_builtin; go_must (refine wpList_append_own_at _ rfl (.tmp 182) (.tmp 184) 41 rfl wc.heap.size 3 ti (.int .i64 0) 1 8 Tryz.underlying41 hi hz0 hz1 hz2 rfl (by decide) v10 zx.length (ints zx) rfl (OWN.out.alloc _) ⟨w10.heap.size, 0, none⟩ 1 1 [.int .i64 (a : Int)] rfl rfl ?c1 ?c2 ?c3 ?c4 ?c5 ?_))
                              case c1 =>
                                intro j u hj
                                match j, hj with
                                | 0, hj => simp at hj; subst hj; simp [Addr.add]
                              case c2 => intro u hu; simp at hu; subst hu; rfl
                              case c3 => unfold maxLen; omega
                              case c4 => omega
                              case c5 => simp; omega
                              intro v11 w11 own11 hgrow _ _
                              have X11 := Lib.hid (show Ext wc w11 from Below.grown (X10.out.alloc (.cells #[.int .i64 (a : Int)] 3)) hgrow (by simp; omega) (fun q hq => (OWN.out.lt q hq).1))
                              have B11 := Lib.hid (B9.out.2.1.keep X11.out)
                              obtain ⟨g11, c11, hv11, hc11⟩ := own_form4 own11
                              subst hv11
                              have R11 := Lib.hid (show RdF (w.heap.size + 2) w11 (some ⟨g11, 0, none⟩) (ints (zx ++ [a])) from by
                                have e1 : ints zx ++ [.int .i64 (a : Int)] = ints (zx ++ [a]) := by rw [ints_app]; rfl
                                rw [e1] at own11
                                obtain ⟨A5, c5, e5, _, r5⟩ := ownsRow_rdT own11 (by simp)
                                injection e5 with e5
                                subst e5
                                refine ⟨r5, fun p hp => ?_⟩
                                injection hp with hp
                                subst hp
                                have := (own11.lt g11 rfl).1
                                have h2 := I7.out.st.lst.lt
                                simp only
                                omega)
                              have c13 : w11.cell? ⟨g3, 3, none⟩ = some (.slice none 0 0) := (B11.out.cell 3).trans rfl
                              have f13 : w11.frozen? ⟨g3, 3, none⟩ = false := B11.out.frozen 3
                              clear hgrow own11 OWN hi hz0 hz1 hz2
                              go_upto_region 32 with fail
                              have E12 := Lib.hid (show Ext wr (w11.setCell ⟨g3, 3, none⟩ (.slice (some ⟨g11, 0, none⟩) (zx.length + 1) c11)) from Ext.set_ (B9.out.2.2.tr X11.out) B9.out.1 _)
                              have B12 := Lib.hid (show Blk (w11.setCell ⟨g3, 3, none⟩ (.slice (some ⟨g11, 0, none⟩) (zx.length + 1) c11)) g3 105 #[.int .i64 (hh : Int), .int .i64 ((kc : Int) + (ca : Int)), .int .i64 0, .slice (some ⟨g11, 0, none⟩) (zx.length + 1) c11] from B11.out.set_ 3 _)
                              have R12 := Lib.hid (show RdF (w.heap.size + 2) (w11.setCell ⟨g3, 3, none⟩ (.slice (some ⟨g11, 0, none⟩) (zx.length + 1) c11)) (some ⟨g11, 0, none⟩) (ints (zx ++ [a])) from R11.out.other (grown_set _ _ _ _) B11.out (by decide))
                              clear c13 f13 R11 B11 X11 X10 B9
                              generalize w11.setCell ⟨g3, 3, none⟩ (.slice (some ⟨g11, 0, none⟩) (zx.length + 1) c11) = w12 at *
                              have hagg : kAgg t (hh, zx ++ [a]) (some ⟨g11, 0, none⟩) c11 = .agg #[.int .i64 (hh : Int), .int .i64 ((kc : Int) + (ca : Int)), .int .i64 0, .slice (some ⟨g11, 0, none⟩) (zx.length + 1) c11] := by
                                unfold kAgg
                                simp [kcost_snoc, HKC.out, HCA.out]
                              have hniM : ni + 1 ≤ 1000000 := by
                                have h1 := I7.out.nn
                                have h8 : N * (2 * t.links.length + 1) ≤ 64 * 513 := Nat.mul_le_mul hN64 (by omega)
                                simp at h1
                                omega
                              have PUSH := Lib.hid (show Calls Tryz.prog 63 #[.iface 103 (.pointer (some ⟨q, 0, none⟩)), .iface 105 (.agg #[.int .i64 (hh : Int), .int .i64 ((kc : Int) + (ca : Int)), .int .i64 0, .slice (some ⟨g11, 0, none⟩) (zx.length + 1) c11])] w12 (HPushPost t w12 (w.heap.size + 2) q gi (ni + 1) ((hh, zx ++ [a]) :: hs3)) from by
                                have h1 := hPush_ok t (leO_K t) (w.heap.size + 2) q gi ni ci hs3 (hh, zx ++ [a]) (some ⟨g11, 0, none⟩) c11 w12 (I7.out.qu.keep E12.out) I7.out.hp (fun y hy => by
                                  rcases List.mem_cons.1 hy with rfl | hy
                                  · simp; omega
                                  · have h2 := I7.out.ki.size y.1 y.2 hy
                                    have h3 := List.count_le_length (a := true) (l := V2)
                                    rw [I7.out.ki.len, hNt] at h3
                                    omega) (by simpa using hc11) R12.out hniM (by have := (I7.out.st.keep E12.out).lst.lt; omega)
                                rw [hagg] at h1
                                exact h1)
                              obtain ⟨⟨l0, l1, l2, l3⟩, _⟩ := four_ B12.out
                              clear hagg R12 B12
                              go_wp2_with fail
                              refine PUSH.out.mono ?_
                              rintro e w13 ⟨rfl, g13, c13, hs13, p13, h13, hc13, q13, k13⟩
                              have I9 := Lib.hid (show DvI t down s d N _ w w13 q V2 fin2 hs13 g13 c13 (ni + 1) zn ((leavP t zn).drop (i + 1)) from
                                ⟨I7.out.ki.push HVn.out HAL.out HAm.out HBD.out (fun z => by
                                  rw [p13.mem_iff, List.mem_cons, HFN.out, HHD.out, Int.toNat_natCast]), h13, q13, (I7.out.st.keep E12.out).kf k13 I7.out.hq I7.out.qu.row.lo, by have := I7.out.nn; simp at this ⊢; omega, I7.out.hq, hc13⟩)
                              have J9 := Lib.hid (show (RdF (w.heap.size + 2) w13 A (ints zx) ∧ Blk w13 g2 105 #[.int .i64 (zn : Int), .int .i64 (kc : Nat), .int .i64 0, .slice A zx.length k]) ∧ g13 ≠ g2 ∧ ni + 1 + (M - (i + 1)) ≤ n + M from by
                                have K := I7.out.qu.keep E12.out
                                obtain ⟨cb, hcb⟩ := K.row.blk
                                refine ⟨⟨k13.rdF K.box hcb (I6.out.2.1.1.keep E12.out), k13.blk (I6.out.2.1.2.keep E12.out) (fun e => hq2 e.symm) (fun e => I6.out.2.2.1 e.symm)⟩, fun e => ?_, by have := I6.out.2.2.2; omega⟩
                                rcases k13.row with e2 | e2
                                · exact I6.out.2.2.1 (by rw [← e2, e])
                                · have := E12.out.size; omega)
                              clear p13 h13 q13 k13 PUSH l0 l1 l2 l3 I6 I7
                              go_wp2
                              go_roundg (M - (i + 1))
                              case measure => omega
                              case rel => exact ⟨i + 1, hs13, g13, c13, ni + 1, rfl, by omega, by go_num, Lib.hid ⟨I9.out, J9.out.1, J9.out.2.1, J9.out.2.2⟩⟩
                      · obtain rfl : i = M := by omega
                        have hltM : ¬ ((i : Int) < (i : Int)) := by omega
                        have hlt0 : ¬ (i < i) := Nat.lt_irrefl i
                        have I7 := Lib.hid (show DvI t down s d N _ w _ q V2 fin2 hs3 gi ci ni zn [] from by
                          have h1 := I6.out.1
                          rw [List.drop_of_length_le (by rw [HML.out]; exact Nat.le_refl _)] at h1
                          exact h1)
                        have hni : ni ≤ n + i := by have := I6.out.2.2.2; omega
                        have I8 := Lib.hid (show DvI t down s d N _ w _ q V2 fin2 hs3 gi ci ni 0 [] from
                          ⟨⟨I7.out.ki.len, I7.out.ki.lab, I7.out.ki.size, I7.out.ki.best, fun u a h1 h2 h3 h4 h5 => by
                            rcases I7.out.ki.front u a h1 h2 h3 h4 h5 with ⟨_, h6⟩ | h6
                            · cases h6
                            · exact .inr h6, I7.out.ki.src, I7.out.ki.dd⟩, I7.out.hp, I7.out.qu, I7.out.st, I7.out.nn, I7.out.hq, I7.out.hc⟩)
                        clear I6 I7
                        go_wp2
                        go_roundg (gk - 1)
                        case measure => omega
                        case rel => exact ⟨V2, fin2, hs3, gi, ci, ni, by omega, I8⟩
end Go.Proofs.YtjmkcckbbgpkeaaGreatDoor
