/- kpaths: the order of labels, and the queue's methods. -/
import Derived.Test.YtjmkcckbbgpkeaaGreatDoorKpQ
set_option linter.unusedVariables false
set_option linter.unusedSimpArgs false

namespace Go.Proofs.YtjmkcckbbgpkeaaGreatDoor
open Go.RowKit
theorem cell_lt {w : World} {p : Addr} {v : Value} (h : w.cell? p = some v) : p.block < w.heap.size := by
  unfold World.cell? at h
  rcases Nat.lt_or_ge p.block w.heap.size with hlt | hge
  · exact hlt
  · rw [Array.getElem?_eq_none hge] at h; simp at h
theorem Ext.cell_ {w w' : World} (hx : Ext w w') {p : Addr} {v : Value} (h : w.cell? p = some v) : w'.cell? p = some v := (hx.cell (cell_lt h)).trans h
/-- The order of labels. -/
def leK (t : Tp) (x y : Nat × List Nat) : Prop := ¬ ordK t y.2 x.2 < 0
/-- What a call on the queue leaves as it is: all blocks but the queue's box q and the row's block g; the row's block is the old one or a new one. -/
structure KF (w w' : World) (q g g' : Nat) : Prop where
  os : w'.os = w.os
  tape : w'.tape = w.tape
  output : w'.output = w.output
  size : w.heap.size ≤ w'.heap.size
  block : ∀ b, b < w.heap.size → b ≠ q → b ≠ g → w'.heap[b]? = w.heap[b]?
  row : g' = g ∨ w.heap.size ≤ g'
theorem KF.of_ext {w w' : World} (q g : Nat) (h : Ext w w') : KF w w' q g g := ⟨h.os, h.tape, h.output, h.size, fun b hb _ _ => h.block b hb, .inl rfl⟩
theorem KF.of_row {w w' : World} (q : Nat) {g : Nat} (h : w.grownBy w' (some g)) : KF w w' q g g := ⟨h.os, h.tape, h.output, h.size, fun b hb _ hg => h.block b hb (fun e => hg (by injection e)), .inl rfl⟩
theorem KF.of_box {w w' : World} {q : Nat} (g : Nat) (h : w.grownBy w' (some q)) : KF w w' q g g := ⟨h.os, h.tape, h.output, h.size, fun b hb hq _ => h.block b hb (fun e => hq (by injection e)), .inl rfl⟩
theorem KF.tr {w w1 w2 : World} {q g g1 g2 : Nat} (h : KF w w1 q g g1) (k : KF w1 w2 q g1 g2) : KF w w2 q g g2 := by
  refine ⟨k.os.trans h.os, k.tape.trans h.tape, k.output.trans h.output, Nat.le_trans h.size k.size, fun b hb hq hg => ?_, ?_⟩
  · have h1 := h.size
    rw [k.block b (by omega) hq (fun e => by
      rcases h.row with h2 | h2
      · exact hg (e.trans h2)
      · omega)]
    exact h.block b hb hq hg
  · have h1 := h.size
    rcases k.row with h2 | h2
    · rw [h2]; exact h.row
    · exact .inr (by omega)
theorem KF.ext {w0 w w' : World} {q g g' : Nat} (k : KF w w' q g g') (h : Ext w0 w) (hq : w0.heap.size ≤ q) (hg : w0.heap.size ≤ g) : Ext w0 w' := by
  have h1 := h.size
  exact ⟨k.os.trans h.os, k.tape.trans h.tape, k.output.trans h.output, Nat.le_trans h.size k.size, fun b hb => (k.block b (by omega) (by omega) (by omega)).trans (h.block b hb)⟩
theorem KF.blk {w w' : World} {q g g' b : Nat} {t : TypeId} {cs : Array Value} (k : KF w w' q g g') (h : Blk w b t cs) (hq : b ≠ q) (hg : b ≠ g) : Blk w' b t cs := (k.block b h.lt hq hg).trans h
theorem KF.rdT {w w' : World} {q g g' : Nat} {A : Option Addr} {xs : List Value} {csq csg : Array Value} (k : KF w w' q g g') (hq : Blk w q 107 csq) (hg : Blk w g 105 csg) (h : RdT w 3 A xs) : RdT w' 3 A xs := fun hx => by
  obtain ⟨b, o, cs, fr, e, hb, hc⟩ := h hx
  refine ⟨b, o, cs, fr, e, (k.block b (lt_of_get hb) (fun e => ?_) (fun e => ?_)).trans hb, hc⟩
  · subst e
    unfold Blk at hq
    rw [hq] at hb
    injection hb with hb
    injection hb with _ hb
    exact absurd hb (by decide)
  · subst e
    unfold Blk at hg
    rw [hg] at hb
    injection hb with hb
    injection hb with _ hb
    exact absurd hb (by decide)
theorem KF.rdF {B : Nat} {w w' : World} {q g g' : Nat} {A : Option Addr} {xs : List Value} {csq csg : Array Value} (k : KF w w' q g g') (hq : Blk w q 107 csq) (hg : Blk w g 105 csg) (h : RdF B w A xs) : RdF B w' A xs := ⟨k.rdT hq hg h.1, h.2⟩
set_option maxRecDepth 100000 in
set_option maxHeartbeats 2000000 in
theorem kOrder_ok (ca cb : Nat) (AX AY : Option Addr) (cx cy : Nat) (x y : List Nat) (w : World) (hx : Rd w AX (ints x)) (hy : Rd w AY (ints y)) (hxl : x.length ≤ 1000000) (hyl : y.length ≤ 1000000) :
    Calls Tryz.prog 71 #[.int .i64 (ca : Nat), .int .i64 (cb : Nat), .slice AX x.length cx, .slice AY y.length cy] w fun e w' => e = .returned (.int .i64 (or3 (cmpI ca cb) (cmpI x.length y.length) (lexI x y))) ∧ Ext w w' := by
  have HX := Lib.hid hx
  have HY := Lib.hid hy
  obtain ⟨R, hR⟩ : ∃ R, R = or3 (cmpI ca cb) (cmpI x.length y.length) (lexI x y) := ⟨_, rfl⟩
  have HR := Lib.hid hR
  rw [← hR]
  clear hx hy hR
  go_enter Tryz.func71, Tryz.ntmps71
  go_wp2_with fail
  refine (cmpInt_any ca cb _).mono ?_
  rintro e w1 ⟨rfl, rfl⟩
  go_wp2_with fail
  refine (cmpInt_any x.length y.length _).mono ?_
  rintro e w1 ⟨rfl, rfl⟩
  go_wp2_with fail
  refine (slCompare_any AX AY cx cy x y _ HX.out HY.out hxl hyl).mono ?_
  rintro e w1 ⟨rfl, rfl⟩
  go_wp2_with fail
  refine (cmpOr_any w.heap.size (cmpI ca cb) (cmpI x.length y.length) (lexI x y) _ (Blk.new _ _ _)).mono ?_
  rintro e w7 ⟨rfl, rfl⟩
  have FIN := Lib.hid ((Ext.refl w).alloc (.cells #[.int .i64 (cmpI ca cb), .int .i64 (cmpI x.length y.length), .int .i64 (lexI x y)] 3))
  go_wp2
  go_ret
  exact ⟨by rw [HR.out]; rfl, FIN.out⟩
set_option maxRecDepth 100000 in
set_option maxHeartbeats 2000000 in
theorem kLess_ok (t : Tp) (B g n c i j : Nat) (hs : List (Nat × List Nat)) (x y : Nat × List Nat) (w : World) (h : KRow t w B g n c hs) (hx : hs[i]? = some x) (hy : hs[j]? = some y) (hxl : x.2.length ≤ 1000000) (hyl : y.2.length ≤ 1000000) (hn : n ≤ 1000000) :
    Calls Tryz.prog 154 #[.slice (some ⟨g, 0, none⟩) n c, .int .i64 (i : Int), .int .i64 (j : Int)] w fun e w' => e = .returned (.bool (decide (ordK t x.2 y.2 < 0))) ∧ Ext w w' := by
  obtain ⟨AX, kx, ⟨x0, x1, x2, x3⟩, _, hkx, rx⟩ := h.at_ hx
  obtain ⟨AY, ky, ⟨y0, y1, y2, y3⟩, _, hky, ry⟩ := h.at_ hy
  have hi : i < n := by have := (List.getElem?_eq_some_iff.1 hx).1; have := h.len; omega
  have hj : j < n := by have := (List.getElem?_eq_some_iff.1 hy).1; have := h.len; omega
  have iN : (i : Int) < (n : Int) := by omega
  have jN : (j : Int) < (n : Int) := by omega
  have XD := Lib.hid (show Ext w w.drew from (Ext.refl w).drewN 1)
  have RR := Lib.hid (And.intro (rx.keep XD.out) (ry.keep XD.out))
  obtain ⟨px, x⟩ := x
  obtain ⟨py, y⟩ := y
  simp only at x1 x3 y1 y3 hxl hyl RR ⊢
  have HR := Lib.hid (show ordK t x y = or3 (cmpI (kcost t x) (kcost t y)) (cmpI x.length y.length) (lexI x y) from rfl)
  have CC := Lib.hid (And.intro x1 (And.intro x3 (And.intro y1 y3)))
  generalize kcost t x = ca at *
  generalize kcost t y = cb at *
  have i0 : w.drew.cell? ⟨g, i * 4 + 1, none⟩ = some (.int .i64 (ca : Int)) := x1
  have i1 : w.drew.cell? ⟨g, i * 4 + 3, none⟩ = some (.slice AX x.length kx) := x3
  have j0 : w.drew.cell? ⟨g, j * 4 + 1, none⟩ = some (.int .i64 (cb : Int)) := y1
  have j1 : w.drew.cell? ⟨g, j * 4 + 3, none⟩ = some (.slice AY y.length ky) := y3
  rw [HR.out]
  generalize hO : or3 (cmpI ca cb) (cmpI x.length y.length) (lexI x y) = O at *
  have HO := Lib.hid hO
  clear x0 x1 x2 x3 y0 y1 y2 y3 rx ry hx hy h hO
  go_enter Tryz.func154, Tryz.ntmps154
  go_wp2
  go_region_held3 (fun w' => w'.cell? ⟨g, i * 4 + 1, none⟩ = some (.int .i64 (ca : Int)) ∧ w'.cell? ⟨g, i * 4 + 3, none⟩ = some (.slice AX x.length kx) ∧ w'.cell? ⟨g, j * 4 + 1, none⟩ = some (.int .i64 (cb : Int)) ∧ w'.cell? ⟨g, j * 4 + 3, none⟩ = some (.slice AY y.length ky))
    (first | with_reducible exact ⟨i0, i1, j0, j1⟩ | fail)
    (first
    | (go_at_call 71
       with_reducible refine (kOrder_ok ca cb AX AY kx ky x y _ RR.out.1.rd RR.out.2.rd hxl hyl).mono ?_
       rintro e w5 ⟨rfl, x5⟩
       rw [HO.out]
       have E5 := Lib.hid (XD.out.tr x5)
       have i0 := x5.cell_ i0
       have i1 := x5.cell_ i1
       have j0 := x5.cell_ j0
       have j1 := x5.cell_ j1
       clear x5)
    | fail)
  go_wp2
  go_ret
  exact ⟨rfl, E5.out⟩
theorem kLen_ok (A : Option Addr) (n c : Nat) (w : World) : Calls Tryz.prog 59 #[.slice A n c] w fun e w' => e = .returned (.int .i64 (n : Int)) ∧ w = w' := by
  go_enter Tryz.func59, Tryz.ntmps59
  go_wp2
  go_ret
  exact ⟨rfl, rfl⟩
/-- A row is shortened. -/
theorem own_short {w : World} {B g n c s m : Nat} {e : TypeId} {xs : List Value} (h : w.ownsRow B e s (.slice (some ⟨g, 0, none⟩) n c) n xs) (hm : m ≤ n) : w.ownsRow B e s (.slice (some ⟨g, 0, none⟩) m c) m (xs.take (m * s)) := by
  have hl := h.1
  have hle : m * s ≤ n * s := Nat.mul_le_mul_right s hm
  refine ⟨by rw [List.length_take]; omega, ?_⟩
  rcases h.2 with ⟨h3, h4⟩ | ⟨g', cap, cur, h3, h4, h5, h6, h7, h8, h9⟩
  · cases h3
  · injection h3 with e1 e2 e3
    injection e1 with e1
    injection e1 with e1
    subst e1 e3
    exact .inr ⟨g, c, cur, rfl, h4, h5, by omega, h7, h8, by rw [← h9, List.take_take, Nat.min_eq_left hle]⟩
theorem KRow.short {t : Tp} {w : World} {B g n c m : Nat} {hs : List (Nat × List Nat)} (h : KRow t w B g n c hs) (hm : m ≤ n) : KRow t w B g m c (hs.take m) := by
  obtain ⟨css, h1, h2, h3, h4⟩ := h.row
  have hf : (css.take m).flatten = css.flatten.take (m * 4) := by
    clear h3 h4 h
    induction css generalizing m n with
    | nil => simp
    | cons a l ih =>
      cases m with
      | zero => simp
      | succ m =>
        have ha := h2 a (by simp)
        rw [List.take_succ_cons, List.flatten_cons, List.flatten_cons, List.take_append, List.take_of_length_le (by omega : a.length ≤ (m + 1) * 4), ha, show (m + 1) * 4 - 4 = m * 4 by omega, ih (n := l.length) (m := m) (by simp at h1; omega) rfl (fun cs hc => h2 cs (by simp [hc]))]
  refine ⟨by rw [List.length_take, h.len]; omega, css.take m, by rw [List.length_take]; omega, fun cs hc => h2 cs (List.mem_of_mem_take hc), by rw [hf]; exact own_short h3 hm, fun i z hz => ?_⟩
  rw [List.getElem?_take] at hz
  split at hz
  · rename_i him
    obtain ⟨cs, k1, k2⟩ := h4 i z hz
    exact ⟨cs, by rw [List.getElem?_take, if_pos him]; exact k1, k2⟩
  · cases hz
theorem KRow.grown {t : Tp} {w w' : World} {B g n c q : Nat} {hs : List (Nat × List Nat)} {t' : TypeId} {cs' : Array Value} (h : KRow t w B g n c hs) (hg : w.grownBy w' (some q)) (hb : Blk w q t' cs') (h1 : 3 ≠ t') (h2 : 105 ≠ t') : KRow t w' B g n c hs := by
  obtain ⟨cg, hcg⟩ := h.blk
  obtain ⟨css, q1, q2, q3, q4⟩ := h.row
  refine ⟨h.len, css, q1, q2, q3.kept hg (.inr (fun e => ?_)), fun i z hz => ?_⟩
  · have e : g = q := by
      have : (Value.slice (some ⟨g, 0, none⟩) n c).ownBlock = some g := rfl
      rw [this] at e
      injection e
    exact hcg.ne_ hb h2 e
  · obtain ⟨cs, k1, k2⟩ := q4 i z hz
    exact ⟨cs, k1, k2.other hg hb h1⟩
/-- A label as a value. -/
def kAgg (t : Tp) (z : Nat × List Nat) (A : Option Addr) (k : Nat) : Value := .agg #[.int .i64 (z.1 : Int), .int .i64 (kcost t z.2 : Nat), .int .i64 0, .slice A z.2.length k]
def KPopPost (t : Tp) (w : World) (B q g n c : Nat) (z : Nat × List Nat) (hs : List (Nat × List Nat)) (e : Ending) (w' : World) : Prop :=
  ∃ (A : Option Addr) (k : Nat), e = .returned (.iface 105 (kAgg t z A k)) ∧ z.2.length ≤ k ∧ RdF B w' A (ints z.2) ∧ KQu t w' B q g n c hs ∧ KF w w' q g g
set_option maxRecDepth 100000 in
set_option maxHeartbeats 2000000 in
theorem kPop_ok (t : Tp) (B q g n c : Nat) (hs : List (Nat × List Nat)) (z : Nat × List Nat) (w : World) (h : KQu t w B q g (n + 1) c hs) (hz : hs[n]? = some z) (hn : n ≤ 1000000) (hc : n + 1 ≤ c) :
    Calls Tryz.prog 155 #[.pointer (some ⟨q, 0, none⟩)] w (KPopPost t w B q g n c z (hs.take n)) := by
  obtain ⟨A, k, ⟨x0, x1, x2, x3⟩, _, hk, rx⟩ := h.row.at_ hz
  obtain ⟨c0, f0⟩ := h.box.one
  obtain ⟨z1, z2⟩ := z
  simp only at x0 x1 x3 hk rx
  have hg := grown_set w q 0 (.slice (some ⟨g, 0, none⟩) n c)
  have K1 := show KQu t (w.setCell ⟨q, 0, none⟩ (.slice (some ⟨g, 0, none⟩) n c)) B q g n c (hs.take n) from ⟨by have := h.box.set_ 0 (.slice (some ⟨g, 0, none⟩) n c); simpa using this, (h.row.short (Nat.le_succ n)).grown hg h.box (by decide) (by decide)⟩
  have XB := (Ext.refl (w.setCell ⟨q, 0, none⟩ (.slice (some ⟨g, 0, none⟩) n c))).alloc (.cells #[.int .i64 (z1 : Int), .int .i64 (kcost t z2 : Nat), .int .i64 0, .slice A z2.length k] 105)
  have FIN := Lib.hid (And.intro (K1.keep XB) (And.intro ((rx.other hg h.box (by decide)).keep XB) ((KF.of_box g hg).tr (KF.of_ext q g XB))))
  have hwq : q < w.heap.size := h.box.lt
  unfold KPopPost kAgg
  simp only
  generalize kcost t z2 = kc at *
  have hnn : ((n + 1 : Nat) : Int) - 1 = (n : Int) := by omega
  clear h hz rx hg K1 XB
  go_enter Tryz.func155, Tryz.ntmps155
  go_wp2
  go_ret
  exact ⟨A, k, rfl, hk, FIN.out.2.1, FIN.out.1, FIN.out.2.2⟩
end Go.Proofs.YtjmkcckbbgpkeaaGreatDoor
