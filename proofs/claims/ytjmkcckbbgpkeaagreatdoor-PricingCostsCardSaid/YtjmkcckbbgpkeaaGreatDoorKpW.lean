/- kpaths: the queue's method Swap. -/
import Derived.Test.YtjmkcckbbgpkeaaGreatDoorKpS
import Derived.Deep.MidRow
set_option linter.unusedVariables false
set_option linter.unusedSimpArgs false

namespace Go.Proofs.YtjmkcckbbgpkeaaGreatDoor
open Go.RowKit
theorem Tryz.infoKLs : (Tryz.prog.info? 105).map (·.size) = some 4 := by kernel_rfl
theorem oc4 {a b c d : Value} (h0 : a.oneCell' = true) (h1 : b.oneCell' = true) (h2 : c.oneCell' = true) (h3 : d.oneCell' = true) : (#[a, b, c, d] : Array Value).all (·.oneCell') = true := by simp [h0, h1, h2, h3]
theorem KRow.blkN {t : Tp} {w : World} {B g n c : Nat} {hs : List (Nat × List Nat)} (h : KRow t w B g n c hs) {cs : Array Value} (hb : Blk w g 105 cs) : n * 4 ≤ cs.size := by
  obtain ⟨css, _, _, h3, _⟩ := h.row
  rcases h3.2 with ⟨e, _⟩ | ⟨g', cap, cur, e, _, h5, h6, _, h8, _⟩
  · cases e
  · injection e with e e2 e3
    injection e with e
    injection e with e
    subst e e3
    unfold Blk at hb
    rw [show w.heap[g]? = _ from h5] at hb
    injection hb with hb
    injection hb with hb
    subst hb
    omega
set_option maxRecDepth 100000 in
set_option maxHeartbeats 4000000 in
theorem kSwap_ok (t : Tp) (B g n c i j : Nat) (hs : List (Nat × List Nat)) (x y : Nat × List Nat) (w : World) (h : KRow t w B g n c hs) (hx : hs[i]? = some x) (hy : hs[j]? = some y) (hn : n ≤ 1000000) :
    Calls Tryz.prog 157 #[.slice (some ⟨g, 0, none⟩) n c, .int .i64 (i : Int), .int .i64 (j : Int)] w fun e w' => e = .returned (.tuple #[]) ∧ KRow t w' B g n c (swapG hs i j) ∧ w.grownBy w' (some g) := by
  obtain ⟨AX, kx, ⟨x0, x1, x2, x3⟩, ⟨p0, p1, p2, p3⟩, hkx, rx⟩ := h.at_ hx
  obtain ⟨AY, ky, ⟨y0, y1, y2, y3⟩, ⟨q0, q1, q2, q3⟩, hky, ry⟩ := h.at_ hy
  have hi : i < n := by have := (List.getElem?_eq_some_iff.1 hx).1; have := h.len; omega
  have hj : j < n := by have := (List.getElem?_eq_some_iff.1 hy).1; have := h.len; omega
  have iN : (i : Int) < (n : Int) := by omega
  have jN : (j : Int) < (n : Int) := by omega
  obtain ⟨cb, hb⟩ := h.blk
  have hbd : Blk w.drew g 105 cb := hb
  have TH := fun (W : World) (cs : Array Value) (hB : Blk W g 105 cs) (hsz : cs.size = cb.size) (m : Nat) (hm : m < n) => (show W.there g (m * 4) 4 from fun q hq => ⟨by
    rw [hB.cell, Array.getElem?_eq_getElem (by rw [hsz]; have := h.blkN hb; omega)]; rfl, hB.frozen _⟩)
  have T0 := Lib.hid (TH _ _ hbd rfl i hi)
  have T1 := Lib.hid (TH _ _ ((((hbd.set_ (i * 4) (.int .i64 (y.1 : Int))).set_ (i * 4 + 1) (.int .i64 (kcost t y.2 : Nat))).set_ (i * 4 + 2) (.int .i64 0)).set_ (i * 4 + 3) (.slice AY y.2.length ky)) (by simp) j hj)
  have hg1 := grown4 w.drew g i (.int .i64 (y.1 : Int)) (.int .i64 (kcost t y.2 : Nat)) (.int .i64 0) (.slice AY y.2.length ky)
  have XD := show Ext w w.drew from (Ext.refl w).drewN 1
  have FIN := Lib.hid (And.intro (((h.keep XD).put (z := y) hi hky (ry.keep XD)).put (z := x) hj hkx ((rx.keep XD).other hg1 hbd (by decide))) ((show w.grownBy w.drew (some g) from ⟨XD.os, XD.tape, XD.output, XD.size, fun b hb _ => XD.block b hb⟩).trans (hg1.trans (grown4 _ g j (.int .i64 (x.1 : Int)) (.int .i64 (kcost t x.2 : Nat)) (.int .i64 0) (.slice AX x.2.length kx)))))
  have SW := Lib.hid (swapG_eq hx hy)
  have HI := Lib.hid Tryz.infoKLs
  obtain ⟨px, x⟩ := x
  obtain ⟨py, y⟩ := y
  simp only at x0 x1 x3 y0 y1 y3 FIN SW T1 ⊢
  generalize kcost t x = ca at *
  generalize kcost t y = cb at *
  clear hg1 rx ry hx hy h hb hbd TH XD
  obtain ⟨W1, hW1⟩ : ∃ W1, W1 = w.drew.setCells g (i * 4) (#[.int .i64 (py : Int), .int .i64 (cb : Int), .int .i64 0, .slice AY y.length ky] : Array Value).toList := ⟨_, rfl⟩
  obtain ⟨W2, hW2⟩ : ∃ W2, W2 = W1.setCells g (j * 4) (#[.int .i64 (px : Int), .int .i64 (ca : Int), .int .i64 0, .slice AX x.length kx] : Array Value).toList := ⟨_, rfl⟩
  have T1 := Lib.hid (show W1.there g (j * 4) 4 from by rw [hW1]; exact T1.out)
  have FIN := Lib.hid (show KRow t W2 B g n c ((hs.set i (py, y)).set j (px, x)) ∧ w.grownBy W2 (some g) from by rw [hW2, hW1]; exact FIN.out)
  have HW1 := Lib.hid hW1
  have HW2 := Lib.hid hW2
  clear hW1 hW2
  go_enter Tryz.func157, Tryz.ntmps157
  go_wp2
  refine wp_region_any (by kernel_rfl) ?_
  try (change wpAny _ _ _ _ _ _ _ (World.drew _))
  refine wpAny_take (i := 0) (v := ?_) rfl (by kernel_rfl) (by kernel_rfl) (by kernel_rfl) (fun _ _ _ h => h) (Or.inl ⟨by rfl, ?_⟩) ?_
  rotate_left
  focus (intro w; go_simp; try with_reducible rfl)
  refine wpAny_take (i := 1) (v := ?_) rfl (by kernel_rfl) (by kernel_rfl) (by kernel_rfl) (fun _ _ _ h => h) (Or.inl ⟨by rfl, ?_⟩) ?_
  rotate_left
  focus (intro w; go_simp; try with_reducible rfl)
  refine wpAny_take (i := 2) (v := ?_) rfl (by kernel_rfl) (by kernel_rfl) (by kernel_rfl) (fun _ _ _ h => h) (Or.inl ⟨by rfl, ?_⟩) ?_
  rotate_left
  focus (intro w; go_simp; try with_reducible rfl)
  refine wpAny_take (i := 3) (v := ?_) rfl (by kernel_rfl) (by kernel_rfl) (by kernel_rfl) (fun _ _ _ h => h) (Or.inl ⟨by rfl, ?_⟩) ?_
  rotate_left
  focus (intro w; go_simp; try with_reducible rfl)
  refine wpAny_take (i := 4) (v := ?_) rfl (by kernel_rfl) (by kernel_rfl) (by kernel_rfl) (fun _ _ _ h => h) (Or.inl ⟨by rfl, ?_⟩) ?_
  rotate_left
  focus (intro w; go_simp; try with_reducible rfl)
  refine wpAny_take (i := 5) (v := ?_) rfl (by kernel_rfl) (by kernel_rfl) (by kernel_rfl) (fun _ _ _ h => h) (Or.inl ⟨by rfl, ?_⟩) ?_
  rotate_left
  focus (intro w; go_simp; try with_reducible rfl)
  refine wpAny_take (i := 6) (v := ?_) rfl (by kernel_rfl) (by kernel_rfl) (by kernel_rfl) (fun _ _ _ h => h) (Or.inl ⟨by rfl, ?_⟩) ?_
  rotate_left
  focus (intro w; go_simp; try with_reducible rfl)
  refine wpAny_take (i := 8) (v := ?_) rfl (by kernel_rfl) (by kernel_rfl) (by kernel_rfl) (fun _ _ _ h => h) (Or.inl ⟨by rfl, ?_⟩) ?_
  rotate_left
  focus (intro w; go_simp; try with_reducible rfl)
  refine wpAny_take (i := 9) (v := ?_) rfl (by kernel_rfl) (by kernel_rfl) (by kernel_rfl) (fun _ _ _ h => h) (Or.inl ⟨by rfl, ?_⟩) ?_
  rotate_left
  focus (intro w; go_simp; try with_reducible rfl)
  refine wpAny_take (i := 10) (v := ?_) rfl (by kernel_rfl) (by kernel_rfl) (by kernel_rfl) (fun _ _ _ h => h) (Or.inl ⟨by rfl, ?_⟩) ?_
  rotate_left
  focus (intro w; go_simp; try with_reducible rfl)
  refine wpAny_ready (rs := [7, 11]) (by kernel_rfl) (by simp) ?_
  refine AllReady.cons rfl (fun K hK => ?_) (AllReady.cons rfl (fun K hK => ?_) AllReady.nil)
  rotate_left
  focus
    go_simp
    refine hK _ _ ?_
    clear hK K
    refine wpAny_ready (rs := [7]) (by kernel_rfl) (by simp) ?_
    refine AllReady.cons rfl (fun K hK => ?_) AllReady.nil
    go_simp
    refine hK _ _ ?_
    clear hK K
  rotate_left
  focus
    go_simp
    refine hK _ _ ?_
    clear hK K
    refine wpAny_ready (rs := [11]) (by kernel_rfl) (by simp) ?_
    refine AllReady.cons rfl (fun K hK => ?_) AllReady.nil
    go_simp
    refine hK _ _ ?_
    clear hK K
  all_goals
    refine wpAny_take (i := 12) (v := ?_) rfl (by kernel_rfl) (by kernel_rfl) (by kernel_rfl) (fun _ _ _ h => h) (Or.inl ⟨by rfl, ?_⟩) ?_
    rotate_left
    focus (intro w; go_simp; try with_reducible rfl)
    refine wpAny_ready (rs := [13]) (by kernel_rfl) (by simp) ?_
    refine AllReady.cons rfl (fun K hK => ?_) AllReady.nil
    rw [if_pos (by rfl)]
    refine wp_store_mid 105 (.tmp 18) (.tmp 13) (by rfl) g (i * 4) #[.int .i64 (py : Int), .int .i64 (cb : Int), .int .i64 0, .slice AY y.length ky] (by rfl) (by rfl) T0.out HI.out (oc4 rfl rfl rfl rfl) ?_
    rw [← HW1.out]
    refine hK _ _ ?_
    clear hK K
    refine wpAny_take (i := 14) (v := ?_) rfl (by kernel_rfl) (by kernel_rfl) (by kernel_rfl) (fun _ _ _ h => h) (Or.inl ⟨by rfl, ?_⟩) ?_
    rotate_left
    focus (intro w; go_simp; try with_reducible rfl)
    refine wpAny_ready (rs := [15]) (by kernel_rfl) (by simp) ?_
    refine AllReady.cons rfl (fun K hK => ?_) AllReady.nil
    rw [if_pos (by rfl)]
    refine wp_store_mid 105 (.tmp 19) (.tmp 17) (by rfl) g (j * 4) #[.int .i64 (px : Int), .int .i64 (ca : Int), .int .i64 0, .slice AX x.length kx] (by rfl) (by rfl) T1.out HI.out (oc4 rfl rfl rfl rfl) ?_
    rw [← HW2.out]
    refine hK _ _ ?_
    clear hK K
    refine wpAny_done (by kernel_rfl) ?_ _
    go_wp2
    go_end0
    exact ⟨rfl, by rw [SW.out]; exact FIN.out.1, FIN.out.2⟩
end Go.Proofs.YtjmkcckbbgpkeaaGreatDoor
