/- waypointref02: rational numbers of the reference in memory; Make, made. -/
/- waypointref02: made, size, Of, Text. -/
import Derived.Test.YtekiomanidimnaaGreatDoorMN
import Derived.Test.YtekiomanidimnaaGreatDoorMK
set_option linter.unusedVariables false
set_option linter.unusedSimpArgs false

namespace Go.Proofs.YtekiomanidimnaaGreatDoor
open Go.RowKit
/-- The struct's cells are the number q. -/
def RQR (w : World) (neg : Bool) (A : Option Addr) (n c : Nat) (A' : Option Addr) (n' c' : Nat) (q : Rat) : Prop :=
  neg = decide (q.num < 0) ∧ GrpR w A n c q.num.natAbs ∧ GrpR w A' n' c' (dk q)
theorem GrpR.other {w w' : World} {A : Option Addr} {n c N g : Nat} {t' : TypeId} {cs' : Array Value} (h : GrpR w A n c N) (hg : w.grownBy w' (some g)) (hb : Blk w g t' cs') (hne : 3 ≠ t') : GrpR w' A n c N := by
  obtain ⟨ds, h1, h2, h3, h4, h5⟩ := h
  exact ⟨ds, h1, h2, h3, h4, h5.other hg hb hne⟩
section
variable {w w' : World} {neg : Bool} {A : Option Addr} {n c : Nat} {A' : Option Addr} {n' c' : Nat} {q : Rat}
theorem RQR.keep (h : RQR w neg A n c A' n' c' q) (hb : Ext w w') : RQR w' neg A n c A' n' c' q := ⟨h.1, h.2.1.keep hb, h.2.2.keep hb⟩
theorem RQR.other (h : RQR w neg A n c A' n' c' q) {g : Nat} {t' : TypeId} {cs' : Array Value} (hg : w.grownBy w' (some g)) (hb : Blk w g t' cs') (hne : 3 ≠ t') : RQR w' neg A n c A' n' c' q :=
  ⟨h.1, h.2.1.other hg hb hne, h.2.2.other hg hb hne⟩
end
def RQPost (w : World) (q : Rat) (e : Ending) (w' : World) : Prop :=
  ∃ (neg : Bool) (A : Option Addr) (n c : Nat) (A' : Option Addr) (n' c' : Nat), e = .returned (.agg #[.bool neg, .slice A n c, .slice A' n' c']) ∧ RQR w' neg A n c A' n' c' q ∧ Ext w w'
theorem GrpR.one {w : World} {A : Option Addr} {n c : Nat} (h : GrpR w A n c 1) : n = 1 ∧ ∃ b o : Nat, A = some ⟨b, o, none⟩ ∧ b < w.heap.size ∧ w.cell? ⟨b, o, none⟩ = some (.int .i64 1) := by
  obtain ⟨ds, hl, _, hcan, hv, hr⟩ := h
  have e : ds = [1] := Dig.Canon.unique G6_gt hcan ⟨by simp [G6], by simp⟩ (by rw [hv]; simp [Dig.val])
  subst e
  obtain ⟨b, o, e, hb, hc⟩ := hr.rd.ints (k := 0) (by simp)
  exact ⟨by simpa using hl.symm, b, o, e, hb, (hc 0 (by simp)).trans (by simp)⟩
theorem GrpR.notone {w : World} {A : Option Addr} {c N : Nat} (h : GrpR w A 1 c N) (hN : N ≠ 1) : ∃ b o d : Nat, A = some ⟨b, o, none⟩ ∧ b < w.heap.size ∧ w.cell? ⟨b, o, none⟩ = some (.int .i64 (d : Int)) ∧ ((d : Int) == 1) = false := by
  obtain ⟨ds, hl, _, hcan, hv, hr⟩ := h
  obtain ⟨d, rfl⟩ : ∃ d, ds = [d] := by
    match ds, hl with
    | [d], _ => exact ⟨d, rfl⟩
  obtain ⟨b, o, e, hb, hc⟩ := hr.rd.ints (k := 0) (by simp)
  refine ⟨b, o, d, e, hb, (hc 0 (by simp)).trans (by simp), ?_⟩
  simp [Dig.val] at hv
  exact beq_eq_false_iff_ne.2 (by omega)
theorem mkQ_dk (neg : Bool) {n d : Nat} (hd : d ≠ 0) : dk (mkQ neg n d) = if d / n.gcd d = 1 then 0 else d / n.gcd d := by
  unfold dk; rw [mkQ_den neg hd]
theorem mk_fin {w W : World} {neg : Bool} {N D : Nat} {A A' : Option Addr} {n c n' c' g : Nat} {cs : Array Value} (hD : D ≠ 0) (nb : Bool) (hn : nb = (neg && N != 0)) (h1 : GrpR W A n c (N / N.gcd D)) (h2 : GrpR W A' n' c' (if D / N.gcd D = 1 then 0 else D / N.gcd D))
    (hb : Blk W g 51 cs) (hg : w.heap.size ≤ g) (hx : Ext w W) :
    RQR (((W.setCell ⟨g, 0, none⟩ (.bool nb)).setCell ⟨g, 1, none⟩ (.slice A n c)).setCell ⟨g, 2, none⟩ (.slice A' n' c')) nb A n c A' n' c' (mkQ neg N D) ∧ Ext w (((W.setCell ⟨g, 0, none⟩ (.bool nb)).setCell ⟨g, 1, none⟩ (.slice A n c)).setCell ⟨g, 2, none⟩ (.slice A' n' c')) := by
  refine ⟨RQR.other (w := W) ⟨by rw [mkQ_neg neg hD, hn], by rw [mkQ_abs neg hD]; exact h1, by rw [mkQ_dk neg hD]; exact h2⟩ (set3_grown W g _ _ _) hb (by decide), ?_⟩
  exact ((hx.set_ (p := ⟨g, 0, none⟩) hg _).set_ (p := ⟨g, 1, none⟩) hg _).set_ (p := ⟨g, 2, none⟩) hg _
/-- The digits of a number are new. -/
def FrsR (w : World) (A A' : Option Addr) : Prop := (∀ ad, A = some ad → w.heap.size ≤ ad.block) ∧ ∀ ad, A' = some ad → w.heap.size ≤ ad.block
theorem FrsR.le {w w' : World} {A A' : Option Addr} (h : FrsR w' A A') (hx : w.heap.size ≤ w'.heap.size) : FrsR w A A' := ⟨fun ad e => Nat.le_trans hx (h.1 ad e), fun ad e => Nat.le_trans hx (h.2 ad e)⟩
theorem FrsR.zl {w : World} {A A' : Option Addr} (h : FrsR w A A') : FrsR w none A' := ⟨fun _ e => (by cases e), h.2⟩
theorem FrsR.zr {w : World} {A A' : Option Addr} (h : FrsR w A A') : FrsR w A none := ⟨h.1, fun _ e => (by cases e)⟩
def RQPostF (w : World) (q : Rat) (e : Ending) (w' : World) : Prop :=
  ∃ (neg : Bool) (A : Option Addr) (n c : Nat) (A' : Option Addr) (n' c' : Nat), e = .returned (.agg #[.bool neg, .slice A n c, .slice A' n' c']) ∧ RQR w' neg A n c A' n' c' q ∧ Ext w w' ∧ FrsR w A A'
theorem RQPostF.ok {w w' : World} {q : Rat} {e : Ending} (h : RQPostF w q e w') : RQPost w q e w' := by
  obtain ⟨neg, A, n, c, A', n', c', k0, k1, k2, _⟩ := h
  exact ⟨neg, A, n, c, A', n', c', k0, k1, k2⟩
set_option maxRecDepth 100000 in
set_option maxHeartbeats 4000000 in
theorem rMake_fr (neg : Bool) (A1 A2 : Option Addr) (n1 c1 n2 c2 N D : Nat) (w : World) (h1 : GrpR w A1 n1 c1 N) (h2 : GrpR w A2 n2 c2 D) (hn1 : n1 ≤ 1000000) (hn2 : n2 ≤ 1000000) (hD : 0 < D) :
    Calls Tryz.prog 142 #[.bool neg, .slice A1 n1 c1, .slice A2 n2 c2] w fun e w' => ∃ (nb : Bool) (A : Option Addr) (n c : Nat) (A' : Option Addr) (n' c' : Nat), e = .returned (.tuple #[.agg #[.bool nb, .slice A n c, .slice A' n' c'], .int .i64 0]) ∧ RQR w' nb A n c A' n' c' (mkQ neg N D) ∧ Ext w w' ∧ FrsR w A A' := by
  obtain ⟨b0, e0⟩ := boxes1 w #[.bool false, .slice none 0 0, .slice none 0 0] 51
  have z2 : ((n2 : Int) == 0) = false := by
    have := h2.eq_zero
    exact beq_eq_false_iff_ne.2 (by omega)
  have H1 := Lib.hid (h1.keep e0)
  have H2 := Lib.hid (h2.keep e0)
  have hg0 : 0 < N.gcd D := Nat.gcd_pos_of_pos_right N hD
  have hgD : N.gcd D ≤ D := Nat.le_of_dvd hD (Nat.gcd_dvd_right N D)
  have G := Lib.hid (And.intro hg0 hgD)
  have B0 := Lib.hid (b0)
  have E0 := Lib.hid (e0)
  clear h1 h2 b0 e0 hg0 hgD
  go_enter Tryz.func142, Tryz.ntmps142
  go_wp2_with fail
  refine (rGCD_ok A1 A2 n1 c1 n2 c2 N D _ H1.out H2.out hn1 hn2).mono ?_
  rintro e w1 ⟨A3, n3, c3, rfl, h3, x1⟩
  have hn3 : n3 ≤ n2 := h3.lenOf (Nat.lt_of_le_of_lt G.out.2 H2.out.lt_pow)
  have H3 := Lib.hid (And.intro h3 (And.intro (H1.out.keep x1) (H2.out.keep x1)))
  have B1 := Lib.hid (B0.out.keep x1)
  have E1 := Lib.hid (E0.out.tr x1)
  clear h3 x1 B0 E0 H1 H2
  go_wp2_with fail
  refine (rDivMod_fr A1 A3 n1 c1 n3 c3 N _ _ H3.out.2.1 H3.out.1 (by omega) (by omega) G.out.1).mono ?_
  rintro e w2 ⟨A4, n4, c4, A5, n5, c5, rfl, h4, h5, x2, fr4⟩
  have FR4 := Lib.hid (show ∀ ad, A4 = some ad → w.heap.size ≤ ad.block from fun ad h => Nat.le_trans E1.out.size (fr4 ad h))
  clear fr4
  have H4 := Lib.hid (And.intro h4 (And.intro (H3.out.1.keep x2) (H3.out.2.2.keep x2)))
  have B2 := Lib.hid (B1.out.keep x2)
  have E2 := Lib.hid (E1.out.tr x2)
  clear h4 h5 x2 H3 B1 E1
  go_wp2_with fail
  refine (rDivMod_fr A2 A3 n2 c2 n3 c3 D _ _ H4.out.2.2 H4.out.2.1 (by omega) (by omega) G.out.1).mono ?_
  rintro e w3 ⟨A6, n6, c6, A7, n7, c7, rfl, h6, h7, x3, fr6⟩
  have FR := Lib.hid (show FrsR w A4 A6 from ⟨FR4.out, fun ad h => Nat.le_trans E2.out.size (fr6 ad h)⟩)
  clear fr6 FR4
  have hz4 := (H4.out.1.keep x3).eq_zero
  have H6 := Lib.hid (And.intro (H4.out.1.keep x3) h6)
  have B3 := Lib.hid (B2.out.keep x3)
  have E3 := Lib.hid (E2.out.tr x3)
  obtain ⟨⟨i0, i1, i2⟩, f0, f1, f2⟩ := B3.out.three
  have hNz : N / N.gcd D = 0 ↔ N = 0 := by
    constructor
    · intro h
      rcases Nat.eq_zero_or_pos N with h0 | h0
      · exact h0
      · have := Nat.div_pos (Nat.le_of_dvd h0 (Nat.gcd_dvd_left N D)) G.out.1; omega
    · intro h; rw [h]; simp
  have HZ4 := Lib.hid hz4
  have HNZ := Lib.hid hNz
  clear h6 h7 x3 H4 B2 E2 hz4 hNz
  by_cases hd1 : D / N.gcd D = 1
  · obtain ⟨rfl, bb, oo, rfl, hbb, hcc⟩ : n6 = 1 ∧ ∃ b o : Nat, A6 = some ⟨b, o, none⟩ ∧ b < w3.heap.size ∧ w3.cell? ⟨b, o, none⟩ = some (.int .i64 1) := by
      have h := H6.out.2
      rw [hd1] at h
      exact h.one
    have HD1 := Lib.hid hd1
    have DD := Lib.hid (show GrpR w3 none 0 0 (if D / N.gcd D = 1 then 0 else D / N.gcd D) from by rw [if_pos hd1]; exact GrpR.zero _ _ _)
    clear hd1
    by_cases hN0 : N = 0
    · obtain rfl : n4 = 0 := HZ4.out.2 (HNZ.out.2 hN0)
      obtain ⟨r1, r2⟩ := mk_fin (w := w) (neg := neg) (N := N) (D := D) (g := w.heap.size) (by omega) false (by rw [hN0]; simp) (by rw [HNZ.out.2 hN0]; exact GrpR.zero w3 none 0) DD.out B3.out (Nat.le_refl _) E3.out
      have q3 := ((B3.out.set_ 0 (.bool false)).set_ 1 (.slice none 0 0)).set_ 2 (.slice none 0 0)
      have RF := Lib.hid (And.intro q3 (And.intro r1 r2))
      clear q3 r1 r2 hN0
      go_wp2
      exact bodyPost_ret (v := .tuple #[.agg #[.bool false, .slice none 0 0, .slice none 0 0], .int .i64 0]) (by simp [results, Tryz.results142, go_sem, RF.out.1.cell]) rfl ⟨_, _, _, _, _, _, _, rfl, RF.out.2.1, RF.out.2.2, FR.out.zr.zl⟩
    · have zn : ((n4 : Int) == 0) = false := beq_eq_false_iff_ne.2 (fun h => hN0 (HNZ.out.1 (HZ4.out.1 (by omega))))
      obtain ⟨r1, r2⟩ := mk_fin (w := w) (neg := neg) (N := N) (D := D) (g := w.heap.size) (by omega) neg (by simp [hN0]) H6.out.1 DD.out B3.out (Nat.le_refl _) E3.out
      have q3 := ((B3.out.set_ 0 (.bool neg)).set_ 1 (.slice A4 n4 c4)).set_ 2 (.slice none 0 0)
      have RF := Lib.hid (And.intro q3 (And.intro r1 r2))
      clear q3 r1 r2 hN0
      go_wp2
      exact bodyPost_ret (v := .tuple #[.agg #[.bool neg, .slice A4 n4 c4, .slice none 0 0], .int .i64 0]) (by simp [results, Tryz.results142, go_sem, RF.out.1.cell]) rfl ⟨_, _, _, _, _, _, _, rfl, RF.out.2.1, RF.out.2.2, FR.out.zr⟩
  · have DD := Lib.hid (show GrpR w3 A6 n6 c6 (if D / N.gcd D = 1 then 0 else D / N.gcd D) from by rw [if_neg hd1]; exact H6.out.2)
    by_cases hn6 : n6 = 1
    · subst hn6
      obtain ⟨bb, oo, dd, rfl, hbb, hcc, hdd⟩ := H6.out.2.notone hd1
      clear hd1
      by_cases hN0 : N = 0
      · obtain rfl : n4 = 0 := HZ4.out.2 (HNZ.out.2 hN0)
        obtain ⟨r1, r2⟩ := mk_fin (w := w) (neg := neg) (N := N) (D := D) (g := w.heap.size) (by omega) false (by rw [hN0]; simp) (by rw [HNZ.out.2 hN0]; exact GrpR.zero w3 none 0) DD.out B3.out (Nat.le_refl _) E3.out
        have q3 := ((B3.out.set_ 0 (.bool false)).set_ 1 (.slice none 0 0)).set_ 2 (.slice (some ⟨bb, oo, none⟩) 1 c6)
        have RF := Lib.hid (And.intro q3 (And.intro r1 r2))
        clear q3 r1 r2 hN0
        go_wp2
        exact bodyPost_ret (v := .tuple #[.agg #[.bool false, .slice none 0 0, .slice (some ⟨bb, oo, none⟩) 1 c6], .int .i64 0]) (by simp [results, Tryz.results142, go_sem, RF.out.1.cell]) rfl ⟨_, _, _, _, _, _, _, rfl, RF.out.2.1, RF.out.2.2, FR.out.zl⟩
      · have zn : ((n4 : Int) == 0) = false := beq_eq_false_iff_ne.2 (fun h => hN0 (HNZ.out.1 (HZ4.out.1 (by omega))))
        obtain ⟨r1, r2⟩ := mk_fin (w := w) (neg := neg) (N := N) (D := D) (g := w.heap.size) (by omega) neg (by simp [hN0]) H6.out.1 DD.out B3.out (Nat.le_refl _) E3.out
        have q3 := ((B3.out.set_ 0 (.bool neg)).set_ 1 (.slice A4 n4 c4)).set_ 2 (.slice (some ⟨bb, oo, none⟩) 1 c6)
        have RF := Lib.hid (And.intro q3 (And.intro r1 r2))
        clear q3 r1 r2 hN0
        go_wp2
        exact bodyPost_ret (v := .tuple #[.agg #[.bool neg, .slice A4 n4 c4, .slice (some ⟨bb, oo, none⟩) 1 c6], .int .i64 0]) (by simp [results, Tryz.results142, go_sem, RF.out.1.cell]) rfl ⟨_, _, _, _, _, _, _, rfl, RF.out.2.1, RF.out.2.2, FR.out⟩
    · have hn6b : ((n6 : Int) == 1) = false := beq_eq_false_iff_ne.2 (by omega)
      clear hd1 hn6
      by_cases hN0 : N = 0
      · obtain rfl : n4 = 0 := HZ4.out.2 (HNZ.out.2 hN0)
        obtain ⟨r1, r2⟩ := mk_fin (w := w) (neg := neg) (N := N) (D := D) (g := w.heap.size) (by omega) false (by rw [hN0]; simp) (by rw [HNZ.out.2 hN0]; exact GrpR.zero w3 none 0) DD.out B3.out (Nat.le_refl _) E3.out
        have q3 := ((B3.out.set_ 0 (.bool false)).set_ 1 (.slice none 0 0)).set_ 2 (.slice A6 n6 c6)
        have RF := Lib.hid (And.intro q3 (And.intro r1 r2))
        clear q3 r1 r2 hN0
        go_wp2
        exact bodyPost_ret (v := .tuple #[.agg #[.bool false, .slice none 0 0, .slice A6 n6 c6], .int .i64 0]) (by simp [results, Tryz.results142, go_sem, RF.out.1.cell]) rfl ⟨_, _, _, _, _, _, _, rfl, RF.out.2.1, RF.out.2.2, FR.out.zl⟩
      · have zn : ((n4 : Int) == 0) = false := beq_eq_false_iff_ne.2 (fun h => hN0 (HNZ.out.1 (HZ4.out.1 (by omega))))
        obtain ⟨r1, r2⟩ := mk_fin (w := w) (neg := neg) (N := N) (D := D) (g := w.heap.size) (by omega) neg (by simp [hN0]) H6.out.1 DD.out B3.out (Nat.le_refl _) E3.out
        have q3 := ((B3.out.set_ 0 (.bool neg)).set_ 1 (.slice A4 n4 c4)).set_ 2 (.slice A6 n6 c6)
        have RF := Lib.hid (And.intro q3 (And.intro r1 r2))
        clear q3 r1 r2 hN0
        go_wp2
        exact bodyPost_ret (v := .tuple #[.agg #[.bool neg, .slice A4 n4 c4, .slice A6 n6 c6], .int .i64 0]) (by simp [results, Tryz.results142, go_sem, RF.out.1.cell]) rfl ⟨_, _, _, _, _, _, _, rfl, RF.out.2.1, RF.out.2.2, FR.out⟩
theorem rMake_ok (neg : Bool) (A1 A2 : Option Addr) (n1 c1 n2 c2 N D : Nat) (w : World) (h1 : GrpR w A1 n1 c1 N) (h2 : GrpR w A2 n2 c2 D) (hn1 : n1 ≤ 1000000) (hn2 : n2 ≤ 1000000) (hD : 0 < D) :
    Calls Tryz.prog 142 #[.bool neg, .slice A1 n1 c1, .slice A2 n2 c2] w fun e w' => ∃ (nb : Bool) (A : Option Addr) (n c : Nat) (A' : Option Addr) (n' c' : Nat), e = .returned (.tuple #[.agg #[.bool nb, .slice A n c, .slice A' n' c'], .int .i64 0]) ∧ RQR w' nb A n c A' n' c' (mkQ neg N D) ∧ Ext w w' :=
  (rMake_fr neg A1 A2 n1 c1 n2 c2 N D w h1 h2 hn1 hn2 hD).mono fun e w' ⟨nb, A, n, c, A', n', c', k0, k1, k2, _⟩ => ⟨nb, A, n, c, A', n', c', k0, k1, k2⟩
end Go.Proofs.YtekiomanidimnaaGreatDoor


namespace Go.Proofs.YtekiomanidimnaaGreatDoor
open Go.RowKit Go.Sort
theorem rq_set3 {w W : World} {nb : Bool} {A A' : Option Addr} {n c n' c' g : Nat} {q : Rat} {cs : Array Value} (h : RQR W nb A n c A' n' c' q) (hb : Blk W g 51 cs) (hg : w.heap.size ≤ g) (hx : Ext w W) :
    RQR (((W.setCell ⟨g, 0, none⟩ (.bool nb)).setCell ⟨g, 1, none⟩ (.slice A n c)).setCell ⟨g, 2, none⟩ (.slice A' n' c')) nb A n c A' n' c' q ∧ Ext w (((W.setCell ⟨g, 0, none⟩ (.bool nb)).setCell ⟨g, 1, none⟩ (.slice A n c)).setCell ⟨g, 2, none⟩ (.slice A' n' c')) :=
  ⟨h.other (set3_grown W g _ _ _) hb (by decide), ((hx.set_ (p := ⟨g, 0, none⟩) hg _).set_ (p := ⟨g, 1, none⟩) hg _).set_ (p := ⟨g, 2, none⟩) hg _⟩
set_option maxRecDepth 100000 in
set_option maxHeartbeats 4000000 in
theorem rMade_fr (neg : Bool) (A1 A2 : Option Addr) (n1 c1 n2 c2 N D : Nat) (w : World) (h1 : GrpR w A1 n1 c1 N) (h2 : GrpR w A2 n2 c2 D) (hn1 : n1 ≤ 1000000) (hn2 : n2 ≤ 1000000) (hD : 0 < D) :
    Calls Tryz.prog 115 #[.bool neg, .slice A1 n1 c1, .slice A2 n2 c2] w (RQPostF w (mkQ neg N D)) := by
  obtain ⟨b0, e0⟩ := boxes1 w #[.bool false, .slice none 0 0, .slice none 0 0] 51
  have H1 := Lib.hid (h1.keep e0)
  have H2 := Lib.hid (h2.keep e0)
  have B0 := Lib.hid (b0)
  have E0 := Lib.hid (e0)
  clear h1 h2 b0 e0
  go_enter Tryz.func115, Tryz.ntmps115
  go_wp2_with fail
  refine (rMake_fr neg A1 A2 n1 c1 n2 c2 N D _ H1.out H2.out hn1 hn2 hD).mono ?_
  rintro e w1 ⟨nb, A, n, c, A', n', c', rfl, hq, x1, fr1⟩
  have FR := Lib.hid (fr1.le E0.out.size)
  clear fr1
  have X1 := Lib.hid ((Ext.refl w1).alloc (.cells #[.bool nb, .slice A n c, .slice A' n' c'] 51))
  have B1 := Lib.hid ((B0.out.keep x1).keep X1.out)
  have E1 := Lib.hid ((E0.out.tr x1).tr X1.out)
  have Q1 := Lib.hid (hq.keep X1.out)
  obtain ⟨⟨j0, j1, j2⟩, _⟩ := (Blk.new w1 51 #[.bool nb, .slice A n c, .slice A' n' c']).three
  obtain ⟨⟨i0, i1, i2⟩, f0, f1, f2⟩ := B1.out.three
  clear x1 hq B0 E0 X1
  obtain ⟨r1, r2⟩ := rq_set3 (w := w) Q1.out B1.out (Nat.le_refl _) E1.out
  have q3 := ((B1.out.set_ 0 (.bool nb)).set_ 1 (.slice A n c)).set_ 2 (.slice A' n' c')
  have RF := Lib.hid (And.intro q3 (And.intro r1 r2))
  clear q3 r1 r2
  go_wp2
  exact bodyPost_ret (v := .agg #[.bool nb, .slice A n c, .slice A' n' c']) (by simp [results, Tryz.results115, go_sem, RF.out.1.cell]) rfl ⟨_, _, _, _, _, _, _, rfl, RF.out.2.1, RF.out.2.2, FR.out⟩
theorem rMade_ok (neg : Bool) (A1 A2 : Option Addr) (n1 c1 n2 c2 N D : Nat) (w : World) (h1 : GrpR w A1 n1 c1 N) (h2 : GrpR w A2 n2 c2 D) (hn1 : n1 ≤ 1000000) (hn2 : n2 ≤ 1000000) (hD : 0 < D) :
    Calls Tryz.prog 115 #[.bool neg, .slice A1 n1 c1, .slice A2 n2 c2] w (RQPost w (mkQ neg N D)) := (rMade_fr neg A1 A2 n1 c1 n2 c2 N D w h1 h2 hn1 hn2 hD).mono fun e w' h => h.ok
set_option maxRecDepth 100000 in
set_option maxHeartbeats 4000000 in
theorem rSize_ok (x : Int) (w : World) (hx : -2147483648 < x) (hx2 : x < 2147483648) :
    Calls Tryz.prog 116 #[.int .i64 x] w (GrpPost w x.natAbs) := by
  by_cases h0 : x < 0
  · obtain ⟨N, hN⟩ : ∃ N : Nat, N = x.natAbs := ⟨_, rfl⟩
    have hxN : x = -(N : Int) := by omega
    have hN1 : 1 ≤ N := by omega
    have hN2 : N < 2147483648 := by omega
    rw [← hN]
    subst hxN
    clear hN
    have hd : decide (-(N : Int) < 0) = true := by simp; omega
    clear hx hx2 h0
    go_enter Tryz.func116, Tryz.ntmps116
    go_wp2_with fail
    rw [show -(-(N : Int) + 1) + 1 = (N : Int) by omega]
    refine (refOf_ok N _ (by omega)).mono ?_
    rintro e w1 ⟨A, n, c, rfl, h1, x1, fr⟩
    have F := Lib.hid (And.intro h1 (And.intro x1 fr))
    clear h1 x1 fr
    go_wp2
    go_ret
    exact ⟨_, _, _, rfl, F.out.1, F.out.2.1, F.out.2.2⟩
  · obtain ⟨N, hN⟩ : ∃ N : Nat, N = x.natAbs := ⟨_, rfl⟩
    have hxN : x = (N : Int) := by omega
    rw [← hN]
    subst hxN
    clear hN
    have hd : decide ((N : Int) < 0) = false := by simp
    go_enter Tryz.func116, Tryz.ntmps116
    go_wp2_with fail
    refine (refOf_ok N _ (by omega)).mono ?_
    rintro e w1 ⟨A, n, c, rfl, h1, x1, fr⟩
    have F := Lib.hid (And.intro h1 (And.intro x1 fr))
    clear h1 x1 fr
    go_wp2
    go_ret
    exact ⟨_, _, _, rfl, F.out.1, F.out.2.1, F.out.2.2⟩
theorem rAbs_len {w : World} {A : Option Addr} {n c : Nat} {x : Int} (h : GrpR w A n c x.natAbs) (hx : -2147483648 < x) (hx2 : x < 2147483648) : n ≤ 2 := h.lenOf (by
  have : G6 ^ 2 = 1000000000000 := by decide
  omega)
set_option maxRecDepth 100000 in
set_option maxHeartbeats 4000000 in
theorem rOf_ok (x y : Int) (w : World) (hx : -2147483648 < x) (hx2 : x < 2147483648) (hy : -2147483648 < y) (hy2 : y < 2147483648) (hy0 : y ≠ 0) :
    Calls Tryz.prog 60 #[.int .i64 x, .int .i64 y] w (RQPost w (ofQ x y)) := by
  obtain ⟨b0, e0⟩ := boxes1 w #[.bool false, .slice none 0 0, .slice none 0 0] 51
  have B0 := Lib.hid (b0)
  have E0 := Lib.hid (e0)
  clear b0 e0
  go_enter Tryz.func60, Tryz.ntmps60
  go_wp2_with fail
  refine (rSize_ok x _ hx hx2).mono ?_
  rintro e w1 ⟨A1, n1, c1, rfl, h1, x1, _⟩
  have l1 := rAbs_len h1 hx hx2
  have H1 := Lib.hid h1
  have B1 := Lib.hid (B0.out.keep x1)
  have E1 := Lib.hid (E0.out.tr x1)
  clear h1 x1 B0 E0
  go_wp2_with fail
  refine (rSize_ok y _ hy hy2).mono ?_
  rintro e w2 ⟨A2, n2, c2, rfl, h2, x2, _⟩
  have l2 := rAbs_len h2 hy hy2
  have H2 := Lib.hid (And.intro (H1.out.keep x2) h2)
  have B2 := Lib.hid (B1.out.keep x2)
  have E2 := Lib.hid (E1.out.tr x2)
  clear h2 x2 B1 E1 H1
  generalize hng : (decide (x < 0) != decide (y < 0)) = ng at *
  go_wp2_with fail
  refine (rMade_ok _ A1 A2 n1 c1 n2 c2 _ _ _ H2.out.1 H2.out.2 (by omega) (by omega) (by omega)).mono ?_
  rintro e w3 ⟨nb, A, n, c, A', n', c', rfl, hq, x3⟩
  have B3 := Lib.hid (B2.out.keep x3)
  have E3 := Lib.hid (E2.out.tr x3)
  obtain ⟨⟨i0, i1, i2⟩, f0, f1, f2⟩ := B3.out.three
  obtain ⟨r1, r2⟩ := rq_set3 (w := w) hq B3.out (Nat.le_refl _) E3.out
  have q3 := ((B3.out.set_ 0 (.bool nb)).set_ 1 (.slice A n c)).set_ 2 (.slice A' n' c')
  have RF := Lib.hid (And.intro q3 (And.intro r1 r2))
  clear q3 r1 r2 hq x3
  go_wp2
  exact bodyPost_ret (v := .agg #[.bool nb, .slice A n c, .slice A' n' c']) (by simp [results, Tryz.results60, go_sem, RF.out.1.cell]) rfl ⟨_, _, _, _, _, _, _, rfl, RF.out.2.1, RF.out.2.2⟩
theorem rdec_len {w : World} {A : Option Addr} {n c N : Nat} (h : GrpR w A n c N) (hn : n ≤ 1000000) : (Lib.decDigits N).length ≤ 6000001 := by
  have h1 := h.lt_pow
  have h2 : N < 10 ^ (6 * n + 1) := by
    refine Nat.lt_of_lt_of_le h1 ?_
    rw [show G6 = 10 ^ 6 from rfl, ← Nat.pow_mul]
    exact Nat.pow_le_pow_right (by decide) (by omega)
  rw [Lib.decDigits_length]
  have := nd_le _ _ h2
  omega
set_option maxRecDepth 100000 in
set_option maxHeartbeats 4000000 in
theorem rqText_ok (neg : Bool) (A : Option Addr) (n c : Nat) (A' : Option Addr) (n' c' : Nat) (q : Rat) (w : World) (h : RQR w neg A n c A' n' c' q) (hn : n ≤ 1000000) (hn' : n' ≤ 1000000) :
    Calls Tryz.prog 66 #[.agg #[.bool neg, .slice A n c, .slice A' n' c']] w fun e w' => e = .returned (.string ⟨(ratText q).toArray⟩) ∧ Ext w w' := by
  obtain ⟨hba, e0⟩ := boxes1 w #[.bool neg, .slice A n c, .slice A' n' c'] 51
  have hz := h.2.2.eq_zero
  have hcase : (n' = 0 ∧ q.den = 1) ∨ (0 < n' ∧ q.den ≠ 1 ∧ dk q = q.den) := by
    have hd := q.den_nz
    unfold dk at hz ⊢
    by_cases h1 : q.den = 1
    · rw [if_pos h1] at hz
      exact .inl ⟨hz.2 rfl, h1⟩
    · rw [if_neg h1] at hz ⊢
      exact .inr ⟨by omega, h1, rfl⟩
  have hl1 := rdec_len h.2.1 hn
  have hl2 := rdec_len h.2.2 hn'
  have H := Lib.hid (h)
  have hneg := h.1
  have SG := Lib.hid (show (if q.num < 0 then [45] else ([] : List UInt8)) = if neg then [45] else [] by rw [hneg]; simp)
  clear h hz hneg
  obtain ⟨⟨i0, i1, i2⟩, g0, g1, g2⟩ := hba.three
  have goal : ∀ (s : ByteArray), s.data.toList = ratText q → s = ⟨(ratText q).toArray⟩ := fun s hs => by
    rw [← hs]
  have GOAL := Lib.hid goal
  clear goal
  have key : ∀ b1 : Bool, neg = b1 → Calls Tryz.prog 66 #[.agg #[.bool neg, .slice A n c, .slice A' n' c']] w fun e w' => e = .returned (.string ⟨(ratText q).toArray⟩) ∧ Ext w w' := by
    intro b1 hb1
    subst hb1
    rcases hcase with ⟨rfl, hd⟩ | ⟨zb, hd, hdk⟩
    · have HD := Lib.hid hd
      clear hd
      cases neg
      all_goals
        go_enter Tryz.func66, Tryz.ntmps66
        go_wp2_with fail
        refine (rText_ok A n c q.num.natAbs _ (H.out.2.1.keep e0) hn).mono ?_
        rintro e w1 ⟨rfl, hx1⟩
        have hba := hba.keep hx1
        obtain ⟨⟨i0, i1, i2⟩, g0, g1, g2⟩ := hba.three
        have HX := Lib.hid (e0.tr hx1)
        clear hx1
        go_wp2
        go_ret
        refine ⟨congrArg (fun s => Ending.returned (.string s)) (GOAL.out _ ?_), HX.out⟩
        unfold ratText
        rw [SG.out, HD.out]
        simp [ByteArray.data_append]
    · have HD := Lib.hid hd
      have HDK := Lib.hid hdk
      have zd : decide ((n' : Int) > 0) = true := by simp; omega
      clear hd hdk
      cases neg
      all_goals
        go_enter Tryz.func66, Tryz.ntmps66
        go_wp2_with fail
        refine (rText_ok A n c q.num.natAbs _ (H.out.2.1.keep e0) hn).mono ?_
        rintro e w1 ⟨rfl, hx1⟩
        have hba := hba.keep hx1
        obtain ⟨⟨i0, i1, i2⟩, g0, g1, g2⟩ := hba.three
        have HX := Lib.hid (e0.tr hx1)
        clear hx1
        go_wp2_with fail
        refine (rText_ok A' n' c' (dk q) _ (H.out.2.2.keep HX.out) hn').mono ?_
        rintro e w3 ⟨rfl, hx3⟩
        have HX3 := Lib.hid (HX.out.tr hx3)
        clear hx3
        go_wp2
        go_ret
        refine ⟨congrArg (fun s => Ending.returned (.string s)) (GOAL.out _ ?_), HX3.out⟩
        unfold ratText
        rw [SG.out, if_neg HD.out, HDK.out]
        simp [ByteArray.data_append]
  exact key neg rfl
end Go.Proofs.YtekiomanidimnaaGreatDoor
