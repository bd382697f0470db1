/- waypointref02: rational numbers of the reference in memory; Make, made. -/
import Derived.Test.YtekiomanidimnaaGreatDoorGrpG
import Derived.Test.YtekiomanidimnaaGreatDoorMK
set_option linter.unusedVariables false
set_option linter.unusedSimpArgs false

namespace Go.Proofs.YtekiomanidimnaaGreatDoor
open Go.RowKit
/-- The struct's cells are the number q. -/
def RQR (w : World) (neg : Bool) (A : Option Addr) (n c : Nat) (A' : Option Addr) (n' c' : Nat) (q : Rat) : Prop :=
  neg = decide (q.num < 0) ∧ GrpR w A n c q.num.natAbs ∧ GrpR w A' n' c' (dk q)
theorem GrpR.other {w w' : World} {A : Option Addr} {n c N g : Nat} {t' : TypeId} {cs' : Array Value} (h : GrpR w A n c N) (hg : w.grownBy w' (some g)) (hb : Blk w g t' cs') (hne : 3 ≠ t') : GrpR w' A n c N := by
  obtain ⟨ds, h1, h2, h3, h4, h5⟩ := h
  exact ⟨ds, h1, h2, h3, h4, h5.other hg hb hne⟩
section
variable {w w' : World} {neg : Bool} {A : Option Addr} {n c : Nat} {A' : Option Addr} {n' c' : Nat} {q : Rat}
theorem RQR.keep (h : RQR w neg A n c A' n' c' q) (hb : Ext w w') : RQR w' neg A n c A' n' c' q := ⟨h.1, h.2.1.keep hb, h.2.2.keep hb⟩
theorem RQR.other (h : RQR w neg A n c A' n' c' q) {g : Nat} {t' : TypeId} {cs' : Array Value} (hg : w.grownBy w' (some g)) (hb : Blk w g t' cs') (hne : 3 ≠ t') : RQR w' neg A n c A' n' c' q :=
  ⟨h.1, h.2.1.other hg hb hne, h.2.2.other hg hb hne⟩
end
def RQPost (w : World) (q : Rat) (e : Ending) (w' : World) : Prop :=
  ∃ (neg : Bool) (A : Option Addr) (n c : Nat) (A' : Option Addr) (n' c' : Nat), e = .returned (.agg #[.bool neg, .slice A n c, .slice A' n' c']) ∧ RQR w' neg A n c A' n' c' q ∧ Ext w w'
theorem GrpR.one {w : World} {A : Option Addr} {n c : Nat} (h : GrpR w A n c 1) : n = 1 ∧ ∃ b o : Nat, A = some ⟨b, o, none⟩ ∧ b < w.heap.size ∧ w.cell? ⟨b, o, none⟩ = some (.int .i64 1) := by
  obtain ⟨ds, hl, _, hcan, hv, hr⟩ := h
  have e : ds = [1] := Dig.Canon.unique G6_gt hcan ⟨by simp [G6], by simp⟩ (by rw [hv]; simp [Dig.val])
  subst e
  obtain ⟨b, o, e, hb, hc⟩ := hr.rd.ints (k := 0) (by simp)
  exact ⟨by simpa using hl.symm, b, o, e, hb, (hc 0 (by simp)).trans (by simp)⟩
theorem GrpR.notone {w : World} {A : Option Addr} {c N : Nat} (h : GrpR w A 1 c N) (hN : N ≠ 1) : ∃ b o d : Nat, A = some ⟨b, o, none⟩ ∧ b < w.heap.size ∧ w.cell? ⟨b, o, none⟩ = some (.int .i64 (d : Int)) ∧ ((d : Int) == 1) = false := by
  obtain ⟨ds, hl, _, hcan, hv, hr⟩ := h
  obtain ⟨d, rfl⟩ : ∃ d, ds = [d] := by
    match ds, hl with
    | [d], _ => exact ⟨d, rfl⟩
  obtain ⟨b, o, e, hb, hc⟩ := hr.rd.ints (k := 0) (by simp)
  refine ⟨b, o, d, e, hb, (hc 0 (by simp)).trans (by simp), ?_⟩
  simp [Dig.val] at hv
  exact beq_eq_false_iff_ne.2 (by omega)
theorem mkQ_dk (neg : Bool) {n d : Nat} (hd : d ≠ 0) : dk (mkQ neg n d) = if d / n.gcd d = 1 then 0 else d / n.gcd d := by
  unfold dk; rw [mkQ_den neg hd]
theorem mk_fin {w W : World} {neg : Bool} {N D : Nat} {A A' : Option Addr} {n c n' c' g : Nat} {cs : Array Value} (hD : D ≠ 0) (nb : Bool) (hn : nb = (neg && N != 0)) (h1 : GrpR W A n c (N / N.gcd D)) (h2 : GrpR W A' n' c' (if D / N.gcd D = 1 then 0 else D / N.gcd D))
    (hb : Blk W g 51 cs) (hg : w.heap.size ≤ g) (hx : Ext w W) :
    RQR (((W.setCell ⟨g, 0, none⟩ (.bool nb)).setCell ⟨g, 1, none⟩ (.slice A n c)).setCell ⟨g, 2, none⟩ (.slice A' n' c')) nb A n c A' n' c' (mkQ neg N D) ∧ Ext w (((W.setCell ⟨g, 0, none⟩ (.bool nb)).setCell ⟨g, 1, none⟩ (.slice A n c)).setCell ⟨g, 2, none⟩ (.slice A' n' c')) := by
  refine ⟨RQR.other (w := W) ⟨by rw [mkQ_neg neg hD, hn], by rw [mkQ_abs neg hD]; exact h1, by rw [mkQ_dk neg hD]; exact h2⟩ (set3_grown W g _ _ _) hb (by decide), ?_⟩
  exact ((hx.set_ (p := ⟨g, 0, none⟩) hg _).set_ (p := ⟨g, 1, none⟩) hg _).set_ (p := ⟨g, 2, none⟩) hg _
set_option maxRecDepth 100000 in
set_option maxHeartbeats 4000000 in
theorem rMake_ok (neg : Bool) (A1 A2 : Option Addr) (n1 c1 n2 c2 N D : Nat) (w : World) (h1 : GrpR w A1 n1 c1 N) (h2 : GrpR w A2 n2 c2 D) (hn1 : n1 ≤ 1000000) (hn2 : n2 ≤ 1000000) (hD : 0 < D) :
    Calls Tryz.prog 142 #[.bool neg, .slice A1 n1 c1, .slice A2 n2 c2] w fun e w' => ∃ (nb : Bool) (A : Option Addr) (n c : Nat) (A' : Option Addr) (n' c' : Nat), e = .returned (.tuple #[.agg #[.bool nb, .slice A n c, .slice A' n' c'], .int .i64 0]) ∧ RQR w' nb A n c A' n' c' (mkQ neg N D) ∧ Ext w w' := by
  obtain ⟨b0, e0⟩ := boxes1 w #[.bool false, .slice none 0 0, .slice none 0 0] 51
  have z2 : ((n2 : Int) == 0) = false := by
    have := h2.eq_zero
    exact beq_eq_false_iff_ne.2 (by omega)
  have H1 := Lib.hid (h1.keep e0)
  have H2 := Lib.hid (h2.keep e0)
  have hg0 : 0 < N.gcd D := Nat.gcd_pos_of_pos_right N hD
  have hgD : N.gcd D ≤ D := Nat.le_of_dvd hD (Nat.gcd_dvd_right N D)
  have G := Lib.hid (And.intro hg0 hgD)
  have B0 := Lib.hid (b0)
  have E0 := Lib.hid (e0)
  clear h1 h2 b0 e0 hg0 hgD
  go_enter Tryz.func142, Tryz.ntmps142
  go_wp2_with fail
  refine (rGCD_ok A1 A2 n1 c1 n2 c2 N D _ H1.out H2.out hn1 hn2).mono ?_
  rintro e w1 ⟨A3, n3, c3, rfl, h3, x1⟩
  have hn3 : n3 ≤ n2 := h3.lenOf (Nat.lt_of_le_of_lt G.out.2 H2.out.lt_pow)
  have H3 := Lib.hid (And.intro h3 (And.intro (H1.out.keep x1) (H2.out.keep x1)))
  have B1 := Lib.hid (B0.out.keep x1)
  have E1 := Lib.hid (E0.out.tr x1)
  clear h3 x1 B0 E0 H1 H2
  go_wp2_with fail
  refine (rDivMod_ok A1 A3 n1 c1 n3 c3 N _ _ H3.out.2.1 H3.out.1 (by omega) (by omega) G.out.1).mono ?_
  rintro e w2 ⟨A4, n4, c4, A5, n5, c5, rfl, h4, h5, x2⟩
  have H4 := Lib.hid (And.intro h4 (And.intro (H3.out.1.keep x2) (H3.out.2.2.keep x2)))
  have B2 := Lib.hid (B1.out.keep x2)
  have E2 := Lib.hid (E1.out.tr x2)
  clear h4 h5 x2 H3 B1 E1
  go_wp2_with fail
  refine (rDivMod_ok A2 A3 n2 c2 n3 c3 D _ _ H4.out.2.2 H4.out.2.1 (by omega) (by omega) G.out.1).mono ?_
  rintro e w3 ⟨A6, n6, c6, A7, n7, c7, rfl, h6, h7, x3⟩
  have hz4 := (H4.out.1.keep x3).eq_zero
  have H6 := Lib.hid (And.intro (H4.out.1.keep x3) h6)
  have B3 := Lib.hid (B2.out.keep x3)
  have E3 := Lib.hid (E2.out.tr x3)
  obtain ⟨⟨i0, i1, i2⟩, f0, f1, f2⟩ := B3.out.three
  have hNz : N / N.gcd D = 0 ↔ N = 0 := by
    constructor
    · intro h
      rcases Nat.eq_zero_or_pos N with h0 | h0
      · exact h0
      · have := Nat.div_pos (Nat.le_of_dvd h0 (Nat.gcd_dvd_left N D)) G.out.1; omega
    · intro h; rw [h]; simp
  have HZ4 := Lib.hid hz4
  have HNZ := Lib.hid hNz
  clear h6 h7 x3 H4 B2 E2 hz4 hNz
  by_cases hd1 : D / N.gcd D = 1
  · obtain ⟨rfl, bb, oo, rfl, hbb, hcc⟩ : n6 = 1 ∧ ∃ b o : Nat, A6 = some ⟨b, o, none⟩ ∧ b < w3.heap.size ∧ w3.cell? ⟨b, o, none⟩ = some (.int .i64 1) := by
      have h := H6.out.2
      rw [hd1] at h
      exact h.one
    have HD1 := Lib.hid hd1
    have DD := Lib.hid (show GrpR w3 none 0 0 (if D / N.gcd D = 1 then 0 else D / N.gcd D) from by rw [if_pos hd1]; exact GrpR.zero _ _ _)
    clear hd1
    by_cases hN0 : N = 0
    · obtain rfl : n4 = 0 := HZ4.out.2 (HNZ.out.2 hN0)
      obtain ⟨r1, r2⟩ := mk_fin (w := w) (neg := neg) (N := N) (D := D) (g := w.heap.size) (by omega) false (by rw [hN0]; simp) (by rw [HNZ.out.2 hN0]; exact GrpR.zero w3 none 0) DD.out B3.out (Nat.le_refl _) E3.out
      have q3 := ((B3.out.set_ 0 (.bool false)).set_ 1 (.slice none 0 0)).set_ 2 (.slice none 0 0)
      have RF := Lib.hid (And.intro q3 (And.intro r1 r2))
      clear q3 r1 r2 hN0
      go_wp2
      exact bodyPost_ret (v := .tuple #[.agg #[.bool false, .slice none 0 0, .slice none 0 0], .int .i64 0]) (by simp [results, Tryz.results142, go_sem, RF.out.1.cell]) rfl ⟨_, _, _, _, _, _, _, rfl, RF.out.2.1, RF.out.2.2⟩
    · have zn : ((n4 : Int) == 0) = false := beq_eq_false_iff_ne.2 (fun h => hN0 (HNZ.out.1 (HZ4.out.1 (by omega))))
      obtain ⟨r1, r2⟩ := mk_fin (w := w) (neg := neg) (N := N) (D := D) (g := w.heap.size) (by omega) neg (by simp [hN0]) H6.out.1 DD.out B3.out (Nat.le_refl _) E3.out
      have q3 := ((B3.out.set_ 0 (.bool neg)).set_ 1 (.slice A4 n4 c4)).set_ 2 (.slice none 0 0)
      have RF := Lib.hid (And.intro q3 (And.intro r1 r2))
      clear q3 r1 r2 hN0
      go_wp2
      exact bodyPost_ret (v := .tuple #[.agg #[.bool neg, .slice A4 n4 c4, .slice none 0 0], .int .i64 0]) (by simp [results, Tryz.results142, go_sem, RF.out.1.cell]) rfl ⟨_, _, _, _, _, _, _, rfl, RF.out.2.1, RF.out.2.2⟩
  · have DD := Lib.hid (show GrpR w3 A6 n6 c6 (if D / N.gcd D = 1 then 0 else D / N.gcd D) from by rw [if_neg hd1]; exact H6.out.2)
    by_cases hn6 : n6 = 1
    · subst hn6
      obtain ⟨bb, oo, dd, rfl, hbb, hcc, hdd⟩ := H6.out.2.notone hd1
      clear hd1
      by_cases hN0 : N = 0
      · obtain rfl : n4 = 0 := HZ4.out.2 (HNZ.out.2 hN0)
        obtain ⟨r1, r2⟩ := mk_fin (w := w) (neg := neg) (N := N) (D := D) (g := w.heap.size) (by omega) false (by rw [hN0]; simp) (by rw [HNZ.out.2 hN0]; exact GrpR.zero w3 none 0) DD.out B3.out (Nat.le_refl _) E3.out
        have q3 := ((B3.out.set_ 0 (.bool false)).set_ 1 (.slice none 0 0)).set_ 2 (.slice (some ⟨bb, oo, none⟩) 1 c6)
        have RF := Lib.hid (And.intro q3 (And.intro r1 r2))
        clear q3 r1 r2 hN0
        go_wp2
        exact bodyPost_ret (v := .tuple #[.agg #[.bool false, .slice none 0 0, .slice (some ⟨bb, oo, none⟩) 1 c6], .int .i64 0]) (by simp [results, Tryz.results142, go_sem, RF.out.1.cell]) rfl ⟨_, _, _, _, _, _, _, rfl, RF.out.2.1, RF.out.2.2⟩
      · have zn : ((n4 : Int) == 0) = false := beq_eq_false_iff_ne.2 (fun h => hN0 (HNZ.out.1 (HZ4.out.1 (by omega))))
        obtain ⟨r1, r2⟩ := mk_fin (w := w) (neg := neg) (N := N) (D := D) (g := w.heap.size) (by omega) neg (by simp [hN0]) H6.out.1 DD.out B3.out (Nat.le_refl _) E3.out
        have q3 := ((B3.out.set_ 0 (.bool neg)).set_ 1 (.slice A4 n4 c4)).set_ 2 (.slice (some ⟨bb, oo, none⟩) 1 c6)
        have RF := Lib.hid (And.intro q3 (And.intro r1 r2))
        clear q3 r1 r2 hN0
        go_wp2
        exact bodyPost_ret (v := .tuple #[.agg #[.bool neg, .slice A4 n4 c4, .slice (some ⟨bb, oo, none⟩) 1 c6], .int .i64 0]) (by simp [results, Tryz.results142, go_sem, RF.out.1.cell]) rfl ⟨_, _, _, _, _, _, _, rfl, RF.out.2.1, RF.out.2.2⟩
    · have hn6b : ((n6 : Int) == 1) = false := beq_eq_false_iff_ne.2 (by omega)
      clear hd1 hn6
      by_cases hN0 : N = 0
      · obtain rfl : n4 = 0 := HZ4.out.2 (HNZ.out.2 hN0)
        obtain ⟨r1, r2⟩ := mk_fin (w := w) (neg := neg) (N := N) (D := D) (g := w.heap.size) (by omega) false (by rw [hN0]; simp) (by rw [HNZ.out.2 hN0]; exact GrpR.zero w3 none 0) DD.out B3.out (Nat.le_refl _) E3.out
        have q3 := ((B3.out.set_ 0 (.bool false)).set_ 1 (.slice none 0 0)).set_ 2 (.slice A6 n6 c6)
        have RF := Lib.hid (And.intro q3 (And.intro r1 r2))
        clear q3 r1 r2 hN0
        go_wp2
        exact bodyPost_ret (v := .tuple #[.agg #[.bool false, .slice none 0 0, .slice A6 n6 c6], .int .i64 0]) (by simp [results, Tryz.results142, go_sem, RF.out.1.cell]) rfl ⟨_, _, _, _, _, _, _, rfl, RF.out.2.1, RF.out.2.2⟩
      · have zn : ((n4 : Int) == 0) = false := beq_eq_false_iff_ne.2 (fun h => hN0 (HNZ.out.1 (HZ4.out.1 (by omega))))
        obtain ⟨r1, r2⟩ := mk_fin (w := w) (neg := neg) (N := N) (D := D) (g := w.heap.size) (by omega) neg (by simp [hN0]) H6.out.1 DD.out B3.out (Nat.le_refl _) E3.out
        have q3 := ((B3.out.set_ 0 (.bool neg)).set_ 1 (.slice A4 n4 c4)).set_ 2 (.slice A6 n6 c6)
        have RF := Lib.hid (And.intro q3 (And.intro r1 r2))
        clear q3 r1 r2 hN0
        go_wp2
        exact bodyPost_ret (v := .tuple #[.agg #[.bool neg, .slice A4 n4 c4, .slice A6 n6 c6], .int .i64 0]) (by simp [results, Tryz.results142, go_sem, RF.out.1.cell]) rfl ⟨_, _, _, _, _, _, _, rfl, RF.out.2.1, RF.out.2.2⟩
end Go.Proofs.YtekiomanidimnaaGreatDoor
