/- waypointref02: Neg, Sub, Sign, Cmp. -/
import Derived.Test.YtekiomanidimnaaGreatDoorRqC
set_option linter.unusedVariables false
set_option linter.unusedSimpArgs false

namespace Go.Proofs.YtekiomanidimnaaGreatDoor
open Go.RowKit
theorem neg_mkQ (q : Rat) : mkQ (!decide (q.num < 0)) q.num.natAbs q.den = -q := by
  have h : (if (!decide (q.num < 0)) = true then -(q.num.natAbs : Int) else (q.num.natAbs : Int)) = -q.num := by
    by_cases hn : q.num < 0
    · simp only [hn, decide_true, Bool.not_true, Bool.false_eq_true, if_false]; omega
    · simp only [hn, decide_false, Bool.not_false, if_true]; omega
  unfold mkQ
  rw [h, ← Rat.neg_mkRat, Rat.mkRat_self]
theorem sgn_neg' (q : Rat) : sgnI q < 0 ↔ q < 0 := by
  have h : q.num < 0 ↔ q < 0 := by
    rw [← Int.not_le, Rat.num_nonneg, Rat.not_le]
  unfold sgnI
  split
  · rename_i h0
    rw [← h, h0]
  · split
    · rename_i h1; exact ⟨fun _ => h.1 h1, fun _ => by decide⟩
    · rename_i h1; exact ⟨fun x => by omega, fun x => absurd (h.2 x) h1⟩
theorem sub_cmp (a b : Rat) : sgnI (a - b) = cmpQ a b := by
  unfold cmpQ
  by_cases h : a < b
  · rw [if_pos h]
    have h1 : a - b < 0 := by
      have h2 := (Rat.lt_iff_sub_pos a b).1 h
      rw [← Rat.neg_lt_neg_iff, Rat.neg_sub]
      simpa using h2
    have h3 := (sgn_neg' (a - b)).2 h1
    unfold sgnI at h3 ⊢
    split at h3
    · omega
    · rename_i hz
      rw [if_neg hz]
      split at h3
      · rename_i hn; rw [if_pos hn]
      · omega
  · rw [if_neg h]
    by_cases e : a = b
    · rw [if_pos e, e, Rat.sub_self]; rfl
    · rw [if_neg e]
      have h3 : ¬ sgnI (a - b) < 0 := fun h4 => by
        have h5 := (sgn_neg' (a - b)).1 h4
        apply h
        rw [Rat.lt_iff_sub_pos, ← Rat.neg_lt_neg_iff, Rat.neg_sub]
        simpa using h5
      have h6 : sgnI (a - b) ≠ 0 := fun h4 => e (by
        have := sgnI_zero.1 h4
        rw [Rat.sub_eq_add_neg] at this
        have h7 : a + -b + b = 0 + b := by rw [this]
        rw [Rat.add_assoc, Rat.neg_add_cancel, Rat.add_zero, Rat.zero_add] at h7
        exact h7)
      unfold sgnI at h3 h6 ⊢
      split
      · rename_i hz; rw [if_pos hz] at h6; exact absurd rfl h6
      · rename_i hz
        rw [if_neg hz] at h3
        split
        · rename_i hn; rw [if_pos hn] at h3; omega
        · rfl
theorem neg_num (q : Rat) : (-q).num.natAbs = q.num.natAbs ∧ dk (-q) = dk q := by
  constructor
  · show (-(q.num)).natAbs = _; omega
  · rfl
theorem RQR.lensN {w w' : World} {neg neg2 : Bool} {A A' B B' : Option Addr} {n c n' c' m d m' d' : Nat} {q : Rat} (h : RQR w neg A n c A' n' c' q) (h2 : RQR w' neg2 B m d B' m' d' (-q)) : m ≤ n ∧ m' ≤ n' := by
  obtain ⟨e1, e2⟩ := neg_num q
  refine ⟨h2.2.1.lenOf ?_, h2.2.2.lenOf ?_⟩
  · rw [e1]; exact h.2.1.lt_pow
  · rw [e2]; exact h.2.2.lt_pow
set_option maxRecDepth 100000 in
set_option maxHeartbeats 2000000 in
theorem rqNeg_ok (na : Bool) (A1 : Option Addr) (n1 c1 : Nat) (A1' : Option Addr) (n1' c1' : Nat) (a : Rat) (w : World) (ha : RQR w na A1 n1 c1 A1' n1' c1' a) (l1 : n1 ≤ 200000) (l1' : n1' ≤ 200000) :
    Calls Tryz.prog 106 #[.agg #[.bool na, .slice A1 n1 c1, .slice A1' n1' c1']] w (RQPost w (-a)) := by
  obtain ⟨b0, b1, e0⟩ := boxes2 w #[.bool na, .slice A1 n1 c1, .slice A1' n1' c1'] 51 #[.bool false, .slice none 0 0, .slice none 0 0] 51
  have e0' : Ext w ((w.alloc (.cells #[.bool na, .slice A1 n1 c1, .slice A1' n1' c1'] 51)).alloc (.cells #[.bool false, .slice none 0 0, .slice none 0 0] 51)).drew := e0.drewN 1
  have b0' : Blk ((w.alloc (.cells #[.bool na, .slice A1 n1 c1, .slice A1' n1' c1'] 51)).alloc (.cells #[.bool false, .slice none 0 0, .slice none 0 0] 51)).drew _ _ _ := b0
  have b1' : Blk ((w.alloc (.cells #[.bool na, .slice A1 n1 c1, .slice A1' n1' c1'] 51)).alloc (.cells #[.bool false, .slice none 0 0, .slice none 0 0] 51)).drew _ _ _ := b1
  have hq := neg_mkQ a
  rw [← ha.1] at hq
  have HQ := Lib.hid hq
  have HA := Lib.hid (ha.keep e0')
  have E0 := Lib.hid (e0')
  have BB := Lib.hid (And.intro b0' b1')
  have hden := a.den_pos
  obtain ⟨⟨i0, i1, i2⟩, _⟩ := b0'.three
  clear ha b0 b1 e0 b0' b1' e0' hq
  go_enter Tryz.func106, Tryz.ntmps106
  go_wp2
  go_region_held3 (fun w' => w'.cell? ⟨w.heap.size, 0, none⟩ = some (.bool na) ∧ w'.cell? ⟨w.heap.size, 1, none⟩ = some (.slice A1 n1 c1) ∧ w'.cell? ⟨w.heap.size, 2, none⟩ = some (.slice A1' n1' c1'))
    (first | with_reducible exact ⟨i0, i1, i2⟩ | exact fj _ _ _ | fail)
    (first
      | (go_at_call 134
         refine (rOne_ok na A1 n1 c1 A1' n1' c1' a _ HA.out).mono ?_
         rintro e w3 ⟨A3, n3, c3, rfl, h3, l3, x3⟩
         have B3 := Lib.hid (And.intro (BB.out.1.keep x3) (BB.out.2.keep x3))
         have E3 := Lib.hid (E0.out.tr x3)
         have R3 := Lib.hid (And.intro h3 (HA.out.2.1.keep x3))
         obtain ⟨⟨i0, i1, i2⟩, _⟩ := B3.out.1.three
         clear x3 h3)
      | (go_at_call 115
         refine (rMade_ok (!na) A1 A3 n1 c1 n3 c3 _ _ _ R3.out.2 R3.out.1 (by omega) (by omega) hden).mono ?_
         rintro e w4 ⟨nq, B, m, d, B', m', d', rfl, h4, x4⟩
         rw [HQ.out] at h4
         have B4 := Lib.hid (And.intro (B3.out.1.keep x4) (B3.out.2.keep x4))
         have E4 := Lib.hid (E3.out.tr x4)
         obtain ⟨⟨i0, i1, i2⟩, _⟩ := B4.out.1.three
         obtain ⟨⟨p0, p1, p2⟩, f0, f1, f2⟩ := B4.out.2.three
         obtain ⟨r1, r2⟩ := rq_set3 (w := w) h4 B4.out.2 (by omega) E4.out
         have q3 := ((B4.out.2.set_ 0 (.bool nq)).set_ 1 (.slice B m d)).set_ 2 (.slice B' m' d')
         have RF := Lib.hid (And.intro q3 (And.intro r1 r2))
         have hf := fun u0 u1 u2 => ((B4.out.1.far (p := ⟨w.heap.size + 1, 0, none⟩) (by simp) u0).far (p := ⟨w.heap.size + 1, 1, none⟩) (by simp) u1).far (p := ⟨w.heap.size + 1, 2, none⟩) (by simp) u2
         have fj := fun u0 u1 u2 => And.intro ((hf u0 u1 u2).cell 0) (And.intro ((hf u0 u1 u2).cell 1) ((hf u0 u1 u2).cell 2))
         clear x4 h4 q3 r1 r2)
      | fail)
  go_wp2
  exact bodyPost_ret (v := .agg #[.bool nq, .slice B m d, .slice B' m' d']) (by simp [results, Tryz.results106, go_sem, RF.out.1.cell]) rfl ⟨_, _, _, _, _, _, _, rfl, RF.out.2.1, RF.out.2.2⟩
set_option maxRecDepth 100000 in
set_option maxHeartbeats 2000000 in
theorem rqSign_ok (na : Bool) (A1 : Option Addr) (n1 c1 : Nat) (A1' : Option Addr) (n1' c1' : Nat) (a : Rat) (w : World) (ha : RQR w na A1 n1 c1 A1' n1' c1' a) :
    Calls Tryz.prog 80 #[.agg #[.bool na, .slice A1 n1 c1, .slice A1' n1' c1']] w fun e w' => e = .returned (.int .i64 (sgnI a)) ∧ Ext w w' := by
  obtain ⟨b0, e0⟩ := boxes1 w #[.bool na, .slice A1 n1 c1, .slice A1' n1' c1'] 51
  have hz := ha.2.1.eq_zero
  have hn := ha.1
  obtain ⟨⟨i0, i1, i2⟩, g0, g1, g2⟩ := b0.three
  have E0 := Lib.hid (e0)
  clear e0
  by_cases h0 : n1 = 0
  · have hs : sgnI a = 0 := by unfold sgnI; rw [if_pos (by have := hz.1 h0; omega)]
    rw [hs]
    subst h0
    clear hz hn hs ha
    go_enter Tryz.func80, Tryz.ntmps80
    go_wp2
    go_ret
    exact ⟨rfl, E0.out⟩
  · have zb : ((n1 : Int) == 0) = false := beq_eq_false_iff_ne.2 (by omega)
    have hnz : a.num ≠ 0 := fun h => h0 (hz.2 (by omega))
    cases na
    · have hs : sgnI a = 1 := by
        unfold sgnI; rw [if_neg hnz, if_neg]; intro h; rw [decide_eq_true h] at hn; cases hn
      rw [hs]
      clear hz hn hs ha hnz
      go_enter Tryz.func80, Tryz.ntmps80
      go_wp2
      go_ret
      exact ⟨rfl, E0.out⟩
    · have hs : sgnI a = -1 := by
        unfold sgnI; rw [if_neg hnz, if_pos]; exact of_decide_eq_true hn.symm
      rw [hs]
      clear hz hn hs ha hnz
      go_enter Tryz.func80, Tryz.ntmps80
      go_wp2
      go_ret
      exact ⟨rfl, E0.out⟩
set_option maxRecDepth 100000 in
set_option maxHeartbeats 2000000 in
theorem rqSub_ok (na nb : Bool) (A1 : Option Addr) (n1 c1 : Nat) (A1' : Option Addr) (n1' c1' : Nat) (A2 : Option Addr) (n2 c2 : Nat) (A2' : Option Addr) (n2' c2' : Nat) (a b : Rat) (w : World)
    (ha : RQR w na A1 n1 c1 A1' n1' c1' a) (hb : RQR w nb A2 n2 c2 A2' n2' c2' b) (l1 : n1 ≤ 200000) (l1' : n1' ≤ 200000) (l2 : n2 ≤ 200000) (l2' : n2' ≤ 200000) :
    Calls Tryz.prog 102 #[.agg #[.bool na, .slice A1 n1 c1, .slice A1' n1' c1'], .agg #[.bool nb, .slice A2 n2 c2, .slice A2' n2' c2']] w (RQPost w (a - b)) := by
  obtain ⟨b0, b1, b2, e0⟩ := boxes3 w #[.bool na, .slice A1 n1 c1, .slice A1' n1' c1'] 51 #[.bool nb, .slice A2 n2 c2, .slice A2' n2' c2'] 51 #[.bool false, .slice none 0 0, .slice none 0 0] 51
  have x1 : Ext (((w.alloc (.cells #[.bool na, .slice A1 n1 c1, .slice A1' n1' c1'] 51)).alloc (.cells #[.bool nb, .slice A2 n2 c2, .slice A2' n2' c2'] 51)).alloc (.cells #[.bool false, .slice none 0 0, .slice none 0 0] 51)) (((w.alloc (.cells #[.bool na, .slice A1 n1 c1, .slice A1' n1' c1'] 51)).alloc (.cells #[.bool nb, .slice A2 n2 c2, .slice A2' n2' c2'] 51)).alloc (.cells #[.bool false, .slice none 0 0, .slice none 0 0] 51)).drew := (Ext.refl _).drewN 1
  have HA := Lib.hid (And.intro ((ha.keep e0).keep x1) ((hb.keep e0).keep x1))
  have E0 := Lib.hid (e0.tr x1)
  have BB := Lib.hid (And.intro (b0.keep x1) (And.intro (b1.keep x1) (b2.keep x1)))
  obtain ⟨⟨i0, i1, i2⟩, _⟩ := BB.out.1.three
  obtain ⟨⟨j0, j1, j2⟩, _⟩ := BB.out.2.1.three
  clear ha hb b0 b1 b2 e0 x1
  go_enter Tryz.func102, Tryz.ntmps102
  go_wp2
  go_region_held3 (fun w' => w'.cell? ⟨w.heap.size, 0, none⟩ = some (.bool na) ∧ w'.cell? ⟨w.heap.size, 1, none⟩ = some (.slice A1 n1 c1) ∧ w'.cell? ⟨w.heap.size, 2, none⟩ = some (.slice A1' n1' c1') ∧ w'.cell? ⟨w.heap.size + 1, 0, none⟩ = some (.bool nb) ∧ w'.cell? ⟨w.heap.size + 1, 1, none⟩ = some (.slice A2 n2 c2) ∧ w'.cell? ⟨w.heap.size + 1, 2, none⟩ = some (.slice A2' n2' c2'))
    (first | with_reducible exact ⟨i0, i1, i2, j0, j1, j2⟩ | exact fj _ _ _ | fail)
    (first
      | (go_at_call 106
         refine (rqNeg_ok nb A2 n2 c2 A2' n2' c2' b _ HA.out.2 (by omega) (by omega)).mono ?_
         rintro e w3 ⟨n3, B3, m3, d3, B3', m3', d3', rfl, h3, x3⟩
         have L3 := HA.out.2.lensN h3
         have G3 := Lib.hid (And.intro (BB.out.1.keep x3) (And.intro (BB.out.2.1.keep x3) (BB.out.2.2.keep x3)))
         have E3 := Lib.hid (E0.out.tr x3)
         have R3 := Lib.hid (And.intro h3 (HA.out.1.keep x3))
         obtain ⟨⟨i0, i1, i2⟩, _⟩ := G3.out.1.three
         obtain ⟨⟨j0, j1, j2⟩, _⟩ := G3.out.2.1.three
         clear x3 h3)
      | (go_at_call 78
         refine (rqAdd_ok na n3 A1 n1 c1 A1' n1' c1' B3 m3 d3 B3' m3' d3' a (-b) _ R3.out.2 R3.out.1 (by omega) (by omega) (by omega) (by omega)).mono ?_
         rintro e w4 ⟨nq, B, m, d, B', m', d', rfl, h4, x4⟩
         rw [← Rat.sub_eq_add_neg] at h4
         have G4 := Lib.hid (And.intro (G3.out.1.keep x4) (And.intro (G3.out.2.1.keep x4) (G3.out.2.2.keep x4)))
         have E4 := Lib.hid (E3.out.tr x4)
         obtain ⟨⟨i0, i1, i2⟩, _⟩ := G4.out.1.three
         obtain ⟨⟨j0, j1, j2⟩, _⟩ := G4.out.2.1.three
         obtain ⟨⟨p0, p1, p2⟩, f0, f1, f2⟩ := G4.out.2.2.three
         obtain ⟨r1, r2⟩ := rq_set3 (w := w) h4 G4.out.2.2 (by omega) E4.out
         have q3 := ((G4.out.2.2.set_ 0 (.bool nq)).set_ 1 (.slice B m d)).set_ 2 (.slice B' m' d')
         have RF := Lib.hid (And.intro q3 (And.intro r1 r2))
         have hf := fun u0 u1 u2 => ((G4.out.1.far (p := ⟨w.heap.size + 1 + 1, 0, none⟩) (by simp; omega) u0).far (p := ⟨w.heap.size + 1 + 1, 1, none⟩) (by simp; omega) u1).far (p := ⟨w.heap.size + 1 + 1, 2, none⟩) (by simp; omega) u2
         have hg := fun u0 u1 u2 => ((G4.out.2.1.far (p := ⟨w.heap.size + 1 + 1, 0, none⟩) (by simp) u0).far (p := ⟨w.heap.size + 1 + 1, 1, none⟩) (by simp) u1).far (p := ⟨w.heap.size + 1 + 1, 2, none⟩) (by simp) u2
         have fj := fun u0 u1 u2 => And.intro ((hf u0 u1 u2).cell 0) (And.intro ((hf u0 u1 u2).cell 1) (And.intro ((hf u0 u1 u2).cell 2) (And.intro ((hg u0 u1 u2).cell 0) (And.intro ((hg u0 u1 u2).cell 1) ((hg u0 u1 u2).cell 2)))))
         clear x4 h4 q3 r1 r2)
      | fail)
  go_wp2
  exact bodyPost_ret (v := .agg #[.bool nq, .slice B m d, .slice B' m' d']) (by simp [results, Tryz.results102, go_sem, RF.out.1.cell]) rfl ⟨_, _, _, _, _, _, _, rfl, RF.out.2.1, RF.out.2.2⟩
set_option maxRecDepth 100000 in
set_option maxHeartbeats 2000000 in
theorem rqCmp_ok (na nb : Bool) (A1 : Option Addr) (n1 c1 : Nat) (A1' : Option Addr) (n1' c1' : Nat) (A2 : Option Addr) (n2 c2 : Nat) (A2' : Option Addr) (n2' c2' : Nat) (a b : Rat) (w : World)
    (ha : RQR w na A1 n1 c1 A1' n1' c1' a) (hb : RQR w nb A2 n2 c2 A2' n2' c2' b) (l1 : n1 ≤ 200000) (l1' : n1' ≤ 200000) (l2 : n2 ≤ 200000) (l2' : n2' ≤ 200000) :
    Calls Tryz.prog 85 #[.agg #[.bool na, .slice A1 n1 c1, .slice A1' n1' c1'], .agg #[.bool nb, .slice A2 n2 c2, .slice A2' n2' c2']] w fun e w' => e = .returned (.int .i64 (cmpQ a b)) ∧ Ext w w' := by
  obtain ⟨b0, b1, e0⟩ := boxes2 w #[.bool na, .slice A1 n1 c1, .slice A1' n1' c1'] 51 #[.bool nb, .slice A2 n2 c2, .slice A2' n2' c2'] 51
  have HA := Lib.hid (And.intro (ha.keep e0) (hb.keep e0))
  obtain ⟨⟨i0, i1, i2⟩, _⟩ := b0.three
  obtain ⟨⟨j0, j1, j2⟩, _⟩ := b1.three
  have E0 := Lib.hid (e0)
  clear ha hb b0 b1 e0
  rw [← sub_cmp]
  go_enter Tryz.func85, Tryz.ntmps85
  go_wp2_with fail
  refine (rqSub_ok na nb A1 n1 c1 A1' n1' c1' A2 n2 c2 A2' n2' c2' a b _ HA.out.1 HA.out.2 l1 l1' l2 l2').mono ?_
  rintro e w3 ⟨n3, B3, m3, d3, B3', m3', d3', rfl, h3, x3⟩
  have E3 := Lib.hid (E0.out.tr x3)
  have R3 := Lib.hid h3
  clear x3 h3
  go_wp2_with fail
  refine (rqSign_ok n3 B3 m3 d3 B3' m3' d3' (a - b) _ R3.out).mono ?_
  rintro e w4 ⟨rfl, x4⟩
  have E4 := Lib.hid (E3.out.tr x4)
  clear x4
  go_wp2
  go_ret
  exact ⟨rfl, E4.out⟩
end Go.Proofs.YtekiomanidimnaaGreatDoor
