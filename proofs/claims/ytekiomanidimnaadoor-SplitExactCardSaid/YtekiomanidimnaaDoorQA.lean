/- rational: Neg, Sub, Num, Div, Floor of a number that is not negative. -/
import Derived.Test.YtekiomanidimnaaDoorMul
import Derived.Test.YtekiomanidimnaaDoorMS
set_option linter.unusedVariables false
set_option linter.unusedSimpArgs false

namespace Go.Proofs.YtekiomanidimnaaDoor
open Go.RowKit
theorem div_mkQ (a b : Rat) (h : b ≠ 0) : a / b = mkQ (decide (a.num < 0) != decide (b.num < 0)) (a.num.natAbs * b.den) (b.num.natAbs * a.den) := by
  have hn : b.num ≠ 0 := fun e => h (Rat.num_eq_zero.1 e)
  have h1 : (b⁻¹).num.natAbs = b.den := by
    rw [Rat.num_inv, Int.natAbs_mul, Int.natAbs_sign_of_ne_zero hn]
    simp
  have h2 : (b⁻¹).den = b.num.natAbs := by rw [Rat.den_inv, if_neg hn]
  have h3 : decide ((b⁻¹).num < 0) = decide (b.num < 0) := by
    rw [Rat.num_inv]
    have hd := b.den_pos
    rcases Int.lt_or_gt_of_ne hn with x | x
    · rw [Int.sign_eq_neg_one_of_neg x]
      simp [x]; omega
    · rw [Int.sign_eq_one_of_pos x]
      simp; omega
  rw [Rat.div_def, mul_mkQ, h1, h2, h3, Nat.mul_comm a.den]
theorem neg_dec (q : Rat) (h : q ≠ 0) : (!decide (q.num < 0)) = decide ((-q).num < 0) := by
  have hn : q.num ≠ 0 := fun e => h (Rat.num_eq_zero.1 e)
  have : (-q).num = -q.num := rfl
  rw [this]
  rcases Int.lt_or_gt_of_ne hn with x | x
  · rw [decide_eq_true x, decide_eq_false (by omega)]; rfl
  · rw [decide_eq_false (by omega), decide_eq_true (by omega)]; rfl
theorem RatR.neg {w : World} {neg : Bool} {A : Option Addr} {n c : Nat} {A' : Option Addr} {n' c' : Nat} {q : Rat} (h : RatR w neg A n c A' n' c' q) (h0 : q ≠ 0) : RatR w (!neg) A n c A' n' c' (-q) := by
  refine ⟨?_, ?_, h.2.2⟩
  · rw [h.1]; exact neg_dec q h0
  · have : (-q).num.natAbs = q.num.natAbs := by show (-(q.num)).natAbs = _; omega
    rw [this]; exact h.2.1
set_option maxRecDepth 100000 in
set_option maxHeartbeats 2000000 in
theorem ratNeg_any (na : Bool) (A1 : Option Addr) (n1 c1 : Nat) (A1' : Option Addr) (n1' c1' : Nat) (a : Rat) (w : World) (ha : RatR w na A1 n1 c1 A1' n1' c1' a) :
    Calls Tryd.prog 29 #[.agg #[.bool na, .slice A1 n1 c1, .slice A1' n1' c1']] w fun e w' => ∃ nb, e = .returned (.agg #[.bool nb, .slice A1 n1 c1, .slice A1' n1' c1']) ∧ RatR w' nb A1 n1 c1 A1' n1' c1' (-a) ∧ Ext w w' := by
  obtain ⟨hba, hbr, e0⟩ := boxes2 w #[.bool na, .slice A1 n1 c1, .slice A1' n1' c1'] 29 #[.bool false, .slice none 0 0, .slice none 0 0] 29
  have HA := Lib.hid ha
  by_cases h0 : a = 0
  · have hs : sgnI a = 0 := sgnI_zero.2 h0
    have HN := Lib.hid (show -a = a by rw [h0]; rfl)
    have HS := Lib.hid hs
    clear ha h0 hs
    go_enter Tryd.func29, Tryd.ntmps29
    go_wp2_with fail
    refine (sign_any na A1 n1 c1 A1' n1' c1' a _ (HA.out.keep e0)).mono ?_
    rintro e w1 ⟨rfl, hx1⟩
    rw [HS.out]
    have hba := hba.keep hx1
    have hbr := hbr.keep hx1
    obtain ⟨⟨i0, i1, i2⟩, h0, h1, h2⟩ := hba.three
    obtain ⟨⟨k0, k1, k2⟩, f0, f1, f2⟩ := hbr.three
    have E1 := Lib.hid (e0.tr hx1)
    clear hx1 e0
    go_wp2
    refine bodyPost_ret (v := .agg #[.bool na, .slice A1 n1 c1, .slice A1' n1' c1']) (by simp [results, Tryd.results29, go_sem, (((hbr.set_ 0 _).set_ 1 _).set_ 2 _).cell]) rfl ?_
    obtain ⟨q1, q2⟩ := rat_set3 (w := w) (HA.out.keep E1.out) hbr (by omega) E1.out
    exact ⟨na, rfl, by rw [HN.out]; exact q1, q2⟩
  · have hs : (sgnI a == 0) = false := beq_eq_false_iff_ne.2 (fun h => h0 (sgnI_zero.1 h))
    have HN := Lib.hid (ha.neg h0)
    clear ha h0
    go_enter Tryd.func29, Tryd.ntmps29
    go_wp2_with fail
    refine (sign_any na A1 n1 c1 A1' n1' c1' a _ (HA.out.keep e0)).mono ?_
    rintro e w1 ⟨rfl, hx1⟩
    generalize sgnI a = sa at *
    have hba := hba.keep hx1
    have hbr := hbr.keep hx1
    obtain ⟨⟨i0, i1, i2⟩, h0, h1, h2⟩ := hba.three
    obtain ⟨⟨k0, k1, k2⟩, f0, f1, f2⟩ := hbr.three
    have E1 := Lib.hid (e0.tr hx1)
    clear hx1 e0
    go_wp2
    refine bodyPost_ret (v := .agg #[.bool (!na), .slice A1 n1 c1, .slice A1' n1' c1']) (by simp [results, Tryd.results29, go_sem, (((hbr.set_ 0 _).set_ 1 _).set_ 2 _).cell]) rfl ?_
    obtain ⟨q1, q2⟩ := rat_set3 (w := w) (HN.out.keep E1.out) hbr (by omega) E1.out
    exact ⟨!na, rfl, q1, q2⟩
set_option maxRecDepth 100000 in
set_option maxHeartbeats 2000000 in
theorem ratNum_any (na : Bool) (A1 : Option Addr) (n1 c1 : Nat) (A1' : Option Addr) (n1' c1' : Nat) (w : World) :
    Calls Tryd.prog 26 #[.agg #[.bool na, .slice A1 n1 c1, .slice A1' n1' c1']] w fun e w' => e = .returned (.agg #[.slice A1 n1 c1]) ∧ Ext w w' := by
  obtain ⟨hba, hbr, e0⟩ := boxes2 w #[.bool na, .slice A1 n1 c1, .slice A1' n1' c1'] 29 #[.slice none 0 0] 27
  obtain ⟨⟨i0, i1, i2⟩, h0, h1, h2⟩ := hba.three
  obtain ⟨k, f⟩ := hbr.one
  have E0 := Lib.hid e0
  clear e0
  go_enter Tryd.func26, Tryd.ntmps26
  go_wp2
  refine bodyPost_ret (v := .agg #[.slice A1 n1 c1]) (by simp [results, Tryd.results26, go_sem, (hbr.set_ 0 _).cell]) rfl ?_
  exact ⟨rfl, ((Ext.refl w).alloc _).alloc _⟩
set_option maxRecDepth 100000 in
set_option maxHeartbeats 2000000 in
theorem ratSub_any (na nb : Bool) (A1 : Option Addr) (n1 c1 : Nat) (A1' : Option Addr) (n1' c1' : Nat) (A2 : Option Addr) (n2 c2 : Nat) (A2' : Option Addr) (n2' c2' : Nat) (a b : Rat) (w : World)
    (ha : RatR w na A1 n1 c1 A1' n1' c1' a) (hb : RatR w nb A2 n2 c2 A2' n2' c2' b) (l1 : n1 ≤ 134217728) (l1' : n1' ≤ 134217728) (l2 : n2 ≤ 134217728) (l2' : n2' ≤ 134217728) :
    Calls Tryd.prog 27 #[.agg #[.bool na, .slice A1 n1 c1, .slice A1' n1' c1'], .agg #[.bool nb, .slice A2 n2 c2, .slice A2' n2' c2']] w (RatPost w (a - b)) := by
  obtain ⟨b0, b1, b2, e0⟩ := boxes3 w #[.bool na, .slice A1 n1 c1, .slice A1' n1' c1'] 29 #[.bool nb, .slice A2 n2 c2, .slice A2' n2' c2'] 29 #[.bool false, .slice none 0 0, .slice none 0 0] 29
  have x1 : Ext (((w.alloc (.cells #[.bool na, .slice A1 n1 c1, .slice A1' n1' c1'] 29)).alloc (.cells #[.bool nb, .slice A2 n2 c2, .slice A2' n2' c2'] 29)).alloc (.cells #[.bool false, .slice none 0 0, .slice none 0 0] 29)) (((w.alloc (.cells #[.bool na, .slice A1 n1 c1, .slice A1' n1' c1'] 29)).alloc (.cells #[.bool nb, .slice A2 n2 c2, .slice A2' n2' c2'] 29)).alloc (.cells #[.bool false, .slice none 0 0, .slice none 0 0] 29)).drew := (Ext.refl _).drewN 1
  have HA := Lib.hid (And.intro ((ha.keep e0).keep x1) ((hb.keep e0).keep x1))
  have E0 := Lib.hid (e0.tr x1)
  have BB := Lib.hid (And.intro (b0.keep x1) (And.intro (b1.keep x1) (b2.keep x1)))
  obtain ⟨⟨i0, i1, i2⟩, _⟩ := BB.out.1.three
  obtain ⟨⟨j0, j1, j2⟩, _⟩ := BB.out.2.1.three
  clear ha hb b0 b1 b2 e0 x1
  go_enter Tryd.func27, Tryd.ntmps27
  go_wp2
  go_region_held3 (fun w' => w'.cell? ⟨w.heap.size, 0, none⟩ = some (.bool na) ∧ w'.cell? ⟨w.heap.size, 1, none⟩ = some (.slice A1 n1 c1) ∧ w'.cell? ⟨w.heap.size, 2, none⟩ = some (.slice A1' n1' c1') ∧ w'.cell? ⟨w.heap.size + 1, 0, none⟩ = some (.bool nb) ∧ w'.cell? ⟨w.heap.size + 1, 1, none⟩ = some (.slice A2 n2 c2) ∧ w'.cell? ⟨w.heap.size + 1, 2, none⟩ = some (.slice A2' n2' c2'))
    (first | with_reducible exact ⟨i0, i1, i2, j0, j1, j2⟩ | exact fj _ _ _ | fail)
    (first
      | (go_at_call 29
         refine (ratNeg_any nb A2 n2 c2 A2' n2' c2' b _ HA.out.2).mono ?_
         rintro e w3 ⟨n3, rfl, h3, x3⟩
         have G3 := Lib.hid (And.intro (BB.out.1.keep x3) (And.intro (BB.out.2.1.keep x3) (BB.out.2.2.keep x3)))
         have E3 := Lib.hid (E0.out.tr x3)
         have R3 := Lib.hid (And.intro h3 (HA.out.1.keep x3))
         obtain ⟨⟨i0, i1, i2⟩, _⟩ := G3.out.1.three
         obtain ⟨⟨j0, j1, j2⟩, _⟩ := G3.out.2.1.three
         clear x3 h3)
      | (go_at_call 38
         refine (ratAdd_any na n3 A1 n1 c1 A1' n1' c1' A2 n2 c2 A2' n2' c2' a (-b) _ R3.out.2 R3.out.1 (by omega) (by omega) (by omega) (by omega) (reducedAt_all (Nat.mul_ne_zero (Rat.den_nz _) (Rat.den_nz _)))).mono ?_
         rintro e w4 ⟨nq, B, m, d, B', m', d', rfl, h4, x4⟩
         rw [← Rat.sub_eq_add_neg] at h4
         have G4 := Lib.hid (And.intro (G3.out.1.keep x4) (And.intro (G3.out.2.1.keep x4) (G3.out.2.2.keep x4)))
         have E4 := Lib.hid (E3.out.tr x4)
         obtain ⟨⟨i0, i1, i2⟩, _⟩ := G4.out.1.three
         obtain ⟨⟨j0, j1, j2⟩, _⟩ := G4.out.2.1.three
         obtain ⟨⟨p0, p1, p2⟩, f0, f1, f2⟩ := G4.out.2.2.three
         obtain ⟨r1, r2⟩ := rat_set3 (w := w) h4 G4.out.2.2 (by omega) E4.out
         have q3 := ((G4.out.2.2.set_ 0 (.bool nq)).set_ 1 (.slice B m d)).set_ 2 (.slice B' m' d')
         have RF := Lib.hid (And.intro q3 (And.intro r1 r2))
         have hf := fun u0 u1 u2 => ((G4.out.1.far (p := ⟨w.heap.size + 1 + 1, 0, none⟩) (by simp; omega) u0).far (p := ⟨w.heap.size + 1 + 1, 1, none⟩) (by simp; omega) u1).far (p := ⟨w.heap.size + 1 + 1, 2, none⟩) (by simp; omega) u2
         have hg := fun u0 u1 u2 => ((G4.out.2.1.far (p := ⟨w.heap.size + 1 + 1, 0, none⟩) (by simp) u0).far (p := ⟨w.heap.size + 1 + 1, 1, none⟩) (by simp) u1).far (p := ⟨w.heap.size + 1 + 1, 2, none⟩) (by simp) u2
         have fj := fun u0 u1 u2 => And.intro ((hf u0 u1 u2).cell 0) (And.intro ((hf u0 u1 u2).cell 1) (And.intro ((hf u0 u1 u2).cell 2) (And.intro ((hg u0 u1 u2).cell 0) (And.intro ((hg u0 u1 u2).cell 1) ((hg u0 u1 u2).cell 2)))))
         clear x4 h4 q3 r1 r2)
      | fail)
  go_wp2
  exact bodyPost_ret (v := .agg #[.bool nq, .slice B m d, .slice B' m' d']) (by simp [results, Tryd.results27, go_sem, RF.out.1.cell]) rfl ⟨_, _, _, _, _, _, _, rfl, RF.out.2.1, RF.out.2.2⟩
/-- A quotient and no error. -/
def QuoPost (w : World) (q : Rat) (e : Ending) (w' : World) : Prop :=
  ∃ (neg : Bool) (A : Option Addr) (n c : Nat) (A' : Option Addr) (n' c' : Nat), e = .returned (.tuple #[.agg #[.bool neg, .slice A n c, .slice A' n' c'], .int .i64 0]) ∧ RatR w' neg A n c A' n' c' q ∧ Ext w w'
set_option maxRecDepth 100000 in
set_option maxHeartbeats 4000000 in
theorem ratDiv_any (na nb : Bool) (A1 : Option Addr) (n1 c1 : Nat) (A1' : Option Addr) (n1' c1' : Nat) (A2 : Option Addr) (n2 c2 : Nat) (A2' : Option Addr) (n2' c2' : Nat) (a b : Rat) (w : World)
    (ha : RatR w na A1 n1 c1 A1' n1' c1' a) (hb : RatR w nb A2 n2 c2 A2' n2' c2' b) (hb0 : b ≠ 0) (l1 : n1 ≤ 134217728) (l1' : n1' ≤ 134217728) (l2 : n2 ≤ 134217728) (l2' : n2' ≤ 134217728) :
    Calls Tryd.prog 22 #[.agg #[.bool na, .slice A1 n1 c1, .slice A1' n1' c1'], .agg #[.bool nb, .slice A2 n2 c2, .slice A2' n2' c2']] w (QuoPost w (a / b)) := by
  obtain ⟨b0, b1, b2, e0⟩ := boxes3 w #[.bool na, .slice A1 n1 c1, .slice A1' n1' c1'] 29 #[.bool nb, .slice A2 n2 c2, .slice A2' n2' c2'] 29 #[.bool false, .slice none 0 0, .slice none 0 0] 29
  have hq := div_mkQ a b hb0
  rw [← ha.1, ← hb.1] at hq
  have hnb : b.num ≠ 0 := fun e => hb0 (Rat.num_eq_zero.1 e)
  have RED := Lib.hid (reducedAt_all (N := a.num.natAbs * b.den) (D := b.num.natAbs * a.den) (Nat.mul_ne_zero (by omega) a.den_nz))
  have hs : (sgnI b == 0) = false := beq_eq_false_iff_ne.2 (fun h => hb0 (sgnI_zero.1 h))
  have HQ := Lib.hid (hq)
  have HA := Lib.hid (ha)
  have HB := Lib.hid (hb)
  obtain ⟨⟨j0, j1, j2⟩, _⟩ := b1.three
  clear ha hb hq hnb hb0
  go_enter Tryd.func22, Tryd.ntmps22
  go_wp2_with fail
  refine (sign_any nb A2 n2 c2 A2' n2' c2' b _ (HB.out.keep e0)).mono ?_
  rintro e w1 ⟨rfl, x1⟩
  generalize sgnI b = sb at *
  have xd : Ext w1 w1.drew := (Ext.refl w1).drewN 1
  have BB := Lib.hid (And.intro ((b0.keep x1).keep xd) (And.intro ((b1.keep x1).keep xd) ((b2.keep x1).keep xd)))
  have E0 := Lib.hid ((e0.tr x1).tr xd)
  clear b0 b1 b2 e0 x1 xd j0 j1 j2
  obtain ⟨⟨i0, i1, i2⟩, _⟩ := BB.out.1.three
  obtain ⟨⟨j0, j1, j2⟩, _⟩ := BB.out.2.1.three
  have tok : True := trivial
  go_wp2
  go_region_held3 (fun w' => w'.cell? ⟨w.heap.size, 0, none⟩ = some (.bool na) ∧ w'.cell? ⟨w.heap.size, 1, none⟩ = some (.slice A1 n1 c1) ∧ w'.cell? ⟨w.heap.size, 2, none⟩ = some (.slice A1' n1' c1') ∧ w'.cell? ⟨w.heap.size + 1, 0, none⟩ = some (.bool nb) ∧ w'.cell? ⟨w.heap.size + 1, 1, none⟩ = some (.slice A2 n2 c2) ∧ w'.cell? ⟨w.heap.size + 1, 2, none⟩ = some (.slice A2' n2' c2'))
    (first | with_reducible exact ⟨i0, i1, i2, j0, j1, j2⟩ | exact fj _ _ _ | fail)
    (first
      | (go_at_call 19
         have _t := tok
         refine (times_any A1 A2' n1 c1 n2' c2' a.num.natAbs (dk b) _ (HA.out.2.1.keep E0.out) (HB.out.2.2.keep E0.out) (by omega) (by omega)).mono ?_
         rintro e w3 ⟨A3, n3, c3, rfl, h3, x3⟩
         clear tok
         have L3 := times_len h3 (HA.out.2.1.keep E0.out) (HB.out.2.2.keep E0.out)
         have h3 : NatR w3 A3 n3 c3 (a.num.natAbs * b.den) := (by rw [dn_dk] at h3; exact h3)
         have G3 := Lib.hid (And.intro (BB.out.1.keep x3) (And.intro (BB.out.2.1.keep x3) (BB.out.2.2.keep x3)))
         have E3 := Lib.hid (E0.out.tr x3)
         have R3 := Lib.hid h3
         obtain ⟨⟨i0, i1, i2⟩, _⟩ := G3.out.1.three
         obtain ⟨⟨j0, j1, j2⟩, _⟩ := G3.out.2.1.three
         clear x3 h3)
      | (go_at_call 19
         refine (times_any A2 A1' n2 c2 n1' c1' b.num.natAbs (dk a) _ (HB.out.2.1.keep E3.out) (HA.out.2.2.keep E3.out) (by omega) (by omega)).mono ?_
         rintro e w4 ⟨A4, n4, c4, rfl, h4, x4⟩
         have L4 := times_len h4 (HB.out.2.1.keep E3.out) (HA.out.2.2.keep E3.out)
         have h4 : NatR w4 A4 n4 c4 (b.num.natAbs * a.den) := (by rw [dn_dk] at h4; exact h4)
         have G4 := Lib.hid (And.intro (G3.out.1.keep x4) (And.intro (G3.out.2.1.keep x4) (G3.out.2.2.keep x4)))
         have E4 := Lib.hid (E3.out.tr x4)
         have R4 := Lib.hid (And.intro (R3.out.keep x4) h4)
         obtain ⟨⟨i0, i1, i2⟩, _⟩ := G4.out.1.three
         obtain ⟨⟨j0, j1, j2⟩, _⟩ := G4.out.2.1.three
         clear x4 h4)
      | (go_at_call 15
         refine (RED.out (na != nb) A3 A4 n3 c3 n4 c4 _ R4.out.1 R4.out.2 (by omega) (by omega)).mono ?_
         rintro e w5 ⟨nq, B, m, d, B', m', d', rfl, h5, x5⟩
         rw [← HQ.out] at h5
         have G5 := Lib.hid (And.intro (G4.out.1.keep x5) (And.intro (G4.out.2.1.keep x5) (G4.out.2.2.keep x5)))
         have E5 := Lib.hid (E4.out.tr x5)
         obtain ⟨⟨i0, i1, i2⟩, _⟩ := G5.out.1.three
         obtain ⟨⟨j0, j1, j2⟩, _⟩ := G5.out.2.1.three
         obtain ⟨⟨p0, p1, p2⟩, f0, f1, f2⟩ := G5.out.2.2.three
         obtain ⟨r1, r2⟩ := rat_set3 (w := w) h5 G5.out.2.2 (by omega) E5.out
         have q3 := ((G5.out.2.2.set_ 0 (.bool nq)).set_ 1 (.slice B m d)).set_ 2 (.slice B' m' d')
         have RF := Lib.hid (And.intro q3 (And.intro r1 r2))
         have hf := fun u0 u1 u2 => ((G5.out.1.far (p := ⟨w.heap.size + 1 + 1, 0, none⟩) (by simp; omega) u0).far (p := ⟨w.heap.size + 1 + 1, 1, none⟩) (by simp; omega) u1).far (p := ⟨w.heap.size + 1 + 1, 2, none⟩) (by simp; omega) u2
         have hg := fun u0 u1 u2 => ((G5.out.2.1.far (p := ⟨w.heap.size + 1 + 1, 0, none⟩) (by simp) u0).far (p := ⟨w.heap.size + 1 + 1, 1, none⟩) (by simp) u1).far (p := ⟨w.heap.size + 1 + 1, 2, none⟩) (by simp) u2
         have fj := fun u0 u1 u2 => And.intro ((hf u0 u1 u2).cell 0) (And.intro ((hf u0 u1 u2).cell 1) (And.intro ((hf u0 u1 u2).cell 2) (And.intro ((hg u0 u1 u2).cell 0) (And.intro ((hg u0 u1 u2).cell 1) ((hg u0 u1 u2).cell 2)))))
         clear x5 h5 q3 r1 r2)
      | fail)
  go_wp2
  exact bodyPost_ret (v := .tuple #[.agg #[.bool nq, .slice B m d, .slice B' m' d'], .int .i64 0]) (by simp [results, Tryd.results22, go_sem, RF.out.1.cell]) rfl ⟨_, _, _, _, _, _, _, rfl, RF.out.2.1, RF.out.2.2⟩
/-- The whole part of a number that is not negative. -/
def flN (q : Rat) : Nat := q.num.natAbs / q.den
def flQ (q : Rat) : Rat := mkQ false (flN q) 1
set_option maxRecDepth 100000 in
set_option maxHeartbeats 4000000 in
theorem ratFloor_any (A1 : Option Addr) (n1 c1 : Nat) (A1' : Option Addr) (n1' c1' : Nat) (a : Rat) (w : World) (ha : RatR w false A1 n1 c1 A1' n1' c1' a) (l1 : n1 ≤ 134217728) (l1' : n1' ≤ 134217728) :
    Calls Tryd.prog 24 #[.agg #[.bool false, .slice A1 n1 c1, .slice A1' n1' c1']] w (RatPost w (flQ a)) := by
  obtain ⟨hba, hbr, e0⟩ := boxes2 w #[.bool false, .slice A1 n1 c1, .slice A1' n1' c1'] 29 #[.bool false, .slice none 0 0, .slice none 0 0] 29
  have za := ha.2.2.eq_zero
  rw [dk_zero] at za
  have HA := Lib.hid (ha)
  obtain ⟨⟨i0, i1, i2⟩, h0, h1, h2⟩ := hba.three
  by_cases hd : a.den = 1
  · have zn : ((n1' : Int) == 0) = true := by rw [za.2 hd]; rfl
    have hf : flQ a = a := by
      unfold flQ flN
      rw [hd, Nat.div_one]
      have h2 := mkQ_self a
      rw [← ha.1, hd] at h2
      exact h2
    rw [hf]
    clear za ha hd hf
    go_enter Tryd.func24, Tryd.ntmps24
    go_wp2_with fail
    refine (isZero_any A1' n1' c1' _).mono ?_
    rintro e w1 ⟨rfl, x1⟩
    have hba := hba.keep x1
    have hbr := hbr.keep x1
    obtain ⟨⟨i0, i1, i2⟩, h0, h1, h2⟩ := hba.three
    obtain ⟨⟨k0, k1, k2⟩, f0, f1, f2⟩ := hbr.three
    have E1 := Lib.hid (e0.tr x1)
    clear x1 e0
    go_wp2
    exact bodyPost_ret (v := .agg #[.bool false, .slice A1 n1 c1, .slice A1' n1' c1']) (by simp [results, Tryd.results24, go_sem, (((hbr.set_ 0 _).set_ 1 _).set_ 2 _).cell]) rfl (ratPost_set hbr (by decide) (HA.out.keep E1.out) E1.out (by omega))
  · have zn : ((n1' : Int) == 0) = false := beq_eq_false_iff_ne.2 (fun h => hd (za.1 (by omega)))
    have hdk : dk a = a.den := by unfold dk; rw [if_neg hd]
    have HD := Lib.hid (show NatR w A1' n1' c1' a.den by rw [← hdk]; exact ha.2.2)
    have HDM := Lib.hid (divModAt_all a.num.natAbs a.den a.den_pos)
    clear za ha hd hdk
    go_enter Tryd.func24, Tryd.ntmps24
    go_wp2_with fail
    refine (isZero_any A1' n1' c1' _).mono ?_
    rintro e w1 ⟨rfl, x1⟩
    have hba := hba.keep x1
    have hbr := hbr.keep x1
    obtain ⟨⟨i0, i1, i2⟩, h0, h1, h2⟩ := hba.three
    have E1 := Lib.hid (e0.tr x1)
    clear x1 e0
    go_wp2_with fail
    refine (HDM.out A1 A1' n1 c1 n1' c1' _ (HA.out.2.1.keep E1.out) (HD.out.keep E1.out) (by omega) (by omega)).mono ?_
    rintro e w2 ⟨B, m, d, B', m', d', rfl, r1, r2, x2⟩
    have xb := ((Ext.refl w2).alloc (.cells #[.slice B m d] 27)).alloc (.cells #[.slice B' m' d'] 27)
    have hba := hba.keep x2
    have hbr := hbr.keep x2
    have hba := hba.keep xb
    have hbr := hbr.keep xb
    have E2 := Lib.hid ((E1.out.tr x2).tr xb)
    have R2 := Lib.hid (r1.keep xb)
    have hbq := (Blk.new w2 27 #[.slice B m d]).keep ((Ext.refl _).alloc (.cells #[.slice B' m' d'] 27))
    obtain ⟨⟨i0, i1, i2⟩, h0, h1, h2⟩ := hba.three
    obtain ⟨k, f⟩ := hbq.one
    clear r1 r2 x2 xb E1 HA HD HDM
    go_wp2_with fail
    refine (whole_any false B m d _ _ R2.out).mono ?_
    rintro e w3 ⟨nq, C, l, f, C', l', f', rfl, r3, x3⟩
    have hbr := hbr.keep x3
    obtain ⟨⟨k0, k1, k2⟩, f0, f1, f2⟩ := hbr.three
    have E3 := Lib.hid (E2.out.tr x3)
    have R3 := Lib.hid r3
    clear r3 x3
    go_wp2
    exact bodyPost_ret (v := .agg #[.bool nq, .slice C l f, .slice C' l' f']) (by simp [results, Tryd.results24, go_sem, (((hbr.set_ 0 _).set_ 1 _).set_ 2 _).cell]) rfl (ratPost_set hbr (by decide) R3.out E3.out (by omega))
end Go.Proofs.YtekiomanidimnaaDoor
