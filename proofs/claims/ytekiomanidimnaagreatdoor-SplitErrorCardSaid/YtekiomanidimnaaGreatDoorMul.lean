/- rational.Mul: what the call returns. -/
import Derived.Test.YtekiomanidimnaaGreatDoorMG
set_option linter.unusedVariables false
set_option linter.unusedSimpArgs false

namespace Go.Proofs.YtekiomanidimnaaGreatDoor
open Go.RowKit
theorem mul_mkQ (a b : Rat) : a * b = mkQ (decide (a.num < 0) != decide (b.num < 0)) (a.num.natAbs * b.num.natAbs) (a.den * b.den) := by
  have hs : (if (decide (a.num < 0) != decide (b.num < 0)) = true then -((a.num.natAbs * b.num.natAbs : Nat) : Int) else ((a.num.natAbs * b.num.natAbs : Nat) : Int)) = a.num * b.num := by
    rw [Int.natCast_mul]
    rcases Int.lt_or_le a.num 0 with ha | ha <;> rcases Int.lt_or_le b.num 0 with hb | hb
    · rw [show ((a.num.natAbs : Nat) : Int) = -a.num by omega, show ((b.num.natAbs : Nat) : Int) = -b.num by omega]
      simp only [ha, hb, decide_true, bne_self_eq_false, Bool.false_eq_true, if_false, Int.neg_mul_neg]
    · rw [show ((a.num.natAbs : Nat) : Int) = -a.num by omega, show ((b.num.natAbs : Nat) : Int) = b.num by omega]
      simp only [ha, show ¬ b.num < 0 by omega, decide_true, decide_false, Bool.true_bne, Bool.not_false, if_true, Int.neg_mul, Int.neg_neg]
    · rw [show ((a.num.natAbs : Nat) : Int) = a.num by omega, show ((b.num.natAbs : Nat) : Int) = -b.num by omega]
      simp only [hb, show ¬ a.num < 0 by omega, decide_true, decide_false, Bool.false_bne, if_true, Int.mul_neg, Int.neg_neg]
    · rw [show ((a.num.natAbs : Nat) : Int) = a.num by omega, show ((b.num.natAbs : Nat) : Int) = b.num by omega]
      simp [show ¬ a.num < 0 by omega, show ¬ b.num < 0 by omega]
  unfold mkQ
  rw [hs]
  conv => lhs; rw [← Rat.mkRat_self a, ← Rat.mkRat_self b]
  rw [Rat.mkRat_mul_mkRat]
set_option maxRecDepth 100000 in
set_option maxHeartbeats 4000000 in
theorem ratMul_any (na nb : Bool) (A1 : Option Addr) (n1 c1 : Nat) (A1' : Option Addr) (n1' c1' : Nat) (A2 : Option Addr) (n2 c2 : Nat) (A2' : Option Addr) (n2' c2' : Nat) (a b : Rat) (w : World)
    (ha : RatR w na A1 n1 c1 A1' n1' c1' a) (hb : RatR w nb A2 n2 c2 A2' n2' c2' b) (l1 : n1 ≤ 134217728) (l1' : n1' ≤ 134217728) (l2 : n2 ≤ 134217728) (l2' : n2' ≤ 134217728) :
    Calls Tryz.prog 26 #[.agg #[.bool na, .slice A1 n1 c1, .slice A1' n1' c1'], .agg #[.bool nb, .slice A2 n2 c2, .slice A2' n2' c2']] w (RatPost w (a * b)) := by
  obtain ⟨hba, hbb, hbr, e0⟩ := boxes3 w #[.bool na, .slice A1 n1 c1, .slice A1' n1' c1'] 44 #[.bool nb, .slice A2 n2 c2, .slice A2' n2' c2'] 44 #[.bool false, .slice none 0 0, .slice none 0 0] 44
  have hq := mul_mkQ a b
  rw [← ha.1, ← hb.1] at hq
  have RED := Lib.hid (reducedAt_all (N := a.num.natAbs * b.num.natAbs) (D := a.den * b.den) (Nat.mul_ne_zero a.den_nz b.den_nz))
  have za := ha.2.2.eq_zero
  have zb := hb.2.2.eq_zero
  rw [dk_zero] at za zb
  have ZA := Lib.hid (za)
  have ZB := Lib.hid (zb)
  have HA := Lib.hid (ha)
  have HB := Lib.hid (hb)
  have HQ := Lib.hid (hq)
  clear ha hb hq za zb
  obtain ⟨⟨i0, i1, i2⟩, h0, h1, h2⟩ := hba.three
  obtain ⟨⟨j0, j1, j2⟩, g'0, g'1, g'2⟩ := hbb.three
  go_enter Tryz.func26, Tryz.ntmps26
  go_wp2_with fail
  refine (natMul_any A1 A2 n1 c1 n2 c2 a.num.natAbs b.num.natAbs _ (HA.out.2.1.keep e0) (HB.out.2.1.keep e0) (by omega) (by omega)).mono ?_
  rintro e w1 ⟨A, n, c, rfl, hN, hx1⟩
  have L1 := natMul_len hN (HA.out.2.1) (HB.out.2.1)
  have xb := (Ext.refl w1).alloc (.cells #[.slice A n c] 42)
  have hbg := Blk.new w1 42 #[.slice A n c]
  have hba := (hba.keep hx1).keep xb
  have hbb := (hbb.keep hx1).keep xb
  have hbr := (hbr.keep hx1).keep xb
  have E5 := Lib.hid ((e0.tr hx1).tr xb)
  have R5 := Lib.hid (hN.keep xb)
  have hgz : w.heap.size + 1 + 1 < w1.heap.size := by have := hx1.size; simp at this; omega
  clear hx1 hN xb e0 i0 i1 i2 h0 h1 h2 j0 j1 j2 g'0 g'1 g'2
  go_upto_region 2 with fail
  generalize hW1 : w1.alloc (.cells #[.slice A n c] 42) = W1 at *
  clear hW1
  generalize hgg : w1.heap.size = g at *
  clear hgg
  have hcase : (a.den = 1 ∧ b.den = 1) ∨ (a.den = 1 ∧ b.den ≠ 1) ∨ a.den ≠ 1 := by omega
  rcases hcase with ⟨hda, hdb⟩ | ⟨hda, hdb⟩ | hda
  case' inl =>
    have za : ((n1' : Int) == 0) = true := by rw [ZA.out.2 hda]; rfl
    have zb : ((n2' : Int) == 0) = true := by rw [ZB.out.2 hdb]; rfl
    have hfin : a * b = mkQ (na != nb) (a.num.natAbs * b.num.natAbs) 1 := by rw [HQ.out, hda, hdb]
    have HF := Lib.hid (hfin)
    obtain ⟨⟨i0, i1, i2⟩, h0, h1, h2⟩ := hba.three
    clear hfin hda hdb
    go_wp2_with fail
    refine (isZero_any A1' n1' c1' _).mono ?_
    rintro e w6 ⟨rfl, hx6⟩
    have hba := hba.keep hx6
    have hbb := hbb.keep hx6
    have hbr := hbr.keep hx6
    have hbg := hbg.keep hx6
    obtain ⟨⟨j0, j1, j2⟩, g'0, g'1, g'2⟩ := hbb.three
    have E6 := Lib.hid (E5.out.tr hx6)
    have R6 := Lib.hid (R5.out.keep hx6)
    clear hx6
    go_wp2_with fail
    refine (isZero_any A2' n2' c2' _).mono ?_
    rintro e w7 ⟨rfl, hx7⟩
    have hba := hba.keep hx7
    have hbb := hbb.keep hx7
    have hbr := hbr.keep hx7
    have hbg := hbg.keep hx7
    clear i0 i1 i2 h0 h1 h2 j0 j1 j2 g'0 g'1 g'2
    obtain ⟨⟨i0, i1, i2⟩, h0, h1, h2⟩ := hba.three
    obtain ⟨⟨j0, j1, j2⟩, g'0, g'1, g'2⟩ := hbb.three
    have cg := hbg.one.1
    have E7 := Lib.hid (E6.out.tr hx7)
    have R7 := Lib.hid (R6.out.keep hx7)
    clear hx7
    go_wp2_with fail
    refine (whole_any (na != nb) A n c _ _ R7.out).mono ?_
    rintro e w8 ⟨ng, B, m, d, B', m', d', rfl, hR8, hx8⟩
    have hbr := hbr.keep hx8
    obtain ⟨⟨k0, k1, k2⟩, f0, f1, f2⟩ := hbr.three
    have E8 := Lib.hid (E7.out.tr hx8)
    have R8 := Lib.hid (hR8)
    clear hx8 hR8
    go_wp2
    exact bodyPost_ret (v := .agg #[.bool ng, .slice B m d, .slice B' m' d']) (by simp [results, Tryz.results26, go_sem, (((hbr.set_ 0 _).set_ 1 _).set_ 2 _).cell]) rfl (by rw [HF.out]; exact ratPost_set hbr (by decide) R8.out E8.out (by omega))
  case' inr.inl =>
    have za : ((n1' : Int) == 0) = true := by rw [ZA.out.2 hda]; rfl
    have zb : ((n2' : Int) == 0) = false := beq_eq_false_iff_ne.2 (fun h => hdb (ZB.out.1 (by omega)))
    obtain ⟨⟨i0, i1, i2⟩, h0, h1, h2⟩ := hba.three
    clear hda hdb
    go_wp2_with fail
    refine (isZero_any A1' n1' c1' _).mono ?_
    rintro e w6 ⟨rfl, hx6⟩
    have hba := hba.keep hx6
    have hbb := hbb.keep hx6
    have hbr := hbr.keep hx6
    have hbg := hbg.keep hx6
    obtain ⟨⟨j0, j1, j2⟩, g'0, g'1, g'2⟩ := hbb.three
    have E6 := Lib.hid (E5.out.tr hx6)
    have R6 := Lib.hid (R5.out.keep hx6)
    clear hx6
    go_wp2_with fail
    refine (isZero_any A2' n2' c2' _).mono ?_
    rintro e wz ⟨rfl, hxz⟩
    have hba := hba.keep hxz
    have hbb := hbb.keep hxz
    have hbr := hbr.keep hxz
    have hbg := hbg.keep hxz
    have EZ := Lib.hid (E6.out.tr hxz)
    have RZ := Lib.hid (R6.out.keep hxz)
    clear hxz i0 i1 i2 h0 h1 h2 j0 j1 j2 g'0 g'1 g'2
  case' inr.inr =>
    have za : ((n1' : Int) == 0) = false := beq_eq_false_iff_ne.2 (fun h => hda (ZA.out.1 (by omega)))
    obtain ⟨⟨i0, i1, i2⟩, h0, h1, h2⟩ := hba.three
    clear hda
    go_wp2_with fail
    refine (isZero_any A1' n1' c1' _).mono ?_
    rintro e wz ⟨rfl, hxz⟩
    have hba := hba.keep hxz
    have hbb := hbb.keep hxz
    have hbr := hbr.keep hxz
    have hbg := hbg.keep hxz
    have EZ := Lib.hid (E5.out.tr hxz)
    have RZ := Lib.hid (R5.out.keep hxz)
    clear hxz i0 i1 i2 h0 h1 h2
  all_goals
    have hba : Blk wz.drew _ _ _ := hba
    have hbb : Blk wz.drew _ _ _ := hbb
    have hbr : Blk wz.drew _ _ _ := hbr
    have hbg : Blk wz.drew _ _ _ := hbg
    have EZ := Lib.hid (EZ.out.drewN 1)
    have RZ := Lib.hid (RZ.out.keep ((Ext.refl wz).drewN 1))
    obtain ⟨⟨i0, i1, i2⟩, _⟩ := hba.three
    obtain ⟨⟨j0, j1, j2⟩, _⟩ := hbb.three
    obtain ⟨cg, _⟩ := hbg.one
    go_wp2
    go_region_held3 (fun w' => w'.cell? ⟨w.heap.size, 0, none⟩ = some (.bool na) ∧ w'.cell? ⟨w.heap.size, 1, none⟩ = some (.slice A1 n1 c1) ∧ w'.cell? ⟨w.heap.size, 2, none⟩ = some (.slice A1' n1' c1') ∧
        w'.cell? ⟨w.heap.size + 1, 0, none⟩ = some (.bool nb) ∧ w'.cell? ⟨w.heap.size + 1, 2, none⟩ = some (.slice A2' n2' c2') ∧ w'.cell? ⟨g, 0, none⟩ = some (.slice A n c)) (first | exact ⟨i0, i1, i2, j0, j2, cg⟩ | exact ⟨(fa _ _ _).cell 0, (fa _ _ _).cell 1, (fa _ _ _).cell 2, (fb _ _ _).cell 0, (fb _ _ _).cell 2, (fg _ _ _).cell 0⟩)
      (first
        | (go_at_call 75
           refine (den_any na A1 n1 c1 A1' n1' c1' a _ (HA.out.keep EZ.out)).mono ?_
           rintro e w7 ⟨A7, n7, c7, rfl, hR7, hx7⟩
           have hba := hba.keep hx7
           have hbb := hbb.keep hx7
           have hbr := hbr.keep hx7
           have hbg := hbg.keep hx7
           have E7 := Lib.hid (EZ.out.tr hx7)
           have RZ7 := Lib.hid (RZ.out.keep hx7)
           have R7 := Lib.hid hR7
           have L7 := den_len hR7 HA.out.2.2
           obtain ⟨⟨i0, i1, i2⟩, _⟩ := hba.three
           obtain ⟨⟨j0, j1, j2⟩, _⟩ := hbb.three
           obtain ⟨cg, _⟩ := hbg.one
           clear hx7 hR7)
        | (go_at_call 74
           refine (times_any A7 A2' n7 c7 n2' c2' a.den (dk b) _ R7.out (HB.out.2.2.keep E7.out) (by omega) (by omega)).mono ?_
           rintro e w8 ⟨A8, n8, c8, rfl, hR8, hx8⟩
           have hba := hba.keep hx8
           have hbb := hbb.keep hx8
           have hbr := hbr.keep hx8
           have hbg := hbg.keep hx8
           have E8 := Lib.hid (E7.out.tr hx8)
           have RZ8 := Lib.hid (RZ7.out.keep hx8)
           have L8 := times_len hR8 R7.out (HB.out.2.2.keep E7.out)
           have hR8 : NatR w8 A8 n8 c8 (a.den * b.den) := (by rw [dn_dk] at hR8; exact hR8)
           have R8 := Lib.hid hR8
           obtain ⟨⟨i0, i1, i2⟩, _⟩ := hba.three
           obtain ⟨⟨j0, j1, j2⟩, _⟩ := hbb.three
           obtain ⟨cg, _⟩ := hbg.one
           clear hx8 hR8)
        | (go_at_call 70
           refine (RED.out (na != nb) A A8 n c n8 c8 _ RZ8.out R8.out (by omega) (by omega)).mono ?_
           rintro e w9 ⟨ng, B, m, d, B', m', d', rfl, hR9, hx9⟩
           have hba := hba.keep hx9
           have hbb := hbb.keep hx9
           have hbr := hbr.keep hx9
           have hbg := hbg.keep hx9
           have E9 := Lib.hid (E8.out.tr hx9)
           have R9 := Lib.hid hR9
           obtain ⟨⟨i0, i1, i2⟩, _⟩ := hba.three
           obtain ⟨⟨j0, j1, j2⟩, _⟩ := hbb.three
           obtain ⟨⟨k0, k1, k2⟩, f0, f1, f2⟩ := hbr.three
           obtain ⟨cg, _⟩ := hbg.one
           have fa := fun u0 u1 u2 => ((hba.far (p := ⟨w.heap.size + 1 + 1, 0, none⟩) (by simp; omega) u0).far (p := ⟨w.heap.size + 1 + 1, 1, none⟩) (by simp; omega) u1).far (p := ⟨w.heap.size + 1 + 1, 2, none⟩) (by simp; omega) u2
           have fb := fun u0 u1 u2 => ((hbb.far (p := ⟨w.heap.size + 1 + 1, 0, none⟩) (by simp) u0).far (p := ⟨w.heap.size + 1 + 1, 1, none⟩) (by simp) u1).far (p := ⟨w.heap.size + 1 + 1, 2, none⟩) (by simp) u2
           have fg := fun u0 u1 u2 => ((hbg.far (p := ⟨w.heap.size + 1 + 1, 0, none⟩) (by simp; omega) u0).far (p := ⟨w.heap.size + 1 + 1, 1, none⟩) (by simp; omega) u1).far (p := ⟨w.heap.size + 1 + 1, 2, none⟩) (by simp; omega) u2
           clear hx9 hR9))
    go_wp2
    exact bodyPost_ret (v := .agg #[.bool ng, .slice B m d, .slice B' m' d']) (by simp [results, Tryz.results26, go_sem, (((hbr.set_ 0 _).set_ 1 _).set_ 2 _).cell]) rfl (by rw [HQ.out]; exact ratPost_set hbr (by decide) R9.out E9.out (by omega))
end Go.Proofs.YtekiomanidimnaaGreatDoor
