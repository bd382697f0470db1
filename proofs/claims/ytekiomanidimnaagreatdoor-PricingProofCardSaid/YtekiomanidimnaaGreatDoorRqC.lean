/- waypointref02: one, Add. -/
import Derived.Test.YtekiomanidimnaaGreatDoorGrpI
import Derived.Test.YtekiomanidimnaaGreatDoorRqB
set_option linter.unusedVariables false
set_option linter.unusedSimpArgs false

namespace Go.Proofs.YtekiomanidimnaaGreatDoor
open Go.RowKit
set_option maxRecDepth 100000 in
set_option maxHeartbeats 2000000 in
theorem rOne_ok (neg : Bool) (A : Option Addr) (n c : Nat) (A' : Option Addr) (n' c' : Nat) (q : Rat) (w : World) (h : RQR w neg A n c A' n' c' q) :
    Calls Tryz.prog 134 #[.agg #[.bool neg, .slice A n c, .slice A' n' c']] w fun e w' => ∃ (B : Option Addr) (m d : Nat), e = .returned (.slice B m d) ∧ GrpR w' B m d q.den ∧ m ≤ n' + 1 ∧ Ext w w' := by
  obtain ⟨b0, e0⟩ := boxes1 w #[.bool neg, .slice A n c, .slice A' n' c'] 51
  have hz := h.2.2.eq_zero
  have HZ := Lib.hid (hz)
  have H := Lib.hid (h)
  have E0 := Lib.hid (e0)
  obtain ⟨⟨i0, i1, i2⟩, g0, g1, g2⟩ := b0.three
  clear hz h e0
  by_cases hn : n' = 0
  · subst hn
    have hd : q.den = 1 := (dk_zero q).1 (HZ.out.1 rfl)
    have HD := Lib.hid (hd)
    clear hd
    go_enter Tryz.func134, Tryz.ntmps134
    go_wp2_with fail
    refine (refOf_ok 1 _ (by decide)).mono ?_
    rintro e w1 ⟨B, m, d, rfl, h1, x1, _⟩
    have hm : m ≤ 1 := h1.lenOf (by decide)
    rw [← HD.out] at h1
    have F := Lib.hid (And.intro h1 (E0.out.tr x1))
    clear h1 x1
    go_wp2
    go_ret
    exact ⟨_, _, _, rfl, F.out.1, by omega, F.out.2⟩
  · have zb : ((n' : Int) == 0) = false := beq_eq_false_iff_ne.2 (by omega)
    have hd : dk q = q.den := by
      have h1 : dk q ≠ 0 := fun h => hn (HZ.out.2 h)
      unfold dk at h1 ⊢
      split
      · rename_i h2; rw [if_pos h2] at h1; exact absurd rfl h1
      · rfl
    have F := Lib.hid (show GrpR (w.alloc (.cells #[.bool neg, .slice A n c, .slice A' n' c'] 51)) A' n' c' q.den by rw [← hd]; exact H.out.2.2.keep E0.out)
    clear hd
    go_enter Tryz.func134, Tryz.ntmps134
    go_wp2
    go_ret
    exact ⟨_, _, _, rfl, F.out, by omega, E0.out⟩
theorem rmul_len {w w' w'' : World} {A A1 A2 : Option Addr} {n c n1 c1 n2 c2 a b : Nat} (h : GrpR w A n c (a * b)) (h1 : GrpR w' A1 n1 c1 a) (h2 : GrpR w'' A2 n2 c2 b) : n ≤ n1 + n2 := by
  refine h.lenOf ?_
  rw [Nat.pow_add]
  rcases Nat.eq_zero_or_pos b with h0 | h0
  · rw [h0, Nat.mul_zero]; exact Nat.mul_pos (Nat.pow_pos G6_pos) (Nat.pow_pos G6_pos)
  · exact Nat.mul_lt_mul_of_lt_of_le h1.lt_pow (Nat.le_of_lt h2.lt_pow) (Nat.pow_pos G6_pos)
theorem radd_len {w w' w'' : World} {A A1 A2 : Option Addr} {n c n1 c1 n2 c2 a b : Nat} (h : GrpR w A n c (a + b)) (h1 : GrpR w' A1 n1 c1 a) (h2 : GrpR w'' A2 n2 c2 b) : n ≤ n1 + n2 + 1 := by
  refine h.lenOf ?_
  have p1 : a < G6 ^ (n1 + n2) := Nat.lt_of_lt_of_le h1.lt_pow (Nat.pow_le_pow_right G6_pos (by omega))
  have p2 : b < G6 ^ (n1 + n2) := Nat.lt_of_lt_of_le h2.lt_pow (Nat.pow_le_pow_right G6_pos (by omega))
  rw [Nat.pow_succ]
  generalize G6 ^ (n1 + n2) = p at *
  rw [G6_eq]
  omega
set_option maxRecDepth 100000 in
set_option maxHeartbeats 4000000 in
theorem rqAdd_ok (na nb : Bool) (A1 : Option Addr) (n1 c1 : Nat) (A1' : Option Addr) (n1' c1' : Nat) (A2 : Option Addr) (n2 c2 : Nat) (A2' : Option Addr) (n2' c2' : Nat) (a b : Rat) (w : World)
    (ha : RQR w na A1 n1 c1 A1' n1' c1' a) (hb : RQR w nb A2 n2 c2 A2' n2' c2' b) (l1 : n1 ≤ 200000) (l1' : n1' ≤ 200000) (l2 : n2 ≤ 200000) (l2' : n2' ≤ 200000) :
    Calls Tryz.prog 78 #[.agg #[.bool na, .slice A1 n1 c1, .slice A1' n1' c1'], .agg #[.bool nb, .slice A2 n2 c2, .slice A2' n2' c2']] w (RQPost w (a + b)) := by
  obtain ⟨b0, b1, b2, e0⟩ := boxes3 w #[.bool na, .slice A1 n1 c1, .slice A1' n1' c1'] 51 #[.bool nb, .slice A2 n2 c2, .slice A2' n2' c2'] 51 #[.bool false, .slice none 0 0, .slice none 0 0] 51
  have hq := (add_mkQ ha.1 hb.1).1
  have e0' : Ext w (((w.alloc (.cells #[.bool na, .slice A1 n1 c1, .slice A1' n1' c1'] 51)).alloc (.cells #[.bool nb, .slice A2 n2 c2, .slice A2' n2' c2'] 51)).alloc (.cells #[.bool false, .slice none 0 0, .slice none 0 0] 51)).drew := e0.drewN 1
  have b0' : Blk (((w.alloc (.cells #[.bool na, .slice A1 n1 c1, .slice A1' n1' c1'] 51)).alloc (.cells #[.bool nb, .slice A2 n2 c2, .slice A2' n2' c2'] 51)).alloc (.cells #[.bool false, .slice none 0 0, .slice none 0 0] 51)).drew _ _ _ := b0
  have b1' : Blk (((w.alloc (.cells #[.bool na, .slice A1 n1 c1, .slice A1' n1' c1'] 51)).alloc (.cells #[.bool nb, .slice A2 n2 c2, .slice A2' n2' c2'] 51)).alloc (.cells #[.bool false, .slice none 0 0, .slice none 0 0] 51)).drew _ _ _ := b1
  have b2' : Blk (((w.alloc (.cells #[.bool na, .slice A1 n1 c1, .slice A1' n1' c1'] 51)).alloc (.cells #[.bool nb, .slice A2 n2 c2, .slice A2' n2' c2'] 51)).alloc (.cells #[.bool false, .slice none 0 0, .slice none 0 0] 51)).drew _ _ _ := b2
  have HQ := Lib.hid (hq)
  have HA := Lib.hid (ha)
  have HB := Lib.hid (hb)
  have E0 := Lib.hid (e0')
  have BB := Lib.hid (And.intro b0' (And.intro b1' b2'))
  obtain ⟨⟨i0, i1, i2⟩, _⟩ := b0'.three
  obtain ⟨⟨j0, j1, j2⟩, _⟩ := b1'.three
  clear ha hb hq b0 b1 b2 e0 e0' b0' b1' b2'
  have tok : True := trivial
  have tom : True := trivial
  go_enter Tryz.func78, Tryz.ntmps78
  go_wp2
  go_region_held3 (fun w' => w'.cell? ⟨w.heap.size, 0, none⟩ = some (.bool na) ∧ w'.cell? ⟨w.heap.size, 1, none⟩ = some (.slice A1 n1 c1) ∧ w'.cell? ⟨w.heap.size, 2, none⟩ = some (.slice A1' n1' c1') ∧ w'.cell? ⟨w.heap.size + 1, 0, none⟩ = some (.bool nb) ∧ w'.cell? ⟨w.heap.size + 1, 1, none⟩ = some (.slice A2 n2 c2) ∧ w'.cell? ⟨w.heap.size + 1, 2, none⟩ = some (.slice A2' n2' c2'))
    (first | with_reducible exact ⟨i0, i1, i2, j0, j1, j2⟩ | fail)
    (first
      | (go_at_call 134
         have _t := tok
         refine (rOne_ok nb A2 n2 c2 A2' n2' c2' b _ (HB.out.keep E0.out)).mono ?_
         rintro e w3 ⟨A3, n3, c3, rfl, h3, l3, x3⟩
         clear tok
         have BB3 := Lib.hid (And.intro (BB.out.1.keep x3) (And.intro (BB.out.2.1.keep x3) (BB.out.2.2.keep x3)))
         have E3 := Lib.hid (E0.out.tr x3)
         have R3 := Lib.hid h3
         obtain ⟨⟨i0, i1, i2⟩, _⟩ := BB3.out.1.three
         obtain ⟨⟨j0, j1, j2⟩, _⟩ := BB3.out.2.1.three
         clear x3 h3)
      | (go_at_call 133
         have _t := tom
         refine (rMul_ok A1 A3 n1 c1 n3 c3 a.num.natAbs b.den _ (HA.out.2.1.keep E3.out) R3.out (by omega) (by omega)).mono ?_
         rintro e w4 ⟨A4, n4, c4, rfl, h4, x4, _⟩
         clear tom
         have L4 := rmul_len h4 HA.out.2.1 R3.out
         have BB4 := Lib.hid (And.intro (BB3.out.1.keep x4) (And.intro (BB3.out.2.1.keep x4) (BB3.out.2.2.keep x4)))
         have E4 := Lib.hid (E3.out.tr x4)
         have R4 := Lib.hid h4
         obtain ⟨⟨i0, i1, i2⟩, _⟩ := BB4.out.1.three
         obtain ⟨⟨j0, j1, j2⟩, _⟩ := BB4.out.2.1.three
         clear x4 h4)
      | (go_at_call 134
         refine (rOne_ok na A1 n1 c1 A1' n1' c1' a _ (HA.out.keep E4.out)).mono ?_
         rintro e w5 ⟨A5, n5, c5, rfl, h5, l5, x5⟩
         have BB5 := Lib.hid (And.intro (BB4.out.1.keep x5) (And.intro (BB4.out.2.1.keep x5) (BB4.out.2.2.keep x5)))
         have E5 := Lib.hid (E4.out.tr x5)
         have R5 := Lib.hid (And.intro (R4.out.keep x5) h5)
         obtain ⟨⟨i0, i1, i2⟩, _⟩ := BB5.out.1.three
         obtain ⟨⟨j0, j1, j2⟩, _⟩ := BB5.out.2.1.three
         clear x5 h5)
      | (go_at_call 133
         refine (rMul_ok A2 A5 n2 c2 n5 c5 b.num.natAbs a.den _ (HB.out.2.1.keep E5.out) R5.out.2 (by omega) (by omega)).mono ?_
         rintro e w6 ⟨A6, n6, c6, rfl, h6, x6, _⟩
         have L6 := rmul_len h6 HB.out.2.1 R5.out.2
         have BB6 := Lib.hid (And.intro (BB5.out.1.keep x6) (And.intro (BB5.out.2.1.keep x6) (BB5.out.2.2.keep x6)))
         have E6 := Lib.hid (E5.out.tr x6)
         have R6 := Lib.hid (And.intro (R5.out.1.keep x6) h6)
         obtain ⟨⟨i0, i1, i2⟩, _⟩ := BB6.out.1.three
         obtain ⟨⟨j0, j1, j2⟩, _⟩ := BB6.out.2.1.three
         clear x6 h6)
      | fail)
  have XD := Lib.hid (show Ext w6 w6.drew from (Ext.refl w6).drewN 1)
  have BD := Lib.hid (And.intro (BB6.out.1.keep XD.out) (And.intro (BB6.out.2.1.keep XD.out) (BB6.out.2.2.keep XD.out)))
  have ED := Lib.hid (E6.out.tr XD.out)
  have RD := Lib.hid (And.intro (R6.out.1.keep XD.out) (R6.out.2.keep XD.out))
  clear BB BB3 BB4 BB5 BB6 E0 E3 E4 E5 E6 R3 R4 R5 R6 XD i0 i1 i2 j0 j1 j2
  obtain ⟨⟨i0, i1, i2⟩, _⟩ := BD.out.1.three
  obtain ⟨⟨j0, j1, j2⟩, _⟩ := BD.out.2.1.three
  have tok : True := trivial
  go_wp2
  go_region_held3 (fun w' => w'.cell? ⟨w.heap.size, 0, none⟩ = some (.bool na) ∧ w'.cell? ⟨w.heap.size, 1, none⟩ = some (.slice A1 n1 c1) ∧ w'.cell? ⟨w.heap.size, 2, none⟩ = some (.slice A1' n1' c1') ∧ w'.cell? ⟨w.heap.size + 1, 0, none⟩ = some (.bool nb) ∧ w'.cell? ⟨w.heap.size + 1, 1, none⟩ = some (.slice A2 n2 c2) ∧ w'.cell? ⟨w.heap.size + 1, 2, none⟩ = some (.slice A2' n2' c2'))
    (first | with_reducible exact ⟨i0, i1, i2, j0, j1, j2⟩ | fail)
    (first
      | (go_at_call 134
         have _t := tok
         refine (rOne_ok na A1 n1 c1 A1' n1' c1' a _ (HA.out.keep ED.out)).mono ?_
         rintro e w7 ⟨A7, n7, c7, rfl, h7, l7, x7⟩
         clear tok
         have BB7 := Lib.hid (And.intro (BD.out.1.keep x7) (And.intro (BD.out.2.1.keep x7) (BD.out.2.2.keep x7)))
         have E7 := Lib.hid (ED.out.tr x7)
         have R7 := Lib.hid (And.intro h7 (And.intro (RD.out.1.keep x7) (RD.out.2.keep x7)))
         obtain ⟨⟨i0, i1, i2⟩, _⟩ := BB7.out.1.three
         obtain ⟨⟨j0, j1, j2⟩, _⟩ := BB7.out.2.1.three
         clear x7 h7)
      | (go_at_call 134
         refine (rOne_ok nb A2 n2 c2 A2' n2' c2' b _ (HB.out.keep E7.out)).mono ?_
         rintro e w8 ⟨A8, n8, c8, rfl, h8, l8, x8⟩
         have BB8 := Lib.hid (And.intro (BB7.out.1.keep x8) (And.intro (BB7.out.2.1.keep x8) (BB7.out.2.2.keep x8)))
         have E8 := Lib.hid (E7.out.tr x8)
         have R8 := Lib.hid (And.intro h8 (And.intro (R7.out.1.keep x8) (And.intro (R7.out.2.1.keep x8) (R7.out.2.2.keep x8))))
         obtain ⟨⟨i0, i1, i2⟩, _⟩ := BB8.out.1.three
         obtain ⟨⟨j0, j1, j2⟩, _⟩ := BB8.out.2.1.three
         clear x8 h8)
      | (go_at_call 133
         refine (rMul_ok A7 A8 n7 c7 n8 c8 a.den b.den _ R8.out.2.1 R8.out.1 (by omega) (by omega)).mono ?_
         rintro e w9 ⟨A9, n9, c9, rfl, h9, x9, _⟩
         have L9 := rmul_len h9 R8.out.2.1 R8.out.1
         have BB9 := Lib.hid (And.intro (BB8.out.1.keep x9) (And.intro (BB8.out.2.1.keep x9) (BB8.out.2.2.keep x9)))
         have E9 := Lib.hid (E8.out.tr x9)
         have R9 := Lib.hid (And.intro h9 (And.intro (R8.out.2.2.1.keep x9) (R8.out.2.2.2.keep x9)))
         obtain ⟨⟨i0, i1, i2⟩, _⟩ := BB9.out.1.three
         obtain ⟨⟨j0, j1, j2⟩, _⟩ := BB9.out.2.1.three
         clear x9 h9)
      | fail)
  clear BD ED RD BB7 BB8 E7 E8 R7 R8
  have hden : 0 < a.den * b.den := Nat.mul_pos a.den_pos b.den_pos
  by_cases hng : na = nb
  · have hb1 : (na == nb) = true := by rw [hng]; simp
    have HQ2 := Lib.hid (show a + b = mkQ na (a.num.natAbs * b.den + b.num.natAbs * a.den) (a.den * b.den) by rw [HQ.out]; unfold sgB sgV; rw [if_pos hng, if_pos hng])
    clear hng
    have XD := Lib.hid (show Ext w9 w9.drew from (Ext.refl w9).drewN 1)
    have BD := Lib.hid (And.intro (BB9.out.1.keep XD.out) (And.intro (BB9.out.2.1.keep XD.out) (BB9.out.2.2.keep XD.out)))
    have ED := Lib.hid (E9.out.tr XD.out)
    have RD := Lib.hid (And.intro (R9.out.1.keep XD.out) (And.intro (R9.out.2.1.keep XD.out) (R9.out.2.2.keep XD.out)))
    go_wp2
    have i0 : w9.drew.cell? ⟨w.heap.size, 0, none⟩ = some (.bool na) := i0
    go_region_held3 (fun w' => w'.cell? ⟨w.heap.size, 0, none⟩ = some (.bool na))
      (first | with_reducible exact i0 | exact i0s _ _ _ | fail)
      (first
        | (go_at_call 135
           refine (rAdd_ok A4 A6 n4 c4 n6 c6 _ _ _ RD.out.2.1 RD.out.2.2 (by omega) (by omega)).mono ?_
           rintro e w11 ⟨A11, n11, c11, rfl, h11, x11, _⟩
           have L11 := radd_len h11 RD.out.2.1 RD.out.2.2
           have BB11 := Lib.hid (And.intro (BD.out.1.keep x11) (And.intro (BD.out.2.1.keep x11) (BD.out.2.2.keep x11)))
           have E11 := Lib.hid (ED.out.tr x11)
           have R11 := Lib.hid (And.intro h11 (RD.out.1.keep x11))
           obtain ⟨⟨i0, _, _⟩, _⟩ := BB11.out.1.three
           clear h11 x11)
        | (go_at_call 115
           refine (rMade_ok na A11 A9 n11 c11 n9 c9 _ _ _ R11.out.1 R11.out.2 (by omega) (by omega) hden).mono ?_
           rintro e w12 ⟨nq, B, m, d, B', m', d', rfl, h12, x12⟩
           rw [← HQ2.out] at h12
           have B12 := Lib.hid (BB11.out.2.2.keep x12)
           have E12 := Lib.hid (E11.out.tr x12)
           obtain ⟨⟨p0, p1, p2⟩, f0, f1, f2⟩ := B12.out.three
           obtain ⟨r1, r2⟩ := rq_set3 (w := w) h12 B12.out (by omega) E12.out
           have q3 := ((B12.out.set_ 0 (.bool nq)).set_ 1 (.slice B m d)).set_ 2 (.slice B' m' d')
           have RF := Lib.hid (And.intro q3 (And.intro r1 r2))
           clear q3 r1 r2 h12
           obtain ⟨⟨i0, _, _⟩, _⟩ := (BB11.out.1.keep x12).three
           have i0s := fun u0 u1 u2 => ((((BB11.out.1.keep x12).far (p := ⟨w.heap.size + 1 + 1, 0, none⟩) (by simp; omega) u0).far (p := ⟨w.heap.size + 1 + 1, 1, none⟩) (by simp; omega) u1).far (p := ⟨w.heap.size + 1 + 1, 2, none⟩) (by simp; omega) u2).cell 0
           clear x12)
        | fail)
    go_wp2
    exact bodyPost_ret (v := .agg #[.bool nq, .slice B m d, .slice B' m' d']) (by simp [results, Tryz.results78, go_sem, RF.out.1.cell]) rfl ⟨_, _, _, _, _, _, _, rfl, RF.out.2.1, RF.out.2.2⟩
  · have hb1 : (na == nb) = false := beq_eq_false_iff_ne.2 hng
    by_cases hle : b.num.natAbs * a.den ≤ a.num.natAbs * b.den
    · have HQ2 := Lib.hid (show a + b = mkQ na (a.num.natAbs * b.den - b.num.natAbs * a.den) (a.den * b.den) by rw [HQ.out]; unfold sgB sgV; rw [if_neg hng, if_neg hng, if_pos hle, if_pos hle])
      go_wp2_with fail
      refine (rCmp_ok A4 A6 n4 c4 n6 c6 _ _ _ R9.out.2.1 R9.out.2.2 (by omega)).mono ?_
      rintro e w10 ⟨rfl, x10⟩
      have BBX := Lib.hid (And.intro (BB9.out.1.keep x10) (And.intro (BB9.out.2.1.keep x10) (BB9.out.2.2.keep x10)))
      have EX := Lib.hid (E9.out.tr x10)
      have RX := Lib.hid (And.intro (R9.out.1.keep x10) (And.intro (R9.out.2.1.keep x10) (R9.out.2.2.keep x10)))
      clear i0 i1 i2 j0 j1 j2 x10
      obtain ⟨⟨i0, i1, i2⟩, _⟩ := BBX.out.1.three
      obtain ⟨⟨j0, j1, j2⟩, _⟩ := BBX.out.2.1.three
      have hcm : decide (0 ≤ cmpI (a.num.natAbs * b.den) (b.num.natAbs * a.den)) = true := by
        have : 0 ≤ cmpI (a.num.natAbs * b.den) (b.num.natAbs * a.den) := by unfold cmpI; rw [if_neg (by omega)]; split <;> decide
        simpa using this
      have HLE := Lib.hid hle
      clear hng hle
      generalize cmpI (a.num.natAbs * b.den) (b.num.natAbs * a.den) = cc at *
      go_wp2_with fail
      refine (rSub_ok A4 A6 n4 c4 n6 c6 _ _ _ RX.out.2.1 RX.out.2.2 (by omega) HLE.out).mono ?_
      rintro e w11 ⟨A11, n11, c11, rfl, h11, x11⟩
      have L11 := h11.lenOf (Nat.lt_of_le_of_lt (Nat.sub_le _ _) RX.out.2.1.lt_pow)
      have BB11 := Lib.hid (And.intro (BBX.out.1.keep x11) (And.intro (BBX.out.2.1.keep x11) (BBX.out.2.2.keep x11)))
      have E11 := Lib.hid (EX.out.tr x11)
      have R11 := Lib.hid (And.intro h11 (RX.out.1.keep x11))
      clear i0 i1 i2 j0 j1 j2 h11 x11
      obtain ⟨⟨i0, i1, i2⟩, _⟩ := BB11.out.1.three
      obtain ⟨⟨j0, j1, j2⟩, _⟩ := BB11.out.2.1.three
      go_wp2_with fail
      refine (rMade_ok na A11 A9 n11 c11 n9 c9 _ _ _ R11.out.1 R11.out.2 (by omega) (by omega) hden).mono ?_
      rintro e w12 ⟨nq, B, m, d, B', m', d', rfl, h12, x12⟩
      rw [← HQ2.out] at h12
      have B12 := Lib.hid (BB11.out.2.2.keep x12)
      have E12 := Lib.hid (E11.out.tr x12)
      obtain ⟨⟨p0, p1, p2⟩, f0, f1, f2⟩ := B12.out.three
      obtain ⟨r1, r2⟩ := rq_set3 (w := w) h12 B12.out (by omega) E12.out
      have q3 := ((B12.out.set_ 0 (.bool nq)).set_ 1 (.slice B m d)).set_ 2 (.slice B' m' d')
      have RF := Lib.hid (And.intro q3 (And.intro r1 r2))
      clear q3 r1 r2 h12
      go_wp2
      exact bodyPost_ret (v := .agg #[.bool nq, .slice B m d, .slice B' m' d']) (by simp [results, Tryz.results78, go_sem, RF.out.1.cell]) rfl ⟨_, _, _, _, _, _, _, rfl, RF.out.2.1, RF.out.2.2⟩
    · have HQ2 := Lib.hid (show a + b = mkQ nb (b.num.natAbs * a.den - a.num.natAbs * b.den) (a.den * b.den) by rw [HQ.out]; unfold sgB sgV; rw [if_neg hng, if_neg hng, if_neg hle, if_neg hle])
      go_wp2_with fail
      refine (rCmp_ok A4 A6 n4 c4 n6 c6 _ _ _ R9.out.2.1 R9.out.2.2 (by omega)).mono ?_
      rintro e w10 ⟨rfl, x10⟩
      have BBX := Lib.hid (And.intro (BB9.out.1.keep x10) (And.intro (BB9.out.2.1.keep x10) (BB9.out.2.2.keep x10)))
      have EX := Lib.hid (E9.out.tr x10)
      have RX := Lib.hid (And.intro (R9.out.1.keep x10) (And.intro (R9.out.2.1.keep x10) (R9.out.2.2.keep x10)))
      clear i0 i1 i2 j0 j1 j2 x10
      obtain ⟨⟨i0, i1, i2⟩, _⟩ := BBX.out.1.three
      obtain ⟨⟨j0, j1, j2⟩, _⟩ := BBX.out.2.1.three
      have hcm : decide (0 ≤ cmpI (a.num.natAbs * b.den) (b.num.natAbs * a.den)) = false := by
        have : ¬ 0 ≤ cmpI (a.num.natAbs * b.den) (b.num.natAbs * a.den) := by unfold cmpI; rw [if_pos (by omega)]; decide
        simpa using this
      have HLE := Lib.hid (show a.num.natAbs * b.den ≤ b.num.natAbs * a.den by omega)
      clear hng hle
      generalize cmpI (a.num.natAbs * b.den) (b.num.natAbs * a.den) = cc at *
      go_wp2_with fail
      refine (rSub_ok A6 A4 n6 c6 n4 c4 _ _ _ RX.out.2.2 RX.out.2.1 (by omega) HLE.out).mono ?_
      rintro e w11 ⟨A11, n11, c11, rfl, h11, x11⟩
      have L11 := h11.lenOf (Nat.lt_of_le_of_lt (Nat.sub_le _ _) RX.out.2.2.lt_pow)
      have BB11 := Lib.hid (And.intro (BBX.out.1.keep x11) (And.intro (BBX.out.2.1.keep x11) (BBX.out.2.2.keep x11)))
      have E11 := Lib.hid (EX.out.tr x11)
      have R11 := Lib.hid (And.intro h11 (RX.out.1.keep x11))
      clear i0 i1 i2 j0 j1 j2 h11 x11
      obtain ⟨⟨i0, i1, i2⟩, _⟩ := BB11.out.1.three
      obtain ⟨⟨j0, j1, j2⟩, _⟩ := BB11.out.2.1.three
      go_wp2_with fail
      refine (rMade_ok nb A11 A9 n11 c11 n9 c9 _ _ _ R11.out.1 R11.out.2 (by omega) (by omega) hden).mono ?_
      rintro e w12 ⟨nq, B, m, d, B', m', d', rfl, h12, x12⟩
      rw [← HQ2.out] at h12
      have B12 := Lib.hid (BB11.out.2.2.keep x12)
      have E12 := Lib.hid (E11.out.tr x12)
      obtain ⟨⟨p0, p1, p2⟩, f0, f1, f2⟩ := B12.out.three
      obtain ⟨r1, r2⟩ := rq_set3 (w := w) h12 B12.out (by omega) E12.out
      have q3 := ((B12.out.set_ 0 (.bool nq)).set_ 1 (.slice B m d)).set_ 2 (.slice B' m' d')
      have RF := Lib.hid (And.intro q3 (And.intro r1 r2))
      clear q3 r1 r2 h12
      go_wp2
      exact bodyPost_ret (v := .agg #[.bool nq, .slice B m d, .slice B' m' d']) (by simp [results, Tryz.results78, go_sem, RF.out.1.cell]) rfl ⟨_, _, _, _, _, _, _, rfl, RF.out.2.1, RF.out.2.2⟩
end Go.Proofs.YtekiomanidimnaaGreatDoor
