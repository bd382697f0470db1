/- waypointref02: Mul, Div, Int, Floor of a number that is not negative, Max. -/
/- Lengths of numbers of waypointref02. -/
/- waypointref02: Int, Floor of a number that is not negative, Max, Sum. -/
import Derived.Test.YtekiomanidimnaaGreatDoorMR
import Derived.Test.YtekiomanidimnaaGreatDoorQA
import Derived.Test.YtekiomanidimnaaGreatDoorMV
import Derived.Test.YtekiomanidimnaaGreatDoorMU
set_option linter.unusedVariables false
set_option linter.unusedSimpArgs false

namespace Go.Proofs.YtekiomanidimnaaGreatDoor
open Go.RowKit
set_option maxRecDepth 100000 in
set_option maxHeartbeats 4000000 in
theorem rqMul_ok (na nb : Bool) (A1 : Option Addr) (n1 c1 : Nat) (A1' : Option Addr) (n1' c1' : Nat) (A2 : Option Addr) (n2 c2 : Nat) (A2' : Option Addr) (n2' c2' : Nat) (a b : Rat) (w : World)
    (ha : RQR w na A1 n1 c1 A1' n1' c1' a) (hb : RQR w nb A2 n2 c2 A2' n2' c2' b) (l1 : n1 ≤ 200000) (l1' : n1' ≤ 200000) (l2 : n2 ≤ 200000) (l2' : n2' ≤ 200000) :
    Calls Tryz.prog 98 #[.agg #[.bool na, .slice A1 n1 c1, .slice A1' n1' c1'], .agg #[.bool nb, .slice A2 n2 c2, .slice A2' n2' c2']] w (RQPost w (a * b)) := by
  have hq := mul_mkQ a b
  rw [← ha.1, ← hb.1] at hq
  have HQ := Lib.hid hq
  have hden : 0 < a.den * b.den := Nat.mul_pos a.den_pos b.den_pos
  obtain ⟨b0, b1, b2, e0⟩ := boxes3 w #[.bool na, .slice A1 n1 c1, .slice A1' n1' c1'] 51 #[.bool nb, .slice A2 n2 c2, .slice A2' n2' c2'] 51 #[.bool false, .slice none 0 0, .slice none 0 0] 51
  have x1 : Ext (((w.alloc (.cells #[.bool na, .slice A1 n1 c1, .slice A1' n1' c1'] 51)).alloc (.cells #[.bool nb, .slice A2 n2 c2, .slice A2' n2' c2'] 51)).alloc (.cells #[.bool false, .slice none 0 0, .slice none 0 0] 51)) (((w.alloc (.cells #[.bool na, .slice A1 n1 c1, .slice A1' n1' c1'] 51)).alloc (.cells #[.bool nb, .slice A2 n2 c2, .slice A2' n2' c2'] 51)).alloc (.cells #[.bool false, .slice none 0 0, .slice none 0 0] 51)).drew := (Ext.refl _).drewN 1
  have HA := Lib.hid (And.intro ((ha.keep e0).keep x1) ((hb.keep e0).keep x1))
  have E0 := Lib.hid (e0.tr x1)
  have BB := Lib.hid (And.intro (b0.keep x1) (And.intro (b1.keep x1) (b2.keep x1)))
  obtain ⟨⟨i0, i1, i2⟩, _⟩ := BB.out.1.three
  obtain ⟨⟨j0, j1, j2⟩, _⟩ := BB.out.2.1.three
  clear ha hb b0 b1 b2 e0 x1 hq
  have tok : True := trivial
  have tom : True := trivial
  go_enter Tryz.func98, Tryz.ntmps98
  go_wp2
  go_region_held3 (fun w' => w'.cell? ⟨w.heap.size, 0, none⟩ = some (.bool na) ∧ w'.cell? ⟨w.heap.size, 1, none⟩ = some (.slice A1 n1 c1) ∧ w'.cell? ⟨w.heap.size, 2, none⟩ = some (.slice A1' n1' c1') ∧ w'.cell? ⟨w.heap.size + 1, 0, none⟩ = some (.bool nb) ∧ w'.cell? ⟨w.heap.size + 1, 1, none⟩ = some (.slice A2 n2 c2) ∧ w'.cell? ⟨w.heap.size + 1, 2, none⟩ = some (.slice A2' n2' c2'))
    (first | with_reducible exact ⟨i0, i1, i2, j0, j1, j2⟩ | exact fj _ _ _ | fail)
    (first
      | (go_at_call 133
         have _t := tom
         refine (rMul_ok A1 A2 n1 c1 n2 c2 a.num.natAbs b.num.natAbs _ HA.out.1.2.1 HA.out.2.2.1 (by omega) (by omega)).mono ?_
         rintro e w3 ⟨A3, n3, c3, rfl, h3, x3, _⟩
         clear tom
         have BB3 := Lib.hid (And.intro (BB.out.1.keep x3) (And.intro (BB.out.2.1.keep x3) (BB.out.2.2.keep x3)))
         have E3 := Lib.hid (E0.out.tr x3)
         have L3 := rmul_len h3 HA.out.1.2.1 HA.out.2.2.1
         have R3 := Lib.hid h3
         have HA3 := Lib.hid (And.intro (HA.out.1.keep x3) (HA.out.2.keep x3))
         obtain ⟨⟨i0, i1, i2⟩, _⟩ := BB3.out.1.three
         obtain ⟨⟨j0, j1, j2⟩, _⟩ := BB3.out.2.1.three
         clear x3 h3)
      | (go_at_call 134
         have _t := tok
         refine (rOne_ok na A1 n1 c1 A1' n1' c1' a _ HA3.out.1).mono ?_
         rintro e w4 ⟨A4, n4, c4, rfl, h4, l4, x4⟩
         clear tok
         have BB4 := Lib.hid (And.intro (BB3.out.1.keep x4) (And.intro (BB3.out.2.1.keep x4) (BB3.out.2.2.keep x4)))
         have E4 := Lib.hid (E3.out.tr x4)
         have R4 := Lib.hid (And.intro (R3.out.keep x4) h4)
         have HA4 := Lib.hid (HA3.out.2.keep x4)
         obtain ⟨⟨i0, i1, i2⟩, _⟩ := BB4.out.1.three
         obtain ⟨⟨j0, j1, j2⟩, _⟩ := BB4.out.2.1.three
         clear x4 h4)
      | (go_at_call 134
         refine (rOne_ok nb A2 n2 c2 A2' n2' c2' b _ HA4.out).mono ?_
         rintro e w5 ⟨A5, n5, c5, rfl, h5, l5, x5⟩
         have BB5 := Lib.hid (And.intro (BB4.out.1.keep x5) (And.intro (BB4.out.2.1.keep x5) (BB4.out.2.2.keep x5)))
         have E5 := Lib.hid (E4.out.tr x5)
         have R5 := Lib.hid (And.intro (R4.out.1.keep x5) (And.intro (R4.out.2.keep x5) h5))
         obtain ⟨⟨i0, i1, i2⟩, _⟩ := BB5.out.1.three
         obtain ⟨⟨j0, j1, j2⟩, _⟩ := BB5.out.2.1.three
         clear x5 h5)
      | (go_at_call 133
         refine (rMul_ok A4 A5 n4 c4 n5 c5 a.den b.den _ R5.out.2.1 R5.out.2.2 (by omega) (by omega)).mono ?_
         rintro e w6 ⟨A6, n6, c6, rfl, h6, x6, _⟩
         have BB6 := Lib.hid (And.intro (BB5.out.1.keep x6) (And.intro (BB5.out.2.1.keep x6) (BB5.out.2.2.keep x6)))
         have E6 := Lib.hid (E5.out.tr x6)
         have L6 := rmul_len h6 R5.out.2.1 R5.out.2.2
         have R6 := Lib.hid (And.intro (R5.out.1.keep x6) h6)
         obtain ⟨⟨i0, i1, i2⟩, _⟩ := BB6.out.1.three
         obtain ⟨⟨j0, j1, j2⟩, _⟩ := BB6.out.2.1.three
         clear x6 h6)
      | (go_at_call 115
         refine (rMade_ok (na != nb) A3 A6 n3 c3 n6 c6 _ _ _ R6.out.1 R6.out.2 (by omega) (by omega) hden).mono ?_
         rintro e w12 ⟨nq, B, m, d, B', m', d', rfl, h12, x12⟩
         rw [← HQ.out] at h12
         have B12 := Lib.hid (BB6.out.2.2.keep x12)
         have E12 := Lib.hid (E6.out.tr x12)
         obtain ⟨⟨p0, p1, p2⟩, f0, f1, f2⟩ := B12.out.three
         obtain ⟨r1, r2⟩ := rq_set3 (w := w) h12 B12.out (by omega) E12.out
         have q3 := ((B12.out.set_ 0 (.bool nq)).set_ 1 (.slice B m d)).set_ 2 (.slice B' m' d')
         have RF := Lib.hid (And.intro q3 (And.intro r1 r2))
         have hf := fun u0 u1 u2 => (((BB6.out.1.keep x12).far (p := ⟨w.heap.size + 1 + 1, 0, none⟩) (by simp; omega) u0).far (p := ⟨w.heap.size + 1 + 1, 1, none⟩) (by simp; omega) u1).far (p := ⟨w.heap.size + 1 + 1, 2, none⟩) (by simp; omega) u2
         have hg := fun u0 u1 u2 => (((BB6.out.2.1.keep x12).far (p := ⟨w.heap.size + 1 + 1, 0, none⟩) (by simp) u0).far (p := ⟨w.heap.size + 1 + 1, 1, none⟩) (by simp) u1).far (p := ⟨w.heap.size + 1 + 1, 2, none⟩) (by simp) u2
         have fj := fun u0 u1 u2 => And.intro ((hf u0 u1 u2).cell 0) (And.intro ((hf u0 u1 u2).cell 1) (And.intro ((hf u0 u1 u2).cell 2) (And.intro ((hg u0 u1 u2).cell 0) (And.intro ((hg u0 u1 u2).cell 1) ((hg u0 u1 u2).cell 2)))))
         obtain ⟨⟨i0, i1, i2⟩, _⟩ := (BB6.out.1.keep x12).three
         obtain ⟨⟨j0, j1, j2⟩, _⟩ := (BB6.out.2.1.keep x12).three
         clear x12 h12 q3 r1 r2)
      | fail)
  go_wp2
  exact bodyPost_ret (v := .agg #[.bool nq, .slice B m d, .slice B' m' d']) (by simp [results, Tryz.results98, go_sem, RF.out.1.cell]) rfl ⟨_, _, _, _, _, _, _, rfl, RF.out.2.1, RF.out.2.2⟩
/-- A quotient and no error. -/
def RQuoPostF (w : World) (q : Rat) (e : Ending) (w' : World) : Prop :=
  ∃ (neg : Bool) (A : Option Addr) (n c : Nat) (A' : Option Addr) (n' c' : Nat), e = .returned (.tuple #[.agg #[.bool neg, .slice A n c, .slice A' n' c'], .int .i64 0]) ∧ RQR w' neg A n c A' n' c' q ∧ Ext w w' ∧ FrsR w A A'
def RQuoPost (w : World) (q : Rat) (e : Ending) (w' : World) : Prop :=
  ∃ (neg : Bool) (A : Option Addr) (n c : Nat) (A' : Option Addr) (n' c' : Nat), e = .returned (.tuple #[.agg #[.bool neg, .slice A n c, .slice A' n' c'], .int .i64 0]) ∧ RQR w' neg A n c A' n' c' q ∧ Ext w w'
set_option maxRecDepth 100000 in
set_option maxHeartbeats 4000000 in
theorem rqDiv_fr (na nb : Bool) (A1 : Option Addr) (n1 c1 : Nat) (A1' : Option Addr) (n1' c1' : Nat) (A2 : Option Addr) (n2 c2 : Nat) (A2' : Option Addr) (n2' c2' : Nat) (a b : Rat) (w : World)
    (ha : RQR w na A1 n1 c1 A1' n1' c1' a) (hb : RQR w nb A2 n2 c2 A2' n2' c2' b) (hb0 : b ≠ 0) (l1 : n1 ≤ 200000) (l1' : n1' ≤ 200000) (l2 : n2 ≤ 200000) (l2' : n2' ≤ 200000) :
    Calls Tryz.prog 97 #[.agg #[.bool na, .slice A1 n1 c1, .slice A1' n1' c1'], .agg #[.bool nb, .slice A2 n2 c2, .slice A2' n2' c2']] w (RQuoPostF w (a / b)) := by
  have hq := div_mkQ a b hb0
  rw [← ha.1, ← hb.1] at hq
  have hq : a / b = mkQ (na != nb) (a.num.natAbs * b.den) (a.den * b.num.natAbs) := by rw [hq, Nat.mul_comm b.num.natAbs]
  have HQ := Lib.hid hq
  have hnb : b.num ≠ 0 := fun e => hb0 (Rat.num_eq_zero.1 e)
  have hden : 0 < a.den * b.num.natAbs := Nat.mul_pos a.den_pos (by omega)
  obtain ⟨b0, b1, b2, e0⟩ := boxes3 w #[.bool na, .slice A1 n1 c1, .slice A1' n1' c1'] 51 #[.bool nb, .slice A2 n2 c2, .slice A2' n2' c2'] 51 #[.bool false, .slice none 0 0, .slice none 0 0] 51
  have x1 : Ext (((w.alloc (.cells #[.bool na, .slice A1 n1 c1, .slice A1' n1' c1'] 51)).alloc (.cells #[.bool nb, .slice A2 n2 c2, .slice A2' n2' c2'] 51)).alloc (.cells #[.bool false, .slice none 0 0, .slice none 0 0] 51)) (((w.alloc (.cells #[.bool na, .slice A1 n1 c1, .slice A1' n1' c1'] 51)).alloc (.cells #[.bool nb, .slice A2 n2 c2, .slice A2' n2' c2'] 51)).alloc (.cells #[.bool false, .slice none 0 0, .slice none 0 0] 51)).drew := (Ext.refl _).drewN 1
  have HA := Lib.hid (And.intro ((ha.keep e0).keep x1) ((hb.keep e0).keep x1))
  have E0 := Lib.hid (e0.tr x1)
  have BB := Lib.hid (And.intro (b0.keep x1) (And.intro (b1.keep x1) (b2.keep x1)))
  obtain ⟨⟨i0, i1, i2⟩, _⟩ := BB.out.1.three
  obtain ⟨⟨j0, j1, j2⟩, _⟩ := BB.out.2.1.three
  clear ha hb b0 b1 b2 e0 x1 hq hnb hb0
  have tok : True := trivial
  have tom : True := trivial
  go_enter Tryz.func97, Tryz.ntmps97
  go_wp2
  go_region_held3 (fun w' => w'.cell? ⟨w.heap.size, 0, none⟩ = some (.bool na) ∧ w'.cell? ⟨w.heap.size, 1, none⟩ = some (.slice A1 n1 c1) ∧ w'.cell? ⟨w.heap.size, 2, none⟩ = some (.slice A1' n1' c1') ∧ w'.cell? ⟨w.heap.size + 1, 0, none⟩ = some (.bool nb) ∧ w'.cell? ⟨w.heap.size + 1, 1, none⟩ = some (.slice A2 n2 c2) ∧ w'.cell? ⟨w.heap.size + 1, 2, none⟩ = some (.slice A2' n2' c2'))
    (first | with_reducible exact ⟨i0, i1, i2, j0, j1, j2⟩ | exact fj _ _ _ | fail)
    (first
      | (go_at_call 134
         have _t := tok
         refine (rOne_ok nb A2 n2 c2 A2' n2' c2' b _ HA.out.2).mono ?_
         rintro e w3 ⟨A3, n3, c3, rfl, h3, l3, x3⟩
         clear tok
         have BB3 := Lib.hid (And.intro (BB.out.1.keep x3) (And.intro (BB.out.2.1.keep x3) (BB.out.2.2.keep x3)))
         have E3 := Lib.hid (E0.out.tr x3)
         have R3 := Lib.hid h3
         have HA3 := Lib.hid (And.intro (HA.out.1.keep x3) (HA.out.2.keep x3))
         obtain ⟨⟨i0, i1, i2⟩, _⟩ := BB3.out.1.three
         obtain ⟨⟨j0, j1, j2⟩, _⟩ := BB3.out.2.1.three
         clear x3 h3)
      | (go_at_call 133
         have _t := tom
         refine (rMul_ok A1 A3 n1 c1 n3 c3 a.num.natAbs b.den _ HA3.out.1.2.1 R3.out (by omega) (by omega)).mono ?_
         rintro e w4 ⟨A4, n4, c4, rfl, h4, x4, _⟩
         clear tom
         have BB4 := Lib.hid (And.intro (BB3.out.1.keep x4) (And.intro (BB3.out.2.1.keep x4) (BB3.out.2.2.keep x4)))
         have E4 := Lib.hid (E3.out.tr x4)
         have L4 := rmul_len h4 HA3.out.1.2.1 R3.out
         have R4 := Lib.hid h4
         have HA4 := Lib.hid (And.intro (HA3.out.1.keep x4) (HA3.out.2.keep x4))
         obtain ⟨⟨i0, i1, i2⟩, _⟩ := BB4.out.1.three
         obtain ⟨⟨j0, j1, j2⟩, _⟩ := BB4.out.2.1.three
         clear x4 h4)
      | (go_at_call 134
         refine (rOne_ok na A1 n1 c1 A1' n1' c1' a _ HA4.out.1).mono ?_
         rintro e w5 ⟨A5, n5, c5, rfl, h5, l5, x5⟩
         have BB5 := Lib.hid (And.intro (BB4.out.1.keep x5) (And.intro (BB4.out.2.1.keep x5) (BB4.out.2.2.keep x5)))
         have E5 := Lib.hid (E4.out.tr x5)
         have R5 := Lib.hid (And.intro (R4.out.keep x5) (And.intro h5 (HA4.out.2.keep x5)))
         obtain ⟨⟨i0, i1, i2⟩, _⟩ := BB5.out.1.three
         obtain ⟨⟨j0, j1, j2⟩, _⟩ := BB5.out.2.1.three
         clear x5 h5)
      | (go_at_call 133
         refine (rMul_ok A5 A2 n5 c5 n2 c2 a.den b.num.natAbs _ R5.out.2.1 R5.out.2.2.2.1 (by omega) (by omega)).mono ?_
         rintro e w6 ⟨A6, n6, c6, rfl, h6, x6, _⟩
         have BB6 := Lib.hid (And.intro (BB5.out.1.keep x6) (And.intro (BB5.out.2.1.keep x6) (BB5.out.2.2.keep x6)))
         have E6 := Lib.hid (E5.out.tr x6)
         have L6 := rmul_len h6 R5.out.2.1 R5.out.2.2.2.1
         have R6 := Lib.hid (And.intro (R5.out.1.keep x6) h6)
         obtain ⟨⟨i0, i1, i2⟩, _⟩ := BB6.out.1.three
         obtain ⟨⟨j0, j1, j2⟩, _⟩ := BB6.out.2.1.three
         clear x6 h6)
      | (go_at_call 142
         refine (rMake_fr (na != nb) A4 A6 n4 c4 n6 c6 _ _ _ R6.out.1 R6.out.2 (by omega) (by omega) hden).mono ?_
         rintro e w12 ⟨nq, B, m, d, B', m', d', rfl, h12, x12, fr12⟩
         have FR := Lib.hid (fr12.le E6.out.size)
         clear fr12
         rw [← HQ.out] at h12
         have B12 := Lib.hid (BB6.out.2.2.keep x12)
         have E12 := Lib.hid (E6.out.tr x12)
         obtain ⟨⟨p0, p1, p2⟩, f0, f1, f2⟩ := B12.out.three
         obtain ⟨r1, r2⟩ := rq_set3 (w := w) h12 B12.out (by omega) E12.out
         have q3 := ((B12.out.set_ 0 (.bool nq)).set_ 1 (.slice B m d)).set_ 2 (.slice B' m' d')
         have RF := Lib.hid (And.intro q3 (And.intro r1 r2))
         have hf := fun u0 u1 u2 => (((BB6.out.1.keep x12).far (p := ⟨w.heap.size + 1 + 1, 0, none⟩) (by simp; omega) u0).far (p := ⟨w.heap.size + 1 + 1, 1, none⟩) (by simp; omega) u1).far (p := ⟨w.heap.size + 1 + 1, 2, none⟩) (by simp; omega) u2
         have hg := fun u0 u1 u2 => (((BB6.out.2.1.keep x12).far (p := ⟨w.heap.size + 1 + 1, 0, none⟩) (by simp) u0).far (p := ⟨w.heap.size + 1 + 1, 1, none⟩) (by simp) u1).far (p := ⟨w.heap.size + 1 + 1, 2, none⟩) (by simp) u2
         have fj := fun u0 u1 u2 => And.intro ((hf u0 u1 u2).cell 0) (And.intro ((hf u0 u1 u2).cell 1) (And.intro ((hf u0 u1 u2).cell 2) (And.intro ((hg u0 u1 u2).cell 0) (And.intro ((hg u0 u1 u2).cell 1) ((hg u0 u1 u2).cell 2)))))
         obtain ⟨⟨i0, i1, i2⟩, _⟩ := (BB6.out.1.keep x12).three
         obtain ⟨⟨j0, j1, j2⟩, _⟩ := (BB6.out.2.1.keep x12).three
         clear x12 h12 q3 r1 r2)
      | fail)
  go_wp2
  exact bodyPost_ret (v := .tuple #[.agg #[.bool nq, .slice B m d, .slice B' m' d'], .int .i64 0]) (by simp [results, Tryz.results97, go_sem, RF.out.1.cell]) rfl ⟨_, _, _, _, _, _, _, rfl, RF.out.2.1, RF.out.2.2, FR.out⟩
theorem rqDiv_ok (na nb : Bool) (A1 : Option Addr) (n1 c1 : Nat) (A1' : Option Addr) (n1' c1' : Nat) (A2 : Option Addr) (n2 c2 : Nat) (A2' : Option Addr) (n2' c2' : Nat) (a b : Rat) (w : World)
    (ha : RQR w na A1 n1 c1 A1' n1' c1' a) (hb : RQR w nb A2 n2 c2 A2' n2' c2' b) (hb0 : b ≠ 0) (l1 : n1 ≤ 200000) (l1' : n1' ≤ 200000) (l2 : n2 ≤ 200000) (l2' : n2' ≤ 200000) :
    Calls Tryz.prog 97 #[.agg #[.bool na, .slice A1 n1 c1, .slice A1' n1' c1'], .agg #[.bool nb, .slice A2 n2 c2, .slice A2' n2' c2']] w (RQuoPost w (a / b)) := (rqDiv_fr na nb A1 n1 c1 A1' n1' c1' A2 n2 c2 A2' n2' c2' a b w ha hb hb0 l1 l1' l2 l2').mono fun e w' ⟨neg, A, n, c, A', n', c', k0, k1, k2, _⟩ => ⟨neg, A, n, c, A', n', c', k0, k1, k2⟩
end Go.Proofs.YtekiomanidimnaaGreatDoor


namespace Go.Proofs.YtekiomanidimnaaGreatDoor
open Go.RowKit
theorem B32_G6 (k : Nat) : B32 ^ k ≤ G6 ^ (2 * k) := by
  rw [Nat.pow_mul]
  exact Nat.pow_le_pow_left (by decide) k
theorem RQR.lensB {w : World} {neg : Bool} {A : Option Addr} {n c : Nat} {A' : Option Addr} {n' c' : Nat} {q : Rat} {k : Nat} (h : RQR w neg A n c A' n' c' q) (hs : SzQ q k) : n ≤ 2 * k ∧ n' ≤ 2 * k := by
  refine ⟨h.2.1.lenOf (Nat.lt_of_lt_of_le hs.1 (B32_G6 k)), h.2.2.lenOf ?_⟩
  unfold dk
  split
  · exact Nat.pow_pos G6_pos
  · exact Nat.lt_of_lt_of_le hs.2 (B32_G6 k)
end Go.Proofs.YtekiomanidimnaaGreatDoor


namespace Go.Proofs.YtekiomanidimnaaGreatDoor
open Go.RowKit
theorem ofQ_intq (T : Nat) : ofQ (T : Int) 1 = ((T : Int) : Rat) := by
  unfold ofQ mkQ
  rw [decide_eq_false (by omega), Int.natAbs_natCast]
  simp [Rat.mkRat_one]
set_option maxRecDepth 100000 in
set_option maxHeartbeats 2000000 in
theorem rqInt_ok (T : Nat) (hT : T ≤ 65536) (w : World) :
    Calls Tryz.prog 99 #[.int .i64 (T : Int)] w (RQPost w ((T : Int) : Rat)) := by
  obtain ⟨hbr, e0⟩ := boxes1 w #[.bool false, .slice none 0 0, .slice none 0 0] 51
  go_enter Tryz.func99, Tryz.ntmps99
  go_wp2_with fail
  refine (rOf_ok (T : Int) 1 _ (by omega) (by omega) (by omega) (by omega) (by decide)).mono ?_
  rintro e w1 ⟨nq, B, m, d, B', m', d', rfl, h1, x1⟩
  rw [ofQ_intq] at h1
  have hbr := hbr.keep x1
  obtain ⟨⟨k0, k1, k2⟩, f0, f1, f2⟩ := hbr.three
  obtain ⟨r1, r2⟩ := rq_set3 (w := w) h1 hbr (by omega) (e0.tr x1)
  have RF := Lib.hid (And.intro r1 r2)
  clear h1 x1 r1 r2 e0
  go_wp2
  exact bodyPost_ret (v := .agg #[.bool nq, .slice B m d, .slice B' m' d']) (by simp [results, Tryz.results99, go_sem, (((hbr.set_ 0 _).set_ 1 _).set_ 2 _).cell]) rfl ⟨_, _, _, _, _, _, _, rfl, RF.out.1, RF.out.2⟩
/-- The greater of two numbers. -/
def maxQ (a b : Rat) : Rat := if 0 ≤ cmpQ a b then a else b
set_option maxRecDepth 100000 in
set_option maxHeartbeats 2000000 in
theorem rqMax_ok (na nb : Bool) (A1 : Option Addr) (n1 c1 : Nat) (A1' : Option Addr) (n1' c1' : Nat) (A2 : Option Addr) (n2 c2 : Nat) (A2' : Option Addr) (n2' c2' : Nat) (a b : Rat) (w : World)
    (ha : RQR w na A1 n1 c1 A1' n1' c1' a) (hb : RQR w nb A2 n2 c2 A2' n2' c2' b) (l1 : n1 ≤ 200000) (l1' : n1' ≤ 200000) (l2 : n2 ≤ 200000) (l2' : n2' ≤ 200000) :
    Calls Tryz.prog 105 #[.agg #[.bool na, .slice A1 n1 c1, .slice A1' n1' c1'], .agg #[.bool nb, .slice A2 n2 c2, .slice A2' n2' c2']] w (RQPost w (maxQ a b)) := by
  obtain ⟨b0, b1, b2, e0⟩ := boxes3 w #[.bool na, .slice A1 n1 c1, .slice A1' n1' c1'] 51 #[.bool nb, .slice A2 n2 c2, .slice A2' n2' c2'] 51 #[.bool false, .slice none 0 0, .slice none 0 0] 51
  have HA := Lib.hid (And.intro (ha.keep e0) (hb.keep e0))
  have BB := Lib.hid (And.intro b0 (And.intro b1 b2))
  obtain ⟨⟨i0, i1, i2⟩, _⟩ := b0.three
  obtain ⟨⟨j0, j1, j2⟩, _⟩ := b1.three
  have E0 := Lib.hid (e0)
  clear ha hb b0 b1 b2 e0
  go_enter Tryz.func105, Tryz.ntmps105
  go_wp2_with fail
  refine (rqCmp_ok na nb A1 n1 c1 A1' n1' c1' A2 n2 c2 A2' n2' c2' a b _ HA.out.1 HA.out.2 l1 l1' l2 l2').mono ?_
  rintro e w3 ⟨rfl, x3⟩
  have B3 := Lib.hid (And.intro (BB.out.1.keep x3) (And.intro (BB.out.2.1.keep x3) (BB.out.2.2.keep x3)))
  have E3 := Lib.hid (E0.out.tr x3)
  have R3 := Lib.hid (And.intro (HA.out.1.keep x3) (HA.out.2.keep x3))
  clear x3 BB HA E0 i0 i1 i2 j0 j1 j2
  have hbr := B3.out.2.2
  obtain ⟨⟨k0, k1, k2⟩, f0, f1, f2⟩ := hbr.three
  by_cases hc : 0 ≤ cmpQ a b
  · have HM := Lib.hid (show maxQ a b = a by unfold maxQ; rw [if_pos hc])
    obtain ⟨⟨i0, i1, i2⟩, _⟩ := B3.out.1.three
    obtain ⟨r1, r2⟩ := rq_set3 (w := w) R3.out.1 hbr (by omega) E3.out
    have RF := Lib.hid (And.intro r1 r2)
    clear r1 r2 R3
    generalize cmpQ a b = cc at *
    go_wp2
    exact bodyPost_ret (v := .agg #[.bool na, .slice A1 n1 c1, .slice A1' n1' c1']) (by simp [results, Tryz.results105, go_sem, (((hbr.set_ 0 _).set_ 1 _).set_ 2 _).cell]) rfl ⟨_, _, _, _, _, _, _, rfl, by rw [HM.out]; exact RF.out.1, RF.out.2⟩
  · have HM := Lib.hid (show maxQ a b = b by unfold maxQ; rw [if_neg hc])
    obtain ⟨⟨i0, i1, i2⟩, _⟩ := B3.out.2.1.three
    obtain ⟨r1, r2⟩ := rq_set3 (w := w) R3.out.2 hbr (by omega) E3.out
    have RF := Lib.hid (And.intro r1 r2)
    clear r1 r2 R3
    generalize cmpQ a b = cc at *
    go_wp2
    exact bodyPost_ret (v := .agg #[.bool nb, .slice A2 n2 c2, .slice A2' n2' c2']) (by simp [results, Tryz.results105, go_sem, (((hbr.set_ 0 _).set_ 1 _).set_ 2 _).cell]) rfl ⟨_, _, _, _, _, _, _, rfl, by rw [HM.out]; exact RF.out.1, RF.out.2⟩
set_option maxRecDepth 100000 in
set_option maxHeartbeats 4000000 in
theorem rqFloor_fr (A1 : Option Addr) (n1 c1 : Nat) (A1' : Option Addr) (n1' c1' : Nat) (a : Rat) (w : World) (ha : RQR w false A1 n1 c1 A1' n1' c1' a) (l1 : n1 ≤ 200000) (l1' : n1' ≤ 200000) :
    Calls Tryz.prog 100 #[.agg #[.bool false, .slice A1 n1 c1, .slice A1' n1' c1']] w (RQPostF w (flQ a)) := by
  obtain ⟨b0, b1, e0⟩ := boxes2 w #[.bool false, .slice A1 n1 c1, .slice A1' n1' c1'] 51 #[.bool false, .slice none 0 0, .slice none 0 0] 51
  have x1 : Ext ((w.alloc (.cells #[.bool false, .slice A1 n1 c1, .slice A1' n1' c1'] 51)).alloc (.cells #[.bool false, .slice none 0 0, .slice none 0 0] 51)) ((w.alloc (.cells #[.bool false, .slice A1 n1 c1, .slice A1' n1' c1'] 51)).alloc (.cells #[.bool false, .slice none 0 0, .slice none 0 0] 51)).drew := (Ext.refl _).drewN 1
  have HA := Lib.hid ((ha.keep e0).keep x1)
  have E0 := Lib.hid (e0.tr x1)
  have BB := Lib.hid (And.intro (b0.keep x1) (b1.keep x1))
  obtain ⟨⟨i0, i1, i2⟩, _⟩ := BB.out.1.three
  have hden := a.den_pos
  clear ha b0 b1 e0 x1
  go_enter Tryz.func100, Tryz.ntmps100
  go_wp2
  go_region_held3 (fun w' => w'.cell? ⟨w.heap.size, 0, none⟩ = some (.bool false) ∧ w'.cell? ⟨w.heap.size, 1, none⟩ = some (.slice A1 n1 c1) ∧ w'.cell? ⟨w.heap.size, 2, none⟩ = some (.slice A1' n1' c1'))
    (first | with_reducible exact ⟨i0, i1, i2⟩ | fail)
    (first
      | (go_at_call 134
         refine (rOne_ok false A1 n1 c1 A1' n1' c1' a _ HA.out).mono ?_
         rintro e w3 ⟨A3, n3, c3, rfl, h3, l3, x3⟩
         have B3 := Lib.hid (And.intro (BB.out.1.keep x3) (BB.out.2.keep x3))
         have E3 := Lib.hid (E0.out.tr x3)
         have R3 := Lib.hid (And.intro h3 (HA.out.2.1.keep x3))
         obtain ⟨⟨i0, i1, i2⟩, _⟩ := B3.out.1.three
         clear x3 h3)
      | (go_at_call 143
         refine (rDivMod_ok A1 A3 n1 c1 n3 c3 a.num.natAbs a.den _ R3.out.2 R3.out.1 (by omega) (by omega) hden).mono ?_
         rintro e w4 ⟨Q, m, d, Q', m', d', rfl, h4, h4', x4⟩
         have L4 := h4.lenOf (Nat.lt_of_le_of_lt (Nat.div_le_self _ _) R3.out.2.lt_pow)
         have B4 := Lib.hid (And.intro (B3.out.1.keep x4) (B3.out.2.keep x4))
         have E4 := Lib.hid (E3.out.tr x4)
         have R4 := Lib.hid h4
         obtain ⟨⟨i0, i1, i2⟩, _⟩ := B4.out.1.three
         clear x4 h4 h4')
      | fail)
  have XD := Lib.hid (show Ext w4 w4.drew from (Ext.refl w4).drewN 1)
  have BD := Lib.hid (And.intro (B4.out.1.keep XD.out) (B4.out.2.keep XD.out))
  have ED := Lib.hid (E4.out.tr XD.out)
  have RD := Lib.hid (R4.out.keep XD.out)
  clear BB B3 E0 E3 R3 HA
  have j0 : w4.drew.cell? ⟨w.heap.size, 0, none⟩ = some (.bool false) := i0
  go_wp2
  go_region_held3 (fun w' => w'.cell? ⟨w.heap.size, 0, none⟩ = some (.bool false))
    (first | with_reducible exact j0 | exact fj _ _ _ | fail)
    (first
      | (go_at_call 144
         refine (refOf_ok 1 _ (by decide)).mono ?_
         rintro e w5 ⟨A5, n5, c5, rfl, h5, x5, _⟩
         have hm : n5 ≤ 1 := h5.lenOf (by decide)
         have B5 := Lib.hid (And.intro (BD.out.1.keep x5) (BD.out.2.keep x5))
         have E5 := Lib.hid (ED.out.tr x5)
         have R5 := Lib.hid (And.intro (RD.out.keep x5) h5)
         obtain ⟨⟨j0, _, _⟩, _⟩ := B5.out.1.three
         clear x5 h5)
      | (go_at_call 115
         refine (rMade_fr false Q A5 m d n5 c5 _ _ _ R5.out.1 R5.out.2 (by omega) (by omega) (by decide)).mono ?_
         rintro e w6 ⟨nq, B, k, f, B', k', f', rfl, h6, x6, fr6⟩
         have FR := Lib.hid (fr6.le E5.out.size)
         clear fr6
         have B6 := Lib.hid (And.intro (B5.out.1.keep x6) (B5.out.2.keep x6))
         have E6 := Lib.hid (E5.out.tr x6)
         obtain ⟨⟨j0, _, _⟩, _⟩ := B6.out.1.three
         obtain ⟨⟨p0, p1, p2⟩, f0, f1, f2⟩ := B6.out.2.three
         obtain ⟨r1, r2⟩ := rq_set3 (w := w) h6 B6.out.2 (by omega) E6.out
         have q3 := ((B6.out.2.set_ 0 (.bool nq)).set_ 1 (.slice B k f)).set_ 2 (.slice B' k' f')
         have RF := Lib.hid (And.intro q3 (And.intro r1 r2))
         have fj := fun u0 u1 u2 => (((B6.out.1.far (p := ⟨w.heap.size + 1, 0, none⟩) (by simp) u0).far (p := ⟨w.heap.size + 1, 1, none⟩) (by simp) u1).far (p := ⟨w.heap.size + 1, 2, none⟩) (by simp) u2).cell 0
         clear x6 h6 q3 r1 r2)
      | fail)
  go_wp2
  exact bodyPost_ret (v := .agg #[.bool nq, .slice B k f, .slice B' k' f']) (by simp [results, Tryz.results100, go_sem, RF.out.1.cell]) rfl ⟨_, _, _, _, _, _, _, rfl, RF.out.2.1, RF.out.2.2, FR.out⟩
theorem rqFloor_ok (A1 : Option Addr) (n1 c1 : Nat) (A1' : Option Addr) (n1' c1' : Nat) (a : Rat) (w : World) (ha : RQR w false A1 n1 c1 A1' n1' c1' a) (l1 : n1 ≤ 200000) (l1' : n1' ≤ 200000) :
    Calls Tryz.prog 100 #[.agg #[.bool false, .slice A1 n1 c1, .slice A1' n1' c1']] w (RQPost w (flQ a)) := (rqFloor_fr A1 n1 c1 A1' n1' c1' a w ha l1 l1').mono fun e w' h => h.ok
theorem sumQ_append (l m : List Rat) : sumQ (l ++ m) = sumQ l + sumQ m := by
  induction l with
  | nil => show sumQ m = 0 + sumQ m; rw [Rat.zero_add]
  | cons a l ih => show a + sumQ (l ++ m) = a + sumQ l + sumQ m; rw [ih, Rat.add_assoc]
theorem sumQ_next (l : List Rat) (i : Nat) (q : Rat) (h : l[i]? = some q) : sumQ (l.take (i + 1)) = sumQ (l.take i) + q := by
  rw [List.take_add_one, h, sumQ_append]
  show _ + (q + 0) = _
  rw [Rat.add_zero]
theorem SzR.mono {C D : Nat} (h : C ≤ D) : ∀ {l : List Rat}, SzR l C → SzR l D
  | [], _ => trivial
  | a :: l, ⟨k, E, h1, h2, h3⟩ => ⟨k, E, h1, h2, by omega⟩
theorem SzR.take : ∀ {l : List Rat} {C : Nat} (i : Nat), SzR l C → SzR (l.take i) C
  | [], _, i, _ => by simp [SzR]
  | a :: l, C, 0, _ => trivial
  | a :: l, C, i + 1, ⟨k, D, h1, h2, h3⟩ => ⟨k, D, h1, SzR.take i h2, h3⟩
theorem rqR_nil (w : World) : RQR w false none 0 0 none 0 0 0 := ⟨by decide, GrpR.zero _ _ _, GrpR.zero _ _ _⟩
set_option maxRecDepth 100000 in
set_option maxHeartbeats 4000000 in
theorem rqSum_ok (P : Option Addr) (n c : Nat) (qs : List Rat) (hn : qs.length = n) (hn2 : n ≤ 1000000) (C : Nat) (hC : C ≤ 90000) (hsz : SzR qs C) (w : World) (hq : QLg RQC w P qs) :
    Calls Tryz.prog 96 #[.slice P n c] w (RQPost w (sumQ qs)) := by
  obtain ⟨b0, b1, e0⟩ := boxes2 w #[.bool false, .slice none 0 0, .slice none 0 0] 51 #[.bool false, .slice none 0 0, .slice none 0 0] 51
  have HQ := Lib.hid hq
  have HN := Lib.hid hn
  have HS := Lib.hid hsz
  have BB := Lib.hid (And.intro b0 b1)
  have E0 := Lib.hid (e0)
  clear b0 b1 e0 hq hn hsz
  go_enter Tryz.func96, Tryz.ntmps96
  go_wp2
  go_loopg [4] n (fun j it wr => ∃ (i : Nat) (neg : Bool) (A1 : Option Addr) (k1 d1 : Nat) (A2 : Option Addr) (k2 d2 : Nat), n - i = j ∧ i ≤ n ∧ it = .int .i64 i ∧ Hid (Blk wr w.heap.size 51 #[.bool false, .slice none 0 0, .slice none 0 0]) ∧ Hid (Blk wr (w.heap.size + 1) 51 #[.bool neg, .slice A1 k1 d1, .slice A2 k2 d2]) ∧ Hid (RQR wr neg A1 k1 d1 A2 k2 d2 (sumQ (qs.take i))) ∧ Hid (Ext w wr))
  case atStart => exact ⟨0, false, none, 0, 0, none, 0, 0, rfl, Nat.zero_le _, rfl, Lib.hid BB.out.1, Lib.hid BB.out.2, Lib.hid (rqR_nil _), E0⟩
  case round =>
    obtain ⟨i, neg, A1, k1, d1, A2, k2, d2, rfl, hi, rfl, B0, B1, RS, EX⟩ := hrel
    clear BB E0
    by_cases hin : i < n
    · obtain ⟨q, hqi⟩ : ∃ q, qs[i]? = some q := ⟨_, List.getElem?_eq_getElem (by rw [HN.out]; exact hin)⟩
      have XD := Lib.hid (show Ext wr wr.drew from (Ext.refl wr).drewN 1)
      obtain ⟨bq, oq, nx, X1, m1, e1, X2, m2, e2, hPP, hbq, i0', i1', i2', hQ'⟩ := HQ.out.at_ hqi
      subst hPP
      have EXD := Lib.hid (EX.out.tr XD.out)
      have i0 := (EXD.out.cell (p := ⟨bq, oq + i * 3, none⟩) hbq).trans i0'
      have i1 := (EXD.out.cell (p := ⟨bq, oq + i * 3 + 1, none⟩) hbq).trans i1'
      have i2 := (EXD.out.cell (p := ⟨bq, oq + i * 3 + 2, none⟩) hbq).trans i2'
      have IC := Lib.hid (And.intro hbq (And.intro i0' (And.intro i1' i2')))
      have BD := Lib.hid (And.intro (B0.out.keep XD.out) (B1.out.keep XD.out))
      have RD := Lib.hid (And.intro (RS.out.keep XD.out) (hQ'.keep EXD.out))
      obtain ⟨lx1, lx2⟩ := hQ'.lensB (HS.out.mem q (List.mem_of_getElem? hqi))
      obtain ⟨ls1, ls2⟩ := RS.out.lensB (HS.out.take i).sum
      obtain ⟨⟨s0, s1, s2⟩, z0, z1, z2⟩ := BD.out.2.three
      have PN := Lib.hid (sumQ_next qs i q hqi)
      have iN : (i : Int) < (n : Int) := by omega
      have wu1 : IntKind.i64.wrap (i : Int) = (i : Int) := IntWalk.i64_in _ (by omega)
      clear hQ' i0' i1' i2' hqi
      go_wp2
      go_region_with ((
             go_at_call 78
             refine (rqAdd_ok neg nx A1 k1 d1 A2 k2 d2 X1 m1 e1 X2 m2 e2 _ q _ RD.out.1 RD.out.2 (by omega) (by omega) (by omega) (by omega)).mono ?_
             rintro e w6 ⟨n6, A6, l6, c6, A6', l6', c6', rfl, h6, x6⟩
             rw [← PN.out] at h6
             have E6 := Lib.hid (EXD.out.tr x6)
             have B6 := Lib.hid (And.intro (BD.out.1.keep x6) (BD.out.2.keep x6))
             have i0 := (E6.out.cell (p := ⟨bq, oq + i * 3, none⟩) IC.out.1).trans IC.out.2.1
             have i1 := (E6.out.cell (p := ⟨bq, oq + i * 3 + 1, none⟩) IC.out.1).trans IC.out.2.2.1
             have i2 := (E6.out.cell (p := ⟨bq, oq + i * 3 + 2, none⟩) IC.out.1).trans IC.out.2.2.2
             obtain ⟨⟨s0, s1, s2⟩, z0, z1, z2⟩ := B6.out.2.three
             obtain ⟨r1, r2⟩ := rq_set3 (w := w) h6 B6.out.2 (by omega) E6.out
             have RF := Lib.hid (And.intro r1 r2)
             clear r1 r2 h6 x6))
      all_goals
        go_wp2
        go_roundg (n - (i + 1))
        case measure => omega
        case rel => exact ⟨i + 1, n6, A6, l6, c6, A6', l6', c6', rfl, by omega, by go_num, Lib.hid (((B6.out.1.far (p := ⟨w.heap.size + 1, 0, none⟩) (by simp) _).far (p := ⟨w.heap.size + 1, 1, none⟩) (by simp) _).far (p := ⟨w.heap.size + 1, 2, none⟩) (by simp) _), Lib.hid (((B6.out.2.set_ 0 _).set_ 1 _).set_ 2 _), Lib.hid RF.out.1, Lib.hid RF.out.2⟩
    · obtain rfl : i = n := by omega
      have hlt : ¬ (i : Int) < (i : Int) := by omega
      have R := Lib.hid (show RQR wr neg A1 k1 d1 A2 k2 d2 (sumQ qs) by
        have := RS.out
        rw [List.take_of_length_le (by rw [HN.out]; omega)] at this; exact this)
      have hbr := B0.out
      obtain ⟨⟨p0, p1, p2⟩, f0, f1, f2⟩ := hbr.three
      obtain ⟨⟨s0, s1, s2⟩, _⟩ := B1.out.three
      obtain ⟨r1, r2⟩ := rq_set3 (w := w) R.out hbr (Nat.le_refl _) EX.out
      have RF := Lib.hid (And.intro r1 r2)
      clear r1 r2 RS R
      go_wp2
      exact bodyPost_ret (v := .agg #[.bool neg, .slice A1 k1 d1, .slice A2 k2 d2]) (by simp [results, Tryz.results96, go_sem, (((hbr.set_ 0 _).set_ 1 _).set_ 2 _).cell]) rfl ⟨_, _, _, _, _, _, _, rfl, RF.out.1, RF.out.2⟩
end Go.Proofs.YtekiomanidimnaaGreatDoor
