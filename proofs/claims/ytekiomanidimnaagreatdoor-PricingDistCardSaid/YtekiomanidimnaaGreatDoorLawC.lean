/- waypointlaw42.is, waypointlaw42.PricingPrice: the walk: it returns true. -/
import Derived.Test.YtekiomanidimnaaGreatDoorPriceR
set_option linter.unusedVariables false
set_option linter.unusedSimpArgs false

namespace Go.Proofs.YtekiomanidimnaaGreatDoor
open Go.RowKit
set_option maxRecDepth 100000 in
set_option maxHeartbeats 2000000 in
theorem is_ok (na : Bool) (A1 : Option Addr) (n1 c1 : Nat) (A1' : Option Addr) (n1' c1' : Nat) (nb : Bool) (A2 : Option Addr) (n2 c2 : Nat) (A2' : Option Addr) (n2' c2' : Nat) (q : Rat) (w : World)
    (ha : RatR w na A1 n1 c1 A1' n1' c1' q) (hb : RQR w nb A2 n2 c2 A2' n2' c2' q) (l1 : n1 ≤ 1000000) (l1' : n1' ≤ 1000000) (l2 : n2 ≤ 1000000) (l2' : n2' ≤ 1000000) (hT : Tab w) :
    Calls Tryz.prog 24 #[.agg #[.bool na, .slice A1 n1 c1, .slice A1' n1' c1'], .agg #[.bool nb, .slice A2 n2 c2, .slice A2' n2' c2']] w fun e w' => e = .returned (.bool true) ∧ Ext w w' := by
  obtain ⟨b0, b1, e0⟩ := boxes2 w #[.bool na, .slice A1 n1 c1, .slice A1' n1' c1'] 44 #[.bool nb, .slice A2 n2 c2, .slice A2' n2' c2'] 51
  have e0' : Ext w ((w.alloc (.cells #[.bool na, .slice A1 n1 c1, .slice A1' n1' c1'] 44)).alloc (.cells #[.bool nb, .slice A2 n2 c2, .slice A2' n2' c2'] 51)).drew := e0.drewN 1
  have b0' : Blk ((w.alloc (.cells #[.bool na, .slice A1 n1 c1, .slice A1' n1' c1'] 44)).alloc (.cells #[.bool nb, .slice A2 n2 c2, .slice A2' n2' c2'] 51)).drew _ _ _ := b0
  have b1' : Blk ((w.alloc (.cells #[.bool na, .slice A1 n1 c1, .slice A1' n1' c1'] 44)).alloc (.cells #[.bool nb, .slice A2 n2 c2, .slice A2' n2' c2'] 51)).drew _ _ _ := b1
  have HA := Lib.hid (And.intro (ha.keep e0') (And.intro (hb.keep e0') (hT.keep e0')))
  have E0 := Lib.hid (e0')
  have BB := Lib.hid (And.intro b0' b1')
  obtain ⟨⟨i0, i1, i2⟩, _⟩ := b0'.three
  obtain ⟨⟨j0, j1, j2⟩, _⟩ := b1'.three
  clear ha hb hT b0 b1 e0 b0' b1' e0'
  obtain ⟨tx, htx⟩ : ∃ tx : ByteArray, tx = ⟨(ratText q).toArray⟩ := ⟨_, rfl⟩
  go_enter Tryz.func24, Tryz.ntmps24
  go_wp2
  go_region_held3 (fun w' => w'.cell? ⟨w.heap.size, 0, none⟩ = some (.bool na) ∧ w'.cell? ⟨w.heap.size, 1, none⟩ = some (.slice A1 n1 c1) ∧ w'.cell? ⟨w.heap.size, 2, none⟩ = some (.slice A1' n1' c1') ∧ w'.cell? ⟨w.heap.size + 1, 0, none⟩ = some (.bool nb) ∧ w'.cell? ⟨w.heap.size + 1, 1, none⟩ = some (.slice A2 n2 c2) ∧ w'.cell? ⟨w.heap.size + 1, 2, none⟩ = some (.slice A2' n2' c2'))
    (first | with_reducible exact ⟨i0, i1, i2, j0, j1, j2⟩ | fail)
    (first
      | (go_at_call 46
         refine (ratText_any na A1 n1 c1 A1' n1' c1' q _ HA.out.1 (by omega) (by omega) HA.out.2.2).mono ?_
         rintro e w3 ⟨rfl, x3⟩
         rw [← htx]
         have B3 := Lib.hid (And.intro (BB.out.1.keep x3) (BB.out.2.keep x3))
         have E3 := Lib.hid (E0.out.tr x3)
         have R3 := Lib.hid (HA.out.2.1.keep x3)
         obtain ⟨⟨i0, i1, i2⟩, _⟩ := B3.out.1.three
         obtain ⟨⟨j0, j1, j2⟩, _⟩ := B3.out.2.three
         clear x3)
      | (go_at_call 66
         refine (rqText_ok nb A2 n2 c2 A2' n2' c2' q _ R3.out l2 l2').mono ?_
         rintro e w4 ⟨rfl, x4⟩
         rw [← htx]
         have B4 := Lib.hid (And.intro (B3.out.1.keep x4) (B3.out.2.keep x4))
         have E4 := Lib.hid (E3.out.tr x4)
         obtain ⟨⟨i0, i1, i2⟩, _⟩ := B4.out.1.three
         obtain ⟨⟨j0, j1, j2⟩, _⟩ := B4.out.2.three
         clear x4)
      | fail)
  go_wp2
  go_ret
  exact ⟨rfl, E4.out⟩
set_option maxRecDepth 100000 in
set_option maxHeartbeats 4000000 in
theorem price_law (AF : Option Addr) (n cf : Nat) (fr : List Fr) (hn : fr.length = n) (AP : Option Addr) (m ca : Nat) (path : List Int) (hm : path.length = m) (w : World) (hf : Rd w AF (fr.flatMap Fr.cells)) (hwf : ∀ x ∈ fr, x.wf) (hr : Rd w AP (iints path)) (hT : Tab w) :
    Calls Tryz.prog 6 #[.slice AF n cf, .slice AP m ca] w fun e w' => e = .returned (.bool true) ∧ Ext w w' := by
  have HF := Lib.hid (hf)
  have HW := Lib.hid (hwf)
  have HR := Lib.hid (hr)
  have HT := Lib.hid (hT)
  have HN := Lib.hid (hn)
  have HM := Lib.hid (hm)
  clear hf hwf hr hT hn hm
  go_enter Tryz.func6, Tryz.ntmps6
  go_wp2_with fail
  refine (awake_ok _ HT.out).mono ?_
  rintro e w1 ⟨rfl, x1⟩
  have X1 := Lib.hid (x1)
  clear x1
  by_cases h1 : n ≤ 40
  case neg =>
    have d1 : decide ((n : Int) > 40) = true := by simp; omega
    go_wp2
    go_ret
    exact ⟨rfl, X1.out⟩
  case pos =>
    have d1 : decide ((n : Int) > 40) = false := by simp; omega
    by_cases h2 : m ≤ 40
    case neg =>
      have d2 : decide ((m : Int) > 40) = true := by simp; omega
      go_wp2
      go_ret
      exact ⟨rfl, X1.out⟩
    case pos =>
      have d2 : decide ((m : Int) > 40) = false := by simp; omega
      obtain ⟨ps, hps⟩ : ∃ ps, ps = fr.map frQ := ⟨_, rfl⟩
      have HPL := Lib.hid (show ps.length = n by rw [hps, List.length_map]; exact HN.out)
      have PSZ := Lib.hid (show ∀ q ∈ ps, SmQ q from fun q hq => by
        rw [hps] at hq
        obtain ⟨x, hx, rfl⟩ := List.mem_map.1 hq
        exact frQ_sm (HW.out x hx))
      have hfo := frOf_ok AF n cf fr HN.out w1 (HF.out.keep X1.out) HW.out (by omega)
      rw [← hps] at hfo
      have HFO := Lib.hid hfo
      clear hfo hps
      go_wp2_with fail
      refine (HFO.out).mono ?_
      rintro e w2 ⟨A2, c2, rfl, hc2, hq2, x2⟩
      have X2 := Lib.hid (X1.out.tr x2)
      have Q2 := Lib.hid hq2
      clear hq2 x2 HFO
      go_wp2_with fail
      refine (numbers_ok A2 n c2 ps HPL.out _ Q2.out PSZ.out (by omega)).mono ?_
      rintro e w3 ⟨A3, c3, rfl, hc3, hq3, x3⟩
      have X3 := Lib.hid (X2.out.tr x3)
      have Q3 := Lib.hid (And.intro (Q2.out.keep x3) hq3)
      clear hq3 x3 Q2
      go_wp2_with fail
      refine (price_ok A3 n c3 ps HPL.out AP m ca path HM.out _ Q3.out.2 PSZ.out (HR.out.keep X3.out) h2 (by omega)).mono ?_
      rintro e w4 ⟨n4, B4, k4, d4, B4', k4', d4', rfl, r4, x4⟩
      have xb := (Ext.refl w4).alloc (.cells #[.bool n4, .slice B4 k4 d4, .slice B4' k4' d4'] 44)
      have X4 := Lib.hid ((X3.out.tr x4).tr xb)
      have Q4 := Lib.hid ((Q3.out.1.keep x4).keep xb)
      have R4 := Lib.hid (r4.keep xb)
      have B4k := Lib.hid (Blk.new w4 44 #[.bool n4, .slice B4 k4 d4, .slice B4' k4' d4'])
      clear r4 x4 xb Q3
      go_wp2_with fail
      refine (rprice_ok A2 n c2 ps HPL.out AP m ca path HM.out _ Q4.out PSZ.out (HR.out.keep X4.out) h2 (by omega)).mono ?_
      rintro e w5 ⟨n5, B5, k5, e5, B5', k5', e5', rfl, r5, x5⟩
      have xb := (Ext.refl w5).alloc (.cells #[.bool n5, .slice B5 k5 e5, .slice B5' k5' e5'] 51)
      have X5 := Lib.hid ((X4.out.tr x5).tr xb)
      have R5 := Lib.hid (And.intro ((R4.out.keep x5).keep xb) (r5.keep xb))
      have B5k := Lib.hid (And.intro ((B4k.out.keep x5).keep xb) (Blk.new w5 51 #[.bool n5, .slice B5 k5 e5, .slice B5' k5' e5']))
      have SZ := Lib.hid (show SzQ (priceP ps path).1 81 from by
        unfold priceP
        split
        · exact prI_sz PSZ.out path (by rw [HM.out]; exact h2)
        · exact SzQ.zero.mono (by decide))
      obtain ⟨q1, q2⟩ := R5.out.1.lens SZ.out
      obtain ⟨q3, q4⟩ := R5.out.2.lensB SZ.out
      obtain ⟨⟨i0, i1, i2⟩, _⟩ := B5k.out.1.three
      obtain ⟨⟨j0, j1, j2⟩, _⟩ := B5k.out.2.three
      clear r5 x5 xb Q4 R4 B4k
      have hee : (((priceP ps path).2 : Int) == (priceP ps path).2) = true := by simp
      generalize (priceP ps path).2 = ec at *
      go_wp2_with fail
      refine (is_ok n4 B4 k4 d4 B4' k4' d4' n5 B5 k5 e5 B5' k5' e5' (priceP ps path).1 _ R5.out.1 R5.out.2 (by omega) (by omega) (by omega) (by omega) (HT.out.keep X5.out)).mono ?_
      rintro e w6 ⟨rfl, x6⟩
      have X6 := Lib.hid (X5.out.tr x6)
      clear x6
      go_wp2
      go_ret
      exact ⟨rfl, X6.out⟩
end Go.Proofs.YtekiomanidimnaaGreatDoor
