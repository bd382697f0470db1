/- waypointlaw46.SplitBound: the walk: it returns true. -/
import Derived.Test.YtekiomanidimnaaGreatDoorBndP
import Derived.Test.YtekiomanidimnaaGreatDoorAwS
import Derived.Test.YtekiomanidimnaaGreatDoorMV
set_option linter.unusedVariables false
set_option linter.unusedSimpArgs false

namespace Go.Proofs.YtekiomanidimnaaGreatDoor
open Go.RowKit
theorem ints_iints (l : List Nat) : iints (l.map fun x : Nat => (x : Int)) = ints l := by
  unfold iints ints
  rw [List.map_map]; rfl
theorem weights_ints (qs : List Rat) (T : Nat) : iints (weightsI qs T) = ints ((List.range qs.length).map (weightQ qs T)) := ints_iints _
theorem frs_facts {fr : List Fr} (hwf : ∀ x ∈ fr, x.wf) : ∀ q ∈ fr.map frQ, SmQ q := fun q hq => by
  obtain ⟨x, hx, rfl⟩ := List.mem_map.1 hq
  exact frQ_sm (hwf x hx)
set_option maxRecDepth 100000 in
set_option maxHeartbeats 8000000 in
theorem bound_law (AF : Option Addr) (n cf : Nat) (fr : List Fr) (hn : fr.length = n) (total : Int) (w : World) (hf : Rd w AF (fr.flatMap Fr.cells)) (hwf : ∀ x ∈ fr, x.wf) (hT : Tab w) :
    Calls Tryz.prog 12 #[.slice AF n cf, .int .i64 total] w fun e w' => e = .returned (.bool true) ∧ Ext w w' := by
  have HF := Lib.hid (hf)
  have HW := Lib.hid (hwf)
  have HT := Lib.hid (hT)
  have HN := Lib.hid (hn)
  clear hf hwf hT hn
  go_enter Tryz.func12, Tryz.ntmps12
  go_wp2_with fail
  refine (lawake_ok _ HT.out).mono ?_
  rintro e w1 ⟨rfl, x1⟩
  have X1 := Lib.hid (x1)
  clear x1
  by_cases h1 : n ≤ 64
  case neg =>
    have d1 : decide ((n : Int) > 64) = true := by simp; omega
    go_wp2
    go_ret
    exact ⟨rfl, X1.out⟩
  case pos =>
    have d1 : decide ((n : Int) > 64) = false := by simp; omega
    obtain ⟨ps, hps⟩ : ∃ ps, ps = fr.map frQ := ⟨_, rfl⟩
    have HPL := Lib.hid (show ps.length = n by rw [hps, List.length_map]; exact HN.out)
    have PSZ := Lib.hid (show ∀ q ∈ ps, SmQ q by rw [hps]; exact frs_facts HW.out)
    have PS := Lib.hid (show ∀ q ∈ ps, SzQ q 100 from fun q hq => (PSZ.out q hq).sz.mono (by decide))
    have hfo := frOf_ok AF n cf fr HN.out w1 (HF.out.keep X1.out) HW.out (by omega)
    rw [← hps] at hfo
    have HFO := Lib.hid hfo
    clear hfo hps
    go_wp2_with fail
    refine (HFO.out).mono ?_
    rintro e w2 ⟨A2, c2, rfl, hc2, hq2, x2⟩
    have X2 := Lib.hid (X1.out.tr x2)
    have Q2 := Lib.hid hq2
    clear hq2 x2 HFO
    go_wp2_with fail
    refine (lnumbers_ok A2 n c2 ps HPL.out _ Q2.out PSZ.out (by omega)).mono ?_
    rintro e w3 ⟨A3, c3, rfl, hc3, hq3, x3⟩
    have X3 := Lib.hid (X2.out.tr x3)
    have Q3 := Lib.hid hq3
    clear hq3 x3 Q2
    go_wp2_with fail
    refine (round_ok A3 n c3 ps HPL.out (by omega) total _ Q3.out PS.out).mono ?_
    rintro e w4 ⟨V, cv, rfl, hcv, hv, x4⟩
    by_cases hg : (properP ps && (decide (1 ≤ total) && decide (total ≤ 65536))) = true
    case neg =>
      have HR := Lib.hid (show roundP ps total = ([], 1) by unfold roundP; rw [if_neg hg])
      rw [HR.out]
      have X4 := Lib.hid (X3.out.tr x4)
      clear hv x4 hcv hg
      go_wp2
      go_ret
      exact ⟨rfl, X4.out⟩
    case pos =>
      have HR := Lib.hid (show roundP ps total = ((List.range ps.length).map (weightQ ps total.toNat), 0) by unfold roundP; rw [if_pos hg])
      rw [HR.out] at hv hcv ⊢
      simp only [Bool.and_eq_true, decide_eq_true_eq] at hg
      obtain ⟨hp, ht1, ht2⟩ := hg
      obtain ⟨T, rfl⟩ : ∃ T : Nat, total = (T : Int) := ⟨total.toNat, by omega⟩
      rw [Int.toNat_natCast] at hv hcv ⊢
      have hT1 : 1 ≤ T ∧ T ≤ 65536 := by omega
      have hwl : ((List.range ps.length).map (weightQ ps T)).length = n := by rw [List.length_map, List.length_range]; exact HPL.out
      rw [hwl] at hcv ⊢
      have HV := Lib.hid (show Rd w4 V (iints (weightsI ps T)) by rw [weights_ints]; exact hv.rd)
      have HWL := Lib.hid (show (weightsI ps T).length = n by rw [weightsI_len]; exact HPL.out)
      have HWS := Lib.hid (isum_weights hp T)
      have HOK := Lib.hid (okW_weights hp hT1.2)
      have HBE := Lib.hid (bound_error hp hT1)
      have ESZ := Lib.hid (show SzQ (errorP ps (weightsI ps T)).1 6567 from by
        unfold errorP
        split
        · exact worst_sz hp PS.out ⟨by rw [HWS.out]; omega, by rw [HWS.out]; omega⟩ (List.all_eq_true.1 HOK.out) _
        · exact SzQ.zero.mono (by decide))
      have X4 := Lib.hid (X3.out.tr x4)
      have Q4 := Lib.hid (Q3.out.keep x4)
      have X34 := Lib.hid x4
      clear hv x4 hwl hp HR Q3
      generalize weightsI ps T = ws at *
      go_wp2
      go_loopg [8, 9] n (fun q st it wr => ∃ i : Nat, n - i = q ∧ i ≤ n ∧ it = .int .i64 i ∧ st = .int .i64 (isum (ws.take i)) ∧ w4 = wr)
      case atStart => exact ⟨0, rfl, Nat.zero_le _, rfl, rfl, rfl⟩
      case round =>
        obtain ⟨i, rfl, hi, rfl, rfl, rfl⟩ := hrel
        have hbd := isum_bound (ws.take i) (by
          rw [List.all_eq_true]
          exact fun x hx => List.all_eq_true.1 HOK.out x (List.mem_of_mem_take hx))
        rw [List.length_take] at hbd
        have hb2 : 0 ≤ isum (ws.take i) ∧ isum (ws.take i) ≤ 4194304 := by omega
        clear hbd
        by_cases hin : i < n
        · obtain ⟨x, hx⟩ : ∃ x, ws[i]? = some x := ⟨_, List.getElem?_eq_getElem (by rw [HWL.out]; exact hin)⟩
          obtain ⟨bp, op, rfl, hbp, hcp⟩ := HV.out.iint hx
          have SN := Lib.hid (isum_next ws i x hx)
          have hok := List.all_eq_true.1 HOK.out x (List.mem_of_getElem? hx)
          unfold okW at hok
          simp only [Bool.and_eq_true, decide_eq_true_eq] at hok
          obtain ⟨hx0, hx1⟩ := hok
          have t1 : decide (x < 0) = false := by simp; omega
          have iN : (i : Int) < (n : Int) := by omega
          generalize isum (ws.take i) = tot at *
          clear hx hbp
          go_wp2
          go_roundg (n - (i + 1))
          case measure => omega
          case rel => exact ⟨i + 1, rfl, by omega, by go_num, by rw [SN.out], rfl⟩
        · obtain rfl : i = n := by omega
          have hlt : ¬ (i : Int) < (i : Int) := by omega
          have htk : ws.take i = ws := List.take_of_length_le (by rw [HWL.out]; omega)
          rw [htk, HWS.out]
          clear htk hb2
          have hee := error_ok A3 i c3 ps HPL.out (by omega) V i cv ws HWL.out w4 Q4.out PS.out HV.out
          obtain ⟨r, hr⟩ : ∃ r, r = errorP ps ws := ⟨_, rfl⟩
          rw [← hr] at hee HBE ESZ
          have HEE := Lib.hid hee
          clear hee hr
          obtain ⟨rq, re⟩ := r
          have hre : re = 0 := HBE.out.1
          subst hre
          have HCQ := Lib.hid HBE.out.2
          clear HBE
          simp only at HCQ ESZ
          go_wp2_with fail
          refine (HEE.out).mono ?_
          rintro e w5 ⟨n5, A5, l5, c5, A5', l5', c5', rfl, h5, x5⟩
          have h5 : RatR w5 n5 A5 l5 c5 A5' l5' c5' rq := h5
          obtain ⟨u1, u2⟩ := h5.lens ESZ.out
          have xb := (Ext.refl w5).alloc (.cells #[.bool n5, .slice A5 l5 c5, .slice A5' l5' c5'] 44)
          have xd : Ext (w5.alloc (.cells #[.bool n5, .slice A5 l5 c5, .slice A5' l5' c5'] 44)) (w5.alloc (.cells #[.bool n5, .slice A5 l5 c5, .slice A5' l5' c5'] 44)).drew := (Ext.refl _).drewN 1
          have BX := Lib.hid ((Blk.new w5 44 #[.bool n5, .slice A5 l5 c5, .slice A5' l5' c5']).keep xd)
          have RX := Lib.hid ((h5.keep xb).keep xd)
          have EX := Lib.hid ((X4.out.tr x5).tr (xb.tr xd))
          obtain ⟨⟨i0, i1, i2⟩, _⟩ := BX.out.three
          have tok : True := trivial
          clear h5 x5 xb xd X1 X2 X3 HEE
          go_wp2
          go_region_held3 (fun w' => w'.cell? ⟨w5.heap.size, 0, none⟩ = some (.bool n5) ∧ w'.cell? ⟨w5.heap.size, 1, none⟩ = some (.slice A5 l5 c5) ∧ w'.cell? ⟨w5.heap.size, 2, none⟩ = some (.slice A5' l5' c5'))
            (first | with_reducible exact ⟨i0, i1, i2⟩ | fail)
            (first
            | (go_at_call 44
               have _t := tok
               with_reducible refine (ratInt_any (T : Int) _ (by omega) (by omega)).mono ?_
               rintro e w6 ⟨n6, A6, l6, c6, A6', l6', c6', rfl, h6, x6⟩
               rw [int_mkQ] at h6
               clear tok
               obtain ⟨u3, u4⟩ := h6.lens (show SzQ ((T : Int) : Rat) 1 by
                 rw [← int_mkQ]
                 refine SzQ.mkQ_ (by decide) ?_ (by decide)
                 rw [Nat.pow_one, B32_eq, Int.natAbs_natCast]; omega)
               have B6 := Lib.hid (BX.out.keep x6)
               have R6 := Lib.hid (And.intro (RX.out.keep x6) h6)
               have E6 := Lib.hid (EX.out.tr x6)
               obtain ⟨⟨i0, i1, i2⟩, _⟩ := B6.out.three
               clear h6 x6)
            | (go_at_call 26
               with_reducible refine (ratMul_any n5 n6 A5 l5 c5 A5' l5' c5' A6 l6 c6 A6' l6' c6' rq ((T : Int) : Rat) _ R6.out.1 R6.out.2 (by omega) (by omega) (by omega) (by omega)).mono ?_
               rintro e w7 ⟨n7, A7, l7, c7, A7', l7', c7', rfl, h7, x7⟩
               obtain ⟨u5, u6⟩ := h7.lens (ESZ.out.mul (show SzQ ((T : Int) : Rat) 1 by
                 rw [← int_mkQ]
                 refine SzQ.mkQ_ (by decide) ?_ (by decide)
                 rw [Nat.pow_one, B32_eq, Int.natAbs_natCast]; omega))
               have B7 := Lib.hid (B6.out.keep x7)
               have R7 := Lib.hid h7
               have E7 := Lib.hid (E6.out.tr x7)
               obtain ⟨⟨i0, i1, i2⟩, _⟩ := B7.out.three
               clear h7 x7)
            | (go_at_call 44
               with_reducible refine (ratInt_any 1 _ (by decide) (by decide)).mono ?_
               rintro e w8 ⟨n8, A8, l8, c8, A8', l8', c8', rfl, h8, x8⟩
               rw [int_1] at h8
               obtain ⟨u7, u8⟩ := h8.lens (show SzQ 1 1 from ⟨by decide +kernel, by decide +kernel⟩)
               have B8 := Lib.hid (B7.out.keep x8)
               have R8 := Lib.hid (And.intro (R7.out.keep x8) h8)
               have E8 := Lib.hid (E7.out.tr x8)
               obtain ⟨⟨i0, i1, i2⟩, _⟩ := B8.out.three
               clear h8 x8)
            | (go_at_call 27
               with_reducible refine (ratCmp_any n7 n8 A7 l7 c7 A7' l7' c7' A8 l8 c8 A8' l8' c8' (rq * ((T : Int) : Rat)) 1 _ R8.out.1 R8.out.2 (by omega) (by omega) (by omega) (by omega)).mono ?_
               rintro e w9 ⟨rfl, x9⟩
               have B9 := Lib.hid (B8.out.keep x9)
               have E9 := Lib.hid (E8.out.tr x9)
               obtain ⟨⟨i0, i1, i2⟩, _⟩ := B9.out.three
               clear x9)
            | fail)
          have hlt0 := HCQ.out
          generalize cmpQ (rq * ((T : Int) : Rat)) 1 = cc at *
          go_wp2
          go_ret
          exact ⟨by simp [hlt0], E9.out⟩
end Go.Proofs.YtekiomanidimnaaGreatDoor
