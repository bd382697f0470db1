/- waypointlaw46.SplitKeep: the walk: it returns true. -/
import Derived.Test.YtekiomanidimnaaGreatDoorRke
import Derived.Test.YtekiomanidimnaaGreatDoorLawH
import Derived.Test.YtekiomanidimnaaGreatDoorAllS
set_option linter.unusedVariables false
set_option linter.unusedSimpArgs false

namespace Go.Proofs.YtekiomanidimnaaGreatDoor
open Go.RowKit
theorem keep_sz {qs : List Rat} (k : Int) (h : ∀ q ∈ qs, SzQ q 100) : ∀ q ∈ (keepP qs k).1, SzQ q 100 := fun q hq => by
  unfold keepP at hq
  split at hq
  · obtain ⟨i, _, rfl⟩ := List.mem_map.1 hq
    show SzQ (if (rankQ qs i : Int) < k then qs[i]?.getD 0 else 0) 100
    split
    · exact getD_sz (by decide) h i
    · exact SzQ.zero.mono (by decide)
  · cases hq
set_option maxRecDepth 100000 in
set_option maxHeartbeats 8000000 in
theorem keep_law (AF : Option Addr) (n cf : Nat) (fr : List Fr) (hn : fr.length = n) (k : Int) (w : World) (hf : Rd w AF (fr.flatMap Fr.cells)) (hwf : ∀ x ∈ fr, x.wf) (hT : Tab w) :
    Calls Tryz.prog 10 #[.slice AF n cf, .int .i64 k] w fun e w' => e = .returned (.bool true) ∧ Ext w w' := by
  have HF := Lib.hid (hf)
  have HW := Lib.hid (hwf)
  have HT := Lib.hid (hT)
  have HN := Lib.hid (hn)
  clear hf hwf hT hn
  go_enter Tryz.func10, Tryz.ntmps10
  go_wp2_with fail
  refine (lawake_ok _ HT.out).mono ?_
  rintro e w1 ⟨rfl, x1⟩
  have X1 := Lib.hid (x1)
  clear x1
  by_cases h1 : n ≤ 70
  case neg =>
    have d1 : decide ((n : Int) > 70) = true := by simp; omega
    go_wp2
    go_ret
    exact ⟨rfl, X1.out⟩
  case pos =>
    have d1 : decide ((n : Int) > 70) = false := by simp; omega
    obtain ⟨ps, hps⟩ : ∃ ps, ps = fr.map frQ := ⟨_, rfl⟩
    have HPL := Lib.hid (show ps.length = n by rw [hps, List.length_map]; exact HN.out)
    have PSZ := Lib.hid (show ∀ q ∈ ps, SmQ q by rw [hps]; exact frs_facts HW.out)
    have PS := Lib.hid (show ∀ q ∈ ps, SzQ q 100 from fun q hq => (PSZ.out q hq).sz.mono (by decide))
    have hfo := frOf_ok AF n cf fr HN.out w1 (HF.out.keep X1.out) HW.out (by omega)
    rw [← hps] at hfo
    have HFO := Lib.hid hfo
    clear hfo hps
    go_wp2_with fail
    refine (HFO.out).mono ?_
    rintro e w2 ⟨A2, c2, rfl, hc2, hq2, x2⟩
    have X2 := Lib.hid (X1.out.tr x2)
    have Q2 := Lib.hid hq2
    clear hq2 x2 HFO
    go_wp2_with fail
    refine (lnumbers_ok A2 n c2 ps HPL.out _ Q2.out PSZ.out (by omega)).mono ?_
    rintro e w3 ⟨A3, c3, rfl, hc3, hq3, x3⟩
    have X3 := Lib.hid (X2.out.tr x3)
    have Q3 := Lib.hid (And.intro hq3 (Q2.out.keep x3))
    clear hq3 x3 Q2
    go_wp2_with fail
    refine (keep_ok A3 n c3 ps HPL.out (by omega) k _ Q3.out.1 (fun q hq => (PS.out q hq).mono (by decide))).mono ?_
    rintro e w4 ⟨V, cv, rfl, hv, x4⟩
    have X4 := Lib.hid (X3.out.tr x4)
    have Q4 := Lib.hid (Q3.out.2.keep x4)
    have hrr := rKeep_ok A2 n c2 ps HPL.out (by omega) k w4 Q4.out PS.out
    have HL := Lib.hid (show (keepP ps k).1.length ≤ 1000000 by
      unfold keepP
      split
      · rw [List.length_map, List.length_range, HPL.out]; omega
      · simp)
    have KS := Lib.hid (keep_sz k PS.out)
    have V4 := Lib.hid hv
    clear hv x4 Q3
    generalize keepP ps k = R at *
    obtain ⟨l, ec⟩ := R
    simp only at V4 HL KS ⊢
    have HRR := Lib.hid hrr
    clear hrr
    go_wp2_with fail
    refine (HRR.out).mono ?_
    rintro e w5 ⟨V2, cv2, rfl, hv2, x5⟩
    have X5 := Lib.hid (X4.out.tr x5)
    have hal := all_ok V l.length cv V2 cv2 l rfl HL.out w5 (V4.out.keep x5) hv2 KS.out (HT.out.keep X5.out)
    have HAL := Lib.hid hal
    clear hv2 x5 V4 HRR hal
    simp only
    have hee : ((ec : Int) == ec) = true := by simp
    generalize l.length = ll at *
    go_wp2_with fail
    refine (HAL.out).mono ?_
    rintro e w6 ⟨rfl, x6⟩
    have X6 := Lib.hid (X5.out.tr x6)
    clear x6
    go_wp2
    go_ret
    exact ⟨rfl, X6.out⟩
end Go.Proofs.YtekiomanidimnaaGreatDoor
