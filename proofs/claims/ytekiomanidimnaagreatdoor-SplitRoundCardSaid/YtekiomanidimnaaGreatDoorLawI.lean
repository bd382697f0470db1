/- waypointlaw46.SplitRound: the walk: it returns true. -/
import Derived.Test.YtekiomanidimnaaGreatDoorRro
import Derived.Test.YtekiomanidimnaaGreatDoorLawH
set_option linter.unusedVariables false
set_option linter.unusedSimpArgs false

namespace Go.Proofs.YtekiomanidimnaaGreatDoor
open Go.RowKit
set_option maxRecDepth 100000 in
set_option maxHeartbeats 8000000 in
theorem round_law (AF : Option Addr) (n cf : Nat) (fr : List Fr) (hn : fr.length = n) (total : Int) (w : World) (hf : Rd w AF (fr.flatMap Fr.cells)) (hwf : ∀ x ∈ fr, x.wf) (hT : Tab w) :
    Calls Tryz.prog 9 #[.slice AF n cf, .int .i64 total] w fun e w' => e = .returned (.bool true) ∧ Ext w w' := by
  have HF := Lib.hid (hf)
  have HW := Lib.hid (hwf)
  have HT := Lib.hid (hT)
  have HN := Lib.hid (hn)
  clear hf hwf hT hn
  go_enter Tryz.func9, Tryz.ntmps9
  go_wp2_with fail
  refine (lawake_ok _ HT.out).mono ?_
  rintro e w1 ⟨rfl, x1⟩
  have X1 := Lib.hid (x1)
  clear x1
  by_cases h1 : n ≤ 70
  case neg =>
    have d1 : decide ((n : Int) > 70) = true := by simp; omega
    go_wp2
    go_ret
    exact ⟨rfl, X1.out⟩
  case pos =>
    have d1 : decide ((n : Int) > 70) = false := by simp; omega
    obtain ⟨ps, hps⟩ : ∃ ps, ps = fr.map frQ := ⟨_, rfl⟩
    have HPL := Lib.hid (show ps.length = n by rw [hps, List.length_map]; exact HN.out)
    have PSZ := Lib.hid (show ∀ q ∈ ps, SmQ q by rw [hps]; exact frs_facts HW.out)
    have PS := Lib.hid (show ∀ q ∈ ps, SzQ q 100 from fun q hq => (PSZ.out q hq).sz.mono (by decide))
    have hfo := frOf_ok AF n cf fr HN.out w1 (HF.out.keep X1.out) HW.out (by omega)
    rw [← hps] at hfo
    have HFO := Lib.hid hfo
    clear hfo hps
    go_wp2_with fail
    refine (HFO.out).mono ?_
    rintro e w2 ⟨A2, c2, rfl, hc2, hq2, x2⟩
    have X2 := Lib.hid (X1.out.tr x2)
    have Q2 := Lib.hid hq2
    clear hq2 x2 HFO
    go_wp2_with fail
    refine (lnumbers_ok A2 n c2 ps HPL.out _ Q2.out PSZ.out (by omega)).mono ?_
    rintro e w3 ⟨A3, c3, rfl, hc3, hq3, x3⟩
    have X3 := Lib.hid (X2.out.tr x3)
    have Q3 := Lib.hid (And.intro hq3 (Q2.out.keep x3))
    clear hq3 x3 Q2
    go_wp2_with fail
    refine (round_ok A3 n c3 ps HPL.out (by omega) total _ Q3.out.1 PS.out).mono ?_
    rintro e w4 ⟨V, cv, rfl, hcv, hv, x4⟩
    have X4 := Lib.hid (X3.out.tr x4)
    have Q4 := Lib.hid (Q3.out.2.keep x4)
    have hrr := rRound_ok A2 n c2 ps HPL.out (by omega) total w4 Q4.out PS.out
    have HL := Lib.hid (show (roundP ps total).1.length ≤ 4398046511104 by
      unfold roundP
      split
      · rw [List.length_map, List.length_range, HPL.out]; omega
      · simp)
    have V4 := Lib.hid (And.intro hcv hv)
    clear hv x4 hcv Q3
    generalize roundP ps total = R at *
    obtain ⟨l, ec⟩ := R
    simp only at V4 HL ⊢
    have HRR := Lib.hid hrr
    clear hrr
    go_wp2_with fail
    refine (HRR.out).mono ?_
    rintro e w5 ⟨V2, cv2, rfl, hcv2, hv2, x5⟩
    have X5 := Lib.hid (X4.out.tr x5)
    have V5 := Lib.hid (And.intro (V4.out.2.keep x5) hv2)
    have V6 := Lib.hid (And.intro V4.out.1 hcv2)
    clear hv2 x5 hcv2 V4 HRR
    simp only
    have hee : ((ec : Int) == ec) = true := by simp
    have hss := sameInts_ok V V2 cv cv2 l l w5 V5.out.1.rd V5.out.2.rd V6.out.1 V6.out.2 HL.out HL.out
    rw [show decide (l = l) = true by simp] at hss
    have HSS := Lib.hid hss
    clear hss
    generalize l.length = ll at *
    go_wp2_with fail
    refine (HSS.out).mono ?_
    rintro e w6 ⟨rfl, x6⟩
    have X6 := Lib.hid (X5.out.tr x6)
    clear x6
    go_wp2
    go_ret
    exact ⟨rfl, X6.out⟩
end Go.Proofs.YtekiomanidimnaaGreatDoor
