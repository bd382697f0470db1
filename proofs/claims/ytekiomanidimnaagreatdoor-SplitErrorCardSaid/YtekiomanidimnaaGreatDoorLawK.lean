/- waypointlaw46.SplitError: the walk: it returns true. -/
import Derived.Test.YtekiomanidimnaaGreatDoorRer
import Derived.Test.YtekiomanidimnaaGreatDoorLawH
import Derived.Test.YtekiomanidimnaaGreatDoorMV
set_option linter.unusedVariables false
set_option linter.unusedSimpArgs false

namespace Go.Proofs.YtekiomanidimnaaGreatDoor
open Go.RowKit
theorem own_rdI {w : World} {B n : Nat} {e : TypeId} {v : Value} {xs : List Value} (h : w.ownsRow B e 1 v n xs) : ∃ (A : Option Addr) (c : Nat), v = .slice A n c ∧ Rd w A xs := by
  have hl := h.1
  rcases h.2 with ⟨h3, h4⟩ | ⟨g', cap, cur, h3, h4, h5, h6, h7, h8, h9⟩
  · have : xs = [] := List.eq_nil_of_length_eq_zero (by omega)
    subst this
    exact ⟨none, 0, by rw [h4]; exact h3, Rd.nil _ _⟩
  · refine ⟨some ⟨g', 0, none⟩, cap, h3, fun _ => ⟨g', 0, rfl, lt_of_get h5, fun i hi => ?_⟩⟩
    rw [cell_of_row w g' (0 + i) cur e (0, 0) h5, Nat.zero_add, ← h9, List.getElem?_take, if_pos (by omega)]
    simp
theorem iints_one (l : List Int) : ∀ u ∈ iints l, u.oneCell' = true := fun u hu => by
  obtain ⟨x, _, rfl⟩ := List.mem_map.1 hu
  rfl
set_option maxRecDepth 100000 in
set_option maxHeartbeats 8000000 in
theorem error_law (AF : Option Addr) (n cf : Nat) (fr : List Fr) (hn : fr.length = n) (AW : Option Addr) (m ca : Nat) (ws : List Int) (hm : ws.length = m) (w : World) (hf : Rd w AF (fr.flatMap Fr.cells)) (hwf : ∀ x ∈ fr, x.wf) (hr : Rd w AW (iints ws)) (hT : Tab w) :
    Calls Tryz.prog 11 #[.slice AF n cf, .slice AW m ca] w fun e w' => e = .returned (.bool true) ∧ Ext w w' := by
  obtain ⟨ti, hi, hz0, hz1, hz2⟩ := info_parts Tryz.info3
  have HF := Lib.hid (hf)
  have HW := Lib.hid (hwf)
  have HT := Lib.hid (hT)
  have HN := Lib.hid (hn)
  have HR := Lib.hid (hr)
  have HM := Lib.hid (hm)
  clear hf hwf hT hn hr hm
  go_enter Tryz.func11, Tryz.ntmps11
  go_wp2_with fail
  refine (lawake_ok _ HT.out).mono ?_
  rintro e w1 ⟨rfl, x1⟩
  have X1 := Lib.hid (x1)
  clear x1
  by_cases h1 : n ≤ 70
  case neg =>
    have d1 : decide ((n : Int) > 70) = true := by simp; omega
    go_wp2
    go_ret
    exact ⟨rfl, X1.out⟩
  case pos =>
    have d1 : decide ((n : Int) > 70) = false := by simp; omega
    by_cases h2 : m ≤ 70
    case neg =>
      have d2 : decide ((m : Int) > 70) = true := by simp; omega
      go_wp2
      go_ret
      exact ⟨rfl, X1.out⟩
    have d2 : decide ((m : Int) > 70) = false := by simp; omega
    obtain ⟨ps, hps⟩ : ∃ ps, ps = fr.map frQ := ⟨_, rfl⟩
    have HPL := Lib.hid (show ps.length = n by rw [hps, List.length_map]; exact HN.out)
    have PSZ := Lib.hid (show ∀ q ∈ ps, SmQ q by rw [hps]; exact frs_facts HW.out)
    have PS := Lib.hid (show ∀ q ∈ ps, SzQ q 100 from fun q hq => (PSZ.out q hq).sz.mono (by decide))
    have hfo := frOf_ok AF n cf fr HN.out w1 (HF.out.keep X1.out) HW.out (by omega)
    rw [← hps] at hfo
    have HFO := Lib.hid hfo
    clear hfo hps
    go_wp2_with fail
    refine (HFO.out).mono ?_
    rintro e w2 ⟨A2, c2, rfl, hc2, hq2, x2⟩
    have X2 := Lib.hid (X1.out.tr x2)
    have Q2 := Lib.hid hq2
    clear hq2 x2 HFO
    go_wp2_with fail
    refine (lnumbers_ok A2 n c2 ps HPL.out _ Q2.out PSZ.out (by omega)).mono ?_
    rintro e w3 ⟨A3, c3, rfl, hc3, hq3, x3⟩
    have X3 := Lib.hid (X2.out.tr x3)
    have Q3 := Lib.hid (And.intro hq3 (Q2.out.keep x3))
    clear hq3 x3 Q2
    have HA := Lib.hid (show AW = none → m = 0 from fun h => by
      rcases Nat.eq_zero_or_pos m with h0 | h0
      · exact h0
      · obtain ⟨b, o, e, _⟩ := HR.out.iint (k := 0) (x := ws[0]'(by rw [HM.out]; exact h0)) (List.getElem?_eq_getElem (by rw [HM.out]; exact h0))
        rw [h] at e; cases e)
    go_wp2_with (at_builtin; go_must (refine wpList_append_rd _ rfl (.tmp 25) (.tmp 26) 39 rfl w3.heap.size 3 ti (.int .i64 0) 8 Tryz.underlying39 hi hz0 hz1 hz2 rfl (.slice (some ⟨w3.heap.size, 0, none⟩) 0 0) 0 [] rfl ?d0 AW m ca (iints ws) rfl ?d1 ?d2 ?d3 (iints_one _) ?d4 ?d5 ?d6 ?_))
    case d0 => exact ownsRow_fresh w3 w3.heap.size 3 (Nat.le_refl _)
    case d1 => unfold iints; rw [List.length_map]; exact HM.out.symm
    case d2 => exact (HR.out.keep X3.out).keep ((Ext.refl _).alloc _)
    case d3 => exact fun h => .inr (HA.out h)
    case d4 => unfold maxLen; omega
    case d5 => omega
    case d6 => simp
    intro v4 w4 hown4 hgrow4 _
    have e4 : Ext w3 w4 := Below.grown ((Ext.refl w3).alloc (.cells #[] 3)) hgrow4 (by simp) (fun k hk => by simp [Value.ownBlock] at hk; omega)
    obtain ⟨A4, c4, e4', hr4⟩ := own_rdI hown4
    have e4' : v4 = .slice A4 m c4 := by simpa using e4'
    subst e4'
    have X4 := Lib.hid (X3.out.tr e4)
    have Q4 := Lib.hid (And.intro (Q3.out.1.keep e4) (Q3.out.2.keep e4))
    have R4 := Lib.hid (show Rd w4 A4 (iints ws) from hr4)
    have hee := error_ok A3 n c3 ps HPL.out (by omega) A4 m c4 ws HM.out w4 Q4.out.1 PS.out R4.out
    have SZE := Lib.hid (show SzQ (errorP ps ws).1 6567 from by
      unfold errorP
      split
      · rename_i hg
        simp only [Bool.and_eq_true, decide_eq_true_eq] at hg
        exact worst_sz hg.1 PS.out ⟨hg.2.2.2.1, hg.2.2.2.2⟩ (List.all_eq_true.1 hg.2.2.1) _
      · exact SzQ.zero.mono (by decide))
    clear hown4 hgrow4 e4 hr4 Q3 X3
    have hrr0 := fun (w5 : World) (x : Ext w4 w5) => rError_ok A2 n c2 ps HPL.out (by omega) AW m ca ws HM.out (by omega) w5 (Q4.out.2.keep x) PS.out (HR.out.keep (X4.out.tr x))
    generalize errorP ps ws = R at *
    obtain ⟨rq, ec⟩ := R
    simp only at SZE
    have HEE := Lib.hid hee
    have HRR := Lib.hid hrr0
    clear hee hrr0
    go_wp2_with fail
    refine (HEE.out).mono ?_
    rintro e w5 ⟨n5, A5, l5, k5, A5', l5', k5', rfl, h5, x5⟩
    have h5 : RatR w5 n5 A5 l5 k5 A5' l5' k5' rq := h5
    have xb := (Ext.refl w5).alloc (.cells #[.bool n5, .slice A5 l5 k5, .slice A5' l5' k5'] 44)
    have X5 := Lib.hid (x5.tr xb)
    have B5 := Lib.hid (Blk.new w5 44 #[.bool n5, .slice A5 l5 k5, .slice A5' l5' k5'])
    have R5 := Lib.hid (h5.keep xb)
    clear h5 x5 xb HEE
    simp only
    go_wp2_with fail
    refine (HRR.out _ X5.out).mono ?_
    rintro e w6 ⟨n6, A6, l6, k6, A6', l6', k6', rfl, h6, x6⟩
    have h6 : RQR w6 n6 A6 l6 k6 A6' l6' k6' rq := h6
    have xb := (Ext.refl w6).alloc (.cells #[.bool n6, .slice A6 l6 k6, .slice A6' l6' k6'] 51)
    have X6 := Lib.hid ((X4.out.tr X5.out).tr (x6.tr xb))
    have B6 := Lib.hid (And.intro ((B5.out.keep x6).keep xb) (Blk.new w6 51 #[.bool n6, .slice A6 l6 k6, .slice A6' l6' k6']))
    have R6 := Lib.hid (And.intro ((R5.out.keep x6).keep xb) (h6.keep xb))
    obtain ⟨u1, u2⟩ := R6.out.1.lens SZE.out
    obtain ⟨u3, u4⟩ := R6.out.2.lensB SZE.out
    clear h6 x6 xb HRR X5 B5 R5
    simp only
    obtain ⟨⟨i0, i1, i2⟩, _⟩ := B6.out.1.three
    obtain ⟨⟨j0, j1, j2⟩, _⟩ := B6.out.2.three
    have hee : ((ec : Int) == ec) = true := by simp
    go_wp2_with fail
    refine (lis_ok n5 A5 l5 k5 A5' l5' k5' n6 A6 l6 k6 A6' l6' k6' rq _ R6.out.1 R6.out.2 (by omega) (by omega) (by omega) (by omega) (HT.out.keep X6.out)).mono ?_
    rintro e w7 ⟨rfl, x7⟩
    have X7 := Lib.hid (X6.out.tr x7)
    clear x7
    go_wp2
    go_ret
    exact ⟨rfl, X7.out⟩
end Go.Proofs.YtekiomanidimnaaGreatDoor
