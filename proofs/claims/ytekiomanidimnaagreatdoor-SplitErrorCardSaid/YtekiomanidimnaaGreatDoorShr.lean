/- waypointref46: Shares, whole. -/
import Derived.Test.YtekiomanidimnaaGreatDoorR46P
set_option linter.unusedVariables false
set_option linter.unusedSimpArgs false

namespace Go.Proofs.YtekiomanidimnaaGreatDoor
open Go.RowKit
theorem szR_64 {qs : List Rat} (h64 : qs.length ≤ 64) (h : ∀ q ∈ qs, SzQ q 100) : SzR qs 6464 := by
  exact (SzR.of h).mono (by omega)
set_option maxRecDepth 100000 in
set_option maxHeartbeats 4000000 in
theorem rShares_ok (P : Option Addr) (n c : Nat) (qs : List Rat) (hn : qs.length = n) (hn2 : n ≤ 1000000) (w : World) (hq : QLg RQC w P qs) (hsz : ∀ q ∈ qs, SzQ q 100) :
    Calls Tryz.prog 95 #[.slice P n c] w fun e w' => e = .returned (.bool (properP qs)) ∧ Ext w w' := by
  rw [← shares_proper]
  have HQ := Lib.hid (hq)
  have HN := Lib.hid (hn)
  have HS := Lib.hid (hsz)
  clear hq hn hsz
  generalize hR : sharesP qs = R
  have HR := Lib.hid (hR)
  clear hR
  go_enter Tryz.func95, Tryz.ntmps95
  go_wp2
  go_loopg [3] n (fun j it wr => ∃ (i : Nat), n - i = j ∧ i ≤ n ∧ it = .int .i64 i ∧ Hid ((qs.take i).any negB = false) ∧ Hid (Ext w wr))
  case atStart => exact ⟨0, rfl, Nat.zero_le _, rfl, Lib.hid rfl, Lib.hid (Ext.refl _)⟩
  case round =>
    obtain ⟨i, rfl, hi, rfl, GD, EY⟩ := hrel
    by_cases hin : i < n
    · obtain ⟨q, hq⟩ : ∃ q, qs[i]? = some q := ⟨_, List.getElem?_eq_getElem (by rw [HN.out]; omega)⟩
      obtain ⟨bq, oq, nx, X1, m1, e1, X2, m2, e2, hPP, hbq, i0', i1', i2', hQ'⟩ := HQ.out.at_ hq
      subst hPP
      have i0 := (EY.out.cell (p := ⟨bq, oq + i * 3, none⟩) hbq).trans i0'
      have i1 := (EY.out.cell (p := ⟨bq, oq + i * 3 + 1, none⟩) hbq).trans i1'
      have i2 := (EY.out.cell (p := ⟨bq, oq + i * 3 + 2, none⟩) hbq).trans i2'
      have RD := Lib.hid (hQ'.keep EY.out)
      have STEP := Lib.hid (show (qs.take (i + 1)).any negB = negB q from by
        rw [any_next negB qs i q hq, GD.out]; simp)
      have ALL := Lib.hid (show negB q = true → R = false from fun e => by
        rw [← HR.out]; unfold sharesP; rw [any_some hq e]; simp)
      clear hq i0' i1' i2' hQ' hbq
      go_wp2_with fail
      refine (rqSign_ok nx X1 m1 e1 X2 m2 e2 q _ RD.out).mono ?_
      rintro e w1 ⟨rfl, hx1⟩
      have HX1 := Lib.hid (EY.out.tr hx1)
      clear hx1 i0 i1 i2
      cases hs : decide (sgnI q < 0)
      case true =>
        have HALL := Lib.hid (ALL.out hs)
        obtain rfl := HALL.out
        go_wp2
        go_ret
        exact ⟨rfl, HX1.out⟩
      case false =>
        have HS2 := Lib.hid (STEP.out.trans hs)
        go_wp2
        go_roundg (n - (i + 1))
        case measure => omega
        case rel => exact ⟨i + 1, rfl, by omega, by go_num, HS2, HX1⟩
    · obtain rfl : i = n := by omega
      have HB := Lib.hid (show R = (decide (1 ≤ i) && (decide (i ≤ 64) && decide (0 < sgnI (sumQ qs)))) from by
        have := GD.out
        rw [List.take_of_length_le (by rw [HN.out]; omega)] at this
        rw [← HR.out]; unfold sharesP
        rw [this, HN.out]; rfl)
      by_cases h1 : 1 ≤ i
      · by_cases h64 : i ≤ 64
        · have HF := Lib.hid (show R = decide (0 < sgnI (sumQ qs)) by rw [HB.out, decide_eq_true h1, decide_eq_true h64]; rfl)
          obtain rfl := HF.out
          go_wp2_with fail
          refine (rqSum_ok P i c qs HN.out hn2 6464 (by decide) (szR_64 (by rw [HN.out]; exact h64) HS.out) _ (HQ.out.keep EY.out)).mono ?_
          rintro e w2 ⟨n9, A9, l9, c9, A9', l9', c9', rfl, h9, x9⟩
          have R9 := Lib.hid h9
          have E9 := Lib.hid (EY.out.tr x9)
          clear h9 x9
          go_wp2_with fail
          refine (rqSign_ok n9 A9 l9 c9 A9' l9' c9' _ _ R9.out).mono ?_
          rintro e w3 ⟨rfl, x3⟩
          have E3 := Lib.hid (E9.out.tr x3)
          clear x3
          go_wp2
          go_ret
          exact ⟨rfl, E3.out⟩
        · have HF := Lib.hid (show R = false by rw [HB.out, decide_eq_false h64]; simp)
          obtain rfl := HF.out
          go_wp2
          go_ret
          exact ⟨rfl, EY.out⟩
      · have HF := Lib.hid (show R = false by rw [HB.out, decide_eq_false h1]; rfl)
        obtain rfl := HF.out
        go_wp2
        go_ret
        exact ⟨rfl, EY.out⟩
set_option maxRecDepth 100000 in
theorem rWhole_ok (A : Option Addr) (n c : Nat) (A' : Option Addr) (n' c' : Nat) (q : Rat) (w : World) (h : RQR w false A n c A' n' c' q) (hn : n ≤ 1000000) (hb : q.num.natAbs ≤ 65536) :
    Calls Tryz.prog 101 #[.agg #[.bool false, .slice A n c, .slice A' n' c']] w fun e w' => e = .returned (.int .i64 (q.num.natAbs : Int)) ∧ Ext w w' := by
  obtain ⟨b0, e0⟩ := boxes1 w #[.bool false, .slice A n c, .slice A' n' c'] 51
  have HA := Lib.hid (h.keep e0).2.1
  have E0 := Lib.hid (e0)
  obtain ⟨⟨i0, i1, i2⟩, _⟩ := b0.three
  clear h b0 e0
  generalize q.num.natAbs = N at *
  go_enter Tryz.func101, Tryz.ntmps101
  go_wp2_with fail
  refine (rUint_ok A n c _ _ HA.out (by omega)).mono ?_
  rintro e w1 ⟨x, ok, rfl, hx, x1⟩
  have hx : x = N ∧ ok = true := by
    rcases hx with ⟨_, h2, h3⟩ | ⟨h1, _⟩
    · exact ⟨h2, h3⟩
    · unfold U64 at h1; omega
  obtain ⟨rfl, rfl⟩ := hx
  have E1 := Lib.hid (E0.out.tr x1)
  clear x1 i0 i1 i2 HA
  go_wp2
  go_ret
  exact ⟨rfl, E1.out⟩
end Go.Proofs.YtekiomanidimnaaGreatDoor
