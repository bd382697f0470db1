/- waypointref42.Fits. -/
import Derived.Test.YtekiomanidimnaaGreatDoorPriceR
import Derived.Test.YtekiomanidimnaaGreatDoorRqD
set_option linter.unusedVariables false
set_option linter.unusedSimpArgs false

namespace Go.Proofs.YtekiomanidimnaaGreatDoor
open Go.RowKit
def negQ (q : Rat) : Bool := decide (sgnI q < 0)
theorem bad1_eq (t : Tp) (down : List Bool) (ps : List Rat) : bad1 t down ps = ((!validP t || !fitsP t down || !decide (ps.length = 2 * t.links.length)) || ps.any negQ) := by
  unfold bad1 pricedP
  have : (fun q => decide (sgnI q < 0)) = negQ := rfl
  rw [this]
  cases validP t <;> cases fitsP t down <;> cases decide (ps.length = 2 * t.links.length) <;> simp
set_option maxRecDepth 100000 in
set_option maxHeartbeats 4000000 in
theorem rFits_ok (t : Tp) (AO : Option Addr) (co : Nat) (AL : Option Addr) (cl : Nat) (AD : Option Addr) (cd : Nat) (down : List Bool) (PP : Option Addr) (n cp : Nat) (ps : List Rat) (hn : ps.length = n) (w : World) (ht : TopR w t AO co AL cl) (hq : QLg RQC w PP ps) (hl : n ≤ 1000000) :
    Calls Tryz.prog 67 #[.agg #[.int .i64 t.nodes, .slice AO t.over.length co, .slice AL t.links.length cl], .slice AD down.length cd, .slice PP n cp] w fun e w' => e = .returned (.bool (!bad1 t down ps)) ∧ Ext w w' := by
  have HT := Lib.hid (ht)
  have HQ := Lib.hid (hq)
  have HN := Lib.hid (hn)
  have h3 := ht.ll
  have h4 := ht.cl
  clear ht hq hn
  generalize hR : bad1 t down ps = R
  have HR := Lib.hid (hR)
  clear hR
  obtain ⟨b0, e0⟩ := boxes1 w #[.int .i64 t.nodes, .slice AO t.over.length co, .slice AL t.links.length cl] 25
  obtain ⟨⟨i0, i1, i2⟩, g0, g1, g2⟩ := b0.three
  have BB := Lib.hid (b0)
  clear b0
  go_enter Tryz.func67, Tryz.ntmps67
  go_upto_region 1 with fail
  go_cut [23] (fun s wx => s = .bool (!validP t || !fitsP t down || !decide (ps.length = 2 * t.links.length)) ∧ Ext w wx)
  case first =>
    go_wp2_with fail
    refine (rValid_any t AO co AL cl _ (HT.out.keep e0)).mono ?_
    rintro e w1 ⟨rfl, hx1⟩
    have hba := BB.out.keep hx1
    obtain ⟨⟨i0, i1, i2⟩, g0, g1, g2⟩ := hba.three
    have E1 := Lib.hid (e0.tr hx1)
    clear hx1
    cases hv : validP t
    case false =>
      go_wp2
      go_meet
      exact ⟨by rw [hv]; rfl, E1.out⟩
    case true =>
      have HV := Lib.hid (hv)
      clear hv
      go_wp2_with fail
      refine (rMask_ok t AO co AL cl AD cd down _ (HT.out.keep E1.out) HV.out).mono ?_
      rintro e w2 ⟨rfl, hx2⟩
      have hba := hba.keep hx2
      obtain ⟨⟨i0, i1, i2⟩, g0, g1, g2⟩ := hba.three
      have E2 := Lib.hid (E1.out.tr hx2)
      clear hx2
      cases hf : fitsP t down
      case false =>
        go_wp2
        go_meet
        exact ⟨by rw [HV.out, hf]; rfl, E2.out⟩
      case true =>
        have HF := Lib.hid (hf)
        clear hf
        go_wp2_with fail
        refine (rArcs_ok t AO co AL cl _ (HT.out.keep E2.out) HV.out).mono ?_
        rintro e w3 ⟨rfl, hx3⟩
        have E3 := Lib.hid (E2.out.tr hx3)
        clear hx3 i0 i1 i2 g0 g1 g2
        have HD := Lib.hid (show ((n : Int) != 2 * (t.links.length : Int)) = !decide (ps.length = 2 * t.links.length) from by rw [HN.out, Bool.eq_iff_iff]; simp; omega)
        go_wp2
        go_meet
        exact ⟨by rw [HV.out, HF.out, HD.out]; rfl, E3.out⟩
  case rest =>
    obtain ⟨rfl, hx⟩ := hcut
    clear i0 i1 i2 g0 g1 g2 e0 BB
    have EX := Lib.hid (hx)
    clear hx
    cases hb : (!validP t || !fitsP t down || !decide (ps.length = 2 * t.links.length))
    case true =>
      have HB := Lib.hid (show R = true from by rw [← HR.out, bad1_eq, hb]; rfl)
      obtain rfl := HB.out
      clear hb
      go_wp2
      go_ret
      exact ⟨rfl, EX.out⟩
    case false =>
      have HB := Lib.hid (show R = ps.any negQ from by rw [← HR.out, bad1_eq, hb]; rfl)
      clear hb HR
      go_wp2
      go_loopg [7] n (fun j it wr => ∃ (i : Nat), n - i = j ∧ i ≤ n ∧ it = .int .i64 i ∧ Hid ((ps.take i).any negQ = false) ∧ Hid (Ext w wr))
      case atStart => exact ⟨0, rfl, Nat.zero_le _, rfl, Lib.hid rfl, EX⟩
      case round =>
        obtain ⟨i, rfl, hi, rfl, GD, EY⟩ := hrel
        by_cases hin : i < n
        · obtain ⟨q, hq⟩ : ∃ q, ps[i]? = some q := ⟨_, List.getElem?_eq_getElem (by rw [HN.out]; omega)⟩
          obtain ⟨bq, oq, nx, X1, m1, e1, X2, m2, e2, hPP, hbq, i0', i1', i2', hQ'⟩ := HQ.out.at_ hq
          subst hPP
          have i0 := (EY.out.cell (p := ⟨bq, oq + i * 3, none⟩) hbq).trans i0'
          have i1 := (EY.out.cell (p := ⟨bq, oq + i * 3 + 1, none⟩) hbq).trans i1'
          have i2 := (EY.out.cell (p := ⟨bq, oq + i * 3 + 2, none⟩) hbq).trans i2'
          have RD := Lib.hid (hQ'.keep EY.out)
          have STEP := Lib.hid (show (ps.take (i + 1)).any negQ = negQ q from by
            rw [List.take_add_one, hq, List.any_append, GD.out]; simp)
          have ALL := Lib.hid (show negQ q = true → ps.any negQ = true from fun e => List.any_eq_true.2 ⟨q, List.mem_of_getElem? hq, e⟩)
          clear hq i0' i1' i2' hQ' hbq
          go_wp2_with fail
          refine (rqSign_ok nx X1 m1 e1 X2 m2 e2 q _ RD.out).mono ?_
          rintro e w1 ⟨rfl, hx1⟩
          have HX1 := Lib.hid (EY.out.tr hx1)
          clear hx1 i0 i1 i2
          cases hs : decide (sgnI q < 0)
          case true =>
            have HALL := Lib.hid (show R = true from by rw [HB.out]; exact ALL.out hs)
            obtain rfl := HALL.out
            go_wp2
            go_ret
            exact ⟨rfl, HX1.out⟩
          case false =>
            have HS := Lib.hid (STEP.out.trans hs)
            go_wp2
            go_roundg (n - (i + 1))
            case measure => omega
            case rel => exact ⟨i + 1, rfl, by omega, by go_num, HS, HX1⟩
        · obtain rfl : i = n := by omega
          have HNO := Lib.hid (show R = false from by
            rw [HB.out]
            have := GD.out
            rw [List.take_of_length_le (by rw [HN.out]; omega)] at this
            exact this)
          obtain rfl := HNO.out
          go_wp2
          go_ret
          exact ⟨rfl, EY.out⟩
end Go.Proofs.YtekiomanidimnaaGreatDoor
