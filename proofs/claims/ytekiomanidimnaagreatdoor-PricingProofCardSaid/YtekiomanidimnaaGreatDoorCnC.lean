/- pricing.Consistent. -/
import Derived.Test.YtekiomanidimnaaGreatDoorCnB
set_option linter.unusedVariables false
set_option linter.unusedSimpArgs false

namespace Go.Proofs.YtekiomanidimnaaGreatDoor
open Go.RowKit
theorem priced_n (t : Tp) (AO : Option Addr) (co : Nat) (AL : Option Addr) (cl : Nat) (P : Option Addr) (n cp : Nat) (qs : List Rat) (hn : qs.length = n) (w : World) (ht : TopR w t AO co AL cl) (h : QL w P qs) (hl : n ≤ 1000000) :
    Calls Tryz.prog 61 #[.agg #[.int .i64 t.nodes, .slice AO t.over.length co, .slice AL t.links.length cl], .slice P n cp] w fun e w' => e = .returned (.bool (pricedP t qs)) ∧ Ext w w' := by
  subst hn
  exact priced_any t AO co AL cl P cp qs w ht h hl
theorem consG_nd (t : Tp) (pot : List Rat) (d : Int) : consG t pot d = (ndB t.nodes d && decide ((pot.length : Int) = t.nodes) && decide (sgnI (potA pot d) = 0)) := by
  unfold consG ndB
  rw [Bool.eq_iff_iff]
  simp
set_option maxRecDepth 100000 in
set_option maxHeartbeats 8000000 in
theorem cons_ok (t : Tp) (AO : Option Addr) (co : Nat) (AL : Option Addr) (cl : Nat) (AD : Option Addr) (cd : Nat) (down : List Bool) (PP : Option Addr) (n cp : Nat) (ps : List Rat) (hn : ps.length = n) (VV : Option Addr) (m cv : Nat) (pot : List Rat) (hm : pot.length = m) (d : Int) (w : World) (ht : TopR w t AO co AL cl) (hdn : Rd w AD (bools down)) (hcd : down.length ≤ 281474976710656) (hdc : down.length ≤ cd) (hq : QL w PP ps) (hps : ∀ q ∈ ps, SmQ q) (hp : QL w VV pot) (hpot : ∀ q ∈ pot, SmQ q) (hl : n ≤ 1000) (hl2 : m ≤ 1000) :
    Calls Tryz.prog 30 #[.agg #[.int .i64 t.nodes, .slice AO t.over.length co, .slice AL t.links.length cl], .slice AD down.length cd, .slice PP n cp, .slice VV m cv, .int .i64 d] w fun e w' => e = .returned (.bool (consP t down ps pot d)) ∧ Ext w w' := by
  have HT := Lib.hid (ht)
  have HDN := Lib.hid (hdn)
  have HQ := Lib.hid (hq)
  have HP := Lib.hid (hps)
  have HV := Lib.hid (hp)
  have HVP := Lib.hid (hpot)
  have HN := Lib.hid (hn)
  have HM := Lib.hid (hm)
  clear ht hdn hq hps hp hpot hn hm
  generalize hR : consP t down ps pot d = R
  have HR := Lib.hid (hR)
  clear hR
  obtain ⟨b0, e0⟩ := boxes1 w #[.int .i64 t.nodes, .slice AO t.over.length co, .slice AL t.links.length cl] 25
  obtain ⟨⟨i0, i1, i2⟩, g0, g1, g2⟩ := b0.three
  have BB := Lib.hid (b0)
  clear b0
  go_enter Tryz.func30, Tryz.ntmps30
  go_upto_region 1 with fail
  go_cut [28] (fun s wx => s = .bool (bad1 t down ps) ∧ Blk wx w.heap.size 25 #[.int .i64 t.nodes, .slice AO t.over.length co, .slice AL t.links.length cl] ∧ Ext w wx)
  case first =>
    go_wp2_with fail
    refine (tValid_any t AO co AL cl _ (HT.out.keep e0)).mono ?_
    rintro e w1 ⟨rfl, hx1⟩
    have hba := BB.out.keep hx1
    obtain ⟨⟨i0, i1, i2⟩, g0, g1, g2⟩ := hba.three
    have E1 := Lib.hid (e0.tr hx1)
    clear hx1
    cases hv : validP t
    case false =>
      go_wp2
      go_meet
      exact ⟨by simp [bad1, hv], hba, E1.out⟩
    case true =>
      have KV := Lib.hid (hv)
      go_wp2_with fail
      refine (gFits_any t AO co AL cl AD cd down _ (HT.out.keep E1.out)).mono ?_
      rintro e w2 ⟨rfl, hx2⟩
      have hba := hba.keep hx2
      obtain ⟨⟨i0, i1, i2⟩, g0, g1, g2⟩ := hba.three
      have E2 := Lib.hid (E1.out.tr hx2)
      clear hx2
      cases hf : fitsP t down
      case false =>
        go_wp2
        go_meet
        exact ⟨by simp [bad1, hf], hba, E2.out⟩
      case true =>
        have HF := Lib.hid (hf)
        go_wp2_with fail
        refine (priced_n t AO co AL cl PP n cp ps HN.out _ (HT.out.keep E2.out) (HQ.out.keep E2.out) (by omega)).mono ?_
        rintro e w3 ⟨rfl, hx3⟩
        have hba := hba.keep hx3
        have E3 := Lib.hid (E2.out.tr hx3)
        clear hx3
        go_wp2
        go_meet
        exact ⟨by simp [bad1, KV.out, HF.out], hba, E3.out⟩
  case rest =>
    obtain ⟨rfl, hba, hx⟩ := hcut
    clear i0 i1 i2 g0 g1 g2 e0 BB
    have EX := Lib.hid (hx)
    have BB := Lib.hid (hba)
    obtain ⟨⟨i0, i1, i2⟩, g0, g1, g2⟩ := hba.three
    clear hx hba
    cases hb : bad1 t down ps
    case true =>
      have HB := Lib.hid (show R = false from by rw [← HR.out]; unfold consP; rw [hb]; rfl)
      obtain rfl := HB.out
      clear hb
      go_wp2
      go_ret
      exact ⟨rfl, EX.out⟩
    case false =>
      have HB1 := Lib.hid (hb)
      clear hb
      go_upto_region 3 with fail
      go_cut [47] (fun s wx => s = .bool (!consG t pot d) ∧ Blk wx w.heap.size 25 #[.int .i64 t.nodes, .slice AO t.over.length co, .slice AL t.links.length cl] ∧ Ext w wx)
      case first =>
        go_wp2_with fail
        refine (gNode_b t AO co AL cl d _).mono ?_
        rintro e w1 ⟨rfl, hx1⟩
        have hba := BB.out.keep hx1
        obtain ⟨⟨i0, i1, i2⟩, g0, g1, g2⟩ := hba.three
        have E1 := Lib.hid (EX.out.tr hx1)
        clear hx1
        cases hnd : ndB t.nodes d
        case false =>
          have HG := Lib.hid (show consG t pot d = false from by rw [consG_nd, hnd]; rfl)
          go_wp2
          go_meet
          exact ⟨by rw [HG.out]; rfl, hba, E1.out⟩
        case true =>
          have DD := Lib.hid (show 0 ≤ d ∧ d < t.nodes from by unfold ndB at hnd; simpa using hnd)
          have HND := Lib.hid (hnd)
          clear hnd
          cases hml : ((m : Int) != t.nodes)
          case true =>
            have HG := Lib.hid (show consG t pot d = false from by
              rw [consG_nd, HM.out, decide_eq_false (show ¬ (m : Int) = t.nodes by simpa using hml)]; simp)
            go_wp2
            go_meet
            exact ⟨by rw [HG.out]; rfl, hba, E1.out⟩
          case false =>
            have D2 := Lib.hid (show (m : Int) = t.nodes from by simpa using hml)
            obtain ⟨D, hD⟩ := Int.eq_ofNat_of_zero_le DD.out.1
            subst hD
            obtain ⟨q, hq⟩ : ∃ q, pot[D]? = some q := ⟨_, List.getElem?_eq_getElem (by have := DD.out.2; have := D2.out; rw [HM.out]; omega)⟩
            obtain ⟨bq, oq, nx, X1, m1, f1, X2, m2, f2, hPP, hbq, y0', y1', y2', hQ'⟩ := HV.out.at_ hq
            subst hPP
            have y0 := (E1.out.cell (p := ⟨bq, oq + D * 3, none⟩) hbq).trans y0'
            have y1 := (E1.out.cell (p := ⟨bq, oq + D * 3 + 1, none⟩) hbq).trans y1'
            have y2 := (E1.out.cell (p := ⟨bq, oq + D * 3 + 2, none⟩) hbq).trans y2'
            have RD := Lib.hid (hQ'.keep E1.out)
            have hDm : D < m := by have := DD.out.2; have := D2.out; omega
            have HG := Lib.hid (show consG t pot D = decide (sgnI q = 0) from by
              rw [consG_nd]; unfold potA; rw [HM.out, HND.out, decide_eq_true D2.out, Int.toNat_natCast, hq]; rfl)
            clear hq y0' y1' y2' hQ' hbq
            go_wp2_with fail
            refine (sign_any nx X1 m1 f1 X2 m2 f2 q _ RD.out).mono ?_
            rintro e w2 ⟨rfl, hx2⟩
            have hba := hba.keep hx2
            have E2 := Lib.hid (E1.out.tr hx2)
            clear hx2
            go_wp2
            go_meet
            exact ⟨by rw [HG.out]; congr 1, hba, E2.out⟩
      case rest =>
        obtain ⟨rfl, hba, hx⟩ := hcut
        clear i0 i1 i2 g0 g1 g2 EX BB
        have EX := Lib.hid (hx)
        have BB := Lib.hid (hba)
        clear hx hba
        cases hb : consG t pot d
        case false =>
          have HB := Lib.hid (show R = false from by rw [← HR.out]; unfold consP; rw [HB1.out, hb]; rfl)
          obtain rfl := HB.out
          clear hb
          go_wp2
          go_ret
          exact ⟨rfl, EX.out⟩
        case true =>
          have HB := Lib.hid (show R = (List.range n).all (consA t down ps pot d) from by rw [← HR.out]; unfold consP; rw [HB1.out, hb, HN.out]; rfl)
          have KV := Lib.hid (bad1_false HB1.out)
          have KM := Lib.hid (show (m : Int) = t.nodes from by
            unfold consG at hb
            simp at hb
            have := hb.1.2
            rw [HM.out] at this
            exact this)
          have hnl : n = 2 * t.links.length := HN.out.symm.trans KV.out.2.2
          have HNL := Lib.hid (hnl)
          clear hb HR hnl HB1
          go_wp2
          go_loopg [11, 12, 13, 50] n (fun j _ _ _ it wr => ∃ (i : Nat), n - i = j ∧ i ≤ n ∧ it = .int .i64 i ∧ Hid ((List.range i).all (consA t down ps pot d) = true) ∧ Hid (Blk wr w.heap.size 25 #[.int .i64 t.nodes, .slice AO t.over.length co, .slice AL t.links.length cl]) ∧ Hid (Ext w wr))
          case atStart => exact ⟨0, rfl, Nat.zero_le _, rfl, Lib.hid rfl, BB, EX⟩
          case round =>
            obtain ⟨i, rfl, hi, rfl, GD, BY, EY⟩ := hrel
            clear BB EX
            by_cases hin : ¬ i < n
            · obtain rfl : i = n := by omega
              have HNO := Lib.hid (show R = true from by rw [HB.out]; exact GD.out)
              obtain rfl := HNO.out
              go_wp2
              go_ret
              exact ⟨rfl, EY.out⟩
            · have hin : i < n := by omega
              obtain ⟨h, hh, hh2⟩ := headP_ok KV.out.1 (a := i) (by have := HNL.out; omega)
              obtain ⟨u, hu, hu2⟩ := tailP_ok KV.out.1 (b := i) (by have := HNL.out; omega)
              have hi2 : i / 2 < t.links.length := by have := HNL.out; omega
              have hhm : h < m := by have := KM.out; omega
              have hum : u < m := by have := KM.out; omega
              have hov : t.over = [] ∨ headP t i < t.over.length := by
                have := KV.out.1
                unfold validP headOk at this
                simp at this
                rw [hh]
                have hN9 := KM.out
                rcases this.1.2 with e | e
                · exact .inl e
                · right; omega
              have hdw : down = [] ∨ i < down.length := by
                have := KV.out.2.1
                unfold fitsP at this
                simp at this
                have h9 := HNL.out
                rcases this with e | e
                · exact .inl e
                · right; omega
              have h0 : 0 ≤ headP t i := by rw [hh]; omega
              have HUS := Lib.hid (And.intro hi2 (And.intro hdw (And.intro h0 hov)))
              have HH := Lib.hid (hh)
              have HU := Lib.hid (hu)
              clear hh hu hh2 hu2 hi2 hov hdw h0
              obtain ⟨q, hq⟩ : ∃ q, ps[i]? = some q := ⟨_, List.getElem?_eq_getElem (by rw [HN.out]; omega)⟩
              obtain ⟨bq, oq, nx, X1, m1, f1, X2, m2, f2, hPP, hbq, y0', y1', y2', hQ'⟩ := HQ.out.at_ hq
              subst hPP
              have y0 := (EY.out.cell (p := ⟨bq, oq + i * 3, none⟩) hbq).trans y0'
              have y1 := (EY.out.cell (p := ⟨bq, oq + i * 3 + 1, none⟩) hbq).trans y1'
              have y2 := (EY.out.cell (p := ⟨bq, oq + i * 3 + 2, none⟩) hbq).trans y2'
              have sm := HP.out q (List.mem_of_getElem? hq)
              have HQI := Lib.hid hq
              have SM := Lib.hid sm
              have QI := Lib.hid hQ'
              clear hq sm hQ' y0' y1' y2' hbq
              go_upto_region 8 with fail
              have XB := Lib.hid (show Ext wr (wr.alloc (.cells #[.bool nx, .slice X1 m1 f1, .slice X2 m2 f2] 44)) from (Ext.refl wr).alloc _)
              have B8 := Lib.hid (And.intro (BY.out.keep XB.out) (Blk.new wr 44 #[.bool nx, .slice X1 m1 f1, .slice X2 m2 f2]))
              have E8 := Lib.hid (EY.out.tr XB.out)
              obtain ⟨⟨i0, i1, i2⟩, _⟩ := B8.out.1.three
              clear y0 y1 y2
              go_cut [60] (fun s wx => s = .bool (!usableP t down i d) ∧ Blk wx w.heap.size 25 #[.int .i64 t.nodes, .slice AO t.over.length co, .slice AL t.links.length cl] ∧ Blk wx wr.heap.size 44 #[.bool nx, .slice X1 m1 f1, .slice X2 m2 f2] ∧ Ext w wx)
              case first =>
                go_wp2_with fail
                refine (usable_any t AO co AL cl AD cd down i d _ (HT.out.keep E8.out) HUS.out.1 (HDN.out.keep E8.out) hdc hcd HUS.out.2.1 HUS.out.2.2.1 HUS.out.2.2.2).mono ?_
                rintro e w4 ⟨rfl, x4⟩
                have B9 := Lib.hid (And.intro (B8.out.1.keep x4) (B8.out.2.keep x4))
                have E9 := Lib.hid (E8.out.tr x4)
                clear x4
                go_wp2
                go_meet
                exact ⟨rfl, B9.out.1, B9.out.2, E9.out⟩
              case rest =>
                obtain ⟨rfl, hba, hbp, hx⟩ := hcut
                have WS := Lib.hid EY.out.size
                clear i0 i1 i2 B8 E8 XB BY EY
                have E5 := Lib.hid (hx)
                have B5 := Lib.hid (And.intro hba hbp)
                clear hx hba hbp
                have CA := Lib.hid (show consA t down ps pot d i = (!usableP t down i d || !decide (cmpQ (potA pot u) (ps[i]?.getD 0 + potA pot h) > 0)) from by
                  unfold consA
                  rw [HH.out, HU.out])
                cases hus : usableP t down i d
                case false =>
                  have HS := Lib.hid (range_all_step GD.out (show consA t down ps pot d i = true from by rw [CA.out, hus]; rfl))
                  have BT := Lib.hid B5.out.1
                  clear hus
                  go_wp2
                  go_roundg (n - (i + 1))
                  case measure => omega
                  case rel => exact ⟨i + 1, rfl, by omega, by go_num, HS, BT, E5⟩
                case true =>
                  obtain ⟨qu, hqu⟩ : ∃ q, pot[u]? = some q := ⟨_, List.getElem?_eq_getElem (by rw [HM.out]; omega)⟩
                  obtain ⟨qh, hqh⟩ : ∃ q, pot[h]? = some q := ⟨_, List.getElem?_eq_getElem (by rw [HM.out]; omega)⟩
                  have CB := Lib.hid (show consA t down ps pot d i = !decide (cmpQ qu (q + qh) > 0) from by
                    rw [CA.out, hus]
                    unfold potA
                    rw [Int.toNat_natCast, Int.toNat_natCast, HQI.out, hqu, hqh]; rfl)
                  have smu := HVP.out qu (List.mem_of_getElem? hqu)
                  have smh := HVP.out qh (List.mem_of_getElem? hqh)
                  have SMA := Lib.hid (szq_add2 SM.out smh)
                  have XD5 := Lib.hid (show Ext wc wc.drew from (Ext.refl wc).drewN 1)
                  have ED5 := Lib.hid (E5.out.tr XD5.out)
                  have BD5 := Lib.hid (And.intro (B5.out.1.keep XD5.out) (B5.out.2.keep XD5.out))
                  obtain ⟨bv, ov, nu, U1, p1, s1, U2, p2, s2, hVV, hbv, z0', z1', z2', hU'⟩ := HV.out.at_ hqu
                  subst hVV
                  obtain ⟨bv', ov', nh, H1, r1, t1, H2, r2, t2, hVV, hbv', x0', x1', x2', hH'⟩ := HV.out.at_ hqh
                  obtain ⟨rfl, rfl⟩ : bv = bv' ∧ ov = ov' := by simpa using hVV
                  have HBV := Lib.hid (And.intro hbv (And.intro z0' (And.intro z1' z2')))
                  have HBH := Lib.hid (And.intro hbv (And.intro x0' (And.intro x1' x2')))
                  have RQ := Lib.hid (And.intro QI.out (And.intro hU' hH'))
                  obtain ⟨la1, la2⟩ := QI.out.lens (sm_sz1 SM.out)
                  obtain ⟨lb1, lb2⟩ := hU'.lens (sm_sz1 smu)
                  obtain ⟨lc1, lc2⟩ := hH'.lens (sm_sz1 smh)
                  clear hqu hqh smu smh hU' hH' hVV z0' z1' z2' x0' x1' x2' hbv hbv' CA hus QI
                  have x0 := (ED5.out.cell (p := ⟨bv, ov + h * 3, none⟩) HBH.out.1).trans HBH.out.2.1
                  have x1 := (ED5.out.cell (p := ⟨bv, ov + h * 3 + 1, none⟩) HBH.out.1).trans HBH.out.2.2.1
                  have x2 := (ED5.out.cell (p := ⟨bv, ov + h * 3 + 2, none⟩) HBH.out.1).trans HBH.out.2.2.2
                  obtain ⟨⟨i0, i1, i2⟩, _⟩ := BD5.out.1.three
                  obtain ⟨⟨y0, y1, y2⟩, _⟩ := BD5.out.2.three
                  go_upto_region 9 with fail
                  have XA := Lib.hid (show Ext wc (wc.alloc (.cells #[.bool false, .slice none 0 0, .slice none 0 0] 44)).drew from ((Ext.refl wc).alloc _).drewN 1)
                  have EA := Lib.hid (E5.out.tr XA.out)
                  have BA := Lib.hid (And.intro (B5.out.1.keep XA.out) (And.intro (B5.out.2.keep XA.out) (show Blk (wc.alloc (.cells #[.bool false, .slice none 0 0, .slice none 0 0] 44)).drew wc.heap.size 44 #[.bool false, .slice none 0 0, .slice none 0 0] from Blk.new wc _ _)))
                  go_cut [13] (fun s wx => ∃ (g : Nat) (n6 : Bool) (A6 : Option Addr) (l6 c6 : Nat) (A6' : Option Addr) (l6' c6' : Nat), s = .pointer (some ⟨g, 0, none⟩) ∧ Blk wx g 44 #[.bool n6, .slice A6 l6 c6, .slice A6' l6' c6'] ∧ RatR wx n6 A6 l6 c6 A6' l6' c6' (q + qh) ∧ Blk wx w.heap.size 25 #[.int .i64 t.nodes, .slice AO t.over.length co, .slice AL t.links.length cl] ∧ Ext w wx)
                  case first =>
                    obtain ⟨⟨j0, j1, j2⟩, _⟩ := BA.out.1.three
                    obtain ⟨⟨k0, k1, k2⟩, _⟩ := BA.out.2.1.three
                    have o0 := (EA.out.cell (p := ⟨bv, ov + h * 3, none⟩) HBH.out.1).trans HBH.out.2.1
                    have o1 := (EA.out.cell (p := ⟨bv, ov + h * 3 + 1, none⟩) HBH.out.1).trans HBH.out.2.2.1
                    have o2 := (EA.out.cell (p := ⟨bv, ov + h * 3 + 2, none⟩) HBH.out.1).trans HBH.out.2.2.2
                    go_wp2
                    go_region_held3 (fun w' => w'.cell? ⟨w.heap.size, 0, none⟩ = some (.int .i64 t.nodes) ∧ w'.cell? ⟨w.heap.size, 1, none⟩ = some (.slice AO t.over.length co) ∧ w'.cell? ⟨w.heap.size, 2, none⟩ = some (.slice AL t.links.length cl) ∧ w'.cell? ⟨wr.heap.size, 0, none⟩ = some (.bool nx) ∧ w'.cell? ⟨wr.heap.size, 1, none⟩ = some (.slice X1 m1 f1) ∧ w'.cell? ⟨wr.heap.size, 2, none⟩ = some (.slice X2 m2 f2) ∧ w'.cell? ⟨bv, ov + h * 3, none⟩ = some (.bool nh) ∧ w'.cell? ⟨bv, ov + h * 3 + 1, none⟩ = some (.slice H1 r1 t1) ∧ w'.cell? ⟨bv, ov + h * 3 + 2, none⟩ = some (.slice H2 r2 t2))
                      (first | with_reducible exact ⟨i0, i1, i2, y0, y1, y2, x0, x1, x2⟩ | with_reducible exact ⟨j0, j1, j2, k0, k1, k2, o0, o1, o2⟩ | with_reducible exact ⟨cell_alloc_of i0 _, cell_alloc_of i1 _, cell_alloc_of i2 _, cell_alloc_of y0 _, cell_alloc_of y1 _, cell_alloc_of y2 _, cell_alloc_of x0 _, cell_alloc_of x1 _, cell_alloc_of x2 _⟩ | with_reducible exact ⟨cell_set_of (cell_set_of (cell_set_of i0 fT) fT) fT, cell_set_of (cell_set_of (cell_set_of i1 fT) fT) fT, cell_set_of (cell_set_of (cell_set_of i2 fT) fT) fT, cell_set_of (cell_set_of (cell_set_of y0 fP) fP) fP, cell_set_of (cell_set_of (cell_set_of y1 fP) fP) fP, cell_set_of (cell_set_of (cell_set_of y2 fP) fP) fP, cell_set_of (cell_set_of (cell_set_of x0 fV) fV) fV, cell_set_of (cell_set_of (cell_set_of x1 fV) fV) fV, cell_set_of (cell_set_of (cell_set_of x2 fV) fV) fV⟩ | exact ⟨cell_set_of (cell_set_of (cell_set_of i0 fT) fT) fT, cell_set_of (cell_set_of (cell_set_of i1 fT) fT) fT, cell_set_of (cell_set_of (cell_set_of i2 fT) fT) fT, cell_set_of (cell_set_of (cell_set_of y0 fP) fP) fP, cell_set_of (cell_set_of (cell_set_of y1 fP) fP) fP, cell_set_of (cell_set_of (cell_set_of y2 fP) fP) fP, cell_set_of (cell_set_of (cell_set_of x0 fV) fV) fV, cell_set_of (cell_set_of (cell_set_of x1 fV) fV) fV, cell_set_of (cell_set_of (cell_set_of x2 fV) fV) fV⟩ | fail)
                      (first
                        | (go_at_call 54
                           first
                           | (refine (gHead_any t AO co AL cl i _ (HT.out.keep (by with_reducible exact ED5.out)) HUS.out.1).mono ?_
                              rintro e w6 ⟨rfl, x6⟩
                              rw [HH.out]
                              have E6 := Lib.hid (ED5.out.tr x6)
                              have B6 := Lib.hid (And.intro (BD5.out.1.keep x6) (BD5.out.2.keep x6)))
                           | (refine (gHead_any t AO co AL cl i _ (HT.out.keep (by with_reducible exact EA.out)) HUS.out.1).mono ?_
                              rintro e w6 ⟨rfl, x6⟩
                              rw [HH.out]
                              have E6 := Lib.hid (EA.out.tr x6)
                              have B6 := Lib.hid (And.intro (BA.out.1.keep x6) (BA.out.2.1.keep x6))
                              have BN := Lib.hid (BA.out.2.2.keep x6))
                           have x0 := (E6.out.cell (p := ⟨bv, ov + h * 3, none⟩) HBH.out.1).trans HBH.out.2.1
                           have x1 := (E6.out.cell (p := ⟨bv, ov + h * 3 + 1, none⟩) HBH.out.1).trans HBH.out.2.2.1
                           have x2 := (E6.out.cell (p := ⟨bv, ov + h * 3 + 2, none⟩) HBH.out.1).trans HBH.out.2.2.2
                           obtain ⟨⟨i0, i1, i2⟩, _⟩ := B6.out.1.three
                           obtain ⟨⟨y0, y1, y2⟩, _⟩ := B6.out.2.three
                           clear x6)
                        | (go_at_call 63
                           first
                           | (refine (ratAdd_any nx nh X1 m1 f1 X2 m2 f2 H1 r1 t1 H2 r2 t2 q qh _ (RQ.out.1.keep (by with_reducible exact E6.out)) (RQ.out.2.2.keep (by with_reducible exact E6.out)) (by omega) (by omega) (by omega) (by omega) (reducedAt_all (Nat.mul_ne_zero (Rat.den_nz _) (Rat.den_nz _)))).mono ?_
                              rintro e w7 ⟨n7, A7, l7, c7, A7', l7', c7', rfl, h7, x7⟩
                              have E7 := Lib.hid (E6.out.tr x7)
                              have B7 := Lib.hid (And.intro (B6.out.1.keep x7) (B6.out.2.keep x7))
                              first
                              | (have BM := Lib.hid (BN.out.keep x7)
                                 obtain ⟨⟨v0, v1, v2⟩, c0, c1, c2⟩ := BM.out.three
                                 have gT : w.heap.size < wc.heap.size := B5.out.1.lt
                                 have gP : wr.heap.size < wc.heap.size := B5.out.2.lt
                                 have gV : bv < wc.heap.size := Nat.lt_of_lt_of_le HBH.out.1 E5.out.size
                                 have fT := Nat.ne_of_lt gT
                                 have fP := Nat.ne_of_lt gP
                                 have fV := Nat.ne_of_lt gV
                                 clear gP gV)
                              | skip)
                           | (have xa := (Ext.refl w6).alloc (.cells #[.bool false, .slice none 0 0, .slice none 0 0] 44)
                              have E6a := Lib.hid (E6.out.tr xa)
                              refine (ratAdd_any nx nh X1 m1 f1 X2 m2 f2 H1 r1 t1 H2 r2 t2 q qh _ (RQ.out.1.keep (by with_reducible exact E6a.out)) (RQ.out.2.2.keep (by with_reducible exact E6a.out)) (by omega) (by omega) (by omega) (by omega) (reducedAt_all (Nat.mul_ne_zero (Rat.den_nz _) (Rat.den_nz _)))).mono ?_
                              rintro e w7 ⟨n7, A7, l7, c7, A7', l7', c7', rfl, h7, x7⟩
                              have E7 := Lib.hid (E6a.out.tr x7)
                              have B7 := Lib.hid (And.intro ((B6.out.1.keep xa).keep x7) ((B6.out.2.keep xa).keep x7))
                              have BM := Lib.hid ((Blk.new w6 44 #[.bool false, .slice none 0 0, .slice none 0 0]).keep x7)
                              obtain ⟨⟨v0, v1, v2⟩, c0, c1, c2⟩ := BM.out.three
                              have gT : w.heap.size < w6.heap.size := B6.out.1.lt
                              have gP : wr.heap.size < w6.heap.size := B6.out.2.lt
                              have gV : bv < w6.heap.size := Nat.lt_of_lt_of_le HBH.out.1 E6.out.size
                              have fT := Nat.ne_of_lt gT
                              have fP := Nat.ne_of_lt gP
                              have fV := Nat.ne_of_lt gV
                              clear xa gP gV)
                           have H7 := Lib.hid h7
                           have x0 := (E7.out.cell (p := ⟨bv, ov + h * 3, none⟩) HBH.out.1).trans HBH.out.2.1
                           have x1 := (E7.out.cell (p := ⟨bv, ov + h * 3 + 1, none⟩) HBH.out.1).trans HBH.out.2.2.1
                           have x2 := (E7.out.cell (p := ⟨bv, ov + h * 3 + 2, none⟩) HBH.out.1).trans HBH.out.2.2.2
                           obtain ⟨⟨i0, i1, i2⟩, _⟩ := B7.out.1.three
                           obtain ⟨⟨y0, y1, y2⟩, _⟩ := B7.out.2.three
                           clear x7 h7)
                        | fail)
                    all_goals
                      go_wp2
                      go_meet
                      first
                      | (obtain ⟨q1, q2⟩ := rat_set3 (w := w) H7.out BM.out (Nat.le_of_lt gT) E7.out
                         exact ⟨_, n7, A7, l7, c7, A7', l7', c7', rfl, ((BM.out.set_ 0 _).set_ 1 _).set_ 2 _, q1, ((B7.out.1.far fT _).far fT _).far fT _, q2⟩)
                      | (have xb := (Ext.refl w7).alloc (.cells #[.bool n7, .slice A7 l7 c7, .slice A7' l7' c7'] 44)
                         exact ⟨w7.heap.size, n7, A7, l7, c7, A7', l7', c7', rfl, Blk.new w7 _ _, H7.out.keep xb, B7.out.1.keep xb, E7.out.tr xb⟩)
                  case rest =>
                    obtain ⟨g, n6, A6, l6, c6, A6', l6', c6', rfl, hb6, h6, hba, hx⟩ := hcut
                    clear i0 i1 i2 y0 y1 y2 x0 x1 x2 XA EA BA BD5 ED5 XD5 B5 E5
                    have XD6 := Lib.hid (show Ext wc wc.drew from (Ext.refl wc).drewN 1)
                    have ED6 := Lib.hid (hx.tr XD6.out)
                    have BD6 := Lib.hid (And.intro (hba.keep XD6.out) (hb6.keep XD6.out))
                    have R6 := Lib.hid (And.intro (h6.keep XD6.out) (RQ.out.2.1.keep ED6.out))
                    obtain ⟨ll1, ll2⟩ := h6.lens SMA.out
                    clear hb6 h6 hba hx
                    have x0 := (ED6.out.cell (p := ⟨bv, ov + u * 3, none⟩) HBV.out.1).trans HBV.out.2.1
                    have x1 := (ED6.out.cell (p := ⟨bv, ov + u * 3 + 1, none⟩) HBV.out.1).trans HBV.out.2.2.1
                    have x2 := (ED6.out.cell (p := ⟨bv, ov + u * 3 + 2, none⟩) HBV.out.1).trans HBV.out.2.2.2
                    obtain ⟨⟨i0, i1, i2⟩, _⟩ := BD6.out.1.three
                    obtain ⟨⟨y0, y1, y2⟩, _⟩ := BD6.out.2.three
                    go_wp2
                    go_region_held3 (fun w' => w'.cell? ⟨w.heap.size, 0, none⟩ = some (.int .i64 t.nodes) ∧ w'.cell? ⟨w.heap.size, 1, none⟩ = some (.slice AO t.over.length co) ∧ w'.cell? ⟨w.heap.size, 2, none⟩ = some (.slice AL t.links.length cl) ∧ w'.cell? ⟨g, 0, none⟩ = some (.bool n6) ∧ w'.cell? ⟨g, 1, none⟩ = some (.slice A6 l6 c6) ∧ w'.cell? ⟨g, 2, none⟩ = some (.slice A6' l6' c6') ∧ w'.cell? ⟨bv, ov + u * 3, none⟩ = some (.bool nu) ∧ w'.cell? ⟨bv, ov + u * 3 + 1, none⟩ = some (.slice U1 p1 s1) ∧ w'.cell? ⟨bv, ov + u * 3 + 2, none⟩ = some (.slice U2 p2 s2))
                      (first | with_reducible exact ⟨i0, i1, i2, y0, y1, y2, x0, x1, x2⟩ | fail)
                      (first
                        | (go_at_call 79
                           refine (gTail_any t AO co AL cl i _ (HT.out.keep ED6.out) HUS.out.1).mono ?_
                           rintro e w8 ⟨rfl, x8⟩
                           rw [HU.out]
                           have E8 := Lib.hid (ED6.out.tr x8)
                           have B8 := Lib.hid (And.intro (BD6.out.1.keep x8) (BD6.out.2.keep x8))
                           have R8 := Lib.hid (And.intro (R6.out.1.keep x8) (R6.out.2.keep x8))
                           have x0 := (E8.out.cell (p := ⟨bv, ov + u * 3, none⟩) HBV.out.1).trans HBV.out.2.1
                           have x1 := (E8.out.cell (p := ⟨bv, ov + u * 3 + 1, none⟩) HBV.out.1).trans HBV.out.2.2.1
                           have x2 := (E8.out.cell (p := ⟨bv, ov + u * 3 + 2, none⟩) HBV.out.1).trans HBV.out.2.2.2
                           obtain ⟨⟨i0, i1, i2⟩, _⟩ := B8.out.1.three
                           obtain ⟨⟨y0, y1, y2⟩, _⟩ := B8.out.2.three
                           clear x8)
                        | (go_at_call 27
                           refine (ratCmp_any nu n6 U1 p1 s1 U2 p2 s2 A6 l6 c6 A6' l6' c6' qu (q + qh) _ R8.out.2 R8.out.1 (by omega) (by omega) (by omega) (by omega)).mono ?_
                           rintro e w9 ⟨rfl, x9⟩
                           have E9 := Lib.hid (E8.out.tr x9)
                           have B9 := Lib.hid (B8.out.1.keep x9)
                           have x0 := (E9.out.cell (p := ⟨bv, ov + u * 3, none⟩) HBV.out.1).trans HBV.out.2.1
                           have x1 := (E9.out.cell (p := ⟨bv, ov + u * 3 + 1, none⟩) HBV.out.1).trans HBV.out.2.2.1
                           have x2 := (E9.out.cell (p := ⟨bv, ov + u * 3 + 2, none⟩) HBV.out.1).trans HBV.out.2.2.2
                           obtain ⟨⟨i0, i1, i2⟩, _⟩ := B9.out.three
                           obtain ⟨⟨y0, y1, y2⟩, _⟩ := (B8.out.2.keep x9).three
                           clear x9)
                        | fail)
                    cases hc : decide (cmpQ qu (q + qh) > 0)
                    case true =>
                      have HF := Lib.hid (show R = false from by rw [HB.out]; exact range_all_no hin (by rw [CB.out, hc]; rfl))
                      obtain rfl := HF.out
                      go_wp2
                      go_ret
                      exact ⟨rfl, E9.out⟩
                    case false =>
                      have HS := Lib.hid (range_all_step GD.out (show consA t down ps pot d i = true from by rw [CB.out, hc]; rfl))
                      go_wp2
                      go_roundg (n - (i + 1))
                      case measure => omega
                      case rel => exact ⟨i + 1, rfl, by omega, by go_num, HS, B9, E9⟩
end Go.Proofs.YtekiomanidimnaaGreatDoor
