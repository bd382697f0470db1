/- waypointref42.Consistent: potentials. -/
import Derived.Test.YtekiomanidimnaaGreatDoorCnA
set_option linter.unusedVariables false
set_option linter.unusedSimpArgs false

namespace Go.Proofs.YtekiomanidimnaaGreatDoor
open Go.RowKit
def potA (pot : List Rat) (v : Int) : Rat := pot[v.toNat]?.getD 0
/-- Arc a keeps the potentials. -/
def consA (t : Tp) (down : List Bool) (ps pot : List Rat) (d : Int) (a : Nat) : Bool := !usableP t down a d || !decide (cmpQ (potA pot (tailP t a)) (ps[a]?.getD 0 + potA pot (headP t a)) > 0)
def consG (t : Tp) (pot : List Rat) (d : Int) : Bool := decide (0 ≤ d) && decide (d < t.nodes) && decide ((pot.length : Int) = t.nodes) && decide (sgnI (potA pot d) = 0)
def consP (t : Tp) (down : List Bool) (ps pot : List Rat) (d : Int) : Bool := !bad1 t down ps && consG t pot d && (List.range ps.length).all (consA t down ps pot d)
theorem sm_sz1 {q : Rat} (h : SmQ q) : SzQ q 1 := ⟨Nat.lt_of_lt_of_le h.1 (by decide), Nat.lt_of_lt_of_le h.2 (by decide)⟩
theorem szq_add2 {a b : Rat} (ha : SmQ a) (hb : SmQ b) : SzQ (a + b) 3 := SzQ.mono (SzQ.add (sm_sz1 ha) (sm_sz1 hb)) (by omega)
theorem tailP_ok {t : Tp} (hv : validP t = true) {b : Nat} (ha : b < 2 * t.links.length) : ∃ h : Nat, tailP t b = (h : Int) ∧ (h : Int) < t.nodes := by
  unfold validP at hv
  rw [Bool.and_eq_true] at hv
  obtain ⟨l, hl⟩ : ∃ l, t.links[b / 2]? = some l := ⟨_, List.getElem?_eq_getElem (by omega)⟩
  have hlk := List.all_eq_true.1 hv.2 l (List.mem_of_getElem? hl)
  unfold Lk.ok ndB at hlk
  simp at hlk
  unfold tailP
  rw [hl]
  simp only []
  split
  · exact ⟨l.a.toNat, by omega, by omega⟩
  · exact ⟨l.b.toNat, by omega, by omega⟩
theorem bad1_false {t : Tp} {down : List Bool} {ps : List Rat} (h : bad1 t down ps = false) : validP t = true ∧ fitsP t down = true ∧ ps.length = 2 * t.links.length := by
  unfold bad1 pricedP at h
  simp at h
  exact ⟨h.1.1, h.1.2, h.2.1⟩
theorem range_all_step {f : Nat → Bool} {i : Nat} (h : (List.range i).all f = true) (h2 : f i = true) : (List.range (i + 1)).all f = true := by
  rw [List.range_succ, List.all_append, h]; simpa using h2
theorem range_all_no {f : Nat → Bool} {i n : Nat} (hi : i < n) (h2 : f i = false) : (List.range n).all f = false := by
  rw [Bool.eq_false_iff]
  intro h
  have := List.all_eq_true.1 h i (List.mem_range.2 hi)
  rw [h2] at this
  cases this
set_option maxRecDepth 100000 in
set_option maxHeartbeats 8000000 in
theorem rCons_ok (t : Tp) (AO : Option Addr) (co : Nat) (AL : Option Addr) (cl : Nat) (AD : Option Addr) (cd : Nat) (down : List Bool) (PP : Option Addr) (n cp : Nat) (ps : List Rat) (hn : ps.length = n) (VV : Option Addr) (m cv : Nat) (pot : List Rat) (hm : pot.length = m) (d : Int) (w : World) (ht : TopR w t AO co AL cl) (hdn : Rd w AD (bools down)) (hq : QLg RQC w PP ps) (hps : ∀ q ∈ ps, SmQ q) (hp : QLg RQC w VV pot) (hpot : ∀ q ∈ pot, SmQ q) (hl : n ≤ 1000) (hl2 : m ≤ 1000) :
    Calls Tryz.prog 31 #[.agg #[.int .i64 t.nodes, .slice AO t.over.length co, .slice AL t.links.length cl], .slice AD down.length cd, .slice PP n cp, .slice VV m cv, .int .i64 d] w fun e w' => e = .returned (.bool (consP t down ps pot d)) ∧ Ext w w' := by
  have HT := Lib.hid (ht)
  have HDN := Lib.hid (hdn)
  have HQ := Lib.hid (hq)
  have HP := Lib.hid (hps)
  have HV := Lib.hid (hp)
  have HVP := Lib.hid (hpot)
  have HN := Lib.hid (hn)
  have HM := Lib.hid (hm)
  clear ht hdn hq hps hp hpot hn hm
  generalize hR : consP t down ps pot d = R
  have HR := Lib.hid (hR)
  clear hR
  obtain ⟨b0, e0⟩ := boxes1 w #[.int .i64 t.nodes, .slice AO t.over.length co, .slice AL t.links.length cl] 25
  obtain ⟨⟨i0, i1, i2⟩, g0, g1, g2⟩ := b0.three
  have BB := Lib.hid (b0)
  clear b0
  go_enter Tryz.func31, Tryz.ntmps31
  go_upto_region 1 with fail
  go_cut [43] (fun s wx => s = .bool (!(!bad1 t down ps && consG t pot d)) ∧ Blk wx w.heap.size 25 #[.int .i64 t.nodes, .slice AO t.over.length co, .slice AL t.links.length cl] ∧ Ext w wx)
  case first =>
    go_wp2_with fail
    refine (rFits_ok t AO co AL cl AD cd down PP n cp ps HN.out _ (HT.out.keep e0) (HQ.out.keep e0) (by omega)).mono ?_
    rintro e w1 ⟨rfl, hx1⟩
    have hba := BB.out.keep hx1
    obtain ⟨⟨i0, i1, i2⟩, g0, g1, g2⟩ := hba.three
    have E1 := Lib.hid (e0.tr hx1)
    clear hx1
    cases hb : bad1 t down ps
    case true =>
      go_wp2
      go_meet
      exact ⟨by rw [hb]; rfl, hba, E1.out⟩
    case false =>
      have HB := Lib.hid (hb)
      clear hb
      cases hd0 : decide (d < 0)
      case true =>
        have HG := Lib.hid (show consG t pot d = false from by
          have := of_decide_eq_true hd0
          unfold consG; rw [decide_eq_false (show ¬ 0 ≤ d by omega)]; rfl)
        go_wp2
        go_meet
        exact ⟨by rw [HB.out, HG.out]; rfl, hba, E1.out⟩
      case false =>
        have D0 := Lib.hid (show 0 ≤ d from by have := of_decide_eq_false hd0; omega)
        cases hd1 : decide (t.nodes ≤ d)
        case true =>
          have HG := Lib.hid (show consG t pot d = false from by
            have := of_decide_eq_true hd1
            unfold consG; rw [decide_eq_false (show ¬ d < t.nodes by omega)]; simp)
          go_wp2
          go_meet
          exact ⟨by rw [HB.out, HG.out]; rfl, hba, E1.out⟩
        case false =>
          have D1 := Lib.hid (show d < t.nodes from by have := of_decide_eq_false hd1; omega)
          cases hml : ((m : Int) != t.nodes)
          case true =>
            have HG := Lib.hid (show consG t pot d = false from by
              unfold consG; rw [HM.out, decide_eq_false (show ¬ (m : Int) = t.nodes by simpa using hml)]; simp)
            go_wp2
            go_meet
            exact ⟨by rw [HB.out, HG.out]; rfl, hba, E1.out⟩
          case false =>
            have D2 := Lib.hid (show (m : Int) = t.nodes from by simpa using hml)
            obtain ⟨D, hD⟩ := Int.eq_ofNat_of_zero_le D0.out
            subst hD
            obtain ⟨q, hq⟩ : ∃ q, pot[D]? = some q := ⟨_, List.getElem?_eq_getElem (by have := D1.out; have := D2.out; rw [HM.out]; omega)⟩
            obtain ⟨bq, oq, nx, X1, m1, f1, X2, m2, f2, hPP, hbq, y0', y1', y2', hQ'⟩ := HV.out.at_ hq
            subst hPP
            have y0 := (E1.out.cell (p := ⟨bq, oq + D * 3, none⟩) hbq).trans y0'
            have y1 := (E1.out.cell (p := ⟨bq, oq + D * 3 + 1, none⟩) hbq).trans y1'
            have y2 := (E1.out.cell (p := ⟨bq, oq + D * 3 + 2, none⟩) hbq).trans y2'
            have RD := Lib.hid (hQ'.keep E1.out)
            have hDm : D < m := by have := D1.out; have := D2.out; omega
            have HG := Lib.hid (show consG t pot D = decide (sgnI q = 0) from by
              unfold consG potA; rw [HM.out, decide_eq_true D0.out, decide_eq_true D1.out, decide_eq_true D2.out, Int.toNat_natCast, hq]; rfl)
            clear hq y0' y1' y2' hQ' hbq
            go_wp2_with fail
            refine (rqSign_ok nx X1 m1 f1 X2 m2 f2 q _ RD.out).mono ?_
            rintro e w2 ⟨rfl, hx2⟩
            have hba := hba.keep hx2
            have E2 := Lib.hid (E1.out.tr hx2)
            clear hx2
            go_wp2
            go_meet
            exact ⟨by rw [HB.out, HG.out]; congr 1, hba, E2.out⟩
  case rest =>
    obtain ⟨rfl, hba, hx⟩ := hcut
    clear i0 i1 i2 g0 g1 g2 e0 BB
    have EX := Lib.hid (hx)
    have BB := Lib.hid (hba)
    clear hx hba
    cases hb : (!bad1 t down ps && consG t pot d)
    case false =>
      have HB := Lib.hid (show R = false from by rw [← HR.out]; unfold consP; rw [hb]; rfl)
      obtain rfl := HB.out
      clear hb
      go_wp2
      go_ret
      exact ⟨rfl, EX.out⟩
    case true =>
      have HB := Lib.hid (show R = (List.range n).all (consA t down ps pot d) from by rw [← HR.out]; unfold consP; rw [hb, HN.out]; rfl)
      obtain ⟨k1, k2⟩ := Bool.and_eq_true_iff.1 hb
      have KV := Lib.hid (bad1_false (by simpa using k1))
      have KM := Lib.hid (show (m : Int) = t.nodes from by
        unfold consG at k2
        simp at k2
        have := k2.1.2
        rw [HM.out] at this
        exact this)
      have hnl : n = 2 * t.links.length := HN.out.symm.trans KV.out.2.2
      have HNL := Lib.hid (hnl)
      clear hb HR k1 k2 hnl
      go_wp2
      go_loopg [11, 12, 13] n (fun j it _ _ wr => ∃ (i : Nat), n - i = j ∧ i ≤ n ∧ it = .int .i64 i ∧ Hid ((List.range i).all (consA t down ps pot d) = true) ∧ Hid (Blk wr w.heap.size 25 #[.int .i64 t.nodes, .slice AO t.over.length co, .slice AL t.links.length cl]) ∧ Hid (Ext w wr))
      case atStart => exact ⟨0, rfl, Nat.zero_le _, rfl, Lib.hid rfl, BB, EX⟩
      case round =>
        obtain ⟨i, rfl, hi, rfl, GD, BY, EY⟩ := hrel
        clear BB EX
        by_cases hin : i < n
        · obtain ⟨h, hh, hh2⟩ := headP_ok KV.out.1 (a := i) (by have := HNL.out; omega)
          obtain ⟨u, hu, hu2⟩ := tailP_ok KV.out.1 (b := i) (by have := HNL.out; omega)
          have hi2 : i < 2 * t.links.length := by have := HNL.out; omega
          have hhm : h < m := by have := KM.out; omega
          have hum : u < m := by have := KM.out; omega
          have HH := Lib.hid (hh)
          have HU := Lib.hid (hu)
          have HI2 := Lib.hid (hi2)
          clear hh hu hh2 hu2 hi2
          have XD := Lib.hid (show Ext wr wr.drew from (Ext.refl wr).drewN 1)
          have BD := Lib.hid (BY.out.keep XD.out)
          have ED := Lib.hid (EY.out.tr XD.out)
          obtain ⟨⟨i0, i1, i2⟩, _⟩ := BD.out.three
          go_wp2
          go_region_held3 (fun w' => w'.cell? ⟨w.heap.size, 0, none⟩ = some (.int .i64 t.nodes) ∧ w'.cell? ⟨w.heap.size, 1, none⟩ = some (.slice AO t.over.length co) ∧ w'.cell? ⟨w.heap.size, 2, none⟩ = some (.slice AL t.links.length cl))
            (first | with_reducible exact ⟨i0, i1, i2⟩ | fail)
            (first
              | (go_at_call 81
                 refine (rTail_ok t AO co AL cl i _ (HT.out.keep ED.out) KV.out.1 HI2.out).mono ?_
                 rintro e w2 ⟨rfl, x2⟩
                 rw [HU.out]
                 have B2 := Lib.hid (BD.out.keep x2)
                 have E2 := Lib.hid (ED.out.tr x2)
                 obtain ⟨⟨i0, i1, i2⟩, _⟩ := B2.out.three
                 clear x2)
              | (go_at_call 82
                 refine (rHead_ok t AO co AL cl i _ (HT.out.keep E2.out) KV.out.1 HI2.out).mono ?_
                 rintro e w3 ⟨rfl, x3⟩
                 rw [HH.out]
                 have B3 := Lib.hid (B2.out.keep x3)
                 have E3 := Lib.hid (E2.out.tr x3)
                 obtain ⟨⟨i0, i1, i2⟩, _⟩ := B3.out.three
                 clear x3)
              | fail)
          have CA := Lib.hid (show consA t down ps pot d i = (!usableP t down i d || !decide (cmpQ (potA pot u) (ps[i]?.getD 0 + potA pot h) > 0)) from by
            unfold consA
            rw [HH.out, HU.out])
          have CU := Lib.hid (show usableP t down i d = (!downP down i && ((h : Int) == d || !overP t (h : Int))) from by
            unfold usableP
            rw [HH.out])
          clear HH HU
          go_upto_region 7 with fail
          go_cut [68] (fun s wx => s = .bool (!usableP t down i d) ∧ Blk wx w.heap.size 25 #[.int .i64 t.nodes, .slice AO t.over.length co, .slice AL t.links.length cl] ∧ Ext w wx)
          case first =>
            go_wp2_with fail
            refine (rDown_any AD cd down i _ (HDN.out.keep E3.out)).mono ?_
            rintro e w4 ⟨rfl, hw4⟩
            subst hw4
            cases hdw : downP down i
            case true =>
              go_wp2
              go_meet
              exact ⟨by rw [CU.out, hdw]; rfl, B3.out, E3.out⟩
            case false =>
              have CV := Lib.hid (show usableP t down i d = ((h : Int) == d || !overP t (h : Int)) from by rw [CU.out, hdw]; rfl)
              clear hdw CU
              cases hhd : ((h : Int) != d)
              case false =>
                have CW := Lib.hid (show usableP t down i d = true from by
                  rw [CV.out]
                  have : ((h : Int) == d) = true := by simpa using hhd
                  rw [this]; rfl)
                go_wp2
                go_meet
                exact ⟨by rw [CW.out]; rfl, B3.out, E3.out⟩
              case true =>
                have CW := Lib.hid (show usableP t down i d = !overP t (h : Int) from by
                  rw [CV.out]
                  have : ((h : Int) == d) = false := by simpa using hhd
                  rw [this]; rfl)
                go_wp2_with fail
                refine (rOver_ok t AO co AL cl h _ (HT.out.keep E3.out) KV.out.1).mono ?_
                rintro e w5 ⟨rfl, x5⟩
                have B5 := Lib.hid (B3.out.keep x5)
                have E5 := Lib.hid (E3.out.tr x5)
                clear x5
                go_wp2
                go_meet
                exact ⟨by rw [CW.out]; simp, B5.out, E5.out⟩
          case rest =>
            obtain ⟨rfl, hba, hx⟩ := hcut
            clear i0 i1 i2 B3 E3 B2 E2 CU
            have E5 := Lib.hid (hx)
            have B5 := Lib.hid (hba)
            clear hx hba
            cases hus : usableP t down i d
            case false =>
              have HS := Lib.hid (range_all_step GD.out (show consA t down ps pot d i = true from by rw [CA.out, hus]; rfl))
              clear hus
              go_wp2
              go_roundg (n - (i + 1))
              case measure => omega
              case rel => exact ⟨i + 1, rfl, by omega, by go_num, HS, B5, E5⟩
            case true =>
              obtain ⟨q, hq⟩ : ∃ q, ps[i]? = some q := ⟨_, List.getElem?_eq_getElem (by rw [HN.out]; omega)⟩
              obtain ⟨qu, hqu⟩ : ∃ q, pot[u]? = some q := ⟨_, List.getElem?_eq_getElem (by rw [HM.out]; omega)⟩
              obtain ⟨qh, hqh⟩ : ∃ q, pot[h]? = some q := ⟨_, List.getElem?_eq_getElem (by rw [HM.out]; omega)⟩
              have CB := Lib.hid (show consA t down ps pot d i = !decide (cmpQ qu (q + qh) > 0) from by
                rw [CA.out, hus]
                unfold potA
                rw [Int.toNat_natCast, Int.toNat_natCast, hq, hqu, hqh]; rfl)
              have sm := HP.out q (List.mem_of_getElem? hq)
              have smu := HVP.out qu (List.mem_of_getElem? hqu)
              have smh := HVP.out qh (List.mem_of_getElem? hqh)
              have SMA := Lib.hid (szq_add2 sm smh)
              have XD5 := Lib.hid (show Ext wc wc.drew from (Ext.refl wc).drewN 1)
              have ED5 := Lib.hid (E5.out.tr XD5.out)
              obtain ⟨bq, oq, nx, X1, m1, f1, X2, m2, f2, hPP, hbq, y0', y1', y2', hQ'⟩ := HQ.out.at_ hq
              subst hPP
              obtain ⟨bv, ov, nu, U1, p1, s1, U2, p2, s2, hVV, hbv, z0', z1', z2', hU'⟩ := HV.out.at_ hqu
              subst hVV
              obtain ⟨bv', ov', nh, H1, r1, t1, H2, r2, t2, hVV, hbv', x0', x1', x2', hH'⟩ := HV.out.at_ hqh
              obtain ⟨rfl, rfl⟩ : bv = bv' ∧ ov = ov' := by simpa using hVV
              have HBQ := Lib.hid (And.intro hbq (And.intro y0' (And.intro y1' y2')))
              have HBV := Lib.hid (And.intro hbv (And.intro z0' (And.intro z1' z2')))
              have HBH := Lib.hid (And.intro hbv (And.intro x0' (And.intro x1' x2')))
              have RQ := Lib.hid (And.intro (hQ'.keep ED5.out) (And.intro (hU'.keep ED5.out) (hH'.keep ED5.out)))
              obtain ⟨la1, la2⟩ := hQ'.lens sm
              obtain ⟨lb1, lb2⟩ := hU'.lens smu
              obtain ⟨lc1, lc2⟩ := hH'.lens smh
              clear hq hqu hqh sm smu smh hQ' hU' hH' hVV y0' y1' y2' z0' z1' z2' x0' x1' x2' hbq hbv hbv' CA hus
              have y0 := (ED5.out.cell (p := ⟨bq, oq + i * 3, none⟩) HBQ.out.1).trans HBQ.out.2.1
              have y1 := (ED5.out.cell (p := ⟨bq, oq + i * 3 + 1, none⟩) HBQ.out.1).trans HBQ.out.2.2.1
              have y2 := (ED5.out.cell (p := ⟨bq, oq + i * 3 + 2, none⟩) HBQ.out.1).trans HBQ.out.2.2.2
              have z0 := (ED5.out.cell (p := ⟨bv, ov + u * 3, none⟩) HBV.out.1).trans HBV.out.2.1
              have z1 := (ED5.out.cell (p := ⟨bv, ov + u * 3 + 1, none⟩) HBV.out.1).trans HBV.out.2.2.1
              have z2 := (ED5.out.cell (p := ⟨bv, ov + u * 3 + 2, none⟩) HBV.out.1).trans HBV.out.2.2.2
              have x0 := (ED5.out.cell (p := ⟨bv, ov + h * 3, none⟩) HBH.out.1).trans HBH.out.2.1
              have x1 := (ED5.out.cell (p := ⟨bv, ov + h * 3 + 1, none⟩) HBH.out.1).trans HBH.out.2.2.1
              have x2 := (ED5.out.cell (p := ⟨bv, ov + h * 3 + 2, none⟩) HBH.out.1).trans HBH.out.2.2.2
              go_wp2
              go_region_held3 (fun w' => w'.cell? ⟨bq, oq + i * 3, none⟩ = some (.bool nx) ∧ w'.cell? ⟨bq, oq + i * 3 + 1, none⟩ = some (.slice X1 m1 f1) ∧ w'.cell? ⟨bq, oq + i * 3 + 2, none⟩ = some (.slice X2 m2 f2) ∧ w'.cell? ⟨bv, ov + u * 3, none⟩ = some (.bool nu) ∧ w'.cell? ⟨bv, ov + u * 3 + 1, none⟩ = some (.slice U1 p1 s1) ∧ w'.cell? ⟨bv, ov + u * 3 + 2, none⟩ = some (.slice U2 p2 s2) ∧ w'.cell? ⟨bv, ov + h * 3, none⟩ = some (.bool nh) ∧ w'.cell? ⟨bv, ov + h * 3 + 1, none⟩ = some (.slice H1 r1 t1) ∧ w'.cell? ⟨bv, ov + h * 3 + 2, none⟩ = some (.slice H2 r2 t2))
                (first | with_reducible exact ⟨y0, y1, y2, z0, z1, z2, x0, x1, x2⟩ | fail)
                (first
                  | (go_at_call 78
                     refine (rqAdd_ok nx nh X1 m1 f1 X2 m2 f2 H1 r1 t1 H2 r2 t2 q qh _ RQ.out.1 RQ.out.2.2 (by omega) (by omega) (by omega) (by omega)).mono ?_
                     rintro e w6 ⟨n6, A6, l6, c6, A6', l6', c6', rfl, h6, x6⟩
                     have E6 := Lib.hid (ED5.out.tr x6)
                     have B6 := Lib.hid ((B5.out.keep XD5.out).keep x6)
                     have R6 := Lib.hid (And.intro h6 (RQ.out.2.1.keep x6))
                     have y0 := (E6.out.cell (p := ⟨bq, oq + i * 3, none⟩) HBQ.out.1).trans HBQ.out.2.1
                     have y1 := (E6.out.cell (p := ⟨bq, oq + i * 3 + 1, none⟩) HBQ.out.1).trans HBQ.out.2.2.1
                     have y2 := (E6.out.cell (p := ⟨bq, oq + i * 3 + 2, none⟩) HBQ.out.1).trans HBQ.out.2.2.2
                     have z0 := (E6.out.cell (p := ⟨bv, ov + u * 3, none⟩) HBV.out.1).trans HBV.out.2.1
                     have z1 := (E6.out.cell (p := ⟨bv, ov + u * 3 + 1, none⟩) HBV.out.1).trans HBV.out.2.2.1
                     have z2 := (E6.out.cell (p := ⟨bv, ov + u * 3 + 2, none⟩) HBV.out.1).trans HBV.out.2.2.2
                     have x0 := (E6.out.cell (p := ⟨bv, ov + h * 3, none⟩) HBH.out.1).trans HBH.out.2.1
                     have x1 := (E6.out.cell (p := ⟨bv, ov + h * 3 + 1, none⟩) HBH.out.1).trans HBH.out.2.2.1
                     have x2 := (E6.out.cell (p := ⟨bv, ov + h * 3 + 2, none⟩) HBH.out.1).trans HBH.out.2.2.2
                     have LL := Lib.hid (h6.lensB (SMA.out))
                     clear h6 x6)
                  | (go_at_call 85
                     obtain ⟨ll1, ll2⟩ := LL.out
                     refine (rqCmp_ok nu n6 U1 p1 s1 U2 p2 s2 A6 l6 c6 A6' l6' c6' qu (q + qh) _ R6.out.2 R6.out.1 (by omega) (by omega) (by omega) (by omega)).mono ?_
                     rintro e w7 ⟨rfl, x7⟩
                     have E7 := Lib.hid (E6.out.tr x7)
                     have B7 := Lib.hid (B6.out.keep x7)
                     have y0 := (E7.out.cell (p := ⟨bq, oq + i * 3, none⟩) HBQ.out.1).trans HBQ.out.2.1
                     have y1 := (E7.out.cell (p := ⟨bq, oq + i * 3 + 1, none⟩) HBQ.out.1).trans HBQ.out.2.2.1
                     have y2 := (E7.out.cell (p := ⟨bq, oq + i * 3 + 2, none⟩) HBQ.out.1).trans HBQ.out.2.2.2
                     have z0 := (E7.out.cell (p := ⟨bv, ov + u * 3, none⟩) HBV.out.1).trans HBV.out.2.1
                     have z1 := (E7.out.cell (p := ⟨bv, ov + u * 3 + 1, none⟩) HBV.out.1).trans HBV.out.2.2.1
                     have z2 := (E7.out.cell (p := ⟨bv, ov + u * 3 + 2, none⟩) HBV.out.1).trans HBV.out.2.2.2
                     have x0 := (E7.out.cell (p := ⟨bv, ov + h * 3, none⟩) HBH.out.1).trans HBH.out.2.1
                     have x1 := (E7.out.cell (p := ⟨bv, ov + h * 3 + 1, none⟩) HBH.out.1).trans HBH.out.2.2.1
                     have x2 := (E7.out.cell (p := ⟨bv, ov + h * 3 + 2, none⟩) HBH.out.1).trans HBH.out.2.2.2
                     clear x7)
                  | fail)
              cases hc : decide (cmpQ qu (q + qh) > 0)
              case true =>
                have HF := Lib.hid (show R = false from by rw [HB.out]; exact range_all_no hin (by rw [CB.out, hc]; rfl))
                obtain rfl := HF.out
                go_wp2
                go_ret
                exact ⟨rfl, E7.out⟩
              case false =>
                have HS := Lib.hid (range_all_step GD.out (show consA t down ps pot d i = true from by rw [CB.out, hc]; rfl))
                go_wp2
                go_roundg (n - (i + 1))
                case measure => omega
                case rel => exact ⟨i + 1, rfl, by omega, by go_num, HS, B7, E7⟩
        · obtain rfl : i = n := by omega
          have HNO := Lib.hid (show R = true from by rw [HB.out]; exact GD.out)
          obtain rfl := HNO.out
          go_wp2
          go_ret
          exact ⟨rfl, EY.out⟩
end Go.Proofs.YtekiomanidimnaaGreatDoor
