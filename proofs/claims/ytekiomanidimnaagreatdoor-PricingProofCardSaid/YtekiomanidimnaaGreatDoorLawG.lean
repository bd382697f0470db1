/- waypointlaw42.PricingProof: the walk: it returns true. -/
import Derived.Test.YtekiomanidimnaaGreatDoorPrf
set_option linter.unusedVariables false
set_option linter.unusedSimpArgs false

namespace Go.Proofs.YtekiomanidimnaaGreatDoor
open Go.RowKit
theorem refSim_facts (t : Tp) (down : List Bool) (i D : Nat) : (∀ p ∈ (refSim t down (i : Int) (D : Int) 1000).1, p ∈ simP t down i D) ∧ (refSim t down (i : Int) (D : Int) 1000).1.length ≤ 1000 := by
  unfold refSim
  split
  · simp
  · split
    · simp
    · split
      · simp
      · rename_i h
        simp only [Int.toNat_natCast] at h ⊢
        exact ⟨fun p hp => hp, by omega⟩
theorem diP_zero {t : Tp} {down : List Bool} {ps : List Rat} {d : Int} (h : (diP t down ps d).2.2 = 0) : bad1 t down ps = false ∧ ∃ D N : Nat, d = (D : Int) ∧ t.nodes = (N : Int) ∧ D < N := by
  unfold diP at h
  split at h
  · exact absurd h (by decide)
  · rename_i hb
    split at h
    · exact absurd h (by decide)
    · rename_i hn
      have hn2 : 0 ≤ d ∧ d < t.nodes := by unfold ndB at hn; simpa using hn
      exact ⟨by simpa using hb, d.toNat, t.nodes.toNat, by omega, by omega, by omega⟩
theorem int_big : mkQ (decide ((100000 : Int) < 0)) (100000 : Int).natAbs 1 = 100000 := by decide +kernel
theorem potV_sz {t : Tp} {down : List Bool} {ps : List Rat} {d v : Nat} (hb : bad1 t down ps = false) (hs : v < t.nodes.toNat) (h8 : t.nodes ≤ 8) (hps : ∀ q ∈ ps, SmQ q) : SzQ (potV t down ps d v) 1000 := by
  have hh : validP t = true ∧ pricedP t ps = true := by
    have := hb
    unfold bad1 at this
    simp at this
    exact ⟨this.1.1, this.2⟩
  have h := cheap_spec (down := down) (d := d) hh.1 hh.2 hs
  unfold potV
  cases hc : cheapP t down ps v d with
  | none => exact (show SzQ (100000 : Rat) 1 from ⟨by decide +kernel, by decide +kernel⟩).mono (by decide)
  | some p =>
    rw [hc] at h
    refine (SzQ.pr (P := 1) (by decide) (fun q hq => (hps q hq).sz) p).mono ?_
    have := h.2.2
    omega
theorem potTo_next {rq : List Rat} {rk : List Bool} {i : Nat} {b : Bool} (h : rk[i]? = some b) : potTo rq rk (i + 1) = if b then potTo rq rk i else (potTo rq rk i).set i 100000 := by
  rw [show potTo rq rk (i + 1) = if rk[i]?.getD false then potTo rq rk i else (potTo rq rk i).set i 100000 from rfl, h]
  rfl
theorem FW.arcsG {t : Tp} {down : List Bool} {d : Nat} : ∀ (p : List Nat) {u v : Nat}, FW t down d u p v → ∀ a ∈ p, a < 2 * t.links.length
  | [], _, _, _, a, h => by simp at h
  | b :: p, u, v, hw, a, h => by
    rcases List.mem_cons.1 h with rfl | h
    · have := hw.1
      unfold leavP leavTo at this
      rw [List.mem_filter, List.mem_range] at this
      exact this.1
    · exact FW.arcsG p hw.2.2 a h
theorem sim_arcsG {t : Tp} {down : List Bool} {s d : Nat} (hv : validP t = true) {p : List Nat} (h : p ∈ simP t down s d) : (∀ a ∈ p, a < 2 * t.links.length) ∧ p.length < t.nodes.toNat := by
  refine ⟨FW.arcsG p (ext_walk hv _ [] s _ p rfl h), ?_⟩
  have := extP_plen t down d t.nodes.toNat [] s _ p h
  simpa using this
set_option maxRecDepth 100000 in
set_option maxHeartbeats 8000000 in
theorem proof_law (t : Tp) (AO : Option Addr) (co : Nat) (AL : Option Addr) (cl : Nat) (AD : Option Addr) (down : List Bool) (cd : Nat) (AF : Option Addr) (fr : List Fr) (cf : Nat) (s d : Int) (w : World) (h : ArgR w t AO co AL cl AD down cd AF fr cf s d) (hT : Tab w) :
    Calls Tryz.prog 13 #[.agg #[.int .i64 t.nodes, .slice AO t.over.length co, .slice AL t.links.length cl], .agg #[.slice AD down.length cd, .slice AF fr.length cf, .int .i64 s, .int .i64 d]] w fun e w' => e = .returned (.bool true) ∧ Ext w w' := by
  obtain ⟨b0, b1, e0⟩ := boxes2 w #[.int .i64 t.nodes, .slice AO t.over.length co, .slice AL t.links.length cl] 25 #[.slice AD down.length cd, .slice AF fr.length cf, .int .i64 s, .int .i64 d] 28
  have H := Lib.hid (h.keep e0)
  have HT := Lib.hid (hT.keep e0)
  have E0 := Lib.hid (e0)
  have BB := Lib.hid (And.intro b0 b1)
  clear h hT e0 b0 b1
  go_enter Tryz.func13, Tryz.ntmps13
  go_wp2_with fail
  refine (awake_ok _ HT.out).mono ?_
  rintro e w1 ⟨rfl, x1⟩
  have BB1 := Lib.hid (And.intro (BB.out.1.keep x1) (BB.out.2.keep x1))
  have H1 := Lib.hid (H.out.keep x1)
  have E1 := Lib.hid (E0.out.tr x1)
  clear x1 BB H E0
  obtain ⟨⟨i0, i1, i2⟩, _⟩ := BB1.out.1.three
  have j0 := BB1.out.2.cell 0
  have j1 := BB1.out.2.cell 1
  have j2 := BB1.out.2.cell 2
  have j3 := BB1.out.2.cell 3
  simp at j0 j1 j2 j3
  go_wp2_with fail
  refine (small_ok t AO co AL cl AD down.length cd AF fr.length cf s d _ (fun h1 h2 => H1.out.top h1 h2)).mono ?_
  rintro e w2 ⟨rfl, x2⟩
  have BB2 := Lib.hid (And.intro (BB1.out.1.keep x2) (BB1.out.2.keep x2))
  have H2 := Lib.hid (H1.out.keep x2)
  have E2 := Lib.hid (E1.out.tr x2)
  clear x2 BB1 H1 E1 i0 i1 i2 j0 j1 j2 j3
  cases hs : smallP t down.length fr.length
  case false =>
    go_wp2
    go_ret
    exact ⟨rfl, E2.out⟩
  case true =>
    obtain ⟨⟨⟨⟨g1, g2⟩, g3⟩, g4⟩, g5⟩ : (((t.links.length ≤ 11 ∧ t.over.length ≤ 20) ∧ down.length ≤ 40) ∧ fr.length ≤ 40) ∧ (validP t = false ∨ t.nodes ≤ 8) := by simpa [smallP] using hs
    have G5 := Lib.hid (g5)
    clear g5 hs
    have j1 := BB2.out.2.cell 1
    simp at j1
    obtain ⟨ps, hps⟩ : ∃ ps, ps = fr.map frQ := ⟨_, rfl⟩
    have HPL := Lib.hid (show ps.length = fr.length by rw [hps, List.length_map])
    have PSZ := Lib.hid (show ∀ q ∈ ps, SmQ q from fun q hq => by
      rw [hps] at hq
      obtain ⟨x, hx, rfl⟩ := List.mem_map.1 hq
      exact frQ_sm (H2.out.fwf x hx))
    have PLE := Lib.hid (show ∀ a : Nat, ps[a]?.getD 0 ≤ 128 from fun a => by
      cases ha : ps[a]? with
      | none => exact (by decide +kernel : (0 : Rat) ≤ 128)
      | some q =>
        have hq := List.mem_of_getElem? ha
        rw [hps] at hq
        obtain ⟨x, hx, rfl⟩ := List.mem_map.1 hq
        exact frQ_le (H2.out.fwf x hx))
    have HPS := Lib.hid hps
    clear hps
    go_wp2_with fail
    refine (frOf_ok AF fr.length cf fr rfl _ H2.out.frs H2.out.fwf (by omega)).mono ?_
    rintro e w4 ⟨A4, c4, rfl, hc4, hq4, x4⟩
    rw [← HPS.out] at hq4
    have BB4 := Lib.hid (And.intro (BB2.out.1.keep x4) (BB2.out.2.keep x4))
    have H4 := Lib.hid (H2.out.keep x4)
    have E4 := Lib.hid (E2.out.tr x4)
    have Q4 := Lib.hid hq4
    clear x4 hq4 BB2 H2 E2 j1 HPS
    generalize hL : fr.length = L at *
    clear hL
    go_wp2_with fail
    refine (numbers_ok A4 L c4 ps HPL.out _ Q4.out PSZ.out (by omega)).mono ?_
    rintro e w6 ⟨A6, c6, rfl, hc6, hq6, x6⟩
    have BB6 := Lib.hid (And.intro (BB4.out.1.keep x6) (BB4.out.2.keep x6))
    have H6 := Lib.hid (H4.out.keep x6)
    have E6 := Lib.hid (E4.out.tr x6)
    have Q6 := Lib.hid hq6
    clear x6 hq6 BB4 H4 E4 Q4 hc4 hc6
    generalize hR : diP t down ps d = R
    have HR := Lib.hid (hR)
    clear hR
    have KEEP := Lib.hid (show ∀ wx, Ext w6 wx → (wx.cell? ⟨w.heap.size, 0, none⟩ = some (.int .i64 t.nodes) ∧ wx.cell? ⟨w.heap.size, 1, none⟩ = some (.slice AO t.over.length co) ∧ wx.cell? ⟨w.heap.size, 2, none⟩ = some (.slice AL t.links.length cl) ∧ wx.cell? ⟨w.heap.size + 1, 0, none⟩ = some (.slice AD down.length cd) ∧ wx.cell? ⟨w.heap.size + 1, 3, none⟩ = some (.int .i64 d)) from fun wx hx => by
      obtain ⟨⟨i0, i1, i2⟩, _⟩ := (BB6.out.1.keep hx).three
      exact ⟨i0, i1, i2, (BB6.out.2.keep hx).cell 0, (BB6.out.2.keep hx).cell 3⟩)
    obtain ⟨i0, i1, i2, j0, j3⟩ := KEEP.out _ (Ext.refl _)
    go_wp2_with fail
    refine (dist_ok t AO co AL cl AD cd down A6 L c6 ps HPL.out d _ (H6.out.top g1 g2) H6.out.dn (by omega) H6.out.ld Q6.out (by omega) (fun q hq => (PSZ.out q hq).sz)).mono ?_
    intro e w7 hd7
    rw [HR.out] at hd7
    rcases hd7 with ⟨hne, rfl, _, _, x7⟩ | ⟨hz, gd, gk, rfl, hlen, hqb, hkb, hgd, x7⟩
    · obtain ⟨rq, rk, ec⟩ := R
      simp only at hne
      have hec : ((ec : Int) != 0) = true := by simpa using hne
      have E7 := Lib.hid (E6.out.tr x7)
      clear hne HR i0 i1 i2 j0 j3 x7
      go_wp2
      go_ret
      exact ⟨rfl, E7.out⟩
    · obtain ⟨hb1, D, N, hdD, hN, hDN⟩ := diP_zero (t := t) (down := down) (ps := ps) (d := d) (by rw [HR.out]; exact hz)
      have h8 : t.nodes ≤ 8 := by
        rcases G5.out with h | h
        · have := (bad1_false hb1).1; rw [this] at h; cases h
        · exact h
      have hpot := pot_at hN hb1 hDN
      rw [← hdD, HR.out] at hpot
      obtain ⟨rq, rk, ec⟩ := R
      simp only at hz hlen hqb hkb hpot ⊢
      have hrl : rq.length = N := hpot.1
      have hkl : rk.length = N := hpot.2.1
      rw [hrl]
      have F1 := Lib.hid (And.intro hb1 (And.intro hN (And.intro hDN h8)))
      have F2 := Lib.hid (And.intro hrl (And.intro hkl hpot.2.2))
      have HD := Lib.hid hdD
      have hn8 : N ≤ 8 := by omega
      have hnn : ((N : Int) != t.nodes) = false := by rw [hN]; simp
      have S7 := Lib.hid (show QB w7 gd (potTo rq rk 0) ∧ Blk w7 gk 4 (bools rk).toArray ∧ Ext w6 w7 from ⟨hqb, hkb, x7⟩)
      have hgd' : w6.heap.size ≤ gd := by omega
      clear hb1 hdD hN hDN h8 hpot hrl hkl hlen hqb hkb HR G5 hz hgd i0 i1 i2 j0 j3 x7
      obtain ⟨i0, i1, i2, j0, j3⟩ := KEEP.out _ S7.out.2.2
      go_wp2
      go_loopg [9] N (fun j it wr => ∃ i : Nat, N - i = j ∧ i ≤ N ∧ it = .int .i64 i ∧ Hid (QB wr gd (potTo rq rk i) ∧ Blk wr gk 4 (bools rk).toArray ∧ Ext w6 wr))
      case atStart => exact ⟨0, rfl, Nat.zero_le _, rfl, S7⟩
      case round =>
        obtain ⟨i, rfl, hi, rfl, LI⟩ := hrel
        clear S7 i0 i1 i2 j0 j3
        obtain ⟨i0, i1, i2, j0, j3⟩ := KEEP.out _ LI.out.2.2
        by_cases hil : i < N
        · have iN : (i : Int) < t.nodes := by have := F1.out.2.1; omega
          have iN2 : (i : Int) < (N : Int) := by omega
          obtain ⟨kb, hkb⟩ : ∃ kb, rk[i]? = some kb := ⟨_, List.getElem?_eq_getElem (by rw [F2.out.2.1]; exact hil)⟩
          have hck := (LI.out.2.1.cell i).trans (bools_getA _ i kb hkb)
          have HNX := Lib.hid (potTo_next (rq := rq) hkb)
          clear hkb
          cases kb
          case true =>
            have HP := Lib.hid (show potTo rq rk (i + 1) = potTo rq rk i from HNX.out)
            clear HNX
            go_wp2
            go_roundg (N - (i + 1))
            case measure => omega
            case rel => exact ⟨i + 1, rfl, by omega, by go_num, Lib.hid (by rw [HP.out]; exact LI.out)⟩
          case false =>
            have HP := Lib.hid (show potTo rq rk (i + 1) = (potTo rq rk i).set i 100000 from HNX.out)
            clear HNX
            go_wp2_with fail
            refine (ratInt_any 100000 _ (by decide) (by decide)).mono ?_
            rintro e w8 ⟨n8, A8, l8, c8, A8', l8', c8', rfl, h8, x8⟩
            rw [int_big] at h8
            have hlp : i < (potTo rq rk i).length := by rw [potTo_len, F2.out.1]; exact hil
            obtain ⟨_, _, _, _, _, _, _, ⟨q0, q1, q2⟩, ⟨f0, f1, f2⟩, hrr⟩ := (LI.out.1.keep x8).at_ (i := i) (List.getElem?_eq_getElem hlp)
            clear hrr
            have hkk := LI.out.2.1.keep x8
            obtain ⟨cd8, hcd8⟩ := LI.out.1.blk
            have hne : gk ≠ gd := LI.out.2.1.ne_ hcd8 (by decide)
            have PUT := Lib.hid (And.intro ((LI.out.1.keep x8).put hlp h8) (And.intro (((hkk.far (p := ⟨gd, i * 3, none⟩) hne (.bool n8)).far (p := ⟨gd, i * 3 + 1, none⟩) hne (.slice A8 l8 c8)).far (p := ⟨gd, i * 3 + 2, none⟩) hne (.slice A8' l8' c8')) ((((LI.out.2.2.tr x8).set_ (p := ⟨gd, i * 3, none⟩) hgd' (.bool n8)).set_ (p := ⟨gd, i * 3 + 1, none⟩) hgd' (.slice A8 l8 c8)).set_ (p := ⟨gd, i * 3 + 2, none⟩) hgd' (.slice A8' l8' c8'))))
            clear hkk hcd8 hne h8 hlp x8 LI hck i0 i1 i2 j0 j3
            go_wp2
            go_roundg (N - (i + 1))
            case measure => omega
            case rel => exact ⟨i + 1, rfl, by omega, by go_num, Lib.hid (by rw [HP.out]; exact PUT.out)⟩
        · have hiN : i = N := by omega
          have hni : ¬ (i : Int) < t.nodes := by have := F1.out.2.1; omega
          obtain ⟨pot, hpt⟩ : ∃ pot, potTo rq rk N = pot := ⟨_, rfl⟩
          have LN := Lib.hid (show QB wr gd pot ∧ Ext w6 wr by rw [← hpt, ← hiN]; exact ⟨LI.out.1, LI.out.2.2⟩)
          have P1 := Lib.hid (show pot.length = N ∧ ∀ v, v < N → pot[v]? = some (potV t down ps D v) by rw [← hpt]; exact ⟨by rw [potTo_len]; exact F2.out.1, F2.out.2.2⟩)
          have P2 := Lib.hid (show ∀ q ∈ pot, SzQ q 1000 from fun q hq => by
            obtain ⟨v, hv⟩ := List.mem_iff_getElem?.1 hq
            have hvl := (List.getElem?_eq_some_iff.1 hv).1
            rw [P1.out.1] at hvl
            rw [P1.out.2 v hvl] at hv
            injection hv with hv
            rw [← hv]
            exact potV_sz F1.out.1 (by have := F1.out.2.1; omega) F1.out.2.2.2 PSZ.out)
          have P3 := Lib.hid (show consP t down ps pot d = true by rw [HD.out]; exact cons_true F1.out.2.1 F1.out.1 F1.out.2.2.1 PLE.out F1.out.2.2.2 P1.out.1 P1.out.2)
          clear LI F2 hpt hiN
          have hcon := cons_sz t AO co AL cl AD cd down A6 L c6 ps HPL.out (some ⟨gd, 0, none⟩) N N pot P1.out.1 d _ ((H6.out.keep LN.out.2).top g1 g2) (H6.out.keep LN.out.2).dn (by omega) H6.out.ld (Q6.out.keep LN.out.2) PSZ.out LN.out.1.ql P2.out (by omega) (by omega)
          rw [P3.out] at hcon
          have HCON := Lib.hid hcon
          clear hcon
          go_wp2_with fail
          refine (HCON.out).mono ?_
          rintro e w9 ⟨rfl, x9⟩
          have L9 := Lib.hid (show QB w9 gd pot ∧ Ext w6 w9 from ⟨LN.out.1.keep x9, LN.out.2.tr x9⟩)
          clear x9 LN HCON i0 i1 i2 j0 j3 hni
          go_wp2
          go_loopg [10, 11, 12, 13, 14, 15] N (fun j it _ _ _ _ _ wy => ∃ v : Nat, N - v = j ∧ v ≤ N ∧ it = .int .i64 v ∧ Hid (QB wy gd pot ∧ Ext w6 wy))
          case atStart => exact ⟨0, rfl, Nat.zero_le _, rfl, L9⟩
          case round =>
            obtain ⟨v, rfl, hv, rfl, LV⟩ := hrel
            clear L9
            obtain ⟨i0, i1, i2, j0, j3⟩ := KEEP.out _ LV.out.2
            by_cases hvl : v < N
            · have vN : (v : Int) < t.nodes := by have := F1.out.2.1; omega
              have vN2 : (v : Int) < (N : Int) := by omega
              go_wp2_with fail
              refine (pSimple_ok t AO co AL cl AD cd down (v : Int) d 1000 _ ((H6.out.keep LV.out.2).top g1 g2) (H6.out.keep LV.out.2).dn (by omega) H6.out.ld).mono ?_
              rintro e w10 ⟨vv, rfl, p10, x10⟩
              obtain ⟨A, c, rfl⟩ := p10.form
              have SF := Lib.hid (show (∀ p ∈ (refSim t down (v : Int) d 1000).1, p ∈ simP t down v D) ∧ (refSim t down (v : Int) d 1000).1.length ≤ 1000 by rw [HD.out]; exact refSim_facts t down v D)
              have LW := Lib.hid (show QB w10 gd pot ∧ Ext w6 w10 from ⟨LV.out.1.keep x10, LV.out.2.tr x10⟩)
              generalize hRS : refSim t down (v : Int) d 1000 = RS at *
              clear hRS
              obtain ⟨all, ec2⟩ := RS
              simp only at p10 SF ⊢
              generalize hK : all.length = K at *
              have HK := Lib.hid hK
              have P10 := Lib.hid p10
              have hK1 : K ≤ 1000 := SF.out.2
              clear hK x10 p10 LV i0 i1 i2 j0 j3
              by_cases h6 : ec2 = 6
              · subst h6
                obtain ⟨i0, i1, i2, j0, j3⟩ := KEEP.out _ LW.out.2
                go_wp2
                go_roundg (N - (v + 1))
                case measure => omega
                case rel => exact ⟨v + 1, rfl, by omega, by go_num, LW⟩
              · have hec2 : ((ec2 : Int) == 6) = false := beq_eq_false_iff_ne.2 h6
                clear h6
                go_wp2
                go_loopg [13, 14, 15] K (fun j it _ _ wz => ∃ p : Nat, K - p = j ∧ p ≤ K ∧ it = .int .i64 p ∧ Hid (QB wz gd pot ∧ Ext w6 wz ∧ Ext w10 wz))
                case atStart => exact ⟨0, rfl, Nat.zero_le _, rfl, Lib.hid ⟨LW.out.1, LW.out.2, Ext.refl _⟩⟩
                case round =>
                  obtain ⟨p, rfl, hp, rfl, LP⟩ := hrel
                  clear LW
                  by_cases hpK : p < K
                  · obtain ⟨P, hP⟩ : ∃ P, all[p]? = some P := ⟨_, List.getElem?_eq_getElem (by rw [HK.out]; exact hpK)⟩
                    have HM := Lib.hid (SF.out.1 P (List.mem_of_getElem? hP))
                    obtain ⟨bb, oo, AP, ca, rfl, hbb, hcp, hlp, hrp⟩ := P10.out.at3 hP
                    have kx := (LP.out.2.2.cell (p := ⟨bb, oo + p, none⟩) hbb).trans hcp
                    have RP := Lib.hid (hrp.keep LP.out.2.2).rd
                    have SA := Lib.hid (show (∀ a ∈ P, a < L) ∧ P.length ≤ 40 by
                      obtain ⟨z1, z2⟩ := sim_arcsG (bad1_false F1.out.1).1 HM.out
                      refine ⟨fun a ha => ?_, ?_⟩
                      · have h1 := z1 a ha
                        have h2 := (bad1_false F1.out.1).2.2
                        have h3 := HPL.out
                        omega
                      · have h1 := F1.out.2.2.2
                        omega)
                    have LOW := Lib.hid (show ¬ cmpQ (prQ ps P) (potV t down ps D v) < 0 from sim_low F1.out.1 (by have := F1.out.2.1; omega) HM.out)
                    have hpl2 := SA.out.2
                    have ZP := Lib.hid (SzQ.pr (P := 1) (by decide) (fun q hq => (PSZ.out q hq).sz) P)
                    generalize hpl : P.length = pl at *
                    have HP := Lib.hid hpl
                    have pK : (p : Int) < (K : Int) := by omega
                    clear hP hcp hrp hpl
                    go_wp2_with fail
                    refine (priceN_ok A6 L c6 ps HPL.out AP pl ca P HP.out _ (Q6.out.keep LP.out.2.1) PSZ.out RP.out SA.out.1 hpl2 (by omega)).mono ?_
                    rintro e w11 ⟨n11, B11, k11, d11, B11', k11', d11', rfl, r11, x11⟩
                    have xb := (Ext.refl w11).alloc (.cells #[.bool n11, .slice B11 k11 d11, .slice B11' k11' d11'] 44)
                    have X12 := x11.tr xb
                    have B12 := Lib.hid (Blk.new w11 44 #[.bool n11, .slice B11 k11 d11, .slice B11' k11' d11'])
                    have L12 := Lib.hid (show QB (w11.alloc (.cells #[.bool n11, .slice B11 k11 d11, .slice B11' k11' d11'] 44)) gd pot ∧ Ext w6 (w11.alloc (.cells #[.bool n11, .slice B11 k11 d11, .slice B11' k11' d11'] 44)) ∧ Ext w10 (w11.alloc (.cells #[.bool n11, .slice B11 k11 d11, .slice B11' k11' d11'] 44)) from ⟨LP.out.1.keep X12, LP.out.2.1.tr X12, LP.out.2.2.tr X12⟩)
                    have R12 := Lib.hid (r11.keep xb)
                    clear r11 x11 xb X12 LP RP kx hbb
                    go_upto_region 27 with fail
                    generalize hW : w11.alloc (.cells #[.bool n11, .slice B11 k11 d11, .slice B11' k11' d11'] 44) = w12 at *
                    clear hW
                    generalize hg12 : w11.heap.size = g12 at *
                    clear hg12
                    obtain ⟨nq, Q1, m1, f1, Q2, m2, f2, ⟨q0, q1, q2⟩, _, hRQ⟩ := L12.out.1.at_ (i := v) (P1.out.2 v hvl)
                    have RQ := Lib.hid hRQ
                    obtain ⟨⟨y0, y1, y2⟩, _⟩ := B12.out.three
                    have gdl := L12.out.1.lt
                    have gbl := B12.out.lt
                    have la := R12.out.lens ZP.out
                    have lb := hRQ.lens (P2.out _ (List.mem_of_getElem? (P1.out.2 v hvl)))
                    have z0 := XW.cell _ _ _ gdl q0
                    have z1 := XW.cell _ _ _ gdl q1
                    have z2 := XW.cell _ _ _ gdl q2
                    have z3 := XW.cell _ _ _ gbl y0
                    have z4 := XW.cell _ _ _ gbl y1
                    have z5 := XW.cell _ _ _ gbl y2
                    have hcf : decide (cmpQ (prQ ps P) (potV t down ps D v) < 0) = false := decide_eq_false (by have := LOW.out; omega)
                    generalize hqa : prQ ps P = qa at *
                    generalize hqb : potV t down ps D v = qv at *
                    clear q0 q1 q2 y0 y1 y2 hRQ hqa hqb LOW
                    refine wp_region_ext (by kernel_rfl) (by kernel_rfl) ?_
                    repeat (go_big_quiet_step ((go_at_call 27; exact Calls.ext_of (ratCmp_any n11 nq B11 k11 d11 B11' k11' d11' Q1 m1 f1 Q2 m2 f2 qa qv _ (R12.out.keep (XW.ext _)) (RQ.out.keep (XW.ext _)) (by omega) (by omega) (by omega) (by omega)))))
                    refine wpQuiet_nil ?_
                    rintro _ ⟨x, rfl⟩
                    have hx2 := x.ext
                    clear z0 z1 z2 z3 z4 z5
                    generalize x.val = w13 at *
                    clear x
                    have L13 := Lib.hid (show QB w13 gd pot ∧ Ext w6 w13 ∧ Ext w10 w13 from ⟨L12.out.1.keep hx2, L12.out.2.1.tr hx2, L12.out.2.2.tr hx2⟩)
                    clear hx2 L12
                    go_wp2
                    go_roundg (K - (p + 1))
                    case measure => omega
                    case rel => exact ⟨p + 1, rfl, by omega, by go_num, L13⟩
                  · obtain rfl : p = K := by omega
                    go_wp2
                    go_roundg (N - (v + 1))
                    case measure => omega
                    case rel => exact ⟨v + 1, rfl, by omega, by go_num, Lib.hid ⟨LP.out.1, LP.out.2.1⟩⟩
            · have hnv : ¬ (v : Int) < t.nodes := by have := F1.out.2.1; omega
              go_wp2
              go_ret
              exact ⟨rfl, E6.out.tr LV.out.2⟩
end Go.Proofs.YtekiomanidimnaaGreatDoor
