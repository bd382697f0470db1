/- waypointlaw42.PricingCosts: the walk: it returns true. -/
import Derived.Test.YtjmkcckbbgpkeaaGreatDoorKpZ
import Derived.Test.YtjmkcckbbgpkeaaGreatDoorLawA
import Derived.Test.YtjmkcckbbgpkeaaGreatDoorChLen
import Derived.Test.YtjmkcckbbgpkeaaGreatDoorMD
set_option linter.unusedVariables false
set_option linter.unusedSimpArgs false

namespace Go.Proofs.YtjmkcckbbgpkeaaGreatDoor
open Go.RowKit
theorem mkQ_nat (c : Nat) : mkQ (decide ((c : Int) < 0)) (c : Int).natAbs 1 = ((c : Int) : Rat) := by
  have h := mkQ_self ((c : Int) : Rat)
  rw [Rat.num_intCast, Rat.den_intCast] at h
  exact h
theorem costL_take (t : Tp) {a : Nat} (ha : a < 2 * t.links.length) : (costL t).take (a + 1) = (costL t).take a ++ [((costP t a : Int) : Rat)] := by
  rw [List.take_add_one]
  congr 1
  unfold costL
  rw [List.getElem?_map, List.getElem?_range ha]; rfl
theorem NatR.grownM {w w' : World} {A : Option Addr} {n c N : Nat} {t' : TypeId} {row : Option Nat} (h : NatR w A n c N) (hg : w.grownBy w' row) (hr : ∀ k, row = some k → ∃ cs fr, w.heap[k]? = some (.cells cs t' fr)) (hne : 120 ≠ t') : NatR w' A n c N := by
  obtain ⟨ds, h1, h2, h3, h4, h5⟩ := h
  exact ⟨ds, h1, h2, h3, h4, h5.grownK hg hr hne⟩
theorem QR.grownM {w w' : World} {cs : List Value} {q : Rat} {t' : TypeId} {row : Option Nat} (h : QR w cs q) (hg : w.grownBy w' row) (hr : ∀ k, row = some k → ∃ cs fr, w.heap[k]? = some (.cells cs t' fr)) (hne : 120 ≠ t') : QR w' cs q := by
  obtain ⟨neg, A, n, c, A', n', c', e, h1⟩ := h
  exact ⟨neg, A, n, c, A', n', c', e, h1.1, h1.2.1.grownM hg hr hne, h1.2.2.grownM hg hr hne⟩
theorem cmpI_self (a : Nat) : cmpI a a = 0 := by unfold cmpI; rw [if_neg (Nat.lt_irrefl a), if_pos rfl]
set_option maxRecDepth 100000 in
set_option maxHeartbeats 8000000 in
theorem costs_law (t : Tp) (AO : Option Addr) (co : Nat) (AL : Option Addr) (cl : Nat) (AD : Option Addr) (down : List Bool) (cd : Nat) (AF : Option Addr) (fr : List Fr) (cf : Nat) (s d : Int) (w : World) (h : ArgR w t AO co AL cl AD down cd AF fr cf s d) (hT : Tab w) :
    Calls Tryz.prog 3 #[.agg #[.int .i64 t.nodes, .slice AO t.over.length co, .slice AL t.links.length cl], .agg #[.slice AD down.length cd, .slice AF fr.length cf, .int .i64 s, .int .i64 d]] w fun e w' => e = .returned (.bool true) ∧ Ext w w' := by
  obtain ⟨b0, b1, e0⟩ := boxes2 w #[.int .i64 t.nodes, .slice AO t.over.length co, .slice AL t.links.length cl] 25 #[.slice AD down.length cd, .slice AF fr.length cf, .int .i64 s, .int .i64 d] 28
  have H := Lib.hid (h.keep e0)
  have HT := Lib.hid (hT.keep e0)
  have E0 := Lib.hid (e0)
  have BB := Lib.hid (And.intro b0 b1)
  clear h hT e0 b0 b1
  go_enter Tryz.func3, Tryz.ntmps3
  go_wp2_with fail
  refine (awake_ok _ HT.out).mono ?_
  rintro e w1 ⟨rfl, x1⟩
  have BB1 := Lib.hid (And.intro (BB.out.1.keep x1) (BB.out.2.keep x1))
  have H1 := Lib.hid (H.out.keep x1)
  have E1 := Lib.hid (E0.out.tr x1)
  clear x1 BB H E0
  obtain ⟨⟨i0, i1, i2⟩, _⟩ := BB1.out.1.three
  have j0 := BB1.out.2.cell 0
  have j1 := BB1.out.2.cell 1
  have j2 := BB1.out.2.cell 2
  have j3 := BB1.out.2.cell 3
  simp at j0 j1 j2 j3
  go_wp2_with fail
  refine (small_ok t AO co AL cl AD down.length cd AF fr.length cf s d _ (fun h1 h2 => H1.out.top h1 h2)).mono ?_
  rintro e w2 ⟨rfl, x2⟩
  have BB2 := Lib.hid (And.intro (BB1.out.1.keep x2) (BB1.out.2.keep x2))
  have H2 := Lib.hid (H1.out.keep x2)
  have E2 := Lib.hid (E1.out.tr x2)
  clear x2 BB1 H1 E1 i0 i1 i2 j0 j1 j2 j3
  cases hs : smallP t down.length fr.length
  case false =>
    go_wp2
    go_ret
    exact ⟨rfl, E2.out⟩
  case true =>
    obtain ⟨⟨⟨⟨g1, g2⟩, g3⟩, g4⟩, g5⟩ : (((t.links.length ≤ 11 ∧ t.over.length ≤ 20) ∧ down.length ≤ 40) ∧ fr.length ≤ 40) ∧ (validP t = false ∨ t.nodes ≤ 8) := by simpa [smallP] using hs
    have G5 := Lib.hid (g5)
    clear g5 hs
    obtain ⟨⟨i0, i1, i2⟩, _⟩ := BB2.out.1.three
    go_wp2_with fail
    refine (rValid_any t AO co AL cl _ (H2.out.top g1 g2)).mono ?_
    rintro e w3 ⟨rfl, x3⟩
    have BB3 := Lib.hid (And.intro (BB2.out.1.keep x3) (BB2.out.2.keep x3))
    have H3 := Lib.hid (H2.out.keep x3)
    have E3 := Lib.hid (E2.out.tr x3)
    clear x3 BB2 H2 E2 i0 i1 i2
    cases hv : validP t
    case false =>
      go_wp2
      go_ret
      exact ⟨rfl, E3.out⟩
    case true =>
      have HV := Lib.hid hv
      have hcll := costL_len t
      have HCL := Lib.hid hcll
      clear hv hcll
      go_wp2
      go_loopg [5, 6] (2 * t.links.length) (fun m ot it wr => ∃ (a : Nat) (A : Option Addr) (c : Nat), 2 * t.links.length - a = m ∧ a ≤ 2 * t.links.length ∧ it = .int .i64 (a : Int) ∧ ot = .slice A a c ∧ Hid (OQ QR 38 wr w3.heap.size (.slice A a c) ((costL t).take a)) ∧ Hid (Ext w3 wr))
      case atStart => exact ⟨0, none, 0, rfl, Nat.zero_le _, rfl, rfl, Lib.hid (by rw [List.take_zero]; exact OQ.nil), Lib.hid (Ext.refl _)⟩
      case round =>
        obtain ⟨a, A, c, rfl, hin, rfl, rfl, OQ1, EX⟩ := hrel
        obtain ⟨⟨i0, i1, i2⟩, _⟩ := (BB3.out.1.keep EX.out).three
        go_wp2_with fail
        refine (rArcs_ok t AO co AL cl _ ((H3.out.keep EX.out).top g1 g2) HV.out).mono ?_
        rintro e w4 ⟨rfl, x4⟩
        have E4 := Lib.hid (EX.out.tr x4)
        have OQ4 := Lib.hid (OQ1.out.keep (fun _ _ _ _ h hx => h.keep hx) x4)
        clear i0 i1 i2 x4 OQ1 EX
        by_cases hi : a < 2 * t.links.length
        · have aL : (a : Int) < 2 * (t.links.length : Int) := by omega
          obtain ⟨⟨i0, i1, i2⟩, _⟩ := (BB3.out.1.keep E4.out).three
          have TK := Lib.hid (costL_take t hi)
          have hlt : ((costL t).take a).length = a := by rw [List.length_take, HCL.out]; omega
          have hcb := costP_le HV.out a
          obtain ⟨css, q1, q2, q3, q4⟩ := OQ4.out
          rw [hlt] at q1 q3
          have OW := Lib.hid (And.intro q1 (And.intro q2 (And.intro q3 q4)))
          have HLT := Lib.hid hlt
          clear q1 q2 q3 q4 OQ4 hlt
          go_wp2_with fail
          refine (rCost_ok t AO co AL cl a _ ((H3.out.keep E4.out).top g1 g2) HV.out hi).mono ?_
          rintro e w5 ⟨rfl, x5⟩
          have hmk := mkQ_nat (costP t a)
          have HMK := Lib.hid hmk
          clear hmk
          obtain ⟨ca, hca⟩ : ∃ ca, costP t a = ca := ⟨_, rfl⟩
          rw [hca] at hcb HMK TK
          rw [hca]
          have X5 := Lib.hid x5
          clear x5 hca i0 i1 i2
          go_wp2_with fail
          refine (ratInt_any (ca : Int) _ (by omega) (by omega)).mono ?_
          rintro e w6 ⟨nb, A5, n5, c5, A6, n6, c6, rfl, h6, x6⟩
          rw [HMK.out] at h6
          have E6 := Lib.hid (E4.out.tr (X5.out.tr x6))
          have OW6 := Lib.hid (OW.out.2.2.1.kept (grown_ext (X5.out.tr x6)) (own_none _))
          have R6 := Lib.hid h6
          have X6 := Lib.hid (X5.out.tr x6)
          clear h6 x6 X5 E4
          go_wp2_with (at_builtin; go_must (refine wpList_push3 w6 32 38 rfl (.tmp 32) (.tmp 37) rfl Tryz.underlying32 Tryz.info44 w3.heap.size (.slice A a c) a css.flatten rfl OW6.out _ _ _ rfl rfl rfl ?cx ?c0 ?c1 ?_))
          case cx => rfl
          case c0 => omega
          case c1 => exact E6.out.size
          intro v7 w7 own7 grow7 A7 c7 e7
          subst e7
          have x7 := (Ext.refl w6).alloc (.cells #[.bool nb, .slice A5 n5 c5, .slice A6 n6 c6] 38)
          have hoh := own_heap4 (OW6.out.alloc (.cells #[.bool nb, .slice A5 n5 c5, .slice A6 n6 c6] 38))
          have OQ7 := Lib.hid (show OQ QR 38 w7 w3.heap.size (.slice A7 (a + 1) c7) ((costL t).take (a + 1)) from by
            rw [TK.out]
            refine OQ.push (w' := w7) (by rw [HLT.out]; exact OW.out.1) OW.out.2.1 rfl (fun j q hq => ?_) ?_ (by rw [HLT.out]; exact own7)
            · obtain ⟨cs, z1, z2⟩ := OW.out.2.2.2 j q hq
              exact ⟨cs, z1, QR.grownM ((z2.keep X6.out).keep x7) grow7 hoh (by decide)⟩
            · exact QR.grownM ⟨nb, A5, n5, c5, A6, n6, c6, rfl, R6.out.keep x7⟩ grow7 hoh (by decide))
          have E7 := Lib.hid (show Ext w3 w7 from Below.grown (E6.out.tr x7) grow7 (by have := E6.out.size; simp at this ⊢; omega) (fun k hk => (OW6.out.lt k hk).1))
          clear own7 grow7 x7 hoh
          go_wp2
          go_roundg (2 * t.links.length - (a + 1))
          case measure => omega
          case rel => exact ⟨a + 1, A7, c7, rfl, by omega, by go_num, rfl, OQ7, E7⟩
        · obtain rfl : a = 2 * t.links.length := by omega
          have hq := OQ4.out
          rw [List.take_of_length_le (by rw [HCL.out]; omega)] at hq
          obtain ⟨A9, c9, e9, hc9, hq9⟩ := hq.list
          rw [HCL.out] at e9 hc9
          injection e9 with e1 e2 e3
          subst e1 e3
          have QF := Lib.hid (And.intro hc9 hq9)
          clear hq9 hq e2 OQ4
          have hnlt : ¬ (((2 * t.links.length : Nat) : Int) < 2 * (t.links.length : Int)) := by omega
          have HHI := Lib.hid hin
          have BB4 := Lib.hid (And.intro (BB3.out.1.keep E4.out) (BB3.out.2.keep E4.out))
          have H4 := Lib.hid (H3.out.keep E4.out)
          have EW := Lib.hid (E3.out.tr E4.out)
          have HLL := Lib.hid (show 2 * t.links.length ≤ 22 by omega)
          obtain ⟨L2, hL2⟩ : ∃ L2, 2 * t.links.length = L2 := ⟨_, rfl⟩
          have HL2 := Lib.hid hL2
          have HC2 := Lib.hid (show (costL t).length = L2 by rw [HCL.out, hL2])
          rw [hL2] at QF HLL
          have hnlt2 : ¬ ((L2 : Int) < 2 * (t.links.length : Int)) := by omega
          rw [hL2]
          obtain ⟨⟨i0, i1, i2⟩, _⟩ := BB4.out.1.three
          have j0 := BB4.out.2.cell 0
          have j2 := BB4.out.2.cell 2
          have j3 := BB4.out.2.cell 3
          simp at j0 j2 j3
          clear hL2 hin hi BB3 H3 E3 E4
          generalize hR : chP t down (costL t) s d = R at *
          have hrl := ch_len t down (costL t) s d g1
          rw [hR] at hrl
          have HR := Lib.hid hR
          have CHP := Lib.hid (show Calls Tryz.prog 10 #[.agg #[.int .i64 t.nodes, .slice AO t.over.length co, .slice AL t.links.length cl], .slice AD down.length cd, .slice A L2 c, .int .i64 s, .int .i64 d] w4 (ChPost w4 (costL t) R) from by
            have h1 := cheapest_ok' t AO co AL cl AD cd down A L2 c (costL t) HC2.out 1 s d w4 (H4.out.top g1 g2) H4.out.dn (by omega) H4.out.ld QF.out.2 (by have := HLL.out; omega) (by decide) (by decide) (costL_sz HV.out)
            rw [hR] at h1
            exact h1)
          clear hR hnlt HHI
          go_wp2_with fail
          refine CHP.out.mono ?_
          rintro e w7 ⟨A7, c7, n7, B7, k7, d7, B7', k7', d7', rfl, hc7, hr7, hp7, x7⟩
          have xb := (Ext.refl w7).alloc (.cells #[.bool n7, .slice B7 k7 d7, .slice B7' k7' d7'] 38)
          have X7 := Lib.hid (x7.tr xb)
          have P7 := Lib.hid (And.intro (hr7.keep xb) (And.intro (hp7.keep xb) (Blk.new w7 38 #[.bool n7, .slice B7 k7 d7, .slice B7' k7' d7'])))
          have BB7 := Lib.hid (And.intro (BB4.out.1.keep X7.out) (BB4.out.2.keep X7.out))
          have H7 := Lib.hid (H4.out.keep X7.out)
          have E7 := Lib.hid (EW.out.tr X7.out)
          clear xb x7 hr7 hp7 CHP BB4 H4 EW i0 i1 i2 j0 j2 j3 X7
          obtain ⟨⟨i0, i1, i2⟩, _⟩ := BB7.out.1.three
          have j0 := BB7.out.2.cell 0
          have j2 := BB7.out.2.cell 2
          have j3 := BB7.out.2.cell 3
          simp at j0 j2 j3
          have SHP := Lib.hid (show Calls Tryz.prog 11 #[.agg #[.int .i64 t.nodes, .slice AO t.over.length co, .slice AL t.links.length cl], .slice AD down.length cd, .int .i64 s, .int .i64 d, .int .i64 1, .int .i64 0] (w7.alloc (.cells #[.bool n7, .slice B7 k7 d7, .slice B7' k7' d7'] 38)) (ShPost (w7.alloc (.cells #[.bool n7, .slice B7 k7 d7, .slice B7' k7' d7'] 38)) R) from by
            have h1 := shortest_ok t AO co AL cl AD cd down s d (w7.alloc (.cells #[.bool n7, .slice B7 k7 d7, .slice B7' k7' d7'] 38)) (H7.out.top g1 g2) (by omega) H7.out.dn H7.out.ld (by omega)
            rw [HR.out] at h1
            exact h1)
          go_wp2_with fail
          refine SHP.out.mono ?_
          rintro e w8 hsh
          obtain ⟨r, ec⟩ := R
          simp only at hc7 hrl P7
          rcases hsh with ⟨he0, g, A8, k8, rfl, c8, hk8, r8, x8⟩ | ⟨hne, rfl, x8⟩
          · obtain rfl : ec = 0 := he0
            simp only at c8 hk8 r8
            have P8 := Lib.hid (And.intro (P7.out.1.keep x8) (And.intro (P7.out.2.1.keep x8) (P7.out.2.2.keep x8)))
            have C8 := Lib.hid (And.intro c8 r8)
            have BB8 := Lib.hid (And.intro (BB7.out.1.keep x8) (BB7.out.2.keep x8))
            have H8 := Lib.hid (H7.out.keep x8)
            have E8 := Lib.hid (E7.out.tr x8)
            clear c8 r8 x8 P7 BB7 H7 E7 SHP i0 i1 i2 j0 j2 j3
            have hch : bad1 t down (costL t) = false ∧ simBad2 t s d = false ∧ cheapP t down (costL t) s.toNat d.toNat = some r := by
              have h1 := HR.out
              unfold chP at h1
              cases hb1 : bad1 t down (costL t)
              case true => rw [hb1] at h1; cases h1
              case false =>
                rw [hb1] at h1
                cases hb2 : simBad2 t s d
                case true => rw [hb2] at h1; cases h1
                case false =>
                  rw [hb2] at h1
                  cases hc : cheapP t down (costL t) s.toNat d.toNat with
                  | none => rw [hc] at h1; cases h1
                  | some l =>
                    rw [hc] at h1
                    injection h1 with h1 _
                    exact ⟨rfl, rfl, by rw [h1]⟩
            obtain ⟨_, hsb, hcp⟩ := hch
            obtain ⟨y1, y2, y3, y4⟩ : 0 ≤ s ∧ s < t.nodes ∧ 0 ≤ d ∧ d < t.nodes := by unfold simBad2 at hsb; simp at hsb; omega
            obtain ⟨s', rfl⟩ := Int.eq_ofNat_of_zero_le y1
            have hpo : PO t s' true r d.toNat := by
              have hsn : s' < t.nodes.toNat := by omega
              have h1 := cheap_dij (down := down) (s := s') (d := d.toNat) HV.out hsn
              rw [Int.toNat_natCast] at hcp
              rw [hcp] at h1
              exact least_po HV.out h1.1 h1.2
            have HPO := Lib.hid hpo
            have hs2 : (s' : Int) < t.nodes := y2
            clear hsb hcp y1 y2 y3 y4 hpo
            obtain ⟨⟨i0, i1, i2⟩, _⟩ := BB8.out.1.three
            have j2 := BB8.out.2.cell 2
            simp at j2
            go_wp2_with fail
            refine (rPath_ok t AO co AL cl s' d.toNat A7 c7 r _ (H8.out.top g1 g2) HV.out hs2 P8.out.1.rd (by omega) HPO.out).mono ?_
            rintro e w9 ⟨rfl, x9⟩
            have P9 := Lib.hid (And.intro (P8.out.1.keep x9) (And.intro (P8.out.2.1.keep x9) (P8.out.2.2.keep x9)))
            have C9 := Lib.hid (And.intro (x9.cell_ C8.out.1) (C8.out.2.keep x9))
            have E9 := Lib.hid (E8.out.tr x9)
            have PQ := Lib.hid (prQ_cost t r)
            have hkl := kcost_le HV.out r
            have hkl2 : kcost t r ≤ 65535 * 2000 := Nat.le_trans hkl (Nat.mul_le_mul_left _ hrl)
            have HMK := Lib.hid (mkQ_nat (kcost t r))
            have ZP := SzQ.pr (P := 1) (by decide) (costL_sz HV.out) r
            obtain ⟨lp1, lp2⟩ := P9.out.2.1.lens ZP
            have ZK := Lib.hid (show SzQ ((kcost t r : Int) : Rat) (1 + r.length * (1 + 1)) from by rw [← PQ.out]; exact ZP)
            clear P8 C8 BB8 H8 E8 x9 hkl ZP i0 i1 i2 j2
            generalize kcost t r = kc at *
            go_upto_region 17 with fail
            have SAME := Lib.hid (show ∀ wx, Ext w9 wx → Calls Tryz.prog 13 #[.slice A8 r.length k8, .slice A7 r.length c7] wx fun e w' => e = .returned (.bool true) ∧ Ext wx w' from fun wx hx => by
              have h1 := sameInts_ok A8 A7 k8 c7 r r wx (C9.out.2.keep hx).rd (P9.out.1.keep hx).rd hk8 hc7 (by omega) (by omega)
              rw [show decide (r = r) = true from by simp] at h1
              exact h1)
            have XD := Lib.hid (show Ext w9 w9.drew from (Ext.refl w9).drewN 1)
            have KEEP := Lib.hid (show ∀ wx, Ext w9 wx → (wx.cell? ⟨g, 0, none⟩ = some (.slice A8 r.length k8) ∧ wx.cell? ⟨w7.heap.size, 0, none⟩ = some (.bool n7) ∧ wx.cell? ⟨w7.heap.size, 1, none⟩ = some (.slice B7 k7 d7) ∧ wx.cell? ⟨w7.heap.size, 2, none⟩ = some (.slice B7' k7' d7')) from fun wx hx => by
              obtain ⟨⟨i0, i1, i2⟩, _⟩ := (P9.out.2.2.keep hx).three
              exact ⟨hx.cell_ C9.out.1, i0, i1, i2⟩)
            obtain ⟨i3, i0, i1, i2⟩ := KEEP.out _ XD.out
            go_region_held3 (fun w' => w'.cell? ⟨g, 0, none⟩ = some (.slice A8 r.length k8) ∧ w'.cell? ⟨w7.heap.size, 0, none⟩ = some (.bool n7) ∧ w'.cell? ⟨w7.heap.size, 1, none⟩ = some (.slice B7 k7 d7) ∧ w'.cell? ⟨w7.heap.size, 2, none⟩ = some (.slice B7' k7' d7'))
              (first | with_reducible exact ⟨i3, i0, i1, i2⟩ | fail)
              (first
                | (go_at_call 13
                   with_reducible refine (SAME.out _ (by with_reducible exact XD.out)).mono ?_
                   rintro e w10 ⟨rfl, x10⟩
                   have E10 := Lib.hid (XD.out.tr x10)
                   obtain ⟨i3, i0, i1, i2⟩ := KEEP.out _ E10.out
                   clear x10)
                | (go_at_call 8
                   with_reducible refine (ratInt_any (kc : Int) _ (by omega) (by omega)).mono ?_
                   rintro e w11 ⟨nb, A5, n5, c5, A6, n6, c6, rfl, h6, x11⟩
                   rw [HMK.out] at h6
                   have E11 := Lib.hid (E10.out.tr x11)
                   have R11 := Lib.hid h6
                   obtain ⟨lq1, lq2⟩ := R11.out.lens ZK.out
                   obtain ⟨i3, i0, i1, i2⟩ := KEEP.out _ E11.out
                   clear x11 h6)
                | (go_at_call 14
                   with_reducible refine (ratCmp_any n7 nb B7 k7 d7 B7' k7' d7' A5 n5 c5 A6 n6 c6 (prQ (costL t) r) ((kc : Int) : Rat) _ (P9.out.2.1.keep (by with_reducible exact E11.out)) (by with_reducible exact R11.out) (by omega) (by omega) (by omega) (by omega)).mono ?_
                   rintro e w12 ⟨rfl, x12⟩
                   rw [PQ.out, cmpQ_nat, cmpI_self]
                   have E12 := Lib.hid (E11.out.tr x12)
                   obtain ⟨i3, i0, i1, i2⟩ := KEEP.out _ E12.out
                   clear x12)
                | fail)
            all_goals
              go_wp2
              go_ret
              exact ⟨rfl, E9.out.tr E12.out⟩
          · have E8 := Lib.hid (E7.out.tr x8)
            have hne2 : (ec != 0) = true := by simpa using hne
            have hne3 : decide (ec = 0) = false := decide_eq_false hne
            have hne4 : (ec == 0) = false := by simpa using hne
            clear x8 BB7 H7 E7 P7 SHP
            simp only at hne
            go_wp2
            go_ret
            exact ⟨rfl, E8.out⟩
end Go.Proofs.YtjmkcckbbgpkeaaGreatDoor
