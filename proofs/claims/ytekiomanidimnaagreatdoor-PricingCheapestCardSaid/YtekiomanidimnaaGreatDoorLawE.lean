/- waypointlaw42.PricingCheapest: the walk: it returns true. -/
import Derived.Test.YtekiomanidimnaaGreatDoorChR
import Derived.Test.YtekiomanidimnaaGreatDoorLawC
set_option linter.unusedVariables false
set_option linter.unusedSimpArgs false

namespace Go.Proofs.YtekiomanidimnaaGreatDoor
open Go.RowKit
set_option maxRecDepth 100000 in
set_option maxHeartbeats 8000000 in
theorem cheap_law (t : Tp) (AO : Option Addr) (co : Nat) (AL : Option Addr) (cl : Nat) (AD : Option Addr) (down : List Bool) (cd : Nat) (AF : Option Addr) (fr : List Fr) (cf : Nat) (s d : Int) (w : World) (h : ArgR w t AO co AL cl AD down cd AF fr cf s d) (hT : Tab w) :
    Calls Tryz.prog 4 #[.agg #[.int .i64 t.nodes, .slice AO t.over.length co, .slice AL t.links.length cl], .agg #[.slice AD down.length cd, .slice AF fr.length cf, .int .i64 s, .int .i64 d]] w fun e w' => e = .returned (.bool true) ∧ Ext w w' := by
  obtain ⟨b0, b1, e0⟩ := boxes2 w #[.int .i64 t.nodes, .slice AO t.over.length co, .slice AL t.links.length cl] 25 #[.slice AD down.length cd, .slice AF fr.length cf, .int .i64 s, .int .i64 d] 28
  have H := Lib.hid (h.keep e0)
  have HT := Lib.hid (hT.keep e0)
  have HT0 := Lib.hid (hT)
  have E0 := Lib.hid (e0)
  have BB := Lib.hid (And.intro b0 b1)
  clear h hT e0 b0 b1
  go_enter Tryz.func4, Tryz.ntmps4
  go_wp2_with fail
  refine (awake_ok _ HT.out).mono ?_
  rintro e w1 ⟨rfl, x1⟩
  have BB1 := Lib.hid (And.intro (BB.out.1.keep x1) (BB.out.2.keep x1))
  have H1 := Lib.hid (H.out.keep x1)
  have E1 := Lib.hid (E0.out.tr x1)
  clear x1 BB H E0
  obtain ⟨⟨i0, i1, i2⟩, _⟩ := BB1.out.1.three
  have j0 := BB1.out.2.cell 0
  have j1 := BB1.out.2.cell 1
  have j2 := BB1.out.2.cell 2
  have j3 := BB1.out.2.cell 3
  simp at j0 j1 j2 j3
  go_wp2_with fail
  refine (small_ok t AO co AL cl AD down.length cd AF fr.length cf s d _ (fun h1 h2 => H1.out.top h1 h2)).mono ?_
  rintro e w2 ⟨rfl, x2⟩
  have BB2 := Lib.hid (And.intro (BB1.out.1.keep x2) (BB1.out.2.keep x2))
  have H2 := Lib.hid (H1.out.keep x2)
  have E2 := Lib.hid (E1.out.tr x2)
  clear x2 BB1 H1 E1 i0 i1 i2 j0 j1 j2 j3
  cases hs : smallP t down.length fr.length
  case false =>
    go_wp2
    go_ret
    exact ⟨rfl, E2.out⟩
  case true =>
    obtain ⟨⟨⟨⟨g1, g2⟩, g3⟩, g4⟩, g5⟩ : (((t.links.length ≤ 11 ∧ t.over.length ≤ 20) ∧ down.length ≤ 40) ∧ fr.length ≤ 40) ∧ (validP t = false ∨ t.nodes ≤ 8) := by simpa [smallP] using hs
    have G5 := Lib.hid (g5)
    clear g5 hs
    have j1 := BB2.out.2.cell 1
    simp at j1
    obtain ⟨ps, hps⟩ : ∃ ps, ps = fr.map frQ := ⟨_, rfl⟩
    have HPL := Lib.hid (show ps.length = fr.length by rw [hps, List.length_map])
    have PSZ := Lib.hid (show ∀ q ∈ ps, SmQ q from fun q hq => by
      rw [hps] at hq
      obtain ⟨x, hx, rfl⟩ := List.mem_map.1 hq
      exact frQ_sm (H2.out.fwf x hx))
    have HPS := Lib.hid hps
    clear hps
    go_wp2_with fail
    refine (frOf_ok AF fr.length cf fr rfl _ H2.out.frs H2.out.fwf (by omega)).mono ?_
    rintro e w4 ⟨A4, c4, rfl, hc4, hq4, x4⟩
    rw [← HPS.out] at hq4
    have BB4 := Lib.hid (And.intro (BB2.out.1.keep x4) (BB2.out.2.keep x4))
    have H4 := Lib.hid (H2.out.keep x4)
    have E4 := Lib.hid (E2.out.tr x4)
    have Q4 := Lib.hid hq4
    clear x4 hq4 BB2 H2 E2 j1 HPS
    generalize hL : fr.length = L at *
    generalize hR : chP t down ps s d = R at *
    have hrl := ch_len t down ps s d g1
    rw [hR] at hrl
    have HR := Lib.hid (hR)
    clear hR
    go_upto_region 6 with fail
    go_cut [6, 7, 8] (fun s6 s7 s8 wx => ∃ (g : Nat) (A : Option Addr) (c : Nat) (n7 : Bool) (A7 : Option Addr) (l7 c7 : Nat) (A7' : Option Addr) (l7' c7' : Nat), s6 = .slice A R.1.length c ∧ s7 = .pointer (some ⟨g, 0, none⟩) ∧ s8 = .int .i64 R.2 ∧ R.1.length ≤ c ∧ Hid (RdT wx 3 A (ints R.1)) ∧ Hid (Blk wx g 44 #[.bool n7, .slice A7 l7 c7, .slice A7' l7' c7']) ∧ Hid (RatR wx n7 A7 l7 c7 A7' l7' c7' (prQ ps R.1)) ∧ Hid (Ext w4 wx))
    case first =>
      have XD := Lib.hid (show Ext w4 w4.drew from (Ext.refl w4).drewN 1)
      have XA := Lib.hid (show Ext w4 (w4.alloc (.cells #[.bool false, .slice none 0 0, .slice none 0 0] 44)).drew from ((Ext.refl w4).alloc _).drewN 1)
      have BN := Lib.hid (show Blk (w4.alloc (.cells #[.bool false, .slice none 0 0, .slice none 0 0] 44)).drew w4.heap.size 44 #[.bool false, .slice none 0 0, .slice none 0 0] from Blk.new w4 _ _)
      have KEEP := Lib.hid (show ∀ wx, Ext w4 wx → (wx.cell? ⟨w.heap.size, 0, none⟩ = some (.int .i64 t.nodes) ∧ wx.cell? ⟨w.heap.size, 1, none⟩ = some (.slice AO t.over.length co) ∧ wx.cell? ⟨w.heap.size, 2, none⟩ = some (.slice AL t.links.length cl) ∧ wx.cell? ⟨w.heap.size + 1, 0, none⟩ = some (.slice AD down.length cd) ∧ wx.cell? ⟨w.heap.size + 1, 2, none⟩ = some (.int .i64 s) ∧ wx.cell? ⟨w.heap.size + 1, 3, none⟩ = some (.int .i64 d)) from fun wx hx => by
        obtain ⟨⟨i0, i1, i2⟩, _⟩ := (BB4.out.1.keep hx).three
        exact ⟨i0, i1, i2, (BB4.out.2.keep hx).cell 0, (BB4.out.2.keep hx).cell 2, (BB4.out.2.keep hx).cell 3⟩)
      obtain ⟨i0, i1, i2, j0, j2, j3⟩ := KEEP.out _ XD.out
      obtain ⟨y0, y1, y2, z0, z2, z3⟩ := KEEP.out _ XA.out
      go_wp2
      go_region_held3 (fun w' => w'.cell? ⟨w.heap.size, 0, none⟩ = some (.int .i64 t.nodes) ∧ w'.cell? ⟨w.heap.size, 1, none⟩ = some (.slice AO t.over.length co) ∧ w'.cell? ⟨w.heap.size, 2, none⟩ = some (.slice AL t.links.length cl) ∧ w'.cell? ⟨w.heap.size + 1, 0, none⟩ = some (.slice AD down.length cd) ∧ w'.cell? ⟨w.heap.size + 1, 2, none⟩ = some (.int .i64 s) ∧ w'.cell? ⟨w.heap.size + 1, 3, none⟩ = some (.int .i64 d))
        (first | with_reducible exact ⟨i0, i1, i2, j0, j2, j3⟩ | with_reducible exact ⟨y0, y1, y2, z0, z2, z3⟩ | with_reducible exact ⟨cell_alloc_of i0 _, cell_alloc_of i1 _, cell_alloc_of i2 _, cell_alloc_of j0 _, cell_alloc_of j2 _, cell_alloc_of j3 _⟩ | with_reducible exact ⟨cell_set_of (cell_set_of (cell_set_of i0 fT) fT) fT, cell_set_of (cell_set_of (cell_set_of i1 fT) fT) fT, cell_set_of (cell_set_of (cell_set_of i2 fT) fT) fT, cell_set_of (cell_set_of (cell_set_of j0 fP) fP) fP, cell_set_of (cell_set_of (cell_set_of j2 fP) fP) fP, cell_set_of (cell_set_of (cell_set_of j3 fP) fP) fP⟩ | exact ⟨cell_set_of (cell_set_of (cell_set_of i0 fT) fT) fT, cell_set_of (cell_set_of (cell_set_of i1 fT) fT) fT, cell_set_of (cell_set_of (cell_set_of i2 fT) fT) fT, cell_set_of (cell_set_of (cell_set_of j0 fP) fP) fP, cell_set_of (cell_set_of (cell_set_of j2 fP) fP) fP, cell_set_of (cell_set_of (cell_set_of j3 fP) fP) fP⟩ | fail)
        (first
          | (go_at_call 21
             first
             | (with_reducible refine (numbers_ok A4 L c4 ps HPL.out _ (Q4.out.keep (by with_reducible exact XD.out)) PSZ.out (by omega)).mono ?_
                rintro e w6 ⟨A6, c6, rfl, hc6, hq6, x6⟩
                have E6 := Lib.hid (XD.out.tr x6))
             | (with_reducible refine (numbers_ok A4 L c4 ps HPL.out _ (Q4.out.keep (by with_reducible exact XA.out)) PSZ.out (by omega)).mono ?_
                rintro e w6 ⟨A6, c6, rfl, hc6, hq6, x6⟩
                have E6 := Lib.hid (XA.out.tr x6)
                have BN6 := Lib.hid (BN.out.keep x6))
             have Q6 := Lib.hid hq6
             obtain ⟨i0, i1, i2, j0, j2, j3⟩ := KEEP.out _ E6.out
             clear hq6 x6)
          | (go_at_call 20
             first
             | (with_reducible refine (cheapest_ok' t AO co AL cl AD cd down A6 L c6 ps HPL.out 1 s d _ ((H4.out.keep (by with_reducible exact E6.out)).top g1 g2) (H4.out.keep (by with_reducible exact E6.out)).dn (by omega) H4.out.ld (by with_reducible exact Q6.out) (by omega) (by decide) (by decide) (fun q hq => (PSZ.out q hq).sz)).mono ?_
                rintro e w7 ⟨A7, c7, n7, B7, k7, d7, B7', k7', d7', rfl, hc7, hr7, hp7, x7⟩
                have E7 := Lib.hid (E6.out.tr x7)
                first
                | (have BM := Lib.hid (BN6.out.keep x7)
                   obtain ⟨⟨v0, v1, v2⟩, u0, u1, u2⟩ := BM.out.three
                   have gg : w4.heap.size ≤ w4.heap.size := Nat.le_refl _
                   have fT : w.heap.size ≠ w4.heap.size := Nat.ne_of_lt BB4.out.1.lt
                   have fP : w.heap.size + 1 ≠ w4.heap.size := Nat.ne_of_lt BB4.out.2.lt)
                | skip)
             | (have xa := (Ext.refl w6).alloc (.cells #[.bool false, .slice none 0 0, .slice none 0 0] 44)
                have E6a := Lib.hid (E6.out.tr xa)
                with_reducible refine (cheapest_ok' t AO co AL cl AD cd down A6 L c6 ps HPL.out 1 s d _ ((H4.out.keep (by with_reducible exact E6a.out)).top g1 g2) (H4.out.keep (by with_reducible exact E6a.out)).dn (by omega) H4.out.ld (by with_reducible exact Q6.out.keep xa) (by omega) (by decide) (by decide) (fun q hq => (PSZ.out q hq).sz)).mono ?_
                rintro e w7 ⟨A7, c7, n7, B7, k7, d7, B7', k7', d7', rfl, hc7, hr7, hp7, x7⟩
                have E7 := Lib.hid (E6a.out.tr x7)
                have BM := Lib.hid ((Blk.new w6 44 #[.bool false, .slice none 0 0, .slice none 0 0]).keep x7)
                obtain ⟨⟨v0, v1, v2⟩, u0, u1, u2⟩ := BM.out.three
                have gg : w4.heap.size ≤ w6.heap.size := E6.out.size
                have fT : w.heap.size ≠ w6.heap.size := Nat.ne_of_lt (BB4.out.1.keep E6.out).lt
                have fP : w.heap.size + 1 ≠ w6.heap.size := Nat.ne_of_lt (BB4.out.2.keep E6.out).lt
                clear xa)
             rw [HR.out] at hc7 hr7 hp7
             rw [HR.out]
             have R7 := Lib.hid (And.intro hr7 hp7)
             obtain ⟨i0, i1, i2, j0, j2, j3⟩ := KEEP.out _ E7.out
             clear x7 hr7 hp7)
          | fail)
      all_goals
        go_wp2
        go_meet
        first
        | (obtain ⟨q1, q2⟩ := rat_set3 (w := w4) R7.out.2 BM.out gg E7.out
           exact ⟨_, A7, c7, n7, B7, k7, d7, B7', k7', d7', rfl, rfl, rfl, hc7, Lib.hid (R7.out.1.other (set3_grown _ _ _ _ _) BM.out (by decide)), Lib.hid (((BM.out.set_ 0 _).set_ 1 _).set_ 2 _), Lib.hid q1, Lib.hid q2⟩)
        | (have xb := (Ext.refl w7).alloc (.cells #[.bool n7, .slice B7 k7 d7, .slice B7' k7' d7'] 44)
           exact ⟨w7.heap.size, A7, c7, n7, B7, k7, d7, B7', k7', d7', rfl, rfl, rfl, hc7, Lib.hid (R7.out.1.keep xb), Lib.hid (Blk.new w7 _ _), Lib.hid (R7.out.2.keep xb), Lib.hid (E7.out.tr xb)⟩)
    case rest =>
      obtain ⟨g, A, c, n7, B7, k7, d7, B7', k7', d7', rfl, rfl, rfl, hc7, RD7, BB7, RR7, E7⟩ := hcut
      have H7 := Lib.hid (H4.out.keep E7.out)
      have Q7 := Lib.hid (Q4.out.keep E7.out)
      have BT := Lib.hid (And.intro (BB4.out.1.keep E7.out) (BB4.out.2.keep E7.out))
      have EW := Lib.hid (E4.out.tr E7.out)
      clear BB4 H4 Q4 E4 E7
      obtain ⟨⟨i0, i1, i2⟩, _⟩ := BT.out.1.three
      have j0 := BT.out.2.cell 0
      have j2 := BT.out.2.cell 2
      have j3 := BT.out.2.cell 3
      simp at j0 j2 j3
      have HB := Lib.hid (show validP t = true → (2 * t.links.length + 1) ^ t.nodes.toNat ≤ 2 ^ 42 from fun hv => pow_small g1 (by
        rcases G5.out with h | h
        · rw [hv] at h; cases h
        · omega))
      have H8 := Lib.hid (show validP t = true → t.nodes ≤ 40 from fun hv => by
        rcases G5.out with h | h
        · rw [hv] at h; cases h
        · omega)
      have hch := rCheap_ok t AO co AL cl AD cd down A4 L c4 ps HPL.out s d _ (H7.out.top g1 g2) H7.out.dn (by omega) Q7.out PSZ.out (by omega) HB.out H8.out
      rw [HR.out] at hch
      have HCH := Lib.hid hch
      clear hch
      go_wp2_with fail
      refine (HCH.out).mono ?_
      rintro e w8 ⟨A8, c8, n8, B8, k8, d8, B8', k8', d8', rfl, hc8, hr8, hp8, x8⟩
      have xb := (Ext.refl w8).alloc (.cells #[.bool n8, .slice B8 k8 d8, .slice B8' k8' d8'] 51)
      have X8 := Lib.hid (x8.tr xb)
      have G8 := Lib.hid (And.intro (BB7.out.keep X8.out) (Blk.new w8 51 #[.bool n8, .slice B8 k8 d8, .slice B8' k8' d8']))
      have E8 := Lib.hid (EW.out.tr X8.out)
      have T8 := Lib.hid (And.intro (And.intro (RD7.out.keep X8.out) (RR7.out.keep X8.out)) (And.intro (hr8.keep xb) (hp8.keep xb)))
      clear x8 xb X8 hr8 hp8 H7 Q7 BT EW RD7 BB7 RR7 i0 i1 i2 j0 j2 j3 HCH
      obtain ⟨r, ec⟩ := R
      simp only at hc7 hc8 hrl T8
      have hec : ((ec : Int) == ec) = true := by simp
      have ZP := (SzQ.pr (P := 1) (by decide) (fun q hq => (PSZ.out q hq).sz) r)
      obtain ⟨lp1, lp2⟩ := T8.out.1.2.lens ZP
      obtain ⟨lq1, lq2⟩ := T8.out.2.2.lensB ZP
      clear ZP
      have hsame := sameInts_ok A A8 c c8 r r _ T8.out.1.1.rd T8.out.2.1.rd hc7 hc8 (by omega) (by omega)
      rw [show decide (r = r) = true from by simp] at hsame
      have HSM := Lib.hid hsame
      clear hsame
      go_wp2_with fail
      refine (HSM.out).mono ?_
      rintro e w9 ⟨rfl, x9⟩
      have G9 := Lib.hid (And.intro (G8.out.1.keep x9) (G8.out.2.keep x9))
      have E9 := Lib.hid (E8.out.tr x9)
      have T9 := Lib.hid (And.intro (T8.out.1.2.keep x9) (T8.out.2.2.keep x9))
      obtain ⟨⟨i0, i1, i2⟩, _⟩ := G9.out.1.three
      obtain ⟨⟨j0, j1, j2⟩, _⟩ := G9.out.2.three
      clear x9 G8 E8 T8 HSM
      go_wp2_with fail
      refine (is_ok n7 B7 k7 d7 B7' k7' d7' n8 B8 k8 d8 B8' k8' d8' (prQ ps r) _ T9.out.1 T9.out.2 (by omega) (by omega) (by omega) (by omega) (HT0.out.keep E9.out)).mono ?_
      rintro e w10 ⟨rfl, x10⟩
      have E10 := Lib.hid (E9.out.tr x10)
      clear x10
      go_wp2
      go_ret
      exact ⟨rfl, E10.out⟩
end Go.Proofs.YtekiomanidimnaaGreatDoor
