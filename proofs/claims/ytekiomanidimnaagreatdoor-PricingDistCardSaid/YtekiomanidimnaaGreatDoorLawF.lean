/- waypointlaw42.PricingDist: the walk: it returns true. -/
import Derived.Test.YtekiomanidimnaaGreatDoorDisR
import Derived.Test.YtekiomanidimnaaGreatDoorLawC
set_option linter.unusedVariables false
set_option linter.unusedSimpArgs false

namespace Go.Proofs.YtekiomanidimnaaGreatDoor
open Go.RowKit
theorem DiPost.form {w w' : World} {r : List Rat × List Bool × Int} {e : Ending} (h : DiPost w r e w') : ∃ (A : Option Addr) (c : Nat) (A2 : Option Addr) (c2 : Nat), e = .returned (.tuple #[.slice A r.1.length c, .slice A2 r.2.1.length c2, .int .i64 r.2.2]) ∧ QL w' A r.1 ∧ Rd w' A2 (bools r.2.1) ∧ Ext w w' := by
  rcases h with ⟨_, h2, h3, h4, h5⟩ | ⟨h1, gd, gk, h2, h3, h4, h5, _, h6⟩
  · exact ⟨none, 0, none, 0, by rw [h3, h4]; exact h2, by rw [h3]; exact ⟨[], rfl, (fun _ h => by cases h), Rd.nil _ _, fun i q h => by simp at h⟩, by rw [h4]; exact Rd.nil _ _, h5⟩
  · exact ⟨_, _, _, _, by rw [h1, h3]; exact h2, h4.ql, (RdT.of_blk h5 rfl).rd, h6⟩
theorem diP_sz {t : Tp} {down : List Bool} {ps : List Rat} {d : Int} (hl : t.links.length ≤ 11) (hps : ∀ q ∈ ps, SzQ q 1) : (∀ q ∈ (diP t down ps d).1, SzQ q 10000) ∧ (diP t down ps d).1.length = (diP t down ps d).2.1.length ∧ ((diP t down ps d).1.length ≤ 64) := by
  unfold diP
  split
  · simp
  · rename_i hb
    split
    · simp
    · have hv : validP t = true := by
        unfold bad1 at hb
        cases h : validP t
        · rw [h] at hb; simp at hb
        · rfl
      have hn := valid_nodes hv
      refine ⟨fun q hq => ?_, by simp, by simp; omega⟩
      simp only [List.mem_map] at hq
      obtain ⟨v, _, rfl⟩ := hq
      refine (SzQ.pr (P := 1) (by decide) hps _).mono ?_
      have := ch_len t down ps (v : Int) d hl
      omega
theorem Rd.bool_ {w : World} {A : Option Addr} {l : List Bool} (h : Rd w A (bools l)) {k : Nat} {b : Bool} (hk : l[k]? = some b) : ∃ g o, A = some ⟨g, o, none⟩ ∧ g < w.heap.size ∧ w.cell? ⟨g, o + k, none⟩ = some (.bool b) := by
  have hlt := (List.getElem?_eq_some_iff.1 hk).1
  have hl2 : k < (bools l).length := by unfold bools; rw [List.length_map]; exact hlt
  obtain ⟨g, o, e, hb, hc⟩ := h.at_ (i := k) hl2
  refine ⟨g, o, e, hb, (hc k hl2).trans ?_⟩
  unfold bools
  rw [List.getElem?_map, hk]
  rfl
set_option maxRecDepth 100000 in
set_option maxHeartbeats 8000000 in
theorem dist_law (t : Tp) (AO : Option Addr) (co : Nat) (AL : Option Addr) (cl : Nat) (AD : Option Addr) (down : List Bool) (cd : Nat) (AF : Option Addr) (fr : List Fr) (cf : Nat) (s d : Int) (w : World) (h : ArgR w t AO co AL cl AD down cd AF fr cf s d) (hT : Tab w) :
    Calls Tryz.prog 8 #[.agg #[.int .i64 t.nodes, .slice AO t.over.length co, .slice AL t.links.length cl], .agg #[.slice AD down.length cd, .slice AF fr.length cf, .int .i64 s, .int .i64 d]] w fun e w' => e = .returned (.bool true) ∧ Ext w w' := by
  obtain ⟨b0, b1, e0⟩ := boxes2 w #[.int .i64 t.nodes, .slice AO t.over.length co, .slice AL t.links.length cl] 25 #[.slice AD down.length cd, .slice AF fr.length cf, .int .i64 s, .int .i64 d] 28
  have H := Lib.hid (h.keep e0)
  have HT := Lib.hid (hT.keep e0)
  have HT0 := Lib.hid (hT)
  have E0 := Lib.hid (e0)
  have BB := Lib.hid (And.intro b0 b1)
  clear h hT e0 b0 b1
  go_enter Tryz.func8, Tryz.ntmps8
  go_wp2_with fail
  refine (awake_ok _ HT.out).mono ?_
  rintro e w1 ⟨rfl, x1⟩
  have BB1 := Lib.hid (And.intro (BB.out.1.keep x1) (BB.out.2.keep x1))
  have H1 := Lib.hid (H.out.keep x1)
  have E1 := Lib.hid (E0.out.tr x1)
  clear x1 BB H E0
  obtain ⟨⟨i0, i1, i2⟩, _⟩ := BB1.out.1.three
  have j0 := BB1.out.2.cell 0
  have j1 := BB1.out.2.cell 1
  have j2 := BB1.out.2.cell 2
  have j3 := BB1.out.2.cell 3
  simp at j0 j1 j2 j3
  go_wp2_with fail
  refine (small_ok t AO co AL cl AD down.length cd AF fr.length cf s d _ (fun h1 h2 => H1.out.top h1 h2)).mono ?_
  rintro e w2 ⟨rfl, x2⟩
  have BB2 := Lib.hid (And.intro (BB1.out.1.keep x2) (BB1.out.2.keep x2))
  have H2 := Lib.hid (H1.out.keep x2)
  have E2 := Lib.hid (E1.out.tr x2)
  clear x2 BB1 H1 E1 i0 i1 i2 j0 j1 j2 j3
  cases hs : smallP t down.length fr.length
  case false =>
    go_wp2
    go_ret
    exact ⟨rfl, E2.out⟩
  case true =>
    obtain ⟨⟨⟨⟨g1, g2⟩, g3⟩, g4⟩, g5⟩ : (((t.links.length ≤ 11 ∧ t.over.length ≤ 20) ∧ down.length ≤ 40) ∧ fr.length ≤ 40) ∧ (validP t = false ∨ t.nodes ≤ 8) := by simpa [smallP] using hs
    have G5 := Lib.hid (g5)
    clear g5 hs
    have j1 := BB2.out.2.cell 1
    simp at j1
    obtain ⟨ps, hps⟩ : ∃ ps, ps = fr.map frQ := ⟨_, rfl⟩
    have HPL := Lib.hid (show ps.length = fr.length by rw [hps, List.length_map])
    have PSZ := Lib.hid (show ∀ q ∈ ps, SmQ q from fun q hq => by
      rw [hps] at hq
      obtain ⟨x, hx, rfl⟩ := List.mem_map.1 hq
      exact frQ_sm (H2.out.fwf x hx))
    have HPS := Lib.hid hps
    clear hps
    go_wp2_with fail
    refine (frOf_ok AF fr.length cf fr rfl _ H2.out.frs H2.out.fwf (by omega)).mono ?_
    rintro e w4 ⟨A4, c4, rfl, hc4, hq4, x4⟩
    rw [← HPS.out] at hq4
    have BB4 := Lib.hid (And.intro (BB2.out.1.keep x4) (BB2.out.2.keep x4))
    have H4 := Lib.hid (H2.out.keep x4)
    have E4 := Lib.hid (E2.out.tr x4)
    have Q4 := Lib.hid hq4
    clear x4 hq4 BB2 H2 E2 j1 HPS
    generalize hL : fr.length = L at *
    have DSZ := Lib.hid (diP_sz (d := d) (down := down) g1 (fun q hq => (PSZ.out q hq).sz))
    generalize hR : diP t down ps d = R at *
    have HR := Lib.hid (hR)
    clear hR
    go_upto_region 6 with fail
    go_cut [6, 7, 8] (fun s6 s7 s8 wx => ∃ (A : Option Addr) (c : Nat) (A2 : Option Addr) (c2 : Nat), s6 = .slice A R.1.length c ∧ s7 = .slice A2 R.2.1.length c2 ∧ s8 = .int .i64 R.2.2 ∧ Hid (QL wx A R.1) ∧ Hid (Rd wx A2 (bools R.2.1)) ∧ Hid (Ext w4 wx))
    case first =>
      have XD := Lib.hid (show Ext w4 w4.drew from (Ext.refl w4).drewN 1)
      have KEEP := Lib.hid (show ∀ wx, Ext w4 wx → (wx.cell? ⟨w.heap.size, 0, none⟩ = some (.int .i64 t.nodes) ∧ wx.cell? ⟨w.heap.size, 1, none⟩ = some (.slice AO t.over.length co) ∧ wx.cell? ⟨w.heap.size, 2, none⟩ = some (.slice AL t.links.length cl) ∧ wx.cell? ⟨w.heap.size + 1, 0, none⟩ = some (.slice AD down.length cd) ∧ wx.cell? ⟨w.heap.size + 1, 3, none⟩ = some (.int .i64 d)) from fun wx hx => by
        obtain ⟨⟨i0, i1, i2⟩, _⟩ := (BB4.out.1.keep hx).three
        exact ⟨i0, i1, i2, (BB4.out.2.keep hx).cell 0, (BB4.out.2.keep hx).cell 3⟩)
      obtain ⟨i0, i1, i2, j0, j3⟩ := KEEP.out _ XD.out
      go_wp2
      go_region_held3 (fun w' => w'.cell? ⟨w.heap.size, 0, none⟩ = some (.int .i64 t.nodes) ∧ w'.cell? ⟨w.heap.size, 1, none⟩ = some (.slice AO t.over.length co) ∧ w'.cell? ⟨w.heap.size, 2, none⟩ = some (.slice AL t.links.length cl) ∧ w'.cell? ⟨w.heap.size + 1, 0, none⟩ = some (.slice AD down.length cd) ∧ w'.cell? ⟨w.heap.size + 1, 3, none⟩ = some (.int .i64 d))
        (first | with_reducible exact ⟨i0, i1, i2, j0, j3⟩ | fail)
        (first
          | (go_at_call 21
             with_reducible refine (numbers_ok A4 L c4 ps HPL.out _ (Q4.out.keep (by with_reducible exact XD.out)) PSZ.out (by omega)).mono ?_
             rintro e w6 ⟨A6, c6, rfl, hc6, hq6, x6⟩
             have E6 := Lib.hid (XD.out.tr x6)
             have Q6 := Lib.hid hq6
             obtain ⟨i0, i1, i2, j0, j3⟩ := KEEP.out _ E6.out
             clear hq6 x6)
          | (go_at_call 32
             with_reducible refine ((dist_ok t AO co AL cl AD cd down A6 L c6 ps HPL.out d _ ((H4.out.keep (by with_reducible exact E6.out)).top g1 g2) (H4.out.keep (by with_reducible exact E6.out)).dn (by omega) H4.out.ld (by with_reducible exact Q6.out) (by omega) (fun q hq => (PSZ.out q hq).sz)).mono (fun _ _ h => h.form)).mono ?_
             rintro e w7 ⟨A7, c7, B7, d7, rfl, hq7, hk7, x7⟩
             rw [HR.out] at hq7 hk7
             rw [HR.out]
             have E7 := Lib.hid (E6.out.tr x7)
             have R7 := Lib.hid (And.intro hq7 hk7)
             obtain ⟨i0, i1, i2, j0, j3⟩ := KEEP.out _ E7.out
             clear x7 hq7 hk7)
          | fail)
      all_goals
        go_wp2
        go_meet
        exact ⟨A7, c7, B7, d7, rfl, rfl, rfl, Lib.hid R7.out.1, Lib.hid R7.out.2, E7⟩
    case rest =>
      obtain ⟨A7, c7, B7, d7, rfl, rfl, rfl, Q7, K7, E7⟩ := hcut
      have H7 := Lib.hid (H4.out.keep E7.out)
      have QQ7 := Lib.hid (Q4.out.keep E7.out)
      have BT := Lib.hid (And.intro (BB4.out.1.keep E7.out) (BB4.out.2.keep E7.out))
      have EW := Lib.hid (E4.out.tr E7.out)
      clear BB4 H4 Q4 E4 E7
      obtain ⟨⟨i0, i1, i2⟩, _⟩ := BT.out.1.three
      have j0 := BT.out.2.cell 0
      have j3 := BT.out.2.cell 3
      simp at j0 j3
      have HB := Lib.hid (show validP t = true → (2 * t.links.length + 1) ^ t.nodes.toNat ≤ 2 ^ 42 from fun hv => pow_small g1 (by
        rcases G5.out with h | h
        · rw [hv] at h; cases h
        · omega))
      have H8 := Lib.hid (show validP t = true → t.nodes ≤ 40 from fun hv => by
        rcases G5.out with h | h
        · rw [hv] at h; cases h
        · omega)
      have hch := rDist_ok t AO co AL cl AD cd down A4 L c4 ps HPL.out d _ (H7.out.top g1 g2) H7.out.dn (by omega) QQ7.out PSZ.out (by omega) HB.out H8.out
      rw [HR.out] at hch
      have HCH := Lib.hid hch
      clear hch
      go_wp2_with fail
      refine (HCH.out).mono ?_
      rintro e w8 ⟨A8, c8, B8, d8, rfl, hq8, hk8, x8⟩
      have E8 := Lib.hid (EW.out.tr x8)
      have T8 := Lib.hid (And.intro (And.intro (Q7.out.keep x8) (K7.out.keep x8)) (And.intro hq8 hk8))
      clear x8 hq8 hk8 H7 QQ7 BT EW Q7 K7 i0 i1 i2 j0 j3 HCH
      obtain ⟨rq, rk, ec⟩ := R
      obtain ⟨sz1, sz2, sz3⟩ := DSZ.out
      simp only at T8 sz1 sz2 sz3
      have SZQ := Lib.hid sz1
      have hec : ((ec : Int) != ec) = false := by simp
      generalize hM : rq.length = M at *
      have hM2 := sz2.symm
      simp only [hM2]
      have hmm : ((M : Int) != (M : Int)) = false := by simp
      have HM := Lib.hid (And.intro hM hM2)
      clear hM hM2 sz1 sz2
      go_wp2
      go_loopg [12] M (fun j it wr => ∃ i : Nat, M - i = j ∧ i ≤ M ∧ it = .int .i64 i ∧ Hid (Ext w8 wr))
      case atStart => exact ⟨0, rfl, Nat.zero_le _, rfl, Lib.hid (Ext.refl _)⟩
      case round =>
        obtain ⟨i, rfl, hi, rfl, EX⟩ := hrel
        by_cases hil : i < M
        · obtain ⟨q, hq⟩ : ∃ q, rq[i]? = some q := ⟨_, List.getElem?_eq_getElem (by rw [HM.out.1]; exact hil)⟩
          obtain ⟨kb, hkb⟩ : ∃ kb, rk[i]? = some kb := ⟨_, List.getElem?_eq_getElem (by rw [HM.out.2]; exact hil)⟩
          have sq := SZQ.out q (List.mem_of_getElem? hq)
          obtain ⟨b1, o1, n1, X1, m1, f1, X1', m1', f1', rfl, hb1, y0, y1, y2, hr1⟩ := (T8.out.1.1.keep EX.out).at_ hq
          obtain ⟨b2, o2, n2, X2, m2, f2, X2', m2', f2', rfl, hb2, z0, z1, z2, hr2⟩ := (T8.out.2.1.keep EX.out).at_ hq
          obtain ⟨b3, o3, rfl, hb3, v3⟩ := (T8.out.1.2.keep EX.out).bool_ hkb
          obtain ⟨b4, o4, rfl, hb4, v4⟩ := (T8.out.2.2.keep EX.out).bool_ hkb
          have l1 := hr1.lens sq
          have l2 := hr2.lensB sq
          have R1 := Lib.hid hr1
          have R2 := Lib.hid hr2
          have p0 := XW.cell _ _ _ hb1 y0
          have p1 := XW.cell _ _ _ hb1 y1
          have p2 := XW.cell _ _ _ hb1 y2
          have p3 := XW.cell _ _ _ hb2 z0
          have p4 := XW.cell _ _ _ hb2 z1
          have p5 := XW.cell _ _ _ hb2 z2
          have p6 := XW.cell _ _ _ hb3 v3
          have p7 := XW.cell _ _ _ hb4 v4
          have TT := Lib.hid (HT0.out.keep (E8.out.tr EX.out))
          have iM : (i : Int) < (M : Int) := by omega
          have hkk : (kb != kb) = false := by simp
          clear hq hkb y0 y1 y2 z0 z1 z2 v3 v4 hr1 hr2 sq
          go_wp2_with fail
          refine wp_region_ext (by kernel_rfl) (by kernel_rfl) ?_
          repeat (go_big_quiet_step ((go_at_call 24; exact Calls.ext_of (is_ok n1 X1 m1 f1 X1' m1' f1' n2 X2 m2 f2 X2' m2' f2' q _ (R1.out.keep (XW.ext _)) (R2.out.keep (XW.ext _)) (by omega) (by omega) (by omega) (by omega) (TT.out.keep (XW.ext _))))))
          refine wpQuiet_nil ?_
          rintro _ ⟨x, rfl⟩
          have hx2 := x.ext
          clear p0 p1 p2 p3 p4 p5 p6 p7
          generalize x.val = w9 at *
          clear x
          have E9 := Lib.hid (EX.out.tr hx2)
          clear hx2
          go_wp2
          go_roundg (M - (i + 1))
          case measure => omega
          case rel => exact ⟨i + 1, rfl, by omega, by go_num, E9⟩
        · obtain rfl : i = M := by omega
          go_wp2
          go_ret
          exact ⟨rfl, E8.out.tr EX.out⟩
end Go.Proofs.YtekiomanidimnaaGreatDoor
