/- waypointref02: made, size, Of, Text. -/
import Derived.Test.YtekiomanidimnaaGreatDoorRqA
set_option linter.unusedVariables false
set_option linter.unusedSimpArgs false

namespace Go.Proofs.YtekiomanidimnaaGreatDoor
open Go.RowKit Go.Sort
theorem rq_set3 {w W : World} {nb : Bool} {A A' : Option Addr} {n c n' c' g : Nat} {q : Rat} {cs : Array Value} (h : RQR W nb A n c A' n' c' q) (hb : Blk W g 51 cs) (hg : w.heap.size ≤ g) (hx : Ext w W) :
    RQR (((W.setCell ⟨g, 0, none⟩ (.bool nb)).setCell ⟨g, 1, none⟩ (.slice A n c)).setCell ⟨g, 2, none⟩ (.slice A' n' c')) nb A n c A' n' c' q ∧ Ext w (((W.setCell ⟨g, 0, none⟩ (.bool nb)).setCell ⟨g, 1, none⟩ (.slice A n c)).setCell ⟨g, 2, none⟩ (.slice A' n' c')) :=
  ⟨h.other (set3_grown W g _ _ _) hb (by decide), ((hx.set_ (p := ⟨g, 0, none⟩) hg _).set_ (p := ⟨g, 1, none⟩) hg _).set_ (p := ⟨g, 2, none⟩) hg _⟩
set_option maxRecDepth 100000 in
set_option maxHeartbeats 4000000 in
theorem rMade_ok (neg : Bool) (A1 A2 : Option Addr) (n1 c1 n2 c2 N D : Nat) (w : World) (h1 : GrpR w A1 n1 c1 N) (h2 : GrpR w A2 n2 c2 D) (hn1 : n1 ≤ 1000000) (hn2 : n2 ≤ 1000000) (hD : 0 < D) :
    Calls Tryz.prog 115 #[.bool neg, .slice A1 n1 c1, .slice A2 n2 c2] w (RQPost w (mkQ neg N D)) := by
  obtain ⟨b0, e0⟩ := boxes1 w #[.bool false, .slice none 0 0, .slice none 0 0] 51
  have H1 := Lib.hid (h1.keep e0)
  have H2 := Lib.hid (h2.keep e0)
  have B0 := Lib.hid (b0)
  have E0 := Lib.hid (e0)
  clear h1 h2 b0 e0
  go_enter Tryz.func115, Tryz.ntmps115
  go_wp2_with fail
  refine (rMake_ok neg A1 A2 n1 c1 n2 c2 N D _ H1.out H2.out hn1 hn2 hD).mono ?_
  rintro e w1 ⟨nb, A, n, c, A', n', c', rfl, hq, x1⟩
  have X1 := Lib.hid ((Ext.refl w1).alloc (.cells #[.bool nb, .slice A n c, .slice A' n' c'] 51))
  have B1 := Lib.hid ((B0.out.keep x1).keep X1.out)
  have E1 := Lib.hid ((E0.out.tr x1).tr X1.out)
  have Q1 := Lib.hid (hq.keep X1.out)
  obtain ⟨⟨j0, j1, j2⟩, _⟩ := (Blk.new w1 51 #[.bool nb, .slice A n c, .slice A' n' c']).three
  obtain ⟨⟨i0, i1, i2⟩, f0, f1, f2⟩ := B1.out.three
  clear x1 hq B0 E0 X1
  obtain ⟨r1, r2⟩ := rq_set3 (w := w) Q1.out B1.out (Nat.le_refl _) E1.out
  have q3 := ((B1.out.set_ 0 (.bool nb)).set_ 1 (.slice A n c)).set_ 2 (.slice A' n' c')
  have RF := Lib.hid (And.intro q3 (And.intro r1 r2))
  clear q3 r1 r2
  go_wp2
  exact bodyPost_ret (v := .agg #[.bool nb, .slice A n c, .slice A' n' c']) (by simp [results, Tryz.results115, go_sem, RF.out.1.cell]) rfl ⟨_, _, _, _, _, _, _, rfl, RF.out.2.1, RF.out.2.2⟩
set_option maxRecDepth 100000 in
set_option maxHeartbeats 4000000 in
theorem rSize_ok (x : Int) (w : World) (hx : -2147483648 < x) (hx2 : x < 2147483648) :
    Calls Tryz.prog 116 #[.int .i64 x] w (GrpPost w x.natAbs) := by
  by_cases h0 : x < 0
  · obtain ⟨N, hN⟩ : ∃ N : Nat, N = x.natAbs := ⟨_, rfl⟩
    have hxN : x = -(N : Int) := by omega
    have hN1 : 1 ≤ N := by omega
    have hN2 : N < 2147483648 := by omega
    rw [← hN]
    subst hxN
    clear hN
    have hd : decide (-(N : Int) < 0) = true := by simp; omega
    clear hx hx2 h0
    go_enter Tryz.func116, Tryz.ntmps116
    go_wp2_with fail
    rw [show -(-(N : Int) + 1) + 1 = (N : Int) by omega]
    refine (refOf_ok N _ (by omega)).mono ?_
    rintro e w1 ⟨A, n, c, rfl, h1, x1, fr⟩
    have F := Lib.hid (And.intro h1 (And.intro x1 fr))
    clear h1 x1 fr
    go_wp2
    go_ret
    exact ⟨_, _, _, rfl, F.out.1, F.out.2.1, F.out.2.2⟩
  · obtain ⟨N, hN⟩ : ∃ N : Nat, N = x.natAbs := ⟨_, rfl⟩
    have hxN : x = (N : Int) := by omega
    rw [← hN]
    subst hxN
    clear hN
    have hd : decide ((N : Int) < 0) = false := by simp
    go_enter Tryz.func116, Tryz.ntmps116
    go_wp2_with fail
    refine (refOf_ok N _ (by omega)).mono ?_
    rintro e w1 ⟨A, n, c, rfl, h1, x1, fr⟩
    have F := Lib.hid (And.intro h1 (And.intro x1 fr))
    clear h1 x1 fr
    go_wp2
    go_ret
    exact ⟨_, _, _, rfl, F.out.1, F.out.2.1, F.out.2.2⟩
theorem rAbs_len {w : World} {A : Option Addr} {n c : Nat} {x : Int} (h : GrpR w A n c x.natAbs) (hx : -2147483648 < x) (hx2 : x < 2147483648) : n ≤ 2 := h.lenOf (by
  have : G6 ^ 2 = 1000000000000 := by decide
  omega)
set_option maxRecDepth 100000 in
set_option maxHeartbeats 4000000 in
theorem rOf_ok (x y : Int) (w : World) (hx : -2147483648 < x) (hx2 : x < 2147483648) (hy : -2147483648 < y) (hy2 : y < 2147483648) (hy0 : y ≠ 0) :
    Calls Tryz.prog 60 #[.int .i64 x, .int .i64 y] w (RQPost w (ofQ x y)) := by
  obtain ⟨b0, e0⟩ := boxes1 w #[.bool false, .slice none 0 0, .slice none 0 0] 51
  have B0 := Lib.hid (b0)
  have E0 := Lib.hid (e0)
  clear b0 e0
  go_enter Tryz.func60, Tryz.ntmps60
  go_wp2_with fail
  refine (rSize_ok x _ hx hx2).mono ?_
  rintro e w1 ⟨A1, n1, c1, rfl, h1, x1, _⟩
  have l1 := rAbs_len h1 hx hx2
  have H1 := Lib.hid h1
  have B1 := Lib.hid (B0.out.keep x1)
  have E1 := Lib.hid (E0.out.tr x1)
  clear h1 x1 B0 E0
  go_wp2_with fail
  refine (rSize_ok y _ hy hy2).mono ?_
  rintro e w2 ⟨A2, n2, c2, rfl, h2, x2, _⟩
  have l2 := rAbs_len h2 hy hy2
  have H2 := Lib.hid (And.intro (H1.out.keep x2) h2)
  have B2 := Lib.hid (B1.out.keep x2)
  have E2 := Lib.hid (E1.out.tr x2)
  clear h2 x2 B1 E1 H1
  generalize hng : (decide (x < 0) != decide (y < 0)) = ng at *
  go_wp2_with fail
  refine (rMade_ok _ A1 A2 n1 c1 n2 c2 _ _ _ H2.out.1 H2.out.2 (by omega) (by omega) (by omega)).mono ?_
  rintro e w3 ⟨nb, A, n, c, A', n', c', rfl, hq, x3⟩
  have B3 := Lib.hid (B2.out.keep x3)
  have E3 := Lib.hid (E2.out.tr x3)
  obtain ⟨⟨i0, i1, i2⟩, f0, f1, f2⟩ := B3.out.three
  obtain ⟨r1, r2⟩ := rq_set3 (w := w) hq B3.out (Nat.le_refl _) E3.out
  have q3 := ((B3.out.set_ 0 (.bool nb)).set_ 1 (.slice A n c)).set_ 2 (.slice A' n' c')
  have RF := Lib.hid (And.intro q3 (And.intro r1 r2))
  clear q3 r1 r2 hq x3
  go_wp2
  exact bodyPost_ret (v := .agg #[.bool nb, .slice A n c, .slice A' n' c']) (by simp [results, Tryz.results60, go_sem, RF.out.1.cell]) rfl ⟨_, _, _, _, _, _, _, rfl, RF.out.2.1, RF.out.2.2⟩
theorem rdec_len {w : World} {A : Option Addr} {n c N : Nat} (h : GrpR w A n c N) (hn : n ≤ 1000000) : (Lib.decDigits N).length ≤ 6000001 := by
  have h1 := h.lt_pow
  have h2 : N < 10 ^ (6 * n + 1) := by
    refine Nat.lt_of_lt_of_le h1 ?_
    rw [show G6 = 10 ^ 6 from rfl, ← Nat.pow_mul]
    exact Nat.pow_le_pow_right (by decide) (by omega)
  rw [Lib.decDigits_length]
  have := nd_le _ _ h2
  omega
set_option maxRecDepth 100000 in
set_option maxHeartbeats 4000000 in
theorem rqText_ok (neg : Bool) (A : Option Addr) (n c : Nat) (A' : Option Addr) (n' c' : Nat) (q : Rat) (w : World) (h : RQR w neg A n c A' n' c' q) (hn : n ≤ 1000000) (hn' : n' ≤ 1000000) :
    Calls Tryz.prog 66 #[.agg #[.bool neg, .slice A n c, .slice A' n' c']] w fun e w' => e = .returned (.string ⟨(ratText q).toArray⟩) ∧ Ext w w' := by
  obtain ⟨hba, e0⟩ := boxes1 w #[.bool neg, .slice A n c, .slice A' n' c'] 51
  have hz := h.2.2.eq_zero
  have hcase : (n' = 0 ∧ q.den = 1) ∨ (0 < n' ∧ q.den ≠ 1 ∧ dk q = q.den) := by
    have hd := q.den_nz
    unfold dk at hz ⊢
    by_cases h1 : q.den = 1
    · rw [if_pos h1] at hz
      exact .inl ⟨hz.2 rfl, h1⟩
    · rw [if_neg h1] at hz ⊢
      exact .inr ⟨by omega, h1, rfl⟩
  have hl1 := rdec_len h.2.1 hn
  have hl2 := rdec_len h.2.2 hn'
  have H := Lib.hid (h)
  have hneg := h.1
  have SG := Lib.hid (show (if q.num < 0 then [45] else ([] : List UInt8)) = if neg then [45] else [] by rw [hneg]; simp)
  clear h hz hneg
  obtain ⟨⟨i0, i1, i2⟩, g0, g1, g2⟩ := hba.three
  have goal : ∀ (s : ByteArray), s.data.toList = ratText q → s = ⟨(ratText q).toArray⟩ := fun s hs => by
    rw [← hs]
  have GOAL := Lib.hid goal
  clear goal
  have key : ∀ b1 : Bool, neg = b1 → Calls Tryz.prog 66 #[.agg #[.bool neg, .slice A n c, .slice A' n' c']] w fun e w' => e = .returned (.string ⟨(ratText q).toArray⟩) ∧ Ext w w' := by
    intro b1 hb1
    subst hb1
    rcases hcase with ⟨rfl, hd⟩ | ⟨zb, hd, hdk⟩
    · have HD := Lib.hid hd
      clear hd
      cases neg
      all_goals
        go_enter Tryz.func66, Tryz.ntmps66
        go_wp2_with fail
        refine (rText_ok A n c q.num.natAbs _ (H.out.2.1.keep e0) hn).mono ?_
        rintro e w1 ⟨rfl, hx1⟩
        have hba := hba.keep hx1
        obtain ⟨⟨i0, i1, i2⟩, g0, g1, g2⟩ := hba.three
        have HX := Lib.hid (e0.tr hx1)
        clear hx1
        go_wp2
        go_ret
        refine ⟨congrArg (fun s => Ending.returned (.string s)) (GOAL.out _ ?_), HX.out⟩
        unfold ratText
        rw [SG.out, HD.out]
        simp [ByteArray.data_append]
    · have HD := Lib.hid hd
      have HDK := Lib.hid hdk
      have zd : decide ((n' : Int) > 0) = true := by simp; omega
      clear hd hdk
      cases neg
      all_goals
        go_enter Tryz.func66, Tryz.ntmps66
        go_wp2_with fail
        refine (rText_ok A n c q.num.natAbs _ (H.out.2.1.keep e0) hn).mono ?_
        rintro e w1 ⟨rfl, hx1⟩
        have hba := hba.keep hx1
        obtain ⟨⟨i0, i1, i2⟩, g0, g1, g2⟩ := hba.three
        have HX := Lib.hid (e0.tr hx1)
        clear hx1
        go_wp2_with fail
        refine (rText_ok A' n' c' (dk q) _ (H.out.2.2.keep HX.out) hn').mono ?_
        rintro e w3 ⟨rfl, hx3⟩
        have HX3 := Lib.hid (HX.out.tr hx3)
        clear hx3
        go_wp2
        go_ret
        refine ⟨congrArg (fun s => Ending.returned (.string s)) (GOAL.out _ ?_), HX3.out⟩
        unfold ratText
        rw [SG.out, if_neg HD.out, HDK.out]
        simp [ByteArray.data_append]
  exact key neg rfl
end Go.Proofs.YtekiomanidimnaaGreatDoor
