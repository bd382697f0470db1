/- waypointref42.Price: the price of any list of arcs; waypointlaw42.is. -/
import Derived.Test.YtekiomanidimnaaGreatDoorPrice
set_option linter.unusedVariables false
set_option linter.unusedSimpArgs false

namespace Go.Proofs.YtekiomanidimnaaGreatDoor
open Go.RowKit
theorem rqR_zero (w : World) : RQR w false none 0 0 none 0 0 0 := ⟨by decide, GrpR.zero _ _ _, GrpR.zero _ _ _⟩
theorem B32_G6 (k : Nat) : B32 ^ k ≤ G6 ^ (2 * k) := by
  rw [Nat.pow_mul]
  exact Nat.pow_le_pow_left (by decide) k
theorem RQR.lensB {w : World} {neg : Bool} {A : Option Addr} {n c : Nat} {A' : Option Addr} {n' c' : Nat} {q : Rat} {k : Nat} (h : RQR w neg A n c A' n' c' q) (hs : SzQ q k) : n ≤ 2 * k ∧ n' ≤ 2 * k := by
  refine ⟨h.2.1.lenOf (Nat.lt_of_lt_of_le hs.1 (B32_G6 k)), h.2.2.lenOf ?_⟩
  unfold dk
  split
  · exact Nat.pow_pos G6_pos
  · exact Nat.lt_of_lt_of_le hs.2 (B32_G6 k)
def RPricePost (w : World) (r : Rat × Int) (e : Ending) (w' : World) : Prop :=
  ∃ (neg : Bool) (A1 : Option Addr) (k1 d1 : Nat) (A2 : Option Addr) (k2 d2 : Nat), e = .returned (.tuple #[.agg #[.bool neg, .slice A1 k1 d1, .slice A2 k2 d2], .int .i64 r.2]) ∧ RQR w' neg A1 k1 d1 A2 k2 d2 r.1 ∧ Ext w w'
set_option maxRecDepth 100000 in
set_option maxHeartbeats 4000000 in
theorem rprice_ok (PP : Option Addr) (n cp : Nat) (ps : List Rat) (hn : ps.length = n) (AP : Option Addr) (m ca : Nat) (path : List Int) (hm : path.length = m) (w : World) (hq : QLg RQC w PP ps) (hps : ∀ q ∈ ps, SmQ q) (hr : Rd w AP (iints path)) (hm40 : m ≤ 40) (hn40 : n ≤ 1000) :
    Calls Tryz.prog 29 #[.slice PP n cp, .slice AP m ca] w (RPricePost w (priceP ps path)) := by
  have HQ := Lib.hid (hq)
  have HP := Lib.hid (hps)
  have HR := Lib.hid (hr)
  have HN := Lib.hid (hn)
  have HM := Lib.hid (hm)
  clear hq hps hr hn hm
  generalize hRR : priceP ps path = RR
  have HRR := Lib.hid (hRR)
  clear hRR
  obtain ⟨b0, b1, e0⟩ := boxes2 w #[.bool false, .slice none 0 0, .slice none 0 0] 51 #[.bool false, .slice none 0 0, .slice none 0 0] 51
  have BB := Lib.hid (And.intro b0 b1)
  have E0 := Lib.hid (e0)
  clear b0 b1 e0
  go_enter Tryz.func29, Tryz.ntmps29
  go_wp2
  go_loopg [7] m (fun j it wr => ∃ (i : Nat) (neg : Bool) (A1 : Option Addr) (k1 d1 : Nat) (A2 : Option Addr) (k2 d2 : Nat), m - i = j ∧ i ≤ m ∧ it = .int .i64 i ∧ Hid (goodP n (path.take i) = true) ∧ Hid (Blk wr w.heap.size 51 #[.bool false, .slice none 0 0, .slice none 0 0]) ∧ Hid (Blk wr (w.heap.size + 1) 51 #[.bool neg, .slice A1 k1 d1, .slice A2 k2 d2]) ∧ Hid (RQR wr neg A1 k1 d1 A2 k2 d2 (prI ps (path.take i))) ∧ Hid (Ext w wr))
  case atStart => exact ⟨0, false, none, 0, 0, none, 0, 0, rfl, Nat.zero_le _, rfl, Lib.hid rfl, Lib.hid BB.out.1, Lib.hid BB.out.2, Lib.hid (rqR_zero _), E0⟩
  case round =>
    obtain ⟨i, neg, A1, k1, d1, A2, k2, d2, rfl, hi, rfl, GD, B0, B1, RS, EX⟩ := hrel
    clear BB E0
    by_cases hin : i < m
    · obtain ⟨x, hx⟩ : ∃ x, path[i]? = some x := ⟨_, List.getElem?_eq_getElem (by rw [HM.out]; exact hin)⟩
      obtain ⟨bp, op, hAP, hbp, hcp⟩ := HR.out.iint hx
      subst hAP
      have kx := (EX.out.cell (p := ⟨bp, op + i, none⟩) hbp).trans hcp
      have HXX := Lib.hid hx
      clear hx hbp hcp
      by_cases hg : 0 ≤ x ∧ x < (n : Int)
      · obtain ⟨hg1, hg2⟩ := hg
        obtain ⟨X, rfl⟩ := Int.eq_ofNat_of_zero_le hg1
        obtain ⟨q, hq⟩ : ∃ q, ps[X]? = some q := ⟨_, List.getElem?_eq_getElem (by rw [HN.out]; omega)⟩
        have sm := HP.out q (List.mem_of_getElem? hq)
        have hg3 : decide ((n : Int) ≤ (X : Int)) = false := by simp; omega
        have XD := Lib.hid (show Ext wr wr.drew from (Ext.refl wr).drewN 1)
        obtain ⟨bq, oq, nx, X1, m1, e1, X2, m2, e2, hPP, hbq, i0', i1', i2', hQ'⟩ := HQ.out.at_ hq
        subst hPP
        have EXD := Lib.hid (EX.out.tr XD.out)
        have i0 := (EXD.out.cell (p := ⟨bq, oq + X * 3, none⟩) hbq).trans i0'
        have i1 := (EXD.out.cell (p := ⟨bq, oq + X * 3 + 1, none⟩) hbq).trans i1'
        have i2 := (EXD.out.cell (p := ⟨bq, oq + X * 3 + 2, none⟩) hbq).trans i2'
        have IC := Lib.hid (And.intro hbq (And.intro i0' (And.intro i1' i2')))
        have BD := Lib.hid (And.intro (B0.out.keep XD.out) (B1.out.keep XD.out))
        have RD := Lib.hid (And.intro (RS.out.keep XD.out) (hQ'.keep EXD.out))
        obtain ⟨lx1, lx2⟩ := hQ'.lens sm
        obtain ⟨ls1, ls2⟩ := RS.out.lensB (prI_sz HP.out (path.take i) (by rw [List.length_take]; omega))
        obtain ⟨⟨s0, s1, s2⟩, z0, z1, z2⟩ := BD.out.2.three
        have PN := Lib.hid (show prI ps (path.take (i + 1)) = prI ps (path.take i) + q from by rw [prI_next ps path i X HXX.out]; simp [hq])
        have GN := Lib.hid (show goodP n (path.take (i + 1)) = true from by rw [good_next n path i X HXX.out, GD.out]; simp; omega)
        clear hQ' i0' i1' i2' hq sm
        have kxd : wr.drew.cell? ⟨bp, op + i, none⟩ = some (.int .i64 (X : Int)) := kx
        go_wp2
        go_region_with ((
               go_at_call 78
               refine (rqAdd_ok neg nx A1 k1 d1 A2 k2 d2 X1 m1 e1 X2 m2 e2 _ q _ RD.out.1 RD.out.2 (by omega) (by omega) (by omega) (by omega) ).mono ?_
               rintro e w6 ⟨n6, A6, l6, c6, A6', l6', c6', rfl, h6, x6⟩
               rw [← PN.out] at h6
               have E6 := Lib.hid (EXD.out.tr x6)
               have B6 := Lib.hid (And.intro (BD.out.1.keep x6) (BD.out.2.keep x6))
               have i0 := (E6.out.cell (p := ⟨bq, oq + X * 3, none⟩) IC.out.1).trans IC.out.2.1
               have i1 := (E6.out.cell (p := ⟨bq, oq + X * 3 + 1, none⟩) IC.out.1).trans IC.out.2.2.1
               have i2 := (E6.out.cell (p := ⟨bq, oq + X * 3 + 2, none⟩) IC.out.1).trans IC.out.2.2.2
               obtain ⟨⟨s0, s1, s2⟩, z0, z1, z2⟩ := B6.out.2.three
               obtain ⟨r1, r2⟩ := rq_set3 (w := w) h6 B6.out.2 (by omega) E6.out
               have RF := Lib.hid (And.intro r1 r2)
               have hfb : bq ≠ w.heap.size + 1 := (by have := IC.out.1; omega)
               have fj := fun (u0 u1 u2 : Value) => (show (((w6.setCell ⟨w.heap.size + 1, 0, none⟩ u0).setCell ⟨w.heap.size + 1, 1, none⟩ u1).setCell ⟨w.heap.size + 1, 2, none⟩ u2).cell? ⟨bq, oq + X * 3, none⟩ = some (.bool nx) ∧ (((w6.setCell ⟨w.heap.size + 1, 0, none⟩ u0).setCell ⟨w.heap.size + 1, 1, none⟩ u1).setCell ⟨w.heap.size + 1, 2, none⟩ u2).cell? ⟨bq, oq + X * 3 + 1, none⟩ = some (.slice X1 m1 e1) ∧ (((w6.setCell ⟨w.heap.size + 1, 0, none⟩ u0).setCell ⟨w.heap.size + 1, 1, none⟩ u1).setCell ⟨w.heap.size + 1, 2, none⟩ u2).cell? ⟨bq, oq + X * 3 + 2, none⟩ = some (.slice X2 m2 e2) from ⟨cell_set_of (cell_set_of (cell_set_of i0 hfb) hfb) hfb, cell_set_of (cell_set_of (cell_set_of i1 hfb) hfb) hfb, cell_set_of (cell_set_of (cell_set_of i2 hfb) hfb) hfb⟩)
               clear r1 r2 h6 x6 fj hfb))
        all_goals
          go_wp2
          go_roundg (m - (i + 1))
          case measure => omega
          case rel => exact ⟨i + 1, n6, A6, l6, c6, A6', l6', c6', rfl, by omega, by go_num, GN, Lib.hid (((B6.out.1.far (p := ⟨w.heap.size + 1, 0, none⟩) (by simp) _).far (p := ⟨w.heap.size + 1, 1, none⟩) (by simp) _).far (p := ⟨w.heap.size + 1, 2, none⟩) (by simp) _), Lib.hid (((B6.out.2.set_ 0 _).set_ 1 _).set_ 2 _), Lib.hid RF.out.1, Lib.hid RF.out.2⟩
      · have HBAD := Lib.hid (show RR = (0, 2) from by
          rw [← HRR.out]; unfold priceP
          rw [HN.out, good_bad HXX.out (by simpa using hg)]; rfl)
        obtain ⟨⟨p0, p1, p2⟩, f0, f1, f2⟩ := B0.out.three
        obtain ⟨r1, r2⟩ := rq_set3 (w := w) (rqR_zero wr) B0.out (Nat.le_refl _) EX.out
        have q3 := ((B0.out.set_ 0 (.bool false)).set_ 1 (.slice none 0 0)).set_ 2 (.slice none 0 0)
        have RF := Lib.hid (And.intro q3 (And.intro r1 r2))
        obtain rfl := HBAD.out
        clear q3 r1 r2
        by_cases hx0 : x < 0
        · go_wp2
          exact bodyPost_ret (v := .tuple #[.agg #[.bool false, .slice none 0 0, .slice none 0 0], .int .i64 2]) (by simp [results, Tryz.results29, go_sem, RF.out.1.cell]) rfl ⟨_, _, _, _, _, _, _, rfl, RF.out.2.1, RF.out.2.2⟩
        · have hxn : decide ((n : Int) ≤ x) = true := by simp; omega
          have hx1 : decide (x < 0) = false := by simp; omega
          go_wp2
          exact bodyPost_ret (v := .tuple #[.agg #[.bool false, .slice none 0 0, .slice none 0 0], .int .i64 2]) (by simp [results, Tryz.results29, go_sem, RF.out.1.cell]) rfl ⟨_, _, _, _, _, _, _, rfl, RF.out.2.1, RF.out.2.2⟩
    · obtain rfl : i = m := by omega
      have HOK := Lib.hid (show RR = (prI ps path, 0) from by
        rw [← HRR.out]; unfold priceP
        have := GD.out
        rw [List.take_of_length_le (by rw [HM.out]; omega)] at this
        rw [HN.out, this]; rfl)
      have rs := RS.out
      rw [List.take_of_length_le (by rw [HM.out]; omega)] at rs
      obtain ⟨⟨s0, s1, s2⟩, _⟩ := B1.out.three
      obtain ⟨⟨p0, p1, p2⟩, f0, f1, f2⟩ := B0.out.three
      obtain ⟨r1, r2⟩ := rq_set3 (w := w) rs B0.out (Nat.le_refl _) EX.out
      have q3 := ((B0.out.set_ 0 (.bool neg)).set_ 1 (.slice A1 k1 d1)).set_ 2 (.slice A2 k2 d2)
      have RF := Lib.hid (And.intro q3 (And.intro r1 r2))
      obtain rfl := HOK.out
      clear q3 r1 r2 rs
      go_wp2
      exact bodyPost_ret (v := .tuple #[.agg #[.bool neg, .slice A1 k1 d1, .slice A2 k2 d2], .int .i64 0]) (by simp [results, Tryz.results29, go_sem, RF.out.1.cell]) rfl ⟨_, _, _, _, _, _, _, rfl, RF.out.2.1, RF.out.2.2⟩
end Go.Proofs.YtekiomanidimnaaGreatDoor
