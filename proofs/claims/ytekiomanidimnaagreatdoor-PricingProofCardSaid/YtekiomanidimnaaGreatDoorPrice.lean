/- pricing.Price, waypointref42.Price: the price of any list of arcs. -/
import Derived.Test.YtekiomanidimnaaGreatDoorRqC
import Derived.Test.YtekiomanidimnaaGreatDoorNums
import Derived.Test.YtekiomanidimnaaGreatDoorLawB
set_option linter.unusedVariables false
set_option linter.unusedSimpArgs false

namespace Go.Proofs.YtekiomanidimnaaGreatDoor
open Go.RowKit
def iints (l : List Int) : List Value := l.map fun a => Value.int .i64 a
theorem Rd.iint {w : World} {A : Option Addr} {l : List Int} (h : Rd w A (iints l)) {k : Nat} {x : Int} (hx : l[k]? = some x) : ∃ b o : Nat, A = some ⟨b, o, none⟩ ∧ b < w.heap.size ∧ w.cell? ⟨b, o + k, none⟩ = some (.int .i64 x) := by
  have hk := (List.getElem?_eq_some_iff.1 hx).1
  obtain ⟨b, o, e, hb, hc⟩ := h.at_ (i := k) (by unfold iints; simpa using hk)
  refine ⟨b, o, e, hb, ?_⟩
  rw [hc k (by unfold iints; simpa using hk)]
  unfold iints
  rw [List.getElem?_map, hx]; rfl
/-- Whether all arcs have a price. -/
def goodP (n : Nat) (path : List Int) : Bool := path.all fun a => decide (0 ≤ a) && decide (a < (n : Int))
def prI (ps : List Rat) (path : List Int) : Rat := prQ ps (path.map Int.toNat)
/-- What Price returns. -/
def priceP (ps : List Rat) (path : List Int) : Rat × Int := if goodP ps.length path then (prI ps path, 0) else (0, 2)
theorem prI_next (ps : List Rat) (path : List Int) (i : Nat) (x : Int) (hx : path[i]? = some x) : prI ps (path.take (i + 1)) = prI ps (path.take i) + ps[x.toNat]?.getD 0 := by
  unfold prI prQ
  rw [List.take_add_one, hx]
  simp
theorem good_next (n : Nat) (path : List Int) (i : Nat) (x : Int) (hx : path[i]? = some x) : goodP n (path.take (i + 1)) = (goodP n (path.take i) && (decide (0 ≤ x) && decide (x < (n : Int)))) := by
  unfold goodP
  rw [List.take_add_one, hx]
  simp
theorem good_bad {n : Nat} {path : List Int} {i : Nat} {x : Int} (hx : path[i]? = some x) (h : (decide (0 ≤ x) && decide (x < (n : Int))) = false) : goodP n path = false := by
  unfold goodP
  rw [List.all_eq_false]
  exact ⟨x, List.mem_of_getElem? hx, by rw [h]; simp⟩
theorem prI_sz {ps : List Rat} (hps : ∀ q ∈ ps, SmQ q) (path : List Int) (hl : path.length ≤ 40) : SzQ (prI ps path) 81 := by
  have := SzQ.pr (P := 1) (by decide) (fun q hq => (hps q hq).sz) (path.map Int.toNat)
  refine this.mono ?_
  rw [List.length_map]
  omega
def PricePost (w : World) (r : Rat × Int) (e : Ending) (w' : World) : Prop :=
  ∃ (neg : Bool) (A1 : Option Addr) (k1 d1 : Nat) (A2 : Option Addr) (k2 d2 : Nat), e = .returned (.tuple #[.agg #[.bool neg, .slice A1 k1 d1, .slice A2 k2 d2], .int .i64 r.2]) ∧ RatR w' neg A1 k1 d1 A2 k2 d2 r.1 ∧ Ext w w'
set_option maxRecDepth 100000 in
set_option maxHeartbeats 4000000 in
theorem price_ok (PP : Option Addr) (n cp : Nat) (ps : List Rat) (hn : ps.length = n) (AP : Option Addr) (m ca : Nat) (path : List Int) (hm : path.length = m) (w : World) (hq : QL w PP ps) (hps : ∀ q ∈ ps, SmQ q) (hr : Rd w AP (iints path)) (hm40 : m ≤ 40) (hn40 : n ≤ 1000) :
    Calls Tryz.prog 28 #[.slice PP n cp, .slice AP m ca] w (PricePost w (priceP ps path)) := by
  have HQ := Lib.hid (hq)
  have HP := Lib.hid (hps)
  have HR := Lib.hid (hr)
  have HN := Lib.hid (hn)
  have HM := Lib.hid (hm)
  clear hq hps hr hn hm
  generalize hRR : priceP ps path = RR
  have HRR := Lib.hid (hRR)
  clear hRR
  obtain ⟨b0, b1, e0⟩ := boxes2 w #[.bool false, .slice none 0 0, .slice none 0 0] 44 #[.bool false, .slice none 0 0, .slice none 0 0] 44
  have BB := Lib.hid (And.intro b0 b1)
  have E0 := Lib.hid (e0)
  clear b0 b1 e0
  go_enter Tryz.func28, Tryz.ntmps28
  go_wp2
  go_loopg [8, 11] m (fun j _ it wr => ∃ (i : Nat) (neg : Bool) (A1 : Option Addr) (k1 d1 : Nat) (A2 : Option Addr) (k2 d2 : Nat), m - i = j ∧ i ≤ m ∧ it = .int .i64 i ∧ Hid (goodP n (path.take i) = true) ∧ Hid (Blk wr w.heap.size 44 #[.bool false, .slice none 0 0, .slice none 0 0]) ∧ Hid (Blk wr (w.heap.size + 1) 44 #[.bool neg, .slice A1 k1 d1, .slice A2 k2 d2]) ∧ Hid (RatR wr neg A1 k1 d1 A2 k2 d2 (prI ps (path.take i))) ∧ Hid (Ext w wr))
  case atStart => exact ⟨0, false, none, 0, 0, none, 0, 0, rfl, Nat.zero_le _, rfl, Lib.hid rfl, Lib.hid BB.out.1, Lib.hid BB.out.2, Lib.hid (ratR_zero _), E0⟩
  case round =>
    obtain ⟨i, neg, A1, k1, d1, A2, k2, d2, rfl, hi, rfl, GD, B0, B1, RS, EX⟩ := hrel
    clear BB E0
    by_cases hin : i < m
    · obtain ⟨x, hx⟩ : ∃ x, path[i]? = some x := ⟨_, List.getElem?_eq_getElem (by rw [HM.out]; exact hin)⟩
      obtain ⟨bp, op, hAP, hbp, hcp⟩ := HR.out.iint hx
      subst hAP
      have kx := (EX.out.cell (p := ⟨bp, op + i, none⟩) hbp).trans hcp
      have HXX := Lib.hid hx
      clear hx hbp hcp
      by_cases hg : 0 ≤ x ∧ x < (n : Int)
      · obtain ⟨hg1, hg2⟩ := hg
        obtain ⟨X, rfl⟩ := Int.eq_ofNat_of_zero_le hg1
        obtain ⟨q, hq⟩ : ∃ q, ps[X]? = some q := ⟨_, List.getElem?_eq_getElem (by rw [HN.out]; omega)⟩
        have sm := HP.out q (List.mem_of_getElem? hq)
        have hg3 : decide ((n : Int) ≤ (X : Int)) = false := by simp; omega
        have XD := Lib.hid (show Ext wr wr.drew from (Ext.refl wr).drewN 1)
        obtain ⟨bq, oq, nx, X1, m1, e1, X2, m2, e2, hPP, hbq, i0', i1', i2', hQ'⟩ := HQ.out.at_ hq
        subst hPP
        have EXD := Lib.hid (EX.out.tr XD.out)
        have i0 := (EXD.out.cell (p := ⟨bq, oq + X * 3, none⟩) hbq).trans i0'
        have i1 := (EXD.out.cell (p := ⟨bq, oq + X * 3 + 1, none⟩) hbq).trans i1'
        have i2 := (EXD.out.cell (p := ⟨bq, oq + X * 3 + 2, none⟩) hbq).trans i2'
        have IC := Lib.hid (And.intro hbq (And.intro i0' (And.intro i1' i2')))
        have BD := Lib.hid (And.intro (B0.out.keep XD.out) (B1.out.keep XD.out))
        have RD := Lib.hid (And.intro (RS.out.keep XD.out) (hQ'.keep EXD.out))
        obtain ⟨lx1, lx2⟩ := hQ'.lens sm.sz
        obtain ⟨ls1, ls2⟩ := RS.out.lens (prI_sz HP.out (path.take i) (by rw [List.length_take]; omega))
        obtain ⟨⟨s0, s1, s2⟩, z0, z1, z2⟩ := BD.out.2.three
        have PN := Lib.hid (show prI ps (path.take (i + 1)) = prI ps (path.take i) + q from by rw [prI_next ps path i X HXX.out]; simp [hq])
        have GN := Lib.hid (show goodP n (path.take (i + 1)) = true from by rw [good_next n path i X HXX.out, GD.out]; simp; omega)
        clear hQ' i0' i1' i2' hq sm
        go_wp2
        go_region_with ((
               go_at_call 63
               refine (ratAdd_any neg nx A1 k1 d1 A2 k2 d2 X1 m1 e1 X2 m2 e2 _ q _ RD.out.1 RD.out.2 (by omega) (by omega) (by omega) (by omega) (reducedAt_all (Nat.mul_ne_zero (Rat.den_nz _) (Rat.den_nz _)))).mono ?_
               rintro e w6 ⟨n6, A6, l6, c6, A6', l6', c6', rfl, h6, x6⟩
               rw [← PN.out] at h6
               have E6 := Lib.hid (EXD.out.tr x6)
               have B6 := Lib.hid (And.intro (BD.out.1.keep x6) (BD.out.2.keep x6))
               have i0 := (E6.out.cell (p := ⟨bq, oq + X * 3, none⟩) IC.out.1).trans IC.out.2.1
               have i1 := (E6.out.cell (p := ⟨bq, oq + X * 3 + 1, none⟩) IC.out.1).trans IC.out.2.2.1
               have i2 := (E6.out.cell (p := ⟨bq, oq + X * 3 + 2, none⟩) IC.out.1).trans IC.out.2.2.2
               obtain ⟨⟨s0, s1, s2⟩, z0, z1, z2⟩ := B6.out.2.three
               obtain ⟨r1, r2⟩ := rat_set3 (w := w) h6 B6.out.2 (by omega) E6.out
               have RF := Lib.hid (And.intro r1 r2)
               have hfb : bq ≠ w.heap.size + 1 := (by have := IC.out.1; omega)
               have fj := fun (u0 u1 u2 : Value) => (show (((w6.setCell ⟨w.heap.size + 1, 0, none⟩ u0).setCell ⟨w.heap.size + 1, 1, none⟩ u1).setCell ⟨w.heap.size + 1, 2, none⟩ u2).cell? ⟨bq, oq + X * 3, none⟩ = some (.bool nx) ∧ (((w6.setCell ⟨w.heap.size + 1, 0, none⟩ u0).setCell ⟨w.heap.size + 1, 1, none⟩ u1).setCell ⟨w.heap.size + 1, 2, none⟩ u2).cell? ⟨bq, oq + X * 3 + 1, none⟩ = some (.slice X1 m1 e1) ∧ (((w6.setCell ⟨w.heap.size + 1, 0, none⟩ u0).setCell ⟨w.heap.size + 1, 1, none⟩ u1).setCell ⟨w.heap.size + 1, 2, none⟩ u2).cell? ⟨bq, oq + X * 3 + 2, none⟩ = some (.slice X2 m2 e2) from ⟨cell_set_of (cell_set_of (cell_set_of i0 hfb) hfb) hfb, cell_set_of (cell_set_of (cell_set_of i1 hfb) hfb) hfb, cell_set_of (cell_set_of (cell_set_of i2 hfb) hfb) hfb⟩)
               clear r1 r2 h6 x6 fj hfb))
        all_goals
          go_wp2
          go_roundg (m - (i + 1))
          case measure => omega
          case rel => exact ⟨i + 1, n6, A6, l6, c6, A6', l6', c6', rfl, by omega, by go_num, GN, Lib.hid (((B6.out.1.far (p := ⟨w.heap.size + 1, 0, none⟩) (by simp) _).far (p := ⟨w.heap.size + 1, 1, none⟩) (by simp) _).far (p := ⟨w.heap.size + 1, 2, none⟩) (by simp) _), Lib.hid (((B6.out.2.set_ 0 _).set_ 1 _).set_ 2 _), Lib.hid RF.out.1, Lib.hid RF.out.2⟩
      · have HBAD := Lib.hid (show RR = (0, 2) from by
          rw [← HRR.out]; unfold priceP
          rw [HN.out, good_bad HXX.out (by simpa using hg)]; rfl)
        obtain ⟨⟨p0, p1, p2⟩, f0, f1, f2⟩ := B0.out.three
        obtain ⟨r1, r2⟩ := rat_set3 (w := w) (ratR_zero wr) B0.out (Nat.le_refl _) EX.out
        have q3 := ((B0.out.set_ 0 (.bool false)).set_ 1 (.slice none 0 0)).set_ 2 (.slice none 0 0)
        have RF := Lib.hid (And.intro q3 (And.intro r1 r2))
        obtain rfl := HBAD.out
        clear q3 r1 r2
        by_cases hx0 : x < 0
        · go_wp2
          exact bodyPost_ret (v := .tuple #[.agg #[.bool false, .slice none 0 0, .slice none 0 0], .int .i64 2]) (by simp [results, Tryz.results28, go_sem, RF.out.1.cell]) rfl ⟨_, _, _, _, _, _, _, rfl, RF.out.2.1, RF.out.2.2⟩
        · have hxn : decide ((n : Int) ≤ x) = true := by simp; omega
          have hx1 : decide (x < 0) = false := by simp; omega
          go_wp2
          exact bodyPost_ret (v := .tuple #[.agg #[.bool false, .slice none 0 0, .slice none 0 0], .int .i64 2]) (by simp [results, Tryz.results28, go_sem, RF.out.1.cell]) rfl ⟨_, _, _, _, _, _, _, rfl, RF.out.2.1, RF.out.2.2⟩
    · obtain rfl : i = m := by omega
      have HOK := Lib.hid (show RR = (prI ps path, 0) from by
        rw [← HRR.out]; unfold priceP
        have := GD.out
        rw [List.take_of_length_le (by rw [HM.out]; omega)] at this
        rw [HN.out, this]; rfl)
      have rs := RS.out
      rw [List.take_of_length_le (by rw [HM.out]; omega)] at rs
      obtain ⟨⟨s0, s1, s2⟩, _⟩ := B1.out.three
      obtain ⟨⟨p0, p1, p2⟩, f0, f1, f2⟩ := B0.out.three
      obtain ⟨r1, r2⟩ := rat_set3 (w := w) rs B0.out (Nat.le_refl _) EX.out
      have q3 := ((B0.out.set_ 0 (.bool neg)).set_ 1 (.slice A1 k1 d1)).set_ 2 (.slice A2 k2 d2)
      have RF := Lib.hid (And.intro q3 (And.intro r1 r2))
      obtain rfl := HOK.out
      clear q3 r1 r2 rs
      go_wp2
      exact bodyPost_ret (v := .tuple #[.agg #[.bool neg, .slice A1 k1 d1, .slice A2 k2 d2], .int .i64 0]) (by simp [results, Tryz.results28, go_sem, RF.out.1.cell]) rfl ⟨_, _, _, _, _, _, _, rfl, RF.out.2.1, RF.out.2.2⟩
end Go.Proofs.YtekiomanidimnaaGreatDoor
