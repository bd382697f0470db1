/- kpaths.Shortest for one path without a bound. -/
import Derived.Test.YtjmkcckbbgpkeaaGreatDoorKpX
set_option linter.unusedVariables false
set_option linter.unusedSimpArgs false

namespace Go.Proofs.YtjmkcckbbgpkeaaGreatDoor
open Go.RowKit
theorem seven_ {w : World} {g : Nat} {t : TypeId} {a b c d e f h : Value} (hb : Blk w g t #[a, b, c, d, e, f, h]) : (w.cell? ⟨g, 0, none⟩ = some a ∧ w.cell? ⟨g, 1, none⟩ = some b ∧ w.cell? ⟨g, 2, none⟩ = some c ∧ w.cell? ⟨g, 3, none⟩ = some d ∧ w.cell? ⟨g, 4, none⟩ = some e ∧ w.cell? ⟨g, 5, none⟩ = some f ∧ w.cell? ⟨g, 6, none⟩ = some h) ∧ w.frozen? ⟨g, 0, none⟩ = false ∧ w.frozen? ⟨g, 1, none⟩ = false ∧ w.frozen? ⟨g, 2, none⟩ = false ∧ w.frozen? ⟨g, 3, none⟩ = false ∧ w.frozen? ⟨g, 4, none⟩ = false ∧ w.frozen? ⟨g, 5, none⟩ = false ∧ w.frozen? ⟨g, 6, none⟩ = false :=
  ⟨⟨(hb.cell 0).trans rfl, (hb.cell 1).trans rfl, (hb.cell 2).trans rfl, (hb.cell 3).trans rfl, (hb.cell 4).trans rfl, (hb.cell 5).trans rfl, (hb.cell 6).trans rfl⟩, hb.frozen 0, hb.frozen 1, hb.frozen 2, hb.frozen 3, hb.frozen 4, hb.frozen 5, hb.frozen 6⟩
theorem set7_ {w0 w : World} {g : Nat} (hg : w0.heap.size ≤ g) (hx : Ext w0 w) (v0 v1 v2 v3 v4 v5 v6 : Value) : Ext w0 (((((((w.setCell ⟨g, 0, none⟩ v0).setCell ⟨g, 1, none⟩ v1).setCell ⟨g, 2, none⟩ v2).setCell ⟨g, 3, none⟩ v3).setCell ⟨g, 4, none⟩ v4).setCell ⟨g, 5, none⟩ v5).setCell ⟨g, 6, none⟩ v6) :=
  Ext.set_ (Ext.set_ (Ext.set_ (Ext.set_ (Ext.set_ (Ext.set_ (Ext.set_ hx hg v0) hg v1) hg v2) hg v3) hg v4) hg v5) hg v6
theorem grown7 (w : World) (g : Nat) (v0 v1 v2 v3 v4 v5 v6 : Value) : w.grownBy (((((((w.setCell ⟨g, 0, none⟩ v0).setCell ⟨g, 1, none⟩ v1).setCell ⟨g, 2, none⟩ v2).setCell ⟨g, 3, none⟩ v3).setCell ⟨g, 4, none⟩ v4).setCell ⟨g, 5, none⟩ v5).setCell ⟨g, 6, none⟩ v6) (some g) :=
  ((((((grown_set w g 0 v0).trans (grown_set _ g 1 v1)).trans (grown_set _ g 2 v2)).trans (grown_set _ g 3 v3)).trans (grown_set _ g 4 v4)).trans (grown_set _ g 5 v5)).trans (grown_set _ g 6 v6)
/-- What Shortest returns: one path, or an error. -/
def ShPost (w : World) (r : List Nat × Int) (e : Ending) (w' : World) : Prop :=
  (r.2 = 0 ∧ ∃ (g : Nat) (A : Option Addr) (k : Nat), e = .returned (.tuple #[.slice (some ⟨g, 0, none⟩) 1 1, .int .i64 0]) ∧ w'.cell? ⟨g, 0, none⟩ = some (.slice A r.1.length k) ∧ r.1.length ≤ k ∧ RdT w' 3 A (ints r.1) ∧ Ext w w') ∨
  (r.2 ≠ 0 ∧ e = .returned (.tuple #[.slice none 0 0, .int .i64 r.2]) ∧ Ext w w')
theorem tp_nodes {t : Tp} (hv : validP t = true) : 1 ≤ t.nodes ∧ t.nodes ≤ 64 := by
  unfold validP headOk inB at hv
  simp at hv
  exact hv.1.1.1
set_option maxRecDepth 100000 in
set_option maxHeartbeats 8000000 in
theorem shortest_ok (t : Tp) (AO : Option Addr) (co : Nat) (AL : Option Addr) (cl : Nat) (AD : Option Addr) (cd : Nat) (down : List Bool) (s d : Int) (w : World) (ht : TopR w t AO co AL cl) (hll : t.links.length ≤ 256) (hdn : Rd w AD (bools down)) (hdl : down.length ≤ cd) (hdc : down.length ≤ 600) :
    Calls Tryz.prog 11 #[.agg #[.int .i64 t.nodes, .slice AO t.over.length co, .slice AL t.links.length cl], .slice AD down.length cd, .int .i64 s, .int .i64 d, .int .i64 1, .int .i64 0] w (ShPost w (chP t down (costL t) s d)) := by
  have HT := Lib.hid (ht)
  have HDN := Lib.hid (hdn)
  have h3 := ht.ll
  have h4 := ht.cl
  clear ht hdn
  generalize hR : chP t down (costL t) s d = R
  have HR := Lib.hid (hR)
  clear hR
  obtain ⟨b0, e0⟩ := boxes1 w #[.int .i64 t.nodes, .slice AO t.over.length co, .slice AL t.links.length cl] 25
  obtain ⟨⟨i0, i1, i2⟩, g0, g1, g2⟩ := b0.three
  have BB := Lib.hid b0
  clear b0
  go_enter Tryz.func11, Tryz.ntmps11
  go_upto_region 1 with fail
  go_cut [39] (fun s wx => s = .bool (!validP t || !fitsP t down) ∧ Hid (Blk wx w.heap.size 25 #[.int .i64 t.nodes, .slice AO t.over.length co, .slice AL t.links.length cl] ∧ Ext w wx))
  case first =>
    go_wp2_with fail
    refine (tValid_any t AO co AL cl _ (HT.out.keep e0)).mono ?_
    rintro e w1 ⟨rfl, hx1⟩
    have hba := BB.out.keep hx1
    obtain ⟨⟨i0, i1, i2⟩, g0, g1, g2⟩ := hba.three
    have E1 := Lib.hid (And.intro hba (e0.tr hx1))
    clear hx1 hba
    cases hv : validP t
    case false =>
      go_wp2
      go_meet
      exact ⟨by simp [hv], E1⟩
    case true =>
      have HV := Lib.hid (hv)
      go_wp2_with fail
      refine (gFits_any t AO co AL cl AD cd down _ (HT.out.keep E1.out.2)).mono ?_
      rintro e w2 ⟨rfl, hx2⟩
      have E2 := Lib.hid (And.intro (E1.out.1.keep hx2) (E1.out.2.tr hx2))
      clear hx2
      cases hf : fitsP t down
      case false =>
        go_wp2
        go_meet
        exact ⟨by simp [hf], E2⟩
      case true =>
        have HF := Lib.hid (hf)
        go_wp2
        go_meet
        exact ⟨by simp [HV.out, HF.out], E2⟩
  case rest =>
    obtain ⟨rfl, E3⟩ := hcut
    clear i0 i1 i2 g0 g1 g2 e0 BB
    obtain ⟨⟨i0, i1, i2⟩, g0, g1, g2⟩ := E3.out.1.three
    obtain ⟨b1, hb1⟩ : ∃ b, (!validP t || !fitsP t down) = b := ⟨_, rfl⟩
    have HB1 := Lib.hid hb1
    rw [hb1]
    clear hb1
    cases b1
    case true =>
      have hr : R = ([], 1) := by
        rw [← HR.out]
        have : bad1 t down (costL t) = true := by unfold bad1; rw [HB1.out]; rfl
        unfold chP
        rw [this]; rfl
      subst hr
      go_wp2
      exact bodyPost_ret (v := .tuple #[.slice none 0 0, .int .i64 1]) (by simp [results, Tryz.results11, go_sem]) rfl (.inr ⟨by decide, rfl, E3.out.2⟩)
    case false =>
      have HVF := Lib.hid (show validP t = true ∧ fitsP t down = true from by have := HB1.out; simpa using this)
      have hbad : simBad2 t s d = !(ndB t.nodes s && ndB t.nodes d) := by
        unfold simBad2 ndB
        rw [Bool.eq_iff_iff]
        simp
        omega
      have HBAD := Lib.hid (hbad)
      clear hbad
      go_upto_region 3 with fail
      go_cut [49] (fun x wx => x = .bool (simBad2 t s d) ∧ Hid (Blk wx w.heap.size 25 #[.int .i64 t.nodes, .slice AO t.over.length co, .slice AL t.links.length cl] ∧ Ext w wx))
      case first =>
        go_wp2_with fail
        refine (gNode_b t AO co AL cl s _).mono ?_
        rintro e w1 ⟨rfl, hx1⟩
        have E4 := Lib.hid (And.intro (E3.out.1.keep hx1) (E3.out.2.tr hx1))
        obtain ⟨⟨i0, i1, i2⟩, g0, g1, g2⟩ := E4.out.1.three
        clear hx1
        cases hn : ndB t.nodes s
        case false =>
          go_wp2
          go_meet
          exact ⟨by rw [HBAD.out, hn]; rfl, E4⟩
        case true =>
          have HN := Lib.hid hn
          clear hn
          go_wp2_with fail
          refine (gNode_b t AO co AL cl d _).mono ?_
          rintro e w2 ⟨rfl, hx2⟩
          have E5 := Lib.hid (And.intro (E4.out.1.keep hx2) (E4.out.2.tr hx2))
          clear hx2
          go_wp2
          go_meet
          exact ⟨by rw [HBAD.out, HN.out]; simp, E5⟩
      case rest =>
        obtain ⟨rfl, E6⟩ := hcut
        clear i0 i1 i2 g0 g1 g2 E3
        obtain ⟨⟨i0, i1, i2⟩, g0, g1, g2⟩ := E6.out.1.three
        have HB0 := Lib.hid (show bad1 t down (costL t) = false from by unfold bad1; rw [HVF.out.1, HVF.out.2, costL_priced]; rfl)
        cases hb2 : simBad2 t s d
        case true =>
          have hr : R = ([], 2) := by rw [← HR.out]; unfold chP; rw [HB0.out, hb2]; rfl
          subst hr
          go_wp2
          exact bodyPost_ret (v := .tuple #[.slice none 0 0, .int .i64 2]) (by simp [results, Tryz.results11, go_sem]) rfl (.inr ⟨by decide, rfl, E6.out.2⟩)
        case false =>
          obtain ⟨k1, k2, k3, k4⟩ : 0 ≤ s ∧ s < t.nodes ∧ 0 ≤ d ∧ d < t.nodes := by unfold simBad2 at hb2; simp at hb2; omega
          have HB2 := Lib.hid hb2
          obtain ⟨s', rfl⟩ := Int.eq_ofNat_of_zero_le k1
          obtain ⟨d', rfl⟩ := Int.eq_ofNat_of_zero_le k3
          have hn64 := tp_nodes HVF.out.1
          obtain ⟨N, hN⟩ := Int.eq_ofNat_of_zero_le (show 0 ≤ t.nodes by omega)
          have HNN := Lib.hid hN
          have hsN : s' < N := by omega
          have hdN : d' < N := by omega
          have hN64 : N ≤ 64 := by omega
          have HRC := Lib.hid (show R = match cheapP t down (costL t) s' d' with
            | none => ([], 11)
            | some l => (l, 0) from by rw [← HR.out]; unfold chP; rw [HB0.out, HB2.out]; rfl)
          clear hb2 hN k1 k2 k3 k4 HR hn64
          have XD := Lib.hid (show Ext wc wc.drew from (Ext.refl wc).drewN 1)
          have XA := Lib.hid (show Ext wc (wc.alloc (.cells #[.int .i64 0, .slice none 0 0, .slice none 0 0, .slice none 0 0, .int .i64 0, .int .i64 0, .slice none 0 0] 76)).drew from ((Ext.refl wc).alloc _).drewN 1)
          have BN := Lib.hid (show Blk (wc.alloc (.cells #[.int .i64 0, .slice none 0 0, .slice none 0 0, .slice none 0 0, .int .i64 0, .int .i64 0, .slice none 0 0] 76)).drew wc.heap.size 76 #[.int .i64 0, .slice none 0 0, .slice none 0 0, .slice none 0 0, .int .i64 0, .int .i64 0, .slice none 0 0] from Blk.new wc _ _)
          have KEEP := Lib.hid (show ∀ wx, Ext wc wx → (wx.cell? ⟨w.heap.size, 0, none⟩ = some (.int .i64 t.nodes) ∧ wx.cell? ⟨w.heap.size, 1, none⟩ = some (.slice AO t.over.length co) ∧ wx.cell? ⟨w.heap.size, 2, none⟩ = some (.slice AL t.links.length cl)) from fun wx hx => (E6.out.1.keep hx).three.1)
          obtain ⟨i0, i1, i2⟩ := KEEP.out _ XD.out
          obtain ⟨y0, y1, y2⟩ := KEEP.out _ XA.out
          have lw : w.heap.size < wc.heap.size := E6.out.1.lt
          go_upto_region 5 with fail
          go_cut [14] (fun sl wx => ∃ g gL : Nat, sl = .pointer (some ⟨g, 0, none⟩) ∧ Hid (wc.heap.size ≤ g ∧ Blk wx g 76 #[.int .i64 t.nodes, .slice AO t.over.length co, .slice AL t.links.length cl, .slice AD down.length cd, .int .i64 (d' : Int), .int .i64 0, .slice (some ⟨gL, 0, none⟩) N N] ∧ LL wx gL N (leavP t) ∧ Ext wc wx))
          case first =>
            go_region_held3 (fun w' => w'.cell? ⟨w.heap.size, 0, none⟩ = some (.int .i64 t.nodes) ∧ w'.cell? ⟨w.heap.size, 1, none⟩ = some (.slice AO t.over.length co) ∧ w'.cell? ⟨w.heap.size, 2, none⟩ = some (.slice AL t.links.length cl))
              (first | with_reducible exact ⟨i0, i1, i2⟩ | with_reducible exact ⟨y0, y1, y2⟩ | with_reducible exact ⟨cell_alloc_of i0 _, cell_alloc_of i1 _, cell_alloc_of i2 _⟩ | exact ⟨cell_set_of (cell_set_of (cell_set_of (cell_set_of (cell_set_of (cell_set_of (cell_set_of i0 fT) fT) fT) fT) fT) fT) fT, cell_set_of (cell_set_of (cell_set_of (cell_set_of (cell_set_of (cell_set_of (cell_set_of i1 fT) fT) fT) fT) fT) fT) fT, cell_set_of (cell_set_of (cell_set_of (cell_set_of (cell_set_of (cell_set_of (cell_set_of i2 fT) fT) fT) fT) fT) fT) fT⟩ | fail)
              (first
                | (go_at_call 24
                   first
                   | (with_reducible refine (leaving_any t AO co AL cl _ ((HT.out.keep E6.out.2).keep (by with_reducible exact XD.out)) HVF.out.1).mono ?_
                      rintro e w8 ⟨gL, N', hN', rfl, ll8, x8⟩
                      have E8 := Lib.hid (XD.out.tr x8))
                   | (with_reducible refine (leaving_any t AO co AL cl _ ((HT.out.keep E6.out.2).keep (by with_reducible exact XA.out)) HVF.out.1).mono ?_
                      rintro e w8 ⟨gL, N', hN', rfl, ll8, x8⟩
                      have E8 := Lib.hid (XA.out.tr x8)
                      have B8 := Lib.hid (BN.out.keep x8)
                      obtain ⟨⟨v0, v1, v2, v3, v4, v5, v6⟩, r0, r1, r2, r3, r4, r5, r6⟩ := seven_ B8.out
                      have gg : wc.heap.size ≤ wc.heap.size := Nat.le_refl _
                      have fT : w.heap.size ≠ wc.heap.size := Nat.ne_of_lt lw)
                   obtain rfl : N' = N := by have := HNN.out; omega
                   have L8 := Lib.hid ll8
                   obtain ⟨i0, i1, i2⟩ := KEEP.out _ E8.out
                   clear x8 ll8 hN')
                | fail)
            all_goals
              go_wp2
              go_meet
              first
              | exact ⟨_, gL, rfl, Lib.hid ⟨gg, (((((((B8.out.set_ 0 _).set_ 1 _).set_ 2 _).set_ 3 _).set_ 4 _).set_ 5 _).set_ 6 _), L8.out.other (grown7 _ _ _ _ _ _ _ _ _) B8.out (by decide) (by decide), set7_ gg E8.out _ _ _ _ _ _ _⟩⟩
              | exact ⟨w8.heap.size, gL, rfl, Lib.hid ⟨E8.out.size, Blk.new w8 _ _, L8.out.keep ((Ext.refl w8).alloc _), E8.out.alloc _⟩⟩
          case rest =>
            obtain ⟨g, gL, rfl, E9⟩ := hcut
            clear XD XA BN KEEP i0 i1 i2 y0 y1 y2 g0 g1 g2
            obtain ⟨⟨v0, v1, v2, v3, v4, v5, v6⟩, _⟩ := seven_ E9.out.2.1
            have DEV := Lib.hid (deviation_ok t AO co AL cl AD cd down gL N s' d' _ ((HT.out.keep E6.out.2).keep E9.out.2.2.2) HVF.out.1 HNN.out hll ((HDN.out.keep E6.out.2).keep E9.out.2.2.2) hdl hdc HVF.out.2 E9.out.2.2.1 hsN hdN hN64)
            have hlt1 : ¬ ((1 : Int) < 1) := by decide
            have hsn : s' < t.nodes.toNat := by rw [HNN.out]; simpa using hsN
            have hdn2 : d' < t.nodes.toNat := by rw [HNN.out]; simpa using hdN
            go_wp2_with fail
            refine DEV.out.mono ?_
            rintro e w3 hpost
            rcases hpost with ⟨x, A, k, rfl, hk, rx, hle, hbest, x3⟩ | ⟨rfl, hno, x3⟩
            · have FIN := Lib.hid (show R.2 = 0 ∧ R.1 = x from by
                have h1 := HRC.out
                rw [cheap_is HVF.out.1 hsn hle hbest] at h1
                rw [h1]
                exact ⟨rfl, rfl⟩)
              have FX := Lib.hid (show x.length ≤ k ∧ RdT w3 3 A (ints x) ∧ Ext w w3 from ⟨hk, rx, (E6.out.2.tr E9.out.2.2.2).tr x3⟩)
              clear hk rx hle hbest x3 DEV
              go_wp2
              go_loopg [17] 0 (fun j s17 wx => s17 = .slice (some ⟨w3.heap.size, 0, none⟩) 1 1 ∧ w3.alloc (.cells #[.slice A x.length k] 41) = wx)
              case atStart => exact ⟨rfl, rfl⟩
              case round =>
                obtain ⟨rfl, rfl⟩ := hrel
                have BX := Lib.hid (show ShPost w R (.returned (.tuple #[.slice (some ⟨w3.heap.size, 0, none⟩) 1 1, .int .i64 0])) (w3.alloc (.cells #[.slice A x.length k] 41)) from
                  .inl ⟨FIN.out.1, w3.heap.size, A, k, rfl, by rw [FIN.out.2]; exact (Blk.new w3 41 #[.slice A x.length k]).cell 0, by rw [FIN.out.2]; exact FX.out.1, by rw [FIN.out.2]; exact FX.out.2.1.keep ((Ext.refl _).alloc _), FX.out.2.2.alloc _⟩)
                go_wp2
                exact bodyPost_ret (v := .tuple #[.slice (some ⟨w3.heap.size, 0, none⟩) 1 1, .int .i64 0]) (by simp [results, Tryz.results11, go_sem]) rfl BX.out
            · have FIN := Lib.hid (show ShPost w R (.returned (.tuple #[.slice none 0 0, .int .i64 11])) w3 from by
                have h1 := HRC.out
                rw [cheap_no HVF.out.1 hsn hno] at h1
                rw [h1]
                exact .inr ⟨by decide, rfl, (E6.out.2.tr E9.out.2.2.2).tr x3⟩)
              clear x3 hno
              go_wp2
              exact bodyPost_ret (v := .tuple #[.slice none 0 0, .int .i64 11]) (by simp [results, Tryz.results11, go_sem]) rfl FIN.out
end Go.Proofs.YtjmkcckbbgpkeaaGreatDoor
