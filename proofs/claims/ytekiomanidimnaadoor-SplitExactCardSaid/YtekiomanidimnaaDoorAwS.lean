/- waypointlaw46.awake: the examples of the document hold. -/
import Derived.Test.YtekiomanidimnaaDoorSpE
import Derived.Test.YtekiomanidimnaaDoorMD
import Derived.Test.YtekiomanidimnaaDoorMH
set_option linter.unusedVariables false
set_option linter.unusedSimpArgs false

namespace Go.Proofs.YtekiomanidimnaaDoor
open Go.RowKit
theorem QL.lit {w : World} {g : Nat} {css : List (List Value)} {qs : List Rat} (hl : css.length = qs.length) (h3 : ∀ cs ∈ css, cs.length = 3) (hb : Blk w g 29 css.flatten.toArray) (hq : ∀ (i : Nat) (q : Rat), qs[i]? = some q → ∃ cs, css[i]? = some cs ∧ QR w cs q) : QL w (some ⟨g, 0, none⟩) qs := ⟨css, hl, h3, (RdT.of_blk hb rfl).rd, hq⟩
theorem ex_round : roundP [1, 1, 1] 10 = ([4, 3, 3], 0) := by decide +kernel
theorem ex_error : errorP [1, 1, 1] [4, 3, 3] = (1 / 15, 0) := by decide +kernel
theorem ex_keep : keepP [1, 3, 2, 3] 2 = ([0, 3, 0, 3], 0) := by decide +kernel
theorem int_1 : mkQ (decide ((1 : Int) < 0)) (1 : Int).natAbs 1 = 1 := by decide +kernel
theorem int_2 : mkQ (decide ((2 : Int) < 0)) (2 : Int).natAbs 1 = 2 := by decide +kernel
theorem int_3 : mkQ (decide ((3 : Int) < 0)) (3 : Int).natAbs 1 = 3 := by decide +kernel
theorem text_15 : ratText (1 / 15) = [49, 47, 49, 53] := by
  unfold ratText
  rw [show (1 / 15 : Rat).num = 1 by decide +kernel, show (1 / 15 : Rat).den = 15 by decide +kernel]
  simp [Lib.decDigits]
theorem text_3 : ratText 3 = [51] := by
  unfold ratText
  rw [show (3 : Rat).num = 3 from rfl, show (3 : Rat).den = 1 from rfl]
  simp [Lib.decDigits]
theorem sz_small : ∀ q ∈ ([1, 1, 1] : List Rat), SzQ q 100 := by
  intro q hq
  simp at hq
  subst hq
  exact (show SzQ 1 1 from ⟨by decide +kernel, by decide +kernel⟩).mono (by decide)
theorem sz_keep : ∀ q ∈ ([1, 3, 2, 3] : List Rat), SzQ q 100000 := by
  intro q hq
  simp at hq
  rcases hq with rfl | rfl | rfl | rfl
  all_goals exact (show SzQ _ 1 from ⟨by decide +kernel, by decide +kernel⟩).mono (by decide)
theorem lit3 {w : World} {g : Nat} {n1 : Bool} {A1 : Option Addr} {l1 c1 : Nat} {A1' : Option Addr} {l1' c1' : Nat} (hb : Blk w g 29 #[.bool n1, .slice A1 l1 c1, .slice A1' l1' c1', .bool n1, .slice A1 l1 c1, .slice A1' l1' c1', .bool n1, .slice A1 l1 c1, .slice A1' l1' c1']) (hr : RatR w n1 A1 l1 c1 A1' l1' c1' 1) : QL w (some ⟨g, 0, none⟩) [1, 1, 1] := by
  refine QL.lit (css := [[.bool n1, .slice A1 l1 c1, .slice A1' l1' c1'], [.bool n1, .slice A1 l1 c1, .slice A1' l1' c1'], [.bool n1, .slice A1 l1 c1, .slice A1' l1' c1']]) rfl (by simp) hb (fun i q hq => ?_)
  have hR : QR w [.bool n1, .slice A1 l1 c1, .slice A1' l1' c1'] 1 := ⟨n1, A1, l1, c1, A1', l1', c1', rfl, hr⟩
  match i, hq with
  | 0, hq => simp at hq; subst hq; exact ⟨_, rfl, hR⟩
  | 1, hq => simp at hq; subst hq; exact ⟨_, rfl, hR⟩
  | 2, hq => simp at hq; subst hq; exact ⟨_, rfl, hR⟩
  | k + 3, hq => simp at hq
theorem lit4 {w : World} {g : Nat} {n1 n5 n6 n7 : Bool} {A1 A5 A6 A7 A1' A5' A6' A7' : Option Addr} {l1 c1 l5 c5 l6 c6 l7 c7 l1' c1' l5' c5' l6' c6' l7' c7' : Nat} (hb : Blk w g 29 #[.bool n1, .slice A1 l1 c1, .slice A1' l1' c1', .bool n5, .slice A5 l5 c5, .slice A5' l5' c5', .bool n6, .slice A6 l6 c6, .slice A6' l6' c6', .bool n7, .slice A7 l7 c7, .slice A7' l7' c7']) (h1 : RatR w n1 A1 l1 c1 A1' l1' c1' 1) (h5 : RatR w n5 A5 l5 c5 A5' l5' c5' 3) (h6 : RatR w n6 A6 l6 c6 A6' l6' c6' 2) (h7 : RatR w n7 A7 l7 c7 A7' l7' c7' 3) : QL w (some ⟨g, 0, none⟩) [1, 3, 2, 3] := by
  refine QL.lit (css := [[.bool n1, .slice A1 l1 c1, .slice A1' l1' c1'], [.bool n5, .slice A5 l5 c5, .slice A5' l5' c5'], [.bool n6, .slice A6 l6 c6, .slice A6' l6' c6'], [.bool n7, .slice A7 l7 c7, .slice A7' l7' c7']]) rfl (by simp) hb (fun i q hq => ?_)
  match i, hq with
  | 0, hq => simp at hq; subst hq; exact ⟨_, rfl, n1, A1, l1, c1, A1', l1', c1', rfl, h1⟩
  | 1, hq => simp at hq; subst hq; exact ⟨_, rfl, n5, A5, l5, c5, A5', l5', c5', rfl, h5⟩
  | 2, hq => simp at hq; subst hq; exact ⟨_, rfl, n6, A6, l6, c6, A6', l6', c6', rfl, h6⟩
  | 3, hq => simp at hq; subst hq; exact ⟨_, rfl, n7, A7, l7, c7, A7', l7', c7', rfl, h7⟩
  | k + 4, hq => simp at hq
theorem QL.all {w : World} {K : Option Addr} {qs : List Rat} (h : QL w K qs) (h0 : 0 < qs.length) : ∃ b o : Nat, K = some ⟨b, o, none⟩ ∧ b < w.heap.size ∧ ∀ (i : Nat) (q : Rat), qs[i]? = some q → ∃ (neg : Bool) (A : Option Addr) (n c : Nat) (A' : Option Addr) (n' c' : Nat), (w.cell? ⟨b, o + i * 3, none⟩ = some (.bool neg) ∧ w.cell? ⟨b, o + i * 3 + 1, none⟩ = some (.slice A n c) ∧ w.cell? ⟨b, o + i * 3 + 2, none⟩ = some (.slice A' n' c')) ∧ RatR w neg A n c A' n' c' q := by
  obtain ⟨b, o, _, _, _, _, _, _, _, hK, hb, _⟩ := h.at_ (List.getElem?_eq_getElem h0)
  refine ⟨b, o, hK, hb, fun i q hq => ?_⟩
  obtain ⟨b', o', neg, A, n, c, A', n', c', hK', _, y0, y1, y2, hr⟩ := h.at_ hq
  rw [hK] at hK'
  injection hK' with e
  injection e with e1 e2
  subst e1 e2
  exact ⟨neg, A, n, c, A', n', c', ⟨y0, y1, y2⟩, hr⟩
theorem err_ex (P : Option Addr) (c : Nat) (V : Option Addr) (cv : Nat) (w : World) (hq : QL w P [1, 1, 1]) (hv : Rd w V (ints [4, 3, 3])) :
    Calls Tryd.prog 10 #[.slice P 3 c, .slice V 3 cv] w (ErrPost w (1 / 15, 0)) := by
  have := error_ok P 3 c [1, 1, 1] rfl (by decide) V 3 cv [4, 3, 3] rfl w hq sz_small hv
  rw [ex_error] at this
  exact this
theorem text_of {q : Rat} {bs : List UInt8} (hb : ratText q = bs) (k : Nat) (hk : k ≤ 100000) (hs : SzQ q k) (neg : Bool) (A : Option Addr) (n c : Nat) (A' : Option Addr) (n' c' : Nat) (w : World) (h : RatR w neg A n c A' n' c' q) (ht : Tab w) :
    Calls Tryd.prog 12 #[.agg #[.bool neg, .slice A n c, .slice A' n' c']] w fun e w' => e = .returned (.string ⟨bs.toArray⟩) ∧ Ext w w' := by
  obtain ⟨h1, h2⟩ := h.lens hs
  have := ratText_any neg A n c A' n' c' q w h (by omega) (by omega) ht
  rw [hb] at this
  exact this
set_option maxRecDepth 100000 in
set_option maxHeartbeats 4000000 in
theorem lawake_ok (w : World) (ht : Tab w) :
    Calls Tryd.prog 4 #[] w fun e w' => e = .returned (.bool true) ∧ Ext w w' := by
  have HT := Lib.hid (ht)
  clear ht
  go_enter Tryd.func4, Tryd.ntmps4
  go_wp2_with fail
  refine (ratInt_any 1 _ (by decide) (by decide)).mono ?_
  rintro e w1 ⟨n1, A1, l1, c1, A1', l1', c1', rfl, h1, x1⟩
  rw [int_1] at h1
  have xb1 := (Ext.refl w1).alloc (.cells #[.bool n1, .slice A1 l1 c1, .slice A1' l1' c1'] 29)
  have B1 := Lib.hid (Blk.new w1 29 #[.bool n1, .slice A1 l1 c1, .slice A1' l1' c1'])
  have R1 := Lib.hid (h1.keep xb1)
  have E1 := Lib.hid (x1.tr xb1)
  clear h1 x1 xb1
  obtain ⟨W1, hW1⟩ : ∃ W1, W1 = w1.alloc (.cells #[.bool n1, .slice A1 l1 c1, .slice A1' l1' c1'] 29) := ⟨_, rfl⟩
  rw [← hW1] at B1 R1 E1
  have xb2 := (Ext.refl W1).alloc (.cells #[.bool n1, .slice A1 l1 c1, .slice A1' l1' c1', .bool n1, .slice A1 l1 c1, .slice A1' l1' c1', .bool n1, .slice A1 l1 c1, .slice A1' l1' c1'] 29)
  have Q2 := Lib.hid (lit3 (Blk.new W1 29 #[.bool n1, .slice A1 l1 c1, .slice A1' l1' c1', .bool n1, .slice A1 l1 c1, .slice A1' l1' c1', .bool n1, .slice A1 l1 c1, .slice A1' l1' c1']) (R1.out.keep xb2))
  have X2 := Lib.hid xb2
  have hsz : W1.heap.size = w1.heap.size + 1 := by rw [hW1]; simp
  rw [hsz] at Q2
  have hrd := round_ok (some ⟨w1.heap.size + 1, 0, none⟩) 3 3 [1, 1, 1] rfl (by decide) 10 _ Q2.out sz_small
  rw [ex_round, hW1] at hrd
  have HRD := Lib.hid hrd
  clear xb2 hrd Q2
  go_wp2_with fail
  refine (HRD.out).mono ?_
  rintro e w2 ⟨V, cv, rfl, hcv, hv, x2⟩
  rw [← hW1] at x2
  have B2 := Lib.hid ((B1.out.keep X2.out).keep x2)
  have R2 := Lib.hid ((R1.out.keep X2.out).keep x2)
  have E2 := Lib.hid ((E1.out.tr X2.out).tr x2)
  have V2 := Lib.hid hv
  have hcv3 : 3 ≤ cv := hcv
  clear HRD hv x2 X2 B1 R1 E1 hsz hW1 hcv
  obtain ⟨⟨i0, i1, i2⟩, _⟩ := B2.out.three
  have xb3 := (Ext.refl w2).alloc (.cells #[.bool n1, .slice A1 l1 c1, .slice A1' l1' c1', .bool n1, .slice A1 l1 c1, .slice A1' l1' c1', .bool n1, .slice A1 l1 c1, .slice A1' l1' c1'] 29)
  have Q3 := Lib.hid (lit3 (Blk.new w2 29 #[.bool n1, .slice A1 l1 c1, .slice A1' l1' c1', .bool n1, .slice A1 l1 c1, .slice A1' l1' c1', .bool n1, .slice A1 l1 c1, .slice A1' l1' c1']) (R2.out.keep xb3))
  have X3 := Lib.hid xb3
  clear xb3
  go_wp2_with fail
  refine (err_ex (some ⟨w2.heap.size, 0, none⟩) 3 V cv _ Q3.out (V2.out.keep X3.out).rd).mono ?_
  rintro e w3 ⟨n3, A3, l3, c3, A3', l3', c3', rfl, h3, x3⟩
  have xb3 := (Ext.refl w3).alloc (.cells #[.bool n3, .slice A3 l3 c3, .slice A3' l3' c3'] 29)
  have xd : Ext (w3.alloc (.cells #[.bool n3, .slice A3 l3 c3, .slice A3' l3' c3'] 29)) (w3.alloc (.cells #[.bool n3, .slice A3 l3 c3, .slice A3' l3' c3'] 29)).drew := (Ext.refl (w3.alloc (.cells #[.bool n3, .slice A3 l3 c3, .slice A3' l3' c3'] 29))).drewN 1
  have X4 := Lib.hid (((X3.out.tr x3).tr xb3).tr xd)
  have BX := Lib.hid ((Blk.new w3 29 #[.bool n3, .slice A3 l3 c3, .slice A3' l3' c3']).keep xd)
  have RX := Lib.hid ((h3.keep xb3).keep xd)
  have B4 := Lib.hid (B2.out.keep X4.out)
  have R4 := Lib.hid (R2.out.keep X4.out)
  have E4 := Lib.hid (E2.out.tr X4.out)
  have V4 := Lib.hid (V2.out.keep X4.out)
  clear h3 x3 xb3 xd X3 Q3 B2 R2 E2 V2 i0 i1 i2 X4
  obtain ⟨⟨i0, i1, i2⟩, _⟩ := B4.out.three
  have tok : True := trivial
  go_upto_region 4 with fail
  go_cut [6, 7] (fun s6 s7 wx => ∃ (K : Option Addr) (ck : Nat), s6 = .slice K 4 ck ∧ s7 = .int .i64 0 ∧ Hid (QL wx K [0, 3, 0, 3]) ∧ Hid (Ext w wx) ∧ Hid (RdT wx 3 V (ints [4, 3, 3])) ∧ Hid (Blk wx w3.heap.size 29 #[.bool n3, .slice A3 l3 c3, .slice A3' l3' c3']) ∧ Hid (RatR wx n3 A3 l3 c3 A3' l3' c3' (1 / 15)))
  case first =>
    go_wp2
    go_region_held3 (fun w' => w'.cell? ⟨w1.heap.size, 0, none⟩ = some (.bool n1) ∧ w'.cell? ⟨w1.heap.size, 1, none⟩ = some (.slice A1 l1 c1) ∧ w'.cell? ⟨w1.heap.size, 2, none⟩ = some (.slice A1' l1' c1'))
      (first | with_reducible exact ⟨i0, i1, i2⟩ | with_reducible exact ⟨cell_alloc_of i0 _, cell_alloc_of i1 _, cell_alloc_of i2 _⟩ | fail)
      (first
      | (go_at_call 7
         have _t := tok
         with_reducible refine (ratInt_any 3 _ (by decide) (by decide)).mono ?_
         rintro e w5 ⟨n5, A5, l5, c5, A5', l5', c5', rfl, h5, x5⟩
         rw [int_3] at h5
         clear tok
         have B5 := Lib.hid (B4.out.keep x5)
         have E5 := Lib.hid (E4.out.tr x5)
         have X5 := Lib.hid x5
         have R5 := Lib.hid h5
         obtain ⟨⟨i0, i1, i2⟩, _⟩ := B5.out.three
         clear h5 x5)
      | (go_at_call 7
         with_reducible refine (ratInt_any 2 _ (by decide) (by decide)).mono ?_
         rintro e w6 ⟨n6, A6, l6, c6, A6', l6', c6', rfl, h6, x6⟩
         rw [int_2] at h6
         have B6 := Lib.hid (B5.out.keep x6)
         have E6 := Lib.hid (E5.out.tr x6)
         have X6 := Lib.hid x6
         have R6 := Lib.hid h6
         obtain ⟨⟨i0, i1, i2⟩, _⟩ := B6.out.three
         clear h6 x6)
      | (go_at_call 7
         with_reducible refine (ratInt_any 3 _ (by decide) (by decide)).mono ?_
         rintro e w7 ⟨n7, A7, l7, c7, A7', l7', c7', rfl, h7, x7⟩
         rw [int_3] at h7
         have B7 := Lib.hid (B6.out.keep x7)
         have E7 := Lib.hid (E6.out.tr x7)
         have X7 := Lib.hid x7
         have R7 := Lib.hid h7
         obtain ⟨⟨i0, i1, i2⟩, _⟩ := B7.out.three
         clear h7 x7)
      | (go_at_call 11
         have xb := (Ext.refl w7).alloc (.cells #[.bool n1, .slice A1 l1 c1, .slice A1' l1' c1', .bool n5, .slice A5 l5 c5, .slice A5' l5' c5', .bool n6, .slice A6 l6 c6, .slice A6' l6' c6', .bool n7, .slice A7 l7 c7, .slice A7' l7' c7'] 29)
         have QK := lit4 (Blk.new w7 29 #[.bool n1, .slice A1 l1 c1, .slice A1' l1' c1', .bool n5, .slice A5 l5 c5, .slice A5' l5' c5', .bool n6, .slice A6 l6 c6, .slice A6' l6' c6', .bool n7, .slice A7 l7 c7, .slice A7' l7' c7']) ((((R4.out.keep X5.out).keep X6.out).keep X7.out).keep xb) (((R5.out.keep X6.out).keep X7.out).keep xb) ((R6.out.keep X7.out).keep xb) (R7.out.keep xb)
         have hk := keep_ok (some ⟨w7.heap.size, 0, none⟩) 4 4 [1, 3, 2, 3] rfl (by decide) 2 _ QK sz_keep
         rw [ex_keep] at hk
         refine (hk).mono ?_
         rintro e w8 ⟨K, ck, rfl, h8, x8⟩
         have X8 := ((X5.out.tr X6.out).tr X7.out).tr (xb.tr x8)
         have FK := Lib.hid (And.intro h8 (And.intro (E4.out.tr X8) (And.intro (V4.out.keep X8) (And.intro (BX.out.keep X8) (RX.out.keep X8)))))
         obtain ⟨⟨i0, i1, i2⟩, _⟩ := (B4.out.keep X8).three
         clear xb QK hk h8 x8 X8)
      | fail)
    all_goals
      go_wp2
      go_meet
      exact ⟨K, ck, rfl, rfl, Lib.hid FK.out.1, Lib.hid FK.out.2.1, Lib.hid FK.out.2.2.1, Lib.hid FK.out.2.2.2.1, Lib.hid FK.out.2.2.2.2⟩
  case rest =>
    obtain ⟨K, ck, rfl, rfl, QK, EK, VK, BK, RK⟩ := hcut
    clear B4 R4 E4 V4 BX RX i0 i1 i2
    obtain ⟨bk, ok, rfl, hbk, hall⟩ := QK.out.all (by decide)
    obtain ⟨m0, P0, u0, v0, P0', u0', v0', ⟨y00, y01, y02⟩, r0⟩ := hall 0 0 rfl
    obtain ⟨m1, P1, u1, v1, P1', u1', v1', ⟨y10, y11, y12⟩, r1⟩ := hall 1 3 rfl
    obtain ⟨m2, P2, u2', v2, P2', u2'', v2', ⟨y20, y21, y22⟩, r2⟩ := hall 2 0 rfl
    obtain ⟨m3, P3, u3, v3, P3', u3', v3', ⟨y30, y31, y32⟩, r3⟩ := hall 3 3 rfl
    simp at y00 y01 y02 y10 y11 y12 y20 y21 y22 y30 y31 y32
    have KC := Lib.hid (show ∀ W, Ext wc W → (W.cell? ⟨bk, ok, none⟩ = some (.bool m0) ∧ W.cell? ⟨bk, ok + 1, none⟩ = some (.slice P0 u0 v0) ∧ W.cell? ⟨bk, ok + 2, none⟩ = some (.slice P0' u0' v0')) ∧ (W.cell? ⟨bk, ok + 3, none⟩ = some (.bool m1) ∧ W.cell? ⟨bk, ok + 3 + 1, none⟩ = some (.slice P1 u1 v1) ∧ W.cell? ⟨bk, ok + 3 + 2, none⟩ = some (.slice P1' u1' v1')) ∧ (W.cell? ⟨bk, ok + 6, none⟩ = some (.bool m2) ∧ W.cell? ⟨bk, ok + 6 + 1, none⟩ = some (.slice P2 u2' v2) ∧ W.cell? ⟨bk, ok + 6 + 2, none⟩ = some (.slice P2' u2'' v2')) ∧ (W.cell? ⟨bk, ok + 9, none⟩ = some (.bool m3) ∧ W.cell? ⟨bk, ok + 9 + 1, none⟩ = some (.slice P3 u3 v3) ∧ W.cell? ⟨bk, ok + 9 + 2, none⟩ = some (.slice P3' u3' v3')) from fun W hW =>
      ⟨⟨(hW.cell (p := ⟨bk, ok, none⟩) hbk).trans y00, (hW.cell (p := ⟨bk, ok + 1, none⟩) hbk).trans y01, (hW.cell (p := ⟨bk, ok + 2, none⟩) hbk).trans y02⟩, ⟨(hW.cell (p := ⟨bk, ok + 3, none⟩) hbk).trans y10, (hW.cell (p := ⟨bk, ok + 3 + 1, none⟩) hbk).trans y11, (hW.cell (p := ⟨bk, ok + 3 + 2, none⟩) hbk).trans y12⟩, ⟨(hW.cell (p := ⟨bk, ok + 6, none⟩) hbk).trans y20, (hW.cell (p := ⟨bk, ok + 6 + 1, none⟩) hbk).trans y21, (hW.cell (p := ⟨bk, ok + 6 + 2, none⟩) hbk).trans y22⟩, ⟨(hW.cell (p := ⟨bk, ok + 9, none⟩) hbk).trans y30, (hW.cell (p := ⟨bk, ok + 9 + 1, none⟩) hbk).trans y31, (hW.cell (p := ⟨bk, ok + 9 + 2, none⟩) hbk).trans y32⟩⟩)
    have RR := Lib.hid (And.intro r0 (And.intro r1 (And.intro r2 r3)))
    clear hall y00 y01 y02 y10 y11 y12 y20 y21 y22 y30 y31 y32 r0 r1 r2 r3 QK hbk
    have xi := (Ext.refl wc).alloc (.cells #[.int .i64 4, .int .i64 3, .int .i64 3] 3)
    have XI := Lib.hid xi
    have RI := Lib.hid (Rd.new wc 3 #[.int .i64 4, .int .i64 3, .int .i64 3] (xs := ints [4, 3, 3]) rfl rfl)
    have VI := Lib.hid (VK.out.keep xi)
    clear xi
    go_wp2_with fail
    refine (sameInts_ok V (some ⟨wc.heap.size, 0, none⟩) cv 3 [4, 3, 3] [4, 3, 3] _ VI.out.rd RI.out hcv3 (by decide) (by decide) (by decide)).mono ?_
    rintro e w9 ⟨rfl, x9⟩
    rw [show decide (([4, 3, 3] : List Nat) = [4, 3, 3]) = true from by decide]
    have X9 := Lib.hid (XI.out.tr x9)
    clear x9 XI RI VI
    obtain ⟨⟨i0, i1, i2⟩, _⟩ := (BK.out.keep X9.out).three
    go_wp2_with fail
    refine (text_of text_15 1 (by decide) ⟨by decide +kernel, by decide +kernel⟩ n3 A3 l3 c3 A3' l3' c3' _ (RK.out.keep X9.out) (HT.out.keep (EK.out.tr X9.out))).mono ?_
    rintro e w10 ⟨rfl, x10⟩
    have X10 := Lib.hid (X9.out.tr x10)
    clear x10 X9 i0 i1 i2
    obtain ⟨⟨i0, i1, i2⟩, _⟩ := KC.out _ X10.out
    go_wp2_with fail
    refine (sign_any m0 P0 u0 v0 P0' u0' v0' 0 _ (RR.out.1.keep X10.out)).mono ?_
    rintro e w11 ⟨rfl, x11⟩
    rw [show sgnI 0 = 0 from rfl]
    have X11 := Lib.hid (X10.out.tr x11)
    clear x11 X10 i0 i1 i2
    obtain ⟨_, ⟨i0, i1, i2⟩, _⟩ := KC.out _ X11.out
    go_wp2_with fail
    refine (text_of text_3 1 (by decide) ⟨by decide +kernel, by decide +kernel⟩ m1 P1 u1 v1 P1' u1' v1' _ (RR.out.2.1.keep X11.out) (HT.out.keep (EK.out.tr X11.out))).mono ?_
    rintro e w12 ⟨rfl, x12⟩
    have X12 := Lib.hid (X11.out.tr x12)
    clear x12 X11 i0 i1 i2
    obtain ⟨_, _, ⟨i0, i1, i2⟩, _⟩ := KC.out _ X12.out
    go_wp2_with fail
    refine (sign_any m2 P2 u2' v2 P2' u2'' v2' 0 _ (RR.out.2.2.1.keep X12.out)).mono ?_
    rintro e w13 ⟨rfl, x13⟩
    rw [show sgnI 0 = 0 from rfl]
    have X13 := Lib.hid (X12.out.tr x13)
    clear x13 X12 i0 i1 i2
    obtain ⟨_, _, _, ⟨i0, i1, i2⟩⟩ := KC.out _ X13.out
    go_wp2_with fail
    refine (text_of text_3 1 (by decide) ⟨by decide +kernel, by decide +kernel⟩ m3 P3 u3 v3 P3' u3' v3' _ (RR.out.2.2.2.keep X13.out) (HT.out.keep (EK.out.tr X13.out))).mono ?_
    rintro e w14 ⟨rfl, x14⟩
    have X14 := Lib.hid (X13.out.tr x14)
    clear x14 X13 i0 i1 i2
    go_wp2
    go_ret
    exact ⟨rfl, EK.out.tr X14.out⟩
end Go.Proofs.YtekiomanidimnaaDoor
