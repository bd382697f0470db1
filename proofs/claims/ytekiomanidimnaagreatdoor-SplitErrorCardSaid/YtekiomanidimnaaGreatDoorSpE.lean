/- split.Error: the walk. -/
import Derived.Test.YtekiomanidimnaaGreatDoorSpD
import Derived.Test.YtekiomanidimnaaGreatDoorIin
set_option linter.unusedVariables false
set_option linter.unusedSimpArgs false

namespace Go.Proofs.YtekiomanidimnaaGreatDoor
open Go.RowKit
/-- The greatest difference so far. -/
def diffQ (qs : List Rat) (ws : List Int) (T : Int) (i : Nat) : Rat := ofQ (ws[i]?.getD 0) T - (qs[i]?.getD 0) / sumQ qs
def absQ (d : Rat) : Rat := if sgnI d < 0 then -d else d
def worstTo (qs : List Rat) (ws : List Int) (T : Int) : Nat → Rat
  | 0 => 0
  | i + 1 => if 0 < cmpQ (absQ (diffQ qs ws T i)) (worstTo qs ws T i) then absQ (diffQ qs ws T i) else worstTo qs ws T i
def okW (x : Int) : Bool := decide (0 ≤ x) && decide (x ≤ 65536)
def isum : List Int → Int
  | [] => 0
  | a :: l => a + isum l
theorem isum_append (l m : List Int) : isum (l ++ m) = isum l + isum m := by
  induction l with
  | nil => simp [isum]
  | cons a l ih => show a + isum (l ++ m) = a + isum l + isum m; rw [ih]; omega
theorem isum_next (l : List Int) (i : Nat) (x : Int) (h : l[i]? = some x) : isum (l.take (i + 1)) = isum (l.take i) + x := by
  rw [List.take_add_one, h, isum_append]
  simp [isum]
theorem isum_bound : ∀ (l : List Int), l.all okW = true → 0 ≤ isum l ∧ isum l ≤ l.length * 65536
  | [], _ => by simp [isum]
  | a :: l, h => by
    rw [List.all_cons, Bool.and_eq_true] at h
    have := isum_bound l h.2
    have h1 := h.1
    unfold okW at h1
    simp at h1
    show 0 ≤ a + isum l ∧ a + isum l ≤ ((l.length + 1 : Nat) : Int) * 65536
    omega
/-- What Error returns. -/
def errorP (qs : List Rat) (ws : List Int) : Rat × Int := if properP qs && (decide (ws.length = qs.length) && (ws.all okW && (decide (1 ≤ isum ws) && decide (isum ws ≤ 65536)))) then (worstTo qs ws (isum ws) qs.length, 0) else (0, 1)
theorem ofQ_sz {x y : Int} (h1 : x.natAbs ≤ 65536) (h2 : y.natAbs ≤ 65536) (h3 : y ≠ 0) : SzQ (ofQ x y) 1 := by
  unfold ofQ
  refine SzQ.mkQ_ (by omega) ?_ ?_
  · rw [Nat.pow_one, B32_eq]; omega
  · rw [Nat.pow_one, B32_eq]; omega
theorem diff_sz {qs : List Rat} {ws : List Int} (h : properP qs = true) (hsz : ∀ q ∈ qs, SzQ q 100) {T : Int} (hT : 1 ≤ T ∧ T ≤ 65536) (hw : ∀ x ∈ ws, okW x = true) (i : Nat) : SzQ (ofQ (ws[i]?.getD 0) T) 1 ∧ SzQ ((qs[i]?.getD 0) / sumQ qs) 6565 ∧ SzQ (diffQ qs ws T i) 6567 ∧ SzQ (absQ (diffQ qs ws T i)) 6567 := by
  obtain ⟨_, s2, _, s4, _⟩ := sizes h hsz (T := 1) (by decide) i
  have h0 : sumQ qs ≠ 0 := fun e => by have := (proper_facts h).2; rw [e] at this; exact Rat.lt_irrefl this
  have hx : (ws[i]?.getD 0).natAbs ≤ 65536 := by
    cases hq : ws[i]? with
    | none => simp
    | some x =>
      have := hw x (List.mem_of_getElem? hq)
      unfold okW at this
      simp at this
      simp only [Option.getD_some]
      omega
  have s5 := ofQ_sz hx (show T.natAbs ≤ 65536 by omega) (by omega)
  have s6 : SzQ ((qs[i]?.getD 0) / sumQ qs) 6565 := (s4.div s2 h0).mono (by decide)
  have s7 : SzQ (diffQ qs ws T i) 6567 := (s5.sub s6).mono (by decide)
  refine ⟨s5, s6, s7, ?_⟩
  unfold absQ
  split
  · exact s7.neg_
  · exact s7
theorem worst_sz {qs : List Rat} {ws : List Int} (h : properP qs = true) (hsz : ∀ q ∈ qs, SzQ q 100) {T : Int} (hT : 1 ≤ T ∧ T ≤ 65536) (hw : ∀ x ∈ ws, okW x = true) : ∀ i, SzQ (worstTo qs ws T i) 6567
  | 0 => SzQ.zero.mono (by decide)
  | i + 1 => by
    unfold worstTo
    split
    · exact (diff_sz h hsz hT hw i).2.2.2
    · exact worst_sz h hsz hT hw i
def ErrPost (w : World) (r : Rat × Int) (e : Ending) (w' : World) : Prop :=
  ∃ (neg : Bool) (A : Option Addr) (n c : Nat) (A' : Option Addr) (n' c' : Nat), e = .returned (.tuple #[.agg #[.bool neg, .slice A n c, .slice A' n' c'], .int .i64 r.2]) ∧ RatR w' neg A n c A' n' c' r.1 ∧ Ext w w'
theorem all_take {f : Int → Bool} {l : List Int} {i : Nat} {x : Int} (h : l[i]? = some x) : (l.take (i + 1)).all f = ((l.take i).all f && f x) := by
  rw [List.take_add_one, h, List.all_append]
  simp
set_option maxRecDepth 100000 in
set_option maxHeartbeats 4000000 in
theorem error_ok (P : Option Addr) (n c : Nat) (qs : List Rat) (hn : qs.length = n) (hn2 : n ≤ 1000000) (V : Option Addr) (m cv : Nat) (ws : List Int) (hm : ws.length = m) (w : World) (hq : QL w P qs) (hsz : ∀ q ∈ qs, SzQ q 100) (hv : Rd w V (iints ws)) :
    Calls Tryz.prog 41 #[.slice P n c, .slice V m cv] w (ErrPost w (errorP qs ws)) := by
  obtain ⟨b0, e0⟩ := boxes1 w #[.bool false, .slice none 0 0, .slice none 0 0] 44
  have HQ := Lib.hid (hq.keep e0)
  have HV := Lib.hid (hv.keep e0)
  have HN := Lib.hid hn
  have HM := Lib.hid hm
  have HS := Lib.hid hsz
  have BB := Lib.hid b0
  have E0 := Lib.hid e0
  generalize hR : errorP qs ws = R
  have HR := Lib.hid hR
  clear hq hn hsz hR hv hm b0 e0
  go_enter Tryz.func41, Tryz.ntmps41
  go_wp2_with fail
  refine (proper_ok P n c qs HN.out hn2 _ HQ.out).mono ?_
  rintro e w1 ⟨rfl, x1⟩
  have E1 := Lib.hid (E0.out.tr x1)
  have B1 := Lib.hid (BB.out.keep x1)
  have BAD := Lib.hid (show ∀ W, Ext w W → Blk W w.heap.size 44 #[.bool false, .slice none 0 0, .slice none 0 0] → RatR (((W.setCell ⟨w.heap.size, 0, none⟩ (.bool false)).setCell ⟨w.heap.size, 1, none⟩ (.slice none 0 0)).setCell ⟨w.heap.size, 2, none⟩ (.slice none 0 0)) false none 0 0 none 0 0 0 ∧ Ext w (((W.setCell ⟨w.heap.size, 0, none⟩ (.bool false)).setCell ⟨w.heap.size, 1, none⟩ (.slice none 0 0)).setCell ⟨w.heap.size, 2, none⟩ (.slice none 0 0)) from fun W hx hb => rat_set3 (w := w) (ratR_zero W) hb (Nat.le_refl _) hx)
  have X1 := Lib.hid x1
  clear x1 E0 BB
  cases hp : properP qs
  case false =>
    have HF := Lib.hid (show R = (0, 1) by rw [← HR.out]; unfold errorP; rw [hp]; rfl)
    obtain rfl := HF.out
    have hbr := B1.out
    obtain ⟨⟨k0, k1, k2⟩, f0, f1, f2⟩ := hbr.three
    clear hp
    go_wp2
    exact bodyPost_ret (v := .tuple #[.agg #[.bool false, .slice none 0 0, .slice none 0 0], .int .i64 1]) (by simp [results, Tryz.results41, go_sem, (((hbr.set_ 0 _).set_ 1 _).set_ 2 _).cell]) rfl ⟨_, _, _, _, _, _, _, rfl, (BAD.out _ E1.out B1.out).1, (BAD.out _ E1.out B1.out).2⟩
  case true =>
    by_cases hmn : m = n
    · obtain rfl := hmn.symm
      have h64 : n ≤ 64 := by have := (proper_pos hp).2; rw [HN.out] at this; exact this
      have h0 : 0 < n := by have := (proper_pos hp).1; rw [HN.out] at this; exact this
      have hne : ((n : Int) != (n : Int)) = false := by simp
      have HP := Lib.hid hp
      have hbr := B1.out
      obtain ⟨⟨k0, k1, k2⟩, f0, f1, f2⟩ := hbr.three
      clear hp hmn
      go_wp2
      go_loopg [6, 8, 31] n (fun q tt _ it wr => ∃ i : Nat, n - i = q ∧ i ≤ n ∧ it = .int .i64 i ∧ tt = .int .i64 (isum (ws.take i)) ∧ Hid ((ws.take i).all okW = true) ∧ w1 = wr)
      case atStart => exact ⟨0, rfl, Nat.zero_le _, rfl, rfl, Lib.hid rfl, rfl⟩
      case round =>
        obtain ⟨i, rfl, hi, rfl, rfl, AL, rfl⟩ := hrel
        have hbd := isum_bound _ AL.out
        rw [List.length_take] at hbd
        have hb2 : 0 ≤ isum (ws.take i) ∧ isum (ws.take i) ≤ 4194304 := by omega
        clear hbd
        by_cases hin : i < n
        · obtain ⟨x, hx⟩ : ∃ x, ws[i]? = some x := ⟨_, List.getElem?_eq_getElem (by rw [HM.out]; exact hin)⟩
          obtain ⟨bp, op, rfl, hbp, hcp⟩ := HV.out.iint hx
          have kx := (X1.out.cell (p := ⟨bp, op + i, none⟩) hbp).trans hcp
          have SN := Lib.hid (isum_next ws i x hx)
          have AN := Lib.hid (all_take (f := okW) hx)
          have HXM := Lib.hid (List.mem_of_getElem? hx)
          have iN : (i : Int) < (n : Int) := by omega
          generalize isum (ws.take i) = tot at *
          clear hx hcp
          by_cases hok : 0 ≤ x ∧ x ≤ 65536
          · have t1 : decide (x < 0) = false := by simp; omega
            have t2 : ¬ (65536 : Int) < x := by omega
            have AK := Lib.hid (show (ws.take (i + 1)).all okW = true by rw [AN.out, AL.out]; unfold okW; simp; exact hok)
            obtain ⟨ok1, ok2⟩ := hok
            go_wp2
            go_roundg (n - (i + 1))
            case measure => omega
            case rel => exact ⟨i + 1, rfl, by omega, by go_num, by rw [SN.out], AK, rfl⟩
          · have HF := Lib.hid (show R = (0, 1) by
              rw [← HR.out]; unfold errorP
              have : ws.all okW = false := by
                rw [List.all_eq_false]
                exact ⟨x, HXM.out, by unfold okW; simp; omega⟩
              rw [this]; simp)
            obtain rfl := HF.out
            by_cases hx0 : x < 0
            · have t1 : decide (x < 0) = true := by simp; omega
              go_wp2
              exact bodyPost_ret (v := .tuple #[.agg #[.bool false, .slice none 0 0, .slice none 0 0], .int .i64 1]) (by simp [results, Tryz.results41, go_sem, (((hbr.set_ 0 _).set_ 1 _).set_ 2 _).cell]) rfl ⟨_, _, _, _, _, _, _, rfl, (BAD.out _ E1.out B1.out).1, (BAD.out _ E1.out B1.out).2⟩
            · have t1 : decide (x < 0) = false := by simp; omega
              have t2 : (65536 : Int) < x := by omega
              go_wp2
              exact bodyPost_ret (v := .tuple #[.agg #[.bool false, .slice none 0 0, .slice none 0 0], .int .i64 1]) (by simp [results, Tryz.results41, go_sem, (((hbr.set_ 0 _).set_ 1 _).set_ 2 _).cell]) rfl ⟨_, _, _, _, _, _, _, rfl, (BAD.out _ E1.out B1.out).1, (BAD.out _ E1.out B1.out).2⟩
        · obtain rfl : i = n := by omega
          have hlt : ¬ (i : Int) < (i : Int) := by omega
          have htk : ws.take i = ws := List.take_of_length_le (by rw [HM.out]; omega)
          rw [htk] at hb2 AL ⊢
          clear htk
          by_cases htt : 1 ≤ isum ws ∧ isum ws ≤ 65536
          · have HF := Lib.hid (show R = (worstTo qs ws (isum ws) i, 0) by
              rw [← HR.out]; unfold errorP
              rw [HP.out, HM.out, HN.out, AL.out, decide_eq_true htt.1, decide_eq_true htt.2]; simp)
            obtain rfl := HF.out
            have OKW := Lib.hid (show ∀ x ∈ ws, okW x = true from List.all_eq_true.1 AL.out)
            have SZ := Lib.hid (diff_sz HP.out HS.out htt OKW.out)
            have WZ := Lib.hid (worst_sz HP.out HS.out htt OKW.out)
            have SNZ := Lib.hid (show sumQ qs ≠ 0 from fun e => by have := (proper_facts HP.out).2; rw [e] at this; exact Rat.lt_irrefl this)
            have SS := Lib.hid (sizes HP.out HS.out (T := 1) (by decide))
            generalize isum ws = T at *
            have t1 : decide (T < 1) = false := by simp; omega
            have t2 : ¬ (65536 : Int) < T := by omega
            clear hb2 AL HR k0 k1 k2 f0 f1 f2 hbr
            go_wp2_with fail
            refine (ratSum_ok P i c qs HN.out h0 hn2 6464 (by decide) (SS.out 0).1 _ (HQ.out.keep X1.out)).mono ?_
            rintro e w2 ⟨n9, A9, l9, c9, A9', l9', c9', rfl, h9, x2⟩
            obtain ⟨p9, p9'⟩ := h9.lens (SS.out 0).2.1
            have xb := (Ext.refl w2).alloc (.cells #[.bool n9, .slice A9 l9 c9, .slice A9' l9' c9'] 44)
            have EB := Lib.hid ((X1.out.tr x2).tr xb)
            have EW := Lib.hid ((E1.out.tr x2).tr xb)
            have B9 := Lib.hid (And.intro (Blk.new w2 44 #[.bool n9, .slice A9 l9 c9, .slice A9' l9' c9']) ((B1.out.keep x2).keep xb))
            have R9 := Lib.hid (h9.keep xb)
            obtain ⟨wB, hwB⟩ : ∃ wB, wB = w2.alloc (.cells #[.bool n9, .slice A9 l9 c9, .slice A9' l9' c9'] 44) := ⟨_, rfl⟩
            have hszB : wB.heap.size = w2.heap.size + 1 := by rw [hwB]; simp
            rw [← hwB] at EB EW B9 R9
            have L0 := Lib.hid (show Blk (wB.alloc (.cells #[.bool false, .slice none 0 0, .slice none 0 0] 44)) (w2.heap.size + 1) 44 #[.bool false, .slice none 0 0, .slice none 0 0] ∧ RatR (wB.alloc (.cells #[.bool false, .slice none 0 0, .slice none 0 0] 44)) false none 0 0 none 0 0 (worstTo qs ws T 0) ∧ Ext wB (wB.alloc (.cells #[.bool false, .slice none 0 0, .slice none 0 0] 44)) from ⟨by
              have := Blk.new wB 44 #[.bool false, .slice none 0 0, .slice none 0 0]
              rw [hszB] at this; exact this, ratR_zero _, (Ext.refl wB).alloc _⟩)
            have HSZ := Lib.hid hszB
            clear h9 x2 xb hszB
            rw [hwB] at L0
            go_wp2
            rw [← hwB]
            rw [← hwB] at L0
            clear hwB X1 E1 B1
            generalize wB.alloc (.cells #[.bool false, .slice none 0 0, .slice none 0 0] 44) = w3 at *
            generalize w2.heap.size = g9 at *
            generalize hg10 : g9 + 1 = g10 at *
            have hgg : g9 < g10 ∧ wB.heap.size ≤ g10 := by have := HSZ.out; omega
            clear hg10 HSZ
            go_loopg [11, 12, 13, 14, 15, 16, 17, 57] i (fun q _ _ _ _ _ _ _ it wr => ∃ (j : Nat) (ng : Bool) (A : Option Addr) (l d : Nat) (A' : Option Addr) (l' d' : Nat), i - j = q ∧ j ≤ i ∧ it = .int .i64 j ∧ Hid (Blk wr g10 44 #[.bool ng, .slice A l d, .slice A' l' d'] ∧ RatR wr ng A l d A' l' d' (worstTo qs ws T j) ∧ Ext wB wr))
            case atStart => exact ⟨0, false, none, 0, 0, none, 0, 0, rfl, Nat.zero_le _, rfl, L0⟩
            case round =>
              obtain ⟨j, ng, A, l, d, A', l', d', rfl, hj, rfl, L⟩ := hrel
              clear L0
              by_cases hji : j < i
              · obtain ⟨x, hx⟩ : ∃ x, ws[j]? = some x := ⟨_, List.getElem?_eq_getElem (by rw [HM.out]; exact hji)⟩
                obtain ⟨bp, op, hAV, hbp, hcp⟩ := HV.out.iint hx
                subst hAV
                obtain ⟨b1, o1, n1, X1, m1, f1, X1', m1', f1', hPP, hb1, y0, y1, y2, hr1⟩ := (HQ.out.keep (EB.out.tr L.out.2.2)).at_ (get_some (K := qs) (i := j) (by rw [HN.out]; exact hji))
                subst hPP
                have xb1 := (Ext.refl wr).alloc (.cells #[.bool n1, .slice X1 m1 f1, .slice X1' m1' f1'] 44)
                have kx := (((EB.out.tr L.out.2.2).tr xb1).cell (p := ⟨bp, op + j, none⟩) hbp).trans hcp
                have hxo : 0 ≤ x ∧ x ≤ 65536 := by
                  have := OKW.out x (List.mem_of_getElem? hx)
                  unfold okW at this
                  simpa using this
                have HX := Lib.hid (show ws[j]?.getD 0 = x by rw [hx]; rfl)
                have X1B := Lib.hid xb1
                have BX := Lib.hid (Blk.new wr 44 #[.bool n1, .slice X1 m1 f1, .slice X1' m1' f1'])
                have R1 := Lib.hid (hr1.keep xb1)
                obtain ⟨p1, p1'⟩ := hr1.lens (SS.out j).2.2.2.1
                have jN : (j : Int) < (i : Int) := by omega
                have WN := Lib.hid (show worstTo qs ws T (j + 1) = if 0 < cmpQ (absQ (diffQ qs ws T j)) (worstTo qs ws T j) then absQ (diffQ qs ws T j) else worstTo qs ws T j from rfl)
                clear hx hcp hr1 xb1
                go_wp2_with fail
                refine (ratOf_any x T _ (by omega) (by omega) (by omega) (by omega) (by omega)).mono ?_
                rintro e w4 ⟨n4, O1, a1, e1, O1', a1', e1', rfl, h4, x4⟩
                obtain ⟨u4, u4'⟩ := h4.lens (by have := (SZ.out j).1; rw [HX.out] at this; exact this)
                have xb4 := (Ext.refl w4).alloc (.cells #[.bool n4, .slice O1 a1 e1, .slice O1' a1' e1'] 44)
                have X4 := Lib.hid ((X1B.out.tr x4).tr xb4)
                have B4 := Lib.hid (And.intro ((BX.out.keep x4).keep xb4) (And.intro (Blk.new w4 44 #[.bool n4, .slice O1 a1 e1, .slice O1' a1' e1']) ((B9.out.1.keep L.out.2.2).keep X4.out)))
                have R4 := Lib.hid (And.intro ((R1.out.keep x4).keep xb4) (And.intro (h4.keep xb4) ((R9.out.keep L.out.2.2).keep X4.out)))
                have G4 := Lib.hid (show wr.heap.size < w4.heap.size by have h1 := (BX.out.keep x4).lt; omega)
                clear h4 x4 xb4 R1 BX X1B kx y0 y1 y2
                obtain ⟨⟨i0, i1, i2⟩, _⟩ := B4.out.1.three
                obtain ⟨⟨j0, j1, j2⟩, _⟩ := B4.out.2.2.three
                go_wp2_with fail
                refine (ratDiv_any n1 n9 X1 m1 f1 X1' m1' f1' A9 l9 c9 A9' l9' c9' _ (sumQ qs) _ R4.out.1 R4.out.2.2 SNZ.out (by omega) (by omega) (by omega) (by omega)).mono ?_
                rintro e w5 ⟨n5, D1, r1, t4, D1', r1', t4', rfl, h5, x5⟩
                obtain ⟨u5, u5'⟩ := h5.lens (SZ.out j).2.1
                have xb5 := (Ext.refl w5).alloc (.cells #[.bool n5, .slice D1 r1 t4, .slice D1' r1' t4'] 44)
                have X5 := Lib.hid ((X4.out.tr x5).tr xb5)
                have B5 := Lib.hid (And.intro ((B4.out.2.1.keep x5).keep xb5) (Blk.new w5 44 #[.bool n5, .slice D1 r1 t4, .slice D1' r1' t4']))
                have R5 := Lib.hid (And.intro ((R4.out.2.1.keep x5).keep xb5) (h5.keep xb5))
                clear h5 x5 xb5 R4 B4 X4 i0 i1 i2 j0 j1 j2
                obtain ⟨⟨i0, i1, i2⟩, _⟩ := B5.out.1.three
                obtain ⟨⟨j0, j1, j2⟩, _⟩ := B5.out.2.three
                go_wp2_with fail
                refine (ratSub_any n4 n5 O1 a1 e1 O1' a1' e1' D1 r1 t4 D1' r1' t4' _ _ _ R5.out.1 R5.out.2 (by omega) (by omega) (by omega) (by omega)).mono ?_
                rintro e w6 ⟨n6, F1, v1, g1, F1', v1', g1', rfl, h6, x6⟩
                have h6 : RatR w6 n6 F1 v1 g1 F1' v1' g1' (diffQ qs ws T j) := by unfold diffQ; rw [HX.out]; exact h6
                obtain ⟨u6, u6'⟩ := h6.lens (SZ.out j).2.2.1
                obtain ⟨uw, uw'⟩ := L.out.2.1.lens (WZ.out j)
                have xb6 := (Ext.refl w6).alloc (.cells #[.bool n6, .slice F1 v1 g1, .slice F1' v1' g1'] 44)
                have X6 := Lib.hid ((X5.out.tr x6).tr xb6)
                have G6' := Lib.hid (show wr.heap.size ≤ w6.heap.size from (X5.out.tr x6).size)
                have S6 := Lib.hid (And.intro (Blk.new w6 44 #[.bool n6, .slice F1 v1 g1, .slice F1' v1' g1']) (h6.keep xb6))
                clear h6 x6 xb6 R5 B5 X5 i0 i1 i2 j0 j1 j2 HX
                go_wp2_with fail
                refine (sign_any n6 F1 v1 g1 F1' v1' g1' (diffQ qs ws T j) _ S6.out.2).mono ?_
                rintro e w7 ⟨rfl, x7⟩
                have S7 := Lib.hid (And.intro (S6.out.1.keep x7) (S6.out.2.keep x7))
                have L7 := Lib.hid (show Blk w7 g10 44 #[.bool ng, .slice A l d, .slice A' l' d'] ∧ RatR w7 ng A l d A' l' d' (worstTo qs ws T j) ∧ Ext wB w7 from ⟨(L.out.1.keep X6.out).keep x7, (L.out.2.1.keep X6.out).keep x7, (L.out.2.2.tr X6.out).tr x7⟩)
                have hlt10 := L.out.1.lt
                have hne17 : g10 ≠ w6.heap.size := by have := G6'.out; omega
                have hB17 : wB.heap.size ≤ w6.heap.size := by have h1 := G6'.out; have h2 := L.out.2.2.size; omega
                clear x7 S6 X6 L hlt10 G6' G4
                have AB := Lib.hid (show ∀ b, decide (sgnI (diffQ qs ws T j) < 0) = b → absQ (diffQ qs ws T j) = if b then -(diffQ qs ws T j) else diffQ qs ws T j from fun b hb => by
                  unfold absQ
                  cases b
                  · rw [if_neg (of_decide_eq_false hb)]; rfl
                  · rw [if_pos (of_decide_eq_true hb)]; rfl)
                have AZ := Lib.hid (SZ.out j).2.2.2
                go_upto_if 82 with (fail)
                go_cut [84] (fun _ wx => ∃ (nb : Bool), Blk wx w6.heap.size 44 #[.bool nb, .slice F1 v1 g1, .slice F1' v1' g1'] ∧ RatR wx nb F1 v1 g1 F1' v1' g1' (absQ (diffQ qs ws T j)) ∧ Blk wx g10 44 #[.bool ng, .slice A l d, .slice A' l' d'] ∧ RatR wx ng A l d A' l' d' (worstTo qs ws T j) ∧ Ext wB wx)
                case first =>
                  generalize hdd : diffQ qs ws T j = dd at *
                  clear hdd
                  cases hs : decide (sgnI dd < 0)
                  case true =>
                    have HA := Lib.hid (AB.out true hs)
                    obtain ⟨⟨i0, i1, i2⟩, f0, f1, f2⟩ := S7.out.1.three
                    generalize sgnI dd = sg at *
                    clear AB
                    go_wp2_with fail
                    refine (ratNeg_any n6 F1 v1 g1 F1' v1' g1' dd _ S7.out.2).mono ?_
                    rintro e w8 ⟨nb, rfl, h8, x8⟩
                    have hbk := S7.out.1.keep x8
                    obtain ⟨⟨i0, i1, i2⟩, f0, f1, f2⟩ := hbk.three
                    obtain ⟨r1, r2⟩ := rat_set3 (w := wB) h8 hbk hB17 (L7.out.2.2.tr x8)
                    have q3 := ((hbk.set_ 0 (.bool nb)).set_ 1 (.slice F1 v1 g1)).set_ 2 (.slice F1' v1' g1')
                    have q4 := (((L7.out.1.keep x8).far (p := ⟨w6.heap.size, 0, none⟩) hne17 (.bool nb)).far (p := ⟨w6.heap.size, 1, none⟩) hne17 (.slice F1 v1 g1)).far (p := ⟨w6.heap.size, 2, none⟩) hne17 (.slice F1' v1' g1')
                    have q5 := (L7.out.2.1.keep x8).other (set3_grown w8 w6.heap.size (.bool nb) (.slice F1 v1 g1) (.slice F1' v1' g1')) hbk (by decide)
                    have FF := Lib.hid (And.intro q3 (And.intro r1 (And.intro q4 (And.intro q5 r2))))
                    clear q3 q4 q5 r1 r2 h8 x8 hbk S7 L7
                    go_wp2
                    go_meet
                    exact ⟨nb, FF.out.1, by rw [HA.out]; exact FF.out.2.1, FF.out.2.2.1, FF.out.2.2.2.1, FF.out.2.2.2.2⟩
                  case false =>
                    have HA := Lib.hid (AB.out false hs)
                    generalize sgnI dd = sg at *
                    clear AB
                    go_wp2
                    go_meet
                    exact ⟨n6, S7.out.1, by rw [HA.out]; exact S7.out.2, L7.out.1, L7.out.2.1, L7.out.2.2⟩
                case rest =>
                  obtain ⟨nb, c1, c2, c3, c4, c5⟩ := hcut
                  obtain ⟨⟨i0, i1, i2⟩, _⟩ := c1.three
                  obtain ⟨⟨j0, j1, j2⟩, v0, v2, v3⟩ := c3.three
                  have CC := Lib.hid (And.intro c1 (And.intro c2 (And.intro c3 (And.intro c4 c5))))
                  obtain ⟨ua, ua'⟩ := c2.lens AZ.out
                  generalize hdd : absQ (diffQ qs ws T j) = dd at *
                  generalize hww : worstTo qs ws T j = ww at *
                  clear c1 c2 c3 c4 c5 S7 L7 AB AZ hdd hww
                  go_wp2_with fail
                  refine (ratCmp_any nb ng F1 v1 g1 F1' v1' g1' A l d A' l' d' dd ww _ CC.out.2.1 CC.out.2.2.2.1 (by omega) (by omega) (by omega) (by omega)).mono ?_
                  rintro e w9 ⟨rfl, x9⟩
                  have D9 := Lib.hid (And.intro (CC.out.1.keep x9) (And.intro (CC.out.2.1.keep x9) (And.intro (CC.out.2.2.1.keep x9) (And.intro (CC.out.2.2.2.1.keep x9) (CC.out.2.2.2.2.tr x9)))))
                  clear x9 CC i0 i1 i2 j0 j1 j2 v0 v2 v3
                  obtain ⟨⟨i0, i1, i2⟩, _⟩ := D9.out.1.three
                  have hb10 := D9.out.2.2.1
                  obtain ⟨⟨j0, j1, j2⟩, v0, v2, v3⟩ := hb10.three
                  by_cases hc : 0 < cmpQ dd ww
                  · have HW := Lib.hid (show worstTo qs ws T (j + 1) = dd by rw [WN.out, if_pos hc])
                    obtain ⟨r1, r2⟩ := rat_set3 (w := wB) D9.out.2.1 hb10 hgg.2 D9.out.2.2.2.2
                    have q3 := ((hb10.set_ 0 (.bool nb)).set_ 1 (.slice F1 v1 g1)).set_ 2 (.slice F1' v1' g1')
                    have FF := Lib.hid (And.intro q3 (And.intro r1 r2))
                    clear q3 r1 r2 D9 hb10 WN
                    generalize cmpQ dd ww = cc at *
                    go_wp2
                    go_roundg (i - (j + 1))
                    case measure => omega
                    case rel => exact ⟨j + 1, nb, F1, v1, g1, F1', v1', g1', rfl, by omega, by go_num, Lib.hid ⟨FF.out.1, by rw [HW.out]; exact FF.out.2.1, FF.out.2.2⟩⟩
                  · have HW := Lib.hid (show worstTo qs ws T (j + 1) = ww by rw [WN.out, if_neg hc])
                    clear WN
                    generalize cmpQ dd ww = cc at *
                    go_wp2
                    go_roundg (i - (j + 1))
                    case measure => omega
                    case rel => exact ⟨j + 1, ng, A, l, d, A', l', d', rfl, by omega, by go_num, Lib.hid ⟨D9.out.2.2.1, by rw [HW.out]; exact D9.out.2.2.2.1, D9.out.2.2.2.2⟩⟩
              · obtain rfl : j = i := by omega
                have hl2 : ¬ (j : Int) < (j : Int) := by omega
                obtain ⟨⟨z0, z1, z2⟩, _⟩ := L.out.1.three
                have hb4 := B9.out.2.keep L.out.2.2
                obtain ⟨⟨k0, k1, k2⟩, f0, f1, f2⟩ := hb4.three
                have F := Lib.hid (rat_set3 (w := w) L.out.2.1 hb4 (Nat.le_refl _) (EW.out.tr L.out.2.2))
                clear L
                go_wp2
                exact bodyPost_ret (v := .tuple #[.agg #[.bool ng, .slice A l d, .slice A' l' d'], .int .i64 0]) (by simp [results, Tryz.results41, go_sem, (((hb4.set_ 0 _).set_ 1 _).set_ 2 _).cell]) rfl ⟨_, _, _, _, _, _, _, rfl, F.out.1, F.out.2⟩
          · have HF := Lib.hid (show R = (0, 1) by
              rw [← HR.out]; unfold errorP
              by_cases h1 : 1 ≤ isum ws
              · rw [decide_eq_false (show ¬ isum ws ≤ 65536 by omega)]; simp
              · rw [decide_eq_false h1]; simp)
            obtain rfl := HF.out
            generalize isum ws = T at *
            by_cases hx0 : T < 1
            · have t1 : decide (T < 1) = true := by simp; omega
              go_wp2
              exact bodyPost_ret (v := .tuple #[.agg #[.bool false, .slice none 0 0, .slice none 0 0], .int .i64 1]) (by simp [results, Tryz.results41, go_sem, (((hbr.set_ 0 _).set_ 1 _).set_ 2 _).cell]) rfl ⟨_, _, _, _, _, _, _, rfl, (BAD.out _ E1.out B1.out).1, (BAD.out _ E1.out B1.out).2⟩
            · have t1 : decide (T < 1) = false := by simp; omega
              have t2 : (65536 : Int) < T := by omega
              go_wp2
              exact bodyPost_ret (v := .tuple #[.agg #[.bool false, .slice none 0 0, .slice none 0 0], .int .i64 1]) (by simp [results, Tryz.results41, go_sem, (((hbr.set_ 0 _).set_ 1 _).set_ 2 _).cell]) rfl ⟨_, _, _, _, _, _, _, rfl, (BAD.out _ E1.out B1.out).1, (BAD.out _ E1.out B1.out).2⟩
    · have hne : ((m : Int) != (n : Int)) = true := by simp; omega
      have HF := Lib.hid (show R = (0, 1) by rw [← HR.out]; unfold errorP; rw [HM.out, HN.out, decide_eq_false hmn]; simp)
      obtain rfl := HF.out
      have hbr := B1.out
      obtain ⟨⟨k0, k1, k2⟩, f0, f1, f2⟩ := hbr.three
      clear hp
      go_wp2
      exact bodyPost_ret (v := .tuple #[.agg #[.bool false, .slice none 0 0, .slice none 0 0], .int .i64 1]) (by simp [results, Tryz.results41, go_sem, (((hbr.set_ 0 _).set_ 1 _).set_ 2 _).cell]) rfl ⟨_, _, _, _, _, _, _, rfl, (BAD.out _ E1.out B1.out).1, (BAD.out _ E1.out B1.out).2⟩
end Go.Proofs.YtekiomanidimnaaGreatDoor
