/- waypointref46: total, Error: the walks. -/
import Derived.Test.YtekiomanidimnaaGreatDoorRke
import Derived.Test.YtekiomanidimnaaGreatDoorIin
set_option linter.unusedVariables false
set_option linter.unusedSimpArgs false

namespace Go.Proofs.YtekiomanidimnaaGreatDoor
open Go.RowKit
def totI (ws : List Int) : Int := if ws.all okW then isum ws else -1
set_option maxRecDepth 100000 in
set_option maxHeartbeats 2000000 in
theorem rTotal_ok (V : Option Addr) (m cv : Nat) (ws : List Int) (hm : ws.length = m) (hm2 : m ≤ 1000) (w : World) (hv : Rd w V (iints ws)) :
    Calls Tryz.prog 104 #[.slice V m cv] w fun e w' => e = .returned (.int .i64 (totI ws)) ∧ Ext w w' := by
  have HV := Lib.hid (hv)
  have HM := Lib.hid (hm)
  clear hv hm
  generalize hR : totI ws = R
  have HR := Lib.hid (hR)
  clear hR
  go_enter Tryz.func104, Tryz.ntmps104
  go_wp2
  go_loopg [3, 4] m (fun q tt it wr => ∃ i : Nat, m - i = q ∧ i ≤ m ∧ it = .int .i64 i ∧ tt = .int .i64 (isum (ws.take i)) ∧ Hid ((ws.take i).all okW = true) ∧ Hid (Ext w wr))
  case atStart => exact ⟨0, rfl, Nat.zero_le _, rfl, rfl, Lib.hid rfl, Lib.hid (Ext.refl _)⟩
  case round =>
    obtain ⟨i, rfl, hi, rfl, rfl, AL, EX⟩ := hrel
    have hbd := isum_bound _ AL.out
    rw [List.length_take] at hbd
    have hb2 : 0 ≤ isum (ws.take i) ∧ isum (ws.take i) ≤ 65536000 := by omega
    clear hbd
    by_cases hin : i < m
    · obtain ⟨x, hx⟩ : ∃ x, ws[i]? = some x := ⟨_, List.getElem?_eq_getElem (by rw [HM.out]; exact hin)⟩
      obtain ⟨bp, op, rfl, hbp, hcp⟩ := HV.out.iint hx
      have kx := (EX.out.cell (p := ⟨bp, op + i, none⟩) hbp).trans hcp
      have SN := Lib.hid (isum_next ws i x hx)
      have AN := Lib.hid (all_take (f := okW) hx)
      have HXM := Lib.hid (List.mem_of_getElem? hx)
      have iN : (i : Int) < (m : Int) := by omega
      have BAD := Lib.hid (show okW x = false → R = -1 from fun h => by
        rw [← HR.out]; unfold totI
        have : ws.all okW = false := List.all_eq_false.2 ⟨x, HXM.out, by rw [h]; simp⟩
        rw [this]; rfl)
      generalize isum (ws.take i) = tot at *
      clear hx hcp hbp
      by_cases hx0 : x < 0
      · have t1 : decide (x < 0) = true := by simp; omega
        have HF := Lib.hid (BAD.out (by unfold okW; simp; omega))
        obtain rfl := HF.out
        go_wp2
        go_ret
        exact ⟨rfl, EX.out⟩
      · have t1 : decide (x < 0) = false := by simp; omega
        by_cases hx1 : 65536 < x
        · have HF := Lib.hid (BAD.out (by unfold okW; simp; omega))
          obtain rfl := HF.out
          go_wp2
          go_ret
          exact ⟨rfl, EX.out⟩
        · have AK := Lib.hid (show (ws.take (i + 1)).all okW = true by rw [AN.out, AL.out]; unfold okW; simp; omega)
          have x0 : 0 ≤ x := by omega
          have x1 : x ≤ 65536 := by omega
          clear BAD
          go_wp2
          go_roundg (m - (i + 1))
          case measure => omega
          case rel => exact ⟨i + 1, rfl, by omega, by go_num, by rw [SN.out], AK, EX⟩
    · obtain rfl : i = m := by omega
      have htk : ws.take i = ws := List.take_of_length_le (by rw [HM.out]; omega)
      rw [htk] at AL ⊢
      have HF := Lib.hid (show R = isum ws by rw [← HR.out]; unfold totI; rw [AL.out]; rfl)
      obtain rfl := HF.out
      clear htk hb2
      have hlt : ¬ (i : Int) < (i : Int) := by omega
      go_wp2
      go_ret
      exact ⟨rfl, EX.out⟩
/-- What the specification of Error returns. -/
def RErrPost (w : World) (r : Rat × Int) (e : Ending) (w' : World) : Prop :=
  ∃ (neg : Bool) (A : Option Addr) (n c : Nat) (A' : Option Addr) (n' c' : Nat), e = .returned (.tuple #[.agg #[.bool neg, .slice A n c, .slice A' n' c'], .int .i64 r.2]) ∧ RQR w' neg A n c A' n' c' r.1 ∧ Ext w w'
def goodE (qs : List Rat) (ws : List Int) (n m : Nat) : Bool := properP qs && (decide (m = n) && (decide (1 ≤ totI ws) && decide (totI ws ≤ 65536)))
theorem error_good {qs : List Rat} {ws : List Int} {n m : Nat} (hn : qs.length = n) (hm : ws.length = m) : errorP qs ws = if goodE qs ws n m then (worstTo qs ws (isum ws) qs.length, 0) else (0, 1) := by
  unfold errorP goodE totI
  rw [hn, hm]
  cases ws.all okW
  · simp
  · simp
theorem good_facts {qs : List Rat} {ws : List Int} {n m : Nat} (h : goodE qs ws n m = true) : properP qs = true ∧ m = n ∧ (∀ x ∈ ws, okW x = true) ∧ totI ws = isum ws ∧ 1 ≤ isum ws ∧ isum ws ≤ 65536 := by
  unfold goodE at h
  simp only [Bool.and_eq_true, decide_eq_true_eq] at h
  obtain ⟨h1, h2, h3, h4⟩ := h
  unfold totI at h3 h4
  cases ha : ws.all okW
  · rw [ha] at h3; simp at h3
  · rw [ha] at h3 h4
    simp at h3 h4
    exact ⟨h1, h2, List.all_eq_true.1 ha, by unfold totI; rw [ha]; rfl, h3, h4⟩
set_option maxRecDepth 100000 in
set_option maxHeartbeats 8000000 in
theorem rError_ok (P : Option Addr) (n c : Nat) (qs : List Rat) (hn : qs.length = n) (hn2 : n ≤ 1000000) (V : Option Addr) (m cv : Nat) (ws : List Int) (hm : ws.length = m) (hm2 : m ≤ 1000) (w : World) (hq : QLg RQC w P qs) (hsz : ∀ q ∈ qs, SzQ q 100) (hv : Rd w V (iints ws)) :
    Calls Tryz.prog 42 #[.slice P n c, .slice V m cv] w (RErrPost w (errorP qs ws)) := by
  obtain ⟨b0, e0⟩ := boxes1 w #[.bool false, .slice none 0 0, .slice none 0 0] 51
  have HQ := Lib.hid (hq.keep e0)
  have HV := Lib.hid (hv.keep e0)
  have HN := Lib.hid hn
  have HM := Lib.hid hm
  have HS := Lib.hid hsz
  have BB := Lib.hid b0
  have E0 := Lib.hid e0
  have GE := Lib.hid (error_good hn hm)
  generalize hR : errorP qs ws = R at *
  clear hq hn hsz hR hv hm b0 e0
  go_enter Tryz.func42, Tryz.ntmps42
  go_wp2_with fail
  refine (rTotal_ok V m cv ws HM.out hm2 _ HV.out).mono ?_
  rintro e w1 ⟨rfl, x1⟩
  have X1 := Lib.hid x1
  clear x1
  go_upto_region 2 with fail
  go_cut [32] (fun s wx => s = .bool (!goodE qs ws n m) ∧ Ext (w.alloc (.cells #[.bool false, .slice none 0 0, .slice none 0 0] 51)) wx)
  case first =>
    go_wp2_with fail
    refine (rShares_ok P n c qs HN.out hn2 _ (HQ.out.keep X1.out) HS.out).mono ?_
    rintro e w2 ⟨rfl, x2⟩
    have X2 := Lib.hid (X1.out.tr x2)
    have GD := Lib.hid (show goodE qs ws n m = (properP qs && (decide (m = n) && (decide (1 ≤ totI ws) && decide (totI ws ≤ 65536)))) from rfl)
    clear x2
    generalize goodE qs ws n m = G at *
    generalize totI ws = T at *
    cases hp : properP qs
    case false =>
      have HG := Lib.hid (show G = false by rw [GD.out, hp]; rfl)
      obtain rfl := HG.out
      clear GD
      go_wp2
      go_meet
      exact ⟨rfl, X2.out⟩
    case true =>
      by_cases h1 : m = n
      · by_cases h2 : 1 ≤ T
        · by_cases h3 : T ≤ 65536
          · have HG := Lib.hid (show G = true by rw [GD.out, hp, decide_eq_true h1, decide_eq_true h2, decide_eq_true h3]; rfl)
            obtain rfl := HG.out
            subst h1
            clear GD hp
            have t1 : decide (T < 1) = false := by simp; omega
            have t2 : ¬ (65536 : Int) < T := by omega
            go_wp2
            go_meet
            first
            | exact ⟨rfl, X2.out⟩
            | exact ⟨by simp [t2], X2.out⟩
          · have HG := Lib.hid (show G = false by rw [GD.out, decide_eq_false h3]; simp)
            obtain rfl := HG.out
            subst h1
            clear GD hp
            have t1 : decide (T < 1) = false := by simp; omega
            have t2 : (65536 : Int) < T := by omega
            go_wp2
            go_meet
            first
            | exact ⟨rfl, X2.out⟩
            | exact ⟨by simp [t2], X2.out⟩
        · have HG := Lib.hid (show G = false by rw [GD.out, decide_eq_false h2]; simp)
          obtain rfl := HG.out
          subst h1
          clear GD hp
          have t1 : decide (T < 1) = true := by simp; omega
          go_wp2
          go_meet
          exact ⟨rfl, X2.out⟩
      · have HG := Lib.hid (show G = false by rw [GD.out, decide_eq_false h1]; simp)
        obtain rfl := HG.out
        have hne : ((m : Int) != (n : Int)) = true := by simp; omega
        clear GD hp
        go_wp2
        go_meet
        exact ⟨rfl, X2.out⟩
  case rest =>
    obtain ⟨rfl, hx⟩ := hcut
    generalize wc = w2 at *
    have X2 := Lib.hid hx
    have E2 := Lib.hid (E0.out.tr hx)
    have hbr := BB.out.keep hx
    obtain ⟨⟨k0, k1, k2⟩, f0, f1, f2⟩ := hbr.three
    clear hx X1
    cases hg : goodE qs ws n m
    case false =>
      have HF := Lib.hid (show R = (0, 1) by rw [GE.out, hg]; rfl)
      obtain rfl := HF.out
      have FIN := Lib.hid (rq_set3 (w := w) (rqR_nil w2) hbr (Nat.le_refl _) E2.out)
      clear hg GE
      go_wp2
      exact bodyPost_ret (v := .tuple #[.agg #[.bool false, .slice none 0 0, .slice none 0 0], .int .i64 1]) (by simp [results, Tryz.results42, go_sem, (((hbr.set_ 0 _).set_ 1 _).set_ 2 _).cell]) rfl ⟨_, _, _, _, _, _, _, rfl, FIN.out.1, FIN.out.2⟩
    case true =>
      obtain ⟨hp, rfl, okw, htot, hT⟩ := good_facts hg
      have HF := Lib.hid (show R = (worstTo qs ws (isum ws) m, 0) by rw [GE.out, hg, HN.out]; rfl)
      obtain rfl := HF.out
      have h64 : m ≤ 64 := by have := (proper_pos hp).2; rw [HN.out] at this; exact this
      have SZ := Lib.hid (diff_sz hp HS.out hT okw)
      have WZ := Lib.hid (worst_sz hp HS.out hT okw)
      have SNZ := Lib.hid (show sumQ qs ≠ 0 from fun e => by have := (proper_facts hp).2; rw [e] at this; exact Rat.lt_irrefl this)
      have SS := Lib.hid (sizes hp HS.out (T := 1) (by decide))
      have B1 := Lib.hid hbr
      have OKW := Lib.hid okw
      rw [htot]
      generalize isum ws = T at *
      clear hg GE hp okw hbr htot k0 k1 k2 f0 f1 f2
      go_wp2_with fail
      refine (rqSum_ok P m c qs HN.out hn2 6464 (by decide) (SS.out 0).1 _ (HQ.out.keep X2.out)).mono ?_
      rintro e w3 ⟨n9, A9, l9, c9, A9', l9', c9', rfl, h9, x3⟩
      obtain ⟨p9, p9'⟩ := h9.lensB (SS.out 0).2.1
      have xb := (Ext.refl w3).alloc (.cells #[.bool n9, .slice A9 l9 c9, .slice A9' l9' c9'] 51)
      have EB := Lib.hid ((X2.out.tr x3).tr xb)
      have EW := Lib.hid ((E2.out.tr x3).tr xb)
      have B9 := Lib.hid (And.intro (Blk.new w3 51 #[.bool n9, .slice A9 l9 c9, .slice A9' l9' c9']) ((B1.out.keep x3).keep xb))
      have R9 := Lib.hid (h9.keep xb)
      obtain ⟨wB, hwB⟩ : ∃ wB, wB = w3.alloc (.cells #[.bool n9, .slice A9 l9 c9, .slice A9' l9' c9'] 51) := ⟨_, rfl⟩
      have hszB : wB.heap.size = w3.heap.size + 1 := by rw [hwB]; simp
      rw [← hwB] at EB EW B9 R9
      have L0 := Lib.hid (show Blk (wB.alloc (.cells #[.bool false, .slice none 0 0, .slice none 0 0] 51)) (w3.heap.size + 1) 51 #[.bool false, .slice none 0 0, .slice none 0 0] ∧ RQR (wB.alloc (.cells #[.bool false, .slice none 0 0, .slice none 0 0] 51)) false none 0 0 none 0 0 (worstTo qs ws T 0) ∧ Ext wB (wB.alloc (.cells #[.bool false, .slice none 0 0, .slice none 0 0] 51)) from ⟨by
        have := Blk.new wB 51 #[.bool false, .slice none 0 0, .slice none 0 0]
        rw [hszB] at this; exact this, rqR_nil _, (Ext.refl wB).alloc _⟩)
      have HSZ := Lib.hid hszB
      clear h9 x3 xb hszB
      rw [hwB] at L0
      go_wp2
      rw [← hwB]
      rw [← hwB] at L0
      clear hwB X2 E2 B1
      generalize wB.alloc (.cells #[.bool false, .slice none 0 0, .slice none 0 0] 51) = w4 at *
      generalize w3.heap.size = g9 at *
      generalize hg10 : g9 + 1 = g10 at *
      have hgg : g9 < g10 ∧ wB.heap.size ≤ g10 ∧ g9 < wB.heap.size := by have := HSZ.out; omega
      clear hg10 HSZ
      go_loopg [9, 10, 11, 12] m (fun q it _ _ _ wr => ∃ (j : Nat) (ng : Bool) (A : Option Addr) (l d : Nat) (A' : Option Addr) (l' d' : Nat), m - j = q ∧ j ≤ m ∧ it = .int .i64 j ∧ Hid (Blk wr g10 51 #[.bool ng, .slice A l d, .slice A' l' d'] ∧ RQR wr ng A l d A' l' d' (worstTo qs ws T j) ∧ Ext wB wr))
      case atStart => exact ⟨0, false, none, 0, 0, none, 0, 0, rfl, Nat.zero_le _, rfl, L0⟩
      case round =>
        obtain ⟨j, ng, A, l, d, A', l', d', rfl, hj, rfl, L⟩ := hrel
        clear L0
        by_cases hji : j < m
        · obtain ⟨x, hx⟩ : ∃ x, ws[j]? = some x := ⟨_, List.getElem?_eq_getElem (by rw [HM.out]; exact hji)⟩
          obtain ⟨bp, op, hAV, hbp, hcp⟩ := HV.out.iint hx
          subst hAV
          have HX := Lib.hid (show (ws[j]?.getD 0) = x by rw [hx]; rfl)
          have hxo : 0 ≤ x ∧ x ≤ 65536 := by
            have := OKW.out x (List.mem_of_getElem? hx)
            unfold okW at this
            simpa using this
          obtain ⟨bq, oq, nx, X1, m1, e1, X2, m2, e2, hPP, hbq, y0, y1, y2, hQ'⟩ := HQ.out.at_ (get_some (K := qs) (i := j) (by rw [HN.out]; exact hji))
          subst hPP
          obtain ⟨lx1, lx2⟩ := hQ'.lensB (SS.out j).2.2.2.1
          obtain ⟨lw1, lw2⟩ := L.out.2.1.lensB (WZ.out j)
          have jN : (j : Int) < (m : Int) := by omega
          have h9b := B9.out.1
          have K9 := Lib.hid (show ∀ W, Ext wr W → (W.cell? ⟨bq, oq + j * 3, none⟩ = some (.bool nx) ∧ W.cell? ⟨bq, oq + j * 3 + 1, none⟩ = some (.slice X1 m1 e1) ∧ W.cell? ⟨bq, oq + j * 3 + 2, none⟩ = some (.slice X2 m2 e2) ∧ W.cell? ⟨g9, 0, none⟩ = some (.bool n9) ∧ W.cell? ⟨g9, 1, none⟩ = some (.slice A9 l9 c9) ∧ W.cell? ⟨g9, 2, none⟩ = some (.slice A9' l9' c9')) from fun W hW => by
            obtain ⟨⟨z0, z1, z2⟩, _⟩ := ((B9.out.1.keep L.out.2.2).keep hW).three
            have hE := EB.out.tr (L.out.2.2.tr hW)
            exact ⟨(hE.cell (p := ⟨bq, oq + j * 3, none⟩) hbq).trans y0, (hE.cell (p := ⟨bq, oq + j * 3 + 1, none⟩) hbq).trans y1, (hE.cell (p := ⟨bq, oq + j * 3 + 2, none⟩) hbq).trans y2, z0, z1, z2⟩)
          have KX := Lib.hid (show ∀ W, Ext wr W → W.cell? ⟨bp, op + j, none⟩ = some (.int .i64 x) from fun W hW => ((EB.out.tr (L.out.2.2.tr hW)).cell (p := ⟨bp, op + j, none⟩) hbp).trans hcp)
          have RS := Lib.hid (And.intro (hQ'.keep (EB.out.tr L.out.2.2)) (R9.out.keep L.out.2.2))
          have gq : bq < wr.heap.size := Nat.lt_of_lt_of_le hbq (EB.out.tr L.out.2.2).size
          have gp : bp < wr.heap.size := Nat.lt_of_lt_of_le hbp (EB.out.tr L.out.2.2).size
          have g9r : g9 < wr.heap.size := Nat.lt_of_lt_of_le hgg.2.2 L.out.2.2.size
          have g10r : g10 < wr.heap.size := L.out.1.lt
          have WN := Lib.hid (worst_max qs ws T j)
          have DZ := Lib.hid (SZ.out j)
          have DD := Lib.hid (show diffQ qs ws T j = ofQ x T - (qs[j]?.getD 0) / sumQ qs by unfold diffQ; rw [HX.out])
          clear hx hcp hQ' y0 y1 y2 hbq hbp h9b
          go_upto_region 9 with fail
          go_cut [10, 11] (fun s _ wx => ∃ (g : Nat) (n6 : Bool) (A6 : Option Addr) (l6 c6 : Nat) (A6' : Option Addr) (l6' c6' : Nat), s = .pointer (some ⟨g, 0, none⟩) ∧ wr.heap.size ≤ g ∧ Hid (Blk wx g 51 #[.bool n6, .slice A6 l6 c6, .slice A6' l6' c6']) ∧ Hid (RQR wx n6 A6 l6 c6 A6' l6' c6' ((qs[j]?.getD 0) / sumQ qs)) ∧ Hid (Ext wr wx))
          case first =>
            generalize hqj : qs[j]?.getD 0 = qj at *
            clear hqj
            have XD := Lib.hid (show Ext wr wr.drew from (Ext.refl wr).drewN 1)
            have XA := Lib.hid (show Ext wr (wr.alloc (.cells #[.bool false, .slice none 0 0, .slice none 0 0] 51)).drew from ((Ext.refl wr).alloc _).drewN 1)
            have BN := Lib.hid (show Blk (wr.alloc (.cells #[.bool false, .slice none 0 0, .slice none 0 0] 51)).drew wr.heap.size 51 #[.bool false, .slice none 0 0, .slice none 0 0] from Blk.new wr _ _)
            obtain ⟨i0, i1, i2, j0, j1, j2⟩ := K9.out _ XD.out
            obtain ⟨y0, y1, y2, z0, z1, z2⟩ := K9.out _ XA.out
            go_wp2
            go_region_held3 (fun w' => w'.cell? ⟨bq, oq + j * 3, none⟩ = some (.bool nx) ∧ w'.cell? ⟨bq, oq + j * 3 + 1, none⟩ = some (.slice X1 m1 e1) ∧ w'.cell? ⟨bq, oq + j * 3 + 2, none⟩ = some (.slice X2 m2 e2) ∧ w'.cell? ⟨g9, 0, none⟩ = some (.bool n9) ∧ w'.cell? ⟨g9, 1, none⟩ = some (.slice A9 l9 c9) ∧ w'.cell? ⟨g9, 2, none⟩ = some (.slice A9' l9' c9'))
              (first | with_reducible exact ⟨i0, i1, i2, j0, j1, j2⟩ | with_reducible exact ⟨y0, y1, y2, z0, z1, z2⟩ | with_reducible exact ⟨cell_alloc_of i0 _, cell_alloc_of i1 _, cell_alloc_of i2 _, cell_alloc_of j0 _, cell_alloc_of j1 _, cell_alloc_of j2 _⟩ | exact ⟨cell_set_of (cell_set_of (cell_set_of i0 fT) fT) fT, cell_set_of (cell_set_of (cell_set_of i1 fT) fT) fT, cell_set_of (cell_set_of (cell_set_of i2 fT) fT) fT, cell_set_of (cell_set_of (cell_set_of j0 fP) fP) fP, cell_set_of (cell_set_of (cell_set_of j1 fP) fP) fP, cell_set_of (cell_set_of (cell_set_of j2 fP) fP) fP⟩ | fail)
              (first
              | (go_at_call 97
                 first
                 | (with_reducible refine (rqDiv_ok nx n9 X1 m1 e1 X2 m2 e2 A9 l9 c9 A9' l9' c9' qj (sumQ qs) _ (RS.out.1.keep (by with_reducible exact XD.out)) (RS.out.2.keep (by with_reducible exact XD.out)) SNZ.out (by omega) (by omega) (by omega) (by omega)).mono ?_
                    rintro e w8 ⟨n8, A8, l8, c8, A8', l8', c8', rfl, h8, x8⟩
                    have E8 := Lib.hid (XD.out.tr x8))
                 | (with_reducible refine (rqDiv_ok nx n9 X1 m1 e1 X2 m2 e2 A9 l9 c9 A9' l9' c9' qj (sumQ qs) _ (RS.out.1.keep (by with_reducible exact XA.out)) (RS.out.2.keep (by with_reducible exact XA.out)) SNZ.out (by omega) (by omega) (by omega) (by omega)).mono ?_
                    rintro e w8 ⟨n8, A8, l8, c8, A8', l8', c8', rfl, h8, x8⟩
                    have E8 := Lib.hid (XA.out.tr x8)
                    have BM := Lib.hid (BN.out.keep x8)
                    obtain ⟨⟨v0, v1, v2⟩, r0, r1, r2⟩ := BM.out.three
                    have gg : wr.heap.size ≤ wr.heap.size := Nat.le_refl _
                    have fT : bq ≠ wr.heap.size := Nat.ne_of_lt gq
                    have fP : g9 ≠ wr.heap.size := Nat.ne_of_lt g9r)
                 have R8 := Lib.hid h8
                 obtain ⟨i0, i1, i2, j0, j1, j2⟩ := K9.out _ E8.out
                 clear x8 h8)
              | fail)
            all_goals
              go_wp2
              go_meet
              first
              | (obtain ⟨q1, q2⟩ := rq_set3 (w := wr) R8.out BM.out gg E8.out
                 exact ⟨_, n8, A8, l8, c8, A8', l8', c8', rfl, gg, Lib.hid (((BM.out.set_ 0 _).set_ 1 _).set_ 2 _), Lib.hid q1, Lib.hid q2⟩)
              | (have xb := (Ext.refl w8).alloc (.cells #[.bool n8, .slice A8 l8 c8, .slice A8' l8' c8'] 51)
                 exact ⟨w8.heap.size, n8, A8, l8, c8, A8', l8', c8', rfl, E8.out.size, Lib.hid (Blk.new w8 _ _), Lib.hid (R8.out.keep xb), Lib.hid (E8.out.tr xb)⟩)
          case rest =>
            obtain ⟨gs, n6, A6, l6, c6, A6', l6', c6', rfl, hgs, BS, RX, EX⟩ := hcut
            generalize wc = w5 at *
            obtain ⟨s1, s2⟩ := RX.out.lensB DZ.out.2.1
            have K10 := Lib.hid (show ∀ W, Ext w5 W → (W.cell? ⟨gs, 0, none⟩ = some (.bool n6) ∧ W.cell? ⟨gs, 1, none⟩ = some (.slice A6 l6 c6) ∧ W.cell? ⟨gs, 2, none⟩ = some (.slice A6' l6' c6') ∧ W.cell? ⟨bp, op + j, none⟩ = some (.int .i64 x)) from fun W hW => by
              obtain ⟨⟨z0, z1, z2⟩, _⟩ := (BS.out.keep hW).three
              exact ⟨z0, z1, z2, KX.out _ (EX.out.tr hW)⟩)
            have gs5 : gs < w5.heap.size := BS.out.lt
            have gp5 : bp < w5.heap.size := Nat.lt_of_lt_of_le gp EX.out.size
            have hr5 : wr.heap.size ≤ w5.heap.size := EX.out.size
            clear K9 KX RS
            go_upto_region 10 with fail
            go_cut [12] (fun s wx => ∃ (g : Nat) (n6 : Bool) (A6 : Option Addr) (l6 c6 : Nat) (A6' : Option Addr) (l6' c6' : Nat), s = .pointer (some ⟨g, 0, none⟩) ∧ w5.heap.size ≤ g ∧ Hid (Blk wx g 51 #[.bool n6, .slice A6 l6 c6, .slice A6' l6' c6']) ∧ Hid (RQR wx n6 A6 l6 c6 A6' l6' c6' (diffQ qs ws T j)) ∧ Hid (Ext w5 wx))
            case first =>
              generalize diffQ qs ws T j = dj at *
              generalize qs[j]?.getD 0 / sumQ qs = rj at *
              have XD := Lib.hid (show Ext w5 w5.drew from (Ext.refl w5).drewN 1)
              have XA := Lib.hid (show Ext w5 (w5.alloc (.cells #[.bool false, .slice none 0 0, .slice none 0 0] 51)).drew from ((Ext.refl w5).alloc _).drewN 1)
              have BN := Lib.hid (show Blk (w5.alloc (.cells #[.bool false, .slice none 0 0, .slice none 0 0] 51)).drew w5.heap.size 51 #[.bool false, .slice none 0 0, .slice none 0 0] from Blk.new w5 _ _)
              obtain ⟨i0, i1, i2, i3⟩ := K10.out _ XD.out
              obtain ⟨y0, y1, y2, y3⟩ := K10.out _ XA.out
              go_wp2
              go_region_held3 (fun w' => w'.cell? ⟨gs, 0, none⟩ = some (.bool n6) ∧ w'.cell? ⟨gs, 1, none⟩ = some (.slice A6 l6 c6) ∧ w'.cell? ⟨gs, 2, none⟩ = some (.slice A6' l6' c6') ∧ w'.cell? ⟨bp, op + j, none⟩ = some (.int .i64 x))
                (first | with_reducible exact ⟨i0, i1, i2, i3⟩ | with_reducible exact ⟨y0, y1, y2, y3⟩ | with_reducible exact ⟨cell_alloc_of i0 _, cell_alloc_of i1 _, cell_alloc_of i2 _, cell_alloc_of i3 _⟩ | exact ⟨cell_set_of (cell_set_of (cell_set_of i0 fT) fT) fT, cell_set_of (cell_set_of (cell_set_of i1 fT) fT) fT, cell_set_of (cell_set_of (cell_set_of i2 fT) fT) fT, cell_set_of (cell_set_of (cell_set_of i3 fP) fP) fP⟩ | fail)
                (first
                | (go_at_call 60
                   with_reducible refine (rOf_ok x T _ (by omega) (by omega) (by omega) (by omega) (by omega)).mono ?_
                   rintro e w7 ⟨n7, A7, l7, c7, A7', l7', c7', rfl, h7, x7⟩
                   obtain ⟨s3, s4⟩ := h7.lensB (show SzQ (ofQ x T) 1 by have := DZ.out.1; rw [HX.out] at this; exact this)
                   first
                   | (have E7 := Lib.hid (show Ext w5 w7 by with_reducible exact XD.out.tr x7))
                   | (have E7 := Lib.hid (show Ext w5 w7 by with_reducible exact XA.out.tr x7)
                      have BM := Lib.hid (BN.out.keep x7)
                      obtain ⟨⟨v0, v1, v2⟩, r0, r1, r2⟩ := BM.out.three
                      have gg : w5.heap.size ≤ w5.heap.size := Nat.le_refl _
                      have fT : gs ≠ w5.heap.size := Nat.ne_of_lt gs5
                      have fP : bp ≠ w5.heap.size := Nat.ne_of_lt gp5)
                   have R7 := Lib.hid h7
                   obtain ⟨i0, i1, i2, i3⟩ := K10.out _ E7.out
                   clear x7 h7)
                | (go_at_call 102
                   first
                   | (with_reducible refine (rqSub_ok n7 n6 A7 l7 c7 A7' l7' c7' A6 l6 c6 A6' l6' c6' (ofQ x T) rj _ R7.out (RX.out.keep (by with_reducible exact E7.out)) (by omega) (by omega) (by omega) (by omega)).mono ?_
                      rintro e w8 ⟨n8, A8, l8, c8, A8', l8', c8', rfl, h8, x8⟩
                      have E8 := Lib.hid (E7.out.tr x8)
                      first
                      | (have BM := Lib.hid (BM.out.keep x8)
                         obtain ⟨⟨v0, v1, v2⟩, r0, r1, r2⟩ := BM.out.three)
                      | skip)
                   | (have xz := (Ext.refl w7).alloc (.cells #[.bool false, .slice none 0 0, .slice none 0 0] 51)
                      with_reducible refine (rqSub_ok n7 n6 A7 l7 c7 A7' l7' c7' A6 l6 c6 A6' l6' c6' (ofQ x T) rj _ (R7.out.keep xz) (RX.out.keep (by with_reducible exact E7.out.tr xz)) (by omega) (by omega) (by omega) (by omega)).mono ?_
                      rintro e w8 ⟨n8, A8, l8, c8, A8', l8', c8', rfl, h8, x8⟩
                      have E8 := Lib.hid ((E7.out.tr xz).tr x8)
                      have BM := Lib.hid ((Blk.new w7 51 #[.bool false, .slice none 0 0, .slice none 0 0]).keep x8)
                      obtain ⟨⟨v0, v1, v2⟩, r0, r1, r2⟩ := BM.out.three
                      have gg : w5.heap.size ≤ w7.heap.size := E7.out.size
                      have fT : gs ≠ w7.heap.size := Nat.ne_of_lt (Nat.lt_of_lt_of_le gs5 E7.out.size)
                      have fP : bp ≠ w7.heap.size := Nat.ne_of_lt (Nat.lt_of_lt_of_le gp5 E7.out.size)
                      clear xz)
                   rw [← DD.out] at h8
                   have R8 := Lib.hid h8
                   obtain ⟨i0, i1, i2, i3⟩ := K10.out _ E8.out
                   clear x8 h8)
                | fail)
              all_goals
                go_wp2
                go_meet
                first
                | (obtain ⟨q1, q2⟩ := rq_set3 (w := w5) R8.out BM.out gg E8.out
                   exact ⟨_, n8, A8, l8, c8, A8', l8', c8', rfl, gg, Lib.hid (((BM.out.set_ 0 _).set_ 1 _).set_ 2 _), Lib.hid q1, Lib.hid q2⟩)
                | (have xb := (Ext.refl w8).alloc (.cells #[.bool n8, .slice A8 l8 c8, .slice A8' l8' c8'] 51)
                   exact ⟨w8.heap.size, n8, A8, l8, c8, A8', l8', c8', rfl, E8.out.size, Lib.hid (Blk.new w8 _ _), Lib.hid (R8.out.keep xb), Lib.hid (E8.out.tr xb)⟩)
            case rest =>
              obtain ⟨gd, n7, A7, l7, c7, A7', l7', c7', rfl, hgd, BD, RD, EY⟩ := hcut
              generalize wc = w6 at *
              obtain ⟨d1, d2⟩ := RD.out.lensB DZ.out.2.2.1
              have AZ := Lib.hid (show SzQ (maxQ (diffQ qs ws T j) (-(diffQ qs ws T j))) 6567 by rw [max_abs]; exact DZ.out.2.2.2)
              have NZ := Lib.hid (show SzQ (-(diffQ qs ws T j)) 6567 from DZ.out.2.2.1.neg_)
              generalize hdj : diffQ qs ws T j = dj at *
              generalize hwj : worstTo qs ws T j = wj at *
              clear hdj hwj K10 DD
              have XD := Lib.hid (show Ext w6 w6.drew from (Ext.refl w6).drewN 1)
              have BO := Lib.hid (((L.out.1.keep EX.out).keep EY.out).keep XD.out)
              have RO := Lib.hid (((L.out.2.1.keep EX.out).keep EY.out).keep XD.out)
              have EO := Lib.hid (((L.out.2.2.tr EX.out).tr EY.out).tr XD.out)
              have BD0 := Lib.hid (BD.out.keep XD.out)
              have RD0 := Lib.hid (RD.out.keep XD.out)
              clear L BD RD EX EY RX BS
              obtain ⟨⟨o0, o1, o2⟩, v0, v1, v2⟩ := BO.out.three
              obtain ⟨⟨u0, u1, u2⟩, _⟩ := BD0.out.three
              go_wp2
              go_region_with ((
                first
                | (go_at_call 106
                   with_reducible refine (rqNeg_ok n7 A7 l7 c7 A7' l7' c7' dj _ RD0.out (by omega) (by omega)).mono ?_
                   rintro e w7 ⟨n8, A8, l8, c8, A8', l8', c8', rfl, h8, x8⟩
                   obtain ⟨t1, t2⟩ := h8.lensB NZ.out
                   have BO7 := Lib.hid (BO.out.keep x8)
                   have RO7 := Lib.hid (RO.out.keep x8)
                   have EO7 := Lib.hid (EO.out.tr x8)
                   have BD7 := Lib.hid (BD0.out.keep x8)
                   have RD7 := Lib.hid (And.intro (RD0.out.keep x8) h8)
                   obtain ⟨⟨o0, o1, o2⟩, v0, v1, v2⟩ := BO7.out.three
                   obtain ⟨⟨u0, u1, u2⟩, _⟩ := BD7.out.three
                   clear x8 h8)
                | (go_at_call 105
                   with_reducible refine (rqMax_ok n7 n8 A7 l7 c7 A7' l7' c7' A8 l8 c8 A8' l8' c8' dj (-dj) _ RD7.out.1 RD7.out.2 (by omega) (by omega) (by omega) (by omega)).mono ?_
                   rintro e w8 ⟨n9', A10, l10, c10, A10', l10', c10', rfl, h9, x9⟩
                   obtain ⟨t3, t4⟩ := h9.lensB AZ.out
                   have BO8 := Lib.hid (BO7.out.keep x9)
                   have RO8 := Lib.hid (And.intro (RO7.out.keep x9) h9)
                   have EO8 := Lib.hid (EO7.out.tr x9)
                   have BD8 := Lib.hid (BD7.out.keep x9)
                   obtain ⟨⟨o0, o1, o2⟩, v0, v1, v2⟩ := BO8.out.three
                   obtain ⟨⟨u0, u1, u2⟩, _⟩ := BD8.out.three
                   clear x9 h9)
                | (go_at_call 105
                   with_reducible refine (rqMax_ok ng n9' A l d A' l' d' A10 l10 c10 A10' l10' c10' wj (maxQ dj (-dj)) _ RO8.out.1 RO8.out.2 (by omega) (by omega) (by omega) (by omega)).mono ?_
                   rintro e w9 ⟨n11, A11, l11, c11, A11', l11', c11', rfl, h11, x11⟩
                   rw [← WN.out] at h11
                   have BO9 := Lib.hid (BO8.out.keep x11)
                   have RO9 := Lib.hid h11
                   have EO9 := Lib.hid (EO8.out.tr x11)
                   obtain ⟨⟨o0, o1, o2⟩, v0, v1, v2⟩ := BO9.out.three
                   clear x11 h11)
                | fail))
              all_goals
                obtain ⟨r1, r2⟩ := rq_set3 (w := wB) RO9.out BO9.out hgg.2.1 EO9.out
                have FF := Lib.hid (And.intro (((BO9.out.set_ 0 (.bool n11)).set_ 1 (.slice A11 l11 c11)).set_ 2 (.slice A11' l11' c11')) (And.intro r1 r2))
                clear r1 r2
                go_wp2
                go_roundg (m - (j + 1))
                case measure => omega
                case rel => exact ⟨j + 1, n11, A11, l11, c11, A11', l11', c11', rfl, by omega, by go_num, Lib.hid ⟨FF.out.1, FF.out.2.1, FF.out.2.2⟩⟩
        · obtain rfl : j = m := by omega
          have hl2 : ¬ (j : Int) < (j : Int) := by omega
          obtain ⟨⟨z0, z1, z2⟩, _⟩ := L.out.1.three
          have hb4 := B9.out.2.keep L.out.2.2
          obtain ⟨⟨k0, k1, k2⟩, f0, f1, f2⟩ := hb4.three
          have F := Lib.hid (rq_set3 (w := w) L.out.2.1 hb4 (Nat.le_refl _) (EW.out.tr L.out.2.2))
          clear L
          go_wp2
          exact bodyPost_ret (v := .tuple #[.agg #[.bool ng, .slice A l d, .slice A' l' d'], .int .i64 0]) (by simp [results, Tryz.results42, go_sem, (((hb4.set_ 0 _).set_ 1 _).set_ 2 _).cell]) rfl ⟨_, _, _, _, _, _, _, rfl, F.out.1, F.out.2⟩
end Go.Proofs.YtekiomanidimnaaGreatDoor
