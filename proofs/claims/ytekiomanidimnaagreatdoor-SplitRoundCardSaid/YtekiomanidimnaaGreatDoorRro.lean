/- waypointref46.Round: the walk. -/
import Derived.Test.YtekiomanidimnaaGreatDoorRroA
import Derived.Test.YtekiomanidimnaaGreatDoorBndP
set_option linter.unusedVariables false
set_option linter.unusedSimpArgs false

namespace Go.Proofs.YtekiomanidimnaaGreatDoor
open Go.RowKit
theorem RQR.pos {w : World} {neg : Bool} {A : Option Addr} {n c : Nat} {A' : Option Addr} {n' c' : Nat} {q : Rat} (h : RQR w neg A n c A' n' c' q) (h0 : 0 ≤ q) : neg = false := by
  rw [h.1, decide_eq_false_iff_not]
  have := Rat.num_nonneg.2 h0
  omega
theorem own_lt {w : World} {B n s : Nat} {e : TypeId} {v : Value} {xs : List Value} (h : w.ownsRow B e s v n xs) : ∀ k, v.ownBlock = some k → k < w.heap.size := fun k hk => by
  obtain ⟨cs, fr, h1⟩ := own_heap h k hk
  exact lt_of_get h1
theorem own_nrow {w : World} {B n : Nat} {v : Value} {l : List Nat} (h : w.ownsRow B 3 1 v n (ints l)) (h0 : 0 < n) : ∃ g c, v = .slice (some ⟨g, 0, none⟩) n c ∧ n ≤ c ∧ B ≤ g ∧ NRow w g l := by
  have hl := h.1
  rw [ints_length] at hl
  rcases h.2 with ⟨h3, h4⟩ | ⟨g', cap, cur, h3, h4, h5, h6, h7, h8, h9⟩
  · omega
  · refine ⟨g', cap, h3, h6, h4, cur, h5, fun i hi => ?_⟩
    have h10 : (cur.toList.take (n * 1))[i]? = (ints l)[i]? := by rw [h9]
    rw [List.getElem?_take, if_pos (by omega)] at h10
    rw [← Array.getElem?_toList, h10]
    unfold ints
    rw [List.getElem?_map, atL_get hi]
    rfl
set_option maxRecDepth 100000 in
set_option maxHeartbeats 8000000 in
theorem rRound_ok (P : Option Addr) (n c : Nat) (qs : List Rat) (hn : qs.length = n) (hn2 : n ≤ 1000000) (total : Int) (w : World) (hq : QLg RQC w P qs) (hsz : ∀ q ∈ qs, SzQ q 100) :
    Calls Tryz.prog 37 #[.slice P n c, .int .i64 total] w (RoundPost w (roundP qs total)) := by
  have HQ := Lib.hid hq
  have HN := Lib.hid hn
  have HS := Lib.hid hsz
  generalize hR : roundP qs total = R
  have HR := Lib.hid hR
  clear hq hn hsz hR
  go_enter Tryz.func37, Tryz.ntmps37
  go_wp2_with fail
  refine (rShares_ok P n c qs HN.out hn2 _ HQ.out HS.out).mono ?_
  rintro e w1 ⟨rfl, x1⟩
  have E1 := Lib.hid x1
  clear x1
  cases hp : properP qs
  case false =>
    have HF := Lib.hid (show R = ([], 1) by rw [← HR.out]; unfold roundP; rw [hp]; rfl)
    obtain rfl := HF.out
    clear hp
    go_wp2
    exact bodyPost_ret (v := .tuple #[.slice none 0 0, .int .i64 1]) (by simp [results, Tryz.results37, go_sem]) rfl (⟨none, 0, rfl, Nat.le_refl _, RdT.nil _ _ _, E1.out⟩)
  case true =>
    by_cases ht1 : total < 1
    · have HF := Lib.hid (show R = ([], 1) by rw [← HR.out]; unfold roundP; rw [decide_eq_false (show ¬ (1 : Int) ≤ total by omega)]; simp)
      obtain rfl := HF.out
      clear hp
      go_wp2
      exact bodyPost_ret (v := .tuple #[.slice none 0 0, .int .i64 1]) (by simp [results, Tryz.results37, go_sem]) rfl (⟨none, 0, rfl, Nat.le_refl _, RdT.nil _ _ _, E1.out⟩)
    · by_cases ht2 : 65536 < total
      · have HF := Lib.hid (show R = ([], 1) by rw [← HR.out]; unfold roundP; rw [decide_eq_false (show ¬ total ≤ (65536 : Int) by omega)]; simp)
        obtain rfl := HF.out
        clear hp
        go_wp2
        exact bodyPost_ret (v := .tuple #[.slice none 0 0, .int .i64 1]) (by simp [results, Tryz.results37, go_sem]) rfl (⟨none, 0, rfl, Nat.le_refl _, RdT.nil _ _ _, E1.out⟩)
      · obtain ⟨T, rfl⟩ : ∃ T : Nat, total = (T : Int) := ⟨total.toNat, by omega⟩
        have HF := Lib.hid (show R = ((List.range n).map (weightQ qs T), 0) by rw [← HR.out]; unfold roundP; rw [hp, decide_eq_true (show (1 : Int) ≤ (T : Int) by omega), decide_eq_true (show (T : Int) ≤ (65536 : Int) by omega), HN.out, Int.toNat_natCast]; rfl)
        obtain rfl := HF.out
        have hT1 : 1 ≤ T ∧ T ≤ 65536 := by omega
        obtain ⟨h0, h64⟩ := proper_pos hp
        rw [HN.out] at h0 h64
        have HP := Lib.hid hp
        have SZ := Lib.hid (sizes hp HS.out hT1.2)
        have SNZ := Lib.hid (show sumQ qs ≠ 0 from fun e => by have := (proper_facts hp).2; rw [e] at this; exact Rat.lt_irrefl this)
        clear hp HR
        go_wp2_with fail
        refine (rqSum_ok P n c qs HN.out hn2 6464 (by decide) (SZ.out 0).1 _ (HQ.out.keep E1.out)).mono ?_
        rintro e w3 ⟨n9, A9, l9, c9, A9', l9', c9', rfl, h9, x3⟩
        obtain ⟨p9, p9'⟩ := h9.lensB (SZ.out 0).2.1
        have xb := (Ext.refl w3).alloc (.cells #[.bool n9, .slice A9 l9 c9, .slice A9' l9' c9'] 51)
        have EW := Lib.hid ((E1.out.tr x3).tr xb)
        have B9 := Lib.hid (Blk.new w3 51 #[.bool n9, .slice A9 l9 c9, .slice A9' l9' c9'])
        have R9 := Lib.hid (h9.keep xb)
        clear h9 x3 xb E1
        go_wp2
        generalize w3.alloc (.cells #[.bool n9, .slice A9 l9 c9, .slice A9' l9' c9'] 51) = wB at *
        generalize w3.heap.size = g9 at *
        have g9B : g9 < wB.heap.size := B9.out.lt
        have HZ0 := Lib.hid (show (T : Int) = (T : Int) - ((sumTo (fun j => flN (quoQ qs T j)) 0 : Nat) : Int) by simp [sumTo])
        go_loopg [7, 8, 9, 10, 11, 12, 13] n (fun q ot rt mt it _ _ _ wr => ∃ (i : Nat) (A : Option Addr) (c1 : Nat) (A2 : Option Addr) (c2 : Nat), n - i = q ∧ i ≤ n ∧ it = .int .i64 i ∧ ot = .slice A i c1 ∧ rt = .slice A2 i c2 ∧ mt = .int .i64 ((T : Int) - ((sumTo (fun j => flN (quoQ qs T j)) i : Nat) : Int)) ∧ Hid (RoT wB wr (.slice A i c1) (.slice A2 i c2) qs T i))
        case atStart => exact ⟨0, none, 0, none, 0, rfl, Nat.zero_le _, rfl, rfl, rfl, by rw [← HZ0.out], Lib.hid ⟨World.ownsRow_nil _ _ _ _, OQ.nil, Ext.refl _⟩⟩
        case round =>
          obtain ⟨i, A, c1, A2, c2, rfl, hi, rfl, rfl, rfl, rfl, L⟩ := hrel
          clear HZ0
          have hsb : sumTo (fun j => flN (quoQ qs T j)) i ≤ 4194304 := by
            have h1 := sumTo_le (fun j => flN (quoQ qs T j)) T i (fun j hj => fl_quo_le HP.out T (by rw [HN.out]; omega))
            have h2 : i * T ≤ 64 * 65536 := Nat.mul_le_mul (by omega) hT1.2
            omega
          by_cases hin : i < n
          · have iN : (i : Int) < (n : Int) := by omega
            obtain ⟨bq, oq, nx, X1, m1, e1, X2, m2, e2, hPP, hbq, y0, y1, y2, hQ'⟩ := HQ.out.at_ (get_some (K := qs) (i := i) (by rw [HN.out]; exact hin))
            subst hPP
            obtain ⟨lx1, lx2⟩ := hQ'.lensB (SZ.out i).2.2.2.1
            have EWr := Lib.hid (EW.out.tr L.out.ext)
            have K10 := Lib.hid (show ∀ W, Ext wr W → (W.cell? ⟨bq, oq + i * 3, none⟩ = some (.bool nx) ∧ W.cell? ⟨bq, oq + i * 3 + 1, none⟩ = some (.slice X1 m1 e1) ∧ W.cell? ⟨bq, oq + i * 3 + 2, none⟩ = some (.slice X2 m2 e2) ∧ W.cell? ⟨g9, 0, none⟩ = some (.bool n9) ∧ W.cell? ⟨g9, 1, none⟩ = some (.slice A9 l9 c9) ∧ W.cell? ⟨g9, 2, none⟩ = some (.slice A9' l9' c9')) from fun W hW => by
              obtain ⟨⟨z0, z1, z2⟩, _⟩ := ((B9.out.keep L.out.ext).keep hW).three
              have hE := EWr.out.tr hW
              exact ⟨(hE.cell (p := ⟨bq, oq + i * 3, none⟩) hbq).trans y0, (hE.cell (p := ⟨bq, oq + i * 3 + 1, none⟩) hbq).trans y1, (hE.cell (p := ⟨bq, oq + i * 3 + 2, none⟩) hbq).trans y2, z0, z1, z2⟩)
            have RS := Lib.hid (And.intro (hQ'.keep EWr.out) (R9.out.keep L.out.ext))
            have gq : bq < wr.heap.size := Nat.lt_of_lt_of_le hbq EWr.out.size
            have g9r : g9 < wr.heap.size := Nat.lt_of_lt_of_le g9B L.out.ext.size
            have hBr : wB.heap.size ≤ wr.heap.size := L.out.ext.size
            have OWL := Lib.hid (own_lt L.out.oi)
            have OW2 := Lib.hid (show ∀ k, (Value.slice A2 i c2).ownBlock = some k → k < wr.heap.size from fun k hk => by
              obtain ⟨css, _, _, h3, _⟩ := L.out.oq
              exact own_lt h3 k hk)
            have QD := Lib.hid (show ((T : Int) : Rat) * (qs[i]?.getD 0) / sumQ qs = quoQ qs T i from quo_ref qs T i)
            have HST := Lib.hid (show sumTo (fun j => flN (quoQ qs T j)) (i + 1) = sumTo (fun j => flN (quoQ qs T j)) i + flN (quoQ qs T i) from rfl)
            have HFL := Lib.hid (fl_quo_le HP.out T (show i < qs.length by rw [HN.out]; exact hin))
            have QNN := Lib.hid (quo_nonneg HP.out T i)
            have SZI := Lib.hid (SZ.out i)
            have NXI := Lib.hid (ints_next (fun j => flN (quoQ qs T j)) i)
            have SZT := Lib.hid (show SzQ ((T : Int) : Rat) 1 by
              rw [← int_mkQ]
              refine SzQ.mkQ_ (by decide) ?_ (by decide)
              rw [Nat.pow_one, B32_eq, Int.natAbs_natCast]; omega)
            generalize hM : sumTo (fun j => flN (quoQ qs T j)) i = M at *
            clear hQ' y0 y1 y2 hbq hM
            go_upto_region 10 with fail
            go_cut [11, 12] (fun s _ wx => ∃ (g : Nat) (A6 : Option Addr) (l6 c6 : Nat) (A6' : Option Addr) (l6' c6' : Nat), s = .pointer (some ⟨g, 0, none⟩) ∧ wr.heap.size ≤ g ∧ Hid (Blk wx g 51 #[.bool false, .slice A6 l6 c6, .slice A6' l6' c6']) ∧ Hid (RQR wx false A6 l6 c6 A6' l6' c6' (quoQ qs T i) ∧ FrsR wr A6 A6') ∧ Hid (Ext wr wx))
            case first =>
              have SZP := Lib.hid (show SzQ (((T : Int) : Rat) * (qs[i]?.getD 0)) 101 from (SZT.out.mul SZI.out.2.2.2.1).mono (by decide))
              generalize quoQ qs T i = qt at *
              generalize qs[i]?.getD 0 = qi at *
              have XD := Lib.hid (show Ext wr wr.drew from (Ext.refl wr).drewN 1)
              have XA := Lib.hid (show Ext wr (wr.alloc (.cells #[.bool false, .slice none 0 0, .slice none 0 0] 51)).drew from ((Ext.refl wr).alloc _).drewN 1)
              have BN := Lib.hid (show Blk (wr.alloc (.cells #[.bool false, .slice none 0 0, .slice none 0 0] 51)).drew wr.heap.size 51 #[.bool false, .slice none 0 0, .slice none 0 0] from Blk.new wr _ _)
              obtain ⟨i0, i1, i2, j0, j1, j2⟩ := K10.out _ XD.out
              obtain ⟨y0, y1, y2, z0, z1, z2⟩ := K10.out _ XA.out
              go_wp2
              go_region_held3 (fun w' => w'.cell? ⟨bq, oq + i * 3, none⟩ = some (.bool nx) ∧ w'.cell? ⟨bq, oq + i * 3 + 1, none⟩ = some (.slice X1 m1 e1) ∧ w'.cell? ⟨bq, oq + i * 3 + 2, none⟩ = some (.slice X2 m2 e2) ∧ w'.cell? ⟨g9, 0, none⟩ = some (.bool n9) ∧ w'.cell? ⟨g9, 1, none⟩ = some (.slice A9 l9 c9) ∧ w'.cell? ⟨g9, 2, none⟩ = some (.slice A9' l9' c9'))
                (first | with_reducible exact ⟨i0, i1, i2, j0, j1, j2⟩ | with_reducible exact ⟨y0, y1, y2, z0, z1, z2⟩ | with_reducible exact ⟨cell_alloc_of i0 _, cell_alloc_of i1 _, cell_alloc_of i2 _, cell_alloc_of j0 _, cell_alloc_of j1 _, cell_alloc_of j2 _⟩ | exact ⟨cell_set_of (cell_set_of (cell_set_of i0 fT) fT) fT, cell_set_of (cell_set_of (cell_set_of i1 fT) fT) fT, cell_set_of (cell_set_of (cell_set_of i2 fT) fT) fT, cell_set_of (cell_set_of (cell_set_of j0 fP) fP) fP, cell_set_of (cell_set_of (cell_set_of j1 fP) fP) fP, cell_set_of (cell_set_of (cell_set_of j2 fP) fP) fP⟩ | fail)
                (first
                | (go_at_call 99
                   with_reducible refine (rqInt_ok T (by omega) _).mono ?_
                   rintro e w6 ⟨n6, A6, l6, c6, A6', l6', c6', rfl, h6, x6⟩
                   obtain ⟨s1, s2⟩ := h6.lensB SZT.out
                   first
                   | (have E6 := Lib.hid (show Ext wr w6 by with_reducible exact XD.out.tr x6))
                   | (have E6 := Lib.hid (show Ext wr w6 by with_reducible exact XA.out.tr x6)
                      have BM := Lib.hid (BN.out.keep x6)
                      obtain ⟨⟨v0, v1, v2⟩, r0, r1, r2⟩ := BM.out.three
                      have gg : wr.heap.size ≤ wr.heap.size := Nat.le_refl _
                      have fT : bq ≠ wr.heap.size := Nat.ne_of_lt gq
                      have fP : g9 ≠ wr.heap.size := Nat.ne_of_lt g9r)
                   have R6 := Lib.hid h6
                   obtain ⟨i0, i1, i2, j0, j1, j2⟩ := K10.out _ E6.out
                   clear x6 h6)
                | (go_at_call 98
                   first
                   | (with_reducible refine (rqMul_ok n6 nx A6 l6 c6 A6' l6' c6' X1 m1 e1 X2 m2 e2 ((T : Int) : Rat) qi _ R6.out (RS.out.1.keep (by with_reducible exact E6.out)) (by omega) (by omega) (by omega) (by omega)).mono ?_
                      rintro e w7 ⟨n7, A7, l7, c7, A7', l7', c7', rfl, h7, x7⟩
                      have E7 := Lib.hid (E6.out.tr x7)
                      first
                      | (have BM := Lib.hid (BM.out.keep x7)
                         obtain ⟨⟨v0, v1, v2⟩, r0, r1, r2⟩ := BM.out.three)
                      | skip)
                   | (have xz := (Ext.refl w6).alloc (.cells #[.bool false, .slice none 0 0, .slice none 0 0] 51)
                      with_reducible refine (rqMul_ok n6 nx A6 l6 c6 A6' l6' c6' X1 m1 e1 X2 m2 e2 ((T : Int) : Rat) qi _ (R6.out.keep xz) (RS.out.1.keep (by with_reducible exact E6.out.tr xz)) (by omega) (by omega) (by omega) (by omega)).mono ?_
                      rintro e w7 ⟨n7, A7, l7, c7, A7', l7', c7', rfl, h7, x7⟩
                      have E7 := Lib.hid ((E6.out.tr xz).tr x7)
                      have BM := Lib.hid ((Blk.new w6 51 #[.bool false, .slice none 0 0, .slice none 0 0]).keep x7)
                      obtain ⟨⟨v0, v1, v2⟩, r0, r1, r2⟩ := BM.out.three
                      have gg : wr.heap.size ≤ w6.heap.size := E6.out.size
                      have fT : bq ≠ w6.heap.size := Nat.ne_of_lt (Nat.lt_of_lt_of_le gq E6.out.size)
                      have fP : g9 ≠ w6.heap.size := Nat.ne_of_lt (Nat.lt_of_lt_of_le g9r E6.out.size)
                      clear xz)
                   obtain ⟨s3, s4⟩ := h7.lensB SZP.out
                   have R7 := Lib.hid h7
                   obtain ⟨i0, i1, i2, j0, j1, j2⟩ := K10.out _ E7.out
                   clear x7 h7)
                | (go_at_call 97
                   first
                   | (with_reducible refine (rqDiv_fr n7 n9 A7 l7 c7 A7' l7' c7' A9 l9 c9 A9' l9' c9' (((T : Int) : Rat) * qi) (sumQ qs) _ R7.out (RS.out.2.keep (by with_reducible exact E7.out)) SNZ.out (by omega) (by omega) (by omega) (by omega)).mono ?_
                      rintro e w8 ⟨n8, A8, l8, c8, A8', l8', c8', rfl, h8, x8, fr8⟩
                      have FR8 := Lib.hid (fr8.le E7.out.size)
                      have E8 := Lib.hid (E7.out.tr x8)
                      first
                      | (have BM := Lib.hid (BM.out.keep x8)
                         obtain ⟨⟨v0, v1, v2⟩, r0, r1, r2⟩ := BM.out.three)
                      | skip)
                   | (have xz := (Ext.refl w7).alloc (.cells #[.bool false, .slice none 0 0, .slice none 0 0] 51)
                      with_reducible refine (rqDiv_fr n7 n9 A7 l7 c7 A7' l7' c7' A9 l9 c9 A9' l9' c9' (((T : Int) : Rat) * qi) (sumQ qs) _ (R7.out.keep xz) (RS.out.2.keep (by with_reducible exact E7.out.tr xz)) SNZ.out (by omega) (by omega) (by omega) (by omega)).mono ?_
                      rintro e w8 ⟨n8, A8, l8, c8, A8', l8', c8', rfl, h8, x8, fr8⟩
                      have FR8 := Lib.hid (fr8.le (E7.out.tr xz).size)
                      have E8 := Lib.hid ((E7.out.tr xz).tr x8)
                      have BM := Lib.hid ((Blk.new w7 51 #[.bool false, .slice none 0 0, .slice none 0 0]).keep x8)
                      obtain ⟨⟨v0, v1, v2⟩, r0, r1, r2⟩ := BM.out.three
                      have gg : wr.heap.size ≤ w7.heap.size := E7.out.size
                      have fT : bq ≠ w7.heap.size := Nat.ne_of_lt (Nat.lt_of_lt_of_le gq E7.out.size)
                      have fP : g9 ≠ w7.heap.size := Nat.ne_of_lt (Nat.lt_of_lt_of_le g9r E7.out.size)
                      clear xz)
                   rw [QD.out] at h8
                   obtain rfl := h8.pos QNN.out
                   have R8 := Lib.hid h8
                   obtain ⟨i0, i1, i2, j0, j1, j2⟩ := K10.out _ E8.out
                   clear x8 h8 fr8)
                | fail)
              all_goals
                go_wp2
                go_meet
                first
                | (obtain ⟨q1, q2⟩ := rq_set3 (w := wr) R8.out BM.out gg E8.out
                   exact ⟨_, A8, l8, c8, A8', l8', c8', rfl, gg, Lib.hid (((BM.out.set_ 0 _).set_ 1 _).set_ 2 _), Lib.hid ⟨q1, FR8.out⟩, Lib.hid q2⟩)
                | (have xb := (Ext.refl w8).alloc (.cells #[.bool false, .slice A8 l8 c8, .slice A8' l8' c8'] 51)
                   exact ⟨w8.heap.size, A8, l8, c8, A8', l8', c8', rfl, E8.out.size, Lib.hid (Blk.new w8 _ _), Lib.hid ⟨R8.out.keep xb, FR8.out⟩, Lib.hid (E8.out.tr xb)⟩)
            case rest =>
              obtain ⟨gs, A6, l6, c6, A6', l6', c6', rfl, hgs, BS, RX, EX⟩ := hcut
              generalize wc = w5 at *
              obtain ⟨s1, s2⟩ := RX.out.1.lensB SZI.out.2.2.2.2.1
              obtain ⟨⟨i0, i1, i2⟩, _⟩ := BS.out.three
              clear K10 RS QD
              go_wp2_with fail
              refine (rqFloor_fr A6 l6 c6 A6' l6' c6' (quoQ qs T i) _ RX.out.1 (by omega) (by omega)).mono ?_
              rintro e w6 ⟨n7, F1, v1, d1, F1', v1', d1', rfl, h7, x6, fr6⟩
              obtain rfl := h7.pos (by rw [flQ_cast]; exact Rat.intCast_nonneg.2 (by omega))
              obtain ⟨s3, s4⟩ := h7.lensB SZI.out.2.2.2.2.2.1
              have xb7 := (Ext.refl w6).alloc (.cells #[.bool false, .slice F1 v1 d1, .slice F1' v1' d1'] 51)
              have BF := Lib.hid (And.intro ((BS.out.keep x6).keep xb7) (Blk.new w6 51 #[.bool false, .slice F1 v1 d1, .slice F1' v1' d1']))
              have E7 := Lib.hid ((EX.out.tr x6).tr xb7)
              have R7 := Lib.hid (And.intro ((RX.out.1.keep x6).keep xb7) (And.intro (h7.keep xb7) (And.intro RX.out.2 (fr6.le EX.out.size))))
              have hg6 : wr.heap.size ≤ w6.heap.size := (EX.out.tr x6).size
              have hF16 : flN (quoQ qs T i) ≤ 65536 := by have := HFL.out; omega
              have HNA := Lib.hid (flQ_num (quoQ qs T i))
              clear h7 x6 fr6 xb7 BS RX EX i0 i1 i2
              obtain ⟨⟨i0, i1, i2⟩, _⟩ := BF.out.1.three
              obtain ⟨⟨j0, j1, j2⟩, _⟩ := BF.out.2.three
              go_wp2_with fail
              refine (rWhole_ok F1 v1 d1 F1' v1' d1' (flQ (quoQ qs T i)) _ R7.out.2.1 (by omega) (by rw [HNA.out]; exact hF16)).mono ?_
              rintro e w8 ⟨rfl, x8⟩
              rw [HNA.out]
              have L8 := Lib.hid (L.out.keep (E7.out.tr x8))
              have BF8 := Lib.hid (And.intro (BF.out.1.keep x8) (BF.out.2.keep x8))
              have R8 := Lib.hid (And.intro (R7.out.1.keep x8) (And.intro (R7.out.2.1.keep x8) R7.out.2.2))
              have hr8 : wr.heap.size ≤ w8.heap.size := (E7.out.tr x8).size
              clear x8 BF E7 R7 L i0 i1 i2 j0 j1 j2
              obtain ⟨F, hF⟩ : ∃ F, F = flN (quoQ qs T i) := ⟨_, rfl⟩
              rw [← hF] at hF16
              rw [← hF]
              have HF2 := Lib.hid hF
              clear hF
              go_wp2_with (at_builtin; go_must (refine wpList_pushI w8 rfl (.tmp 52) (.tmp 55) rfl wB.heap.size (.slice A i c1) i _ rfl L8.out.oi _ F ?cu rfl ?c0 ?c1 ?_))
              case cu => rfl
              case c0 => omega
              case c1 => omega
              intro vo w9 own9 grow9 A3 c3 hvo hob
              subst hvo
              have xa := (Ext.refl w8).alloc (.cells #[.int .i64 (F : Int)] 3)
              have hoh := own_heap (L8.out.oi.kept (grown_ext xa) (own_none _))
              have own9' : w9.ownsRow wB.heap.size 3 1 (.slice A3 (i + 1) c3) (i + 1) (ints ((List.range (i + 1)).map fun j => flN (quoQ qs T j))) := by rw [NXI.out, ← HF2.out]; exact own9
              have OQ9 := show OQ (RQF (Value.slice A3 (i + 1) c3).ownBlock) 51 w9 wB.heap.size (.slice A2 i c2) ((List.range i).map (restQ qs T)) from by
                obtain ⟨css, q1, q2, q3, q4⟩ := L8.out.oq
                refine ⟨css, q1, q2, (q3.kept (grown_ext xa) (own_none _)).kept grow9 (own_apart (q3.kept (grown_ext xa) (own_none _)) (L8.out.oi.kept (grown_ext xa) (own_none _)) (by decide)), fun j q hq => ?_⟩
                obtain ⟨cs, z1, z2⟩ := q4 j q hq
                exact ⟨cs, z1, (RQF.keep _ _ _ _ z2 xa).grow grow9 (hob.elim .inl (fun h => .inr (by rw [h]; simp)))⟩
              have E9 := Lib.hid (show Ext wB w9 from Below.grown (L8.out.ext.tr xa) grow9 (by simp; omega) (fun k hk => by have := (L8.out.oi.lt k hk).1; omega))
              have OO := Lib.hid (And.intro own9' OQ9)
              have BF9 := Lib.hid (And.intro ((BF8.out.1.keep xa).grownK grow9 hoh (by decide)) ((BF8.out.2.keep xa).grownK grow9 hoh (by decide)))
              have FO := Lib.hid (show ∀ x, (Value.slice A i c1).ownBlock = some x → x < wr.heap.size from OWL.out)
              have R9 := Lib.hid (And.intro ((R8.out.1.keep xa).grownF grow9 (R8.out.2.2.1.far FO.out _ _)) (And.intro ((R8.out.2.1.keep xa).grownF grow9 (R8.out.2.2.2.far FO.out _ _)) R8.out.2.2))
              have hr9 : wr.heap.size ≤ w9.heap.size := by have := grow9.size; simp at this; omega
              clear own9 grow9 hob xa hoh own9' OQ9 L8 BF8 R8 FO OWL
              obtain ⟨⟨i0, i1, i2⟩, _⟩ := BF9.out.1.three
              obtain ⟨⟨j0, j1, j2⟩, _⟩ := BF9.out.2.three
              go_wp2_with fail
              refine (rqSub_fr false false A6 l6 c6 A6' l6' c6' F1 v1 d1 F1' v1' d1' (quoQ qs T i) (flQ (quoQ qs T i)) _ R9.out.1 R9.out.2.1 (by omega) (by omega) (by omega) (by omega)).mono ?_
              rintro e w10 ⟨n10, G1, r1, t4, G1', r1', t4', rfl, h10, x10, fr10⟩
              have h10 : RQR w10 n10 G1 r1 t4 G1' r1' t4' (restQ qs T i) := h10
              have OI10 := Lib.hid (OO.out.1.kept (grown_ext x10) (own_none _))
              have OK9 := own_lt OO.out.1
              have FG := Lib.hid (fr10.far OK9 r1 r1')
              obtain ⟨css, q1, q2, q3, q4⟩ := OO.out.2.keep RQF.keep x10
              have hml : ((List.range i).map (restQ qs T)).length = i := by simp
              rw [hml] at q1 q3
              have OW := Lib.hid (And.intro q1 (And.intro q2 (And.intro q3 q4)))
              have BF10 := Lib.hid (And.intro (BF9.out.1.keep x10) (BF9.out.2.keep x10))
              have R10 := Lib.hid (And.intro (R9.out.2.1.keep x10) h10)
              have E10 := Lib.hid (E9.out.tr x10)
              have hr10 : wr.heap.size ≤ w10.heap.size := Nat.le_trans hr9 x10.size
              have TK := Lib.hid (show (List.range (i + 1)).map (restQ qs T) = (List.range i).map (restQ qs T) ++ [restQ qs T i] by rw [List.range_succ]; simp)
              clear x10 fr10 h10 OK9 q1 q2 q3 q4 R9 BF9 OO E9 i0 i1 i2 j0 j1 j2
              go_wp2_with (at_builtin; go_must (refine wpList_push3 w10 37 51 rfl (.tmp 57) (.tmp 61) rfl Tryz.underlying37 Tryz.info51 wB.heap.size (.slice A2 i c2) i css.flatten rfl OW.out.2.2.1 _ _ _ rfl rfl rfl rfl ?d0 ?d1 ?_))
              case d0 => omega
              case d1 => exact E10.out.size
              intro v6 w11 own11 grow11 A7 c7 hv6
              subst hv6
              have xa := (Ext.refl w10).alloc (.cells #[.bool n10, .slice G1 r1 t4, .slice G1' r1' t4'] 51)
              have hoh := own_heap (OW.out.2.2.1.alloc (.cells #[.bool n10, .slice G1 r1 t4, .slice G1' r1' t4'] 51))
              have OI11 := (OI10.out.kept (grown_ext xa) (own_none _)).kept grow11 (own_apart (OI10.out.kept (grown_ext xa) (own_none _)) (OW.out.2.2.1.alloc (.cells #[.bool n10, .slice G1 r1 t4, .slice G1' r1' t4'] 51)) (by decide))
              have OQ11 := show OQ (RQF (Value.slice A3 (i + 1) c3).ownBlock) 51 w11 wB.heap.size (.slice A7 (i + 1) c7) ((List.range (i + 1)).map (restQ qs T)) from by
                rw [TK.out]
                refine OQ.push (w' := w11) (by rw [hml]; exact OW.out.1) OW.out.2.1 rfl (fun j q hq => ?_) ?_ (by rw [hml]; exact own11)
                · obtain ⟨cs, z1, z2⟩ := OW.out.2.2.2 j q hq
                  exact ⟨cs, z1, (RQF.keep _ _ _ _ z2 xa).grownK grow11 hoh (by decide)⟩
                · exact RQF.grownK ⟨n10, G1, r1, t4, G1', r1', t4', rfl, R10.out.2.keep xa, FG.out⟩ grow11 hoh (by decide)
              have E11 := show Ext wB w11 from Below.grown (E10.out.tr xa) grow11 (by have := E10.out.size; simp; omega) (fun k hk => by have := (OW.out.2.2.1.lt k hk).1; omega)
              have LL := Lib.hid (show RoT wB w11 (.slice A3 (i + 1) c3) (.slice A7 (i + 1) c7) qs T (i + 1) from ⟨OI11, OQ11, E11⟩)
              have BF11 := Lib.hid (show Blk w11 w6.heap.size 51 #[.bool false, .slice F1 v1 d1, .slice F1' v1' d1'] from (grow11.block w6.heap.size (BF10.out.2.keep xa).lt (fun e => by have := OW2.out _ e.symm; omega)).trans (BF10.out.2.keep xa))
              have R11 := Lib.hid ((R10.out.1.keep xa).grownK grow11 hoh (by decide))
              clear own11 grow11 xa hoh OI11 OQ11 E11 OW OI10 BF10 R10 E10 TK FG OW2 hml
              obtain ⟨⟨j0, j1, j2⟩, _⟩ := BF11.out.three
              go_wp2_with fail
              refine (rWhole_ok F1 v1 d1 F1' v1' d1' (flQ (quoQ qs T i)) _ R11.out (by omega) (by rw [HNA.out, ← HF2.out]; exact hF16)).mono ?_
              rintro e w12 ⟨rfl, x12⟩
              rw [HNA.out, ← HF2.out]
              have LF := Lib.hid (LL.out.keep x12)
              have HMS := Lib.hid (show sumTo (fun j => flN (quoQ qs T j)) (i + 1) = M + F by rw [HST.out, HF2.out])
              have hMF : M + F ≤ 8388608 := by omega
              clear x12 LL R11 BF11 j0 j1 j2 HST HF2 HNA HFL
              go_wp2
              go_roundg (n - (i + 1))
              case measure => omega
              case rel => exact ⟨i + 1, A3, c3, A7, c7, rfl, by omega, by go_num, rfl, rfl, by rw [HMS.out]; go_num, LF⟩
          · obtain rfl : i = n := by omega
            have hl2 : ¬ (i : Int) < (i : Int) := by omega
            obtain ⟨gw, cw, ev, hcw, hgw, hnr⟩ := own_nrow L.out.oi h0
            obtain ⟨css, q1, q2, q3, q4⟩ := L.out.oq
            have hml : ((List.range i).map (restQ qs T)).length = i := by simp
            rw [hml] at q3
            injection ev with e1 e2 e3
            subst e1 e3
            have hqr := own_rdT q3
            have HRL := Lib.hid (show (List.range i).map (restQ qs T) = restL qs T by unfold restL; rw [HN.out])
            have HLL := Lib.hid (show (restL qs T).length = i by rw [← HRL.out]; simp)
            have U0 := Lib.hid (show RoU wB wr gw A2 (midTo i (weightQ qs T) (fun j => flN (quoQ qs T j)) 0) (restL qs T) from ⟨by rw [midTo_zero]; exact hnr, by rw [← HRL.out]; exact ⟨css, q1, q2, hqr, q4⟩, L.out.ext, hgw⟩)
            have HMI := Lib.hid (show (T : Int) - ((sumTo (fun j => flN (quoQ qs T j)) i : Nat) : Int) = missQ qs T by unfold missQ; rw [HN.out])
            have HMB := Lib.hid hsb
            rw [HMI.out]
            have hmb : -4194304 ≤ missQ qs T ∧ missQ qs T ≤ 65536 := by have := HMI.out; omega
            have WQ := Lib.hid (show ∀ j, weightQ qs T j = if (rankQ (restL qs T) j : Int) < missQ qs T then flN (quoQ qs T j) + 1 else flN (quoQ qs T j) from fun j => rfl)
            have FB := Lib.hid (show ∀ j, j < i → flN (quoQ qs T j) ≤ 65536 from fun j hj => by have := fl_quo_le HP.out T (show j < qs.length by rw [HN.out]; exact hj); omega)
            have SR := Lib.hid (show ∀ j : Nat, SzQ ((restL qs T)[j]?.getD 0) 20000 from fun j => by
              rw [← HRL.out]
              cases hq : (((List.range i).map (restQ qs T))[j]? : Option Rat) with
              | none => exact SzQ.zero.mono (by decide)
              | some q =>
                obtain ⟨x, _, rfl⟩ := List.mem_map.1 (List.mem_of_getElem? hq)
                exact (SZ.out x).2.2.2.2.2.2)
            clear hnr hqr q1 q2 q3 q4 L HMI hsb hml e2
            generalize restL qs T = rl at *
            generalize missQ qs T = ms at *
            clear HRL
            go_wp2
            go_loopg [14, 15, 16, 17] i (fun q it _ _ _ wx => ∃ k : Nat, i - k = q ∧ k ≤ i ∧ it = .int .i64 k ∧ Hid (RoU wB wx gw A2 (midTo i (weightQ qs T) (fun j => flN (quoQ qs T j)) k) rl))
            case atStart => exact ⟨0, rfl, Nat.zero_le _, rfl, U0⟩
            case round =>
              obtain ⟨k, rfl, hk, rfl, U⟩ := hrel
              clear U0
              by_cases hlt : k < i
              · have kN : (k : Int) < (i : Int) := by omega
                go_wp2
                go_loopg [15, 16, 17] i (fun q bt jt _ wy => ∃ j : Nat, i - j = q ∧ j ≤ i ∧ jt = .int .i64 j ∧ bt = .int .i64 (cntTo rl k j : Nat) ∧ Hid (RoU wB wy gw A2 (midTo i (weightQ qs T) (fun j => flN (quoQ qs T j)) k) rl))
                case atStart => exact ⟨0, rfl, Nat.zero_le _, rfl, rfl, U⟩
                case round =>
                  obtain ⟨j, rfl, hjn, rfl, rfl, M⟩ := hrel
                  clear U
                  have hcl := cntTo_le rl k j
                  by_cases hjl : j < i
                  · have jN : (j : Int) < (i : Int) := by omega
                    obtain ⟨b, o, na, A1, n1, c1, A1', n1', c1', nb, A3, n2, c2, A3', n2', c2', hP, hb, cells, hra, hrb⟩ := M.out.rql.pair (get_some (K := rl) (i := j) (by rw [HLL.out]; exact hjl)) (get_some (K := rl) (i := k) (by rw [HLL.out]; exact hlt))
                    subst hP
                    obtain ⟨u1, u1'⟩ := hra.lensB (SR.out j)
                    obtain ⟨u2, u2'⟩ := hrb.lensB (SR.out k)
                    have NX := Lib.hid (cntTo_next rl k j)
                    have CC := Lib.hid (show ∀ W, Ext wr W → (W.cell? ⟨b, o + j * 3, none⟩ = some (.bool na) ∧ W.cell? ⟨b, o + j * 3 + 1, none⟩ = some (.slice A1 n1 c1) ∧ W.cell? ⟨b, o + j * 3 + 2, none⟩ = some (.slice A1' n1' c1') ∧ W.cell? ⟨b, o + k * 3, none⟩ = some (.bool nb) ∧ W.cell? ⟨b, o + k * 3 + 1, none⟩ = some (.slice A3 n2 c2) ∧ W.cell? ⟨b, o + k * 3 + 2, none⟩ = some (.slice A3' n2' c2')) from fun W hW =>
                      ⟨(hW.cell (p := ⟨b, o + j * 3, none⟩) hb).trans cells.1, (hW.cell (p := ⟨b, o + j * 3 + 1, none⟩) hb).trans cells.2.1, (hW.cell (p := ⟨b, o + j * 3 + 2, none⟩) hb).trans cells.2.2.1, (hW.cell (p := ⟨b, o + k * 3, none⟩) hb).trans cells.2.2.2.1, (hW.cell (p := ⟨b, o + k * 3 + 1, none⟩) hb).trans cells.2.2.2.2.1, (hW.cell (p := ⟨b, o + k * 3 + 2, none⟩) hb).trans cells.2.2.2.2.2⟩)
                    have RA := Lib.hid (And.intro hra hrb)
                    clear hra hrb cells hb
                    generalize cntTo rl k j = cn at *
                    generalize rl[j]?.getD 0 = qa at *
                    generalize hqb : rl[k]?.getD 0 = qb at *
                    clear hqb
                    have XD := Lib.hid (show Ext wr wr.drew from (Ext.refl wr).drewN 1)
                    obtain ⟨i0, i1, i2, j0, j1, j2⟩ := CC.out _ XD.out
                    go_wp2
                    go_region_held3 (fun w' => w'.cell? ⟨b, o + j * 3, none⟩ = some (.bool na) ∧ w'.cell? ⟨b, o + j * 3 + 1, none⟩ = some (.slice A1 n1 c1) ∧ w'.cell? ⟨b, o + j * 3 + 2, none⟩ = some (.slice A1' n1' c1') ∧ w'.cell? ⟨b, o + k * 3, none⟩ = some (.bool nb) ∧ w'.cell? ⟨b, o + k * 3 + 1, none⟩ = some (.slice A3 n2 c2) ∧ w'.cell? ⟨b, o + k * 3 + 2, none⟩ = some (.slice A3' n2' c2'))
                      (first | with_reducible exact ⟨i0, i1, i2, j0, j1, j2⟩ | fail)
                      (first
                      | (go_at_call 85
                         refine (rqCmp_ok na nb A1 n1 c1 A1' n1' c1' A3 n2 c2 A3' n2' c2' qa qb _ (RA.out.1.keep XD.out) (RA.out.2.keep XD.out) (by omega) (by omega) (by omega) (by omega)).mono ?_
                         rintro e w5 ⟨rfl, x5⟩
                         have M5 := Lib.hid (M.out.keep (XD.out.tr x5))
                         obtain ⟨i0, i1, i2, j0, j1, j2⟩ := CC.out _ (XD.out.tr x5)
                         clear x5)
                      | fail)
                    clear M RA CC i0 i1 i2 j0 j1 j2 XD
                    generalize cmpQ qa qb = cc at *
                    by_cases h1 : 0 < cc
                    · have HC := Lib.hid (show cntTo rl k (j + 1) = cn + 1 by rw [NX.out, if_pos (.inl h1)])
                      clear NX
                      go_wp2
                      go_roundg (i - (j + 1))
                      case measure => omega
                      case rel => exact ⟨j + 1, rfl, by omega, by go_num, by rw [HC.out]; go_num, M5⟩
                    · by_cases h2 : cc = 0
                      · subst h2
                        by_cases h3 : j < k
                        · have h3' : (j : Int) < (k : Int) := by omega
                          have HC := Lib.hid (show cntTo rl k (j + 1) = cn + 1 by rw [NX.out, if_pos (.inr ⟨rfl, h3⟩)])
                          clear NX
                          go_wp2
                          go_roundg (i - (j + 1))
                          case measure => omega
                          case rel => exact ⟨j + 1, rfl, by omega, by go_num, by rw [HC.out]; go_num, M5⟩
                        · have h3' : ¬ (j : Int) < (k : Int) := by omega
                          have HC := Lib.hid (show cntTo rl k (j + 1) = cn by rw [NX.out, if_neg (by omega)])
                          clear NX
                          go_wp2
                          go_roundg (i - (j + 1))
                          case measure => omega
                          case rel => exact ⟨j + 1, rfl, by omega, by go_num, by rw [HC.out], M5⟩
                      · have HC := Lib.hid (show cntTo rl k (j + 1) = cn by rw [NX.out, if_neg (by omega)])
                        clear NX
                        go_wp2
                        go_roundg (i - (j + 1))
                        case measure => omega
                        case rel => exact ⟨j + 1, rfl, by omega, by go_num, by rw [HC.out], M5⟩
                  · obtain rfl : j = i := by omega
                    have hl3 : ¬ (j : Int) < (j : Int) := by omega
                    have HE := Lib.hid (show cntTo rl k j = rankQ rl k by have := cntTo_end rl k; rw [HLL.out] at this; exact this)
                    have NX := Lib.hid (midTo_next j (weightQ qs T) (fun j => flN (quoQ qs T j)) hlt)
                    have NS := Lib.hid (midTo_same j (weightQ qs T) (fun j => flN (quoQ qs T j)) hlt)
                    rw [HE.out] at hcl ⊢
                    by_cases hrk : (rankQ rl k : Int) < ms
                    · have HNX := Lib.hid (show midTo j (weightQ qs T) (fun j => flN (quoQ qs T j)) (k + 1) = (midTo j (weightQ qs T) (fun j => flN (quoQ qs T j)) k).set k (flN (quoQ qs T k) + 1) by rw [NX.out, WQ.out, if_pos hrk])
                      have hml : k < (midTo j (weightQ qs T) (fun j => flN (quoQ qs T j)) k).length := by rw [midTo_len]; exact hlt
                      have hck := M.out.nr.cell hml
                      have hfk := M.out.nr.frozen k
                      have hat : atL (midTo j (weightQ qs T) (fun j => flN (quoQ qs T j)) k) k = flN (quoQ qs T k) := by
                        have h5 := midTo_get j (weightQ qs T) (fun j => flN (quoQ qs T j)) k k hlt
                        rw [if_neg (by omega), atL_get hml] at h5
                        injection h5
                      rw [hat] at hck
                      have hfb := FB.out k hlt
                      have PUT := Lib.hid (M.out.put (flN (quoQ qs T k) + 1) hml)
                      clear M NX NS hml hat HE
                      generalize rankQ rl k = rk at *
                      generalize flN (quoQ qs T k) = fk at *
                      go_wp2
                      go_roundg (j - (k + 1))
                      case measure => omega
                      case rel => exact ⟨k + 1, rfl, by omega, by go_num, Lib.hid (by rw [HNX.out]; exact PUT.out)⟩
                    · have HNX := Lib.hid (show midTo j (weightQ qs T) (fun j => flN (quoQ qs T j)) (k + 1) = midTo j (weightQ qs T) (fun j => flN (quoQ qs T j)) k from NS.out (by rw [WQ.out, if_neg hrk]))
                      clear NX NS HE
                      generalize rankQ rl k = rk at *
                      go_wp2
                      go_roundg (j - (k + 1))
                      case measure => omega
                      case rel => exact ⟨k + 1, rfl, by omega, by go_num, Lib.hid (by rw [HNX.out]; exact M.out)⟩
              · obtain rfl : k = i := by omega
                have hl3 : ¬ (k : Int) < (k : Int) := by omega
                have G := Lib.hid (show RdT wr 3 (some ⟨gw, 0, none⟩) (ints ((List.range k).map (weightQ qs T))) ∧ Ext w wr from ⟨by
                  have := U.out.nr.rdT
                  rw [midTo_end] at this; exact this, EW.out.tr U.out.ext⟩)
                clear U
                go_wp2
                exact bodyPost_ret (v := .tuple #[.slice (some ⟨gw, 0, none⟩) k c1, .int .i64 0]) (by simp [results, Tryz.results37, go_sem]) rfl (⟨some ⟨gw, 0, none⟩, c1, by simp, by simpa using hcw, G.out.1, G.out.2⟩)
end Go.Proofs.YtekiomanidimnaaGreatDoor
