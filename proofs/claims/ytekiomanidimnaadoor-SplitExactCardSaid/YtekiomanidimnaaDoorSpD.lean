/- split.Round: the walk. -/
import Derived.Test.YtekiomanidimnaaDoorMU
set_option linter.unusedVariables false
set_option linter.unusedSimpArgs false

namespace Go.Proofs.YtekiomanidimnaaDoor
open Go.RowKit
def RoundPost (w : World) (r : List Nat × Int) (e : Ending) (w' : World) : Prop :=
  ∃ (A : Option Addr) (c : Nat), e = .returned (.tuple #[.slice A r.1.length c, .int .i64 r.2]) ∧ r.1.length ≤ c ∧ RdT w' 3 A (ints r.1) ∧ Ext w w'
theorem int_mkQ (T : Nat) : mkQ (decide ((T : Int) < 0)) (T : Int).natAbs 1 = ((T : Int) : Rat) := by
  rw [decide_eq_false (by omega)]
  unfold mkQ
  rw [Int.natAbs_natCast]
  simp [Rat.mkRat_one]
theorem flQ_num (q : Rat) : (flQ q).num.natAbs = flN q := by
  unfold flQ
  rw [mkQ_abs _ (by decide), Nat.gcd_one_right, Nat.div_one]
theorem RatR.pos {w : World} {neg : Bool} {A : Option Addr} {n c : Nat} {A' : Option Addr} {n' c' : Nat} {q : Rat} (h : RatR w neg A n c A' n' c' q) (h0 : 0 ≤ q) : neg = false := by
  rw [h.1, decide_eq_false_iff_not]
  have := Rat.num_nonneg.2 h0
  omega
/-- Rounding, under way. -/
structure RoS2 (wB wr : World) (gw gr n : Nat) (qs : List Rat) (T i : Nat) : Prop where
  wt : NRow wr gw (headTo n (fun j => flN (quoQ qs T j)) 0 i)
  rs : QB wr gr (headTo n (restQ qs T) 0 i)
  ext : Ext wB wr
theorem sizes {qs : List Rat} (h : properP qs = true) (hsz : ∀ q ∈ qs, SzQ q 100) {T : Nat} (hT : T ≤ 65536) (i : Nat) : SzR qs 6464 ∧ SzQ (sumQ qs) 6465 ∧ SzQ (((T : Int) : Rat) / sumQ qs) 6466 ∧ SzQ (qs[i]?.getD 0) 100 ∧ SzQ (quoQ qs T i) 6566 ∧ SzQ (flQ (quoQ qs T i)) 6566 ∧ SzQ (restQ qs T i) 20000 := by
  have h64 := (proper_pos h).2
  have h0 : sumQ qs ≠ 0 := fun e => by have := (proper_facts h).2; rw [e] at this; exact Rat.lt_irrefl this
  have s1 : SzR qs 6464 := by
    have h1 := SzR.of hsz
    revert h1
    have hle : qs.length * (100 + 1) ≤ 6464 := by omega
    generalize qs.length * (100 + 1) = C at *
    clear hsz h h64 h0 hT
    induction qs generalizing C with
    | nil => intro _; trivial
    | cons a l _ => intro ⟨k, D, x1, x2, x3⟩; exact ⟨k, D, x1, x2, by omega⟩
  have s2 := s1.sum
  have s3 : SzQ ((T : Int) : Rat) 1 := by
    rw [← int_mkQ]
    refine SzQ.mkQ_ (by decide) ?_ (by decide)
    rw [Nat.pow_one, B32_eq, Int.natAbs_natCast]; omega
  have s4 : SzQ (((T : Int) : Rat) / sumQ qs) 6466 := (s3.div s2 h0).mono (by decide)
  have s5 : SzQ (qs[i]?.getD 0) 100 := by
    cases hq : qs[i]? with
    | none => exact SzQ.zero.mono (by decide)
    | some q => exact hsz q (List.mem_of_getElem? hq)
  have s6 : SzQ (quoQ qs T i) 6566 := (s5.mul s4).mono (by decide)
  have s7 := s6.fl (by decide)
  exact ⟨s1, s2, s4, s5, s6, s7, (s6.sub s7).mono (by decide)⟩
set_option maxRecDepth 100000 in
set_option maxHeartbeats 4000000 in
theorem round_ok (P : Option Addr) (n c : Nat) (qs : List Rat) (hn : qs.length = n) (hn2 : n ≤ 1000000) (total : Int) (w : World) (hq : QL w P qs) (hsz : ∀ q ∈ qs, SzQ q 100) :
    Calls Tryd.prog 8 #[.slice P n c, .int .i64 total] w (RoundPost w (roundP qs total)) := by
  have HQ := Lib.hid hq
  have HN := Lib.hid hn
  have HS := Lib.hid hsz
  generalize hR : roundP qs total = R
  have HR := Lib.hid hR
  clear hq hn hsz hR
  go_enter Tryd.func8, Tryd.ntmps8
  go_wp2_with fail
  refine (proper_ok P n c qs HN.out hn2 _ HQ.out).mono ?_
  rintro e w1 ⟨rfl, x1⟩
  have E1 := Lib.hid x1
  clear x1
  cases hp : properP qs
  case false =>
    have HF := Lib.hid (show R = ([], 1) by rw [← HR.out]; unfold roundP; rw [hp]; rfl)
    obtain rfl := HF.out
    clear hp
    go_wp2
    exact bodyPost_ret (v := .tuple #[.slice none 0 0, .int .i64 1]) (by simp [results, Tryd.results8, go_sem]) rfl (⟨none, 0, rfl, Nat.le_refl _, RdT.nil _ _ _, E1.out⟩)
  case true =>
    by_cases ht : 1 ≤ total ∧ total ≤ 65536
    · obtain ⟨T, rfl⟩ : ∃ T : Nat, total = (T : Int) := ⟨total.toNat, by omega⟩
      have HF := Lib.hid (show R = ((List.range n).map (weightQ qs T), 0) by rw [← HR.out]; unfold roundP; rw [hp, decide_eq_true ht.1, decide_eq_true ht.2, HN.out, Int.toNat_natCast]; rfl)
      obtain rfl := HF.out
      have hT1 : 1 ≤ T ∧ T ≤ 65536 := by omega
      obtain ⟨h0, h64⟩ := proper_pos hp
      rw [HN.out] at h0 h64
      have HP := Lib.hid hp
      have SZ := Lib.hid (sizes hp HS.out hT1.2)
      have t1 : ¬ (T : Int) < 1 := by omega
      have t2 : ¬ (65536 : Int) < (T : Int) := by omega
      have t3 : decide ((T : Int) < 1) = false := by simp; omega
      clear hp HR ht
      go_wp2_with fail
      refine (ratInt_any (T : Int) _ (by omega) (by omega)).mono ?_
      rintro e w2 ⟨n2, A2, l2, c2, A2', l2', c2', rfl, h2, x2⟩
      rw [int_mkQ] at h2
      have R2 := Lib.hid h2
      have E2 := Lib.hid (E1.out.tr x2)
      clear h2 x2 E1
      go_wp2_with fail
      refine (ratSum_ok P n c qs HN.out h0 hn2 6464 (by decide) (SZ.out 0).1 _ (HQ.out.keep E2.out)).mono ?_
      rintro e w3 ⟨n3, A3, l3, c3, A3', l3', c3', rfl, h3, x3⟩
      have R3 := Lib.hid (And.intro (R2.out.keep x3) h3)
      have E3 := Lib.hid (E2.out.tr x3)
      obtain ⟨q1, q2⟩ := h3.lens (SZ.out 0).2.1
      obtain ⟨q3, q4⟩ := R2.out.lens (show SzQ ((T : Int) : Rat) 1 by
        rw [← int_mkQ]
        refine SzQ.mkQ_ (by decide) ?_ (by decide)
        rw [Nat.pow_one, B32_eq, Int.natAbs_natCast]; omega)
      clear h3 x3 R2 E2
      have SNZ := Lib.hid (show sumQ qs ≠ 0 from fun e => by have := (proper_facts HP.out).2; rw [e] at this; exact Rat.lt_irrefl this)
      go_wp2_with fail
      refine (ratDiv_any n2 n3 A2 l2 c2 A2' l2' c2' A3 l3 c3 A3' l3' c3' _ (sumQ qs) _ R3.out.1 R3.out.2 SNZ.out (by omega) (by omega) (by omega) (by omega)).mono ?_
      rintro e w4 ⟨ns, S1, k1, d1, S1', k1', d1', rfl, h4, x4⟩
      have xb := (Ext.refl w4).alloc (.cells #[.bool ns, .slice S1 k1 d1, .slice S1' k1' d1'] 29)
      have E4 := Lib.hid ((E3.out.tr x4).tr xb)
      have B4 := Lib.hid (Blk.new w4 29 #[.bool ns, .slice S1 k1 d1, .slice S1' k1' d1'])
      have R4 := Lib.hid (h4.keep xb)
      obtain ⟨lk1, lk2⟩ := h4.lens (SZ.out 0).2.2.1
      clear h4 x4 xb R3 E3 q1 q2 q3 q4 SNZ
      have hmk := run_make_row' (P := Tryd.prog) 34 3 (.int .i64 0) 8 Tryd.underlying34 Tryd.info3 rfl .i64 .i64 n (by omega) (by omega)
      have hmr := run_make_rats n (by omega)
      obtain ⟨wB, hwB⟩ : ∃ wB, wB = w4.alloc (.cells #[.bool ns, .slice S1 k1 d1, .slice S1' k1' d1'] 29) := ⟨_, rfl⟩
      rw [← hwB] at E4 B4 R4
      have hsz : wB.heap.size = w4.heap.size + 1 := by rw [hwB]; simp
      have x1 := (Ext.refl wB).alloc (.cells (madeCells #[.int .i64 0] n) 3)
      have x2 := (Ext.refl (wB.alloc (.cells (madeCells #[.int .i64 0] n) 3))).alloc (.cells (madeCells #[.bool false, .slice none 0 0, .slice none 0 0] (n * 3)) 29)
      have L0 := Lib.hid (show RoS2 wB ((wB.alloc (.cells (madeCells #[.int .i64 0] n) 3)).alloc (.cells (madeCells #[.bool false, .slice none 0 0, .slice none 0 0] (n * 3)) 29)) (w4.heap.size + 1) (w4.heap.size + 1 + 1) n qs T 0 from ⟨by
        rw [headTo_zero]
        have := (NRow.made wB n).keep x2
        rw [hsz] at this; exact this, by
        rw [headTo_zero]
        have := QB.made (wB.alloc (.cells (madeCells #[.int .i64 0] n) 3)) n
        have h9 : (wB.alloc (.cells (madeCells #[.int .i64 0] n) 3)).heap.size = w4.heap.size + 1 + 1 := by simp [hsz]
        rw [h9] at this; exact this, x1.tr x2⟩)
      clear x1 x2
      have HSZ := Lib.hid hsz
      clear hsz
      rw [hwB] at L0
      go_wp2
      rw [← hwB]
      rw [← hwB] at L0
      clear hmk hmr hwB
      generalize ((wB.alloc (.cells (madeCells #[.int .i64 0] n) 3)).alloc (.cells (madeCells #[.bool false, .slice none 0 0, .slice none 0 0] (n * 3)) 29)) = w5 at *
      generalize w4.heap.size = gs at *
      generalize hgw : gs + 1 = gw at *
      generalize hgr : gw + 1 = gr at *
      have hgg : gs < gw ∧ gw < gr := by omega
      have hwg : wB.heap.size ≤ gw ∧ wB.heap.size ≤ gr := by have := HSZ.out; omega
      clear hgw hgr HSZ
      have hz0 : (T : Int) = (T : Int) - ((sumTo (fun j => flN (quoQ qs T j)) 0 : Nat) : Int) := by simp [sumTo]
      have HZ0 := Lib.hid hz0
      clear hz0
      go_loopg [10, 11, 12, 13, 14, 15, 16, 47] n (fun q mt _ _ _ _ _ _ it wr => ∃ (i : Nat), n - i = q ∧ i ≤ n ∧ it = .int .i64 i ∧ mt = .int .i64 ((T : Int) - ((sumTo (fun j => flN (quoQ qs T j)) i : Nat) : Int)) ∧ Hid (RoS2 wB wr gw gr n qs T i))
      case atStart => exact ⟨0, rfl, Nat.zero_le _, rfl, by rw [← HZ0.out], L0⟩
      case round =>
        obtain ⟨i, rfl, hi, rfl, rfl, L⟩ := hrel
        clear L0 HZ0
        have hsb : sumTo (fun j => flN (quoQ qs T j)) i ≤ 4194304 := by
          have h1 := sumTo_le (fun j => flN (quoQ qs T j)) T i (fun j hj => fl_quo_le HP.out T (by rw [HN.out]; omega))
          have h2 : i * T ≤ 64 * 65536 := Nat.mul_le_mul (by omega) hT1.2
          omega
        by_cases hin : i < n
        · obtain ⟨b1, o1, n1, X1, m1, f1, X1', m1', f1', rfl, hb1, y0, y1, y2, hr1⟩ := (HQ.out.keep (E4.out.tr L.out.ext)).at_ (get_some (K := qs) (i := i) (by rw [HN.out]; exact hin))
          have xb1 := (Ext.refl wr).alloc (.cells #[.bool n1, .slice X1 m1 f1, .slice X1' m1' f1'] 29)
          have XB := Lib.hid xb1
          have BX := Blk.new wr 29 #[.bool n1, .slice X1 m1 f1, .slice X1' m1' f1']
          have BS := (B4.out.keep L.out.ext).keep xb1
          obtain ⟨⟨z0, z1, z2⟩, _⟩ := BS.three
          have R1 := Lib.hid (And.intro (hr1.keep xb1) ((R4.out.keep L.out.ext).keep xb1))
          obtain ⟨p1, p2⟩ := hr1.lens (SZ.out i).2.2.2.1
          have iN : (i : Int) < (n : Int) := by omega
          have HST := Lib.hid (show sumTo (fun j => flN (quoQ qs T j)) (i + 1) = sumTo (fun j => flN (quoQ qs T j)) i + flN (quoQ qs T i) from rfl)
          have HFL := Lib.hid (fl_quo_le HP.out T (show i < qs.length by rw [HN.out]; exact hin))
          generalize hM : sumTo (fun j => flN (quoQ qs T j)) i = M at *
          clear hr1 BX BS xb1 hM
          go_wp2_with fail
          refine (ratMul_any n1 ns X1 m1 f1 X1' m1' f1' S1 k1 d1 S1' k1' d1' _ _ _ R1.out.1 R1.out.2 (by omega) (by omega) (by omega) (by omega)).mono ?_
          rintro e w6 ⟨n6, Q1, a1, e1, Q1', a1', e1', rfl, h6, x6⟩
          have h6 : RatR w6 n6 Q1 a1 e1 Q1' a1' e1' (quoQ qs T i) := h6
          obtain rfl := h6.pos (quo_nonneg HP.out T i)
          obtain ⟨u1, u2⟩ := h6.lens (SZ.out i).2.2.2.2.1
          have xb6 := (Ext.refl w6).alloc (.cells #[.bool false, .slice Q1 a1 e1, .slice Q1' a1' e1'] 29)
          have BQ := Lib.hid (Blk.new w6 29 #[.bool false, .slice Q1 a1 e1, .slice Q1' a1' e1'])
          have X6 := Lib.hid ((XB.out.tr x6).tr xb6)
          have R6 := Lib.hid (h6.keep xb6)
          have W6 := Lib.hid (show wr.heap.size ≤ w6.heap.size from (XB.out.tr x6).size)
          clear h6 x6 xb6 R1 XB z0 z1 z2 y0 y1 y2
          go_wp2_with fail
          refine (ratFloor_any Q1 a1 e1 Q1' a1' e1' (quoQ qs T i) _ R6.out (by omega) (by omega)).mono ?_
          rintro e w7 ⟨n7, F1, v1, g1, F1', v1', g1', rfl, h7, x7⟩
          obtain ⟨u3, u4⟩ := h7.lens (SZ.out i).2.2.2.2.2.1
          have xb7 := (Ext.refl w7).alloc (.cells #[.bool n7, .slice F1 v1 g1, .slice F1' v1' g1'] 29)
          have BF := Lib.hid (And.intro ((BQ.out.keep x7).keep xb7) (Blk.new w7 29 #[.bool n7, .slice F1 v1 g1, .slice F1' v1' g1']))
          have X7 := Lib.hid ((X6.out.tr x7).tr xb7)
          have R7 := Lib.hid (And.intro ((R6.out.keep x7).keep xb7) (h7.keep xb7))
          have W7 := Lib.hid (show wr.heap.size ≤ w7.heap.size from (X6.out.tr x7).size)
          clear h7 x7 xb7 R6 X6 BQ
          go_wp2_with fail
          refine (ratNum_any n7 F1 v1 g1 F1' v1' g1' _).mono ?_
          rintro e w8 ⟨rfl, x8⟩
          have BF8 := Lib.hid (And.intro (BF.out.1.keep x8) (BF.out.2.keep x8))
          have X8 := Lib.hid (X7.out.tr x8)
          have R8 := Lib.hid (And.intro (R7.out.1.keep x8) (R7.out.2.keep x8))
          have N8 := Lib.hid (show NatR w8 F1 v1 g1 (flN (quoQ qs T i)) by
            have := R8.out.2.2.1
            rw [flQ_num] at this; exact this)
          clear x8 BF X7 R7
          have hF16 : flN (quoQ qs T i) ≤ 65536 := by have := HFL.out; omega
          have HEQ := Lib.hid (show flN (quoQ qs T i) = flN (quoQ qs T i) from rfl)
          go_wp2_with fail
          refine (natUint64_small F1 v1 g1 (flN (quoQ qs T i)) _ N8.out (by omega)).mono ?_
          rintro e w9 ⟨rfl, x9⟩
          have BF9 := Lib.hid (And.intro (BF8.out.1.keep x9) (BF8.out.2.keep x9))
          have X9 := Lib.hid (X8.out.tr x9)
          have R9 := Lib.hid (And.intro (R8.out.1.keep x9) (R8.out.2.keep x9))
          have L9 := Lib.hid (show RoS2 wB w9 gw gr n qs T i from ⟨L.out.wt.keep X9.out, L.out.rs.keep X9.out, L.out.ext.tr X9.out⟩)
          have hgl := L.out.wt.lt
          have hgl2 := L.out.rs.lt
          have hq1 : w6.heap.size ≠ gw := by have := W6.out; omega
          have hq2 : w7.heap.size ≠ gw := by have := W7.out; omega
          have hq3 : w6.heap.size ≠ gr := by have := W6.out; omega
          have hq4 : w7.heap.size ≠ gr := by have := W7.out; omega
          clear x9 X8 R8 BF8 N8 L hgl hgl2 W6 W7
          have hil : i < (headTo n (fun j => flN (quoQ qs T j)) 0 i).length := by rw [headTo_len]; exact hin
          have cw := L9.out.wt.cell hil
          have fw := L9.out.wt.frozen i
          obtain ⟨F, hF⟩ : ∃ F, F = flN (quoQ qs T i) := ⟨_, rfl⟩
          rw [← hF] at hF16
          rw [← hF]
          obtain ⟨cs9, hcs9, _⟩ := L9.out.wt
          have LA := Lib.hid (show NRow (w9.setCell ⟨gw, i, none⟩ (.int .i64 (F : Int))) gw (headTo n (fun j => flN (quoQ qs T j)) 0 (i + 1)) ∧ QB (w9.setCell ⟨gw, i, none⟩ (.int .i64 (F : Int))) gr (headTo n (restQ qs T) 0 i) ∧ Ext wB (w9.setCell ⟨gw, i, none⟩ (.int .i64 (F : Int))) from ⟨by
            rw [headTo_next _ _ _ hin, ← hF]; exact L9.out.wt.put F hil, L9.out.rs.other (grown_set w9 gw i _) hcs9 (by decide) (by omega), L9.out.ext.set_ (p := ⟨gw, i, none⟩) hwg.1 _⟩)
          have RA := Lib.hid (And.intro (R9.out.1.set_ (p := ⟨gw, i, none⟩) hcs9 (by decide) (.int .i64 (F : Int))) (R9.out.2.set_ (p := ⟨gw, i, none⟩) hcs9 (by decide) (.int .i64 (F : Int))))
          have BA := Lib.hid (And.intro (BF9.out.1.far (p := ⟨gw, i, none⟩) hq1 (.int .i64 (F : Int))) (BF9.out.2.far (p := ⟨gw, i, none⟩) hq2 (.int .i64 (F : Int))))
          obtain ⟨⟨i0, i1, i2⟩, _⟩ := BA.out.1.three
          obtain ⟨⟨j0, j1, j2⟩, _⟩ := BA.out.2.three
          have HF2 := Lib.hid hF
          clear hcs9 L9 R9 BF9 X9 hF
          go_wp2_with fail
          refine (ratSub_any false n7 Q1 a1 e1 Q1' a1' e1' F1 v1 g1 F1' v1' g1' _ _ _ RA.out.1 RA.out.2 (by omega) (by omega) (by omega) (by omega)).mono ?_
          rintro e w10 ⟨n10, G1, r1, t4, G1', r1', t4', rfl, h10, x10⟩
          have h10 : RatR w10 n10 G1 r1 t4 G1' r1' t4' (restQ qs T i) := h10
          have hjl : i < (headTo n (restQ qs T) 0 i).length := by rw [headTo_len]; exact hin
          obtain ⟨_, _, _, _, _, _, _, ⟨s0, s1, s2⟩, ⟨v0, v2, v3⟩, hrr⟩ := (LA.out.2.1.keep x10).at_ (i := i) (List.getElem?_eq_getElem hjl)
          clear hrr
          obtain ⟨ce, hce, hce2⟩ := LA.out.1.keep x10
          have hne2 : gw ≠ gr := by omega
          have LB := Lib.hid (show RoS2 wB (((w10.setCell ⟨gr, i * 3, none⟩ (.bool n10)).setCell ⟨gr, i * 3 + 1, none⟩ (.slice G1 r1 t4)).setCell ⟨gr, i * 3 + 2, none⟩ (.slice G1' r1' t4')) gw gr n qs T (i + 1) from ⟨⟨ce, ((hce.far (p := ⟨gr, i * 3, none⟩) hne2 _).far (p := ⟨gr, i * 3 + 1, none⟩) hne2 _).far (p := ⟨gr, i * 3 + 2, none⟩) hne2 _, hce2⟩, by
            rw [headTo_next _ _ _ hin]; exact (LA.out.2.1.keep x10).put hjl h10, (((LA.out.2.2.tr x10).set_ (p := ⟨gr, i * 3, none⟩) hwg.2 _).set_ (p := ⟨gr, i * 3 + 1, none⟩) hwg.2 _).set_ (p := ⟨gr, i * 3 + 2, none⟩) hwg.2 _⟩)
          have cfin := LB.out.wt.cell (i := i) (by rw [headTo_len]; exact hin)
          have hat : atL (headTo n (fun j => flN (quoQ qs T j)) 0 (i + 1)) i = F := by
            unfold atL
            rw [headTo_get _ _ _ _ _ hin, if_pos (by omega), HF2.out]; rfl
          rw [hat] at cfin
          have HS2 := Lib.hid (show sumTo (fun j => flN (quoQ qs T j)) (i + 1) = M + F by rw [HST.out, HF2.out])
          clear hce hce2 h10 x10 LA RA BA hat HF2 HST HFL HEQ i0 i1 i2 j0 j1 j2 cw fw
          go_wp2
          go_roundg (n - (i + 1))
          case measure => omega
          case rel => exact ⟨i + 1, rfl, by omega, by go_num, by rw [HS2.out]; go_num, LB⟩
        · obtain rfl : i = n := by omega
          have hlt : ¬ (i : Int) < (i : Int) := by omega
          have HRL := Lib.hid (show (restL qs T).length = i by unfold restL; rw [List.length_map, List.length_range]; exact HN.out)
          have HQR := Lib.hid (show QL wr (some ⟨gr, 0, none⟩) (restL qs T) by
            have := L.out.rs.ql
            rw [headTo_end] at this
            unfold restL
            rw [HN.out]; exact this)
          have HMQ := Lib.hid (show (T : Int) - ((sumTo (fun j => flN (quoQ qs T j)) i : Nat) : Int) = missQ qs T by unfold missQ; rw [HN.out])
          rw [HMQ.out]
          go_wp2_with fail
          refine (greatest_ok (some ⟨gr, 0, none⟩) i i (restL qs T) HRL.out h0 (by omega) _ HQR.out (fun q hq => by
            unfold restL at hq
            obtain ⟨j, _, rfl⟩ := List.mem_map.1 hq
            exact (SZ.out j).2.2.2.2.2.2.mono (by decide))).mono ?_
          rintro e w11 ⟨g, c', l, rfl, hrow, hll, hperm, hsrt, hg, x11⟩
          have RK := Lib.hid (rks_of HRL.out hll hperm hsrt)
          have M0 := Lib.hid (show NRow w11 gw (lowTo (restL qs T) i (missQ qs T) (fun j => flN (quoQ qs T j) + 1) (fun j => flN (quoQ qs T j)) 0) ∧ NRow w11 g l ∧ Ext wB w11 from ⟨by
            rw [lowTo_zero, ← headTo_end i (fun j => flN (quoQ qs T j)) 0]; exact L.out.wt.keep x11, hrow, L.out.ext.tr x11⟩)
          have hgw2 : gw < g := by have := L.out.wt.lt; omega
          have HLW := Lib.hid (show (List.range i).map (weightQ qs T) = lowTo (restL qs T) i (missQ qs T) (fun j => flN (quoQ qs T j) + 1) (fun j => flN (quoQ qs T j)) i by rw [lowTo_end RK.out]; rfl)
          clear hrow hll hperm hsrt hg x11 L HQR HMQ HRL hsb
          generalize missQ qs T = MQ at *
          go_wp2
          go_loopg [17, 18, 84] i (fun q _ _ it wr => ∃ p : Nat, i - p = q ∧ p ≤ i ∧ it = .int .i64 p ∧ Hid (NRow wr gw (lowTo (restL qs T) i MQ (fun j => flN (quoQ qs T j) + 1) (fun j => flN (quoQ qs T j)) p) ∧ NRow wr g l ∧ Ext wB wr))
          case atStart => exact ⟨0, rfl, Nat.zero_le _, rfl, M0⟩
          case round =>
            obtain ⟨p, rfl, hpn, rfl, K⟩ := hrel
            clear M0
            by_cases hpi : p < i
            · have pN : (p : Int) < (i : Int) := by omega
              have c1 := K.out.2.1.cell (i := p) (by rw [RK.out.len]; exact hpi)
              have hxn := RK.out.lt p hpi
              have hxr := RK.out.rank p hpi
              have NX := Lib.hid (lowTo_next RK.out MQ (fun j => flN (quoQ qs T j) + 1) (fun j => flN (quoQ qs T j)) hpi)
              generalize hx : atL l p = x at *
              clear hx
              have xN : (x : Int) < (i : Int) := by omega
              by_cases hpk : (p : Int) < MQ
              · have hxl : x < (lowTo (restL qs T) i MQ (fun j => flN (quoQ qs T j) + 1) (fun j => flN (quoQ qs T j)) p).length := by rw [lowTo_len]; exact hxn
                have c2 := K.out.1.cell hxl
                have f2 := K.out.1.frozen x
                have hat : atL (lowTo (restL qs T) i MQ (fun j => flN (quoQ qs T j) + 1) (fun j => flN (quoQ qs T j)) p) x = flN (quoQ qs T x) := by
                  unfold atL
                  rw [lowTo_get _ _ _ _ _ _ _ hxn, hxr, if_neg (by omega)]; rfl
                rw [hat] at c2
                have hF16 : flN (quoQ qs T x) ≤ 65536 := by
                  have := fl_quo_le HP.out T (show x < qs.length by rw [HN.out]; exact hxn)
                  omega
                have hput := K.out.1.put (flN (quoQ qs T x) + 1) hxl
                rw [show ((flN (quoQ qs T x) + 1 : Nat) : Int) = (flN (quoQ qs T x) : Int) + 1 by omega] at hput
                obtain ⟨cn, hcn, hcn2⟩ := K.out.2.1
                have hne : g ≠ gw := by omega
                have PUT := Lib.hid (show NRow (wr.setCell ⟨gw, x, none⟩ (.int .i64 ((flN (quoQ qs T x) : Int) + 1))) gw (lowTo (restL qs T) i MQ (fun j => flN (quoQ qs T j) + 1) (fun j => flN (quoQ qs T j)) (p + 1)) ∧ NRow (wr.setCell ⟨gw, x, none⟩ (.int .i64 ((flN (quoQ qs T x) : Int) + 1))) g l ∧ Ext wB (wr.setCell ⟨gw, x, none⟩ (.int .i64 ((flN (quoQ qs T x) : Int) + 1))) from ⟨by rw [NX.out, if_pos hpk]; exact hput, ⟨cn, hcn.far (p := ⟨gw, x, none⟩) hne _, hcn2⟩, K.out.2.2.set_ (p := ⟨gw, x, none⟩) hwg.1 _⟩)
                clear hput hcn hcn2 K NX hxl hne hat hxr
                generalize flN (quoQ qs T x) = F at *
                go_wp2
                go_roundg (i - (p + 1))
                case measure => omega
                case rel => exact ⟨p + 1, rfl, by omega, by go_num, PUT⟩
              · have HNX := Lib.hid (show lowTo (restL qs T) i MQ (fun j => flN (quoQ qs T j) + 1) (fun j => flN (quoQ qs T j)) (p + 1) = lowTo (restL qs T) i MQ (fun j => flN (quoQ qs T j) + 1) (fun j => flN (quoQ qs T j)) p by rw [NX.out, if_neg hpk])
                clear NX hxr
                go_wp2
                go_roundg (i - (p + 1))
                case measure => omega
                case rel => exact ⟨p + 1, rfl, by omega, by go_num, Lib.hid (by rw [HNX.out]; exact K.out)⟩
            · obtain rfl : p = i := by omega
              have hl2 : ¬ (p : Int) < (p : Int) := by omega
              have F := Lib.hid (show RdT wr 3 (some ⟨gw, 0, none⟩) (ints ((List.range p).map (weightQ qs T))) ∧ Ext w wr from ⟨by rw [HLW.out]; exact K.out.1.rdT, E4.out.tr K.out.2.2⟩)
              clear K HLW
              go_wp2
              exact bodyPost_ret (v := .tuple #[.slice (some ⟨gw, 0, none⟩) p p, .int .i64 0]) (by simp [results, Tryd.results8, go_sem]) rfl (⟨some ⟨gw, 0, none⟩, p, by simp, by simp, F.out.1, F.out.2⟩)
    · have HF := Lib.hid (show R = ([], 1) by
        rw [← HR.out]; unfold roundP
        by_cases h1 : 1 ≤ total
        · rw [decide_eq_false (show ¬ total ≤ 65536 by omega)]; simp
        · rw [decide_eq_false h1]; simp)
      obtain rfl := HF.out
      clear hp
      by_cases h1 : total < 1
      · have t3 : decide (total < 1) = true := by simp; omega
        go_wp2
        exact bodyPost_ret (v := .tuple #[.slice none 0 0, .int .i64 1]) (by simp [results, Tryd.results8, go_sem]) rfl (⟨none, 0, rfl, Nat.le_refl _, RdT.nil _ _ _, E1.out⟩)
      · have t3 : decide (total < 1) = false := by simp; omega
        have t4 : (65536 : Int) < total := by omega
        go_wp2
        exact bodyPost_ret (v := .tuple #[.slice none 0 0, .int .i64 1]) (by simp [results, Tryd.results8, go_sem]) rfl (⟨none, 0, rfl, Nat.le_refl _, RdT.nil _ _ _, E1.out⟩)
end Go.Proofs.YtekiomanidimnaaDoor
