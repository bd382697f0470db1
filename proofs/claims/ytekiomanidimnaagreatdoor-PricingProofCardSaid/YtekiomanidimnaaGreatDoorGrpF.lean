/- waypointref01.DivMod, for a divisor that is not 0. -/
import Derived.Test.YtekiomanidimnaaGreatDoorGrpE
set_option linter.unusedVariables false
set_option linter.unusedSimpArgs false

namespace Go.Proofs.YtekiomanidimnaaGreatDoor
open Go.RowKit
def RDivPost (w : World) (q r : Nat) (e : Ending) (w' : World) : Prop :=
  ∃ (A : Option Addr) (n c : Nat) (A' : Option Addr) (n' c' : Nat), e = .returned (.tuple #[.slice A n c, .slice A' n' c', .int .i64 0]) ∧ GrpR w' A n c q ∧ GrpR w' A' n' c' r ∧ Ext w w'
theorem GrpR.far {w : World} {A : Option Addr} {n c N : Nat} (h : GrpR w A n c N) {p : Addr} (hA : ∀ ad, A = some ad → ad.block ≠ p.block) (u : Value) : GrpR (w.setCell p u) A n c N := by
  obtain ⟨ds, h1, h2, h3, h4, h5⟩ := h
  refine ⟨ds, h1, h2, h3, h4, fun hx => ?_⟩
  obtain ⟨b, o, cs, fr, e, hb, hc⟩ := h5 hx
  exact ⟨b, o, cs, fr, e, (Below.heap_setCell w p u b (hA _ e)).trans hb, hc⟩
/-- The quotient's row, of which the groups from k on are known. -/
def divF (qd : List Nat) (k : Nat) (j : Nat) : Int := if k ≤ j then ((qd[j - k]?.getD 0 : Nat) : Int) else 0
theorem divF_step {qd : List Nat} {k q n : Nat} (hk : 0 < k) : ∀ j, j < n → (if j = k - 1 then ((q : Nat) : Int) else divF qd k j) = divF (q :: qd) (k - 1) j := by
  intro j _
  unfold divF
  by_cases h1 : j = k - 1
  · subst h1; simp
  · rw [if_neg h1]
    by_cases h2 : k ≤ j
    · rw [if_pos h2, if_pos (by omega), show j - (k - 1) = (j - k) + 1 by omega]; simp
    · rw [if_neg h2, if_neg (by omega)]
structure LongSt (ds : List Nat) (b n k R : Nat) (qd : List Nat) : Prop where
  len : qd.length = n - k
  lt : ∀ d ∈ qd, d < G6
  val : Dig.val G6 (ds.drop k) = b * Dig.val G6 qd + R
  R : R < b
theorem LongSt.step {ds qd : List Nat} {b n k R x q : Nat} (h : LongSt ds b n k R qd) (hk : 0 < k) (hkn : k ≤ n) (hn : ds.length = n) (hx : x = ds[k - 1]?.getD 0) (hxb : x < G6) (hq : q ≤ 999999) (h1 : b * q ≤ x + G6 * R) (h2 : q = 999999 ∨ x + G6 * R < b * (q + 1)) :
    LongSt ds b n (k - 1) (x + G6 * R - b * q) (q :: qd) := by
  have hR := h.R
  have key : x + G6 * R < b * (q + 1) := by
    rcases h2 with h3 | h3
    · subst h3
      have : G6 * R + G6 ≤ b * G6 := by
        rw [Nat.mul_comm b G6, ← Nat.mul_succ]; exact Nat.mul_le_mul_left _ hR
      rw [show 999999 + 1 = G6 from rfl]
      omega
    · exact h3
  refine ⟨by rw [List.length_cons, h.len]; omega, fun d hd => ?_, ?_, ?_⟩
  · rcases List.mem_cons.1 hd with e | e
    · rw [e, G6_eq]; omega
    · exact h.lt d e
  · rw [drop_next ds (k - 1) (by omega), ← hx, show k - 1 + 1 = k by omega, h.val, Dig.val_cons, Nat.mul_add, Nat.mul_add, ← Nat.mul_assoc, ← Nat.mul_assoc, Nat.mul_comm G6 b]
    omega
  · rw [Nat.mul_add] at key; omega
set_option maxRecDepth 100000 in
set_option maxHeartbeats 4000000 in
theorem rDivMod_ok (A1 A2 : Option Addr) (n1 c1 n2 c2 a b : Nat) (w : World) (h1 : GrpR w A1 n1 c1 a) (h2 : GrpR w A2 n2 c2 b) (hn1 : n1 ≤ 10000000) (hn2 : n2 ≤ 1000000) (hb0 : 0 < b) :
    Calls Tryz.prog 143 #[.slice A1 n1 c1, .slice A2 n2 c2] w (RDivPost w (a / b) (a % b)) := by
  obtain ⟨ti, hi, hz0, hz1, hz2⟩ := info_parts Tryz.info3
  have z2 : ((n2 : Int) == 0) = false := by
    have := h2.eq_zero
    exact beq_eq_false_iff_ne.2 (by omega)
  have H1 := Lib.hid (h1)
  have H2 := Lib.hid (h2)
  clear h1 h2
  go_enter Tryz.func143, Tryz.ntmps143
  go_wp2_with fail
  refine (rUint_ok A1 n1 c1 a _ H1.out (by omega)).mono ?_
  rintro e w1 ⟨x, ok1, rfl, hx1, x1⟩
  have X1 := Lib.hid (x1)
  clear x1
  go_wp2_with fail
  refine (rUint_ok A2 n2 c2 b _ (H2.out.keep X1.out) (by omega)).mono ?_
  rintro e w2 ⟨y, ok2, rfl, hx2, x2⟩
  have X2 := Lib.hid (X1.out.tr x2)
  clear x2 X1
  by_cases hs : a < U64 ∧ b < U64
  · obtain ⟨rfl, rfl⟩ : x = a ∧ ok1 = true := by
      rcases hx1 with ⟨_, h1, h2⟩ | ⟨h, _⟩
      · exact ⟨h1, h2⟩
      · omega
    obtain ⟨rfl, rfl⟩ : y = b ∧ ok2 = true := by
      rcases hx2 with ⟨_, h1, h2⟩ | ⟨h, _⟩
      · exact ⟨h1, h2⟩
      · omega
    clear hx1 hx2
    obtain ⟨Q, hQ⟩ : ∃ Q, Q = x / y := ⟨_, rfl⟩
    obtain ⟨R, hR0⟩ : ∃ R, R = x % y := ⟨_, rfl⟩
    have hdv : (x : Int).tdiv y = (Q : Int) := by rw [Int.tdiv_eq_ediv_of_nonneg (by omega), hQ]; simp
    have hmd : (x : Int).tmod y = (R : Int) := by rw [Int.tmod_eq_emod_of_nonneg (by omega), hR0]; simp
    have hd1 : Q < U64 := Nat.lt_of_le_of_lt (by rw [hQ]; exact Nat.div_le_self _ _) hs.1
    have hm1 : R < U64 := Nat.lt_of_lt_of_le (by rw [hR0]; exact Nat.mod_lt _ hb0) (Nat.le_of_lt hs.2)
    have hbn : ¬ y = 0 := by omega
    have hwr : IntKind.u64.wrap (Q : Int) = (Q : Int) := by rw [IntKind.wrap_u64]; exact Int.emod_eq_of_lt (by omega) (by rw [U64_eq] at hd1; omega)
    have HD := Lib.hid (And.intro hd1 hm1)
    have HQ := Lib.hid (hQ)
    have HR := Lib.hid (hR0)
    clear hQ hR0 hd1 hm1 hs
    go_wp2
    have X2 : Hid (Ext w w2.drew) := X2.out.drewN 1
    have tok : True := trivial
    go_region_held3 (fun _ => True) (trivial) (first
      | (go_at_call 144; have _t := tok; refine (refOf_ok _ _ HD.out.1).mono ?_; rintro e w5 ⟨A5, n5, c5, rfl, hR5, hx5, _⟩; clear tok; have X5 := Lib.hid (X2.out.tr hx5))
      | (go_at_call 144; refine (refOf_ok _ _ HD.out.2).mono ?_; rintro e w6 ⟨A6, n6, c6, rfl, hR6, hx6, _⟩; have X6 := Lib.hid (X5.out.tr hx6)))
    go_wp2
    have e1 : GrpR w6 A5 n5 c5 (x / y) := by have := hR5.keep hx6; rw [← HQ.out]; exact this
    have e2 : GrpR w6 A6 n6 c6 (x % y) := by rw [← HR.out]; exact hR6
    exact bodyPost_ret (v := .tuple #[.slice A5 n5 c5, .slice A6 n6 c6, .int .i64 0]) (by simp [results, Tryz.results143, go_sem]) rfl ⟨_, _, _, _, _, _, rfl, e1, e2, X6.out⟩
  · obtain ⟨ds, hdl, hc1, hcan, hdv, hr1⟩ := H1.out
    have DS := Lib.hid (And.intro hdl (And.intro hcan.lt (And.intro hdv hr1.rd)))
    clear hdl hcan hdv hr1
    have hmk := run_make_row' (P := Tryz.prog) 39 3 (.int .i64 0) 8 Tryz.underlying39 Tryz.info3 rfl .i64 .i64 n1 (by omega) (by omega)
    have hok : (ok1 && ok2) = false := by
      rcases hx1 with ⟨g1, _, g2⟩ | ⟨g1, g2⟩
      · rcases hx2 with ⟨g3, _, g4⟩ | ⟨g3, g4⟩
        · exact absurd ⟨g1, g3⟩ hs
        · rw [g4]; simp
      · rw [g2]; rfl
    clear hx1 hx2 hs
    go_upto_region 5 with fail
    go_cut [30] (fun s wx => s = .bool false ∧ wx = w2)
    case first =>
      cases ok1 <;> cases ok2
      · go_wp2
        go_meet
        exact ⟨rfl, rfl⟩
      · go_wp2
        go_meet
        exact ⟨rfl, rfl⟩
      · go_wp2
        go_meet
        exact ⟨rfl, rfl⟩
      · cases hok
    case rest =>
      obtain ⟨rfl, rfl⟩ := hcut
      have hrow : IRow ((wc.alloc (.cells (madeCells #[.int .i64 0] n1) 3)).alloc (.cells #[] 3)) wc.heap.size n1 (divF [] n1) := by
        refine IRow.of_blk ((Blk.new wc 3 (madeCells #[.int .i64 0] n1)).alloc _) (fun j hj => ?_)
        unfold divF
        rw [if_neg (by omega), ← Array.getElem?_toList, toList_madeCells_one]
        simp [hj]
      have R0 := Lib.hid hrow
      have E0 := Lib.hid ((X2.out.alloc (.cells (madeCells #[.int .i64 0] n1) 3)).alloc (.cells #[] 3))
      have G0 := Lib.hid (GrpR.zero ((wc.alloc (.cells (madeCells #[.int .i64 0] n1) 3)).alloc (.cells #[] 3)) (some ⟨wc.heap.size + 1, 0, none⟩) 0)
      have L0 := Lib.hid (show LongSt ds b n1 n1 0 [] from ⟨by simp, (fun _ h => by cases h), by rw [List.drop_of_length_le (by rw [DS.out.1]; omega)]; simp [Dig.val], hb0⟩)
      have hgw : w.heap.size ≤ wc.heap.size := X2.out.size
      generalize hg : wc.heap.size = g at *
      clear hrow
      go_wp2
      go_loopg [12, 13] n1 (fun m rt it wr => ∃ (k R : Nat) (qd : List Nat) (AR : Option Addr) (nR cR : Nat), k = m ∧ k ≤ n1 ∧ it = .int .i64 (k - 1) ∧ rt = .slice AR nR cR ∧ Hid (GrpR wr AR nR cR R) ∧ Hid (IRow wr g n1 (divF qd k)) ∧ Hid (LongSt ds b n1 k R qd) ∧ Hid (Ext w wr))
      case atStart => exact ⟨n1, 0, [], some ⟨g + 1, 0, none⟩, 0, 0, rfl, Nat.le_refl _, by go_num, by simp [hg], G0, R0, L0, E0⟩
      case round =>
        obtain ⟨k, R, qd, AR, nR, cR, rfl, hk, rfl, rfl, GR, RW, LS, EW⟩ := hrel
        clear R0 E0 G0 L0
        by_cases h0 : k = 0
        · subst h0
          have hrd := RW.out.rd (l := qd) (by rw [LS.out.len]; omega) (fun j hj => by unfold divF; rw [if_pos (by omega)]; simp)
          have LV := Lib.hid (show Dig.val G6 qd = a / b ∧ R = a % b from by
            have h1 := LS.out.val
            have h2 := LS.out.R
            rw [List.drop_zero, DS.out.2.2.1] at h1
            rw [h1, Nat.mul_add_div hb0, Nat.div_eq_of_lt h2, Nat.add_zero, Nat.mul_add_mod, Nat.mod_eq_of_lt h2]
            exact ⟨rfl, rfl⟩)
          have RR := Lib.hid (hrd)
          clear hrd
          go_wp2_with fail
          refine (without_ok' (some ⟨g, 0, none⟩) n1 n1 qd (by rw [LS.out.len]; omega) _ RR.out (Nat.le_refl _) LS.out.lt (by omega)).mono ?_
          rintro e w5 ⟨A5, n5, c5, rfl, h5, x5, _⟩
          rw [LV.out.1] at h5
          have e2 := GR.out.keep x5
          rw [LV.out.2] at e2
          have F := Lib.hid (And.intro h5 (And.intro e2 (EW.out.tr x5)))
          clear h5 x5 e2
          go_wp2
          exact bodyPost_ret (v := .tuple #[.slice A5 n5 c5, .slice AR nR cR, .int .i64 0]) (by simp [results, Tryz.results143, go_sem]) rfl ⟨_, _, _, _, _, _, rfl, F.out.1, F.out.2.1, F.out.2.2⟩
        · have hkl : k - 1 < ds.length := by rw [DS.out.1]; omega
          obtain ⟨x, hx⟩ : ∃ x, x = ds[k - 1]?.getD 0 := ⟨_, rfl⟩
          have hxb : x < 1000000 := by
            rw [hx, List.getElem?_eq_getElem hkl]
            exact DS.out.2.1 _ (List.getElem_mem _)
          obtain ⟨bb, oo, hA1, hbb, hcell⟩ := DS.out.2.2.2.ints (k := k - 1) hkl
          subst hA1
          have k1 := EW.out.cell (p := ⟨bb, oo + (k - 1), none⟩) hbb
          rw [hcell (k - 1) hkl, ← hx] at k1
          clear hcell hbb hkl
          have SX := Lib.hid hx
          have i0 : (0 : Int) ≤ (k : Int) - 1 := by omega
          have i3 : ((k : Int) - 1).toNat = k - 1 := by omega
          obtain ⟨rs, hrl, hcR, hrc, hrv, hrr⟩ := GR.out
          have hnR : nR ≤ n2 := GR.out.lenOf (Nat.lt_trans LS.out.R H2.out.lt_pow)
          have RS := Lib.hid (And.intro hrl (And.intro hrc.lt (And.intro hrv hrr.rd)))
          have HA := Lib.hid (show AR = none → nR = 0 from fun h => by
            rcases Nat.eq_zero_or_pos nR with h0 | h0
            · exact h0
            · obtain ⟨b, o, e, _⟩ := hrr.rd.ints (k := 0) (by omega)
              rw [h] at e; cases e)
          clear hrl hrc hrv hrr hx
          go_wp2_with (at_builtin; go_must (refine wpList_append_rd2 _ rfl (.tmp 54) (.tmp 55) 39 49 rfl wr.heap.size 3 ti (.int .i64 0) 8 3 Tryz.underlying49 Tryz.underlying39 hi hz0 hz1 hz2 rfl (.slice (some ⟨wr.heap.size, 0, none⟩) 1 1) 1 [.int .i64 (x : Int)] rfl ?c0 AR nR cR (ints rs) rfl ?c1 ?c2 ?c3 (ints_one _) ?c4 ?c5 ?c6 ?_))
          case c0 => exact ⟨rfl, .inr ⟨wr.heap.size, 1, #[.int .i64 (x : Int)], rfl, Nat.le_refl _, heap_alloc_new wr _, Nat.le_refl _, by unfold maxLen; omega, rfl, rfl⟩⟩
          case c1 => rw [ints_length]; exact RS.out.1.symm
          case c2 => exact RS.out.2.2.2.keep ((Ext.refl _).alloc _)
          case c3 => exact fun h => .inr (HA.out h)
          case c4 => unfold maxLen; omega
          case c5 => omega
          case c6 => simp
          intro v3 w3 hown3 hgrow3 _
          have e3 : Ext wr w3 := Below.grown ((Ext.refl wr).alloc (.cells #[.int .i64 (x : Int)] 3)) hgrow3 (by simp) (fun k hk => by simp [Value.ownBlock] at hk; omega)
          have hown3' : w3.ownsRow wr.heap.size 3 1 v3 (1 + nR) (ints (x :: rs)) := hown3
          obtain ⟨A3, c3, rfl, hc3, hr3⟩ := ownsRow_rdT (l := x :: rs) hown3' (by rw [List.length_cons, RS.out.1]; omega)
          have E3 := Lib.hid (EW.out.tr e3)
          have RW3 := Lib.hid (RW.out.keep e3)
          have hl3 : (x :: rs).length = nR + 1 := by rw [List.length_cons, RS.out.1]
          have R3 := Lib.hid hr3.rd
          rw [hl3] at hc3 ⊢
          clear hown3 hown3' hgrow3 e3 hr3
          go_wp2_with fail
          refine (without_ok' A3 (nR + 1) c3 (x :: rs) hl3 _ R3.out hc3 (fun d hd => by
            rcases List.mem_cons.1 hd with e | e
            · rw [e]; exact hxb
            · exact RS.out.2.1 d e) (by omega)).mono ?_
          rintro e w4 ⟨A4, n4, c4, rfl, h4, x4, fr4⟩
          rw [Dig.val_cons, RS.out.2.2.1] at h4
          have hn4 : n4 ≤ n2 + 1 := h4.lenOf (by
            have h1 := H2.out.lt_pow
            have h2 := LS.out.R
            rw [Nat.pow_succ, Nat.mul_comm (G6 ^ n2)]
            have : G6 * R + G6 ≤ G6 * G6 ^ n2 := by rw [← Nat.mul_succ]; exact Nat.mul_le_mul_left _ (by omega)
            rw [G6_eq] at this ⊢
            omega)
          have E4 := Lib.hid (E3.out.tr x4)
          have RW4 := Lib.hid (RW3.out.keep x4)
          have FR4 := Lib.hid (show ∀ ad, A4 = some ad → ad.block ≠ g from fun ad h => by have := fr4 ad h; have := RW3.out.lt; omega)
          have G4 := Lib.hid h4
          clear h4 x4 fr4 E3 RW3 R3
          go_wp2_with fail
          refine (fits_ok A4 A2 n4 c4 n2 c2 _ b _ G4.out (H2.out.keep E4.out) (by omega)).mono ?_
          rintro e w5 ⟨q, rfl, hq1, hq2, hq3, x5⟩
          have E5 := Lib.hid (E4.out.tr x5)
          have RW5 := Lib.hid (RW4.out.keep x5)
          have G5 := Lib.hid (G4.out.keep x5)
          have LS5 := Lib.hid (LS.out.step (by omega) hk DS.out.1 SX.out hxb hq1 hq2 hq3)
          have QQ := Lib.hid hq2
          have fz := RW5.out.frozen (k - 1)
          have fc := RW5.out.cell (j := k - 1) (by omega)
          have RW6 := Lib.hid (RW5.out.set_ (k - 1) (q : Int))
          have kc := RW6.out.cell (j := k - 1) (by omega)
          simp only [if_true] at kc
          have E6 := Lib.hid (E5.out.set_ (p := ⟨g, k - 1, none⟩) hgw (.int .i64 (q : Int)))
          have G6' := Lib.hid (G5.out.far (p := ⟨g, k - 1, none⟩) FR4.out (.int .i64 (q : Int)))
          clear x5 hq2 hq3 E4 RW4 G4 E5 G5
          go_wp2_with fail
          refine (times_ok A2 n2 c2 b q _ (H2.out.keep E6.out) (by omega) (by omega)).mono ?_
          rintro e w7 ⟨A7, n7, c7, rfl, h7, x7, _⟩
          have E7 := Lib.hid (E6.out.tr x7)
          have RW7 := Lib.hid (RW6.out.keep x7)
          have G7 := Lib.hid (And.intro (G6'.out.keep x7) h7)
          clear x7 h7 E6 RW6 G6' kc fz fc RW5
          go_wp2_with fail
          refine (rSub_ok A4 A7 n4 c4 n7 c7 _ (b * q) _ G7.out.1 G7.out.2 (by omega) QQ.out).mono ?_
          rintro e w8 ⟨A8, n8, c8, rfl, h8, x8⟩
          have E8 := Lib.hid (E7.out.tr x8)
          have RW8 := Lib.hid ((RW7.out.keep x8).congr (divF_step (q := q) (n := n1) (by omega)))
          have G8 := Lib.hid h8
          clear x8 h8 E7 RW7 G7
          go_wp2
          go_roundg (k - 1)
          case measure => omega
          case rel => exact ⟨k - 1, _, q :: qd, A8, n8, c8, rfl, by omega, by go_num, rfl, G8, RW8, LS5, E8⟩
end Go.Proofs.YtekiomanidimnaaGreatDoor
