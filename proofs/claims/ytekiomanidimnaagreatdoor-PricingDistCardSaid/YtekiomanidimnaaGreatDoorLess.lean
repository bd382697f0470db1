/- waypointref42.less: whether a path is before another one. -/
import Derived.Test.YtekiomanidimnaaGreatDoorPriceR
import Derived.Test.YtekiomanidimnaaGreatDoorRqD
import Derived.Test.YtekiomanidimnaaGreatDoorDij
set_option linter.unusedVariables false
set_option linter.unusedSimpArgs false

namespace Go.Proofs.YtekiomanidimnaaGreatDoor
open Go.RowKit
theorem ints_iints (x : List Nat) : ints x = iints (x.map fun a : Nat => (a : Int)) := by unfold ints iints; rw [List.map_map]; rfl
theorem priceP_nat {ps : List Rat} {n : Nat} (hn : ps.length = n) {x : List Nat} (h : ∀ a ∈ x, a < n) : priceP ps (x.map fun a : Nat => (a : Int)) = (prQ ps x, 0) := by
  have hg : goodP ps.length (x.map fun a : Nat => (a : Int)) = true := by
    unfold goodP
    rw [List.all_map, List.all_eq_true]
    intro a ha
    have := h a ha
    rw [hn]
    simp
    omega
  unfold priceP prI
  rw [if_pos hg, List.map_map]
  have : (Int.toNat ∘ fun a : Nat => (a : Int)) = id := by funext a; simp
  rw [this, List.map_id]
theorem rpriceN_ok (PP : Option Addr) (n cp : Nat) (ps : List Rat) (hn : ps.length = n) (AP : Option Addr) (m ca : Nat) (x : List Nat) (hm : x.length = m) (w : World) (hq : QLg RQC w PP ps) (hps : ∀ q ∈ ps, SmQ q) (hr : Rd w AP (ints x)) (hx : ∀ a ∈ x, a < n) (hm40 : m ≤ 40) (hn40 : n ≤ 1000) :
    Calls Tryz.prog 29 #[.slice PP n cp, .slice AP m ca] w (RPricePost w (prQ ps x, 0)) := by
  have := rprice_ok PP n cp ps hn AP m ca (x.map fun a : Nat => (a : Int)) (by rw [List.length_map]; exact hm) w hq hps (by rw [← ints_iints]; exact hr) hm40 hn40
  rw [priceP_nat hn hx] at this
  exact this
theorem prQ_sz {ps : List Rat} (hps : ∀ q ∈ ps, SmQ q) (x : List Nat) (hl : x.length ≤ 40) : SzQ (prQ ps x) 81 := by
  have := prI_sz hps (x.map fun a : Nat => (a : Int)) (by rw [List.length_map]; exact hl)
  unfold prI at this
  rw [List.map_map] at this
  have e : (Int.toNat ∘ fun a : Nat => (a : Int)) = id := by funext a; simp
  rw [e, List.map_id] at this
  exact this
theorem bef_q {ps : List Rat} {x y : List Nat} (h : cmpQ (prQ ps x) (prQ ps y) ≠ 0) : befP ps x y = decide (cmpQ (prQ ps x) (prQ ps y) < 0) := by
  unfold befP cmpL or3
  rw [if_pos h]
theorem bef_l {ps : List Rat} {x y : List Nat} (h : cmpQ (prQ ps x) (prQ ps y) = 0) (h2 : x.length ≠ y.length) : befP ps x y = decide (x.length < y.length) := by
  unfold befP cmpL or3 cmpI
  rw [if_neg (by simpa using h)]
  rcases Nat.lt_trichotomy x.length y.length with h3 | h3 | h3
  · simp [h3]
  · exact absurd h3 h2
  · have h4 : ¬ x.length < y.length := by omega
    simp [h4, h2]
theorem bef_x {ps : List Rat} {x y : List Nat} (h : cmpQ (prQ ps x) (prQ ps y) = 0) (h2 : x.length = y.length) : befP ps x y = decide (lexI x y < 0) := by
  unfold befP cmpL or3 cmpI
  rw [if_neg (by simpa using h), h2]
  simp
set_option maxRecDepth 100000 in
set_option maxHeartbeats 4000000 in
theorem rless_ok (PP : Option Addr) (n cp : Nat) (ps : List Rat) (hn : ps.length = n) (A1 : Option Addr) (m1 c1 : Nat) (x : List Nat) (hx : x.length = m1) (A2 : Option Addr) (m2 c2 : Nat) (y : List Nat) (hy : y.length = m2) (w : World) (hq : QLg RQC w PP ps) (hps : ∀ q ∈ ps, SmQ q) (hr1 : Rd w A1 (ints x)) (hr2 : Rd w A2 (ints y)) (hxa : ∀ a ∈ x, a < n) (hya : ∀ a ∈ y, a < n) (hm1 : m1 ≤ 40) (hm2 : m2 ≤ 40) (hn40 : n ≤ 1000) :
    Calls Tryz.prog 68 #[.slice PP n cp, .slice A1 m1 c1, .slice A2 m2 c2] w fun e w' => e = .returned (.bool (befP ps x y)) ∧ Ext w w' := by
  have HQ := Lib.hid (hq)
  have HP := Lib.hid (hps)
  have R1 := Lib.hid (hr1)
  have R2 := Lib.hid (hr2)
  have HN := Lib.hid (hn)
  have HX := Lib.hid (hx)
  have HY := Lib.hid (hy)
  have XA := Lib.hid (hxa)
  have YA := Lib.hid (hya)
  clear hq hps hr1 hr2 hn hx hy hxa hya
  generalize hR : befP ps x y = R
  have HR := Lib.hid (hR)
  clear hR
  go_enter Tryz.func68, Tryz.ntmps68
  go_wp2_with fail
  refine (rpriceN_ok PP n cp ps HN.out A1 m1 c1 x HX.out _ HQ.out HP.out R1.out XA.out hm1 hn40).mono ?_
  rintro e w1 ⟨na, B1, k1, d1, B1', k1', d1', rfl, r1, x1⟩
  have xb := (Ext.refl w1).alloc (.cells #[.bool na, .slice B1 k1 d1, .slice B1' k1' d1'] 51)
  have E1 := Lib.hid (x1.tr xb)
  have RR1 := Lib.hid (r1.keep xb)
  have BB1 := Lib.hid (Blk.new w1 51 #[.bool na, .slice B1 k1 d1, .slice B1' k1' d1'])
  obtain ⟨q1, q2⟩ := r1.lensB (prQ_sz HP.out x (by rw [HX.out]; exact hm1))
  clear r1 x1 xb
  go_wp2_with fail
  refine (rpriceN_ok PP n cp ps HN.out A2 m2 c2 y HY.out _ (HQ.out.keep E1.out) HP.out (R2.out.keep E1.out) YA.out hm2 hn40).mono ?_
  rintro e w2 ⟨nb, B2, k2, d2, B2', k2', d2', rfl, r2, x2⟩
  have xb := (Ext.refl w2).alloc (.cells #[.bool nb, .slice B2 k2 d2, .slice B2' k2' d2'] 51)
  have E2 := Lib.hid ((E1.out.tr x2).tr xb)
  have RR2 := Lib.hid (And.intro ((RR1.out.keep x2).keep xb) (r2.keep xb))
  have BB2 := Lib.hid (And.intro ((BB1.out.keep x2).keep xb) (Blk.new w2 51 #[.bool nb, .slice B2 k2 d2, .slice B2' k2' d2']))
  obtain ⟨q3, q4⟩ := r2.lensB (prQ_sz HP.out y (by rw [HY.out]; exact hm2))
  clear r2 x2 xb E1 RR1 BB1
  obtain ⟨⟨i0, i1, i2⟩, _⟩ := BB2.out.1.three
  obtain ⟨⟨j0, j1, j2⟩, _⟩ := BB2.out.2.three
  go_wp2_with fail
  refine (rqCmp_ok na nb B1 k1 d1 B1' k1' d1' B2 k2 d2 B2' k2' d2' (prQ ps x) (prQ ps y) _ RR2.out.1 RR2.out.2 (by omega) (by omega) (by omega) (by omega)).mono ?_
  rintro e w3 ⟨rfl, x3⟩
  have E3 := Lib.hid (E2.out.tr x3)
  clear x3 i0 i1 i2 j0 j1 j2 BB2 RR2 E2
  by_cases hc : cmpQ (prQ ps x) (prQ ps y) = 0
  case neg =>
    have hne : (cmpQ (prQ ps x) (prQ ps y) != 0) = true := bne_iff_ne.2 hc
    have HRR := Lib.hid (HR.out.symm.trans (bef_q hc))
    clear hc
    generalize cmpQ (prQ ps x) (prQ ps y) = C at *
    go_wp2
    go_ret
    exact ⟨by rw [HRR.out]; rfl, E3.out⟩
  case pos =>
    have HC := Lib.hid (hc)
    rw [hc]
    clear hc
    by_cases hl : m1 = m2
    case neg =>
      have hne : ((m1 : Int) != (m2 : Int)) = true := bne_iff_ne.2 (by omega)
      have HRR := Lib.hid (HR.out.symm.trans (bef_l HC.out (by rw [HX.out, HY.out]; exact hl)))
      rw [HX.out, HY.out] at HRR
      clear hl
      go_wp2
      go_ret
      exact ⟨by rw [HRR.out]; rfl, E3.out⟩
    case pos =>
      subst hl
      have HRR := Lib.hid (HR.out.symm.trans (bef_x HC.out (by rw [HX.out, HY.out])))
      clear HR
      go_wp2
      go_loopg [12] m1 (fun j it wr => ∃ k : Nat, m1 - k = j ∧ k ≤ m1 ∧ it = .int .i64 k ∧ Hid (lexI (x.drop k) (y.drop k) = lexI x y) ∧ Hid (Ext w wr))
      case atStart => exact ⟨0, rfl, Nat.zero_le _, rfl, Lib.hid rfl, E3⟩
      case round =>
        obtain ⟨k, rfl, hk, rfl, LX, EX⟩ := hrel
        by_cases hkl : k < m1
        · obtain ⟨a, ha⟩ : ∃ a, x[k]? = some a := ⟨_, List.getElem?_eq_getElem (by rw [HX.out]; exact hkl)⟩
          obtain ⟨b, hb⟩ : ∃ b, y[k]? = some b := ⟨_, List.getElem?_eq_getElem (by rw [HY.out]; exact hkl)⟩
          obtain ⟨b1, o1, rfl, hb1, hcell1⟩ := (R1.out.keep EX.out).ints_ (k := k) (by rw [HX.out]; exact hkl)
          obtain ⟨b2, o2, rfl, hb2, hcell2⟩ := (R2.out.keep EX.out).ints_ (k := k) (by rw [HY.out]; exact hkl)
          rw [ha, Option.getD_some] at hcell1
          rw [hb, Option.getD_some] at hcell2
          have LX2 := Lib.hid ((lexI_drop ha hb).symm.trans LX.out)
          have x1 := XW.cell _ _ _ hb1 hcell1
          have x2 := XW.cell _ _ _ hb2 hcell2
          have CC := Lib.hid (And.intro (And.intro hb1 hcell1) (And.intro hb2 hcell2))
          clear ha hb hcell1 hcell2
          go_wp2_with fail
          refine wp_region_ext (by kernel_rfl) (by kernel_rfl) ?_
          repeat (go_big_quiet_step (fail))
          refine wpQuiet_nil ?_
          rintro _ ⟨z, rfl⟩
          have hx2 := z.ext
          clear x1 x2
          generalize z.val = w4 at *
          clear z
          have E4 := Lib.hid (EX.out.tr hx2)
          have CC4 := Lib.hid (And.intro (And.intro (Nat.lt_of_lt_of_le CC.out.1.1 hx2.size) ((hx2.cell CC.out.1.1).trans CC.out.1.2)) (And.intro (Nat.lt_of_lt_of_le CC.out.2.1 hx2.size) ((hx2.cell CC.out.2.1).trans CC.out.2.2)))
          clear hx2 CC EX hb1 hb2
          by_cases hab : a = b
          · subst hab
            have LX3 := Lib.hid (show lexI (x.drop (k + 1)) (y.drop (k + 1)) = lexI x y by
              have := LX2.out
              rw [if_neg (by omega), if_pos rfl] at this
              exact this)
            go_wp2
            go_roundg (m1 - (k + 1))
            case measure => omega
            case rel => exact ⟨k + 1, rfl, by omega, by go_num, LX3, E4⟩
          · have hne : ((a : Int) != (b : Int)) = true := by simp; omega
            have HR3 := Lib.hid (show R = decide (a < b) by
              rw [HRR.out, ← LX2.out]
              by_cases h : a < b
              · simp [h]
              · simp [h, hab])
            have x1 := XW.cell _ _ _ CC4.out.1.1 CC4.out.1.2
            have x2 := XW.cell _ _ _ CC4.out.2.1 CC4.out.2.2
            go_wp2_with fail
            refine wp_region_ext (by kernel_rfl) (by kernel_rfl) ?_
            repeat (go_big_quiet_step (fail))
            refine wpQuiet_nil ?_
            rintro _ ⟨z, rfl⟩
            have hx2 := z.ext
            clear x1 x2
            generalize z.val = w5 at *
            clear z
            have E5 := Lib.hid (E4.out.tr hx2)
            clear hx2
            go_wp2
            go_ret
            exact ⟨by rw [HR3.out]; rfl, E5.out⟩
        · have hke : k = m1 := by omega
          subst hke
          have HR3 := Lib.hid (show R = false by
            rw [HRR.out, ← LX.out, List.drop_of_length_le (by rw [HX.out]; exact Nat.le_refl _), List.drop_of_length_le (by rw [HY.out]; exact Nat.le_refl _)]
            rfl)
          go_wp2
          go_ret
          exact ⟨by rw [HR3.out]; rfl, EX.out⟩
end Go.Proofs.YtekiomanidimnaaGreatDoor
