/- waypointref01.Sub, where the difference is at least 0. -/
import Derived.Test.YtekiomanidimnaaGreatDoorGrpD
set_option linter.unusedVariables false
set_option linter.unusedSimpArgs false

namespace Go.Proofs.YtekiomanidimnaaGreatDoor
open Go.RowKit
theorem subF_a {xs r : List Nat} {i β d n : Nat} (hr : r.length = i) : ∀ j, j < n → (if j = i then ((d : Nat) : Int) else subF xs r i β j) = subF xs (r ++ [d]) (i + 1) 0 j := by
  intro j _
  unfold subF
  by_cases h1 : j = i
  · subst h1
    rw [if_pos rfl, if_pos (by omega), List.getElem?_append_right (by omega), hr]
    simp
  · by_cases h2 : j < i
    · rw [if_neg h1, if_pos h2, if_pos (by omega), List.getElem?_append_left (by omega)]
    · rw [if_neg h1, if_neg h2, if_neg h1, if_neg (by omega)]
      split <;> simp
theorem subF_b {xs r : List Nat} {i β d n : Nat} (hr : r.length = i) : ∀ j, j < n → (if j = i + 1 then ((xs[i + 1]?.getD 0 : Nat) : Int) - 1 else if j = i then ((d : Nat) : Int) else subF xs r i β j) = subF xs (r ++ [d]) (i + 1) 1 j := by
  intro j hj
  by_cases h1 : j = i + 1
  · subst h1
    unfold subF
    rw [if_pos rfl, if_neg (by omega), if_pos rfl]
    rfl
  · rw [if_neg h1, subF_a hr j hj]
    unfold subF
    by_cases h2 : j < i + 1
    · rw [if_pos h2, if_pos h2]
    · rw [if_neg h2, if_neg h2, if_neg h1, if_neg h1]
theorem sub_neg {W : World} {g n i β d : Nat} {xs r : List Nat} {f : Nat → Int} {z : Nat} (h : IRow W g n f) (hf : ∀ j, j ≠ i → f j = subF xs r i β j) (hr : r.length = i) (hi : i + 1 < n) (hz : z = xs[i + 1]?.getD 0) (v2 : Int) (hv : v2 = ((d : Nat) : Int)) :
    (W.setCell ⟨g, i, none⟩ (.int .i64 v2)).cell? ⟨g, i + 1, none⟩ = some (.int .i64 (z : Int)) ∧ (W.setCell ⟨g, i, none⟩ (.int .i64 v2)).frozen? ⟨g, i + 1, none⟩ = false ∧
    IRow ((W.setCell ⟨g, i, none⟩ (.int .i64 v2)).setCell ⟨g, i + 1, none⟩ (.int .i64 ((z : Int) - 1))) g n (subF xs (r ++ [d]) (i + 1) 1) := by
  have h2 := h.set_ i v2
  refine ⟨?_, h2.frozen _, ?_⟩
  · rw [h2.cell hi]
    simp only [if_neg (show ¬ i + 1 = i by omega)]
    rw [hf (i + 1) (by omega), hz]
    unfold subF
    rw [if_neg (by omega), if_neg (by omega)]
  · refine (h2.set_ (i + 1) ((z : Int) - 1)).congr (fun j hj => ?_)
    rw [← subF_b (β := β) hr j hj]
    by_cases h1 : j = i + 1
    · rw [if_pos h1, if_pos h1, hz]
    · rw [if_neg h1, if_neg h1]
      by_cases h3 : j = i
      · rw [if_pos h3, if_pos h3, hv]
      · rw [if_neg h3, if_neg h3, hf j h3]
set_option maxRecDepth 100000 in
set_option maxHeartbeats 4000000 in
theorem rSub_ok (A1 A2 : Option Addr) (n1 c1 n2 c2 a b : Nat) (w : World) (h1 : GrpR w A1 n1 c1 a) (h2 : GrpR w A2 n2 c2 b) (hn : n1 ≤ 100000000) (hle : b ≤ a) :
    Calls Tryz.prog 137 #[.slice A1 n1 c1, .slice A2 n2 c2] w fun e w' => ∃ (A : Option Addr) (n c : Nat), e = .returned (.tuple #[.slice A n c, .int .i64 0]) ∧ GrpR w' A n c (a - b) ∧ Ext w w' := by
  obtain ⟨ti, hi, hz0, hz1, hz2⟩ := info_parts Tryz.info3
  have H1 := Lib.hid (h1)
  have H2 := Lib.hid (h2)
  obtain ⟨xs, hxl, hc1, hcx, hxv, hr1⟩ := h1
  obtain ⟨ys, hyl, hc2, hcy, hyv, hr2⟩ := h2
  have hlen : ys.length ≤ xs.length := by
    rcases Nat.lt_or_ge xs.length ys.length with h | h
    · have := Dig.Canon.len_lt G6_gt hcx hcy h; omega
    · exact h
  have HA := Lib.hid (show A1 = none → n1 = 0 from fun h => by
    rcases Nat.eq_zero_or_pos n1 with h0 | h0
    · exact h0
    · obtain ⟨b, o, e, _⟩ := hr1.rd.ints (k := 0) (by omega)
      rw [h] at e; cases e)
  have HX := Lib.hid (And.intro hxl (And.intro hcx.lt (And.intro hxv hr1.rd)))
  have HY := Lib.hid (And.intro hyl (And.intro hcy.lt (And.intro hyv hr2.rd)))
  have hn2 : n2 ≤ n1 := by omega
  clear hxl hcx hxv hr1 hyl hcy hyv hr2 hlen
  go_enter Tryz.func137, Tryz.ntmps137
  go_wp2_with fail
  refine (rCmp_ok A1 A2 n1 c1 n2 c2 a b _ H1.out H2.out (by omega)).mono ?_
  rintro e w1 ⟨rfl, x1⟩
  have hcm : ¬ cmpI a b < 0 := by unfold cmpI; rw [if_neg (by omega)]; split <;> decide
  have hb : decide (cmpI a b < 0) = false := by simpa using hcm
  have X1 := Lib.hid (x1)
  clear hcm x1
  go_wp2_with (at_builtin; go_must (refine wpList_append_rd2 _ rfl (.tmp 12) (.tmp 13) 39 49 rfl w1.heap.size 3 ti (.int .i64 0) 8 3 Tryz.underlying49 Tryz.underlying39 hi hz0 hz1 hz2 rfl (.slice (some ⟨w1.heap.size, 0, none⟩) 0 0) 0 [] rfl ?c0 A1 n1 c1 (ints xs) rfl ?c1 ?c2 ?c3 (ints_one _) ?c4 ?c5 ?c6 ?_))
  case c0 => exact ownsRow_fresh w1 w1.heap.size 3 (Nat.le_refl _)
  case c1 => rw [ints_length]; exact HX.out.1.symm
  case c2 => exact (HX.out.2.2.2.keep X1.out).keep ((Ext.refl _).alloc _)
  case c3 => exact fun h => .inr (HA.out h)
  case c4 => unfold maxLen; omega
  case c5 => omega
  case c6 => simp
  intro v3 w3 hown3 hgrow3 _
  have e3 : Ext w1 w3 := Below.grown ((Ext.refl w1).alloc (.cells #[] 3)) hgrow3 (by simp) (fun k hk => by simp [Value.ownBlock] at hk; omega)
  have OW := Lib.hid (show OI w3 w1.heap.size v3 xs by unfold OI; rw [HX.out.1]; simpa using hown3)
  have E3 := Lib.hid (X1.out.tr e3)
  clear hown3 hgrow3 e3
  by_cases h0 : n1 = 0
  · subst h0
    obtain rfl : xs = [] := List.eq_nil_of_length_eq_zero HX.out.1
    obtain rfl : ys = [] := List.eq_nil_of_length_eq_zero (by have := HY.out.1; omega)
    obtain ⟨A3, c3, rfl, hc3, hr3⟩ := OW.out.rdT
    have hab : Dig.val G6 [] = a - b := by rw [← HX.out.2.2.1, ← HY.out.2.2.1]; rfl
    have HAB := Lib.hid (hab)
    have R3 := Lib.hid (hr3.rd)
    clear hab hr3 OW
    rw [show ([] : List Nat).length = 0 from rfl] at *
    go_wp2
    go_loopg [7] 0 (fun k it wr => it = .int .i64 0 ∧ wr = w3)
    case atStart => exact ⟨rfl, rfl⟩
    case round =>
      obtain ⟨rfl, rfl⟩ := hrel
      go_wp2_with fail
      refine (without_ok' A3 0 c3 [] rfl _ R3.out hc3 (fun _ h => by cases h) (by omega)).mono ?_
      rintro e w5 ⟨A5, n5, c5, rfl, h5, x5, _⟩
      rw [HAB.out] at h5
      have F := Lib.hid (And.intro h5 (E3.out.tr x5))
      clear h5 x5
      go_wp2
      exact bodyPost_ret (v := .tuple #[.slice A5 n5 c5, .int .i64 0]) (by simp [results, Tryz.results137, go_sem]) rfl ⟨_, _, _, rfl, F.out.1, F.out.2⟩
  · obtain ⟨g, c3, rfl, hc3, hg, hrow⟩ := OW.out.irow (by rw [HX.out.1]; omega)
    rw [HX.out.1] at hc3 hrow
    have hgw : w.heap.size ≤ g := Nat.le_trans X1.out.size hg
    rw [HX.out.1]
    have S0 := Lib.hid (show SubSt xs ys 0 [] 0 from ⟨rfl, (fun _ h => by cases h), by omega, by simp [Dig.val]⟩)
    have R0 := Lib.hid (show IRow w3 g n1 (subF xs [] 0 0) from hrow.congr (fun j _ => by unfold subF; rw [if_neg (by omega)]; split <;> simp))
    clear hrow OW hg
    go_wp2
    go_loopg [7] n1 (fun k it wr => ∃ (i : Nat) (r : List Nat) (β : Nat), n1 - i = k ∧ i ≤ n1 ∧ it = .int .i64 i ∧ Hid (SubSt xs ys i r β) ∧ Hid (IRow wr g n1 (subF xs r i β)) ∧ Hid (Ext w wr))
    case atStart => exact ⟨0, [], 0, rfl, Nat.zero_le _, rfl, S0, R0, E3⟩
    case round =>
      obtain ⟨i, r, β, rfl, hik, rfl, ST, RW, EW⟩ := hrel
      clear S0 R0 E3
      by_cases hin : i < n1
      · obtain ⟨x, hx⟩ : ∃ x, x = xs[i]?.getD 0 := ⟨_, rfl⟩
        obtain ⟨y, hy⟩ : ∃ y, y = ys[i]?.getD 0 := ⟨_, rfl⟩
        have hxb : x < 1000000 := by
          rw [hx, List.getElem?_eq_getElem (by rw [HX.out.1]; exact hin)]
          exact HX.out.2.1 _ (List.getElem_mem _)
        have hyb : y < 1000000 := by
          rw [hy]
          rcases Nat.lt_or_ge i ys.length with h | h
          · rw [List.getElem?_eq_getElem h]; exact HY.out.2.1 _ (List.getElem_mem _)
          · rw [List.getElem?_eq_none h]; decide
        have hβ := ST.out.b1
        have k0 := RW.out.cell (j := i) hin
        have f0 := RW.out.frozen i
        rw [show subF xs r i β i = (x : Int) - (β : Int) from by unfold subF; rw [if_neg (by omega), if_pos rfl, hx]] at k0
        have SX := Lib.hid hx
        have SY := Lib.hid hy
        clear hx hy
        by_cases hyl : i < n2
        · obtain ⟨bb, oo, rfl, hbb, hcell⟩ := HY.out.2.2.2.ints (k := i) (by rw [HY.out.1]; exact hyl)
          have k1 := EW.out.cell (p := ⟨bb, oo + i, none⟩) hbb
          rw [hcell i (by rw [HY.out.1]; exact hyl), ← SY.out] at k1
          clear hcell hbb
          have RW1 := Lib.hid (RW.out.set_ i ((x : Int) - (β : Int) - (y : Int)))
          have k2 := RW1.out.cell (j := i) hin
          have f2 := RW1.out.frozen i
          simp only [if_true] at k2
          by_cases hd : y + β ≤ x
          · have hnn : decide ((x : Int) - (β : Int) - (y : Int) < 0) = false := by simp; omega
            have SD := Lib.hid (ST.out.step (d := x - β - y) (β' := 0) (by rw [G6_eq]; omega) (by omega) (by rw [← SX.out, ← SY.out]; omega))
            have RD := Lib.hid (show IRow ((wr.setCell ⟨g, i, none⟩ (.int .i64 ((x : Int) - (β : Int) - (y : Int)))).drewN 1) g n1 (subF xs (r ++ [x - β - y]) (i + 1) 0) from by
              refine (RW1.out.congr (fun j hj => ?_)).drewN 1
              rw [← subF_a (β := β) ST.out.len j hj, show ((x - β - y : Nat) : Int) = (x : Int) - (β : Int) - (y : Int) by omega])
            go_wp2
            go_region
            all_goals go_wp2
            go_roundg (n1 - (i + 1))
            case measure => omega
            case rel => exact ⟨i + 1, r ++ [x - β - y], 0, rfl, by omega, by go_num, SD, RD, Lib.hid ((EW.out.set_ (p := ⟨g, i, none⟩) hgw _).drewN 1)⟩
          · have hnn : decide ((x : Int) - (β : Int) - (y : Int) < 0) = true := by simp; omega
            have SD := Lib.hid (ST.out.step (d := x + 1000000 - β - y) (β' := 1) (by rw [G6_eq]; omega) (by omega) (by rw [← SX.out, ← SY.out, G6_eq]; omega))
            have hi1 : i + 1 < n1 := by
              rcases Nat.lt_or_ge (i + 1) n1 with h | h
              · exact h
              · have hh : i + 1 = n1 := by omega
                have hs := SD.out
                rw [hh] at hs
                have := (hs.done (by rw [HX.out.1]; omega) (by rw [HY.out.1]; exact hn2) (by rw [HX.out.2.2.1, HY.out.2.2.1]; exact hle)).1
                omega
            obtain ⟨z, hz⟩ : ∃ z, z = xs[i + 1]?.getD 0 := ⟨_, rfl⟩
            have hzb : z < 1000000 := by
              rw [hz, List.getElem?_eq_getElem (by rw [HX.out.1]; exact hi1)]
              exact HX.out.2.1 _ (List.getElem_mem _)
            have RX := Lib.hid (And.intro (show IRow (wr.setCell ⟨g, i, none⟩ (.int .i64 ((x : Int) - (β : Int) - (y : Int)))).drew g n1 _ from RW1.out.drewN 1) (show ∀ j, j ≠ i → (if j = i then (x : Int) - (β : Int) - (y : Int) else subF xs r i β j) = subF xs r i β j from fun j hj => if_neg hj))
            have EX := Lib.hid (show Ext w (wr.setCell ⟨g, i, none⟩ (.int .i64 ((x : Int) - (β : Int) - (y : Int)))).drew from (EW.out.set_ (p := ⟨g, i, none⟩) hgw _).drewN 1)
            have kk2 : (wr.setCell ⟨g, i, none⟩ (.int .i64 ((x : Int) - (β : Int) - (y : Int)))).drew.cell? ⟨g, i, none⟩ = some (.int .i64 ((x : Int) - (β : Int) - (y : Int))) := k2
            have ff2 : (wr.setCell ⟨g, i, none⟩ (.int .i64 ((x : Int) - (β : Int) - (y : Int)))).drew.frozen? ⟨g, i, none⟩ = false := f2
            clear k2 f2
            go_wp2
            go_region
            generalize (wr.setCell ⟨g, i, none⟩ (.int .i64 ((x : Int) - (β : Int) - (y : Int)))).drew = W1 at *
            obtain ⟨k3, f3, hfin⟩ := sub_neg RX.out.1 RX.out.2 ST.out.len hi1 hz (((x : Int) - (β : Int) - (y : Int)) + 1000000) (d := x + 1000000 - β - y) (by omega)
            have RF := Lib.hid hfin
            have EF := Lib.hid ((EX.out.set_ (p := ⟨g, i, none⟩) hgw (.int .i64 (((x : Int) - (β : Int) - (y : Int)) + 1000000))).set_ (p := ⟨g, i + 1, none⟩) hgw (.int .i64 ((z : Int) - 1)))
            clear hz hfin
            go_wp2
            go_roundg (n1 - (i + 1))
            case measure => omega
            case rel => exact ⟨i + 1, r ++ [x + 1000000 - β - y], 1, rfl, by omega, by go_num, SD, RF, EF⟩
        · obtain rfl : y = 0 := by rw [SY.out, List.getElem?_eq_none (by rw [HY.out.1]; omega)]; rfl
          by_cases hd : β ≤ x
          · have hnn : decide ((x : Int) - (β : Int) < 0) = false := by simp; omega
            have SD := Lib.hid (ST.out.step (d := x - β) (β' := 0) (by rw [G6_eq]; omega) (by omega) (by rw [← SX.out, ← SY.out]; omega))
            have RD := Lib.hid (show IRow wr g n1 (subF xs (r ++ [x - β]) (i + 1) 0) from by
              refine RW.out.congr (fun j hj => ?_)
              rw [← subF_a (β := β) ST.out.len j hj]
              by_cases e : j = i
              · rw [if_pos e, e]; unfold subF; rw [if_neg (by omega), if_pos rfl, ← SX.out]; omega
              · rw [if_neg e])
            go_wp2
            go_roundg (n1 - (i + 1))
            case measure => omega
            case rel => exact ⟨i + 1, r ++ [x - β], 0, rfl, by omega, by go_num, SD, RD, EW⟩
          · have hnn : decide ((x : Int) - (β : Int) < 0) = true := by simp; omega
            have SD := Lib.hid (ST.out.step (d := x + 1000000 - β) (β' := 1) (by rw [G6_eq]; omega) (by omega) (by rw [← SX.out, ← SY.out, G6_eq]; omega))
            have hi1 : i + 1 < n1 := by
              rcases Nat.lt_or_ge (i + 1) n1 with h | h
              · exact h
              · have hh : i + 1 = n1 := by omega
                have hs := SD.out
                rw [hh] at hs
                have := (hs.done (by rw [HX.out.1]; omega) (by rw [HY.out.1]; exact hn2) (by rw [HX.out.2.2.1, HY.out.2.2.1]; exact hle)).1
                omega
            obtain ⟨z, hz⟩ : ∃ z, z = xs[i + 1]?.getD 0 := ⟨_, rfl⟩
            have hzb : z < 1000000 := by
              rw [hz, List.getElem?_eq_getElem (by rw [HX.out.1]; exact hi1)]
              exact HX.out.2.1 _ (List.getElem_mem _)
            have RX := Lib.hid (And.intro RW.out (show ∀ j, j ≠ i → subF xs r i β j = subF xs r i β j from fun j hj => rfl))
            have EX := EW
            obtain ⟨k3, f3, hfin⟩ := sub_neg RX.out.1 RX.out.2 ST.out.len hi1 hz (((x : Int) - (β : Int)) + 1000000) (d := x + 1000000 - β) (by omega)
            have RF := Lib.hid hfin
            have EF := Lib.hid ((EX.out.set_ (p := ⟨g, i, none⟩) hgw (.int .i64 (((x : Int) - (β : Int)) + 1000000))).set_ (p := ⟨g, i + 1, none⟩) hgw (.int .i64 ((z : Int) - 1)))
            clear hz hfin
            go_wp2
            go_roundg (n1 - (i + 1))
            case measure => omega
            case rel => exact ⟨i + 1, r ++ [x + 1000000 - β], 1, rfl, by omega, by go_num, SD, RF, EF⟩
      · obtain rfl : i = n1 := by omega
        obtain ⟨hβ0, hval⟩ := ST.out.done (by rw [HX.out.1]; omega) (by rw [HY.out.1]; exact hn2) (by rw [HX.out.2.2.1, HY.out.2.2.1]; exact hle)
        have VV := Lib.hid (show Dig.val G6 r = a - b by rw [hval, HX.out.2.2.1, HY.out.2.2.1])
        have RR := Lib.hid (RW.out.rd (l := r) ST.out.len (fun j hj => by unfold subF; rw [if_pos hj]))
        clear hval hβ0
        go_wp2_with fail
        refine (without_ok' (some ⟨g, 0, none⟩) i c3 r ST.out.len _ RR.out hc3 ST.out.lt (by omega)).mono ?_
        rintro e w5 ⟨A5, n5, c5, rfl, h5, x5, _⟩
        rw [VV.out] at h5
        have F := Lib.hid (And.intro h5 (EW.out.tr x5))
        clear h5 x5
        go_wp2
        exact bodyPost_ret (v := .tuple #[.slice A5 n5 c5, .int .i64 0]) (by simp [results, Tryz.results137, go_sem]) rfl ⟨_, _, _, rfl, F.out.1, F.out.2⟩
end Go.Proofs.YtekiomanidimnaaGreatDoor
