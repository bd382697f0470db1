/- waypointref01.Add. -/
import Derived.Test.YtekiomanidimnaaGreatDoorGrpG
set_option linter.unusedVariables false
set_option linter.unusedSimpArgs false

namespace Go.Proofs.YtekiomanidimnaaGreatDoor
open Go.RowKit
def addL : List Nat → List Nat → List Nat
  | [], ys => ys
  | x :: xs, [] => x :: xs
  | x :: xs, y :: ys => (x + y) :: addL xs ys
theorem addL_len : ∀ xs ys : List Nat, (addL xs ys).length = max xs.length ys.length
  | [], ys => by simp [addL]
  | x :: xs, [] => by simp [addL]
  | x :: xs, y :: ys => by simp only [addL, List.length_cons, addL_len xs ys]; omega
theorem addL_val : ∀ xs ys : List Nat, Dig.val G6 (addL xs ys) = Dig.val G6 xs + Dig.val G6 ys
  | [], ys => by simp [addL, Dig.val]
  | x :: xs, [] => by simp [addL, Dig.val]
  | x :: xs, y :: ys => by
    simp only [addL, Dig.val_cons, addL_val xs ys, Nat.mul_add]
    omega
theorem addL_get : ∀ (xs ys : List Nat) (j : Nat), (addL xs ys)[j]?.getD 0 = xs[j]?.getD 0 + ys[j]?.getD 0
  | [], ys, j => by simp [addL]
  | x :: xs, [], j => by simp [addL]
  | x :: xs, y :: ys, 0 => by simp [addL]
  | x :: xs, y :: ys, j + 1 => by
    have := addL_get xs ys j
    simpa [addL] using this
/-- The sum's row: the first i groups of one number, the first k of the other. -/
def addF (xs ys : List Nat) (i k j : Nat) : Int := (((if j < i then xs[j]?.getD 0 else 0) + (if j < k then ys[j]?.getD 0 else 0) : Nat) : Int)
theorem addF_x (xs ys : List Nat) (i n : Nat) : ∀ j, j < n → (if j = i then (0 : Int) + ((xs[i]?.getD 0 : Nat) : Int) else addF xs ys i 0 j) = addF xs ys (i + 1) 0 j := by
  intro j _
  unfold addF
  by_cases h : j = i
  · subst h; simp
  · rw [if_neg h]
    by_cases h2 : j < i
    · rw [if_pos h2, if_pos (show j < i + 1 by omega)]
    · rw [if_neg h2, if_neg (show ¬ j < i + 1 by omega)]
theorem addF_y (xs ys : List Nat) (i k n : Nat) : ∀ j, j < n → (if j = k then addF xs ys i k k + ((ys[k]?.getD 0 : Nat) : Int) else addF xs ys i k j) = addF xs ys i (k + 1) j := by
  intro j _
  unfold addF
  by_cases h : j = k
  · subst h; simp
  · rw [if_neg h]
    by_cases h2 : j < k
    · rw [if_pos h2, if_pos (show j < k + 1 by omega)]
    · rw [if_neg h2, if_neg (show ¬ j < k + 1 by omega)]
theorem getD_beyond (xs : List Nat) (j : Nat) : (if j < xs.length then xs[j]?.getD 0 else 0) = xs[j]?.getD 0 := by
  split
  · rfl
  · rw [List.getElem?_eq_none (by omega)]; rfl
set_option maxRecDepth 100000 in
set_option maxHeartbeats 4000000 in
theorem rAdd_ok (A1 A2 : Option Addr) (n1 c1 n2 c2 a b : Nat) (w : World) (h1 : GrpR w A1 n1 c1 a) (h2 : GrpR w A2 n2 c2 b) (hn1 : n1 ≤ 1000000) (hn2 : n2 ≤ 1000000) :
    Calls Tryz.prog 135 #[.slice A1 n1 c1, .slice A2 n2 c2] w (GrpPost w (a + b)) := by
  obtain ⟨xs, hxl, hc1, hcx, hxv, hr1⟩ := h1
  obtain ⟨ys, hyl, hc2, hcy, hyv, hr2⟩ := h2
  have HX := Lib.hid (And.intro hxl (And.intro hcx.lt (And.intro hxv hr1.rd)))
  have HY := Lib.hid (And.intro hyl (And.intro hcy.lt (And.intro hyv hr2.rd)))
  clear hxl hcx hxv hr1 hyl hcy hyv hr2
  obtain ⟨N, hN⟩ : ∃ N, N = max n1 n2 := ⟨_, rfl⟩
  have HN := Lib.hid hN
  have hN12 : n1 ≤ N ∧ n2 ≤ N ∧ N ≤ 1000000 := by omega
  clear hN
  have hmk := run_make_row' (P := Tryz.prog) 39 3 (.int .i64 0) 8 Tryz.underlying39 Tryz.info3 rfl .i64 .i64 N (by omega) (by omega)
  have hmi : (N : Int) = max (n1 : Int) (n2 : Int) := by have := HN.out; omega
  rw [hmi] at hmk
  clear hmi
  have R0 := Lib.hid (show IRow (w.alloc (.cells (madeCells #[.int .i64 0] N) 3)) w.heap.size N (addF xs ys 0 0) from by
    refine IRow.of_blk (Blk.new w 3 (madeCells #[.int .i64 0] N)) (fun j hj => ?_)
    rw [← Array.getElem?_toList, toList_madeCells_one]
    simp [addF, hj])
  have E0 := Lib.hid ((Ext.refl w).alloc (.cells (madeCells #[.int .i64 0] N) 3))
  go_enter Tryz.func135, Tryz.ntmps135
  go_wp2
  go_loopg [6] n1 (fun m it wr => ∃ i : Nat, n1 - i = m ∧ i ≤ n1 ∧ it = .int .i64 i ∧ Hid (IRow wr w.heap.size N (addF xs ys i 0)) ∧ Hid (Ext w wr))
  case atStart => exact ⟨0, rfl, Nat.zero_le _, rfl, R0, E0⟩
  case round =>
    obtain ⟨i, rfl, hi, rfl, RW, EW⟩ := hrel
    clear R0 E0
    by_cases hin : i < n1
    · obtain ⟨x, hx⟩ : ∃ x, x = xs[i]?.getD 0 := ⟨_, rfl⟩
      have hxb : x < 1000000 := by
        rw [hx, List.getElem?_eq_getElem (by rw [HX.out.1]; exact hin)]
        exact HX.out.2.1 _ (List.getElem_mem _)
      obtain ⟨bb, oo, hA, hbb, hcell⟩ := HX.out.2.2.2.ints (k := i) (by rw [HX.out.1]; exact hin)
      subst hA
      have k1 := EW.out.cell (p := ⟨bb, oo + i, none⟩) hbb
      rw [hcell i (by rw [HX.out.1]; exact hin), ← hx] at k1
      have k0 := RW.out.cell (j := i) (by omega)
      rw [show addF xs ys i 0 i = 0 from by unfold addF; simp] at k0
      have f0 := RW.out.frozen i
      have RD := Lib.hid (show IRow ((wr.setCell ⟨w.heap.size, i, none⟩ (.int .i64 (x : Int))).drewN 1) w.heap.size N (addF xs ys (i + 1) 0) from by
        refine ((RW.out.set_ i (x : Int)).congr (fun j hj => ?_)).drewN 1
        rw [← addF_x xs ys i N j hj, ← hx, Int.zero_add])
      clear hx hcell hbb
      go_wp2
      go_region
      all_goals go_wp2
      go_roundg (n1 - (i + 1))
      case measure => omega
      case rel => exact ⟨i + 1, rfl, by omega, by go_num, RD, Lib.hid ((EW.out.set_ (p := ⟨w.heap.size, i, none⟩) (Nat.le_refl _) _).drewN 1)⟩
    · obtain rfl : i = n1 := by omega
      go_wp2
      go_loopg [7] n2 (fun m it wj => ∃ k : Nat, n2 - k = m ∧ k ≤ n2 ∧ it = .int .i64 k ∧ Hid (IRow wj w.heap.size N (addF xs ys i k)) ∧ Hid (Ext w wj))
      case atStart => exact ⟨0, rfl, Nat.zero_le _, rfl, RW, EW⟩
      case round =>
        obtain ⟨k, rfl, hk, rfl, RJ, EJ⟩ := hrel
        by_cases hkn : k < n2
        · obtain ⟨y, hy⟩ : ∃ y, y = ys[k]?.getD 0 := ⟨_, rfl⟩
          have hyb : y < 1000000 := by
            rw [hy, List.getElem?_eq_getElem (by rw [HY.out.1]; exact hkn)]
            exact HY.out.2.1 _ (List.getElem_mem _)
          obtain ⟨z, hz⟩ : ∃ z, z = (if k < i then xs[k]?.getD 0 else 0) := ⟨_, rfl⟩
          have hzb : z < 1000000 := by
            rw [hz]
            split
            · rename_i h
              rw [List.getElem?_eq_getElem (by rw [HX.out.1]; exact h)]
              exact HX.out.2.1 _ (List.getElem_mem _)
            · decide
          obtain ⟨bb, oo, hA, hbb, hcell⟩ := HY.out.2.2.2.ints (k := k) (by rw [HY.out.1]; exact hkn)
          subst hA
          have k1 := EJ.out.cell (p := ⟨bb, oo + k, none⟩) hbb
          rw [hcell k (by rw [HY.out.1]; exact hkn), ← hy] at k1
          have k0 := RJ.out.cell (j := k) (by omega)
          have hzf : addF xs ys i k k = (z : Int) := by unfold addF; rw [hz]; simp
          rw [hzf] at k0
          have f0 := RJ.out.frozen k
          have RD := Lib.hid (show IRow ((wr.setCell ⟨w.heap.size, k, none⟩ (.int .i64 ((z : Int) + (y : Int)))).drewN 1) w.heap.size N (addF xs ys i (k + 1)) from by
            refine ((RJ.out.set_ k ((z : Int) + (y : Int))).congr (fun j hj => ?_)).drewN 1
            rw [← addF_y xs ys i k N j hj, ← hy, hzf])
          clear hy hz hcell hbb hzf
          go_wp2
          go_region
          all_goals go_wp2
          go_roundg (n2 - (k + 1))
          case measure => omega
          case rel => exact ⟨k + 1, rfl, by omega, by go_num, RD, Lib.hid ((EJ.out.set_ (p := ⟨w.heap.size, k, none⟩) (Nat.le_refl _) _).drewN 1)⟩
        · obtain rfl : k = n2 := by omega
          have hll : (addL xs ys).length = N := by rw [addL_len, HX.out.1, HY.out.1, HN.out]
          have RR := Lib.hid (RJ.out.rd (l := addL xs ys) hll (fun j hj => by
            unfold addF
            rw [addL_get, ← HX.out.1, ← HY.out.1, getD_beyond, getD_beyond]))
          have LB := Lib.hid (show ∀ d ∈ addL xs ys, d ≤ 4000000000000000000 from fun d hd => by
            obtain ⟨j, hj, he⟩ := List.getElem_of_mem hd
            have h1 := addL_get xs ys j
            rw [List.getElem?_eq_getElem hj, he] at h1
            have hb : ∀ l : List Nat, (∀ d ∈ l, d < G6) → l[j]?.getD 0 < 1000000 := fun l hl => by
              rcases Nat.lt_or_ge j l.length with h | h
              · rw [List.getElem?_eq_getElem h]; exact hl _ (List.getElem_mem _)
              · rw [List.getElem?_eq_none h]; decide
            have h2 := hb xs HX.out.2.1
            have h3 := hb ys HY.out.2.1
            simp at h1
            omega)
          have VV := Lib.hid (show Dig.val G6 (addL xs ys) = a + b by rw [addL_val, HX.out.2.2.1, HY.out.2.2.1])
          go_wp2_with fail
          refine (carried_ok' (some ⟨w.heap.size, 0, none⟩) N N (addL xs ys) hll _ RR.out (Nat.le_refl _) LB.out (by omega)).mono ?_
          rintro e w5 ⟨A5, n5, c5, rfl, h5, x5, fr⟩
          rw [VV.out] at h5
          have F := Lib.hid (And.intro h5 (And.intro (EJ.out.tr x5) (fun ad h => Nat.le_trans EJ.out.size (fr ad h))))
          clear h5 x5 fr
          go_wp2
          go_ret
          exact ⟨_, _, _, rfl, F.out.1, F.out.2.1, F.out.2.2⟩
end Go.Proofs.YtekiomanidimnaaGreatDoor
