/- waypointref01.Add. -/
/- waypointref01.Mul. -/
/- waypointref02: one, Add. -/
/- waypointref02: Neg, Sub, Sign, Cmp. -/
import Derived.Test.YtekiomanidimnaaGreatDoorMN
import Derived.Test.YtekiomanidimnaaGreatDoorMQ
set_option linter.unusedVariables false
set_option linter.unusedSimpArgs false

namespace Go.Proofs.YtekiomanidimnaaGreatDoor
open Go.RowKit
def addL : List Nat → List Nat → List Nat
  | [], ys => ys
  | x :: xs, [] => x :: xs
  | x :: xs, y :: ys => (x + y) :: addL xs ys
theorem addL_len : ∀ xs ys : List Nat, (addL xs ys).length = max xs.length ys.length
  | [], ys => by simp [addL]
  | x :: xs, [] => by simp [addL]
  | x :: xs, y :: ys => by simp only [addL, List.length_cons, addL_len xs ys]; omega
theorem addL_val : ∀ xs ys : List Nat, Dig.val G6 (addL xs ys) = Dig.val G6 xs + Dig.val G6 ys
  | [], ys => by simp [addL, Dig.val]
  | x :: xs, [] => by simp [addL, Dig.val]
  | x :: xs, y :: ys => by
    simp only [addL, Dig.val_cons, addL_val xs ys, Nat.mul_add]
    omega
theorem addL_get : ∀ (xs ys : List Nat) (j : Nat), (addL xs ys)[j]?.getD 0 = xs[j]?.getD 0 + ys[j]?.getD 0
  | [], ys, j => by simp [addL]
  | x :: xs, [], j => by simp [addL]
  | x :: xs, y :: ys, 0 => by simp [addL]
  | x :: xs, y :: ys, j + 1 => by
    have := addL_get xs ys j
    simpa [addL] using this
/-- The sum's row: the first i groups of one number, the first k of the other. -/
def addF (xs ys : List Nat) (i k j : Nat) : Int := (((if j < i then xs[j]?.getD 0 else 0) + (if j < k then ys[j]?.getD 0 else 0) : Nat) : Int)
theorem addF_x (xs ys : List Nat) (i n : Nat) : ∀ j, j < n → (if j = i then (0 : Int) + ((xs[i]?.getD 0 : Nat) : Int) else addF xs ys i 0 j) = addF xs ys (i + 1) 0 j := by
  intro j _
  unfold addF
  by_cases h : j = i
  · subst h; simp
  · rw [if_neg h]
    by_cases h2 : j < i
    · rw [if_pos h2, if_pos (show j < i + 1 by omega)]
    · rw [if_neg h2, if_neg (show ¬ j < i + 1 by omega)]
theorem addF_y (xs ys : List Nat) (i k n : Nat) : ∀ j, j < n → (if j = k then addF xs ys i k k + ((ys[k]?.getD 0 : Nat) : Int) else addF xs ys i k j) = addF xs ys i (k + 1) j := by
  intro j _
  unfold addF
  by_cases h : j = k
  · subst h; simp
  · rw [if_neg h]
    by_cases h2 : j < k
    · rw [if_pos h2, if_pos (show j < k + 1 by omega)]
    · rw [if_neg h2, if_neg (show ¬ j < k + 1 by omega)]
theorem getD_beyond (xs : List Nat) (j : Nat) : (if j < xs.length then xs[j]?.getD 0 else 0) = xs[j]?.getD 0 := by
  split
  · rfl
  · rw [List.getElem?_eq_none (by omega)]; rfl
set_option maxRecDepth 100000 in
set_option maxHeartbeats 4000000 in
theorem rAdd_ok (A1 A2 : Option Addr) (n1 c1 n2 c2 a b : Nat) (w : World) (h1 : GrpR w A1 n1 c1 a) (h2 : GrpR w A2 n2 c2 b) (hn1 : n1 ≤ 1000000) (hn2 : n2 ≤ 1000000) :
    Calls Tryz.prog 135 #[.slice A1 n1 c1, .slice A2 n2 c2] w (GrpPost w (a + b)) := by
  obtain ⟨xs, hxl, hc1, hcx, hxv, hr1⟩ := h1
  obtain ⟨ys, hyl, hc2, hcy, hyv, hr2⟩ := h2
  have HX := Lib.hid (And.intro hxl (And.intro hcx.lt (And.intro hxv hr1.rd)))
  have HY := Lib.hid (And.intro hyl (And.intro hcy.lt (And.intro hyv hr2.rd)))
  clear hxl hcx hxv hr1 hyl hcy hyv hr2
  obtain ⟨N, hN⟩ : ∃ N, N = max n1 n2 := ⟨_, rfl⟩
  have HN := Lib.hid hN
  have hN12 : n1 ≤ N ∧ n2 ≤ N ∧ N ≤ 1000000 := by omega
  clear hN
  have hmk := run_make_row' (P := Tryz.prog) 39 3 (.int .i64 0) 8 Tryz.underlying39 Tryz.info3 rfl .i64 .i64 N (by omega) (by omega)
  have hmi : (N : Int) = max (n1 : Int) (n2 : Int) := by have := HN.out; omega
  rw [hmi] at hmk
  clear hmi
  have R0 := Lib.hid (show IRow (w.alloc (.cells (madeCells #[.int .i64 0] N) 3)) w.heap.size N (addF xs ys 0 0) from by
    refine IRow.of_blk (Blk.new w 3 (madeCells #[.int .i64 0] N)) (fun j hj => ?_)
    rw [← Array.getElem?_toList, toList_madeCells_one]
    simp [addF, hj])
  have E0 := Lib.hid ((Ext.refl w).alloc (.cells (madeCells #[.int .i64 0] N) 3))
  go_enter Tryz.func135, Tryz.ntmps135
  go_wp2
  go_loopg [6] n1 (fun m it wr => ∃ i : Nat, n1 - i = m ∧ i ≤ n1 ∧ it = .int .i64 i ∧ Hid (IRow wr w.heap.size N (addF xs ys i 0)) ∧ Hid (Ext w wr))
  case atStart => exact ⟨0, rfl, Nat.zero_le _, rfl, R0, E0⟩
  case round =>
    obtain ⟨i, rfl, hi, rfl, RW, EW⟩ := hrel
    clear R0 E0
    by_cases hin : i < n1
    · obtain ⟨x, hx⟩ : ∃ x, x = xs[i]?.getD 0 := ⟨_, rfl⟩
      have hxb : x < 1000000 := by
        rw [hx, List.getElem?_eq_getElem (by rw [HX.out.1]; exact hin)]
        exact HX.out.2.1 _ (List.getElem_mem _)
      obtain ⟨bb, oo, hA, hbb, hcell⟩ := HX.out.2.2.2.ints (k := i) (by rw [HX.out.1]; exact hin)
      subst hA
      have k1 := EW.out.cell (p := ⟨bb, oo + i, none⟩) hbb
      rw [hcell i (by rw [HX.out.1]; exact hin), ← hx] at k1
      have k0 := RW.out.cell (j := i) (by omega)
      rw [show addF xs ys i 0 i = 0 from by unfold addF; simp] at k0
      have f0 := RW.out.frozen i
      have RD := Lib.hid (show IRow ((wr.setCell ⟨w.heap.size, i, none⟩ (.int .i64 (x : Int))).drewN 1) w.heap.size N (addF xs ys (i + 1) 0) from by
        refine ((RW.out.set_ i (x : Int)).congr (fun j hj => ?_)).drewN 1
        rw [← addF_x xs ys i N j hj, ← hx, Int.zero_add])
      clear hx hcell hbb
      go_wp2
      go_region
      all_goals go_wp2
      go_roundg (n1 - (i + 1))
      case measure => omega
      case rel => exact ⟨i + 1, rfl, by omega, by go_num, RD, Lib.hid ((EW.out.set_ (p := ⟨w.heap.size, i, none⟩) (Nat.le_refl _) _).drewN 1)⟩
    · obtain rfl : i = n1 := by omega
      go_wp2
      go_loopg [7] n2 (fun m it wj => ∃ k : Nat, n2 - k = m ∧ k ≤ n2 ∧ it = .int .i64 k ∧ Hid (IRow wj w.heap.size N (addF xs ys i k)) ∧ Hid (Ext w wj))
      case atStart => exact ⟨0, rfl, Nat.zero_le _, rfl, RW, EW⟩
      case round =>
        obtain ⟨k, rfl, hk, rfl, RJ, EJ⟩ := hrel
        by_cases hkn : k < n2
        · obtain ⟨y, hy⟩ : ∃ y, y = ys[k]?.getD 0 := ⟨_, rfl⟩
          have hyb : y < 1000000 := by
            rw [hy, List.getElem?_eq_getElem (by rw [HY.out.1]; exact hkn)]
            exact HY.out.2.1 _ (List.getElem_mem _)
          obtain ⟨z, hz⟩ : ∃ z, z = (if k < i then xs[k]?.getD 0 else 0) := ⟨_, rfl⟩
          have hzb : z < 1000000 := by
            rw [hz]
            split
            · rename_i h
              rw [List.getElem?_eq_getElem (by rw [HX.out.1]; exact h)]
              exact HX.out.2.1 _ (List.getElem_mem _)
            · decide
          obtain ⟨bb, oo, hA, hbb, hcell⟩ := HY.out.2.2.2.ints (k := k) (by rw [HY.out.1]; exact hkn)
          subst hA
          have k1 := EJ.out.cell (p := ⟨bb, oo + k, none⟩) hbb
          rw [hcell k (by rw [HY.out.1]; exact hkn), ← hy] at k1
          have k0 := RJ.out.cell (j := k) (by omega)
          have hzf : addF xs ys i k k = (z : Int) := by unfold addF; rw [hz]; simp
          rw [hzf] at k0
          have f0 := RJ.out.frozen k
          have RD := Lib.hid (show IRow ((wr.setCell ⟨w.heap.size, k, none⟩ (.int .i64 ((z : Int) + (y : Int)))).drewN 1) w.heap.size N (addF xs ys i (k + 1)) from by
            refine ((RJ.out.set_ k ((z : Int) + (y : Int))).congr (fun j hj => ?_)).drewN 1
            rw [← addF_y xs ys i k N j hj, ← hy, hzf])
          clear hy hz hcell hbb hzf
          go_wp2
          go_region
          all_goals go_wp2
          go_roundg (n2 - (k + 1))
          case measure => omega
          case rel => exact ⟨k + 1, rfl, by omega, by go_num, RD, Lib.hid ((EJ.out.set_ (p := ⟨w.heap.size, k, none⟩) (Nat.le_refl _) _).drewN 1)⟩
        · obtain rfl : k = n2 := by omega
          have hll : (addL xs ys).length = N := by rw [addL_len, HX.out.1, HY.out.1, HN.out]
          have RR := Lib.hid (RJ.out.rd (l := addL xs ys) hll (fun j hj => by
            unfold addF
            rw [addL_get, ← HX.out.1, ← HY.out.1, getD_beyond, getD_beyond]))
          have LB := Lib.hid (show ∀ d ∈ addL xs ys, d ≤ 4000000000000000000 from fun d hd => by
            obtain ⟨j, hj, he⟩ := List.getElem_of_mem hd
            have h1 := addL_get xs ys j
            rw [List.getElem?_eq_getElem hj, he] at h1
            have hb : ∀ l : List Nat, (∀ d ∈ l, d < G6) → l[j]?.getD 0 < 1000000 := fun l hl => by
              rcases Nat.lt_or_ge j l.length with h | h
              · rw [List.getElem?_eq_getElem h]; exact hl _ (List.getElem_mem _)
              · rw [List.getElem?_eq_none h]; decide
            have h2 := hb xs HX.out.2.1
            have h3 := hb ys HY.out.2.1
            simp at h1
            omega)
          have VV := Lib.hid (show Dig.val G6 (addL xs ys) = a + b by rw [addL_val, HX.out.2.2.1, HY.out.2.2.1])
          go_wp2_with fail
          refine (carried_ok' (some ⟨w.heap.size, 0, none⟩) N N (addL xs ys) hll _ RR.out (Nat.le_refl _) LB.out (by omega)).mono ?_
          rintro e w5 ⟨A5, n5, c5, rfl, h5, x5, fr⟩
          rw [VV.out] at h5
          have F := Lib.hid (And.intro h5 (And.intro (EJ.out.tr x5) (fun ad h => Nat.le_trans EJ.out.size (fr ad h))))
          clear h5 x5 fr
          go_wp2
          go_ret
          exact ⟨_, _, _, rfl, F.out.1, F.out.2.1, F.out.2.2⟩
end Go.Proofs.YtekiomanidimnaaGreatDoor


namespace Go.Proofs.YtekiomanidimnaaGreatDoor
open Go.RowKit
/-- Group k of a product: the sum of the products of groups whose places add up to k. -/
def cv : List Nat → List Nat → Nat → Nat
  | [], _, _ => 0
  | x :: xs, ys, k => x * ys[k]?.getD 0 + (match k with
    | 0 => 0
    | k + 1 => cv xs ys k)
theorem cv_take (ys : List Nat) : ∀ (xs : List Nat) (i k : Nat), i < xs.length → i ≤ k → cv (xs.take (i + 1)) ys k = cv (xs.take i) ys k + xs[i]?.getD 0 * ys[k - i]?.getD 0
  | [], i, k, hi, _ => by simp at hi
  | x :: xs, 0, k, _, _ => by
    cases k <;> simp [cv]
  | x :: xs, i + 1, 0, _, h => by omega
  | x :: xs, i + 1, k + 1, hi, h => by
    have := cv_take ys xs i k (by simpa using hi) (by omega)
    simp only [List.take_succ_cons, cv]
    rw [this]
    simp only [List.getElem?_cons_succ, Nat.add_sub_add_right]
    omega
theorem cv_take_all (ys : List Nat) : ∀ (xs : List Nat) (i k : Nat), k < i → cv (xs.take i) ys k = cv xs ys k
  | [], i, k, _ => by simp
  | x :: xs, 0, k, h => by omega
  | x :: xs, i + 1, 0, _ => by simp [cv]
  | x :: xs, i + 1, k + 1, h => by
    simp only [List.take_succ_cons, cv]
    rw [cv_take_all ys xs i k (by omega)]
theorem cv_le {ys : List Nat} (hy : ∀ d ∈ ys, d < G6) : ∀ (xs : List Nat) (k : Nat), (∀ d ∈ xs, d < G6) → cv xs ys k ≤ xs.length * 1000000000000
  | [], k, _ => by simp [cv]
  | x :: xs, k, hx => by
    have hyk : ys[k]?.getD 0 < G6 := by
      rcases Nat.lt_or_ge k ys.length with h | h
      · rw [List.getElem?_eq_getElem h]; exact hy _ (List.getElem_mem _)
      · rw [List.getElem?_eq_none h]; decide
    have h1 : x * ys[k]?.getD 0 ≤ 1000000 * 1000000 := Nat.mul_le_mul (Nat.le_of_lt (hx x (by simp))) (Nat.le_of_lt hyk)
    rw [List.length_cons, Nat.add_mul]
    cases k with
    | zero => simp only [cv]; omega
    | succ k =>
      have := cv_le hy xs k (fun d hd => hx d (by simp [hd]))
      simp only [cv]
      omega
def vs (f : Nat → Nat) : Nat → Nat
  | 0 => 0
  | n + 1 => f 0 + G6 * vs (fun k => f (k + 1)) n
theorem vs_val (f : Nat → Nat) (n : Nat) : Dig.val G6 ((List.range n).map f) = vs f n := by
  induction n generalizing f with
  | zero => rfl
  | succ n ih =>
    rw [List.range_succ_eq_map, List.map_cons, Dig.val_cons, List.map_map, vs]
    rw [show (f ∘ Nat.succ) = fun k => f (k + 1) from rfl, ih]
theorem vs_add (f g : Nat → Nat) (n : Nat) : vs (fun k => f k + g k) n = vs f n + vs g n := by
  induction n generalizing f g with
  | zero => rfl
  | succ n ih => simp only [vs]; rw [ih, Nat.mul_add]; omega
theorem vs_scale (x : Nat) (ys : List Nat) (n : Nat) (h : ys.length ≤ n) : vs (fun k => x * ys[k]?.getD 0) n = x * Dig.val G6 ys := by
  induction ys generalizing n with
  | nil =>
    have key : ∀ n, vs (fun _ => 0) n = 0 := fun n => by
      induction n with
      | zero => rfl
      | succ n ih => simp only [vs]; rw [ih, Nat.mul_zero]
    simp only [List.getElem?_nil, Option.getD_none, Nat.mul_zero, Dig.val]
    exact key n
  | cons y ys ih =>
    cases n with
    | zero => simp at h
    | succ n =>
      have := ih n (by simpa using h)
      simp only [vs, List.getElem?_cons_zero, Option.getD_some, List.getElem?_cons_succ]
      rw [this, Dig.val_cons, Nat.mul_add, ← Nat.mul_assoc, ← Nat.mul_assoc, Nat.mul_comm G6 x]
theorem cv_val (ys : List Nat) : ∀ (xs : List Nat) (n : Nat), xs.length + ys.length ≤ n → vs (cv xs ys) n = Dig.val G6 xs * Dig.val G6 ys
  | [], n, _ => by
    have key : ∀ n, vs (fun _ => 0) n = 0 := fun n => by
      induction n with
      | zero => rfl
      | succ n ih => simp only [vs]; rw [ih, Nat.mul_zero]
    rw [show cv [] ys = fun _ => 0 from by funext k; rfl, key]; simp [Dig.val]
  | x :: xs, 0, h => by simp at h
  | x :: xs, n + 1, h => by
    have ih := cv_val ys xs n (by simp at h; omega)
    have e : cv (x :: xs) ys = fun k => x * ys[k]?.getD 0 + (match k with | 0 => 0 | k + 1 => cv xs ys k) := by funext k; rfl
    rw [e, vs_add, vs_scale x ys (n + 1) (by simp at h; omega), Dig.val_cons, Nat.add_mul]
    congr 1
    show 0 + G6 * vs (fun k => cv xs ys k) n = _
    rw [show (fun k => cv xs ys k) = cv xs ys from rfl, ih, Nat.zero_add, Nat.mul_assoc]
/-- The product's row: groups below k are done, group k has its first i products. -/
def mulF (xs ys : List Nat) (k i j : Nat) : Int := if j < k then ((cv xs ys j : Nat) : Int) else if j = k then ((cv (xs.take i) ys k : Nat) : Int) else 0
theorem mulF_next (xs ys : List Nat) (k i n : Nat) (h : cv (xs.take i) ys k = cv xs ys k) : ∀ j, j < n → mulF xs ys k i j = mulF xs ys (k + 1) 0 j := by
  intro j _
  unfold mulF
  by_cases h1 : j < k
  · rw [if_pos h1, if_pos (by omega)]
  · by_cases h2 : j = k
    · subst h2; rw [if_neg h1, if_pos rfl, if_pos (by omega), h]
    · rw [if_neg h1, if_neg h2, if_neg (by omega)]
      split
      · simp [cv]
      · rfl
theorem mulF_step (xs ys : List Nat) (k i n : Nat) (v : Nat) (h : cv (xs.take (i + 1)) ys k = v) : ∀ j, j < n → (if j = k then ((v : Nat) : Int) else mulF xs ys k i j) = mulF xs ys k (i + 1) j := by
  intro j _
  unfold mulF
  by_cases h2 : j = k
  · subst h2; rw [if_pos rfl, if_neg (by omega), if_pos rfl, h]
  · rw [if_neg h2, if_neg h2, if_neg h2]
set_option maxRecDepth 100000 in
set_option maxHeartbeats 4000000 in
theorem rMul_ok (A1 A2 : Option Addr) (n1 c1 n2 c2 a b : Nat) (w : World) (h1 : GrpR w A1 n1 c1 a) (h2 : GrpR w A2 n2 c2 b) (hn1 : n1 ≤ 1000000) (hn2 : n2 ≤ 1000000) :
    Calls Tryz.prog 133 #[.slice A1 n1 c1, .slice A2 n2 c2] w (GrpPost w (a * b)) := by
  obtain ⟨xs, hxl, hc1, hcx, hxv, hr1⟩ := h1
  obtain ⟨ys, hyl, hc2, hcy, hyv, hr2⟩ := h2
  have HX := Lib.hid (And.intro hxl (And.intro hcx.lt (And.intro hxv hr1.rd)))
  have HY := Lib.hid (And.intro hyl (And.intro hcy.lt (And.intro hyv hr2.rd)))
  clear hxl hcx hxv hr1 hyl hcy hyv hr2
  obtain ⟨N, hN⟩ : ∃ N, N = n1 + n2 := ⟨_, rfl⟩
  have HN := Lib.hid hN
  have hN12 : n1 ≤ N ∧ n2 ≤ N ∧ N ≤ 2000000 := by omega
  clear hN
  have hmk := run_make_row' (P := Tryz.prog) 39 3 (.int .i64 0) 8 Tryz.underlying39 Tryz.info3 rfl .i64 .i64 N (by omega) (by omega)
  have hni : (N : Int) = (n1 : Int) + (n2 : Int) := by have := HN.out; omega
  rw [hni] at hmk
  clear hni
  have R0 := Lib.hid (show IRow (w.alloc (.cells (madeCells #[.int .i64 0] N) 3)) w.heap.size N (mulF xs ys 0 0) from by
    refine IRow.of_blk (Blk.new w 3 (madeCells #[.int .i64 0] N)) (fun j hj => ?_)
    rw [← Array.getElem?_toList, toList_madeCells_one]
    have : mulF xs ys 0 0 j = 0 := by unfold mulF; simp [cv]
    rw [this]
    simp [hj])
  have E0 := Lib.hid ((Ext.refl w).alloc (.cells (madeCells #[.int .i64 0] N) 3))
  have CL := Lib.hid (show ∀ k i, cv (xs.take i) ys k ≤ 1000000 * 1000000000000 from fun k i => by
    have h1 := cv_le HY.out.2.1 (xs.take i) k (fun d hd => HX.out.2.1 d (List.mem_of_mem_take hd))
    refine Nat.le_trans h1 (Nat.mul_le_mul_right _ ?_)
    rw [List.length_take, HX.out.1]
    omega)
  go_enter Tryz.func133, Tryz.ntmps133
  go_wp2
  go_loopg [6, 7] N (fun m kt _ wr => ∃ k : Nat, N - k = m ∧ k ≤ N ∧ kt = .int .i64 k ∧ Hid (IRow wr w.heap.size N (mulF xs ys k 0)) ∧ Hid (Ext w wr))
  case atStart => exact ⟨0, rfl, Nat.zero_le _, rfl, R0, E0⟩
  case round =>
    obtain ⟨k, rfl, hk, rfl, RW, EW⟩ := hrel
    clear R0 E0
    by_cases hkn : k < N
    · go_wp2
      go_loopg [7] (n1 + 1) (fun m it wj => ∃ i : Nat, n1 + 1 - i = m ∧ i ≤ n1 ∧ i ≤ k + 1 ∧ it = .int .i64 i ∧ Hid (IRow wj w.heap.size N (mulF xs ys k i)) ∧ Hid (Ext w wj))
      case atStart => exact ⟨0, rfl, Nat.zero_le _, by omega, rfl, RW, EW⟩
      case round =>
        obtain ⟨i, rfl, hi, hik, rfl, RJ, EJ⟩ := hrel
        by_cases hc : i ≤ k ∧ i < n1
        · obtain ⟨hc1', hc2'⟩ := hc
          have d1 : decide ((i : Int) ≤ (k : Int)) = true := by simp; omega
          have CT := Lib.hid (cv_take ys xs i k (by rw [HX.out.1]; exact hc2') hc1')
          have i0 : (0 : Int) ≤ (k : Int) - (i : Int) := by omega
          have i3 : ((k : Int) - (i : Int)).toNat = k - i := by omega
          by_cases hd : k - i < n2
          · have d2 : decide ((k : Int) - (i : Int) < (n2 : Int)) = true := by simp; omega
            obtain ⟨x, hx⟩ : ∃ x, x = xs[i]?.getD 0 := ⟨_, rfl⟩
            obtain ⟨y, hy⟩ : ∃ y, y = ys[k - i]?.getD 0 := ⟨_, rfl⟩
            obtain ⟨z, hz⟩ : ∃ z, z = cv (xs.take i) ys k := ⟨_, rfl⟩
            have hxb : x < 1000000 := by
              rw [hx, List.getElem?_eq_getElem (by rw [HX.out.1]; exact hc2')]
              exact HX.out.2.1 _ (List.getElem_mem _)
            have hyb : y < 1000000 := by
              rw [hy, List.getElem?_eq_getElem (by rw [HY.out.1]; exact hd)]
              exact HY.out.2.1 _ (List.getElem_mem _)
            have hzb : (z : Int) ≤ 1000000000000000000 := by have := CL.out k i; rw [← hz] at this; omega
            have hxy : (x : Int) * (y : Int) ≤ 1000000000000 := by
              have h1 : x * y ≤ 1000000 * 1000000 := Nat.mul_le_mul (by omega) (by omega)
              have h2 : ((x * y : Nat) : Int) = (x : Int) * (y : Int) := by simp
              omega
            have hxy0 : 0 ≤ (x : Int) * (y : Int) := by
              have h2 : ((x * y : Nat) : Int) = (x : Int) * (y : Int) := by simp
              omega
            obtain ⟨b1, o1, hA1, hb1, hcell1⟩ := HX.out.2.2.2.ints (k := i) (by rw [HX.out.1]; exact hc2')
            obtain ⟨b2, o2, hA2, hb2, hcell2⟩ := HY.out.2.2.2.ints (k := k - i) (by rw [HY.out.1]; exact hd)
            subst hA1 hA2
            have k1 := EJ.out.cell (p := ⟨b1, o1 + i, none⟩) hb1
            rw [hcell1 i (by rw [HX.out.1]; exact hc2'), ← hx] at k1
            have k2 := EJ.out.cell (p := ⟨b2, o2 + (k - i), none⟩) hb2
            rw [hcell2 (k - i) (by rw [HY.out.1]; exact hd), ← hy] at k2
            have k0 := RJ.out.cell (j := k) hkn
            rw [show mulF xs ys k i k = (z : Int) from by unfold mulF; rw [if_neg (by omega), if_pos rfl, hz]] at k0
            have f0 := RJ.out.frozen k
            have RD := Lib.hid (show IRow ((wr.setCell ⟨w.heap.size, k, none⟩ (.int .i64 ((z : Int) + (x : Int) * (y : Int)))).drewN 1) w.heap.size N (mulF xs ys k (i + 1)) from by
              refine ((RJ.out.set_ k ((z : Int) + (x : Int) * (y : Int))).congr (fun j hj => ?_)).drewN 1
              rw [← mulF_step xs ys k i N (z + x * y) (by rw [CT.out, ← hx, ← hy, ← hz]) j hj]
              simp)
            clear hx hy hz hcell1 hcell2 hb1 hb2
            go_wp2
            go_region
            all_goals go_wp2
            go_roundg (n1 + 1 - (i + 1))
            case measure => omega
            case rel => exact ⟨i + 1, rfl, by omega, by omega, by go_num, RD, Lib.hid ((EJ.out.set_ (p := ⟨w.heap.size, k, none⟩) (Nat.le_refl _) _).drewN 1)⟩
          · have d2 : decide ((k : Int) - (i : Int) < (n2 : Int)) = false := by simp; omega
            have RD := Lib.hid (show IRow wr w.heap.size N (mulF xs ys k (i + 1)) from RJ.out.congr (fun j hj => by
              unfold mulF
              rw [CT.out, List.getElem?_eq_none (by rw [HY.out.1]; omega : ys.length ≤ k - i)]
              simp))
            go_wp2
            go_roundg (n1 + 1 - (i + 1))
            case measure => omega
            case rel => exact ⟨i + 1, rfl, by omega, by omega, by go_num, RD, EJ⟩
        · have hall : cv (xs.take i) ys k = cv xs ys k := by
            by_cases h : i = n1
            · rw [List.take_of_length_le (by rw [HX.out.1]; omega)]
            · exact cv_take_all ys xs i k (by omega)
          have RD := Lib.hid (RJ.out.congr (mulF_next xs ys k i N hall))
          clear hall
          by_cases h1 : i ≤ k
          · have d1 : decide ((i : Int) ≤ (k : Int)) = true := by simp; omega
            obtain rfl : i = n1 := by omega
            go_wp2
            go_roundg (N - (k + 1))
            case measure => omega
            case rel => exact ⟨k + 1, rfl, by omega, by go_num, RD, EJ⟩
          · have d1 : decide ((i : Int) ≤ (k : Int)) = false := by simp; omega
            go_wp2
            go_roundg (N - (k + 1))
            case measure => omega
            case rel => exact ⟨k + 1, rfl, by omega, by go_num, RD, EJ⟩
    · obtain rfl : k = N := by omega
      have hll : ((List.range k).map (cv xs ys)).length = k := by simp
      have RR := Lib.hid (RW.out.rd (l := (List.range k).map (cv xs ys)) hll (fun j hj => by
        unfold mulF
        rw [if_pos hj]
        simp [hj]))
      have LB := Lib.hid (show ∀ d ∈ (List.range k).map (cv xs ys), d ≤ 4000000000000000000 from fun d hd => by
        obtain ⟨j, _, rfl⟩ := List.mem_map.1 hd
        have := CL.out j n1
        rw [List.take_of_length_le (by rw [HX.out.1]; omega)] at this
        omega)
      have VV := Lib.hid (show Dig.val G6 ((List.range k).map (cv xs ys)) = a * b by rw [vs_val, cv_val ys xs k (by rw [HX.out.1, HY.out.1, HN.out]; omega), HX.out.2.2.1, HY.out.2.2.1])
      go_wp2_with fail
      refine (carried_ok' (some ⟨w.heap.size, 0, none⟩) k k ((List.range k).map (cv xs ys)) hll _ RR.out (Nat.le_refl _) LB.out (by omega)).mono ?_
      rintro e w5 ⟨A5, n5, c5, rfl, h5, x5, fr⟩
      rw [VV.out] at h5
      have F := Lib.hid (And.intro h5 (And.intro (EW.out.tr x5) (fun ad h => Nat.le_trans EW.out.size (fr ad h))))
      clear h5 x5 fr
      go_wp2
      go_ret
      exact ⟨_, _, _, rfl, F.out.1, F.out.2.1, F.out.2.2⟩
end Go.Proofs.YtekiomanidimnaaGreatDoor


namespace Go.Proofs.YtekiomanidimnaaGreatDoor
open Go.RowKit
set_option maxRecDepth 100000 in
set_option maxHeartbeats 2000000 in
theorem rOne_ok (neg : Bool) (A : Option Addr) (n c : Nat) (A' : Option Addr) (n' c' : Nat) (q : Rat) (w : World) (h : RQR w neg A n c A' n' c' q) :
    Calls Tryz.prog 134 #[.agg #[.bool neg, .slice A n c, .slice A' n' c']] w fun e w' => ∃ (B : Option Addr) (m d : Nat), e = .returned (.slice B m d) ∧ GrpR w' B m d q.den ∧ m ≤ n' + 1 ∧ Ext w w' := by
  obtain ⟨b0, e0⟩ := boxes1 w #[.bool neg, .slice A n c, .slice A' n' c'] 51
  have hz := h.2.2.eq_zero
  have HZ := Lib.hid (hz)
  have H := Lib.hid (h)
  have E0 := Lib.hid (e0)
  obtain ⟨⟨i0, i1, i2⟩, g0, g1, g2⟩ := b0.three
  clear hz h e0
  by_cases hn : n' = 0
  · subst hn
    have hd : q.den = 1 := (dk_zero q).1 (HZ.out.1 rfl)
    have HD := Lib.hid (hd)
    clear hd
    go_enter Tryz.func134, Tryz.ntmps134
    go_wp2_with fail
    refine (refOf_ok 1 _ (by decide)).mono ?_
    rintro e w1 ⟨B, m, d, rfl, h1, x1, _⟩
    have hm : m ≤ 1 := h1.lenOf (by decide)
    rw [← HD.out] at h1
    have F := Lib.hid (And.intro h1 (E0.out.tr x1))
    clear h1 x1
    go_wp2
    go_ret
    exact ⟨_, _, _, rfl, F.out.1, by omega, F.out.2⟩
  · have zb : ((n' : Int) == 0) = false := beq_eq_false_iff_ne.2 (by omega)
    have hd : dk q = q.den := by
      have h1 : dk q ≠ 0 := fun h => hn (HZ.out.2 h)
      unfold dk at h1 ⊢
      split
      · rename_i h2; rw [if_pos h2] at h1; exact absurd rfl h1
      · rfl
    have F := Lib.hid (show GrpR (w.alloc (.cells #[.bool neg, .slice A n c, .slice A' n' c'] 51)) A' n' c' q.den by rw [← hd]; exact H.out.2.2.keep E0.out)
    clear hd
    go_enter Tryz.func134, Tryz.ntmps134
    go_wp2
    go_ret
    exact ⟨_, _, _, rfl, F.out, by omega, E0.out⟩
theorem rmul_len {w w' w'' : World} {A A1 A2 : Option Addr} {n c n1 c1 n2 c2 a b : Nat} (h : GrpR w A n c (a * b)) (h1 : GrpR w' A1 n1 c1 a) (h2 : GrpR w'' A2 n2 c2 b) : n ≤ n1 + n2 := by
  refine h.lenOf ?_
  rw [Nat.pow_add]
  rcases Nat.eq_zero_or_pos b with h0 | h0
  · rw [h0, Nat.mul_zero]; exact Nat.mul_pos (Nat.pow_pos G6_pos) (Nat.pow_pos G6_pos)
  · exact Nat.mul_lt_mul_of_lt_of_le h1.lt_pow (Nat.le_of_lt h2.lt_pow) (Nat.pow_pos G6_pos)
theorem radd_len {w w' w'' : World} {A A1 A2 : Option Addr} {n c n1 c1 n2 c2 a b : Nat} (h : GrpR w A n c (a + b)) (h1 : GrpR w' A1 n1 c1 a) (h2 : GrpR w'' A2 n2 c2 b) : n ≤ n1 + n2 + 1 := by
  refine h.lenOf ?_
  have p1 : a < G6 ^ (n1 + n2) := Nat.lt_of_lt_of_le h1.lt_pow (Nat.pow_le_pow_right G6_pos (by omega))
  have p2 : b < G6 ^ (n1 + n2) := Nat.lt_of_lt_of_le h2.lt_pow (Nat.pow_le_pow_right G6_pos (by omega))
  rw [Nat.pow_succ]
  generalize G6 ^ (n1 + n2) = p at *
  rw [G6_eq]
  omega
set_option maxRecDepth 100000 in
set_option maxHeartbeats 4000000 in
theorem rqAdd_fr (na nb : Bool) (A1 : Option Addr) (n1 c1 : Nat) (A1' : Option Addr) (n1' c1' : Nat) (A2 : Option Addr) (n2 c2 : Nat) (A2' : Option Addr) (n2' c2' : Nat) (a b : Rat) (w : World)
    (ha : RQR w na A1 n1 c1 A1' n1' c1' a) (hb : RQR w nb A2 n2 c2 A2' n2' c2' b) (l1 : n1 ≤ 200000) (l1' : n1' ≤ 200000) (l2 : n2 ≤ 200000) (l2' : n2' ≤ 200000) :
    Calls Tryz.prog 78 #[.agg #[.bool na, .slice A1 n1 c1, .slice A1' n1' c1'], .agg #[.bool nb, .slice A2 n2 c2, .slice A2' n2' c2']] w (RQPostF w (a + b)) := by
  obtain ⟨b0, b1, b2, e0⟩ := boxes3 w #[.bool na, .slice A1 n1 c1, .slice A1' n1' c1'] 51 #[.bool nb, .slice A2 n2 c2, .slice A2' n2' c2'] 51 #[.bool false, .slice none 0 0, .slice none 0 0] 51
  have hq := (add_mkQ ha.1 hb.1).1
  have e0' : Ext w (((w.alloc (.cells #[.bool na, .slice A1 n1 c1, .slice A1' n1' c1'] 51)).alloc (.cells #[.bool nb, .slice A2 n2 c2, .slice A2' n2' c2'] 51)).alloc (.cells #[.bool false, .slice none 0 0, .slice none 0 0] 51)).drew := e0.drewN 1
  have b0' : Blk (((w.alloc (.cells #[.bool na, .slice A1 n1 c1, .slice A1' n1' c1'] 51)).alloc (.cells #[.bool nb, .slice A2 n2 c2, .slice A2' n2' c2'] 51)).alloc (.cells #[.bool false, .slice none 0 0, .slice none 0 0] 51)).drew _ _ _ := b0
  have b1' : Blk (((w.alloc (.cells #[.bool na, .slice A1 n1 c1, .slice A1' n1' c1'] 51)).alloc (.cells #[.bool nb, .slice A2 n2 c2, .slice A2' n2' c2'] 51)).alloc (.cells #[.bool false, .slice none 0 0, .slice none 0 0] 51)).drew _ _ _ := b1
  have b2' : Blk (((w.alloc (.cells #[.bool na, .slice A1 n1 c1, .slice A1' n1' c1'] 51)).alloc (.cells #[.bool nb, .slice A2 n2 c2, .slice A2' n2' c2'] 51)).alloc (.cells #[.bool false, .slice none 0 0, .slice none 0 0] 51)).drew _ _ _ := b2
  have HQ := Lib.hid (hq)
  have HA := Lib.hid (ha)
  have HB := Lib.hid (hb)
  have E0 := Lib.hid (e0')
  have BB := Lib.hid (And.intro b0' (And.intro b1' b2'))
  obtain ⟨⟨i0, i1, i2⟩, _⟩ := b0'.three
  obtain ⟨⟨j0, j1, j2⟩, _⟩ := b1'.three
  clear ha hb hq b0 b1 b2 e0 e0' b0' b1' b2'
  have tok : True := trivial
  have tom : True := trivial
  go_enter Tryz.func78, Tryz.ntmps78
  go_wp2
  go_region_held3 (fun w' => w'.cell? ⟨w.heap.size, 0, none⟩ = some (.bool na) ∧ w'.cell? ⟨w.heap.size, 1, none⟩ = some (.slice A1 n1 c1) ∧ w'.cell? ⟨w.heap.size, 2, none⟩ = some (.slice A1' n1' c1') ∧ w'.cell? ⟨w.heap.size + 1, 0, none⟩ = some (.bool nb) ∧ w'.cell? ⟨w.heap.size + 1, 1, none⟩ = some (.slice A2 n2 c2) ∧ w'.cell? ⟨w.heap.size + 1, 2, none⟩ = some (.slice A2' n2' c2'))
    (first | with_reducible exact ⟨i0, i1, i2, j0, j1, j2⟩ | fail)
    (first
      | (go_at_call 134
         have _t := tok
         refine (rOne_ok nb A2 n2 c2 A2' n2' c2' b _ (HB.out.keep E0.out)).mono ?_
         rintro e w3 ⟨A3, n3, c3, rfl, h3, l3, x3⟩
         clear tok
         have BB3 := Lib.hid (And.intro (BB.out.1.keep x3) (And.intro (BB.out.2.1.keep x3) (BB.out.2.2.keep x3)))
         have E3 := Lib.hid (E0.out.tr x3)
         have R3 := Lib.hid h3
         obtain ⟨⟨i0, i1, i2⟩, _⟩ := BB3.out.1.three
         obtain ⟨⟨j0, j1, j2⟩, _⟩ := BB3.out.2.1.three
         clear x3 h3)
      | (go_at_call 133
         have _t := tom
         refine (rMul_ok A1 A3 n1 c1 n3 c3 a.num.natAbs b.den _ (HA.out.2.1.keep E3.out) R3.out (by omega) (by omega)).mono ?_
         rintro e w4 ⟨A4, n4, c4, rfl, h4, x4, _⟩
         clear tom
         have L4 := rmul_len h4 HA.out.2.1 R3.out
         have BB4 := Lib.hid (And.intro (BB3.out.1.keep x4) (And.intro (BB3.out.2.1.keep x4) (BB3.out.2.2.keep x4)))
         have E4 := Lib.hid (E3.out.tr x4)
         have R4 := Lib.hid h4
         obtain ⟨⟨i0, i1, i2⟩, _⟩ := BB4.out.1.three
         obtain ⟨⟨j0, j1, j2⟩, _⟩ := BB4.out.2.1.three
         clear x4 h4)
      | (go_at_call 134
         refine (rOne_ok na A1 n1 c1 A1' n1' c1' a _ (HA.out.keep E4.out)).mono ?_
         rintro e w5 ⟨A5, n5, c5, rfl, h5, l5, x5⟩
         have BB5 := Lib.hid (And.intro (BB4.out.1.keep x5) (And.intro (BB4.out.2.1.keep x5) (BB4.out.2.2.keep x5)))
         have E5 := Lib.hid (E4.out.tr x5)
         have R5 := Lib.hid (And.intro (R4.out.keep x5) h5)
         obtain ⟨⟨i0, i1, i2⟩, _⟩ := BB5.out.1.three
         obtain ⟨⟨j0, j1, j2⟩, _⟩ := BB5.out.2.1.three
         clear x5 h5)
      | (go_at_call 133
         refine (rMul_ok A2 A5 n2 c2 n5 c5 b.num.natAbs a.den _ (HB.out.2.1.keep E5.out) R5.out.2 (by omega) (by omega)).mono ?_
         rintro e w6 ⟨A6, n6, c6, rfl, h6, x6, _⟩
         have L6 := rmul_len h6 HB.out.2.1 R5.out.2
         have BB6 := Lib.hid (And.intro (BB5.out.1.keep x6) (And.intro (BB5.out.2.1.keep x6) (BB5.out.2.2.keep x6)))
         have E6 := Lib.hid (E5.out.tr x6)
         have R6 := Lib.hid (And.intro (R5.out.1.keep x6) h6)
         obtain ⟨⟨i0, i1, i2⟩, _⟩ := BB6.out.1.three
         obtain ⟨⟨j0, j1, j2⟩, _⟩ := BB6.out.2.1.three
         clear x6 h6)
      | fail)
  have XD := Lib.hid (show Ext w6 w6.drew from (Ext.refl w6).drewN 1)
  have BD := Lib.hid (And.intro (BB6.out.1.keep XD.out) (And.intro (BB6.out.2.1.keep XD.out) (BB6.out.2.2.keep XD.out)))
  have ED := Lib.hid (E6.out.tr XD.out)
  have RD := Lib.hid (And.intro (R6.out.1.keep XD.out) (R6.out.2.keep XD.out))
  clear BB BB3 BB4 BB5 BB6 E0 E3 E4 E5 E6 R3 R4 R5 R6 XD i0 i1 i2 j0 j1 j2
  obtain ⟨⟨i0, i1, i2⟩, _⟩ := BD.out.1.three
  obtain ⟨⟨j0, j1, j2⟩, _⟩ := BD.out.2.1.three
  have tok : True := trivial
  go_wp2
  go_region_held3 (fun w' => w'.cell? ⟨w.heap.size, 0, none⟩ = some (.bool na) ∧ w'.cell? ⟨w.heap.size, 1, none⟩ = some (.slice A1 n1 c1) ∧ w'.cell? ⟨w.heap.size, 2, none⟩ = some (.slice A1' n1' c1') ∧ w'.cell? ⟨w.heap.size + 1, 0, none⟩ = some (.bool nb) ∧ w'.cell? ⟨w.heap.size + 1, 1, none⟩ = some (.slice A2 n2 c2) ∧ w'.cell? ⟨w.heap.size + 1, 2, none⟩ = some (.slice A2' n2' c2'))
    (first | with_reducible exact ⟨i0, i1, i2, j0, j1, j2⟩ | fail)
    (first
      | (go_at_call 134
         have _t := tok
         refine (rOne_ok na A1 n1 c1 A1' n1' c1' a _ (HA.out.keep ED.out)).mono ?_
         rintro e w7 ⟨A7, n7, c7, rfl, h7, l7, x7⟩
         clear tok
         have BB7 := Lib.hid (And.intro (BD.out.1.keep x7) (And.intro (BD.out.2.1.keep x7) (BD.out.2.2.keep x7)))
         have E7 := Lib.hid (ED.out.tr x7)
         have R7 := Lib.hid (And.intro h7 (And.intro (RD.out.1.keep x7) (RD.out.2.keep x7)))
         obtain ⟨⟨i0, i1, i2⟩, _⟩ := BB7.out.1.three
         obtain ⟨⟨j0, j1, j2⟩, _⟩ := BB7.out.2.1.three
         clear x7 h7)
      | (go_at_call 134
         refine (rOne_ok nb A2 n2 c2 A2' n2' c2' b _ (HB.out.keep E7.out)).mono ?_
         rintro e w8 ⟨A8, n8, c8, rfl, h8, l8, x8⟩
         have BB8 := Lib.hid (And.intro (BB7.out.1.keep x8) (And.intro (BB7.out.2.1.keep x8) (BB7.out.2.2.keep x8)))
         have E8 := Lib.hid (E7.out.tr x8)
         have R8 := Lib.hid (And.intro h8 (And.intro (R7.out.1.keep x8) (And.intro (R7.out.2.1.keep x8) (R7.out.2.2.keep x8))))
         obtain ⟨⟨i0, i1, i2⟩, _⟩ := BB8.out.1.three
         obtain ⟨⟨j0, j1, j2⟩, _⟩ := BB8.out.2.1.three
         clear x8 h8)
      | (go_at_call 133
         refine (rMul_ok A7 A8 n7 c7 n8 c8 a.den b.den _ R8.out.2.1 R8.out.1 (by omega) (by omega)).mono ?_
         rintro e w9 ⟨A9, n9, c9, rfl, h9, x9, _⟩
         have L9 := rmul_len h9 R8.out.2.1 R8.out.1
         have BB9 := Lib.hid (And.intro (BB8.out.1.keep x9) (And.intro (BB8.out.2.1.keep x9) (BB8.out.2.2.keep x9)))
         have E9 := Lib.hid (E8.out.tr x9)
         have R9 := Lib.hid (And.intro h9 (And.intro (R8.out.2.2.1.keep x9) (R8.out.2.2.2.keep x9)))
         obtain ⟨⟨i0, i1, i2⟩, _⟩ := BB9.out.1.three
         obtain ⟨⟨j0, j1, j2⟩, _⟩ := BB9.out.2.1.three
         clear x9 h9)
      | fail)
  clear BD ED RD BB7 BB8 E7 E8 R7 R8
  have hden : 0 < a.den * b.den := Nat.mul_pos a.den_pos b.den_pos
  by_cases hng : na = nb
  · have hb1 : (na == nb) = true := by rw [hng]; simp
    have HQ2 := Lib.hid (show a + b = mkQ na (a.num.natAbs * b.den + b.num.natAbs * a.den) (a.den * b.den) by rw [HQ.out]; unfold sgB sgV; rw [if_pos hng, if_pos hng])
    clear hng
    have XD := Lib.hid (show Ext w9 w9.drew from (Ext.refl w9).drewN 1)
    have BD := Lib.hid (And.intro (BB9.out.1.keep XD.out) (And.intro (BB9.out.2.1.keep XD.out) (BB9.out.2.2.keep XD.out)))
    have ED := Lib.hid (E9.out.tr XD.out)
    have RD := Lib.hid (And.intro (R9.out.1.keep XD.out) (And.intro (R9.out.2.1.keep XD.out) (R9.out.2.2.keep XD.out)))
    go_wp2
    have i0 : w9.drew.cell? ⟨w.heap.size, 0, none⟩ = some (.bool na) := i0
    go_region_held3 (fun w' => w'.cell? ⟨w.heap.size, 0, none⟩ = some (.bool na))
      (first | with_reducible exact i0 | exact i0s _ _ _ | fail)
      (first
        | (go_at_call 135
           refine (rAdd_ok A4 A6 n4 c4 n6 c6 _ _ _ RD.out.2.1 RD.out.2.2 (by omega) (by omega)).mono ?_
           rintro e w11 ⟨A11, n11, c11, rfl, h11, x11, _⟩
           have L11 := radd_len h11 RD.out.2.1 RD.out.2.2
           have BB11 := Lib.hid (And.intro (BD.out.1.keep x11) (And.intro (BD.out.2.1.keep x11) (BD.out.2.2.keep x11)))
           have E11 := Lib.hid (ED.out.tr x11)
           have R11 := Lib.hid (And.intro h11 (RD.out.1.keep x11))
           obtain ⟨⟨i0, _, _⟩, _⟩ := BB11.out.1.three
           clear h11 x11)
        | (go_at_call 115
           refine (rMade_fr na A11 A9 n11 c11 n9 c9 _ _ _ R11.out.1 R11.out.2 (by omega) (by omega) hden).mono ?_
           rintro e w12 ⟨nq, B, m, d, B', m', d', rfl, h12, x12, fr12⟩
           have FR := Lib.hid (fr12.le E11.out.size)
           clear fr12
           rw [← HQ2.out] at h12
           have B12 := Lib.hid (BB11.out.2.2.keep x12)
           have E12 := Lib.hid (E11.out.tr x12)
           obtain ⟨⟨p0, p1, p2⟩, f0, f1, f2⟩ := B12.out.three
           obtain ⟨r1, r2⟩ := rq_set3 (w := w) h12 B12.out (by omega) E12.out
           have q3 := ((B12.out.set_ 0 (.bool nq)).set_ 1 (.slice B m d)).set_ 2 (.slice B' m' d')
           have RF := Lib.hid (And.intro q3 (And.intro r1 r2))
           clear q3 r1 r2 h12
           obtain ⟨⟨i0, _, _⟩, _⟩ := (BB11.out.1.keep x12).three
           have i0s := fun u0 u1 u2 => ((((BB11.out.1.keep x12).far (p := ⟨w.heap.size + 1 + 1, 0, none⟩) (by simp; omega) u0).far (p := ⟨w.heap.size + 1 + 1, 1, none⟩) (by simp; omega) u1).far (p := ⟨w.heap.size + 1 + 1, 2, none⟩) (by simp; omega) u2).cell 0
           clear x12)
        | fail)
    go_wp2
    exact bodyPost_ret (v := .agg #[.bool nq, .slice B m d, .slice B' m' d']) (by simp [results, Tryz.results78, go_sem, RF.out.1.cell]) rfl ⟨_, _, _, _, _, _, _, rfl, RF.out.2.1, RF.out.2.2, FR.out⟩
  · have hb1 : (na == nb) = false := beq_eq_false_iff_ne.2 hng
    by_cases hle : b.num.natAbs * a.den ≤ a.num.natAbs * b.den
    · have HQ2 := Lib.hid (show a + b = mkQ na (a.num.natAbs * b.den - b.num.natAbs * a.den) (a.den * b.den) by rw [HQ.out]; unfold sgB sgV; rw [if_neg hng, if_neg hng, if_pos hle, if_pos hle])
      go_wp2_with fail
      refine (rCmp_ok A4 A6 n4 c4 n6 c6 _ _ _ R9.out.2.1 R9.out.2.2 (by omega)).mono ?_
      rintro e w10 ⟨rfl, x10⟩
      have BBX := Lib.hid (And.intro (BB9.out.1.keep x10) (And.intro (BB9.out.2.1.keep x10) (BB9.out.2.2.keep x10)))
      have EX := Lib.hid (E9.out.tr x10)
      have RX := Lib.hid (And.intro (R9.out.1.keep x10) (And.intro (R9.out.2.1.keep x10) (R9.out.2.2.keep x10)))
      clear i0 i1 i2 j0 j1 j2 x10
      obtain ⟨⟨i0, i1, i2⟩, _⟩ := BBX.out.1.three
      obtain ⟨⟨j0, j1, j2⟩, _⟩ := BBX.out.2.1.three
      have hcm : decide (0 ≤ cmpI (a.num.natAbs * b.den) (b.num.natAbs * a.den)) = true := by
        have : 0 ≤ cmpI (a.num.natAbs * b.den) (b.num.natAbs * a.den) := by unfold cmpI; rw [if_neg (by omega)]; split <;> decide
        simpa using this
      have HLE := Lib.hid hle
      clear hng hle
      generalize cmpI (a.num.natAbs * b.den) (b.num.natAbs * a.den) = cc at *
      go_wp2_with fail
      refine (rSub_ok A4 A6 n4 c4 n6 c6 _ _ _ RX.out.2.1 RX.out.2.2 (by omega) HLE.out).mono ?_
      rintro e w11 ⟨A11, n11, c11, rfl, h11, x11⟩
      have L11 := h11.lenOf (Nat.lt_of_le_of_lt (Nat.sub_le _ _) RX.out.2.1.lt_pow)
      have BB11 := Lib.hid (And.intro (BBX.out.1.keep x11) (And.intro (BBX.out.2.1.keep x11) (BBX.out.2.2.keep x11)))
      have E11 := Lib.hid (EX.out.tr x11)
      have R11 := Lib.hid (And.intro h11 (RX.out.1.keep x11))
      clear i0 i1 i2 j0 j1 j2 h11 x11
      obtain ⟨⟨i0, i1, i2⟩, _⟩ := BB11.out.1.three
      obtain ⟨⟨j0, j1, j2⟩, _⟩ := BB11.out.2.1.three
      go_wp2_with fail
      refine (rMade_fr na A11 A9 n11 c11 n9 c9 _ _ _ R11.out.1 R11.out.2 (by omega) (by omega) hden).mono ?_
      rintro e w12 ⟨nq, B, m, d, B', m', d', rfl, h12, x12, fr12⟩
      have FR := Lib.hid (fr12.le E11.out.size)
      clear fr12
      rw [← HQ2.out] at h12
      have B12 := Lib.hid (BB11.out.2.2.keep x12)
      have E12 := Lib.hid (E11.out.tr x12)
      obtain ⟨⟨p0, p1, p2⟩, f0, f1, f2⟩ := B12.out.three
      obtain ⟨r1, r2⟩ := rq_set3 (w := w) h12 B12.out (by omega) E12.out
      have q3 := ((B12.out.set_ 0 (.bool nq)).set_ 1 (.slice B m d)).set_ 2 (.slice B' m' d')
      have RF := Lib.hid (And.intro q3 (And.intro r1 r2))
      clear q3 r1 r2 h12
      go_wp2
      exact bodyPost_ret (v := .agg #[.bool nq, .slice B m d, .slice B' m' d']) (by simp [results, Tryz.results78, go_sem, RF.out.1.cell]) rfl ⟨_, _, _, _, _, _, _, rfl, RF.out.2.1, RF.out.2.2, FR.out⟩
    · have HQ2 := Lib.hid (show a + b = mkQ nb (b.num.natAbs * a.den - a.num.natAbs * b.den) (a.den * b.den) by rw [HQ.out]; unfold sgB sgV; rw [if_neg hng, if_neg hng, if_neg hle, if_neg hle])
      go_wp2_with fail
      refine (rCmp_ok A4 A6 n4 c4 n6 c6 _ _ _ R9.out.2.1 R9.out.2.2 (by omega)).mono ?_
      rintro e w10 ⟨rfl, x10⟩
      have BBX := Lib.hid (And.intro (BB9.out.1.keep x10) (And.intro (BB9.out.2.1.keep x10) (BB9.out.2.2.keep x10)))
      have EX := Lib.hid (E9.out.tr x10)
      have RX := Lib.hid (And.intro (R9.out.1.keep x10) (And.intro (R9.out.2.1.keep x10) (R9.out.2.2.keep x10)))
      clear i0 i1 i2 j0 j1 j2 x10
      obtain ⟨⟨i0, i1, i2⟩, _⟩ := BBX.out.1.three
      obtain ⟨⟨j0, j1, j2⟩, _⟩ := BBX.out.2.1.three
      have hcm : decide (0 ≤ cmpI (a.num.natAbs * b.den) (b.num.natAbs * a.den)) = false := by
        have : ¬ 0 ≤ cmpI (a.num.natAbs * b.den) (b.num.natAbs * a.den) := by unfold cmpI; rw [if_pos (by omega)]; decide
        simpa using this
      have HLE := Lib.hid (show a.num.natAbs * b.den ≤ b.num.natAbs * a.den by omega)
      clear hng hle
      generalize cmpI (a.num.natAbs * b.den) (b.num.natAbs * a.den) = cc at *
      go_wp2_with fail
      refine (rSub_ok A6 A4 n6 c6 n4 c4 _ _ _ RX.out.2.2 RX.out.2.1 (by omega) HLE.out).mono ?_
      rintro e w11 ⟨A11, n11, c11, rfl, h11, x11⟩
      have L11 := h11.lenOf (Nat.lt_of_le_of_lt (Nat.sub_le _ _) RX.out.2.2.lt_pow)
      have BB11 := Lib.hid (And.intro (BBX.out.1.keep x11) (And.intro (BBX.out.2.1.keep x11) (BBX.out.2.2.keep x11)))
      have E11 := Lib.hid (EX.out.tr x11)
      have R11 := Lib.hid (And.intro h11 (RX.out.1.keep x11))
      clear i0 i1 i2 j0 j1 j2 h11 x11
      obtain ⟨⟨i0, i1, i2⟩, _⟩ := BB11.out.1.three
      obtain ⟨⟨j0, j1, j2⟩, _⟩ := BB11.out.2.1.three
      go_wp2_with fail
      refine (rMade_fr nb A11 A9 n11 c11 n9 c9 _ _ _ R11.out.1 R11.out.2 (by omega) (by omega) hden).mono ?_
      rintro e w12 ⟨nq, B, m, d, B', m', d', rfl, h12, x12, fr12⟩
      have FR := Lib.hid (fr12.le E11.out.size)
      clear fr12
      rw [← HQ2.out] at h12
      have B12 := Lib.hid (BB11.out.2.2.keep x12)
      have E12 := Lib.hid (E11.out.tr x12)
      obtain ⟨⟨p0, p1, p2⟩, f0, f1, f2⟩ := B12.out.three
      obtain ⟨r1, r2⟩ := rq_set3 (w := w) h12 B12.out (by omega) E12.out
      have q3 := ((B12.out.set_ 0 (.bool nq)).set_ 1 (.slice B m d)).set_ 2 (.slice B' m' d')
      have RF := Lib.hid (And.intro q3 (And.intro r1 r2))
      clear q3 r1 r2 h12
      go_wp2
      exact bodyPost_ret (v := .agg #[.bool nq, .slice B m d, .slice B' m' d']) (by simp [results, Tryz.results78, go_sem, RF.out.1.cell]) rfl ⟨_, _, _, _, _, _, _, rfl, RF.out.2.1, RF.out.2.2, FR.out⟩
theorem rqAdd_ok (na nb : Bool) (A1 : Option Addr) (n1 c1 : Nat) (A1' : Option Addr) (n1' c1' : Nat) (A2 : Option Addr) (n2 c2 : Nat) (A2' : Option Addr) (n2' c2' : Nat) (a b : Rat) (w : World)
    (ha : RQR w na A1 n1 c1 A1' n1' c1' a) (hb : RQR w nb A2 n2 c2 A2' n2' c2' b) (l1 : n1 ≤ 200000) (l1' : n1' ≤ 200000) (l2 : n2 ≤ 200000) (l2' : n2' ≤ 200000) :
    Calls Tryz.prog 78 #[.agg #[.bool na, .slice A1 n1 c1, .slice A1' n1' c1'], .agg #[.bool nb, .slice A2 n2 c2, .slice A2' n2' c2']] w (RQPost w (a + b)) := (rqAdd_fr na nb A1 n1 c1 A1' n1' c1' A2 n2 c2 A2' n2' c2' a b w ha hb l1 l1' l2 l2').mono fun e w' h => h.ok
end Go.Proofs.YtekiomanidimnaaGreatDoor


namespace Go.Proofs.YtekiomanidimnaaGreatDoor
open Go.RowKit
theorem neg_mkQ (q : Rat) : mkQ (!decide (q.num < 0)) q.num.natAbs q.den = -q := by
  have h : (if (!decide (q.num < 0)) = true then -(q.num.natAbs : Int) else (q.num.natAbs : Int)) = -q.num := by
    by_cases hn : q.num < 0
    · simp only [hn, decide_true, Bool.not_true, Bool.false_eq_true, if_false]; omega
    · simp only [hn, decide_false, Bool.not_false, if_true]; omega
  unfold mkQ
  rw [h, ← Rat.neg_mkRat, Rat.mkRat_self]
theorem sgn_neg' (q : Rat) : sgnI q < 0 ↔ q < 0 := by
  have h : q.num < 0 ↔ q < 0 := by
    rw [← Int.not_le, Rat.num_nonneg, Rat.not_le]
  unfold sgnI
  split
  · rename_i h0
    rw [← h, h0]
  · split
    · rename_i h1; exact ⟨fun _ => h.1 h1, fun _ => by decide⟩
    · rename_i h1; exact ⟨fun x => by omega, fun x => absurd (h.2 x) h1⟩
theorem sub_cmp (a b : Rat) : sgnI (a - b) = cmpQ a b := by
  unfold cmpQ
  by_cases h : a < b
  · rw [if_pos h]
    have h1 : a - b < 0 := by
      have h2 := (Rat.lt_iff_sub_pos a b).1 h
      rw [← Rat.neg_lt_neg_iff, Rat.neg_sub]
      simpa using h2
    have h3 := (sgn_neg' (a - b)).2 h1
    unfold sgnI at h3 ⊢
    split at h3
    · omega
    · rename_i hz
      rw [if_neg hz]
      split at h3
      · rename_i hn; rw [if_pos hn]
      · omega
  · rw [if_neg h]
    by_cases e : a = b
    · rw [if_pos e, e, Rat.sub_self]; rfl
    · rw [if_neg e]
      have h3 : ¬ sgnI (a - b) < 0 := fun h4 => by
        have h5 := (sgn_neg' (a - b)).1 h4
        apply h
        rw [Rat.lt_iff_sub_pos, ← Rat.neg_lt_neg_iff, Rat.neg_sub]
        simpa using h5
      have h6 : sgnI (a - b) ≠ 0 := fun h4 => e (by
        have := sgnI_zero.1 h4
        rw [Rat.sub_eq_add_neg] at this
        have h7 : a + -b + b = 0 + b := by rw [this]
        rw [Rat.add_assoc, Rat.neg_add_cancel, Rat.add_zero, Rat.zero_add] at h7
        exact h7)
      unfold sgnI at h3 h6 ⊢
      split
      · rename_i hz; rw [if_pos hz] at h6; exact absurd rfl h6
      · rename_i hz
        rw [if_neg hz] at h3
        split
        · rename_i hn; rw [if_pos hn] at h3; omega
        · rfl
theorem neg_num (q : Rat) : (-q).num.natAbs = q.num.natAbs ∧ dk (-q) = dk q := by
  constructor
  · show (-(q.num)).natAbs = _; omega
  · rfl
theorem RQR.lensN {w w' : World} {neg neg2 : Bool} {A A' B B' : Option Addr} {n c n' c' m d m' d' : Nat} {q : Rat} (h : RQR w neg A n c A' n' c' q) (h2 : RQR w' neg2 B m d B' m' d' (-q)) : m ≤ n ∧ m' ≤ n' := by
  obtain ⟨e1, e2⟩ := neg_num q
  refine ⟨h2.2.1.lenOf ?_, h2.2.2.lenOf ?_⟩
  · rw [e1]; exact h.2.1.lt_pow
  · rw [e2]; exact h.2.2.lt_pow
set_option maxRecDepth 100000 in
set_option maxHeartbeats 2000000 in
theorem rqNeg_ok (na : Bool) (A1 : Option Addr) (n1 c1 : Nat) (A1' : Option Addr) (n1' c1' : Nat) (a : Rat) (w : World) (ha : RQR w na A1 n1 c1 A1' n1' c1' a) (l1 : n1 ≤ 200000) (l1' : n1' ≤ 200000) :
    Calls Tryz.prog 106 #[.agg #[.bool na, .slice A1 n1 c1, .slice A1' n1' c1']] w (RQPost w (-a)) := by
  obtain ⟨b0, b1, e0⟩ := boxes2 w #[.bool na, .slice A1 n1 c1, .slice A1' n1' c1'] 51 #[.bool false, .slice none 0 0, .slice none 0 0] 51
  have e0' : Ext w ((w.alloc (.cells #[.bool na, .slice A1 n1 c1, .slice A1' n1' c1'] 51)).alloc (.cells #[.bool false, .slice none 0 0, .slice none 0 0] 51)).drew := e0.drewN 1
  have b0' : Blk ((w.alloc (.cells #[.bool na, .slice A1 n1 c1, .slice A1' n1' c1'] 51)).alloc (.cells #[.bool false, .slice none 0 0, .slice none 0 0] 51)).drew _ _ _ := b0
  have b1' : Blk ((w.alloc (.cells #[.bool na, .slice A1 n1 c1, .slice A1' n1' c1'] 51)).alloc (.cells #[.bool false, .slice none 0 0, .slice none 0 0] 51)).drew _ _ _ := b1
  have hq := neg_mkQ a
  rw [← ha.1] at hq
  have HQ := Lib.hid hq
  have HA := Lib.hid (ha.keep e0')
  have E0 := Lib.hid (e0')
  have BB := Lib.hid (And.intro b0' b1')
  have hden := a.den_pos
  obtain ⟨⟨i0, i1, i2⟩, _⟩ := b0'.three
  clear ha b0 b1 e0 b0' b1' e0' hq
  go_enter Tryz.func106, Tryz.ntmps106
  go_wp2
  go_region_held3 (fun w' => w'.cell? ⟨w.heap.size, 0, none⟩ = some (.bool na) ∧ w'.cell? ⟨w.heap.size, 1, none⟩ = some (.slice A1 n1 c1) ∧ w'.cell? ⟨w.heap.size, 2, none⟩ = some (.slice A1' n1' c1'))
    (first | with_reducible exact ⟨i0, i1, i2⟩ | exact fj _ _ _ | fail)
    (first
      | (go_at_call 134
         refine (rOne_ok na A1 n1 c1 A1' n1' c1' a _ HA.out).mono ?_
         rintro e w3 ⟨A3, n3, c3, rfl, h3, l3, x3⟩
         have B3 := Lib.hid (And.intro (BB.out.1.keep x3) (BB.out.2.keep x3))
         have E3 := Lib.hid (E0.out.tr x3)
         have R3 := Lib.hid (And.intro h3 (HA.out.2.1.keep x3))
         obtain ⟨⟨i0, i1, i2⟩, _⟩ := B3.out.1.three
         clear x3 h3)
      | (go_at_call 115
         refine (rMade_ok (!na) A1 A3 n1 c1 n3 c3 _ _ _ R3.out.2 R3.out.1 (by omega) (by omega) hden).mono ?_
         rintro e w4 ⟨nq, B, m, d, B', m', d', rfl, h4, x4⟩
         rw [HQ.out] at h4
         have B4 := Lib.hid (And.intro (B3.out.1.keep x4) (B3.out.2.keep x4))
         have E4 := Lib.hid (E3.out.tr x4)
         obtain ⟨⟨i0, i1, i2⟩, _⟩ := B4.out.1.three
         obtain ⟨⟨p0, p1, p2⟩, f0, f1, f2⟩ := B4.out.2.three
         obtain ⟨r1, r2⟩ := rq_set3 (w := w) h4 B4.out.2 (by omega) E4.out
         have q3 := ((B4.out.2.set_ 0 (.bool nq)).set_ 1 (.slice B m d)).set_ 2 (.slice B' m' d')
         have RF := Lib.hid (And.intro q3 (And.intro r1 r2))
         have hf := fun u0 u1 u2 => ((B4.out.1.far (p := ⟨w.heap.size + 1, 0, none⟩) (by simp) u0).far (p := ⟨w.heap.size + 1, 1, none⟩) (by simp) u1).far (p := ⟨w.heap.size + 1, 2, none⟩) (by simp) u2
         have fj := fun u0 u1 u2 => And.intro ((hf u0 u1 u2).cell 0) (And.intro ((hf u0 u1 u2).cell 1) ((hf u0 u1 u2).cell 2))
         clear x4 h4 q3 r1 r2)
      | fail)
  go_wp2
  exact bodyPost_ret (v := .agg #[.bool nq, .slice B m d, .slice B' m' d']) (by simp [results, Tryz.results106, go_sem, RF.out.1.cell]) rfl ⟨_, _, _, _, _, _, _, rfl, RF.out.2.1, RF.out.2.2⟩
set_option maxRecDepth 100000 in
set_option maxHeartbeats 2000000 in
theorem rqSign_ok (na : Bool) (A1 : Option Addr) (n1 c1 : Nat) (A1' : Option Addr) (n1' c1' : Nat) (a : Rat) (w : World) (ha : RQR w na A1 n1 c1 A1' n1' c1' a) :
    Calls Tryz.prog 80 #[.agg #[.bool na, .slice A1 n1 c1, .slice A1' n1' c1']] w fun e w' => e = .returned (.int .i64 (sgnI a)) ∧ Ext w w' := by
  obtain ⟨b0, e0⟩ := boxes1 w #[.bool na, .slice A1 n1 c1, .slice A1' n1' c1'] 51
  have hz := ha.2.1.eq_zero
  have hn := ha.1
  obtain ⟨⟨i0, i1, i2⟩, g0, g1, g2⟩ := b0.three
  have E0 := Lib.hid (e0)
  clear e0
  by_cases h0 : n1 = 0
  · have hs : sgnI a = 0 := by unfold sgnI; rw [if_pos (by have := hz.1 h0; omega)]
    rw [hs]
    subst h0
    clear hz hn hs ha
    go_enter Tryz.func80, Tryz.ntmps80
    go_wp2
    go_ret
    exact ⟨rfl, E0.out⟩
  · have zb : ((n1 : Int) == 0) = false := beq_eq_false_iff_ne.2 (by omega)
    have hnz : a.num ≠ 0 := fun h => h0 (hz.2 (by omega))
    cases na
    · have hs : sgnI a = 1 := by
        unfold sgnI; rw [if_neg hnz, if_neg]; intro h; rw [decide_eq_true h] at hn; cases hn
      rw [hs]
      clear hz hn hs ha hnz
      go_enter Tryz.func80, Tryz.ntmps80
      go_wp2
      go_ret
      exact ⟨rfl, E0.out⟩
    · have hs : sgnI a = -1 := by
        unfold sgnI; rw [if_neg hnz, if_pos]; exact of_decide_eq_true hn.symm
      rw [hs]
      clear hz hn hs ha hnz
      go_enter Tryz.func80, Tryz.ntmps80
      go_wp2
      go_ret
      exact ⟨rfl, E0.out⟩
set_option maxRecDepth 100000 in
set_option maxHeartbeats 2000000 in
theorem rqSub_fr (na nb : Bool) (A1 : Option Addr) (n1 c1 : Nat) (A1' : Option Addr) (n1' c1' : Nat) (A2 : Option Addr) (n2 c2 : Nat) (A2' : Option Addr) (n2' c2' : Nat) (a b : Rat) (w : World)
    (ha : RQR w na A1 n1 c1 A1' n1' c1' a) (hb : RQR w nb A2 n2 c2 A2' n2' c2' b) (l1 : n1 ≤ 200000) (l1' : n1' ≤ 200000) (l2 : n2 ≤ 200000) (l2' : n2' ≤ 200000) :
    Calls Tryz.prog 102 #[.agg #[.bool na, .slice A1 n1 c1, .slice A1' n1' c1'], .agg #[.bool nb, .slice A2 n2 c2, .slice A2' n2' c2']] w (RQPostF w (a - b)) := by
  obtain ⟨b0, b1, b2, e0⟩ := boxes3 w #[.bool na, .slice A1 n1 c1, .slice A1' n1' c1'] 51 #[.bool nb, .slice A2 n2 c2, .slice A2' n2' c2'] 51 #[.bool false, .slice none 0 0, .slice none 0 0] 51
  have x1 : Ext (((w.alloc (.cells #[.bool na, .slice A1 n1 c1, .slice A1' n1' c1'] 51)).alloc (.cells #[.bool nb, .slice A2 n2 c2, .slice A2' n2' c2'] 51)).alloc (.cells #[.bool false, .slice none 0 0, .slice none 0 0] 51)) (((w.alloc (.cells #[.bool na, .slice A1 n1 c1, .slice A1' n1' c1'] 51)).alloc (.cells #[.bool nb, .slice A2 n2 c2, .slice A2' n2' c2'] 51)).alloc (.cells #[.bool false, .slice none 0 0, .slice none 0 0] 51)).drew := (Ext.refl _).drewN 1
  have HA := Lib.hid (And.intro ((ha.keep e0).keep x1) ((hb.keep e0).keep x1))
  have E0 := Lib.hid (e0.tr x1)
  have BB := Lib.hid (And.intro (b0.keep x1) (And.intro (b1.keep x1) (b2.keep x1)))
  obtain ⟨⟨i0, i1, i2⟩, _⟩ := BB.out.1.three
  obtain ⟨⟨j0, j1, j2⟩, _⟩ := BB.out.2.1.three
  clear ha hb b0 b1 b2 e0 x1
  go_enter Tryz.func102, Tryz.ntmps102
  go_wp2
  go_region_held3 (fun w' => w'.cell? ⟨w.heap.size, 0, none⟩ = some (.bool na) ∧ w'.cell? ⟨w.heap.size, 1, none⟩ = some (.slice A1 n1 c1) ∧ w'.cell? ⟨w.heap.size, 2, none⟩ = some (.slice A1' n1' c1') ∧ w'.cell? ⟨w.heap.size + 1, 0, none⟩ = some (.bool nb) ∧ w'.cell? ⟨w.heap.size + 1, 1, none⟩ = some (.slice A2 n2 c2) ∧ w'.cell? ⟨w.heap.size + 1, 2, none⟩ = some (.slice A2' n2' c2'))
    (first | with_reducible exact ⟨i0, i1, i2, j0, j1, j2⟩ | exact fj _ _ _ | fail)
    (first
      | (go_at_call 106
         refine (rqNeg_ok nb A2 n2 c2 A2' n2' c2' b _ HA.out.2 (by omega) (by omega)).mono ?_
         rintro e w3 ⟨n3, B3, m3, d3, B3', m3', d3', rfl, h3, x3⟩
         have L3 := HA.out.2.lensN h3
         have G3 := Lib.hid (And.intro (BB.out.1.keep x3) (And.intro (BB.out.2.1.keep x3) (BB.out.2.2.keep x3)))
         have E3 := Lib.hid (E0.out.tr x3)
         have R3 := Lib.hid (And.intro h3 (HA.out.1.keep x3))
         obtain ⟨⟨i0, i1, i2⟩, _⟩ := G3.out.1.three
         obtain ⟨⟨j0, j1, j2⟩, _⟩ := G3.out.2.1.three
         clear x3 h3)
      | (go_at_call 78
         refine (rqAdd_fr na n3 A1 n1 c1 A1' n1' c1' B3 m3 d3 B3' m3' d3' a (-b) _ R3.out.2 R3.out.1 (by omega) (by omega) (by omega) (by omega)).mono ?_
         rintro e w4 ⟨nq, B, m, d, B', m', d', rfl, h4, x4, fr4⟩
         have FR := Lib.hid (fr4.le E3.out.size)
         clear fr4
         rw [← Rat.sub_eq_add_neg] at h4
         have G4 := Lib.hid (And.intro (G3.out.1.keep x4) (And.intro (G3.out.2.1.keep x4) (G3.out.2.2.keep x4)))
         have E4 := Lib.hid (E3.out.tr x4)
         obtain ⟨⟨i0, i1, i2⟩, _⟩ := G4.out.1.three
         obtain ⟨⟨j0, j1, j2⟩, _⟩ := G4.out.2.1.three
         obtain ⟨⟨p0, p1, p2⟩, f0, f1, f2⟩ := G4.out.2.2.three
         obtain ⟨r1, r2⟩ := rq_set3 (w := w) h4 G4.out.2.2 (by omega) E4.out
         have q3 := ((G4.out.2.2.set_ 0 (.bool nq)).set_ 1 (.slice B m d)).set_ 2 (.slice B' m' d')
         have RF := Lib.hid (And.intro q3 (And.intro r1 r2))
         have hf := fun u0 u1 u2 => ((G4.out.1.far (p := ⟨w.heap.size + 1 + 1, 0, none⟩) (by simp; omega) u0).far (p := ⟨w.heap.size + 1 + 1, 1, none⟩) (by simp; omega) u1).far (p := ⟨w.heap.size + 1 + 1, 2, none⟩) (by simp; omega) u2
         have hg := fun u0 u1 u2 => ((G4.out.2.1.far (p := ⟨w.heap.size + 1 + 1, 0, none⟩) (by simp) u0).far (p := ⟨w.heap.size + 1 + 1, 1, none⟩) (by simp) u1).far (p := ⟨w.heap.size + 1 + 1, 2, none⟩) (by simp) u2
         have fj := fun u0 u1 u2 => And.intro ((hf u0 u1 u2).cell 0) (And.intro ((hf u0 u1 u2).cell 1) (And.intro ((hf u0 u1 u2).cell 2) (And.intro ((hg u0 u1 u2).cell 0) (And.intro ((hg u0 u1 u2).cell 1) ((hg u0 u1 u2).cell 2)))))
         clear x4 h4 q3 r1 r2)
      | fail)
  go_wp2
  exact bodyPost_ret (v := .agg #[.bool nq, .slice B m d, .slice B' m' d']) (by simp [results, Tryz.results102, go_sem, RF.out.1.cell]) rfl ⟨_, _, _, _, _, _, _, rfl, RF.out.2.1, RF.out.2.2, FR.out⟩
theorem rqSub_ok (na nb : Bool) (A1 : Option Addr) (n1 c1 : Nat) (A1' : Option Addr) (n1' c1' : Nat) (A2 : Option Addr) (n2 c2 : Nat) (A2' : Option Addr) (n2' c2' : Nat) (a b : Rat) (w : World)
    (ha : RQR w na A1 n1 c1 A1' n1' c1' a) (hb : RQR w nb A2 n2 c2 A2' n2' c2' b) (l1 : n1 ≤ 200000) (l1' : n1' ≤ 200000) (l2 : n2 ≤ 200000) (l2' : n2' ≤ 200000) :
    Calls Tryz.prog 102 #[.agg #[.bool na, .slice A1 n1 c1, .slice A1' n1' c1'], .agg #[.bool nb, .slice A2 n2 c2, .slice A2' n2' c2']] w (RQPost w (a - b)) := (rqSub_fr na nb A1 n1 c1 A1' n1' c1' A2 n2 c2 A2' n2' c2' a b w ha hb l1 l1' l2 l2').mono fun e w' h => h.ok
set_option maxRecDepth 100000 in
set_option maxHeartbeats 2000000 in
theorem rqCmp_ok (na nb : Bool) (A1 : Option Addr) (n1 c1 : Nat) (A1' : Option Addr) (n1' c1' : Nat) (A2 : Option Addr) (n2 c2 : Nat) (A2' : Option Addr) (n2' c2' : Nat) (a b : Rat) (w : World)
    (ha : RQR w na A1 n1 c1 A1' n1' c1' a) (hb : RQR w nb A2 n2 c2 A2' n2' c2' b) (l1 : n1 ≤ 200000) (l1' : n1' ≤ 200000) (l2 : n2 ≤ 200000) (l2' : n2' ≤ 200000) :
    Calls Tryz.prog 85 #[.agg #[.bool na, .slice A1 n1 c1, .slice A1' n1' c1'], .agg #[.bool nb, .slice A2 n2 c2, .slice A2' n2' c2']] w fun e w' => e = .returned (.int .i64 (cmpQ a b)) ∧ Ext w w' := by
  obtain ⟨b0, b1, e0⟩ := boxes2 w #[.bool na, .slice A1 n1 c1, .slice A1' n1' c1'] 51 #[.bool nb, .slice A2 n2 c2, .slice A2' n2' c2'] 51
  have HA := Lib.hid (And.intro (ha.keep e0) (hb.keep e0))
  obtain ⟨⟨i0, i1, i2⟩, _⟩ := b0.three
  obtain ⟨⟨j0, j1, j2⟩, _⟩ := b1.three
  have E0 := Lib.hid (e0)
  clear ha hb b0 b1 e0
  rw [← sub_cmp]
  go_enter Tryz.func85, Tryz.ntmps85
  go_wp2_with fail
  refine (rqSub_ok na nb A1 n1 c1 A1' n1' c1' A2 n2 c2 A2' n2' c2' a b _ HA.out.1 HA.out.2 l1 l1' l2 l2').mono ?_
  rintro e w3 ⟨n3, B3, m3, d3, B3', m3', d3', rfl, h3, x3⟩
  have E3 := Lib.hid (E0.out.tr x3)
  have R3 := Lib.hid h3
  clear x3 h3
  go_wp2_with fail
  refine (rqSign_ok n3 B3 m3 d3 B3' m3' d3' (a - b) _ R3.out).mono ?_
  rintro e w4 ⟨rfl, x4⟩
  have E4 := Lib.hid (E3.out.tr x4)
  clear x4
  go_wp2
  go_ret
  exact ⟨rfl, E4.out⟩
end Go.Proofs.YtekiomanidimnaaGreatDoor
