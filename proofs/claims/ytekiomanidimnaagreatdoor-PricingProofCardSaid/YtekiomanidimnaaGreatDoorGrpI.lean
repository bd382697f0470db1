/- waypointref01.Mul. -/
import Derived.Test.YtekiomanidimnaaGreatDoorGrpH
set_option linter.unusedVariables false
set_option linter.unusedSimpArgs false

namespace Go.Proofs.YtekiomanidimnaaGreatDoor
open Go.RowKit
/-- Group k of a product: the sum of the products of groups whose places add up to k. -/
def cv : List Nat → List Nat → Nat → Nat
  | [], _, _ => 0
  | x :: xs, ys, k => x * ys[k]?.getD 0 + (match k with
    | 0 => 0
    | k + 1 => cv xs ys k)
theorem cv_take (ys : List Nat) : ∀ (xs : List Nat) (i k : Nat), i < xs.length → i ≤ k → cv (xs.take (i + 1)) ys k = cv (xs.take i) ys k + xs[i]?.getD 0 * ys[k - i]?.getD 0
  | [], i, k, hi, _ => by simp at hi
  | x :: xs, 0, k, _, _ => by
    cases k <;> simp [cv]
  | x :: xs, i + 1, 0, _, h => by omega
  | x :: xs, i + 1, k + 1, hi, h => by
    have := cv_take ys xs i k (by simpa using hi) (by omega)
    simp only [List.take_succ_cons, cv]
    rw [this]
    simp only [List.getElem?_cons_succ, Nat.add_sub_add_right]
    omega
theorem cv_take_all (ys : List Nat) : ∀ (xs : List Nat) (i k : Nat), k < i → cv (xs.take i) ys k = cv xs ys k
  | [], i, k, _ => by simp
  | x :: xs, 0, k, h => by omega
  | x :: xs, i + 1, 0, _ => by simp [cv]
  | x :: xs, i + 1, k + 1, h => by
    simp only [List.take_succ_cons, cv]
    rw [cv_take_all ys xs i k (by omega)]
theorem cv_le {ys : List Nat} (hy : ∀ d ∈ ys, d < G6) : ∀ (xs : List Nat) (k : Nat), (∀ d ∈ xs, d < G6) → cv xs ys k ≤ xs.length * 1000000000000
  | [], k, _ => by simp [cv]
  | x :: xs, k, hx => by
    have hyk : ys[k]?.getD 0 < G6 := by
      rcases Nat.lt_or_ge k ys.length with h | h
      · rw [List.getElem?_eq_getElem h]; exact hy _ (List.getElem_mem _)
      · rw [List.getElem?_eq_none h]; decide
    have h1 : x * ys[k]?.getD 0 ≤ 1000000 * 1000000 := Nat.mul_le_mul (Nat.le_of_lt (hx x (by simp))) (Nat.le_of_lt hyk)
    rw [List.length_cons, Nat.add_mul]
    cases k with
    | zero => simp only [cv]; omega
    | succ k =>
      have := cv_le hy xs k (fun d hd => hx d (by simp [hd]))
      simp only [cv]
      omega
def vs (f : Nat → Nat) : Nat → Nat
  | 0 => 0
  | n + 1 => f 0 + G6 * vs (fun k => f (k + 1)) n
theorem vs_val (f : Nat → Nat) (n : Nat) : Dig.val G6 ((List.range n).map f) = vs f n := by
  induction n generalizing f with
  | zero => rfl
  | succ n ih =>
    rw [List.range_succ_eq_map, List.map_cons, Dig.val_cons, List.map_map, vs]
    rw [show (f ∘ Nat.succ) = fun k => f (k + 1) from rfl, ih]
theorem vs_add (f g : Nat → Nat) (n : Nat) : vs (fun k => f k + g k) n = vs f n + vs g n := by
  induction n generalizing f g with
  | zero => rfl
  | succ n ih => simp only [vs]; rw [ih, Nat.mul_add]; omega
theorem vs_scale (x : Nat) (ys : List Nat) (n : Nat) (h : ys.length ≤ n) : vs (fun k => x * ys[k]?.getD 0) n = x * Dig.val G6 ys := by
  induction ys generalizing n with
  | nil =>
    have key : ∀ n, vs (fun _ => 0) n = 0 := fun n => by
      induction n with
      | zero => rfl
      | succ n ih => simp only [vs]; rw [ih, Nat.mul_zero]
    simp only [List.getElem?_nil, Option.getD_none, Nat.mul_zero, Dig.val]
    exact key n
  | cons y ys ih =>
    cases n with
    | zero => simp at h
    | succ n =>
      have := ih n (by simpa using h)
      simp only [vs, List.getElem?_cons_zero, Option.getD_some, List.getElem?_cons_succ]
      rw [this, Dig.val_cons, Nat.mul_add, ← Nat.mul_assoc, ← Nat.mul_assoc, Nat.mul_comm G6 x]
theorem cv_val (ys : List Nat) : ∀ (xs : List Nat) (n : Nat), xs.length + ys.length ≤ n → vs (cv xs ys) n = Dig.val G6 xs * Dig.val G6 ys
  | [], n, _ => by
    have key : ∀ n, vs (fun _ => 0) n = 0 := fun n => by
      induction n with
      | zero => rfl
      | succ n ih => simp only [vs]; rw [ih, Nat.mul_zero]
    rw [show cv [] ys = fun _ => 0 from by funext k; rfl, key]; simp [Dig.val]
  | x :: xs, 0, h => by simp at h
  | x :: xs, n + 1, h => by
    have ih := cv_val ys xs n (by simp at h; omega)
    have e : cv (x :: xs) ys = fun k => x * ys[k]?.getD 0 + (match k with | 0 => 0 | k + 1 => cv xs ys k) := by funext k; rfl
    rw [e, vs_add, vs_scale x ys (n + 1) (by simp at h; omega), Dig.val_cons, Nat.add_mul]
    congr 1
    show 0 + G6 * vs (fun k => cv xs ys k) n = _
    rw [show (fun k => cv xs ys k) = cv xs ys from rfl, ih, Nat.zero_add, Nat.mul_assoc]
/-- The product's row: groups below k are done, group k has its first i products. -/
def mulF (xs ys : List Nat) (k i j : Nat) : Int := if j < k then ((cv xs ys j : Nat) : Int) else if j = k then ((cv (xs.take i) ys k : Nat) : Int) else 0
theorem mulF_next (xs ys : List Nat) (k i n : Nat) (h : cv (xs.take i) ys k = cv xs ys k) : ∀ j, j < n → mulF xs ys k i j = mulF xs ys (k + 1) 0 j := by
  intro j _
  unfold mulF
  by_cases h1 : j < k
  · rw [if_pos h1, if_pos (by omega)]
  · by_cases h2 : j = k
    · subst h2; rw [if_neg h1, if_pos rfl, if_pos (by omega), h]
    · rw [if_neg h1, if_neg h2, if_neg (by omega)]
      split
      · simp [cv]
      · rfl
theorem mulF_step (xs ys : List Nat) (k i n : Nat) (v : Nat) (h : cv (xs.take (i + 1)) ys k = v) : ∀ j, j < n → (if j = k then ((v : Nat) : Int) else mulF xs ys k i j) = mulF xs ys k (i + 1) j := by
  intro j _
  unfold mulF
  by_cases h2 : j = k
  · subst h2; rw [if_pos rfl, if_neg (by omega), if_pos rfl, h]
  · rw [if_neg h2, if_neg h2, if_neg h2]
set_option maxRecDepth 100000 in
set_option maxHeartbeats 4000000 in
theorem rMul_ok (A1 A2 : Option Addr) (n1 c1 n2 c2 a b : Nat) (w : World) (h1 : GrpR w A1 n1 c1 a) (h2 : GrpR w A2 n2 c2 b) (hn1 : n1 ≤ 1000000) (hn2 : n2 ≤ 1000000) :
    Calls Tryz.prog 133 #[.slice A1 n1 c1, .slice A2 n2 c2] w (GrpPost w (a * b)) := by
  obtain ⟨xs, hxl, hc1, hcx, hxv, hr1⟩ := h1
  obtain ⟨ys, hyl, hc2, hcy, hyv, hr2⟩ := h2
  have HX := Lib.hid (And.intro hxl (And.intro hcx.lt (And.intro hxv hr1.rd)))
  have HY := Lib.hid (And.intro hyl (And.intro hcy.lt (And.intro hyv hr2.rd)))
  clear hxl hcx hxv hr1 hyl hcy hyv hr2
  obtain ⟨N, hN⟩ : ∃ N, N = n1 + n2 := ⟨_, rfl⟩
  have HN := Lib.hid hN
  have hN12 : n1 ≤ N ∧ n2 ≤ N ∧ N ≤ 2000000 := by omega
  clear hN
  have hmk := run_make_row' (P := Tryz.prog) 39 3 (.int .i64 0) 8 Tryz.underlying39 Tryz.info3 rfl .i64 .i64 N (by omega) (by omega)
  have hni : (N : Int) = (n1 : Int) + (n2 : Int) := by have := HN.out; omega
  rw [hni] at hmk
  clear hni
  have R0 := Lib.hid (show IRow (w.alloc (.cells (madeCells #[.int .i64 0] N) 3)) w.heap.size N (mulF xs ys 0 0) from by
    refine IRow.of_blk (Blk.new w 3 (madeCells #[.int .i64 0] N)) (fun j hj => ?_)
    rw [← Array.getElem?_toList, toList_madeCells_one]
    have : mulF xs ys 0 0 j = 0 := by unfold mulF; simp [cv]
    rw [this]
    simp [hj])
  have E0 := Lib.hid ((Ext.refl w).alloc (.cells (madeCells #[.int .i64 0] N) 3))
  have CL := Lib.hid (show ∀ k i, cv (xs.take i) ys k ≤ 1000000 * 1000000000000 from fun k i => by
    have h1 := cv_le HY.out.2.1 (xs.take i) k (fun d hd => HX.out.2.1 d (List.mem_of_mem_take hd))
    refine Nat.le_trans h1 (Nat.mul_le_mul_right _ ?_)
    rw [List.length_take, HX.out.1]
    omega)
  go_enter Tryz.func133, Tryz.ntmps133
  go_wp2
  go_loopg [6, 7] N (fun m kt _ wr => ∃ k : Nat, N - k = m ∧ k ≤ N ∧ kt = .int .i64 k ∧ Hid (IRow wr w.heap.size N (mulF xs ys k 0)) ∧ Hid (Ext w wr))
  case atStart => exact ⟨0, rfl, Nat.zero_le _, rfl, R0, E0⟩
  case round =>
    obtain ⟨k, rfl, hk, rfl, RW, EW⟩ := hrel
    clear R0 E0
    by_cases hkn : k < N
    · go_wp2
      go_loopg [7] (n1 + 1) (fun m it wj => ∃ i : Nat, n1 + 1 - i = m ∧ i ≤ n1 ∧ i ≤ k + 1 ∧ it = .int .i64 i ∧ Hid (IRow wj w.heap.size N (mulF xs ys k i)) ∧ Hid (Ext w wj))
      case atStart => exact ⟨0, rfl, Nat.zero_le _, by omega, rfl, RW, EW⟩
      case round =>
        obtain ⟨i, rfl, hi, hik, rfl, RJ, EJ⟩ := hrel
        by_cases hc : i ≤ k ∧ i < n1
        · obtain ⟨hc1', hc2'⟩ := hc
          have d1 : decide ((i : Int) ≤ (k : Int)) = true := by simp; omega
          have CT := Lib.hid (cv_take ys xs i k (by rw [HX.out.1]; exact hc2') hc1')
          have i0 : (0 : Int) ≤ (k : Int) - (i : Int) := by omega
          have i3 : ((k : Int) - (i : Int)).toNat = k - i := by omega
          by_cases hd : k - i < n2
          · have d2 : decide ((k : Int) - (i : Int) < (n2 : Int)) = true := by simp; omega
            obtain ⟨x, hx⟩ : ∃ x, x = xs[i]?.getD 0 := ⟨_, rfl⟩
            obtain ⟨y, hy⟩ : ∃ y, y = ys[k - i]?.getD 0 := ⟨_, rfl⟩
            obtain ⟨z, hz⟩ : ∃ z, z = cv (xs.take i) ys k := ⟨_, rfl⟩
            have hxb : x < 1000000 := by
              rw [hx, List.getElem?_eq_getElem (by rw [HX.out.1]; exact hc2')]
              exact HX.out.2.1 _ (List.getElem_mem _)
            have hyb : y < 1000000 := by
              rw [hy, List.getElem?_eq_getElem (by rw [HY.out.1]; exact hd)]
              exact HY.out.2.1 _ (List.getElem_mem _)
            have hzb : (z : Int) ≤ 1000000000000000000 := by have := CL.out k i; rw [← hz] at this; omega
            have hxy : (x : Int) * (y : Int) ≤ 1000000000000 := by
              have h1 : x * y ≤ 1000000 * 1000000 := Nat.mul_le_mul (by omega) (by omega)
              have h2 : ((x * y : Nat) : Int) = (x : Int) * (y : Int) := by simp
              omega
            have hxy0 : 0 ≤ (x : Int) * (y : Int) := by
              have h2 : ((x * y : Nat) : Int) = (x : Int) * (y : Int) := by simp
              omega
            obtain ⟨b1, o1, hA1, hb1, hcell1⟩ := HX.out.2.2.2.ints (k := i) (by rw [HX.out.1]; exact hc2')
            obtain ⟨b2, o2, hA2, hb2, hcell2⟩ := HY.out.2.2.2.ints (k := k - i) (by rw [HY.out.1]; exact hd)
            subst hA1 hA2
            have k1 := EJ.out.cell (p := ⟨b1, o1 + i, none⟩) hb1
            rw [hcell1 i (by rw [HX.out.1]; exact hc2'), ← hx] at k1
            have k2 := EJ.out.cell (p := ⟨b2, o2 + (k - i), none⟩) hb2
            rw [hcell2 (k - i) (by rw [HY.out.1]; exact hd), ← hy] at k2
            have k0 := RJ.out.cell (j := k) hkn
            rw [show mulF xs ys k i k = (z : Int) from by unfold mulF; rw [if_neg (by omega), if_pos rfl, hz]] at k0
            have f0 := RJ.out.frozen k
            have RD := Lib.hid (show IRow ((wr.setCell ⟨w.heap.size, k, none⟩ (.int .i64 ((z : Int) + (x : Int) * (y : Int)))).drewN 1) w.heap.size N (mulF xs ys k (i + 1)) from by
              refine ((RJ.out.set_ k ((z : Int) + (x : Int) * (y : Int))).congr (fun j hj => ?_)).drewN 1
              rw [← mulF_step xs ys k i N (z + x * y) (by rw [CT.out, ← hx, ← hy, ← hz]) j hj]
              simp)
            clear hx hy hz hcell1 hcell2 hb1 hb2
            go_wp2
            go_region
            all_goals go_wp2
            go_roundg (n1 + 1 - (i + 1))
            case measure => omega
            case rel => exact ⟨i + 1, rfl, by omega, by omega, by go_num, RD, Lib.hid ((EJ.out.set_ (p := ⟨w.heap.size, k, none⟩) (Nat.le_refl _) _).drewN 1)⟩
          · have d2 : decide ((k : Int) - (i : Int) < (n2 : Int)) = false := by simp; omega
            have RD := Lib.hid (show IRow wr w.heap.size N (mulF xs ys k (i + 1)) from RJ.out.congr (fun j hj => by
              unfold mulF
              rw [CT.out, List.getElem?_eq_none (by rw [HY.out.1]; omega : ys.length ≤ k - i)]
              simp))
            go_wp2
            go_roundg (n1 + 1 - (i + 1))
            case measure => omega
            case rel => exact ⟨i + 1, rfl, by omega, by omega, by go_num, RD, EJ⟩
        · have hall : cv (xs.take i) ys k = cv xs ys k := by
            by_cases h : i = n1
            · rw [List.take_of_length_le (by rw [HX.out.1]; omega)]
            · exact cv_take_all ys xs i k (by omega)
          have RD := Lib.hid (RJ.out.congr (mulF_next xs ys k i N hall))
          clear hall
          by_cases h1 : i ≤ k
          · have d1 : decide ((i : Int) ≤ (k : Int)) = true := by simp; omega
            obtain rfl : i = n1 := by omega
            go_wp2
            go_roundg (N - (k + 1))
            case measure => omega
            case rel => exact ⟨k + 1, rfl, by omega, by go_num, RD, EJ⟩
          · have d1 : decide ((i : Int) ≤ (k : Int)) = false := by simp; omega
            go_wp2
            go_roundg (N - (k + 1))
            case measure => omega
            case rel => exact ⟨k + 1, rfl, by omega, by go_num, RD, EJ⟩
    · obtain rfl : k = N := by omega
      have hll : ((List.range k).map (cv xs ys)).length = k := by simp
      have RR := Lib.hid (RW.out.rd (l := (List.range k).map (cv xs ys)) hll (fun j hj => by
        unfold mulF
        rw [if_pos hj]
        simp [hj]))
      have LB := Lib.hid (show ∀ d ∈ (List.range k).map (cv xs ys), d ≤ 4000000000000000000 from fun d hd => by
        obtain ⟨j, _, rfl⟩ := List.mem_map.1 hd
        have := CL.out j n1
        rw [List.take_of_length_le (by rw [HX.out.1]; omega)] at this
        omega)
      have VV := Lib.hid (show Dig.val G6 ((List.range k).map (cv xs ys)) = a * b by rw [vs_val, cv_val ys xs k (by rw [HX.out.1, HY.out.1, HN.out]; omega), HX.out.2.2.1, HY.out.2.2.1])
      go_wp2_with fail
      refine (carried_ok' (some ⟨w.heap.size, 0, none⟩) k k ((List.range k).map (cv xs ys)) hll _ RR.out (Nat.le_refl _) LB.out (by omega)).mono ?_
      rintro e w5 ⟨A5, n5, c5, rfl, h5, x5, fr⟩
      rw [VV.out] at h5
      have F := Lib.hid (And.intro h5 (And.intro (EW.out.tr x5) (fun ad h => Nat.le_trans EW.out.size (fr ad h))))
      clear h5 x5 fr
      go_wp2
      go_ret
      exact ⟨_, _, _, rfl, F.out.1, F.out.2.1, F.out.2.2⟩
end Go.Proofs.YtekiomanidimnaaGreatDoor
