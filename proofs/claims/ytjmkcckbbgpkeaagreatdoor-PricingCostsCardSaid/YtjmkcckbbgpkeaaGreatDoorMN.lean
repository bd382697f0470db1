/- waypointref01: numbers in groups of six decimal digits, in memory; without, Of, Uint64. -/
/- waypointref01: carried, times, Uint64, Cmp. -/
/- waypointref01: Cmp, Uint64, fits. -/
/- Own rows of integers by an index function; waypointref01: Add, Sub. -/
/- waypointref01.Sub, where the difference is at least 0. -/
/- waypointref01.DivMod, for a divisor that is not 0. -/
/- waypointref01: GCD, Text. -/
import Derived.Test.YtjmkcckbbgpkeaaGreatDoorMD
import Derived.Test.YtjmkcckbbgpkeaaGreatDoorMH
import Derived.Laws.IdiomStrings
set_option linter.unusedVariables false
set_option linter.unusedSimpArgs false

namespace Go.Proofs.YtjmkcckbbgpkeaaGreatDoor
open Go.RowKit
def G6 : Nat := 1000000
theorem G6_eq : G6 = 1000000 := rfl
theorem G6_pos : 0 < G6 := by decide
theorem G6_gt : 1 < G6 := by decide
/-- The slice (A, n, c) holds the groups of N. -/
def GrpR (w : World) (A : Option Addr) (n c N : Nat) : Prop :=
  ∃ ds : List Nat, ds.length = n ∧ n ≤ c ∧ Dig.Canon G6 ds ∧ Dig.val G6 ds = N ∧ RdT w 3 A (ints ds)
theorem GrpR.keep {w w' : World} {A : Option Addr} {n c N : Nat} (h : GrpR w A n c N) (hb : Ext w w') : GrpR w' A n c N := by
  obtain ⟨ds, h1, h2, h3, h4, h5⟩ := h
  exact ⟨ds, h1, h2, h3, h4, h5.keep hb⟩
theorem GrpR.zero (w : World) (A : Option Addr) (c : Nat) : GrpR w A 0 c 0 := ⟨[], rfl, Nat.zero_le _, Dig.Canon.nil _, rfl, RdT.nil _ _ _⟩
theorem GrpR.eq_zero {w : World} {A : Option Addr} {n c N : Nat} (h : GrpR w A n c N) : n = 0 ↔ N = 0 := by
  obtain ⟨ds, rfl, _, h3, rfl, _⟩ := h
  constructor
  · intro h; rw [List.length_eq_zero_iff.1 h]; rfl
  · intro h; rw [h3.val_zero G6_pos h]; rfl
theorem GrpR.lenOf {w : World} {A : Option Addr} {n c N k : Nat} (h : GrpR w A n c N) (hN : N < G6 ^ k) : n ≤ k := by
  obtain ⟨ds, rfl, _, hcan, rfl, _⟩ := h
  exact hcan.len_le G6_gt hN
def GrpPost (w : World) (N : Nat) (e : Ending) (w' : World) : Prop :=
  ∃ (A : Option Addr) (n c : Nat), e = .returned (.slice A n c) ∧ GrpR w' A n c N ∧ Ext w w' ∧ ∀ ad, A = some ad → w.heap.size ≤ ad.block
theorem append_types {P : Program} {w : World} {t t2 ty e e2 : TypeId} (ht : P.underlying t = some (.slice e)) (ht2 : P.underlying t2 = some (.slice e2)) {i : TypeInfo} (hi : P.info? e = some i) (v x : Value) : (Builtin.append_ #[t, t2] ty #[v, x]).run P w = (Builtin.append_ #[t, t] ty #[v, x]).run P w := by
  unfold Builtin.append_
  cases v <;> simp [run_underlying ht, run_underlying ht2, sizeOf, typeInfo, hi]
section
variable {P : Program} (w : World)
theorem wpList_append_rd2 {ops : Array Oper} {rest : List Oper} {o : Oper} {a : Act} {Q : Exit → Act → World → Prop} (hgd : o.guard = none) (s x : Operand) (t t2 : TypeId)
    (ho : o.op = .call { callee := .builtin .append, args := #[s, x], argTypes := #[t, t2] })
    (base : Nat) (e : TypeId) (i : TypeInfo) (z : Value) (bytes : Nat) (e2 : TypeId) (ht2 : P.underlying t2 = some (.slice e2)) (ht : P.underlying t = some (.slice e)) (hi : P.info? e = some i) (hz : i.zero = some z)
    (hsize : i.size = 1) (hby : i.bytes = bytes) (hzs : z.cells.size = 1)
    (v : Value) (n : Nat) (xs : List Value) (hs : a.eval s = v) (hown : w.ownsRow base e 1 v n xs)
    (A : Option Addr) (m c : Nat) (news : List Value) (hx : a.eval x = .slice A m c) (hm : m = news.length) (hr : Rd w A news) (hA : A = none → m = 0 ∧ c = 0 ∨ m = 0) (h1 : ∀ u ∈ news, u.oneCell' = true)
    (h63 : n + m ≤ maxLen) (hbytes : (n + m) * bytes ≤ 140737488355328) (hbase : base ≤ w.heap.size)
    (h : ∀ v' w', w'.ownsRow base e 1 v' (n + m) (xs ++ news) → w.grownBy w' v.ownBlock → (v'.ownBlock = v.ownBlock ∨ v'.ownBlock = some w.heap.size) → wpList P ops Q rest (a.put o.dst v') w') : wpList P ops Q (o :: rest) a w :=
  wpList_plain hgd fun _ hK => by
    obtain ⟨v', w', hrun, h2, h3, h4⟩ := run_append_rd (P := P) w base t o.type e i z bytes ht hi hz hsize hby hzs v n xs hown A m c news hm hr hA h1 h63 hbytes hbase
    unfold Oper.wp execOp
    simp only [ho, resolve, invoke, builtin, Sem.run_bind, Sem.run_pure, Result.andThen_ok, List.map_toArray, List.map_cons, List.map_nil, hs, hx, append_types ht ht2 hi, hrun]
    exact hK _ _ (h v' w' h2 h3 h4)
end
theorem Rd.ints {w : World} {A : Option Addr} {ds : List Nat} (h : Rd w A (ints ds)) {k : Nat} (hk : k < ds.length) :
    ∃ b o : Nat, A = some ⟨b, o, none⟩ ∧ b < w.heap.size ∧ ∀ i, i < ds.length → w.cell? ⟨b, o + i, none⟩ = some (.int .i64 ((ds[i]?.getD 0 : Nat) : Int)) := by
  obtain ⟨b, o, e, hlt, hc⟩ := h.at_ (i := k) (by rw [ints_length]; exact hk)
  refine ⟨b, o, e, hlt, fun i hi => (hc i (by rw [ints_length]; exact hi)).trans ?_⟩
  simp [Go.Proofs.YtjmkcckbbgpkeaaGreatDoor.ints, hi]
theorem GrpR.of_take {w : World} {A : Option Addr} {ds : List Nat} {k c : Nat} (hr : RdT w 3 A (ints (ds.take k))) (hk : k ≤ ds.length) (hz : ∀ j, k ≤ j → j < ds.length → ds[j]?.getD 0 = 0)
    (ht : 0 < k → ds[k - 1]?.getD 0 ≠ 0) (hlt : ∀ d ∈ ds, d < G6) (hkc : k ≤ c) : GrpR w A k c (Dig.val G6 ds) := by
  refine ⟨ds.take k, by rw [List.length_take]; omega, hkc, ⟨fun d hd => hlt d (List.mem_of_mem_take hd), ?_⟩, ?_, hr⟩
  · intro h
    by_cases h0 : k = 0
    · subst h0; simp at h
    · rw [List.getLast?_eq_getElem?, List.length_take, Nat.min_eq_left hk, List.getElem?_take, if_pos (by omega)] at h
      exact ht (by omega) (by rw [h]; rfl)
  · rw [← Dig.trim_val, ← Dig.trim_val G6 ds, Dig.trim_take ds k hk (fun j h1 h2 => hz j h1 h2)]
theorem ints_take (ds : List Nat) (k : Nat) : ints (ds.take k) = (ints ds).take k := by simp [ints]
theorem Ext.tr' {a b c : World} (h : Ext a b) (k : Below a.heap.size b c) : Ext a c := h.trans k
/-- An own row of natural numbers. -/
def OI (w : World) (B : Nat) (v : Value) (l : List Nat) : Prop := w.ownsRow B 3 1 v l.length (ints l)
theorem OI.nil (w : World) (B : Nat) : OI w B (.slice none 0 0) [] := World.ownsRow_nil _ _ _ _
theorem OI.keep {w w' : World} {B : Nat} {v : Value} {l : List Nat} (h : OI w B v l) (hx : Ext w w') : OI w' B v l :=
  World.ownsRow.kept (row := none) h ⟨hx.os, hx.tape, hx.output, hx.size, fun k hk _ => hx.block k hk⟩ (by
    by_cases e : v.ownBlock = none
    · exact .inl e
    · exact .inr e)
theorem OI.rdT {w : World} {B : Nat} {v : Value} {l : List Nat} (h : OI w B v l) : ∃ (A : Option Addr) (c : Nat), v = .slice A l.length c ∧ l.length ≤ c ∧ RdT w 3 A (ints l) := ownsRow_rdT h rfl
theorem wpList_push {ops : Array Oper} {rest : List Oper} {o : Oper} {a : Act} {Q : Exit → Act → World → Prop} (w : World) (hgd : o.guard = none) (s x : Operand)
    (ho : o.op = .call { callee := .builtin .append, args := #[s, x], argTypes := #[41, 41] })
    (B : Nat) (v : Value) (l : List Nat) (hs : a.eval s = v) (hown : OI w B v l) (u : Value) (n : Nat) (hu : u = .int .i64 (n : Int)) (hx : a.eval x = .slice (some ⟨w.heap.size, 0, none⟩) 1 1)
    (hl : l.length ≤ 4398046511104) (hB : B ≤ w.heap.size)
    (h : ∀ v' w', OI w' B v' (l ++ [n]) → Below B w w' → (∃ A c, v' = .slice A (l.length + 1) c) → wpList Tryz.prog ops Q rest (a.put o.dst v') w') : wpList Tryz.prog ops Q (o :: rest) a (w.alloc (.cells #[u] 3)) := by
  obtain ⟨ti, hi, hz0, hz1, hz2⟩ := info_parts Tryz.info3
  subst hu
  refine wpList_append_rd _ hgd s x 41 ho B 3 ti (.int .i64 0) 8 Tryz.underlying41 hi hz0 hz1 hz2 rfl v l.length (ints l) hs (OI.keep hown ((Ext.refl w).alloc _)) (some ⟨w.heap.size, 0, none⟩) 1 1 [.int .i64 (n : Int)] hx rfl (Rd.new w _ _ rfl rfl) (by intro h; cases h) (by intro u hu; simp at hu; subst hu; rfl) (by unfold maxLen; omega) (by omega) (by simp; omega) ?_
  intro v' w' h1 h2 h3
  have hown2 : OI w' B v' (l ++ [n]) := by
    unfold OI
    rw [List.length_append, ints_snoc]
    exact h1
  obtain ⟨A, c, e, _⟩ := hown2.rdT
  refine h v' w' hown2 ?_ ⟨A, c, by rw [e, List.length_append]; rfl⟩
  exact Below.grown (Below.alloc (Below.refl B w) hB _) h2 (by simp; omega) (fun k hk => (hown.lt k hk).1)
end Go.Proofs.YtjmkcckbbgpkeaaGreatDoor


namespace Go.Proofs.YtjmkcckbbgpkeaaGreatDoor
open Go.RowKit
theorem val_take_next (xs : List Nat) (i : Nat) : Dig.val G6 (xs.take (i + 1)) = Dig.val G6 (xs.take i) + G6 ^ i * xs[i]?.getD 0 := by
  rcases Nat.lt_or_ge i xs.length with h | h
  · rw [Dig.val_take_succ' _ _ _ h]; simp [List.getD]
  · rw [List.take_of_length_le (by omega), List.take_of_length_le h, List.getElem?_eq_none h]; simp
theorem step_val {V D C x P : Nat} (h : V = D + P * C) : V + P * x = (D + P * ((C + x) % 1000000)) + P * G6 * ((C + x) / 1000000) := by
  have := Nat.div_add_mod (C + x) 1000000
  rw [h, G6_eq, Nat.mul_assoc, Nat.add_assoc, Nat.add_assoc, ← Nat.mul_add, ← Nat.mul_add]
  congr 2
  omega
/-- How far the carry has gone. -/
def carSt (n i C : Nat) : Prop := (i ≤ n ∧ C ≤ 5000000000000) ∨ (i = n + 1 ∧ C ≤ 5000000) ∨ (i = n + 2 ∧ C ≤ 5) ∨ (i = n + 3 ∧ C = 0)
theorem val_mul (m : Nat) (ds : List Nat) : Dig.val G6 (ds.map (· * m)) = Dig.val G6 ds * m := by
  induction ds with
  | nil => simp [Dig.val]
  | cons d ds ih => rw [List.map_cons, Dig.val_cons, Dig.val_cons, ih, Nat.add_mul, Nat.mul_assoc]
end Go.Proofs.YtjmkcckbbgpkeaaGreatDoor


namespace Go.Proofs.YtjmkcckbbgpkeaaGreatDoor
open Go.RowKit
theorem drop_next (ds : List Nat) (k : Nat) (h : k < ds.length) : Dig.val G6 (ds.drop k) = ds[k]?.getD 0 + G6 * Dig.val G6 (ds.drop (k + 1)) := by
  rw [Dig.val_drop' _ _ _ h]; simp [List.getD]
theorem drop_le (ds : List Nat) (k : Nat) : Dig.val G6 (ds.drop k) ≤ Dig.val G6 ds := by
  rcases Nat.lt_or_ge ds.length k with h | h
  · rw [List.drop_of_length_le (by omega)]; exact Nat.zero_le _
  · rw [Dig.val_split' G6 ds k h]
    have : Dig.val G6 (ds.drop k) * 1 ≤ Dig.val G6 (ds.drop k) * G6 ^ k := Nat.mul_le_mul_left _ (Nat.pow_pos G6_pos)
    rw [Nat.mul_comm (G6 ^ k)]
    omega
def U64 : Nat := 18446744073709551616
theorem U64_eq : U64 = 18446744073709551616 := rfl
theorem GrpR.lt_pow {w : World} {A : Option Addr} {n c N : Nat} (h : GrpR w A n c N) : N < G6 ^ n := by
  obtain ⟨ds, rfl, _, hcan, rfl, _⟩ := h
  exact Dig.val_lt G6_pos hcan.lt
end Go.Proofs.YtjmkcckbbgpkeaaGreatDoor


namespace Go.Proofs.YtjmkcckbbgpkeaaGreatDoor
open Go.RowKit
/-- Block g begins with n integers, by their index. -/
def IRow (w : World) (g n : Nat) (f : Nat → Int) : Prop := ∃ cur : Array Value, w.heap[g]? = some (.cells cur 3 (0, 0)) ∧ ∀ j, j < n → cur[j]? = some (.int .i64 (f j))
section
variable {w w' : World} {g n : Nat} {f f' : Nat → Int}
theorem IRow.lt (h : IRow w g n f) : g < w.heap.size := by
  obtain ⟨cur, h1, _⟩ := h
  exact lt_of_get h1
theorem IRow.cell (h : IRow w g n f) {j : Nat} (hj : j < n) : w.cell? ⟨g, j, none⟩ = some (.int .i64 (f j)) := by
  obtain ⟨cur, h1, h2⟩ := h
  rw [cell_of_row w g j cur _ (0, 0) h1, h2 j hj]
theorem IRow.frozen (h : IRow w g n f) (j : Nat) : w.frozen? ⟨g, j, none⟩ = false := by
  obtain ⟨cur, h1, h2⟩ := h
  simp [World.frozen?, h1]
theorem IRow.keep (h : IRow w g n f) (hx : Ext w w') : IRow w' g n f := by
  have hl := h.lt
  obtain ⟨cur, h1, h2⟩ := h
  exact ⟨cur, (hx.block g hl).trans h1, h2⟩
theorem IRow.drewN (h : IRow w g n f) (k : Nat) : IRow (w.drewN k) g n f := h
theorem IRow.congr (h : IRow w g n f) (hf : ∀ j, j < n → f j = f' j) : IRow w g n f' := by
  obtain ⟨cur, h1, h2⟩ := h
  exact ⟨cur, h1, fun j hj => by rw [h2 j hj, hf j hj]⟩
theorem IRow.set_ (h : IRow w g n f) (i : Nat) (v : Int) : IRow (w.setCell ⟨g, i, none⟩ (.int .i64 v)) g n (fun j => if j = i then v else f j) := by
  obtain ⟨cur, h1, h2⟩ := h
  refine ⟨cur.setIfInBounds i (.int .i64 v), ?_, fun j hj => ?_⟩
  · simp [World.setCell, Array.getElem?_modify, h1]
  · have h3 := h2 j hj
    have hlt := (Array.getElem?_eq_some_iff.1 h3).1
    by_cases e : j = i
    · subst e; simp [hlt]
    · rw [Array.getElem?_setIfInBounds_ne (fun h => e h.symm), h3]; simp only [if_neg e]
theorem IRow.rd (h : IRow w g n f) {l : List Nat} (hl : l.length = n) (hf : ∀ j, j < n → f j = ((l[j]?.getD 0 : Nat) : Int)) : Rd w (some ⟨g, 0, none⟩) (ints l) := fun _ => by
  refine ⟨g, 0, rfl, h.lt, fun i hi => ?_⟩
  rw [ints_length, hl] at hi
  rw [Nat.zero_add, h.cell hi, hf i hi]
  simp [ints, show i < l.length by omega]
end
theorem IRow.of_blk {w : World} {g n : Nat} {cs : Array Value} {f : Nat → Int} (h : Blk w g 3 cs) (hf : ∀ j, j < n → cs[j]? = some (.int .i64 (f j))) : IRow w g n f := ⟨cs, h, hf⟩
theorem OI.irow {w : World} {B : Nat} {v : Value} {l : List Nat} (h : OI w B v l) (hl : 0 < l.length) : ∃ g c, v = .slice (some ⟨g, 0, none⟩) l.length c ∧ l.length ≤ c ∧ B ≤ g ∧ IRow w g l.length (fun j => ((l[j]?.getD 0 : Nat) : Int)) := by
  have hb := fun k hk => h.lt k hk
  rcases h.2 with ⟨h1, h2⟩ | ⟨g, cap, cur, h2, h3, h4, h5, h6, h7, h8⟩
  · omega
  · refine ⟨g, cap, h2, h5, h3, cur, h4, fun j hj => ?_⟩
    have hlen : (ints l).length = l.length := ints_length l
    rw [Nat.mul_one] at h8
    have h9 : (ints l)[j]? = cur[j]? := by
      rw [← h8, List.getElem?_take, if_pos hj]; simp
    rw [← h9]
    simp [ints, hj]
/-- A subtraction's state: digits that are done, and a borrow. -/
structure SubSt (xs ys : List Nat) (i : Nat) (r : List Nat) (β : Nat) : Prop where
  len : r.length = i
  lt : ∀ d ∈ r, d < G6
  b1 : β ≤ 1
  val : Dig.val G6 (xs.take i) + G6 ^ i * β = Dig.val G6 r + Dig.val G6 (ys.take i)
theorem SubSt.step {xs ys r : List Nat} {i β d β' : Nat} (h : SubSt xs ys i r β) (hd : d < G6) (hb : β' ≤ 1) (he : xs[i]?.getD 0 + G6 * β' = β + d + ys[i]?.getD 0) : SubSt xs ys (i + 1) (r ++ [d]) β' := by
  refine ⟨by rw [List.length_append, h.len]; rfl, fun x hx => ?_, hb, ?_⟩
  · rcases List.mem_append.1 hx with h1 | h1
    · exact h.lt x h1
    · simp at h1; subst h1; exact hd
  · rw [val_take_next, val_take_next, Dig.val_snoc, h.len, Nat.pow_succ]
    have h1 := h.val
    have h2 : G6 ^ i * (xs[i]?.getD 0 + G6 * β') = G6 ^ i * (β + d + ys[i]?.getD 0) := by rw [he]
    rw [Nat.mul_add, Nat.mul_add, Nat.mul_add, ← Nat.mul_assoc] at h2
    omega
theorem SubSt.done {xs ys r : List Nat} {n β : Nat} (h : SubSt xs ys n r β) (hx : xs.length ≤ n) (hy : ys.length ≤ n) (hle : Dig.val G6 ys ≤ Dig.val G6 xs) : β = 0 ∧ Dig.val G6 r = Dig.val G6 xs - Dig.val G6 ys := by
  have h1 := h.val
  rw [List.take_of_length_le hx, List.take_of_length_le hy] at h1
  have h2 := Dig.val_lt G6_pos h.lt
  rw [h.len] at h2
  have h3 := h.b1
  rcases Nat.eq_zero_or_pos β with h0 | h0
  · subst h0; exact ⟨rfl, by rw [Nat.mul_zero] at h1; omega⟩
  · obtain rfl : β = 1 := by omega
    rw [Nat.mul_one] at h1
    omega
/-- The row at the beginning of round i. -/
def subF (xs r : List Nat) (i β : Nat) (j : Nat) : Int := if j < i then ((r[j]?.getD 0 : Nat) : Int) else if j = i then ((xs[j]?.getD 0 : Nat) : Int) - β else ((xs[j]?.getD 0 : Nat) : Int)
end Go.Proofs.YtjmkcckbbgpkeaaGreatDoor


namespace Go.Proofs.YtjmkcckbbgpkeaaGreatDoor
open Go.RowKit
theorem subF_a {xs r : List Nat} {i β d n : Nat} (hr : r.length = i) : ∀ j, j < n → (if j = i then ((d : Nat) : Int) else subF xs r i β j) = subF xs (r ++ [d]) (i + 1) 0 j := by
  intro j _
  unfold subF
  by_cases h1 : j = i
  · subst h1
    rw [if_pos rfl, if_pos (by omega), List.getElem?_append_right (by omega), hr]
    simp
  · by_cases h2 : j < i
    · rw [if_neg h1, if_pos h2, if_pos (by omega), List.getElem?_append_left (by omega)]
    · rw [if_neg h1, if_neg h2, if_neg h1, if_neg (by omega)]
      split <;> simp
theorem subF_b {xs r : List Nat} {i β d n : Nat} (hr : r.length = i) : ∀ j, j < n → (if j = i + 1 then ((xs[i + 1]?.getD 0 : Nat) : Int) - 1 else if j = i then ((d : Nat) : Int) else subF xs r i β j) = subF xs (r ++ [d]) (i + 1) 1 j := by
  intro j hj
  by_cases h1 : j = i + 1
  · subst h1
    unfold subF
    rw [if_pos rfl, if_neg (by omega), if_pos rfl]
    rfl
  · rw [if_neg h1, subF_a hr j hj]
    unfold subF
    by_cases h2 : j < i + 1
    · rw [if_pos h2, if_pos h2]
    · rw [if_neg h2, if_neg h2, if_neg h1, if_neg h1]
theorem sub_neg {W : World} {g n i β d : Nat} {xs r : List Nat} {f : Nat → Int} {z : Nat} (h : IRow W g n f) (hf : ∀ j, j ≠ i → f j = subF xs r i β j) (hr : r.length = i) (hi : i + 1 < n) (hz : z = xs[i + 1]?.getD 0) (v2 : Int) (hv : v2 = ((d : Nat) : Int)) :
    (W.setCell ⟨g, i, none⟩ (.int .i64 v2)).cell? ⟨g, i + 1, none⟩ = some (.int .i64 (z : Int)) ∧ (W.setCell ⟨g, i, none⟩ (.int .i64 v2)).frozen? ⟨g, i + 1, none⟩ = false ∧
    IRow ((W.setCell ⟨g, i, none⟩ (.int .i64 v2)).setCell ⟨g, i + 1, none⟩ (.int .i64 ((z : Int) - 1))) g n (subF xs (r ++ [d]) (i + 1) 1) := by
  have h2 := h.set_ i v2
  refine ⟨?_, h2.frozen _, ?_⟩
  · rw [h2.cell hi]
    simp only [if_neg (show ¬ i + 1 = i by omega)]
    rw [hf (i + 1) (by omega), hz]
    unfold subF
    rw [if_neg (by omega), if_neg (by omega)]
  · refine (h2.set_ (i + 1) ((z : Int) - 1)).congr (fun j hj => ?_)
    rw [← subF_b (β := β) hr j hj]
    by_cases h1 : j = i + 1
    · rw [if_pos h1, if_pos h1, hz]
    · rw [if_neg h1, if_neg h1]
      by_cases h3 : j = i
      · rw [if_pos h3, if_pos h3, hv]
      · rw [if_neg h3, if_neg h3, hf j h3]
end Go.Proofs.YtjmkcckbbgpkeaaGreatDoor


namespace Go.Proofs.YtjmkcckbbgpkeaaGreatDoor
open Go.RowKit
def RDivPost (w : World) (q r : Nat) (e : Ending) (w' : World) : Prop :=
  ∃ (A : Option Addr) (n c : Nat) (A' : Option Addr) (n' c' : Nat), e = .returned (.tuple #[.slice A n c, .slice A' n' c', .int .i64 0]) ∧ GrpR w' A n c q ∧ GrpR w' A' n' c' r ∧ Ext w w'
/-- .., and the quotient is new. -/
def RDivPostF (w : World) (q r : Nat) (e : Ending) (w' : World) : Prop :=
  ∃ (A : Option Addr) (n c : Nat) (A' : Option Addr) (n' c' : Nat), e = .returned (.tuple #[.slice A n c, .slice A' n' c', .int .i64 0]) ∧ GrpR w' A n c q ∧ GrpR w' A' n' c' r ∧ Ext w w' ∧ ∀ ad, A = some ad → w.heap.size ≤ ad.block
theorem GrpR.far {w : World} {A : Option Addr} {n c N : Nat} (h : GrpR w A n c N) {p : Addr} (hA : ∀ ad, A = some ad → ad.block ≠ p.block) (u : Value) : GrpR (w.setCell p u) A n c N := by
  obtain ⟨ds, h1, h2, h3, h4, h5⟩ := h
  refine ⟨ds, h1, h2, h3, h4, fun hx => ?_⟩
  obtain ⟨b, o, cs, fr, e, hb, hc⟩ := h5 hx
  exact ⟨b, o, cs, fr, e, (Below.heap_setCell w p u b (hA _ e)).trans hb, hc⟩
/-- The quotient's row, of which the groups from k on are known. -/
def divF (qd : List Nat) (k : Nat) (j : Nat) : Int := if k ≤ j then ((qd[j - k]?.getD 0 : Nat) : Int) else 0
theorem divF_step {qd : List Nat} {k q n : Nat} (hk : 0 < k) : ∀ j, j < n → (if j = k - 1 then ((q : Nat) : Int) else divF qd k j) = divF (q :: qd) (k - 1) j := by
  intro j _
  unfold divF
  by_cases h1 : j = k - 1
  · subst h1; simp
  · rw [if_neg h1]
    by_cases h2 : k ≤ j
    · rw [if_pos h2, if_pos (by omega), show j - (k - 1) = (j - k) + 1 by omega]; simp
    · rw [if_neg h2, if_neg (by omega)]
structure LongSt (ds : List Nat) (b n k R : Nat) (qd : List Nat) : Prop where
  len : qd.length = n - k
  lt : ∀ d ∈ qd, d < G6
  val : Dig.val G6 (ds.drop k) = b * Dig.val G6 qd + R
  R : R < b
theorem LongSt.step {ds qd : List Nat} {b n k R x q : Nat} (h : LongSt ds b n k R qd) (hk : 0 < k) (hkn : k ≤ n) (hn : ds.length = n) (hx : x = ds[k - 1]?.getD 0) (hxb : x < G6) (hq : q ≤ 999999) (h1 : b * q ≤ x + G6 * R) (h2 : q = 999999 ∨ x + G6 * R < b * (q + 1)) :
    LongSt ds b n (k - 1) (x + G6 * R - b * q) (q :: qd) := by
  have hR := h.R
  have key : x + G6 * R < b * (q + 1) := by
    rcases h2 with h3 | h3
    · subst h3
      have : G6 * R + G6 ≤ b * G6 := by
        rw [Nat.mul_comm b G6, ← Nat.mul_succ]; exact Nat.mul_le_mul_left _ hR
      rw [show 999999 + 1 = G6 from rfl]
      omega
    · exact h3
  refine ⟨by rw [List.length_cons, h.len]; omega, fun d hd => ?_, ?_, ?_⟩
  · rcases List.mem_cons.1 hd with e | e
    · rw [e, G6_eq]; omega
    · exact h.lt d e
  · rw [drop_next ds (k - 1) (by omega), ← hx, show k - 1 + 1 = k by omega, h.val, Dig.val_cons, Nat.mul_add, Nat.mul_add, ← Nat.mul_assoc, ← Nat.mul_assoc, Nat.mul_comm G6 b]
    omega
  · rw [Nat.mul_add] at key; omega
end Go.Proofs.YtjmkcckbbgpkeaaGreatDoor


namespace Go.Proofs.YtjmkcckbbgpkeaaGreatDoor
open Go.RowKit Go.Sort
/-- What is still to be written of a numeral, ahead of what has been. -/
def preD (M : Nat) : List UInt8 := if M = 0 then [] else Lib.decDigits M
theorem preD_step {M : Nat} (h : 0 < M) : preD M = preD (M / 10) ++ [UInt8.ofNat (48 + M % 10)] := by
  unfold preD
  rw [if_neg (by omega)]
  by_cases h1 : M < 10
  · rw [if_pos (by omega), Lib.decDigits_one h1, Nat.mod_eq_of_lt h1]; rfl
  · rw [if_neg (by omega), Lib.decDigits.eq_1 M, dif_neg h1]
theorem drop_pos {ds : List Nat} (hc : Dig.Canon G6 ds) {i : Nat} (hi : i < ds.length) : 0 < Dig.val G6 (ds.drop i) := by
  refine Dig.Canon.pos G6_pos ⟨fun d hd => hc.lt d (List.mem_of_mem_drop hd), ?_⟩ (by intro e; have := congrArg List.length e; simp at this; omega)
  intro h
  apply hc.top
  rw [← h, List.getLast?_drop, if_neg (by omega)]
theorem text_step (g e V : Nat) : (g + 10 ^ (e + 1) * V) % 10 = g % 10 ∧ (g + 10 ^ (e + 1) * V) / 10 = g / 10 + 10 ^ e * V := by
  have h : 10 ^ (e + 1) * V = 10 * (10 ^ e * V) := by rw [Nat.pow_succ, Nat.mul_comm (10 ^ e) 10, Nat.mul_assoc]
  rw [h]
  omega
theorem text_next {N g k V : Nat} {S : List UInt8} (hk : k < 6) (hM : 0 < g + 10 ^ (6 - k) * V) (h : Lib.decDigits N = preD (g + 10 ^ (6 - k) * V) ++ S) : Lib.decDigits N = preD (g / 10 + 10 ^ (6 - (k + 1)) * V) ++ (UInt8.ofNat (48 + g % 10) :: S) := by
  obtain ⟨e, he⟩ : ∃ e, 6 - k = e + 1 := ⟨5 - k, by omega⟩
  rw [h, preD_step hM, he, (text_step g e V).1, (text_step g e V).2, show 6 - (k + 1) = e by omega, List.append_assoc]
  rfl
theorem conv_one (w : World) (g : Nat) : (convert 127 9 (.slice (some ⟨w.heap.size, 0, none⟩) 1 1)).run Tryz.prog (w.alloc (.cells #[.int .u8 (48 + (g : Int) % 10)] 5)) = .ok (.string ⟨#[UInt8.ofNat (48 + g % 10)]⟩) (w.alloc (.cells #[.int .u8 (48 + (g : Int) % 10)] 5)) := by
  have := run_convert_bytes_back (P := Tryz.prog) (w.alloc (.cells #[.int .u8 (48 + (g : Int) % 10)] 5)) 127 9 5 ⟨w.heap.size, 0, none⟩ 1 [UInt8.ofNat (48 + g % 10)] Tryz.underlying127 Tryz.underlying5 Tryz.underlying9 (fun j hj => by
    obtain rfl : j = 0 := by simp at hj; exact hj
    rw [addr_add, (Blk.new w 5 #[.int .u8 (48 + (g : Int) % 10)]).cell]
    have hg : g % 10 < 10 := Nat.mod_lt _ (by decide)
    have : (UInt8.ofNat (48 + g % 10)).toNat = 48 + g % 10 := by rw [UInt8.toNat_ofNat']; omega
    simp only [List.getElem_cons_zero, this]
    simp)
  exact this
end Go.Proofs.YtjmkcckbbgpkeaaGreatDoor
