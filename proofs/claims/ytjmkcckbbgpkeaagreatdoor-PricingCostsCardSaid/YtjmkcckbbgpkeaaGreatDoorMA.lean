/- Plain facts on digits in a base: their value, canonical lists, trimming. No conditions beyond those each theorem states. -/
/- Words for memory that the contracts of this seat share: a slice's cells read as a list; natural numbers in memory. Plain definitions and lemmas, each under the conditions that it states. -/
/- math/bits: Add32, Sub32, Div32: what each call returns, for words of 32 bits; the world stays as it is (but for draws). -/
/- nat.trim, nat.Of, nat.IsZero, nat.Uint64: what each call returns, for digits in memory of fewer than 2^40 digits. -/
/- nat.Add, nat.Sub: what each call returns, for numbers of fewer than 2^40 digits. -/
/- nat.Sub, where the difference is at least 0: what the call returns, for numbers of fewer than 2^30 digits. -/
/- nat.Mul: what the call returns, for numbers of fewer than 2^30 digits. -/
/- nat.divideSmall: what the call returns, for a divisor that is not 0 and numbers of fewer than 2^30 digits. -/
/- Boxes: blocks that a function lays first for its parameters and results, and what they hold. -/
/- nat.DivMod, first roads: the dividend is less than the divisor, or both fit 64 bits. -/
/- nat.GCD: what the call returns; what it divides by DivMod is a hypothesis, asked only where a number does not fit 64 bits. -/
import Derived.Test.YtjmkcckbbgpkeaaGreatDoorProg
import Derived.WalkKit
import Derived.WalkSpells
import Derived.WalkLawsBesides
import Derived.KernelRfl
import Derived.Lib.Hide
import Derived.Deep.QuietTactic
import Derived.BigQuiet
import Derived.Deep.RegionHeld3
import Derived.Deep.DeepFit
import Derived.Deep.LoopGhost
import Derived.Deep.OwnRows
import Derived.Laws.OwnMore
import Derived.Laws.CopyOwn
import Derived.RegionTactic
import Derived.ChangeAlike
import Derived.Deep.RegionWith
set_option linter.unusedVariables false
set_option linter.unusedSimpArgs false

namespace Go.Proofs.YtjmkcckbbgpkeaaGreatDoor.Dig
/-- The value of digits in base B, the lowest one first. -/
def val (B : Nat) : List Nat → Nat
  | [] => 0
  | d :: ds => d + B * val B ds

theorem val_nil (B : Nat) : val B [] = 0 := rfl
theorem val_cons (B d : Nat) (ds : List Nat) : val B (d :: ds) = d + B * val B ds := rfl
theorem val_append (B : Nat) (xs ys : List Nat) : val B (xs ++ ys) = val B xs + B ^ xs.length * val B ys := by
  induction xs with
  | nil => simp [val]
  | cons x xs ih => simp only [List.cons_append, val, ih, List.length_cons, Nat.pow_succ]; grind
theorem val_single (B d : Nat) : val B [d] = d := by simp [val]
theorem val_snoc (B : Nat) (xs : List Nat) (d : Nat) : val B (xs ++ [d]) = val B xs + B ^ xs.length * d := by rw [val_append, val_single]
theorem val_take_succ (B : Nat) (xs : List Nat) (k : Nat) (h : k < xs.length) : val B (xs.take (k + 1)) = val B (xs.take k) + B ^ k * xs[k] := by
  rw [List.take_succ_eq_append_getElem h, val_snoc, List.length_take, Nat.min_eq_left (by omega)]
theorem val_take_succ' (B : Nat) (xs : List Nat) (k : Nat) (h : k < xs.length) : val B (xs.take (k + 1)) = val B (xs.take k) + B ^ k * xs.getD k 0 := by
  rw [val_take_succ B xs k h]; simp [List.getD, h]
theorem val_take_ge (B : Nat) (xs : List Nat) (k : Nat) (h : xs.length ≤ k) : val B (xs.take k) = val B xs := by rw [List.take_of_length_le h]
theorem val_lt {B : Nat} (_hB : 0 < B) {ds : List Nat} (h : ∀ d ∈ ds, d < B) : val B ds < B ^ ds.length := by
  induction ds with
  | nil => simp [val]
  | cons d ds ih =>
    have h1 := ih (fun x hx => h x (by simp [hx]))
    have h2 := h d (by simp)
    simp only [val, List.length_cons, Nat.pow_succ]
    have : B * (val B ds + 1) ≤ B * B ^ ds.length := Nat.mul_le_mul_left _ h1
    have e : B ^ ds.length * B = B * B ^ ds.length := Nat.mul_comm _ _
    rw [e]; rw [Nat.mul_add] at this; omega
theorem val_replicate (B n : Nat) : val B (List.replicate n 0) = 0 := by
  induction n with
  | zero => rfl
  | succ n ih => simp [List.replicate_succ, val, ih]
theorem val_split (B : Nat) (xs : List Nat) (k : Nat) : val B xs = val B (xs.take k) + B ^ (min k xs.length) * val B (xs.drop k) := by
  conv => lhs; rw [← List.take_append_drop k xs]
  rw [val_append, List.length_take]
theorem val_split' (B : Nat) (xs : List Nat) (k : Nat) (h : k ≤ xs.length) : val B xs = val B (xs.take k) + B ^ k * val B (xs.drop k) := by
  rw [val_split B xs k, Nat.min_eq_left h]
theorem val_drop (B : Nat) (xs : List Nat) (k : Nat) (h : k < xs.length) : val B (xs.drop k) = xs[k] + B * val B (xs.drop (k + 1)) := by
  rw [List.drop_eq_getElem_cons h]; rfl
theorem val_drop' (B : Nat) (xs : List Nat) (k : Nat) (h : k < xs.length) : val B (xs.drop k) = xs.getD k 0 + B * val B (xs.drop (k + 1)) := by
  rw [val_drop B xs k h]; simp [List.getD, h]

/-- Digits below the base, the highest one not 0. -/
structure Canon (B : Nat) (ds : List Nat) : Prop where
  lt : ∀ d ∈ ds, d < B
  top : ds.getLast? ≠ some 0

theorem Canon.nil (B : Nat) : Canon B [] := ⟨by simp, by simp⟩
theorem Canon.tail {B d : Nat} {ds : List Nat} (h : Canon B (d :: ds)) : Canon B ds := by
  refine ⟨fun x hx => h.lt x (by simp [hx]), ?_⟩
  cases ds with
  | nil => simp
  | cons e es => have := h.top; rwa [List.getLast?_cons_cons] at this
theorem Canon.getD_lt {B : Nat} {ds : List Nat} (h : Canon B ds) (hB : 0 < B) (k : Nat) : ds.getD k 0 < B := by
  by_cases hk : k < ds.length
  · simp only [List.getD, List.getElem?_eq_getElem hk, Option.getD_some]; exact h.lt _ (List.getElem_mem hk)
  · simp [List.getD, List.getElem?_eq_none (by omega : ds.length ≤ k), hB]
theorem Canon.pos {B : Nat} (hB : 0 < B) : ∀ {ds : List Nat}, Canon B ds → ds ≠ [] → 0 < val B ds
  | [], _, h => absurd rfl h
  | [d], h, _ => by have := h.top; simp at this; simp [val]; omega
  | d :: e :: es, h, _ => by
    have := Canon.pos hB h.tail (by simp)
    rw [val_cons]
    have : 0 < B * val B (e :: es) := Nat.mul_pos hB this
    omega
theorem Canon.val_zero {B : Nat} (hB : 0 < B) {ds : List Nat} (h : Canon B ds) (h0 : val B ds = 0) : ds = [] := by
  by_cases hd : ds = []
  · exact hd
  · have := h.pos hB hd; omega
theorem Canon.ge {B : Nat} (hB : 0 < B) {ds : List Nat} (h : Canon B ds) (hne : ds ≠ []) : B ^ (ds.length - 1) ≤ val B ds := by
  induction ds with
  | nil => exact absurd rfl hne
  | cons d ds ih =>
    cases ds with
    | nil => have := h.pos hB (by simp); simp [val] at this ⊢; omega
    | cons e es =>
      have := ih h.tail (by simp)
      simp only [List.length_cons, Nat.add_sub_cancel] at this ⊢
      rw [val_cons, Nat.pow_succ]
      have : B * B ^ es.length ≤ B * val B (e :: es) := Nat.mul_le_mul_left _ this
      rw [Nat.mul_comm (B ^ es.length)]; omega
theorem Canon.len_lt {B : Nat} (hB : 1 < B) {xs ys : List Nat} (hx : Canon B xs) (hy : Canon B ys) (h : xs.length < ys.length) : val B xs < val B ys := by
  have h1 := val_lt (by omega) hx.lt
  have h2 := hy.ge (by omega) (by intro e; simp [e] at h)
  have h3 : B ^ xs.length ≤ B ^ (ys.length - 1) := Nat.pow_le_pow_right (by omega) (by omega)
  omega
theorem Canon.len_le {B : Nat} (hB : 1 < B) {ds : List Nat} (h : Canon B ds) {k : Nat} (hv : val B ds < B ^ k) : ds.length ≤ k := by
  by_cases hne : ds = []
  · simp [hne]
  · have h1 := h.ge (by omega) hne
    have h2 : B ^ (ds.length - 1) < B ^ k := by omega
    have := (Nat.pow_lt_pow_iff_right hB).1 h2
    omega
theorem digits_unique {B : Nat} (hB : 0 < B) : ∀ {xs ys : List Nat}, (∀ d ∈ xs, d < B) → (∀ d ∈ ys, d < B) → xs.length = ys.length → val B xs = val B ys → xs = ys
  | [], [], _, _, _, _ => rfl
  | [], _ :: _, _, _, h, _ => by simp at h
  | _ :: _, [], _, _, h, _ => by simp at h
  | x :: xs, y :: ys, hx, hy, hl, hv => by
    have hx0 := hx x (by simp)
    have hy0 := hy y (by simp)
    rw [val_cons, val_cons] at hv
    have e1 : (x + B * val B xs) % B = x := by rw [Nat.add_mul_mod_self_left, Nat.mod_eq_of_lt hx0]
    have e2 : (y + B * val B ys) % B = y := by rw [Nat.add_mul_mod_self_left, Nat.mod_eq_of_lt hy0]
    have hxy : x = y := by rw [← e1, ← e2, hv]
    subst hxy
    have : val B xs = val B ys := Nat.eq_of_mul_eq_mul_left hB (by omega)
    rw [digits_unique hB (fun d hd => hx d (by simp [hd])) (fun d hd => hy d (by simp [hd])) (by simpa using hl) this]
theorem Canon.unique {B : Nat} (hB : 1 < B) {xs ys : List Nat} (hx : Canon B xs) (hy : Canon B ys) (h : val B xs = val B ys) : xs = ys := by
  refine digits_unique (by omega) hx.lt hy.lt ?_ h
  rcases Nat.lt_trichotomy xs.length ys.length with hl | hl | hl
  · have := hx.len_lt hB hy hl; omega
  · exact hl
  · have := hy.len_lt hB hx hl; omega

/-- Digits without zeros at the end. -/
def trim : List Nat → List Nat
  | [] => []
  | d :: ds => match trim ds with
    | [] => if d = 0 then [] else [d]
    | e :: es => d :: e :: es
theorem trim_val (B : Nat) (ds : List Nat) : val B (trim ds) = val B ds := by
  induction ds with
  | nil => rfl
  | cons d ds ih =>
    simp only [trim]
    split
    · rename_i h; rw [h] at ih; rw [val_cons, ← ih, val_nil]; split <;> simp [val, *]
    · rename_i e es h; rw [h] at ih; rw [val_cons B d (e :: es), ih, val_cons]
theorem trim_mem {ds : List Nat} {x : Nat} (h : x ∈ trim ds) : x ∈ ds := by
  induction ds with
  | nil => simp [trim] at h
  | cons d ds ih =>
    simp only [trim] at h
    split at h
    · split at h <;> simp_all
    · rename_i e es he; rw [he] at ih; simp at h ih ⊢; rcases h with h | h | h <;> simp_all
theorem trim_canon {B : Nat} {ds : List Nat} (h : ∀ d ∈ ds, d < B) : Canon B (trim ds) := by
  refine ⟨fun d hd => h d (trim_mem hd), ?_⟩
  clear h
  induction ds with
  | nil => simp [trim]
  | cons d ds ih =>
    simp only [trim]
    split
    · split <;> simp_all
    · rename_i e es he; rw [he] at ih; rwa [List.getLast?_cons_cons]
theorem trim_snoc_zero (ds : List Nat) : trim (ds ++ [0]) = trim ds := by
  induction ds with
  | nil => rfl
  | cons d ds ih => simp only [List.cons_append, trim, ih]
theorem trim_snoc (ds : List Nat) (d : Nat) (hd : d ≠ 0) : trim (ds ++ [d]) = ds ++ [d] := by
  induction ds with
  | nil => simp [trim, hd]
  | cons e es ih =>
    simp only [List.cons_append, trim, ih]
    split
    · rename_i h; simp at h
    · rename_i h; rw [← h]
theorem trim_take (ds : List Nat) (n : Nat) (hn : n ≤ ds.length) (hz : ∀ k, n ≤ k → k < ds.length → ds.getD k 0 = 0) : trim ds = trim (ds.take n) := by
  induction hm : ds.length - n generalizing n with
  | zero => rw [List.take_of_length_le (by omega)]
  | succ m ih =>
    have h := ih (n + 1) (by omega) (fun k hk hk' => hz k (by omega) hk') (by omega)
    rw [h, List.take_succ_eq_append_getElem (by omega : n < ds.length)]
    have h0 := hz n (by omega) (by omega)
    simp only [List.getD, List.getElem?_eq_getElem (by omega : n < ds.length), Option.getD_some] at h0
    rw [h0, trim_snoc_zero]
theorem trim_of_top {ds : List Nat} (h : ds.getLast? ≠ some 0) : trim ds = ds := by
  rcases List.eq_nil_or_concat ds with rfl | ⟨xs, x, rfl⟩
  · rfl
  · rw [List.concat_eq_append] at h ⊢; exact trim_snoc xs x (by simpa using h)
theorem Canon.trim {B : Nat} {ds : List Nat} (h : Canon B ds) : Dig.trim ds = ds := trim_of_top h.top

theorem drop_eq_of {xs ys : List Nat} (hl : xs.length = ys.length) {k : Nat} (heq : ∀ j, k ≤ j → j < xs.length → xs[j]?.getD 0 = ys[j]?.getD 0) : xs.drop k = ys.drop k := by
  apply List.ext_getElem?
  intro i
  rw [List.getElem?_drop, List.getElem?_drop]
  by_cases h : k + i < xs.length
  · have := heq (k + i) (by omega) h
    rw [List.getElem?_eq_getElem h, List.getElem?_eq_getElem (by omega : k + i < ys.length)] at this ⊢
    simpa using this
  · rw [List.getElem?_eq_none (by omega), List.getElem?_eq_none (by omega)]
theorem val_lt_of_digit {B : Nat} (hB : 0 < B) {xs ys : List Nat} (hx : ∀ d ∈ xs, d < B) (hl : xs.length = ys.length) {k : Nat} (hk : k < xs.length)
    (heq : ∀ j, k < j → j < xs.length → xs[j]?.getD 0 = ys[j]?.getD 0) (hlt : xs[k]?.getD 0 < ys[k]?.getD 0) : val B xs < val B ys := by
  rw [val_split' B xs (k + 1) (by omega), val_split' B ys (k + 1) (by omega), drop_eq_of hl (k := k + 1) (fun j h1 h2 => heq j (by omega) h2),
    val_take_succ' B xs k hk, val_take_succ' B ys k (by omega)]
  simp only [List.getD] at *
  have h1 : val B (xs.take k) < B ^ k := by
    have := val_lt hB (ds := xs.take k) (fun d hd => hx d (List.mem_of_mem_take hd))
    rwa [List.length_take, Nat.min_eq_left (by omega)] at this
  have h2 : B ^ k * (xs[k]?.getD 0 + 1) ≤ B ^ k * ys[k]?.getD 0 := Nat.mul_le_mul_left _ hlt
  rw [Nat.mul_add] at h2
  omega

theorem take_set_le (ds : List Nat) (k j d : Nat) (h : j ≤ k) : (ds.set k d).take j = ds.take j := by
  apply List.ext_getElem?
  intro i
  simp only [List.getElem?_take, List.getElem?_set]
  split
  · rw [if_neg (by omega)]
  · rfl
theorem val_take_set (B : Nat) (ds : List Nat) (k d : Nat) (h : k < ds.length) : val B ((ds.set k d).take (k + 1)) = val B (ds.take k) + B ^ k * d := by
  rw [val_take_succ B _ k (by simpa using h), take_set_le ds k k d (Nat.le_refl _)]
  simp
theorem drop_set_lt (ds : List Nat) (k j d : Nat) (h : k < j) : (ds.set k d).drop j = ds.drop j := by
  apply List.ext_getElem?
  intro i
  simp only [List.getElem?_drop, List.getElem?_set]
  rw [if_neg (by omega)]
theorem set_lt {B : Nat} {ds : List Nat} (h : ∀ d ∈ ds, d < B) {k x : Nat} (hx : x < B) : ∀ d ∈ ds.set k x, d < B := fun d hd => by
  rcases List.mem_or_eq_of_mem_set hd with h1 | h1
  · exact h d h1
  · omega

theorem val_set (B : Nat) (ds : List Nat) (j d : Nat) (h : j < ds.length) : val B (ds.set j d) + B ^ j * ds[j]?.getD 0 = val B ds + B ^ j * d := by
  rw [val_split' B (ds.set j d) (j + 1) (by rw [List.length_set]; omega), val_split' B ds (j + 1) (by omega), drop_set_lt ds j (j + 1) d (by omega), val_take_set B ds j d h, val_take_succ' B ds j h]
  simp only [List.getD]
  omega

theorem drop_set_self (ds : List Nat) (k d : Nat) (h : k < ds.length) : (ds.set k d).drop k = d :: ds.drop (k + 1) := by
  rw [List.drop_eq_getElem_cons (by rw [List.length_set]; exact h), drop_set_lt ds k (k + 1) d (by omega)]
  simp
end Go.Proofs.YtjmkcckbbgpkeaaGreatDoor.Dig


namespace Go.Proofs.YtjmkcckbbgpkeaaGreatDoor
open Go.RowKit

/-- The number of values of a digit. -/
def B32 : Nat := 4294967296
theorem B32_eq : B32 = 4294967296 := rfl
theorem B32_pos : 0 < B32 := by decide
theorem B32_sq : B32 ^ 2 = 18446744073709551616 := by decide
theorem B32_gt : 1 < B32 := by decide

/-- The slice's first cells, from address A on, are xs. Nothing is asked of A where there are none. -/
def Rd (w : World) (A : Option Addr) (xs : List Value) : Prop :=
  xs ≠ [] → ∃ b o : Nat, A = some ⟨b, o, none⟩ ∧ b < w.heap.size ∧ ∀ i, i < xs.length → w.cell? ⟨b, o + i, none⟩ = xs[i]?

theorem Rd.nil (w : World) (A : Option Addr) : Rd w A [] := fun h => absurd rfl h
theorem Rd.at_ {w : World} {A : Option Addr} {xs : List Value} (h : Rd w A xs) {i : Nat} (hi : i < xs.length) :
    ∃ b o : Nat, A = some ⟨b, o, none⟩ ∧ b < w.heap.size ∧ ∀ i, i < xs.length → w.cell? ⟨b, o + i, none⟩ = xs[i]? := h (by intro e; simp [e] at hi)
theorem Rd.keep {w w' : World} {A : Option Addr} {xs : List Value} (h : Rd w A xs) (hb : Below w.heap.size w w') : Rd w' A xs := fun hne => by
  obtain ⟨b, o, e, hlt, hc⟩ := h hne
  exact ⟨b, o, e, Nat.lt_of_lt_of_le hlt hb.size, fun i hi => (hb.cell (p := ⟨b, o + i, none⟩) hlt).trans (hc i hi)⟩
theorem Rd.take {w : World} {A : Option Addr} {xs : List Value} (h : Rd w A xs) (k : Nat) : Rd w A (xs.take k) := fun hne => by
  obtain ⟨b, o, e, hlt, hc⟩ := h (by intro e; simp [e] at hne)
  refine ⟨b, o, e, hlt, fun i hi => ?_⟩
  rw [List.length_take] at hi
  rw [hc i (by omega), List.getElem?_take, if_pos (by omega)]

/-- A new block's cells. -/
theorem Rd.new (w : World) (t : TypeId) (cs : Array Value) {g : Nat} {xs : List Value} (hg : g = w.heap.size) (hx : xs = cs.toList) : Rd (w.alloc (.cells cs t)) (some ⟨g, 0, none⟩) xs := fun _ => by
  subst hg; subst hx
  refine ⟨w.heap.size, 0, rfl, by simp, fun i hi => ?_⟩
  have h : (w.alloc (.cells cs t)).heap[w.heap.size]? = some (.cells cs t (0, 0)) := heap_alloc_new w _
  rw [Nat.zero_add, cell_of_row _ _ _ _ _ _ h]; simp

abbrev Ext (w w' : World) : Prop := Below w.heap.size w w'
theorem Ext.refl (w : World) : Ext w w := Below.refl _ _
theorem Ext.alloc {a w : World} (h : Ext a w) (o : Obj) : Ext a (w.alloc o) := Below.alloc h h.size o
theorem Ext.drewN {a w : World} (h : Ext a w) (n : Nat) : Ext a (w.drewN n) := ⟨h.os, h.tape, h.output, h.size, h.block⟩
theorem Ext.tr {a b c : World} (h : Ext a b) (k : Ext b c) : Ext a c := h.trans (k.mono h.size)

/-- Block g is just the cells cs of element type t, none frozen. -/
def Blk (w : World) (g : Nat) (t : TypeId) (cs : Array Value) : Prop := w.heap[g]? = some (.cells cs t (0, 0))
section
variable {w w' : World} {g : Nat} {t : TypeId} {cs : Array Value}
theorem Blk.lt (h : Blk w g t cs) : g < w.heap.size := by
  rcases Nat.lt_or_ge g w.heap.size with hlt | hge
  · exact hlt
  · unfold Blk at h; rw [Array.getElem?_eq_none hge] at h; cases h
theorem Blk.cell (h : Blk w g t cs) (i : Nat) : w.cell? ⟨g, i, none⟩ = cs[i]? := cell_of_row w g i cs t (0, 0) h
theorem Blk.frozen (h : Blk w g t cs) (i : Nat) : w.frozen? ⟨g, i, none⟩ = false := by
  unfold Blk at h
  simp [World.frozen?, h]
theorem Blk.new (w : World) (t : TypeId) (cs : Array Value) : Blk (w.alloc (.cells cs t)) w.heap.size t cs := heap_alloc_new w _
theorem Blk.new' (w : World) (t : TypeId) (cs : Array Value) (hg : g = w.heap.size) : Blk (w.alloc (.cells cs t)) g t cs := by subst hg; exact heap_alloc_new w _
theorem Blk.drewN (h : Blk w g t cs) (n : Nat) : Blk (w.drewN n) g t cs := h
theorem Blk.alloc (h : Blk w g t cs) (o : Obj) : Blk (w.alloc o) g t cs := (Below.heap_alloc w o g h.lt).trans h
theorem Blk.set_ (h : Blk w g t cs) (i : Nat) (u : Value) : Blk (w.setCell ⟨g, i, none⟩ u) g t (cs.setIfInBounds i u) := by
  unfold Blk at h ⊢
  simp [World.setCell, Array.getElem?_modify, h]
theorem Blk.far (h : Blk w g t cs) {p : Addr} (hp : g ≠ p.block) (u : Value) : Blk (w.setCell p u) g t cs := (Below.heap_setCell w p u g hp).trans h
theorem Blk.keep (h : Blk w g t cs) (hb : Ext w w') : Blk w' g t cs := (hb.block g h.lt).trans h
theorem Blk.ne_ {g' : Nat} {t' : TypeId} {cs' : Array Value} (h : Blk w g t cs) (h' : Blk w g' t' cs') (hne : t ≠ t') : g ≠ g' := by
  rintro rfl
  unfold Blk at h h'
  rw [h] at h'
  injection h' with h'
  injection h' with _ ht
  exact hne ht
end

/-- As Rd, in a block of element type t. -/
def RdT (w : World) (t : TypeId) (A : Option Addr) (xs : List Value) : Prop :=
  xs ≠ [] → ∃ (b o : Nat) (cs : Array Value) (fr : Nat × Nat), A = some ⟨b, o, none⟩ ∧ w.heap[b]? = some (.cells cs t fr) ∧ ∀ i, i < xs.length → cs[o + i]? = xs[i]?
section
variable {w w' : World} {t : TypeId} {A : Option Addr} {xs : List Value}
theorem RdT.nil (w : World) (t : TypeId) (A : Option Addr) : RdT w t A [] := fun h => absurd rfl h
theorem RdT.rd (h : RdT w t A xs) : Rd w A xs := fun hne => by
  obtain ⟨b, o, cs, fr, e, hb, hc⟩ := h hne
  refine ⟨b, o, e, ?_, fun i hi => (cell_of_row w b (o + i) cs t fr hb).trans (hc i hi)⟩
  rcases Nat.lt_or_ge b w.heap.size with hlt | hge
  · exact hlt
  · rw [Array.getElem?_eq_none hge] at hb; cases hb
theorem RdT.keep (h : RdT w t A xs) (hb : Ext w w') : RdT w' t A xs := fun hne => by
  obtain ⟨b, o, cs, fr, e, h1, hc⟩ := h hne
  obtain ⟨b', o', e', hlt, _⟩ := h.rd hne
  have : b' = b := by rw [e] at e'; injection e' with e'; injection e' with e1; exact e1.symm
  subst this
  exact ⟨b', o, cs, fr, e, (hb.block b' hlt).trans h1, hc⟩
theorem RdT.take (h : RdT w t A xs) (k : Nat) : RdT w t A (xs.take k) := fun hne => by
  obtain ⟨b, o, cs, fr, e, hb, hc⟩ := h (by intro e; simp [e] at hne)
  refine ⟨b, o, cs, fr, e, hb, fun i hi => ?_⟩
  rw [List.length_take] at hi
  rw [hc i (by omega), List.getElem?_take, if_pos (by omega)]
theorem RdT.set_ (h : RdT w t A xs) {p : Addr} {t' : TypeId} {cs' : Array Value} (hp : Blk w p.block t' cs') (hne : t ≠ t') (u : Value) : RdT (w.setCell p u) t A xs := fun hx => by
  obtain ⟨b, o, cs, fr, e, hb, hc⟩ := h hx
  refine ⟨b, o, cs, fr, e, (Below.heap_setCell w p u b ?_).trans hb, hc⟩
  rintro rfl
  unfold Blk at hp
  rw [hb] at hp
  injection hp with hp
  injection hp with _ ht
  exact hne ht
theorem RdT.new {g : Nat} {cs : Array Value} (w : World) (t : TypeId) (hg : g = w.heap.size) (hx : xs = cs.toList) : RdT (w.alloc (.cells cs t)) t (some ⟨g, 0, none⟩) xs := fun _ => by
  subst hg; subst hx
  exact ⟨w.heap.size, 0, cs, (0, 0), rfl, heap_alloc_new w _, fun i hi => by simp⟩
theorem RdT.of_blk {g : Nat} {cs : Array Value} (h : Blk w g t cs) (hx : xs = cs.toList) : RdT w t (some ⟨g, 0, none⟩) xs := fun _ => by
  subst hx
  exact ⟨g, 0, cs, (0, 0), rfl, h, fun i hi => by simp⟩
end

/-- Digits as cells. -/
def u32s (ds : List Nat) : List Value := ds.map fun d : Nat => Value.int .u32 (d : Int)
theorem u32s_length (ds : List Nat) : (u32s ds).length = ds.length := by simp [u32s]
theorem u32s_get (ds : List Nat) (i : Nat) (h : i < ds.length) : (u32s ds)[i]? = some (.int .u32 ((ds[i]?.getD 0 : Nat) : Int)) := by
  simp [u32s, h]
theorem u32s_take (ds : List Nat) (k : Nat) : u32s (ds.take k) = (u32s ds).take k := by simp [u32s]
theorem Rd.u32 {w : World} {A : Option Addr} {ds : List Nat} (h : Rd w A (u32s ds)) {k : Nat} (hk : k < ds.length) :
    ∃ b o : Nat, A = some ⟨b, o, none⟩ ∧ b < w.heap.size ∧ ∀ i, i < ds.length → w.cell? ⟨b, o + i, none⟩ = some (.int .u32 ((ds[i]?.getD 0 : Nat) : Int)) := by
  obtain ⟨b, o, e, hlt, hc⟩ := h.at_ (i := k) (by rw [u32s_length]; exact hk)
  exact ⟨b, o, e, hlt, fun i hi => (hc i (by rw [u32s_length]; exact hi)).trans (u32s_get ds i hi)⟩

/-- Block g is a row of digits. -/
def Row (w : World) (g : Nat) (ds : List Nat) : Prop := Blk w g 120 (u32s ds).toArray
section
variable {w w' : World} {g : Nat} {ds : List Nat}
theorem Row.lt (h : Row w g ds) : g < w.heap.size := Blk.lt h
theorem Row.cell (h : Row w g ds) {i : Nat} (hi : i < ds.length) : w.cell? ⟨g, i, none⟩ = some (.int .u32 ((ds[i]?.getD 0 : Nat) : Int)) := by
  rw [Blk.cell h i, List.getElem?_toArray, u32s_get ds i hi]
theorem Row.frozen (h : Row w g ds) (i : Nat) : w.frozen? ⟨g, i, none⟩ = false := Blk.frozen h i
theorem Row.keep (h : Row w g ds) (hb : Ext w w') : Row w' g ds := Blk.keep h hb
theorem Row.alloc (h : Row w g ds) (o : Obj) : Row (w.alloc o) g ds := Blk.alloc h o
theorem Row.drewN (h : Row w g ds) (n : Nat) : Row (w.drewN n) g ds := h
theorem Row.far (h : Row w g ds) {p : Addr} (hp : g ≠ p.block) (u : Value) : Row (w.setCell p u) g ds := Blk.far h hp u
theorem Row.set_ (h : Row w g ds) (i d : Nat) : Row (w.setCell ⟨g, i, none⟩ (.int .u32 (d : Int))) g (ds.set i d) := by
  have := Blk.set_ h i (.int .u32 (d : Int))
  unfold Row
  rw [show (u32s (ds.set i d)).toArray = (u32s ds).toArray.setIfInBounds i (.int .u32 (d : Int)) from by simp [u32s, List.map_set]]
  exact this
theorem Row.made (w : World) (n : Nat) (hg : g = w.heap.size) : Row (w.alloc (.cells (madeCells #[.int .u32 0] n) 120)) g (List.replicate n 0) := by
  unfold Row
  have e : (u32s (List.replicate n 0)).toArray = madeCells #[.int .u32 0] n := by
    apply Array.toList_inj.1
    rw [toList_madeCells_one]
    simp [u32s]
  rw [e]
  exact Blk.new' w _ _ hg
theorem Row.rdT (h : Row w g ds) : RdT w 120 (some ⟨g, 0, none⟩) (u32s ds) := RdT.of_blk h (by simp)
end

/-- The slice (A, n, c) holds the digits of N. -/
def NatR (w : World) (A : Option Addr) (n c : Nat) (N : Nat) : Prop :=
  ∃ ds : List Nat, ds.length = n ∧ n ≤ c ∧ Dig.Canon B32 ds ∧ Dig.val B32 ds = N ∧ RdT w 120 A (u32s ds)
theorem NatR.keep {w w' : World} {A : Option Addr} {n c N : Nat} (h : NatR w A n c N) (hb : Ext w w') : NatR w' A n c N := by
  obtain ⟨ds, h1, h2, h3, h4, h5⟩ := h
  exact ⟨ds, h1, h2, h3, h4, h5.keep hb⟩
theorem NatR.set_ {w : World} {A : Option Addr} {n c N : Nat} (h : NatR w A n c N) {p : Addr} {t' : TypeId} {cs' : Array Value} (hp : Blk w p.block t' cs') (hne : 120 ≠ t') (u : Value) : NatR (w.setCell p u) A n c N := by
  obtain ⟨ds, h1, h2, h3, h4, h5⟩ := h
  exact ⟨ds, h1, h2, h3, h4, h5.set_ hp hne u⟩
theorem NatR.zero (w : World) (A : Option Addr) (c : Nat) : NatR w A 0 c 0 := ⟨[], rfl, Nat.zero_le _, Dig.Canon.nil _, rfl, RdT.nil _ _ _⟩
theorem NatR.eq_zero {w : World} {A : Option Addr} {n c N : Nat} (h : NatR w A n c N) : n = 0 ↔ N = 0 := by
  obtain ⟨ds, rfl, _, h3, rfl, _⟩ := h
  constructor
  · intro h; rw [List.length_eq_zero_iff.1 h]; rfl
  · intro h; rw [h3.val_zero B32_pos h]; rfl

/-- Digits of which those from k on are 0, the one below k is not. -/
theorem NatR.of_take {w : World} {A : Option Addr} {ds : List Nat} {k c : Nat} (hr : RdT w 120 A (u32s ds)) (hk : k ≤ ds.length) (hz : ∀ j, k ≤ j → j < ds.length → ds[j]?.getD 0 = 0)
    (ht : 0 < k → ds[k - 1]?.getD 0 ≠ 0) (hlt : ∀ d ∈ ds, d < B32) (hkc : k ≤ c) : NatR w A k c (Dig.val B32 ds) := by
  refine ⟨ds.take k, by rw [List.length_take]; omega, hkc, ⟨fun d hd => hlt d (List.mem_of_mem_take hd), ?_⟩, ?_, by rw [u32s_take]; exact hr.take k⟩
  · intro h
    by_cases h0 : k = 0
    · subst h0; simp at h
    · rw [List.getLast?_eq_getElem?, List.length_take, Nat.min_eq_left hk, List.getElem?_take, if_pos (by omega)] at h
      exact ht (by omega) (by rw [h]; rfl)
  · rw [← Dig.trim_val, ← Dig.trim_val B32 ds, Dig.trim_take ds k hk (fun j h1 h2 => hz j h1 h2)]
theorem u32s_mem_lt {ds : List Nat} (h : ∀ d ∈ ds, d < B32) (i : Nat) : ds[i]?.getD 0 < B32 := by
  by_cases hi : i < ds.length
  · rw [List.getElem?_eq_getElem hi]; exact h _ (List.getElem_mem hi)
  · rw [List.getElem?_eq_none (by omega)]; exact B32_pos

theorem val_zero_of {ds : List Nat} (hz : ∀ j, 0 ≤ j → j < ds.length → ds[j]?.getD 0 = 0) : Dig.val B32 ds = 0 := by
  rw [← Dig.trim_val, Dig.trim_take ds 0 (Nat.zero_le _) (fun j h1 h2 => hz j h1 h2)]; rfl
/-- Old cells and old marks read as before. -/
theorem bcell {W w1 : World} (hb : Ext W w1) : (∀ b o, b < W.heap.size → w1.cell? ⟨b, o, none⟩ = W.cell? ⟨b, o, none⟩) ∧ (∀ b o, b < W.heap.size → w1.frozen? ⟨b, o, none⟩ = W.frozen? ⟨b, o, none⟩) :=
  ⟨fun b o h => hb.cell (p := ⟨b, o, none⟩) h, fun b o h => hb.frozen (p := ⟨b, o, none⟩) h⟩

/-- A function that returns a natural number in memory and changes nothing that was there. -/
def NatPost (w : World) (N : Nat) (e : Ending) (w' : World) : Prop :=
  ∃ (A : Option Addr) (n c : Nat), e = .returned (.agg #[.slice A n c]) ∧ NatR w' A n c N ∧ Ext w w'
end Go.Proofs.YtjmkcckbbgpkeaaGreatDoor


namespace Go.Proofs.YtjmkcckbbgpkeaaGreatDoor
open Go.RowKit
theorem bit31 (X : Nat) (h : X < 4294967296) : X.testBit 31 = decide (2147483648 ≤ X) := by
  rw [Nat.testBit_eq_decide_div_mod_eq]; simp only [Nat.reducePow]; rw [decide_eq_decide]; omega
theorem top31 (X : Nat) (h : X < 4294967296) : X / 2147483648 = if X.testBit 31 then 1 else 0 := by
  rw [bit31 X h]; simp only [decide_eq_true_eq]; split <;> omega
theorem borrow_nat (x y d : Nat) (hx : x < 4294967296) (hy : y < 4294967296) (hd : d < 4294967296) :
    (((4294967295 ^^^ x) &&& y) ||| ((4294967295 ^^^ (x ^^^ y)) &&& d)) / 2147483648 = if (x < 2147483648 ∧ 2147483648 ≤ y) ∨ (decide (2147483648 ≤ x) = decide (2147483648 ≤ y) ∧ 2147483648 ≤ d) then 1 else 0 := by
  have hb : (((4294967295 ^^^ x) &&& y) ||| ((4294967295 ^^^ (x ^^^ y)) &&& d)) < 2 ^ 32 :=
    Nat.or_lt_two_pow (Nat.and_lt_two_pow _ (by omega)) (Nat.and_lt_two_pow _ (by omega))
  rw [top31 _ (by omega)]
  have h1 : (4294967295 : Nat).testBit 31 = true := by decide
  simp only [Nat.testBit_or, Nat.testBit_and, Nat.testBit_xor, h1, bit31 x hx, bit31 y hy, bit31 d hd]
  by_cases a : 2147483648 ≤ x <;> by_cases b : 2147483648 ≤ y <;> by_cases c : 2147483648 ≤ d <;> simp [a, b, c, Nat.not_lt.2, Nat.lt_of_not_le]
theorem borrow_int (x y c : Int) (hx : 0 ≤ x) (hx' : x < 4294967296) (hy : 0 ≤ y) (hy' : y < 4294967296) (hc : 0 ≤ c) (hc' : c ≤ 1) :
    bits BinOp.or IntKind.u32 (bits BinOp.and IntKind.u32 (bits BinOp.xor IntKind.u32 IntKind.u32.max x) y)
      (bits BinOp.and IntKind.u32 (bits BinOp.xor IntKind.u32 IntKind.u32.max (bits BinOp.xor IntKind.u32 x y)) ((x - y - c) % 4294967296)) / 2147483648 = - ((x - y - c) / 4294967296) := by
  obtain ⟨X, rfl⟩ := Int.eq_ofNat_of_zero_le hx
  obtain ⟨Y, rfl⟩ := Int.eq_ofNat_of_zero_le hy
  obtain ⟨D, hD⟩ := Int.eq_ofNat_of_zero_le (show 0 ≤ ((X : Int) - Y - c) % 4294967296 by omega)
  have hM : IntKind.u32.max = ((4294967295 : Nat) : Int) := by decide
  have hx2 : X < 4294967296 := by omega
  have hy2 : Y < 4294967296 := by omega
  have hd2 : D < 4294967296 := by omega
  rw [hD, hM, u32_xor_nat _ _ (by omega) hx2, u32_xor_nat _ _ hx2 hy2, u32_and_nat _ _ (Nat.xor_lt_two_pow (n := 32) (by omega) (by omega)) hy2,
    u32_xor_nat _ _ (by omega) (Nat.xor_lt_two_pow (n := 32) (by omega) (by omega)), u32_and_nat _ _ (Nat.xor_lt_two_pow (n := 32) (by omega) (Nat.xor_lt_two_pow (by omega) (by omega))) hd2,
    u32_or_nat _ _ (Nat.and_lt_two_pow (n := 32) _ (by omega)) (Nat.and_lt_two_pow (n := 32) _ (by omega))]
  rw [show (2147483648 : Int) = ((2147483648 : Nat) : Int) from rfl, ← Int.natCast_ediv, borrow_nat X Y D hx2 hy2 hd2]
  have hiff : ((X < 2147483648 ∧ 2147483648 ≤ Y) ∨ (decide (2147483648 ≤ X) = decide (2147483648 ≤ Y) ∧ 2147483648 ≤ D)) ↔ (X : Int) - Y - c < 0 := by
    by_cases a : 2147483648 ≤ X <;> by_cases b : 2147483648 ≤ Y <;> by_cases e : 2147483648 ≤ D <;> simp [a, b, e] <;> omega
  by_cases hn : (X : Int) - Y - c < 0
  · rw [if_pos (hiff.2 hn)]; omega
  · rw [if_neg (fun h => hn (hiff.1 h))]; omega
theorem or_low (h l : Int) (hx : 0 ≤ h) (hx' : h < 4294967296) (hy : 0 ≤ l) (hy' : l < 4294967296) : bits BinOp.or IntKind.u64 (h * 4294967296) l = h * 4294967296 + l := by
  obtain ⟨H, rfl⟩ := Int.eq_ofNat_of_zero_le hx
  obtain ⟨L, rfl⟩ := Int.eq_ofNat_of_zero_le hy
  have e : (H : Int) * 4294967296 = ((4294967296 * H : Nat) : Int) := by omega
  have hor : 4294967296 * H ||| L = 4294967296 * H + L := (Nat.two_pow_add_eq_or_of_lt (i := 32) (b := L) (by omega) H).symm
  rw [e, u64_or_nat _ _ (by omega) (by omega), hor]
  omega

set_option maxHeartbeats 1000000 in
theorem add32_any (x y c : Int) (w : World) (hx : 0 ≤ x) (hx' : x < 4294967296) (hy : 0 ≤ y) (hy' : y < 4294967296) (hc : 0 ≤ c) (hc' : c ≤ 1) :
    Calls Tryz.prog 107 #[.int .u32 x, .int .u32 y, .int .u32 c] w fun e w' => e = .returned (.tuple #[.int .u32 ((x + y + c) % 4294967296), .int .u32 ((x + y + c) / 4294967296)]) ∧ w = w' := by
  go_enter Tryz.func107, Tryz.ntmps107
  go_wp2
  go_ret2
  exact ⟨rfl, rfl⟩
set_option maxHeartbeats 1000000 in
theorem sub32_any (x y c : Int) (w : World) (hx : 0 ≤ x) (hx' : x < 4294967296) (hy : 0 ≤ y) (hy' : y < 4294967296) (hc : 0 ≤ c) (hc' : c ≤ 1) :
    Calls Tryz.prog 108 #[.int .u32 x, .int .u32 y, .int .u32 c] w fun e w' => e = .returned (.tuple #[.int .u32 ((x - y - c) % 4294967296), .int .u32 (- ((x - y - c) / 4294967296))]) ∧ w = w' := by
  have HB := Lib.hid (borrow_int x y c hx hx' hy hy' hc hc')
  go_enter Tryz.func108, Tryz.ntmps108
  go_wp2
  go_ret2
  refine ⟨?_, rfl⟩
  rw [← HB.out]
  rfl
set_option maxHeartbeats 1000000 in
theorem div32_any (h l y : Int) (w : World) (hx : 0 ≤ h) (hx' : h < y) (hy : 0 ≤ l) (hy' : l < 4294967296) (hc : 0 < y) (hc' : y < 4294967296) :
    Calls Tryz.prog 100 #[.int .u32 h, .int .u32 l, .int .u32 y] w fun e w' => e = .returned (.tuple #[.int .u32 ((h * 4294967296 + l) / y), .int .u32 ((h * 4294967296 + l) % y)]) ∧ ∃ k, w' = w.drewN k := by
  have hor := or_low h l hx (by omega) hy hy'
  have hz0 : 0 ≤ h * 4294967296 + l := by omega
  have hz1 : h * 4294967296 + l < 18446744073709551616 := by omega
  have hz2 : h * 4294967296 + l < y * 4294967296 := by omega
  have hyn : (y != 0) = true := bne_iff_ne.2 (by omega)
  have hyl : decide (y ≤ h) = false := by simp; omega
  go_enter Tryz.func100, Tryz.ntmps100
  go_wp2
  clear hor hyn hyl
  generalize hZ : h * 4294967296 + l = Z at *
  have HZ := Lib.hid hZ
  clear hZ
  have hq0 : 0 ≤ Z / y := Int.ediv_nonneg hz0 (by omega)
  have hq1 : Z / y < 4294967296 := Int.ediv_lt_of_lt_mul hc (by rw [Int.mul_comm]; exact hz2)
  have hr0 : 0 ≤ Z % y := Int.emod_nonneg _ (by omega)
  have hr1 : Z % y < y := Int.emod_lt_of_pos _ hc
  have ht : Z.tdiv y = Z / y := Int.tdiv_eq_ediv_of_nonneg hz0
  have hm : Z.tmod y = Z % y := Int.tmod_eq_emod_of_nonneg hz0
  go_quiet (fail)
  go_wp2
  go_ret2
  refine ⟨?_, _, rfl⟩
  rw [HZ.out]
  rfl
end Go.Proofs.YtjmkcckbbgpkeaaGreatDoor


namespace Go.Proofs.YtjmkcckbbgpkeaaGreatDoor
open Go.RowKit

set_option maxHeartbeats 1000000 in
theorem trim_any (A : Option Addr) (n c : Nat) (ds : List Nat) (w : World) (hl : ds.length = n) (hc : n ≤ c) (hn : n ≤ 1099511627776) (hlt : ∀ d ∈ ds, d < B32) (hr : RdT w 120 A (u32s ds)) :
    Calls Tryz.prog 78 #[.slice A n c] w (NatPost w (Dig.val B32 ds)) := by
  subst hl
  go_enter Tryz.func78, Tryz.ntmps78
  go_wp2
  go_loop [3] (fun t => ∃ k : Nat, k ≤ ds.length ∧ t = .int .i64 k ∧ ∀ j, k ≤ j → j < ds.length → ds[j]?.getD 0 = 0) (fun t => (intOf t).toNat)
  case atStart => exact ⟨ds.length, Nat.le_refl _, rfl, fun j h1 h2 => by omega⟩
  case round =>
    obtain ⟨k, hk, rfl, hz⟩ := hrel
    have HZ := Lib.hid hz
    clear hz
    by_cases h0 : k = 0
    · subst h0
      go_wp2
      refine bodyPost_ret (v := .agg #[.slice none 0 0]) (by simp [results, Tryz.results78, go_sem]) rfl ⟨_, _, _, rfl, ?_, (Ext.refl _).alloc _⟩
      rw [val_zero_of HZ.out]
      exact NatR.zero _ _ _
    · obtain ⟨b, o, rfl, hb, hcell⟩ := hr.rd.u32 (k := k - 1) (by omega)
      have hck := hcell (k - 1) (by omega)
      clear hcell
      obtain ⟨d, hd⟩ : ∃ d, d = ds[k - 1]?.getD 0 := ⟨_, rfl⟩
      rw [← hd] at hck
      have HD := Lib.hid hd
      clear hd
      by_cases hd : d = 0
      · subst hd
        go_wp2
        go_round
        case rel => exact ⟨k - 1, by omega, by go_num, fun j h1 h2 => by
          by_cases e : j = k - 1
          · subst e; exact HD.out.symm
          · exact HZ.out j (by omega) h2⟩
        case measure => simp [intOf]; omega
      · have hd' : ((d : Int) == 0) = false := beq_eq_false_iff_ne.2 (by omega)
        have hk' : ((k : Int) == 0) = false := beq_eq_false_iff_ne.2 (by omega)
        go_wp2
        refine bodyPost_ret (v := .agg #[.slice (some ⟨b, o, none⟩) k k]) (by simp [results, Tryz.results78, go_sem]) rfl ⟨_, _, _, rfl, ?_, (Ext.refl _).alloc _⟩
        exact (NatR.of_take hr hk HZ.out (fun _ => by rw [← HD.out]; exact hd) hlt (Nat.le_refl _)).keep ((Ext.refl _).alloc _)

set_option maxHeartbeats 1000000 in
theorem natOf_any (x : Int) (w : World) (h0 : 0 ≤ x) (h1 : x < 18446744073709551616) :
    Calls Tryz.prog 45 #[.int .u64 x] w (NatPost w x.toNat) := by
  obtain ⟨X, rfl⟩ := Int.eq_ofNat_of_zero_le h0
  go_enter Tryz.func45, Tryz.ntmps45
  go_wp2_with fail
  refine (trim_any (some ⟨w.heap.size + 1, 0, none⟩) 2 2 [X % 4294967296, X / 4294967296] _ rfl (Nat.le_refl _) (by omega) (by rw [B32_eq]; simp; omega) (RdT.new _ _ (by simp) (by simp [u32s]))).mono ?_
  rintro e w1 ⟨A, n, c, rfl, hR, hx⟩
  have hR' : NatR w1 A n c X := by
    have e : Dig.val B32 [X % 4294967296, X / 4294967296] = X := by simp only [Dig.val, B32_eq]; omega
    rwa [e] at hR
  have H := Lib.hid hR'
  clear hR hR'
  have HB := Lib.hid (((Blk.new w 36 #[.slice none 0 0]).alloc _).keep hx)
  obtain ⟨hc, hf⟩ := bcell hx
  go_wp2
  refine bodyPost_ret (v := .agg #[.slice A n c]) (by simp [results, Tryz.results45, go_sem, (HB.out.set_ 0 _).cell]) rfl ⟨_, _, _, rfl, H.out.set_ HB.out (by decide) _, ?_⟩
  exact ((((Ext.refl _).alloc _).alloc _).trans (hx.mono (by simp; omega))).setCell (by simp) _

set_option maxHeartbeats 1000000 in
theorem isZero_any (A : Option Addr) (n c : Nat) (w : World) :
    Calls Tryz.prog 44 #[.agg #[.slice A n c]] w fun e w' => e = .returned (.bool ((n : Int) == 0)) ∧ Ext w w' := by
  go_enter Tryz.func44, Tryz.ntmps44
  go_wp2
  go_ret
  exact ⟨rfl, (Ext.refl _).alloc _⟩

theorem val2 (ds : List Nat) (h : ds.length = 2) : Dig.val B32 ds = ds[1]?.getD 0 * 4294967296 + ds[0]?.getD 0 := by
  match ds, h with
  | [a, b], _ => simp only [Dig.val, B32_eq]; simp; omega
set_option maxHeartbeats 1000000 in
theorem natUint64_small (A : Option Addr) (n c N : Nat) (w : World) (h : NatR w A n c N) (hN : N < 18446744073709551616) :
    Calls Tryz.prog 109 #[.agg #[.slice A n c]] w fun e w' => e = .returned (.tuple #[.int .u64 (N : Int), .bool true]) ∧ Ext w w' := by
  obtain ⟨ds, rfl, hc, hcan, rfl, hr⟩ := h
  have hlen : ds.length ≤ 2 := hcan.len_le B32_gt (by rw [B32_sq]; omega)
  have hcase : ds.length = 0 ∨ ds.length = 1 ∨ ds.length = 2 := by omega
  clear hlen hN
  rcases hcase with h | h | h
  · have hv : Dig.val B32 ds = 0 := by rw [List.length_eq_zero_iff.1 h]; rfl
    rw [hv, h]
    clear hv h hcan hr hc
    go_enter Tryz.func109, Tryz.ntmps109
    go_wp2
    go_ret2
    exact ⟨rfl, (Ext.refl _).alloc _⟩
  · have hv : Dig.val B32 ds = ds[0]?.getD 0 := by
      match ds, h with
      | [a], _ => simp [Dig.val]
    obtain ⟨b, o, rfl, hb, hcell⟩ := hr.rd.u32 (k := 0) (by omega)
    have h0 := hcell 0 (by omega)
    rw [Nat.add_zero] at h0
    have hlt := u32s_mem_lt hcan.lt 0
    rw [B32_eq] at hlt
    rw [hv, h]
    clear hv h hcan hr hc hcell
    generalize ds[0]?.getD 0 = d at *
    go_enter Tryz.func109, Tryz.ntmps109
    go_wp2
    go_ret2
    exact ⟨rfl, (Ext.refl _).alloc _⟩
  · have hv := val2 ds h
    obtain ⟨b, o, rfl, hb, hcell⟩ := hr.rd.u32 (k := 0) (by omega)
    have h0 := hcell 0 (by omega)
    rw [Nat.add_zero] at h0
    have h1 := hcell 1 (by omega)
    have hlt := u32s_mem_lt hcan.lt 0
    have hlt1 := u32s_mem_lt hcan.lt 1
    rw [B32_eq] at hlt hlt1
    rw [hv, h]
    clear hv h hcan hr hc hcell
    generalize ds[0]?.getD 0 = d at *
    generalize ds[1]?.getD 0 = f at *
    have hor := or_low f d (by omega) (by omega) (by omega) (by omega)
    go_enter Tryz.func109, Tryz.ntmps109
    go_wp2
    go_quiet (fail)
    go_wp2
    go_ret2
    have e : ((f * 4294967296 + d : Nat) : Int) = (f : Int) * 4294967296 + (d : Int) := by omega
    rw [e]
    exact ⟨rfl, ((Ext.refl _).alloc _).drewN _⟩

set_option maxHeartbeats 1000000 in
theorem natUint64_big (A : Option Addr) (n c N : Nat) (w : World) (h : NatR w A n c N) (hN : 18446744073709551616 ≤ N) :
    Calls Tryz.prog 109 #[.agg #[.slice A n c]] w fun e w' => e = .returned (.tuple #[.int .u64 0, .bool false]) ∧ Ext w w' := by
  obtain ⟨ds, rfl, hc, hcan, rfl, hr⟩ := h
  have hlen : 3 ≤ ds.length := by
    have h1 := Dig.val_lt B32_pos hcan.lt
    rcases Nat.lt_or_ge ds.length 3 with h | h
    · have : B32 ^ ds.length ≤ B32 ^ 2 := Nat.pow_le_pow_right B32_pos (by omega)
      rw [B32_sq] at this
      omega
    · exact h
  have b0 : ((ds.length : Int) == 0) = false := beq_eq_false_iff_ne.2 (by omega)
  have b1 : ((ds.length : Int) == 1) = false := beq_eq_false_iff_ne.2 (by omega)
  have b2 : ((ds.length : Int) == 2) = false := beq_eq_false_iff_ne.2 (by omega)
  clear hN hcan hr hc
  go_enter Tryz.func109, Tryz.ntmps109
  go_wp2
  go_ret2
  exact ⟨rfl, (Ext.refl _).alloc _⟩

/-- The comparison's result. -/
def cmpI (a b : Nat) : Int := if a < b then -1 else if a = b then 0 else 1
theorem cmpI_range (a b : Nat) : -1 ≤ cmpI a b ∧ cmpI a b ≤ 1 := by unfold cmpI; split <;> (try split) <;> omega

set_option maxHeartbeats 1000000 in
theorem natCmp_any (A1 A2 : Option Addr) (n1 c1 n2 c2 a b : Nat) (w : World) (h1 : NatR w A1 n1 c1 a) (h2 : NatR w A2 n2 c2 b) (hn : n1 ≤ 1099511627776) :
    Calls Tryz.prog 40 #[.agg #[.slice A1 n1 c1], .agg #[.slice A2 n2 c2]] w fun e w' => e = .returned (.int .i64 (cmpI a b)) ∧ Ext w w' := by
  obtain ⟨xs, rfl, hc1, hcx, rfl, hr1⟩ := h1
  obtain ⟨ys, rfl, hc2, hcy, rfl, hr2⟩ := h2
  by_cases hl : xs.length = ys.length
  · have hlb : ((xs.length : Int) != (ys.length : Int)) = false := by simp [hl]
    have HL := Lib.hid hl
    clear hl
    go_enter Tryz.func40, Tryz.ntmps40
    go_wp2
    go_quiet (fail)
    go_wp2
    go_loopw [7] (fun t wr => ∃ (k m : Nat), k ≤ xs.length ∧ t = .int .i64 (k - 1) ∧ wr = ((w.alloc (.cells #[.slice A1 xs.length c1] 36)).alloc (.cells #[.slice A2 ys.length c2] 36)).drewN m ∧ ∀ j, k ≤ j → j < xs.length → xs[j]?.getD 0 = ys[j]?.getD 0) (fun t _ => (intOf t + 1).toNat)
    case atStart => exact ⟨xs.length, _, Nat.le_refl _, rfl, rfl, fun j h1 h2 => by omega⟩
    case round =>
      obtain ⟨k, m, hk, rfl, rfl, hz⟩ := hrel
      have HZ := Lib.hid hz
      clear hz
      by_cases h0 : k = 0
      · subst h0
        have hfin : cmpI (Dig.val B32 xs) (Dig.val B32 ys) = 0 := by
          have e : xs = ys := by have := Dig.drop_eq_of HL.out HZ.out; simpa using this
          unfold cmpI; rw [e]; simp
        have HF := Lib.hid hfin
        clear hfin
        go_wp2
        go_ret
        rw [HF.out]
        exact ⟨rfl, by repeat (first | exact Ext.refl _ | refine Ext.drewN ?_ _ | refine Ext.alloc ?_ _)⟩
      · have hlq := HL.out
        obtain ⟨b1, o1, rfl, hb1, hcell1⟩ := hr1.rd.u32 (k := k - 1) (by omega)
        obtain ⟨b2, o2, rfl, hb2, hcell2⟩ := hr2.rd.u32 (k := k - 1) (by omega)
        have hk1 := hcell1 (k - 1) (by omega)
        have hk2 := hcell2 (k - 1) (by omega)
        clear hcell1 hcell2 hr1 hr2
        obtain ⟨d1, hd1⟩ : ∃ d, d = xs[k - 1]?.getD 0 := ⟨_, rfl⟩
        obtain ⟨d2, hd2⟩ : ∃ d, d = ys[k - 1]?.getD 0 := ⟨_, rfl⟩
        rw [← hd1] at hk1
        rw [← hd2] at hk2
        have HD1 := Lib.hid hd1
        have HD2 := Lib.hid hd2
        have i0 : (0 : Int) ≤ (k : Int) - 1 := by omega
        have i1 : (k : Int) - 1 < (xs.length : Int) := by omega
        have i2 : (k : Int) - 1 < (ys.length : Int) := by omega
        have i3 : ((k : Int) - 1).toNat = k - 1 := by omega
        clear hd1 hd2 hlq
        rcases Nat.lt_trichotomy d1 d2 with hd | hd | hd
        · have hb : decide (d1 < d2) = true := by simpa using hd
          have hfin : cmpI (Dig.val B32 xs) (Dig.val B32 ys) = -1 := by
            unfold cmpI; rw [if_pos (Dig.val_lt_of_digit B32_pos hcx.lt HL.out (k := k - 1) (by omega) (fun j h1 h2 => HZ.out j (by omega) h2) (by rw [← HD1.out, ← HD2.out]; exact hd))]
          have HF := Lib.hid hfin
          clear hfin
          go_wp2
          go_quiet (fail)
          go_wp2
          go_ret
          rw [HF.out]
          exact ⟨rfl, by repeat (first | exact Ext.refl _ | refine Ext.drewN ?_ _ | refine Ext.alloc ?_ _)⟩
        · subst hd
          go_wp2
          go_quiet (fail)
          go_wp2
          go_quiet (fail)
          go_wp2
          go_roundw
          case rel => exact ⟨k - 1, _, by omega, by go_num, rfl, fun j h1 h2 => by
            by_cases e : j = k - 1
            · subst e; rw [← HD1.out, ← HD2.out]
            · exact HZ.out j (by omega) h2⟩
          case measure => simp [intOf]; omega
        · have hb : decide (d1 < d2) = false := by simp; omega
          have hb' : decide (d2 < d1) = true := by simpa using hd
          have hfin : cmpI (Dig.val B32 xs) (Dig.val B32 ys) = 1 := by
            have := Dig.val_lt_of_digit B32_pos hcy.lt HL.out.symm (k := k - 1) (by have := HL.out; omega) (fun j h1 h2 => (HZ.out j (by omega) (by have := HL.out; omega)).symm) (by rw [← HD1.out, ← HD2.out]; exact hd)
            unfold cmpI; rw [if_neg (by omega), if_neg (by omega)]
          have HF := Lib.hid hfin
          clear hfin
          go_wp2
          go_quiet (fail)
          go_wp2
          go_quiet (fail)
          go_wp2
          go_ret
          rw [HF.out]
          exact ⟨rfl, by repeat (first | exact Ext.refl _ | refine Ext.drewN ?_ _ | refine Ext.alloc ?_ _)⟩
  · have hlb : ((xs.length : Int) != (ys.length : Int)) = true := by simp; omega
    have hlt : (decide (xs.length < ys.length) = true ∧ cmpI (Dig.val B32 xs) (Dig.val B32 ys) = -1) ∨ (decide (xs.length < ys.length) = false ∧ cmpI (Dig.val B32 xs) (Dig.val B32 ys) = 1) := by
      rcases Nat.lt_or_gt_of_ne hl with h | h
      · have := hcx.len_lt B32_gt hcy h
        exact .inl ⟨by simp; omega, by unfold cmpI; rw [if_pos this]⟩
      · have := hcy.len_lt B32_gt hcx h
        exact .inr ⟨by simp; omega, by unfold cmpI; rw [if_neg (by omega), if_neg (by omega)]⟩
    clear hl
    rcases hlt with ⟨hd, hv⟩ | ⟨hd, hv⟩
    all_goals
      have HV := Lib.hid hv
      clear hv
      go_enter Tryz.func40, Tryz.ntmps40
      go_wp2
      go_quiet (fail)
      go_wp2
      go_ret
      rw [HV.out]
      exact ⟨rfl, by repeat (first | exact Ext.refl _ | refine Ext.drewN ?_ _ | refine Ext.alloc ?_ _)⟩

end Go.Proofs.YtjmkcckbbgpkeaaGreatDoor


namespace Go.Proofs.YtjmkcckbbgpkeaaGreatDoor
open Go.RowKit
theorem Tryz.info167 : (Tryz.prog.info? 120).map (fun i => (i.zero, i.size, i.bytes)) = some (some (.int .u32 0), 1, 4) := by kernel_rfl

theorem add_step {B k x y cr : Nat} {xs ys ds : List Nat} (hx : k < xs.length) (hd : k < ds.length) (ex : x = xs[k]?.getD 0) (ey : y = ys[k]?.getD 0)
    (h : Dig.val B (ds.take k) + B ^ k * cr = Dig.val B (xs.take k) + Dig.val B (ys.take k)) :
    Dig.val B ((ds.set k ((x + y + cr) % B)).take (k + 1)) + B ^ (k + 1) * ((x + y + cr) / B) = Dig.val B (xs.take (k + 1)) + Dig.val B (ys.take (k + 1)) := by
  have hy : Dig.val B (ys.take (k + 1)) = Dig.val B (ys.take k) + B ^ k * y := by
    subst ey
    by_cases h : k < ys.length
    · exact Dig.val_take_succ' B ys k h
    · rw [List.take_of_length_le (by omega), List.take_of_length_le (by omega), List.getElem?_eq_none (by omega)]; simp
  rw [Dig.val_take_set B ds k _ hd, hy, Dig.val_take_succ' B xs k hx]
  have e : B ^ k * ((x + y + cr) % B) + B ^ (k + 1) * ((x + y + cr) / B) = B ^ k * (x + y + cr) := by
    rw [Nat.pow_succ, Nat.mul_assoc, ← Nat.mul_add, Nat.mod_add_div]
  simp only [List.getD]
  rw [← ex]
  have e2 : B ^ k * (x + y + cr) = B ^ k * x + B ^ k * y + B ^ k * cr := by rw [Nat.mul_add, Nat.mul_add]
  omega

set_option maxHeartbeats 2000000 in
theorem natAdd_any (A1 A2 : Option Addr) (n1 c1 n2 c2 a b : Nat) (w : World) (h1 : NatR w A1 n1 c1 a) (h2 : NatR w A2 n2 c2 b) (hn1 : n1 ≤ 1073741824) (hn2 : n2 ≤ 1073741824) :
    Calls Tryz.prog 80 #[.agg #[.slice A1 n1 c1], .agg #[.slice A2 n2 c2]] w (NatPost w (a + b)) := by
  obtain ⟨xs, rfl, hc1, hcx, rfl, hr1⟩ := h1
  obtain ⟨ys, rfl, hc2, hcy, rfl, hr2⟩ := h2
  by_cases hl : xs.length < ys.length
  · have hlb : decide (xs.length < ys.length) = true := by simpa using hl
    have hle : xs.length ≤ ys.length := by omega
    have hmk := run_make_row' (P := Tryz.prog) 34 120 (.int .u32 0) 4 Tryz.underlying34 Tryz.info167 rfl .i64 .i64 (ys.length + 1) (by omega) (by omega)
    rw [Int.natCast_add, Int.natCast_one] at hmk
    clear hl
    go_enter Tryz.func80, Tryz.ntmps80
    go_wp2
    clear hmk
    go_loopw [6, 27] (fun cy i wr => ∃ (k cr : Nat) (ds : List Nat), k ≤ ys.length ∧ i = .int .i64 k ∧ cy = .int .u32 cr ∧ cr ≤ 1 ∧ ds.length = ys.length + 1 ∧ (∀ d ∈ ds, d < B32) ∧
        Dig.val B32 (ds.take k) + B32 ^ k * cr = Dig.val B32 (ys.take k) + Dig.val B32 (xs.take k) ∧
        Row wr (w.heap.size + 3) ds ∧ Blk wr w.heap.size 36 #[.slice A2 ys.length c2] ∧ Blk wr (w.heap.size + 1) 36 #[.slice A1 xs.length c1] ∧ Blk wr (w.heap.size + 2) 36 #[.slice none 0 0] ∧ Ext w wr)
      (fun _ i _ => ys.length - (intOf i).toNat)
    case atStart =>
      refine ⟨0, 0, List.replicate (ys.length + 1) 0, Nat.zero_le _, rfl, rfl, Nat.zero_le _, by simp, fun d hd => ?_, by simp [Dig.val], Row.made _ _ (by simp), ?_, ?_, ?_, ?_⟩
      · have := List.eq_of_mem_replicate hd; subst this; exact B32_pos
      · exact ((((Blk.new w _ _).alloc _).alloc _).alloc _)
      · exact ((Blk.new' (w.alloc _) _ _ (by simp)).alloc _).alloc _
      · exact (Blk.new' ((w.alloc _).alloc _) _ _ (by simp)).alloc _
      · exact (((Ext.refl _).alloc _).alloc _).alloc _ |>.alloc _
    case round =>
      obtain ⟨k, cr, ds, hk, rfl, rfl, hcr, hdl, hdlt, hval, hrow, hba, hbb, hbr, hx⟩ := hrel
      have HV := Lib.hid hval
      have HDL := Lib.hid hdl
      clear hval hdl
      have ca := hba.cell 0
      have cb := hbb.cell 0
      simp only [List.getElem?_toArray, List.getElem?_cons_zero] at ca cb
      by_cases hkl : k < ys.length
      · obtain ⟨b1, o1, rfl, hb1, hcell1⟩ := hr2.rd.u32 (k := k) hkl
        have hk1 : wr.cell? ⟨b1, o1 + k, none⟩ = _ := (hx.cell (p := ⟨b1, o1 + k, none⟩) hb1).trans (hcell1 k hkl)
        have hkd := hrow.cell (i := k) (by have := HDL.out; omega)
        have hkf := hrow.frozen k
        have hx0 := u32s_mem_lt hcy.lt k
        rw [B32_eq] at hx0
        generalize hxe : ys[k]?.getD 0 = x at *
        generalize ds[k]?.getD 0 = dk at *
        have HX := Lib.hid hxe
        clear hxe hcell1
        have j1 : (k : Int) < (ys.length : Int) + 1 := by omega
        by_cases hky : k < xs.length
        · obtain ⟨b2, o2, rfl, hb2, hcell2⟩ := hr1.rd.u32 (k := k) hky
          have hk2 : wr.cell? ⟨b2, o2 + k, none⟩ = _ := (hx.cell (p := ⟨b2, o2 + k, none⟩) hb2).trans (hcell2 k hky)
          have hy0 := u32s_mem_lt hcx.lt k
          rw [B32_eq] at hy0
          generalize hye : xs[k]?.getD 0 = y at *
          have HY := Lib.hid hye
          clear hye hcell2
          go_wp2_with (go_at_call 107; refine (add32_any _ _ _ _ (by omega) (by omega) (by omega) (by omega) (by omega) (by omega)).mono ?_; rintro e w' ⟨rfl, rfl⟩)
          have ediv : ((x : Int) + y + cr) / 4294967296 = (((x + y + cr) / B32 : Nat) : Int) := by rw [B32_eq]; omega
          have emod : ((x : Int) + y + cr) % 4294967296 = (((x + y + cr) % B32 : Nat) : Int) := by rw [B32_eq]; omega
          go_roundw
          case rel =>
            rw [emod]
            exact ⟨k + 1, (x + y + cr) / B32, ds.set k ((x + y + cr) % B32), by omega, by go_num, by rw [ediv], by rw [B32_eq]; omega, by rw [List.length_set]; exact HDL.out, Dig.set_lt hdlt (Nat.mod_lt _ B32_pos),
              add_step hkl (by have := HDL.out; omega) HX.out.symm HY.out.symm HV.out, hrow.set_ _ _, hba.far (by first | (simp; omega) | simp) _, hbb.far (by first | (simp; omega) | simp) _, hbr.far (by first | (simp; omega) | simp) _, Below.setCell hx (by first | (simp; omega) | simp) _⟩
          case measure => simp [intOf]; omega
        · go_wp2_with (go_at_call 107; refine (add32_any _ _ _ _ (by omega) (by omega) (by omega) (by omega) (by omega) (by omega)).mono ?_; rintro e w' ⟨rfl, rfl⟩)
          have hye : 0 = xs[k]?.getD 0 := by rw [List.getElem?_eq_none (by omega)]; rfl
          have ediv : ((x : Int) + cr) / 4294967296 = (((x + 0 + cr) / B32 : Nat) : Int) := by rw [B32_eq]; omega
          have emod : ((x : Int) + cr) % 4294967296 = (((x + 0 + cr) % B32 : Nat) : Int) := by rw [B32_eq]; omega
          go_roundw
          case rel =>
            rw [emod]
            exact ⟨k + 1, (x + 0 + cr) / B32, ds.set k ((x + 0 + cr) % B32), by omega, by go_num, by rw [ediv], by rw [B32_eq]; omega, by rw [List.length_set]; exact HDL.out, Dig.set_lt hdlt (Nat.mod_lt _ B32_pos),
              add_step hkl (by have := HDL.out; omega) HX.out.symm hye HV.out, hrow.set_ _ _, hba.far (by first | (simp; omega) | simp) _, hbb.far (by first | (simp; omega) | simp) _, hbr.far (by first | (simp; omega) | simp) _, Below.setCell hx (by first | (simp; omega) | simp) _⟩
          case measure => simp [intOf]; omega
      · have hke : k = ys.length := by omega
        subst hke
        have hkd := hrow.cell (i := ys.length) (by have := HDL.out; omega)
        have hkf := hrow.frozen ys.length
        generalize ds[ys.length]?.getD 0 = dk at *
        have j1 : (ys.length : Int) < (ys.length : Int) + 1 := by omega
        go_wp2_with fail
        have hrow2 := hrow.set_ ys.length cr
        have hxw : Ext w (wr.setCell ⟨w.heap.size + 3, ys.length, none⟩ (.int .u32 cr)) := Below.setCell hx (by first | (simp; omega) | simp) _
        refine (trim_any (some ⟨w.heap.size + 3, 0, none⟩) (ys.length + 1) (ys.length + 1) (ds.set ys.length cr) _ (by rw [List.length_set]; exact HDL.out) (Nat.le_refl _) (by omega) (Dig.set_lt hdlt (by rw [B32_eq]; omega)) hrow2.rdT).mono ?_
        rintro e w1 ⟨A, n, c, rfl, hR, hx1⟩
        have hR' : NatR w1 A n c (Dig.val B32 xs + Dig.val B32 ys) := by
          have e1 := Dig.val_take_set B32 ds ys.length cr (by have := HDL.out; omega)
          rw [List.take_of_length_le (by rw [List.length_set]; have := HDL.out; omega)] at e1
          have e2 := HV.out
          rw [List.take_of_length_le (Nat.le_refl _), List.take_of_length_le hle] at e2
          have e3 : Dig.val B32 xs + Dig.val B32 ys = Dig.val B32 (ds.set ys.length cr) := by omega
          rw [e3]; exact hR
        have H := Lib.hid hR'
        have HB := Lib.hid ((hbr.far (p := ⟨w.heap.size + 3, ys.length, none⟩) (by first | (simp; omega) | simp) (.int .u32 cr)).keep hx1)
        have cr1 := HB.out.cell 0
        have fr1 := HB.out.frozen 0
        simp only [List.getElem?_toArray, List.getElem?_cons_zero] at cr1
        have HX2 := Lib.hid (hxw.tr hx1)
        clear hR hR' hx1 hxw hrow2 hrow hba hbb hbr hx ca cb hkd hkf
        go_wp2
        refine bodyPost_ret (v := .agg #[.slice A n c]) (by simp [results, Tryz.results80, go_sem, (HB.out.set_ 0 _).cell]) rfl ⟨_, _, _, rfl, H.out.set_ HB.out (by decide) _, Below.setCell HX2.out (by first | (simp; omega) | simp) _⟩
  · have hlb : decide (xs.length < ys.length) = false := by simp; omega
    have hle : ys.length ≤ xs.length := by omega
    have hmk := run_make_row' (P := Tryz.prog) 34 120 (.int .u32 0) 4 Tryz.underlying34 Tryz.info167 rfl .i64 .i64 (xs.length + 1) (by omega) (by omega)
    rw [Int.natCast_add, Int.natCast_one] at hmk
    clear hl
    go_enter Tryz.func80, Tryz.ntmps80
    go_wp2
    clear hmk
    go_loopw [6, 27] (fun cy i wr => ∃ (k cr : Nat) (ds : List Nat), k ≤ xs.length ∧ i = .int .i64 k ∧ cy = .int .u32 cr ∧ cr ≤ 1 ∧ ds.length = xs.length + 1 ∧ (∀ d ∈ ds, d < B32) ∧
        Dig.val B32 (ds.take k) + B32 ^ k * cr = Dig.val B32 (xs.take k) + Dig.val B32 (ys.take k) ∧
        Row wr (w.heap.size + 3) ds ∧ Blk wr w.heap.size 36 #[.slice A1 xs.length c1] ∧ Blk wr (w.heap.size + 1) 36 #[.slice A2 ys.length c2] ∧ Blk wr (w.heap.size + 2) 36 #[.slice none 0 0] ∧ Ext w wr)
      (fun _ i _ => xs.length - (intOf i).toNat)
    case atStart =>
      refine ⟨0, 0, List.replicate (xs.length + 1) 0, Nat.zero_le _, rfl, rfl, Nat.zero_le _, by simp, fun d hd => ?_, by simp [Dig.val], Row.made _ _ (by simp), ?_, ?_, ?_, ?_⟩
      · have := List.eq_of_mem_replicate hd; subst this; exact B32_pos
      · exact ((((Blk.new w _ _).alloc _).alloc _).alloc _)
      · exact ((Blk.new' (w.alloc _) _ _ (by simp)).alloc _).alloc _
      · exact (Blk.new' ((w.alloc _).alloc _) _ _ (by simp)).alloc _
      · exact (((Ext.refl _).alloc _).alloc _).alloc _ |>.alloc _
    case round =>
      obtain ⟨k, cr, ds, hk, rfl, rfl, hcr, hdl, hdlt, hval, hrow, hba, hbb, hbr, hx⟩ := hrel
      have HV := Lib.hid hval
      have HDL := Lib.hid hdl
      clear hval hdl
      have ca := hba.cell 0
      have cb := hbb.cell 0
      simp only [List.getElem?_toArray, List.getElem?_cons_zero] at ca cb
      by_cases hkl : k < xs.length
      · obtain ⟨b1, o1, rfl, hb1, hcell1⟩ := hr1.rd.u32 (k := k) hkl
        have hk1 : wr.cell? ⟨b1, o1 + k, none⟩ = _ := (hx.cell (p := ⟨b1, o1 + k, none⟩) hb1).trans (hcell1 k hkl)
        have hkd := hrow.cell (i := k) (by have := HDL.out; omega)
        have hkf := hrow.frozen k
        have hx0 := u32s_mem_lt hcx.lt k
        rw [B32_eq] at hx0
        generalize hxe : xs[k]?.getD 0 = x at *
        generalize ds[k]?.getD 0 = dk at *
        have HX := Lib.hid hxe
        clear hxe hcell1
        have j1 : (k : Int) < (xs.length : Int) + 1 := by omega
        by_cases hky : k < ys.length
        · obtain ⟨b2, o2, rfl, hb2, hcell2⟩ := hr2.rd.u32 (k := k) hky
          have hk2 : wr.cell? ⟨b2, o2 + k, none⟩ = _ := (hx.cell (p := ⟨b2, o2 + k, none⟩) hb2).trans (hcell2 k hky)
          have hy0 := u32s_mem_lt hcy.lt k
          rw [B32_eq] at hy0
          generalize hye : ys[k]?.getD 0 = y at *
          have HY := Lib.hid hye
          clear hye hcell2
          go_wp2_with (go_at_call 107; refine (add32_any _ _ _ _ (by omega) (by omega) (by omega) (by omega) (by omega) (by omega)).mono ?_; rintro e w' ⟨rfl, rfl⟩)
          have ediv : ((x : Int) + y + cr) / 4294967296 = (((x + y + cr) / B32 : Nat) : Int) := by rw [B32_eq]; omega
          have emod : ((x : Int) + y + cr) % 4294967296 = (((x + y + cr) % B32 : Nat) : Int) := by rw [B32_eq]; omega
          go_roundw
          case rel =>
            rw [emod]
            exact ⟨k + 1, (x + y + cr) / B32, ds.set k ((x + y + cr) % B32), by omega, by go_num, by rw [ediv], by rw [B32_eq]; omega, by rw [List.length_set]; exact HDL.out, Dig.set_lt hdlt (Nat.mod_lt _ B32_pos),
              add_step hkl (by have := HDL.out; omega) HX.out.symm HY.out.symm HV.out, hrow.set_ _ _, hba.far (by first | (simp; omega) | simp) _, hbb.far (by first | (simp; omega) | simp) _, hbr.far (by first | (simp; omega) | simp) _, Below.setCell hx (by first | (simp; omega) | simp) _⟩
          case measure => simp [intOf]; omega
        · go_wp2_with (go_at_call 107; refine (add32_any _ _ _ _ (by omega) (by omega) (by omega) (by omega) (by omega) (by omega)).mono ?_; rintro e w' ⟨rfl, rfl⟩)
          have hye : 0 = ys[k]?.getD 0 := by rw [List.getElem?_eq_none (by omega)]; rfl
          have ediv : ((x : Int) + cr) / 4294967296 = (((x + 0 + cr) / B32 : Nat) : Int) := by rw [B32_eq]; omega
          have emod : ((x : Int) + cr) % 4294967296 = (((x + 0 + cr) % B32 : Nat) : Int) := by rw [B32_eq]; omega
          go_roundw
          case rel =>
            rw [emod]
            exact ⟨k + 1, (x + 0 + cr) / B32, ds.set k ((x + 0 + cr) % B32), by omega, by go_num, by rw [ediv], by rw [B32_eq]; omega, by rw [List.length_set]; exact HDL.out, Dig.set_lt hdlt (Nat.mod_lt _ B32_pos),
              add_step hkl (by have := HDL.out; omega) HX.out.symm hye HV.out, hrow.set_ _ _, hba.far (by first | (simp; omega) | simp) _, hbb.far (by first | (simp; omega) | simp) _, hbr.far (by first | (simp; omega) | simp) _, Below.setCell hx (by first | (simp; omega) | simp) _⟩
          case measure => simp [intOf]; omega
      · have hke : k = xs.length := by omega
        subst hke
        have hkd := hrow.cell (i := xs.length) (by have := HDL.out; omega)
        have hkf := hrow.frozen xs.length
        generalize ds[xs.length]?.getD 0 = dk at *
        have j1 : (xs.length : Int) < (xs.length : Int) + 1 := by omega
        go_wp2_with fail
        have hrow2 := hrow.set_ xs.length cr
        have hxw : Ext w (wr.setCell ⟨w.heap.size + 3, xs.length, none⟩ (.int .u32 cr)) := Below.setCell hx (by first | (simp; omega) | simp) _
        refine (trim_any (some ⟨w.heap.size + 3, 0, none⟩) (xs.length + 1) (xs.length + 1) (ds.set xs.length cr) _ (by rw [List.length_set]; exact HDL.out) (Nat.le_refl _) (by omega) (Dig.set_lt hdlt (by rw [B32_eq]; omega)) hrow2.rdT).mono ?_
        rintro e w1 ⟨A, n, c, rfl, hR, hx1⟩
        have hR' : NatR w1 A n c (Dig.val B32 xs + Dig.val B32 ys) := by
          have e1 := Dig.val_take_set B32 ds xs.length cr (by have := HDL.out; omega)
          rw [List.take_of_length_le (by rw [List.length_set]; have := HDL.out; omega)] at e1
          have e2 := HV.out
          rw [List.take_of_length_le (Nat.le_refl _), List.take_of_length_le hle] at e2
          have e3 : Dig.val B32 xs + Dig.val B32 ys = Dig.val B32 (ds.set xs.length cr) := by omega
          rw [e3]; exact hR
        have H := Lib.hid hR'
        have HB := Lib.hid ((hbr.far (p := ⟨w.heap.size + 3, xs.length, none⟩) (by first | (simp; omega) | simp) (.int .u32 cr)).keep hx1)
        have cr1 := HB.out.cell 0
        have fr1 := HB.out.frozen 0
        simp only [List.getElem?_toArray, List.getElem?_cons_zero] at cr1
        have HX2 := Lib.hid (hxw.tr hx1)
        clear hR hR' hx1 hxw hrow2 hrow hba hbb hbr hx ca cb hkd hkf
        go_wp2
        refine bodyPost_ret (v := .agg #[.slice A n c]) (by simp [results, Tryz.results80, go_sem, (HB.out.set_ 0 _).cell]) rfl ⟨_, _, _, rfl, H.out.set_ HB.out (by decide) _, Below.setCell HX2.out (by first | (simp; omega) | simp) _⟩

end Go.Proofs.YtjmkcckbbgpkeaaGreatDoor


namespace Go.Proofs.YtjmkcckbbgpkeaaGreatDoor
open Go.RowKit

theorem sub_step {B k x y br d br' : Nat} {xs ys ds : List Nat} (hx : k < xs.length) (hd : k < ds.length) (ex : x = xs[k]?.getD 0) (ey : y = ys[k]?.getD 0)
    (h : Dig.val B (ds.take k) + Dig.val B (ys.take k) = Dig.val B (xs.take k) + B ^ k * br) (e : d + y + br = x + B * br') :
    Dig.val B ((ds.set k d).take (k + 1)) + Dig.val B (ys.take (k + 1)) = Dig.val B (xs.take (k + 1)) + B ^ (k + 1) * br' := by
  have hy : Dig.val B (ys.take (k + 1)) = Dig.val B (ys.take k) + B ^ k * y := by
    subst ey
    by_cases h : k < ys.length
    · exact Dig.val_take_succ' B ys k h
    · rw [List.take_of_length_le (by omega), List.take_of_length_le (by omega), List.getElem?_eq_none (by omega)]; simp
  rw [Dig.val_take_set B ds k _ hd, hy, Dig.val_take_succ' B xs k hx]
  simp only [List.getD]
  rw [← ex]
  have e2 : B ^ k * (d + y + br) = B ^ k * (x + B * br') := by rw [e]
  have e3 : B ^ (k + 1) * br' = B ^ k * (B * br') := by rw [Nat.pow_succ, Nat.mul_assoc]
  rw [Nat.mul_add, Nat.mul_add, Nat.mul_add] at e2
  omega
theorem sub_digit (x y br : Nat) (hx : x < 4294967296) (hy : y < 4294967296) (hb : br ≤ 1) :
    ∃ d br' : Nat, ((x : Int) - y - br) % 4294967296 = d ∧ - (((x : Int) - y - br) / 4294967296) = br' ∧ d + y + br = x + B32 * br' ∧ d < B32 ∧ br' ≤ 1 := by
  refine ⟨(((x : Int) - y - br) % 4294967296).toNat, (- (((x : Int) - y - br) / 4294967296)).toNat, by omega, by omega, ?_, ?_, by omega⟩
  · rw [B32_eq]; omega
  · rw [B32_eq]; omega

set_option maxHeartbeats 2000000 in
theorem natSub_any (A1 A2 : Option Addr) (n1 c1 n2 c2 a b : Nat) (w : World) (h1 : NatR w A1 n1 c1 a) (h2 : NatR w A2 n2 c2 b) (hn1 : n1 ≤ 1073741824) (hab : b ≤ a) :
    Calls Tryz.prog 81 #[.agg #[.slice A1 n1 c1], .agg #[.slice A2 n2 c2]] w fun e w' => ∃ (A : Option Addr) (n c : Nat), e = .returned (.tuple #[.agg #[.slice A n c], .int .i64 0]) ∧ NatR w' A n c (a - b) ∧ Ext w w' := by
  have H1 := Lib.hid h1
  have H2 := Lib.hid h2
  obtain ⟨xs, rfl, hc1, hcx, hvx, hr1⟩ := h1
  obtain ⟨ys, rfl, hc2, hcy, hvy, hr2⟩ := h2
  have hle : ys.length ≤ xs.length := by
    rcases Nat.lt_or_ge xs.length ys.length with h | h
    · have := hcx.len_lt B32_gt hcy h; omega
    · exact h
  have hq : 0 ≤ cmpI a b := by unfold cmpI; rw [if_neg (by omega)]; split <;> omega
  have HVX := Lib.hid hvx
  have HVY := Lib.hid hvy
  clear hvx hvy
  have hmk := run_make_row' (P := Tryz.prog) 34 120 (.int .u32 0) 4 Tryz.underlying34 Tryz.info167 rfl .i64 .i64 xs.length (by omega) (by omega)
  go_enter Tryz.func81, Tryz.ntmps81
  go_wp2_with fail
  refine (natCmp_any A1 A2 xs.length c1 ys.length c2 a b _ ((H1.out.keep ((Ext.refl _).alloc _)).keep ((Ext.refl _).alloc _) |>.keep ((Ext.refl _).alloc _)) ((H2.out.keep ((Ext.refl _).alloc _)).keep ((Ext.refl _).alloc _) |>.keep ((Ext.refl _).alloc _)) (by omega)).mono ?_
  rintro e w1 ⟨rfl, hx1⟩
  have hba := (((Blk.new w 36 #[.slice A1 xs.length c1]).alloc (.cells #[.slice A2 ys.length c2] 36)).alloc (.cells #[.slice none 0 0] 36)).keep hx1
  have hbb := ((Blk.new' (g := w.heap.size + 1) (w.alloc (.cells #[.slice A1 xs.length c1] 36)) 36 #[.slice A2 ys.length c2] (by simp)).alloc (.cells #[.slice none 0 0] 36)).keep hx1
  have hbr := (Blk.new' (g := w.heap.size + 2) ((w.alloc (.cells #[.slice A1 xs.length c1] 36)).alloc (.cells #[.slice A2 ys.length c2] 36)) 36 #[.slice none 0 0] (by simp)).keep hx1
  have hw1 : Ext w w1 := ((((Ext.refl w).alloc _).alloc _).alloc _).tr hx1
  have hz : w.heap.size + 3 ≤ w1.heap.size := by have := hx1.size; simp at this; omega
  have hz0 : w.heap.size < w1.heap.size := by omega
  have hz1 : w.heap.size + 1 < w1.heap.size := by omega
  have ca := hba.cell 0
  have cb := hbb.cell 0
  simp only [List.getElem?_toArray, List.getElem?_cons_zero] at ca cb
  have HX1 := Lib.hid hw1
  clear hx1 hw1 H1 H2
  generalize hq' : cmpI a b = q at *
  clear hq'
  go_wp2
  clear hmk hz0 hz1
  go_loopw [7, 23] (fun cy i wr => ∃ (k br : Nat) (ds : List Nat), k ≤ xs.length ∧ i = .int .i64 k ∧ cy = .int .u32 br ∧ br ≤ 1 ∧ ds.length = xs.length ∧ (∀ d ∈ ds, d < B32) ∧
      Dig.val B32 (ds.take k) + Dig.val B32 (ys.take k) = Dig.val B32 (xs.take k) + B32 ^ k * br ∧
      Row wr w1.heap.size ds ∧ Blk wr w.heap.size 36 #[.slice A1 xs.length c1] ∧ Blk wr (w.heap.size + 1) 36 #[.slice A2 ys.length c2] ∧ Blk wr (w.heap.size + 2) 36 #[.slice none 0 0] ∧ Ext w wr)
    (fun _ i _ => xs.length - (intOf i).toNat)
  case atStart =>
    refine ⟨0, 0, List.replicate xs.length 0, Nat.zero_le _, rfl, rfl, Nat.zero_le _, by simp, fun d hd => ?_, by simp [Dig.val], Row.made _ _ rfl, hba.alloc _, hbb.alloc _, hbr.alloc _, HX1.out.alloc _⟩
    have := List.eq_of_mem_replicate hd; subst this; exact B32_pos
  case round =>
    clear hba hbb hbr ca cb
    obtain ⟨k, cr, ds, hk, rfl, rfl, hcr, hdl, hdlt, hval, hrow, hba, hbb, hbr, hx⟩ := hrel
    have HV := Lib.hid hval
    have HDL := Lib.hid hdl
    clear hval hdl
    have ca := hba.cell 0
    have cb := hbb.cell 0
    simp only [List.getElem?_toArray, List.getElem?_cons_zero] at ca cb
    by_cases hkl : k < xs.length
    · obtain ⟨b1, o1, rfl, hb1, hcell1⟩ := hr1.rd.u32 (k := k) hkl
      have hk1 : wr.cell? ⟨b1, o1 + k, none⟩ = _ := (hx.cell (p := ⟨b1, o1 + k, none⟩) hb1).trans (hcell1 k hkl)
      have hkd := hrow.cell (i := k) (by have := HDL.out; omega)
      have hkf := hrow.frozen k
      have hx0 := u32s_mem_lt hcx.lt k
      rw [B32_eq] at hx0
      generalize hxe : xs[k]?.getD 0 = x at *
      generalize ds[k]?.getD 0 = dk at *
      have HX := Lib.hid hxe
      clear hxe hcell1
      by_cases hky : k < ys.length
      · obtain ⟨b2, o2, rfl, hb2, hcell2⟩ := hr2.rd.u32 (k := k) hky
        have hk2 : wr.cell? ⟨b2, o2 + k, none⟩ = _ := (hx.cell (p := ⟨b2, o2 + k, none⟩) hb2).trans (hcell2 k hky)
        have hy0 := u32s_mem_lt hcy.lt k
        rw [B32_eq] at hy0
        generalize hye : ys[k]?.getD 0 = y at *
        have HY := Lib.hid hye
        clear hye hcell2
        go_wp2_with (go_at_call 108; refine (sub32_any _ _ _ _ (by omega) (by omega) (by omega) (by omega) (by omega) (by omega)).mono ?_; rintro e w' ⟨rfl, rfl⟩)
        obtain ⟨d, br', ed, eb, est, hdB, hb'⟩ := sub_digit x y cr hx0 hy0 hcr
        go_roundw
        case rel =>
          rw [ed]
          exact ⟨k + 1, br', ds.set k d, by omega, by go_num, by rw [eb], hb', by rw [List.length_set]; exact HDL.out, Dig.set_lt hdlt hdB,
            sub_step hkl (by have := HDL.out; omega) HX.out.symm HY.out.symm HV.out est, hrow.set_ _ _, hba.far (by first | (simp; omega) | simp) _, hbb.far (by first | (simp; omega) | simp) _, hbr.far (by first | (simp; omega) | simp) _, Below.setCell hx (by first | (simp; omega) | simp) _⟩
        case measure => simp [intOf]; omega
      · go_wp2_with (go_at_call 108; refine (sub32_any _ _ _ _ (by omega) (by omega) (by omega) (by omega) (by omega) (by omega)).mono ?_; rintro e w' ⟨rfl, rfl⟩)
        have hye : 0 = ys[k]?.getD 0 := by rw [List.getElem?_eq_none (by omega)]; rfl
        obtain ⟨d, br', ed, eb, est, hdB, hb'⟩ := sub_digit x 0 cr hx0 (by omega) hcr
        simp only [Int.natCast_zero, Int.sub_zero] at ed eb
        go_roundw
        case rel =>
          rw [ed]
          exact ⟨k + 1, br', ds.set k d, by omega, by go_num, by rw [eb], hb', by rw [List.length_set]; exact HDL.out, Dig.set_lt hdlt hdB,
            sub_step hkl (by have := HDL.out; omega) HX.out.symm hye HV.out est, hrow.set_ _ _, hba.far (by first | (simp; omega) | simp) _, hbb.far (by first | (simp; omega) | simp) _, hbr.far (by first | (simp; omega) | simp) _, Below.setCell hx (by first | (simp; omega) | simp) _⟩
        case measure => simp [intOf]; omega
    · have hke : k = xs.length := by omega
      subst hke
      go_wp2_with fail
      refine (trim_any (some ⟨w1.heap.size, 0, none⟩) xs.length xs.length ds _ HDL.out (Nat.le_refl _) (by omega) hdlt hrow.rdT).mono ?_
      rintro e w2 ⟨A, n, c, rfl, hR, hx2⟩
      have hR' : NatR w2 A n c (a - b) := by
        have e2 := HV.out
        rw [List.take_of_length_le (by rw [HDL.out]; exact Nat.le_refl _), List.take_of_length_le (Nat.le_refl _), List.take_of_length_le hle, HVX.out, HVY.out] at e2
        have h3 := Dig.val_lt B32_pos hdlt
        rw [HDL.out] at h3
        have h4 : cr = 0 := by
          rcases Nat.eq_zero_or_pos cr with h | h
          · exact h
          · have : cr = 1 := by omega
            subst this; omega
        subst h4
        have : Dig.val B32 ds = a - b := by omega
        rw [← this]; exact hR
      have H := Lib.hid hR'
      have HB := Lib.hid (hbr.keep hx2)
      have cr1 := HB.out.cell 0
      have fr1 := HB.out.frozen 0
      simp only [List.getElem?_toArray, List.getElem?_cons_zero] at cr1
      have HX2 := Lib.hid (hx.tr hx2)
      clear hR hR' hx2 hrow hba hbb hbr hx ca cb
      go_wp2
      refine bodyPost_ret (v := .tuple #[.agg #[.slice A n c], .int .i64 0]) (by simp [results, Tryz.results81, go_sem, (HB.out.set_ 0 _).cell]) rfl ⟨_, _, _, rfl, H.out.set_ HB.out (by decide) _, Below.setCell HX2.out (by first | (simp; omega) | simp) _⟩

end Go.Proofs.YtjmkcckbbgpkeaaGreatDoor


namespace Go.Proofs.YtjmkcckbbgpkeaaGreatDoor
open Go.RowKit

theorem mul_step {B j x y cr V S : Nat} {ds : List Nat} (hj : j < ds.length) (h : Dig.val B ds + B ^ j * cr = V + S) :
    Dig.val B (ds.set j ((cr + (x * y + ds[j]?.getD 0)) % B)) + B ^ (j + 1) * ((cr + (x * y + ds[j]?.getD 0)) / B) = V + (S + B ^ j * (x * y)) := by
  have h1 := Dig.val_set B ds j ((cr + (x * y + ds[j]?.getD 0)) % B) hj
  generalize ds[j]?.getD 0 = d at *
  have e : B ^ j * ((cr + (x * y + d)) % B) + B ^ (j + 1) * ((cr + (x * y + d)) / B) = B ^ j * (cr + (x * y + d)) := by
    rw [Nat.pow_succ, Nat.mul_assoc, ← Nat.mul_add, Nat.mod_add_div]
  have e2 : B ^ j * (cr + (x * y + d)) = B ^ j * cr + (B ^ j * (x * y) + B ^ j * d) := by rw [Nat.mul_add, Nat.mul_add]
  omega
theorem mul_sum {B i k x y : Nat} {ys : List Nat} (hk : k < ys.length) (ey : y = ys[k]?.getD 0) :
    x * B ^ i * Dig.val B (ys.take k) + B ^ (i + k) * (x * y) = x * B ^ i * Dig.val B (ys.take (k + 1)) := by
  rw [Dig.val_take_succ' B ys k hk]
  simp only [List.getD]
  rw [← ey, Nat.mul_add, Nat.pow_add]
  simp only [Nat.mul_assoc, Nat.mul_comm, Nat.mul_left_comm]
theorem mul_outer {B i x : Nat} {xs : List Nat} (v : Nat) (hi : i < xs.length) (ex : x = xs[i]?.getD 0) :
    Dig.val B (xs.take i) * v + x * B ^ i * v = Dig.val B (xs.take (i + 1)) * v := by
  rw [Dig.val_take_succ' B xs i hi]
  simp only [List.getD]
  rw [← ex, Nat.add_mul, Nat.mul_comm x]
theorem digit_total (x y cr d : Nat) (hx : x < 4294967296) (hy : y < 4294967296) (hc : cr < 4294967296) (hd : d < 4294967296) :
    (x : Int) * y ≤ 18446744065119617025 ∧ 0 ≤ (x : Int) * y ∧ (cr + (x * y + d)) / B32 < B32 ∧ ((cr : Int) + (x * y + d)) / 4294967296 = (((cr + (x * y + d)) / B32 : Nat) : Int) ∧ ((cr : Int) + (x * y + d)) % 4294967296 = (((cr + (x * y + d)) % B32 : Nat) : Int) := by
  have h1 : x * y ≤ 4294967295 * 4294967295 := Nat.mul_le_mul (by omega) (by omega)
  have e : (x : Int) * y = ((x * y : Nat) : Int) := by rw [Int.natCast_mul]
  rw [e, B32_eq]
  refine ⟨by omega, by omega, by omega, by omega, by omega⟩

set_option maxHeartbeats 4000000 in
theorem natMul_any (A1 A2 : Option Addr) (n1 c1 n2 c2 a b : Nat) (w : World) (h1 : NatR w A1 n1 c1 a) (h2 : NatR w A2 n2 c2 b) (hn1 : n1 ≤ 1073741824) (hn2 : n2 ≤ 1073741824) :
    Calls Tryz.prog 72 #[.agg #[.slice A1 n1 c1], .agg #[.slice A2 n2 c2]] w (NatPost w (a * b)) := by
  obtain ⟨xs, rfl, hc1, hcx, hvx, hr1⟩ := h1
  obtain ⟨ys, rfl, hc2, hcy, hvy, hr2⟩ := h2
  have HVX := Lib.hid hvx
  have HVY := Lib.hid hvy
  clear hvx hvy
  by_cases z1 : xs.length = 0
  · have zb : ((xs.length : Int) == 0) = true := by simp; exact List.length_eq_zero_iff.1 z1
    have hz : a * b = 0 := by rw [← HVX.out, List.length_eq_zero_iff.1 z1]; simp [Dig.val]
    rw [hz]
    clear z1 hz
    go_enter Tryz.func72, Tryz.ntmps72
    go_wp2_with fail
    refine (isZero_any A1 xs.length c1 _).mono ?_
    rintro e w1 ⟨rfl, hx1⟩
    have hbr := (Blk.new' (g := w.heap.size + 2) ((w.alloc (.cells #[.slice A1 xs.length c1] 36)).alloc (.cells #[.slice A2 ys.length c2] 36)) 36 #[.slice none 0 0] (by simp)).keep hx1
    have HX := Lib.hid (((((Ext.refl w).alloc _).alloc _).alloc _).tr hx1)
    obtain ⟨hc, hf⟩ := bcell hx1
    go_wp2
    refine bodyPost_ret (v := .agg #[.slice none 0 0]) (by simp [results, Tryz.results72, go_sem, (hbr.set_ 0 _).cell]) rfl ⟨_, _, _, rfl, NatR.zero _ _ _, Below.setCell HX.out (by first | (simp; omega) | simp) _⟩
  have zb1 : ((xs.length : Int) == 0) = false := by simp; exact fun h => z1 (by rw [h]; rfl)
  by_cases z2 : ys.length = 0
  · have zb : ((ys.length : Int) == 0) = true := by simp; exact List.length_eq_zero_iff.1 z2
    have hz : a * b = 0 := by rw [← HVY.out, List.length_eq_zero_iff.1 z2]; simp [Dig.val]
    rw [hz]
    clear z1 z2 hz
    go_enter Tryz.func72, Tryz.ntmps72
    go_wp2_with fail
    refine (isZero_any A1 xs.length c1 _).mono ?_
    rintro e w1 ⟨rfl, hx1⟩
    have hbr := (Blk.new' (g := w.heap.size + 2) ((w.alloc (.cells #[.slice A1 xs.length c1] 36)).alloc (.cells #[.slice A2 ys.length c2] 36)) 36 #[.slice none 0 0] (by simp)).keep hx1
    have HX := Lib.hid (((((Ext.refl w).alloc _).alloc _).alloc _).tr hx1)
    obtain ⟨hc, hf⟩ := bcell hx1
    go_wp2_with fail
    refine (isZero_any A2 ys.length c2 _).mono ?_
    rintro e w2 ⟨rfl, hx2⟩
    have hbr2 := hbr.keep hx2
    have HX2 := Lib.hid (HX.out.tr hx2)
    have cr1 := hbr2.cell 0
    have fr1 := hbr2.frozen 0
    simp only [List.getElem?_toArray, List.getElem?_cons_zero] at cr1
    clear hx1 hx2 hc hf hbr
    go_wp2
    refine bodyPost_ret (v := .agg #[.slice none 0 0]) (by simp [results, Tryz.results72, go_sem, (hbr2.set_ 0 _).cell]) rfl ⟨_, _, _, rfl, NatR.zero _ _ _, Below.setCell HX2.out (by first | (simp; omega) | simp) _⟩
  have zb2 : ((ys.length : Int) == 0) = false := by simp; exact fun h => z2 (by rw [h]; rfl)
  have hmk := run_make_row' (P := Tryz.prog) 34 120 (.int .u32 0) 4 Tryz.underlying34 Tryz.info167 rfl .i64 .i64 (xs.length + ys.length) (by omega) (by omega)
  rw [Int.natCast_add] at hmk
  clear z1 z2
  go_enter Tryz.func72, Tryz.ntmps72
  go_wp2_with fail
  refine (isZero_any A1 xs.length c1 _).mono ?_
  rintro e w1 ⟨rfl, hx1⟩
  have hba := (((Blk.new w 36 #[.slice A1 xs.length c1]).alloc (.cells #[.slice A2 ys.length c2] 36)).alloc (.cells #[.slice none 0 0] 36)).keep hx1
  have hbb := ((Blk.new' (g := w.heap.size + 1) (w.alloc (.cells #[.slice A1 xs.length c1] 36)) 36 #[.slice A2 ys.length c2] (by simp)).alloc (.cells #[.slice none 0 0] 36)).keep hx1
  have hbr := (Blk.new' (g := w.heap.size + 2) ((w.alloc (.cells #[.slice A1 xs.length c1] 36)).alloc (.cells #[.slice A2 ys.length c2] 36)) 36 #[.slice none 0 0] (by simp)).keep hx1
  have HX := Lib.hid (((((Ext.refl w).alloc _).alloc _).alloc _).tr hx1)
  obtain ⟨hc, hf⟩ := bcell hx1
  go_wp2_with fail
  refine (isZero_any A2 ys.length c2 _).mono ?_
  rintro e w2 ⟨rfl, hx2⟩
  have hba2 := hba.keep hx2
  have hbb2 := hbb.keep hx2
  have hbr2 := hbr.keep hx2
  have HX2 := Lib.hid (HX.out.tr hx2)
  have hz : w.heap.size + 3 ≤ w2.heap.size := by have := hx1.size; have h' := hx2.size; simp at this; omega
  have hz0 : w.heap.size < w2.heap.size := by omega
  have hz1 : w.heap.size + 1 < w2.heap.size := by omega
  have ca := hba2.cell 0
  have cb := hbb2.cell 0
  simp only [List.getElem?_toArray, List.getElem?_cons_zero] at ca cb
  clear hx1 hx2 hc hf hbr hba hbb HX
  go_wp2
  clear hmk hz0 hz1 zb1 zb2
  go_loopw [29] (fun it wr => ∃ (i : Nat) (ds : List Nat), i ≤ xs.length ∧ it = .int .i64 i ∧ ds.length = xs.length + ys.length ∧ (∀ d ∈ ds, d < B32) ∧
      Dig.val B32 ds = Dig.val B32 (xs.take i) * Dig.val B32 ys ∧ (∀ j, i + ys.length ≤ j → ds[j]?.getD 0 = 0) ∧
      Row wr w2.heap.size ds ∧ Blk wr w.heap.size 36 #[.slice A1 xs.length c1] ∧ Blk wr (w.heap.size + 1) 36 #[.slice A2 ys.length c2] ∧ Blk wr (w.heap.size + 2) 36 #[.slice none 0 0] ∧ Ext w wr)
    (fun i _ => xs.length - (intOf i).toNat)
  case atStart =>
    refine ⟨0, List.replicate (xs.length + ys.length) 0, Nat.zero_le _, rfl, by simp, fun d hd => ?_, by simp [Dig.val, Dig.val_replicate], fun j _ => ?_, Row.made _ _ rfl, hba2.alloc _, hbb2.alloc _, hbr2.alloc _, HX2.out.alloc _⟩
    · have := List.eq_of_mem_replicate hd; subst this; exact B32_pos
    · rw [List.getElem?_replicate]; split <;> rfl
  case round =>
    clear hba2 hbb2 hbr2 ca cb HX2
    obtain ⟨wo, rfl⟩ : ∃ wo : World, wo = wr := ⟨_, rfl⟩
    obtain ⟨i, ds, hi, rfl, hdl, hdlt, hval, hzero, hrow, hba, hbb, hbr, hx⟩ := hrel
    have HV := Lib.hid hval
    have HDL := Lib.hid hdl
    have HZ := Lib.hid hzero
    clear hval hdl hzero
    have ca := hba.cell 0
    have cb := hbb.cell 0
    simp only [List.getElem?_toArray, List.getElem?_cons_zero] at ca cb
    by_cases hil : i < xs.length
    · obtain ⟨b1, o1, rfl, hb1, hcell1⟩ := hr1.rd.u32 (k := i) hil
      have hk1 : wo.cell? ⟨b1, o1 + i, none⟩ = _ := (hx.cell (p := ⟨b1, o1 + i, none⟩) hb1).trans (hcell1 i hil)
      have hx0 := u32s_mem_lt hcx.lt i
      rw [B32_eq] at hx0
      generalize hxe : xs[i]?.getD 0 = x at *
      have HX := Lib.hid hxe
      clear hxe hcell1
      go_wp2
      go_loopw [8, 37] (fun cy kt wr => ∃ (k cr : Nat) (es : List Nat), k ≤ ys.length ∧ kt = .int .i64 k ∧ cy = .int .u64 cr ∧ cr < B32 ∧ es.length = xs.length + ys.length ∧ (∀ d ∈ es, d < B32) ∧
          Dig.val B32 es + B32 ^ (i + k) * cr = Dig.val B32 ds + x * B32 ^ i * Dig.val B32 (ys.take k) ∧ (∀ j, i + ys.length ≤ j → es[j]?.getD 0 = 0) ∧
          Row wr w2.heap.size es ∧ Blk wr w.heap.size 36 #[.slice (some ⟨b1, o1, none⟩) xs.length c1] ∧ Blk wr (w.heap.size + 1) 36 #[.slice A2 ys.length c2] ∧ Blk wr (w.heap.size + 2) 36 #[.slice none 0 0] ∧ Ext w wr)
        (fun _ k _ => ys.length - (intOf k).toNat)
      case atStart => exact ⟨0, 0, ds, Nat.zero_le _, rfl, rfl, B32_pos, HDL.out, hdlt, by simp [Dig.val], HZ.out, hrow, hba, hbb, hbr, hx⟩
      case round =>
        clear hk1 hrow hba hbb hbr hx ca cb
        obtain ⟨k, cr, es, hk, rfl, rfl, hcr, hel, helt, heval, hezero, hrow, hba, hbb, hbr, hx⟩ := hrel
        have HEV := Lib.hid heval
        have HEL := Lib.hid hel
        have HEZ := Lib.hid hezero
        clear heval hel hezero
        have ca := hba.cell 0
        have cb := hbb.cell 0
        simp only [List.getElem?_toArray, List.getElem?_cons_zero] at ca cb
        rw [B32_eq] at hcr
        by_cases hkl : k < ys.length
        · obtain ⟨b2, o2, rfl, hb2, hcell2⟩ := hr2.rd.u32 (k := k) hkl
          have hk2 : wr.cell? ⟨b2, o2 + k, none⟩ = _ := (hx.cell (p := ⟨b2, o2 + k, none⟩) hb2).trans (hcell2 k hkl)
          have hy0 := u32s_mem_lt hcy.lt k
          rw [B32_eq] at hy0
          generalize hye : ys[k]?.getD 0 = y at *
          have HY := Lib.hid hye
          clear hye hcell2
          have hkd := hrow.cell (i := i + k) (by have := HEL.out; omega)
          have hkf := hrow.frozen (i + k)
          have hd0 := u32s_mem_lt helt (i + k)
          rw [B32_eq] at hd0
          generalize hde : es[i + k]?.getD 0 = d at *
          have HD := Lib.hid hde
          clear hde
          obtain ⟨t1, t2, t3, t4, t5⟩ := digit_total x y cr d hx0 hy0 hcr hd0
          have T3 := Lib.hid t3
          have T4 := Lib.hid t4
          have T5 := Lib.hid t5
          clear t3 t4 t5
          have j1 : (i : Int) + k < (xs.length : Int) + ys.length := by omega
          have j2 : ((i : Int) + k).toNat = i + k := by omega
          go_wp2
          go_roundw
          case rel =>
            rw [T5.out]
            have hs := mul_step (B := B32) (x := x) (y := y) (by have := HEL.out; omega : i + k < es.length) HEV.out
            rw [HD.out, Nat.add_assoc i k 1] at hs
            refine ⟨k + 1, (cr + (x * y + d)) / B32, es.set (i + k) ((cr + (x * y + d)) % B32), by omega, by go_num, by rw [T4.out], T3.out, by rw [List.length_set]; exact HEL.out, Dig.set_lt helt (Nat.mod_lt _ B32_pos), ?_, ?_, hrow.set_ _ _, hba.far (by first | (simp; omega) | simp) _, hbb.far (by first | (simp; omega) | simp) _, hbr.far (by first | (simp; omega) | simp) _, Below.setCell hx (by first | (simp; omega) | simp) _⟩
            · rw [← mul_sum hkl HY.out.symm]; exact hs
            · intro j hj
              rw [List.getElem?_set, if_neg (by omega)]
              exact HEZ.out j hj
          case measure => simp [intOf]; omega
        · have hke : k = ys.length := by omega
          subst hke
          have hkd := hrow.cell (i := i + ys.length) (by have := HEL.out; omega)
          have hkf := hrow.frozen (i + ys.length)
          have j1 : (i : Int) + ys.length < (xs.length : Int) + ys.length := by omega
          have j2 : ((i : Int) + ys.length).toNat = i + ys.length := by omega
          generalize hde : es[i + ys.length]?.getD 0 = d at *
          have HD := Lib.hid hde
          clear hde
          go_wp2
          go_roundw
          case rel =>
            refine ⟨i + 1, es.set (i + ys.length) cr, by omega, by go_num, by rw [List.length_set]; exact HEL.out, Dig.set_lt helt (by rw [B32_eq]; exact hcr), ?_, ?_, hrow.set_ _ _, hba.far (by first | (simp; omega) | simp) _, hbb.far (by first | (simp; omega) | simp) _, hbr.far (by first | (simp; omega) | simp) _, Below.setCell hx (by first | (simp; omega) | simp) _⟩
            · have e1 := Dig.val_set B32 es (i + ys.length) cr (by have := HEL.out; omega)
              rw [HEZ.out _ (Nat.le_refl _), Nat.mul_zero, Nat.add_zero] at e1
              have e2 := HEV.out
              rw [List.take_of_length_le (Nat.le_refl _), HV.out, mul_outer _ hil HX.out.symm] at e2
              omega
            · intro j hj
              rw [List.getElem?_set, if_neg (by omega)]
              exact HEZ.out j (by omega)
          case measure => simp [intOf]; omega
    · have hie : i = xs.length := by omega
      subst hie
      go_wp2_with fail
      refine (trim_any (some ⟨w2.heap.size, 0, none⟩) (xs.length + ys.length) (xs.length + ys.length) ds _ HDL.out (Nat.le_refl _) (by omega) hdlt hrow.rdT).mono ?_
      rintro e w3 ⟨A, n, c, rfl, hR, hx3⟩
      have hR' : NatR w3 A n c (a * b) := by
        have e2 := HV.out
        rw [List.take_of_length_le (Nat.le_refl _), HVX.out, HVY.out] at e2
        rw [← e2]; exact hR
      have H := Lib.hid hR'
      have HB := Lib.hid (hbr.keep hx3)
      have cr1 := HB.out.cell 0
      have fr1 := HB.out.frozen 0
      simp only [List.getElem?_toArray, List.getElem?_cons_zero] at cr1
      have HX2 := Lib.hid (hx.tr hx3)
      clear hR hR' hx3 hrow hba hbb hbr hx ca cb
      go_wp2
      refine bodyPost_ret (v := .agg #[.slice A n c]) (by simp [results, Tryz.results72, go_sem, (HB.out.set_ 0 _).cell]) rfl ⟨_, _, _, rfl, H.out.set_ HB.out (by decide) _, Below.setCell HX2.out (by first | (simp; omega) | simp) _⟩

end Go.Proofs.YtjmkcckbbgpkeaaGreatDoor


namespace Go.Proofs.YtjmkcckbbgpkeaaGreatDoor
open Go.RowKit

theorem small_step {B k x b q r rest : Nat} {xs ds : List Nat} (hx : k < xs.length) (hd : k < ds.length) (ex : x = xs[k]?.getD 0)
    (h : Dig.val B (xs.drop (k + 1)) = Dig.val B (ds.drop (k + 1)) * b + rest) (e : rest * B + x = q * b + r) :
    Dig.val B (xs.drop k) = Dig.val B ((ds.set k q).drop k) * b + r := by
  rw [Dig.drop_set_self ds k q hd, Dig.val_cons, Dig.val_drop' B xs k hx, h]
  simp only [List.getD]
  rw [← ex, Nat.add_mul, Nat.mul_add, ← Nat.mul_assoc]
  have : B * rest = rest * B := Nat.mul_comm _ _
  omega
theorem small_digit (rest x b : Nat) (hr : rest < b) (hx : x < 4294967296) (hb : b < 4294967296) :
    ∃ q r : Nat, ((rest : Int) * 4294967296 + x) / b = q ∧ ((rest : Int) * 4294967296 + x) % b = r ∧ rest * B32 + x = q * b + r ∧ q < B32 ∧ r < b := by
  refine ⟨(rest * 4294967296 + x) / b, (rest * 4294967296 + x) % b, by simp, by simp, ?_, ?_, Nat.mod_lt _ (by omega)⟩
  · rw [B32_eq, Nat.mul_comm _ b, Nat.div_add_mod]
  · rw [B32_eq]
    exact (Nat.div_lt_iff_lt_mul (by omega)).2 (by omega)

set_option maxHeartbeats 2000000 in
theorem divideSmall_any (A1 : Option Addr) (n1 c1 a b : Nat) (w : World) (h1 : NatR w A1 n1 c1 a) (hn1 : n1 ≤ 1073741824) (hb0 : 0 < b) (hbB : b < 4294967296) :
    Calls Tryz.prog 73 #[.agg #[.slice A1 n1 c1], .int .u32 (b : Int)] w fun e w' => ∃ (A : Option Addr) (n c : Nat), e = .returned (.tuple #[.agg #[.slice A n c], .int .u32 ((a % b : Nat) : Int)]) ∧ NatR w' A n c (a / b) ∧ Ext w w' := by
  obtain ⟨xs, rfl, hc1, hcx, hvx, hr1⟩ := h1
  have HVX := Lib.hid hvx
  clear hvx
  have hmk := run_make_row' (P := Tryz.prog) 34 120 (.int .u32 0) 4 Tryz.underlying34 Tryz.info167 rfl .i64 .i64 xs.length (by omega) (by omega)
  go_enter Tryz.func73, Tryz.ntmps73
  go_wp2
  clear hmk
  go_loopw [7, 8] (fun cy it wr => ∃ (k rest : Nat) (ds : List Nat), k ≤ xs.length ∧ it = .int .i64 (k - 1) ∧ cy = .int .u32 rest ∧ rest < b ∧ ds.length = xs.length ∧ (∀ d ∈ ds, d < B32) ∧
      Dig.val B32 (xs.drop k) = Dig.val B32 (ds.drop k) * b + rest ∧
      Row wr (w.heap.size + 2) ds ∧ Blk wr w.heap.size 36 #[.slice A1 xs.length c1] ∧ Blk wr (w.heap.size + 1) 36 #[.slice none 0 0] ∧ Ext w wr)
    (fun _ i _ => (intOf i + 1).toNat)
  case atStart =>
    refine ⟨xs.length, 0, List.replicate xs.length 0, Nat.le_refl _, rfl, rfl, hb0, by simp, fun d hd => ?_, ?_, Row.made _ _ (by simp), ((Blk.new w _ _).alloc _).alloc _, (Blk.new' (w.alloc _) _ _ (by simp)).alloc _, (((Ext.refl _).alloc _).alloc _).alloc _⟩
    · have := List.eq_of_mem_replicate hd; subst this; exact B32_pos
    · rw [List.drop_of_length_le (Nat.le_refl _), List.drop_of_length_le (by simp)]; simp [Dig.val]
  case round =>
    obtain ⟨k, cr, ds, hk, rfl, rfl, hcr, hdl, hdlt, hval, hrow, hba, hbr, hx⟩ := hrel
    have HV := Lib.hid hval
    have HDL := Lib.hid hdl
    clear hval hdl
    have ca := hba.cell 0
    simp only [List.getElem?_toArray, List.getElem?_cons_zero] at ca
    by_cases hk0 : 0 < k
    · obtain ⟨b1, o1, rfl, hb1, hcell1⟩ := hr1.rd.u32 (k := k - 1) (by omega)
      have hk1 : wr.cell? ⟨b1, o1 + (k - 1), none⟩ = _ := (hx.cell (p := ⟨b1, o1 + (k - 1), none⟩) hb1).trans (hcell1 (k - 1) (by omega))
      have hkd := hrow.cell (i := k - 1) (by have := HDL.out; omega)
      have hkf := hrow.frozen (k - 1)
      have hx0 := u32s_mem_lt hcx.lt (k - 1)
      rw [B32_eq] at hx0
      generalize hxe : xs[k - 1]?.getD 0 = x at *
      generalize ds[k - 1]?.getD 0 = dk at *
      have HX := Lib.hid hxe
      clear hxe hcell1
      go_wp2_with (go_at_call 100; refine (div32_any _ _ _ _ (by omega) (by omega) (by omega) (by omega) (by omega) (by omega)).mono ?_; rintro e w' ⟨rfl, m, rfl⟩)
      obtain ⟨q, r, eq, er, est, hqB, hrb⟩ := small_digit cr x b hcr hx0 hbB
      go_roundw
      case rel =>
        rw [eq]
        exact ⟨k - 1, r, ds.set (k - 1) q, by omega, by go_num, by rw [er], hrb, by rw [List.length_set]; exact HDL.out, Dig.set_lt hdlt hqB,
          small_step (by omega) (by have := HDL.out; omega) HX.out.symm (by rw [Nat.sub_add_cancel hk0]; exact HV.out) est, (hrow.drewN _).set_ _ _, (hba.drewN _).far (by first | (simp; omega) | simp) _, (hbr.drewN _).far (by first | (simp; omega) | simp) _, Below.setCell (hx.drewN _) (by first | (simp; omega) | simp) _⟩
      case measure => simp [intOf]; omega
    · have hke : k = 0 := by omega
      subst hke
      go_wp2_with fail
      refine (trim_any (some ⟨w.heap.size + 2, 0, none⟩) xs.length xs.length ds _ HDL.out (Nat.le_refl _) (by omega) hdlt hrow.rdT).mono ?_
      rintro e w2 ⟨A, n, c, rfl, hR, hx2⟩
      have e2 := HV.out
      simp only [List.drop_zero] at e2
      rw [HVX.out] at e2
      have ed : Dig.val B32 ds = a / b := by
        rw [e2, Nat.mul_comm, Nat.mul_add_div hb0, Nat.div_eq_of_lt hcr, Nat.add_zero]
      have em : cr = a % b := by
        rw [e2, Nat.mul_comm, Nat.mul_add_mod, Nat.mod_eq_of_lt hcr]
      have hR' : NatR w2 A n c (a / b) := by rw [← ed]; exact hR
      have H := Lib.hid hR'
      have HM := Lib.hid em
      have HB := Lib.hid (hbr.keep hx2)
      have cr1 := HB.out.cell 0
      have fr1 := HB.out.frozen 0
      simp only [List.getElem?_toArray, List.getElem?_cons_zero] at cr1
      have HX2 := Lib.hid (hx.tr hx2)
      clear hR hR' hx2 hrow hba hbr hx ca e2 ed em
      go_wp2
      refine bodyPost_ret (v := .tuple #[.agg #[.slice A n c], .int .u32 (cr : Int)]) (by simp [results, Tryz.results73, go_sem, (HB.out.set_ 0 _).cell]) rfl ⟨_, _, _, by rw [← HM.out], H.out.set_ HB.out (by decide) _, Below.setCell HX2.out (by first | (simp; omega) | simp) _⟩

end Go.Proofs.YtjmkcckbbgpkeaaGreatDoor


namespace Go.Proofs.YtjmkcckbbgpkeaaGreatDoor
open Go.RowKit
section
variable {w w' : World} {g : Nat} {t : TypeId}
theorem Blk.one {v : Value} (h : Blk w g t #[v]) : w.cell? ⟨g, 0, none⟩ = some v ∧ w.frozen? ⟨g, 0, none⟩ = false := ⟨h.cell 0, h.frozen 0⟩
theorem Blk.three {a b c : Value} (h : Blk w g t #[a, b, c]) : (w.cell? ⟨g, 0, none⟩ = some a ∧ w.cell? ⟨g, 1, none⟩ = some b ∧ w.cell? ⟨g, 2, none⟩ = some c) ∧
    w.frozen? ⟨g, 0, none⟩ = false ∧ w.frozen? ⟨g, 1, none⟩ = false ∧ w.frozen? ⟨g, 2, none⟩ = false := ⟨⟨h.cell 0, h.cell 1, h.cell 2⟩, h.frozen 0, h.frozen 1, h.frozen 2⟩
end
theorem boxes1 (w : World) (c0 : Array Value) (t0 : TypeId) : Blk (w.alloc (.cells c0 t0)) w.heap.size t0 c0 ∧ Ext w (w.alloc (.cells c0 t0)) := ⟨Blk.new w _ _, (Ext.refl w).alloc _⟩
theorem boxes2 (w : World) (c0 : Array Value) (t0 : TypeId) (c1 : Array Value) (t1 : TypeId) :
    Blk ((w.alloc (.cells c0 t0)).alloc (.cells c1 t1)) w.heap.size t0 c0 ∧ Blk ((w.alloc (.cells c0 t0)).alloc (.cells c1 t1)) (w.heap.size + 1) t1 c1 ∧ Ext w ((w.alloc (.cells c0 t0)).alloc (.cells c1 t1)) :=
  ⟨(Blk.new w _ _).alloc _, Blk.new' _ _ _ (by simp), ((Ext.refl w).alloc _).alloc _⟩
theorem boxes3 (w : World) (c0 : Array Value) (t0 : TypeId) (c1 : Array Value) (t1 : TypeId) (c2 : Array Value) (t2 : TypeId) :
    Blk (((w.alloc (.cells c0 t0)).alloc (.cells c1 t1)).alloc (.cells c2 t2)) w.heap.size t0 c0 ∧ Blk (((w.alloc (.cells c0 t0)).alloc (.cells c1 t1)).alloc (.cells c2 t2)) (w.heap.size + 1) t1 c1 ∧
    Blk (((w.alloc (.cells c0 t0)).alloc (.cells c1 t1)).alloc (.cells c2 t2)) (w.heap.size + 1 + 1) t2 c2 ∧ Ext w (((w.alloc (.cells c0 t0)).alloc (.cells c1 t1)).alloc (.cells c2 t2)) :=
  ⟨((Blk.new w _ _).alloc _).alloc _, (Blk.new' _ _ _ (by simp)).alloc _, Blk.new' _ _ _ (by simp), (((Ext.refl w).alloc _).alloc _).alloc _⟩
theorem boxes4 (w : World) (c0 : Array Value) (t0 : TypeId) (c1 : Array Value) (t1 : TypeId) (c2 : Array Value) (t2 : TypeId) (c3 : Array Value) (t3 : TypeId) :
    Blk ((((w.alloc (.cells c0 t0)).alloc (.cells c1 t1)).alloc (.cells c2 t2)).alloc (.cells c3 t3)) w.heap.size t0 c0 ∧ Blk ((((w.alloc (.cells c0 t0)).alloc (.cells c1 t1)).alloc (.cells c2 t2)).alloc (.cells c3 t3)) (w.heap.size + 1) t1 c1 ∧
    Blk ((((w.alloc (.cells c0 t0)).alloc (.cells c1 t1)).alloc (.cells c2 t2)).alloc (.cells c3 t3)) (w.heap.size + 1 + 1) t2 c2 ∧ Blk ((((w.alloc (.cells c0 t0)).alloc (.cells c1 t1)).alloc (.cells c2 t2)).alloc (.cells c3 t3)) (w.heap.size + 1 + 1 + 1) t3 c3 ∧
    Ext w ((((w.alloc (.cells c0 t0)).alloc (.cells c1 t1)).alloc (.cells c2 t2)).alloc (.cells c3 t3)) :=
  ⟨(((Blk.new w _ _).alloc _).alloc _).alloc _, ((Blk.new' _ _ _ (by simp)).alloc _).alloc _, (Blk.new' _ _ _ (by simp)).alloc _, Blk.new' _ _ _ (by simp), ((((Ext.refl w).alloc _).alloc _).alloc _).alloc _⟩
/-- A store into a block of the call's own. -/
theorem Ext.set_ {a w : World} (h : Ext a w) {p : Addr} (hp : a.heap.size ≤ p.block) (u : Value) : Ext a (w.setCell p u) := Below.setCell h hp u
end Go.Proofs.YtjmkcckbbgpkeaaGreatDoor


namespace Go.Proofs.YtjmkcckbbgpkeaaGreatDoor
open Go.RowKit

/-- What DivMod returns. -/
def DivPost (w : World) (q r : Nat) (e : Ending) (w' : World) : Prop :=
  ∃ (A : Option Addr) (n c : Nat) (A' : Option Addr) (n' c' : Nat), e = .returned (.tuple #[.agg #[.slice A n c], .agg #[.slice A' n' c'], .int .i64 0]) ∧ NatR w' A n c q ∧ NatR w' A' n' c' r ∧ Ext w w'

set_option maxHeartbeats 2000000 in
theorem divMod_less (A1 A2 : Option Addr) (n1 c1 n2 c2 a b : Nat) (w : World) (h1 : NatR w A1 n1 c1 a) (h2 : NatR w A2 n2 c2 b) (hn1 : n1 ≤ 1073741824) (hab : a < b) :
    Calls Tryz.prog 84 #[.agg #[.slice A1 n1 c1], .agg #[.slice A2 n2 c2]] w (DivPost w 0 a) := by
  have H1 := Lib.hid h1
  have H2 := Lib.hid h2
  have z2 : ((n2 : Int) == 0) = false := by
    have := h2.eq_zero
    exact beq_eq_false_iff_ne.2 (by omega)
  have hq : cmpI a b = -1 := by unfold cmpI; rw [if_pos hab]
  have HQ := Lib.hid hq
  clear h1 h2 hq
  go_enter Tryz.func84, Tryz.ntmps84
  go_wp2_with fail
  refine (isZero_any A2 n2 c2 _).mono ?_
  rintro e w1 ⟨rfl, hx1⟩
  obtain ⟨hba, hbb, hbr, hbs, e0⟩ := boxes4 w #[.slice A1 n1 c1] 36 #[.slice A2 n2 c2] 36 #[.slice none 0 0] 36 #[.slice none 0 0] 36
  have HX := Lib.hid (e0.tr hx1)
  have hba := hba.keep hx1
  have hbb := hbb.keep hx1
  have hbr := hbr.keep hx1
  have hbs := hbs.keep hx1
  have ca := hba.one.1
  have cb := hbb.one.1
  clear e0 hx1
  go_wp2_with fail
  refine (natCmp_any A1 A2 n1 c1 n2 c2 a b _ (H1.out.keep HX.out) (H2.out.keep HX.out) (by omega)).mono ?_
  rintro e w2 ⟨rfl, hx2⟩
  rw [HQ.out]
  have hba := hba.keep hx2
  have hbr := hbr.keep hx2
  have hbs := hbs.keep hx2
  have HX2 := Lib.hid (HX.out.tr hx2)
  obtain ⟨d1, _⟩ := hba.one
  obtain ⟨d2, f2⟩ := hbr.one
  obtain ⟨d3, f3⟩ := hbs.one
  clear hx2 ca cb hbb
  go_wp2
  go_region
  go_wp2
  have hb1 := (hbr.set_ 0 (.slice none 0 0)).far (p := ⟨w.heap.size + 1 + 1 + 1, 0, none⟩) (by first | (simp; omega) | simp) (.slice A1 n1 c1)
  have hb2 := (hbs.far (p := ⟨w.heap.size + 1 + 1, 0, none⟩) (by first | (simp; omega) | simp) (.slice none 0 0))
  refine bodyPost_ret (v := .tuple #[.agg #[.slice none 0 0], .agg #[.slice A1 n1 c1], .int .i64 0]) (by simp [results, Tryz.results84, go_sem, hb1.cell, (hb2.set_ 0 _).cell]) rfl
    ⟨_, _, _, _, _, _, rfl, NatR.zero _ _ _, ?_, ?_⟩
  · exact ((H1.out.keep HX2.out).set_ (p := ⟨w.heap.size + 1 + 1, 0, none⟩) hbr (by decide) _).set_ (p := ⟨w.heap.size + 1 + 1 + 1, 0, none⟩) hb2 (by decide) _
  · exact ((HX2.out.set_ (by first | (simp; omega) | simp) _).set_ (by first | (simp; omega) | simp) _).drewN 1

set_option maxHeartbeats 2000000 in
theorem divMod_small (A1 A2 : Option Addr) (n1 c1 n2 c2 a b : Nat) (w : World) (h1 : NatR w A1 n1 c1 a) (h2 : NatR w A2 n2 c2 b) (hn1 : n1 ≤ 1073741824) (hb0 : 0 < b) (hab : b ≤ a) (ha : a < 18446744073709551616) :
    Calls Tryz.prog 84 #[.agg #[.slice A1 n1 c1], .agg #[.slice A2 n2 c2]] w (DivPost w (a / b) (a % b)) := by
  have H1 := Lib.hid h1
  have H2 := Lib.hid h2
  have z2 : ((n2 : Int) == 0) = false := by
    have := h2.eq_zero
    exact beq_eq_false_iff_ne.2 (by omega)
  have hq : 0 ≤ cmpI a b := by unfold cmpI; rw [if_neg (by omega)]; split <;> omega
  clear h1 h2
  go_enter Tryz.func84, Tryz.ntmps84
  go_wp2_with fail
  refine (isZero_any A2 n2 c2 _).mono ?_
  rintro e w1 ⟨rfl, hx1⟩
  obtain ⟨hba, hbb, hbr, hbs, e0⟩ := boxes4 w #[.slice A1 n1 c1] 36 #[.slice A2 n2 c2] 36 #[.slice none 0 0] 36 #[.slice none 0 0] 36
  have HX := Lib.hid (e0.tr hx1)
  have hba := hba.keep hx1
  have hbb := hbb.keep hx1
  have hbr := hbr.keep hx1
  have hbs := hbs.keep hx1
  have ca := hba.one.1
  have cb := hbb.one.1
  clear e0 hx1
  go_wp2_with fail
  refine (natCmp_any A1 A2 n1 c1 n2 c2 a b _ (H1.out.keep HX.out) (H2.out.keep HX.out) (by omega)).mono ?_
  rintro e w2 ⟨rfl, hx2⟩
  generalize cmpI a b = q at *
  have hba := hba.keep hx2
  have hbb := hbb.keep hx2
  have hbr := hbr.keep hx2
  have hbs := hbs.keep hx2
  have HX2 := Lib.hid (HX.out.tr hx2)
  have ca := hba.one.1
  have cb := hbb.one.1
  clear hx2 HX
  go_wp2_with fail
  refine (natUint64_small A1 n1 c1 a _ (H1.out.keep HX2.out) ha).mono ?_
  rintro e w3 ⟨rfl, hx3⟩
  have hbb := hbb.keep hx3
  have hbr := hbr.keep hx3
  have hbs := hbs.keep hx3
  have HX3 := Lib.hid (HX2.out.tr hx3)
  have cb := hbb.one.1
  clear hx3 HX2 hba ca
  go_wp2_with fail
  refine (natUint64_small A2 n2 c2 b _ (H2.out.keep HX3.out) (by omega)).mono ?_
  rintro e w4 ⟨rfl, hx4⟩
  have hbr := hbr.keep hx4
  have hbs := hbs.keep hx4
  have HX4 := Lib.hid (HX3.out.tr hx4)
  obtain ⟨d2, f2⟩ := hbr.one
  obtain ⟨d3, f3⟩ := hbs.one
  obtain ⟨Q, hQ⟩ : ∃ Q, Q = a / b := ⟨_, rfl⟩
  obtain ⟨R, hR0⟩ : ∃ R, R = a % b := ⟨_, rfl⟩
  have hdv : (a : Int).tdiv b = (Q : Int) := by rw [Int.tdiv_eq_ediv_of_nonneg (by omega), hQ]; simp
  have hmd : (a : Int).tmod b = (R : Int) := by rw [Int.tmod_eq_emod_of_nonneg (by omega), hR0]; simp
  have hd1 : Q ≤ a := by rw [hQ]; exact Nat.div_le_self _ _
  have hm1 : R < b := by rw [hR0]; exact Nat.mod_lt _ hb0
  have hbn : ¬ b = 0 := by omega
  have hwr : IntKind.u64.wrap (Q : Int) = (Q : Int) := by rw [IntKind.wrap_u64]; exact Int.emod_eq_of_lt (by omega) (by omega)
  have HQ := Lib.hid hQ
  have HR := Lib.hid hR0
  clear hx4 HX3 hbb cb hQ hR0
  go_wp2
  have hbr : Blk w4.drew _ _ _ := hbr
  have hbs : Blk w4.drew _ _ _ := hbs
  have HX4 : Hid (Ext w w4.drew) := HX4.out.drewN 1
  have tok : True := trivial
  go_region_held3 (fun _ => True) (trivial) (first
    | (go_at_call 45; have _t := tok; refine (natOf_any _ _ (by omega) (by omega)).mono ?_; rintro e w5 ⟨A5, n5, c5, rfl, hR5, hx5⟩; clear tok; have hbr := hbr.keep hx5; have hbs := hbs.keep hx5; have HX5 := Lib.hid (HX4.out.tr hx5); obtain ⟨d2, f2⟩ := hbr.one; obtain ⟨d3, f3⟩ := hbs.one)
    | (go_at_call 45; refine (natOf_any _ _ (by omega) (by omega)).mono ?_; rintro e w6 ⟨A6, n6, c6, rfl, hR6, hx6⟩; have hbr := hbr.keep hx6; have hbs := hbs.keep hx6; have HX6 := Lib.hid (HX5.out.tr hx6); obtain ⟨d2, f2⟩ := hbr.one; obtain ⟨d3, f3⟩ := hbs.one))
  go_wp2
  have e1 : NatR w6 A5 n5 c5 (a / b) := by have := hR5.keep hx6; rw [← HQ.out]; exact this
  have e2 : NatR w6 A6 n6 c6 (a % b) := by rw [← HR.out]; exact hR6
  have hb1 := (hbr.set_ 0 (.slice A5 n5 c5)).far (p := ⟨w.heap.size + 1 + 1 + 1, 0, none⟩) (by first | (simp; omega) | simp) (.slice A6 n6 c6)
  have hb2 := (hbs.far (p := ⟨w.heap.size + 1 + 1, 0, none⟩) (by first | (simp; omega) | simp) (.slice A5 n5 c5))
  refine bodyPost_ret (v := .tuple #[.agg #[.slice A5 n5 c5], .agg #[.slice A6 n6 c6], .int .i64 0]) (by simp [results, Tryz.results84, go_sem, hb1.cell, (hb2.set_ 0 _).cell]) rfl
    ⟨_, _, _, _, _, _, rfl, ?_, ?_, ?_⟩
  · exact (e1.set_ (p := ⟨w.heap.size + 1 + 1, 0, none⟩) hbr (by decide) _).set_ (p := ⟨w.heap.size + 1 + 1 + 1, 0, none⟩) hb2 (by decide) _
  · exact (e2.set_ (p := ⟨w.heap.size + 1 + 1, 0, none⟩) hbr (by decide) _).set_ (p := ⟨w.heap.size + 1 + 1 + 1, 0, none⟩) hb2 (by decide) _
  · exact ((HX6.out.set_ (by first | (simp; omega) | simp) _).set_ (by first | (simp; omega) | simp) _)

end Go.Proofs.YtjmkcckbbgpkeaaGreatDoor


namespace Go.Proofs.YtjmkcckbbgpkeaaGreatDoor
open Go.RowKit

/-- DivMod is right at x and y. -/
def DivModAt (x y : Nat) : Prop := ∀ (A1 A2 : Option Addr) (n1 c1 n2 c2 : Nat) (w : World), NatR w A1 n1 c1 x → NatR w A2 n2 c2 y → n1 ≤ 1073741824 → n2 ≤ 1073741824 →
  Calls Tryz.prog 84 #[.agg #[.slice A1 n1 c1], .agg #[.slice A2 n2 c2]] w (DivPost w (x / y) (x % y))
theorem divModAt_small {x y : Nat} (hy : 0 < y) (hx : x < 18446744073709551616) : DivModAt x y := fun A1 A2 n1 c1 n2 c2 w h1 h2 hn1 _ => by
  rcases Nat.lt_or_ge x y with h | h
  · rw [Nat.div_eq_of_lt h, Nat.mod_eq_of_lt h]; exact divMod_less A1 A2 n1 c1 n2 c2 x y w h1 h2 hn1 h
  · exact divMod_small A1 A2 n1 c1 n2 c2 x y w h1 h2 hn1 hy h hx
theorem NatR.len_le {w w' : World} {A A' : Option Addr} {n c N n' c' M : Nat} (h : NatR w A n c N) (h' : NatR w' A' n' c' M) (hle : N ≤ M) : n ≤ n' := by
  obtain ⟨xs, rfl, _, hx, rfl, _⟩ := h
  obtain ⟨ys, rfl, _, hy, rfl, _⟩ := h'
  rcases Nat.lt_or_ge ys.length xs.length with h | h
  · have := hy.len_lt B32_gt hx h; omega
  · exact h

set_option maxHeartbeats 4000000 in
theorem gcd_any (A1 A2 : Option Addr) (n1 c1 n2 c2 a b : Nat) (w : World) (h1 : NatR w A1 n1 c1 a) (h2 : NatR w A2 n2 c2 b) (hn1 : n1 ≤ 1073741824) (hn2 : n2 ≤ 1073741824)
    (hdm : 18446744073709551616 ≤ a ∨ 18446744073709551616 ≤ b → ∀ x y, 0 < y → DivModAt x y) :
    Calls Tryz.prog 83 #[.agg #[.slice A1 n1 c1], .agg #[.slice A2 n2 c2]] w (NatPost w (Nat.gcd a b)) := by
  have HDM := Lib.hid hdm
  have H1 := Lib.hid h1
  have H2 := Lib.hid h2
  clear hdm h1 h2
  go_enter Tryz.func83, Tryz.ntmps83
  go_wp2
  obtain ⟨hba, hbb, hbr, e0⟩ := boxes3 w #[.slice A1 n1 c1] 36 #[.slice A2 n2 c2] 36 #[.slice none 0 0] 36
  go_loopg [5] b (fun m t wr => ∃ (A A' : Option Addr) (n c n' c' x y : Nat), t = t ∧ y ≤ m ∧ Blk wr w.heap.size 36 #[.slice A n c] ∧ Blk wr (w.heap.size + 1) 36 #[.slice A' n' c'] ∧ Blk wr (w.heap.size + 1 + 1) 36 #[.slice none 0 0] ∧
    NatR wr A n c x ∧ NatR wr A' n' c' y ∧ n ≤ 1073741824 ∧ n' ≤ 1073741824 ∧ Nat.gcd x y = Nat.gcd a b ∧ (18446744073709551616 ≤ x ∨ 18446744073709551616 ≤ y → 18446744073709551616 ≤ a ∨ 18446744073709551616 ≤ b) ∧ Ext w wr)
  case atStart => exact ⟨A1, A2, n1, c1, n2, c2, a, b, rfl, Nat.le_refl _, hba, hbb, hbr, H1.out.keep e0, H2.out.keep e0, hn1, hn2, rfl, id, e0⟩
  case round =>
    clear hba hbb hbr e0 H1 H2
    obtain ⟨A, A', n, c, n', c', x, y, _, hym, hba, hbb, hbr, hx, hy, hn, hn', hg, hbig, hext⟩ := hrel
    have ca := hba.one.1
    have cb := hbb.one.1
    have G := Lib.hid hg
    have BIG := Lib.hid hbig
    have NX := Lib.hid hx
    have NY := Lib.hid hy
    clear hg hbig
    by_cases hy0 : y = 0
    · have zb : ((n' : Int) == 0) = true := by have := hy.eq_zero; simp; omega
      clear hx hy
      go_wp2_with fail
      refine (isZero_any A' n' c' _).mono ?_
      rintro e w1 ⟨rfl, hx1⟩
      have hba := hba.keep hx1
      have hbr := hbr.keep hx1
      have ca := hba.one.1
      obtain ⟨d2, f2⟩ := hbr.one
      have HX1 := Lib.hid (hext.tr hx1)
      have NX1 := Lib.hid (NX.out.keep hx1)
      have hfin : x = Nat.gcd a b := by rw [← G.out, hy0, Nat.gcd_zero_right]
      have HF := Lib.hid hfin
      clear hx1 hfin
      go_wp2
      refine bodyPost_ret (v := .agg #[.slice A n c]) (by simp [results, Tryz.results83, go_sem, (hbr.set_ 0 _).cell]) rfl ⟨_, _, _, rfl, by rw [← HF.out]; exact NX1.out.set_ hbr (by decide) _, HX1.out.set_ (by first | (simp; omega) | simp) _⟩
    · have zb : ((n' : Int) == 0) = false := by have := hy.eq_zero; exact beq_eq_false_iff_ne.2 (by omega)
      clear hx hy
      go_wp2_with fail
      refine (isZero_any A' n' c' _).mono ?_
      rintro e w1 ⟨rfl, hx1⟩
      have hba := hba.keep hx1
      have hbb := hbb.keep hx1
      have hbr := hbr.keep hx1
      have ca := hba.one.1
      have cb := hbb.one.1
      have HX1 := Lib.hid (hext.tr hx1)
      have NX1 := Lib.hid (NX.out.keep hx1)
      have NY1 := Lib.hid (NY.out.keep hx1)
      clear hx1
      by_cases hsm : x < 18446744073709551616 ∧ y < 18446744073709551616
      · obtain ⟨hs1, hs2⟩ := hsm
        go_wp2_with fail
        refine (natUint64_small A n c x _ NX1.out hs1).mono ?_
        rintro e w2 ⟨rfl, hx2⟩
        have hbb := hbb.keep hx2
        have hbr := hbr.keep hx2
        have cb := hbb.one.1
        have HX2 := Lib.hid (HX1.out.tr hx2)
        have NY2 := Lib.hid (NY1.out.keep hx2)
        clear hx2
        go_wp2_with fail
        refine (natUint64_small A' n' c' y _ NY2.out hs2).mono ?_
        rintro e w3 ⟨rfl, hx3⟩
        have hbr := hbr.keep hx3
        have HX3 := Lib.hid (HX2.out.tr hx3)
        clear hx3
        go_wp2
        go_loopw [5, 7] (fun t5 t7 wr => ∃ (p q m : Nat), t5 = .int .u64 p ∧ t7 = .int .u64 q ∧ p < 18446744073709551616 ∧ q < 18446744073709551616 ∧ Nat.gcd p q = Nat.gcd a b ∧ wr = w3.drewN m) (fun _ t7 _ => (intOf t7).toNat)
        case atStart => exact ⟨x, y, 0, rfl, rfl, hs1, hs2, G.out, rfl⟩
        case round =>
          obtain ⟨p, q, m, rfl, rfl, hp, hq, hpq, rfl⟩ := hrel
          have GP := Lib.hid hpq
          clear hpq
          by_cases hq0 : q = 0
          · subst hq0
            have hfin : p = Nat.gcd a b := by rw [← GP.out, Nat.gcd_zero_right]
            have HF := Lib.hid hfin
            clear hfin
            go_wp2_with fail
            refine (natOf_any p _ (by omega) (by omega)).mono ?_
            rintro e w5 ⟨A5, n5, c5, rfl, hR5, hx5⟩
            have hbr := (hbr.drewN m).keep hx5
            obtain ⟨d2, f2⟩ := hbr.one
            have HX5 := Lib.hid ((HX3.out.drewN m).tr hx5)
            have R5 := Lib.hid hR5
            clear hx5 hR5
            go_wp2
            refine bodyPost_ret (v := .agg #[.slice A5 n5 c5]) (by simp [results, Tryz.results83, go_sem, (hbr.set_ 0 _).cell]) rfl ⟨_, _, _, rfl, ?_, HX5.out.set_ (by first | (simp; omega) | simp) _⟩
            have := R5.out.set_ (p := ⟨w.heap.size + 1 + 1, 0, none⟩) hbr (by decide) (.slice A5 n5 c5)
            rw [Int.toNat_natCast, HF.out] at this
            exact this
          · have hbn : ((q : Int) != 0) = true := bne_iff_ne.2 (by omega)
            have hbn' : ¬ q = 0 := hq0
            obtain ⟨r, hr⟩ : ∃ r, r = p % q := ⟨_, rfl⟩
            have hmd : (p : Int).tmod q = (r : Int) := by rw [Int.tmod_eq_emod_of_nonneg (by omega), hr]; simp
            have hrq : r < q := by rw [hr]; exact Nat.mod_lt _ (by omega)
            have HR := Lib.hid hr
            clear hr hq0
            go_wp2
            go_quiet (fail)
            go_wp2
            go_roundw
            case rel => exact ⟨q, r, m + nq, rfl, rfl, hq, by omega, by rw [HR.out, ← GP.out, Nat.gcd_comm p q, Nat.gcd_rec q p, Nat.gcd_comm], by rw [World.drewN_drewN]⟩
            case measure => simp [intOf]; omega
      · have hdm := HDM.out (BIG.out (by omega)) x y (by omega)
        have HD := Lib.hid hdm
        obtain ⟨v1, bl1, hu1, hb1⟩ : ∃ (v : Int) (bl : Bool), Calls Tryz.prog 109 #[.agg #[.slice A n c]] w1 (fun e w' => e = .returned (.tuple #[.int .u64 v, .bool bl]) ∧ Ext w1 w') ∧ (bl = true → 18446744073709551616 ≤ y) := by
          rcases Nat.lt_or_ge x 18446744073709551616 with h | h
          · exact ⟨_, _, natUint64_small A n c x _ NX1.out h, fun _ => by omega⟩
          · exact ⟨_, _, natUint64_big A n c x _ NX1.out h, fun h => by cases h⟩
        have HU1 := Lib.hid hu1
        have HB1 := Lib.hid hb1
        clear hdm hsm HDM hu1 hb1
        go_wp2_with fail
        refine HU1.out.mono ?_
        rintro e w2 ⟨rfl, hx2⟩
        have hba := hba.keep hx2
        have hbb := hbb.keep hx2
        have hbr := hbr.keep hx2
        have cb := hbb.one.1
        have HX2 := Lib.hid (HX1.out.tr hx2)
        have NX2 := Lib.hid (NX1.out.keep hx2)
        have NY2 := Lib.hid (NY1.out.keep hx2)
        obtain ⟨v2, bl2, hu2, hb2⟩ : ∃ (v : Int) (bl : Bool), Calls Tryz.prog 109 #[.agg #[.slice A' n' c']] w2 (fun e w' => e = .returned (.tuple #[.int .u64 v, .bool bl]) ∧ Ext w2 w') ∧ (18446744073709551616 ≤ y → bl = false) := by
          rcases Nat.lt_or_ge y 18446744073709551616 with h | h
          · exact ⟨_, _, natUint64_small A' n' c' y _ NY2.out h, fun _ => by omega⟩
          · exact ⟨_, _, natUint64_big A' n' c' y _ NY2.out h, fun _ => rfl⟩
        have HU2 := Lib.hid hu2
        have HB2 := Lib.hid hb2
        clear hx2 hu2 hb2 HU1
        go_wp2_with fail
        refine HU2.out.mono ?_
        rintro e w3 ⟨rfl, hx3⟩
        have hba := hba.keep hx3
        have hbb := hbb.keep hx3
        have hbr := hbr.keep hx3
        have ca := hba.one.1
        have cb := hbb.one.1
        have HX3 := Lib.hid (HX2.out.tr hx3)
        have NX3 := Lib.hid (NX2.out.keep hx3)
        have NY3 := Lib.hid (NY2.out.keep hx3)
        have hbl : bl1 = false ∨ (bl1 = true ∧ bl2 = false) := by
          cases bl1
          · exact .inl rfl
          · exact .inr ⟨rfl, HB2.out (HB1.out rfl)⟩
        clear hx3 HU2 HB1 HB2
        rcases hbl with rfl | ⟨rfl, rfl⟩
        all_goals
          go_wp2_with fail
          refine (HD.out A A' n c n' c' _ NX3.out NY3.out hn hn').mono ?_
          rintro e w4 ⟨B1, k1, d1, B2, k2, d2, rfl, hQ, hR, hx4⟩
          have hba := hba.keep hx4
          have hbb := hbb.keep hx4
          have hbr := hbr.keep hx4
          have z0 := hba.lt
          have z1 := hbb.lt
          have f0 := hba.one.2
          have f1 := hbb.one.2
          have ca := hba.one.1
          have cb := hbb.one.1
          have HX4 := Lib.hid (HX3.out.tr hx4)
          have NY4 := Lib.hid (NY3.out.keep hx4)
          have NR4 := Lib.hid hR
          clear hx4 hQ hR
          go_wp2
          go_region
          go_wp2
          have hm : x % y < y := Nat.mod_lt _ (by omega)
          have b0 := (hba.set_ 0 (.slice A' n' c')).far (p := ⟨w.heap.size + 1, 0, none⟩) (by first | (simp; omega) | simp) (.slice B2 k2 d2)
          have b1 := (hbb.far (p := ⟨w.heap.size, 0, none⟩) (by first | (simp; omega) | simp) (.slice A' n' c'))
          have b2 := (hbr.far (p := ⟨w.heap.size, 0, none⟩) (by first | (simp; omega) | simp) (.slice A' n' c')).far (p := ⟨w.heap.size + 1, 0, none⟩) (by first | (simp; omega) | simp) (.slice B2 k2 d2)
          have n1' := (NY4.out.set_ (p := ⟨w.heap.size, 0, none⟩) hba (by decide) (.slice A' n' c')).set_ (p := ⟨w.heap.size + 1, 0, none⟩) b1 (by decide) (.slice B2 k2 d2)
          have n2' := (NR4.out.set_ (p := ⟨w.heap.size, 0, none⟩) hba (by decide) (.slice A' n' c')).set_ (p := ⟨w.heap.size + 1, 0, none⟩) b1 (by decide) (.slice B2 k2 d2)
          have e5 := (HX4.out.set_ (p := ⟨w.heap.size, 0, none⟩) (by first | (simp; omega) | simp) (.slice A' n' c')).set_ (p := ⟨w.heap.size + 1, 0, none⟩) (by first | (simp; omega) | simp) (.slice B2 k2 d2)
          go_roundg (x % y)
          case measure => omega
          case rel =>
            have e6 : Ext ((w4.setCell ⟨w.heap.size, 0, none⟩ (.slice A' n' c')).setCell ⟨w.heap.size + 1, 0, none⟩ (.slice B2 k2 d2)) ((((w4.setCell ⟨w.heap.size, 0, none⟩ (.slice A' n' c')).setCell ⟨w.heap.size + 1, 0, none⟩ (.slice B2 k2 d2)).alloc (.cells #[.slice B1 k1 d1] 36)).alloc (.cells #[.slice B2 k2 d2] 36)).drew := (((Ext.refl _).alloc _).alloc _).drewN 1
            refine ⟨A', B2, n', c', k2, d2, y, x % y, trivial, Nat.le_refl _, ?_, ?_, ?_, ?_, ?_, hn', ?_, ?_, ?_, ?_⟩
            · exact b0.keep e6
            · exact (b1.set_ 0 (.slice B2 k2 d2)).keep e6
            · exact b2.keep e6
            · exact n1'.keep e6
            · exact n2'.keep e6
            · have := NR4.out.len_le NY4.out (by omega); omega
            · rw [← G.out, Nat.gcd_comm x y, Nat.gcd_rec y x, Nat.gcd_comm]
            · intro h; exact BIG.out (.inr (by omega))
            · exact e5.tr e6

end Go.Proofs.YtjmkcckbbgpkeaaGreatDoor
