/- Heaps (plain). -/
import Derived.Test.YtjmkcckbbgpkeaaGreatDoorMI
set_option linter.unusedVariables false
set_option linter.unusedSimpArgs false

namespace Go.Proofs.YtjmkcckbbgpkeaaGreatDoor
open Go.RowKit
/-- An order of elements. -/
structure LeO {α : Type} (le : α → α → Prop) : Prop where
  refl : ∀ x, le x x
  tr : ∀ x y z, le x y → le y z → le x z
  tot : ∀ x y, le x y ∨ le y x
def swapG {α : Type} (l : List α) (i j : Nat) : List α := match l[i]?, l[j]? with
  | some a, some b => (l.set i b).set j a
  | _, _ => l
theorem swapG_eq {α : Type} {l : List α} {i j : Nat} {a b : α} (hi : l[i]? = some a) (hj : l[j]? = some b) : swapG l i j = (l.set i b).set j a := by unfold swapG; rw [hi, hj]
theorem swapG_len {α : Type} (l : List α) (i j : Nat) : (swapG l i j).length = l.length := by
  unfold swapG
  split
  · rw [List.length_set, List.length_set]
  · rfl
theorem swapG_get {α : Type} {l : List α} {i j : Nat} {a b : α} (hi : l[i]? = some a) (hj : l[j]? = some b) (k : Nat) : (swapG l i j)[k]? = if k = j then some a else if k = i then some b else l[k]? := by
  have h1 := (List.getElem?_eq_some_iff.1 hi).1
  have h2 := (List.getElem?_eq_some_iff.1 hj).1
  rw [swapG_eq hi hj]
  by_cases e : k = j
  · subst e; rw [if_pos rfl, List.getElem?_set_self (by rw [List.length_set]; exact h2)]
  · rw [if_neg e, List.getElem?_set_ne (fun h => e h.symm)]
    by_cases e2 : k = i
    · subst e2; rw [if_pos rfl, List.getElem?_set_self h1]
    · rw [if_neg e2, List.getElem?_set_ne (fun h => e2 h.symm)]
theorem swapG_perm {α : Type} {l : List α} {i j : Nat} {a b : α} (hi : l[i]? = some a) (hj : l[j]? = some b) : (swapG l i j).Perm l := by
  classical
  rw [List.perm_iff_count]
  intro x
  have h1 := (List.getElem?_eq_some_iff.1 hi).1
  have h2 := (List.getElem?_eq_some_iff.1 hj).1
  have e1 := (List.getElem?_eq_some_iff.1 hi).2
  have e2 := (List.getElem?_eq_some_iff.1 hj).2
  rw [swapG_eq hi hj, List.count_set (by rw [List.length_set]; exact h2), List.count_set h1, e1]
  have hc1 : 0 < l.count a := List.count_pos_iff.2 (List.mem_of_getElem? hi)
  by_cases e : i = j
  · subst e
    have hab : a = b := by rw [hi] at hj; injection hj
    subst hab
    rw [List.getElem_set_self]
    by_cases hx : a = x
    · subst hx; simp; omega
    · have : (a == x) = false := by simp [hx]
      simp [this]
  · rw [List.getElem_set_ne e, e2]
    have hc2 : 0 < l.count b := List.count_pos_iff.2 (List.mem_of_getElem? hj)
    by_cases hx : a = x
    · by_cases hy : b = x
      · subst hx; subst hy; simp; omega
      · have : (b == x) = false := by simp [hy]
        subst hx; simp [this]; omega
    · have hx' : (a == x) = false := by simp [hx]
      by_cases hy : b = x
      · subst hy; simp [hx']
      · have hy' : (b == x) = false := by simp [hy]
        simp [hx', hy']
section
variable {α : Type} {le : α → α → Prop}
/-- The first n elements are a heap. -/
def HeapN (le : α → α → Prop) (l : List α) (n : Nat) : Prop := ∀ (k : Nat) (a b : α), 0 < k → k < n → l[(k - 1) / 2]? = some a → l[k]? = some b → le a b
/-- .. but for the element j, which may be less than those above it. -/
def UpI (le : α → α → Prop) (l : List α) (n j : Nat) : Prop :=
  (∀ (k : Nat) (a b : α), 0 < k → k < n → k ≠ j → l[(k - 1) / 2]? = some a → l[k]? = some b → le a b) ∧
  (∀ (k : Nat) (a b : α), 0 < j → 0 < k → k < n → (k - 1) / 2 = j → l[(j - 1) / 2]? = some a → l[k]? = some b → le a b)
/-- .. but for the element i, which may be greater than those below it. -/
def DownI (le : α → α → Prop) (l : List α) (n i : Nat) : Prop :=
  (∀ (k : Nat) (a b : α), 0 < k → k < n → (k - 1) / 2 ≠ i → l[(k - 1) / 2]? = some a → l[k]? = some b → le a b) ∧
  (∀ (k : Nat) (a b : α), 0 < i → 0 < k → k < n → (k - 1) / 2 = i → l[(i - 1) / 2]? = some a → l[k]? = some b → le a b)
theorem UpI.done {l : List α} {n j : Nat} (h : UpI le l n j) (hj : j = 0 ∨ ∀ a b, l[(j - 1) / 2]? = some a → l[j]? = some b → le a b) : HeapN le l n := fun k a b h0 hk ha hb => by
  by_cases e : k = j
  · subst e
    rcases hj with hj | hj
    · omega
    · exact hj a b ha hb
  · exact h.1 k a b h0 hk e ha hb
theorem UpI.step (o : LeO le) {l : List α} {n j : Nat} (h : UpI le l n j) (hj : 0 < j) (hjn : j < n) {a b : α} (ha : l[(j - 1) / 2]? = some a) (hb : l[j]? = some b) (hle : le b a) : UpI le (swapG l ((j - 1) / 2) j) n ((j - 1) / 2) := by
  have hg := swapG_get ha hb
  refine ⟨fun k x y h0 hk hne hx hy => ?_, fun k x y hp h0 hk hpar hx hy => ?_⟩
  · rw [hg] at hx hy
    by_cases e1 : k = j
    · subst e1
      rw [if_pos rfl] at hy
      rw [if_neg (by omega), if_pos rfl] at hx
      injection hx with hx; injection hy with hy
      subst hx hy; exact hle
    · rw [if_neg e1, if_neg hne] at hy
      by_cases e2 : (k - 1) / 2 = j
      · rw [if_pos e2] at hx
        injection hx with hx; subst hx
        exact h.2 k a y hj h0 hk e2 ha hy
      · rw [if_neg e2] at hx
        by_cases e3 : (k - 1) / 2 = (j - 1) / 2
        · rw [if_pos e3] at hx
          injection hx with hx; subst hx
          exact o.tr _ _ _ hle (h.1 k a y h0 hk e1 (by rw [e3]; exact ha) hy)
        · rw [if_neg e3] at hx
          exact h.1 k x y h0 hk e1 hx hy
  · rw [hg] at hx hy
    rw [if_neg (by omega), if_neg (by omega)] at hx
    by_cases e1 : k = j
    · subst e1
      rw [if_pos rfl] at hy
      injection hy with hy; subst hy
      exact h.1 _ x a hp (by omega) (by omega) hx ha
    · rw [if_neg e1, if_neg (by omega)] at hy
      exact o.tr _ _ _ (h.1 _ x a hp (by omega) (by omega) hx ha) (h.1 k a y h0 hk e1 (by rw [hpar]; exact ha) hy)
theorem DownI.done {l : List α} {n i : Nat} (h : DownI le l n i) (hi : ∀ (k : Nat) (a b : α), 0 < k → k < n → (k - 1) / 2 = i → l[i]? = some a → l[k]? = some b → le a b) : HeapN le l n := fun k a b h0 hk ha hb => by
  by_cases e : (k - 1) / 2 = i
  · exact hi k a b h0 hk e (by rw [← e]; exact ha) hb
  · exact h.1 k a b h0 hk e ha hb
theorem DownI.step (o : LeO le) {l : List α} {n i j : Nat} (h : DownI le l n i) (hj : 0 < j) (hjn : j < n) (hp : (j - 1) / 2 = i) {a b : α} (ha : l[i]? = some a) (hb : l[j]? = some b) (hle : le b a) (hmin : ∀ (k : Nat) (c : α), 0 < k → k < n → (k - 1) / 2 = i → l[k]? = some c → le b c) : DownI le (swapG l i j) n j := by
  have hg := swapG_get ha hb
  refine ⟨fun k x y h0 hk hne hx hy => ?_, fun k x y _ h0 hk hpar hx hy => ?_⟩
  · rw [hg] at hx hy
    rw [if_neg hne] at hx
    by_cases e1 : k = j
    · subst e1
      rw [if_pos rfl] at hy
      rw [if_pos hp] at hx
      injection hx with hx; injection hy with hy
      subst hx hy; exact hle
    · rw [if_neg e1] at hy
      by_cases e2 : k = i
      · subst e2
        rw [if_pos rfl] at hy
        injection hy with hy; subst hy
        rw [if_neg (by omega)] at hx
        exact h.2 j x b (by omega) hj hjn hp hx hb
      · rw [if_neg e2] at hy
        by_cases e3 : (k - 1) / 2 = i
        · rw [if_pos e3] at hx
          injection hx with hx; subst hx
          exact hmin k y h0 hk e3 hy
        · rw [if_neg e3] at hx
          exact h.1 k x y h0 hk e3 hx hy
  · rw [hg] at hx hy
    rw [hp, if_neg (by omega), if_pos rfl] at hx
    injection hx with hx; subst hx
    rw [if_neg (by omega), if_neg (by omega)] at hy
    exact h.1 k b y h0 hk (by omega) (by rw [hpar]; exact hb) hy
theorem HeapN.top (o : LeO le) {l : List α} {n : Nat} (h : HeapN le l n) (hn : n ≤ l.length) : ∀ (k : Nat) (a b : α), k < n → l[0]? = some a → l[k]? = some b → le a b := by
  intro k
  induction k using Nat.strongRecOn with
  | _ k ih =>
    intro a b hk ha hb
    rcases Nat.eq_zero_or_pos k with h0 | h0
    · subst h0
      rw [ha] at hb; injection hb with hb; subst hb
      exact o.refl _
    · obtain ⟨c, hc⟩ : ∃ c, l[(k - 1) / 2]? = some c := ⟨_, List.getElem?_eq_getElem (by omega)⟩
      exact o.tr _ _ _ (ih _ (by omega) a c (by omega) ha hc) (h k c b h0 hk hc hb)
theorem HeapN.pop {l : List α} {n : Nat} (h : HeapN le l (n + 1)) (hn : l.length = n + 1) {a b : α} (ha : l[0]? = some a) (hb : l[n]? = some b) : DownI le (swapG l 0 n) n 0 := by
  have hg := swapG_get ha hb
  refine ⟨fun k x y h0 hk hne hx hy => ?_, fun k x y hp => by omega⟩
  rw [hg] at hx hy
  rw [if_neg (by omega), if_neg (by omega)] at hx
  rw [if_neg (by omega), if_neg (by omega)] at hy
  exact h k x y h0 (by omega) hx hy
theorem HeapN.push {l : List α} (h : HeapN le l l.length) (x : α) : UpI le (l ++ [x]) (l.length + 1) l.length := by
  refine ⟨fun k a b h0 hk hne ha hb => ?_, fun k a b hp h0 hk hpar => by omega⟩
  rw [List.getElem?_append_left (by omega)] at ha hb
  exact h k a b h0 (by omega) ha hb
end
end Go.Proofs.YtjmkcckbbgpkeaaGreatDoor
