/- rational.Sum: the sum of a list. -/
/- slices.Clone of rational numbers; rational.Sum. -/
import Derived.Test.YtjmkcckbbgpkeaaGreatDoorQA
import Derived.Test.YtjmkcckbbgpkeaaGreatDoorQl
import Derived.Lib.SliceRun
set_option linter.unusedVariables false
set_option linter.unusedSimpArgs false

namespace Go.Proofs.YtjmkcckbbgpkeaaGreatDoor
open Go.RowKit
/-- The sum of numbers. -/
def sumQ : List Rat → Rat
  | [] => 0
  | a :: l => a + sumQ l
/-- Neighbours are added up. -/
def halve : List Rat → List Rat
  | a :: b :: l => (a + b) :: halve l
  | l => l
theorem halve_sum : ∀ l : List Rat, sumQ (halve l) = sumQ l
  | [] => rfl
  | [_] => rfl
  | a :: b :: l => by
    show a + b + sumQ (halve l) = a + (b + sumQ l)
    rw [halve_sum l, Rat.add_assoc]
theorem halve_len : ∀ l : List Rat, (halve l).length = (l.length + 1) / 2
  | [] => rfl
  | [_] => by simp [halve]
  | a :: b :: l => by
    show (halve l).length + 1 = (l.length + 1 + 1 + 1) / 2
    rw [halve_len l]; omega
theorem halve_get : ∀ (l : List Rat) (j : Nat), j < (l.length + 1) / 2 → (halve l)[j]? = some (if 2 * j + 1 < l.length then l[2 * j]?.getD 0 + l[2 * j + 1]?.getD 0 else l[2 * j]?.getD 0)
  | [], j, h => by simp at h
  | [a], j, h => by
    obtain rfl : j = 0 := by simp at h; omega
    rfl
  | a :: b :: l, 0, h => by
    show some (a + b) = _
    simp
  | a :: b :: l, j + 1, h => by
    show (halve l)[j]? = _
    rw [halve_get l j (by simp at h; omega)]
    have e1 : (a :: b :: l)[2 * (j + 1)]? = l[2 * j]? := by rw [show 2 * (j + 1) = 2 * j + 1 + 1 by omega]; rfl
    have e2 : (a :: b :: l)[2 * (j + 1) + 1]? = l[2 * j + 1]? := by rw [show 2 * (j + 1) + 1 = (2 * j + 1) + 1 + 1 by omega]; rfl
    rw [e1, e2]
    simp only [List.length_cons]
    by_cases h2 : 2 * j + 1 < l.length
    · rw [if_pos h2, if_pos (by omega)]
    · rw [if_neg h2, if_neg (by omega)]
/-- The row, of which the first i pairs have been added up. -/
def passTo (l : List Rat) : Nat → List Rat
  | 0 => l
  | i + 1 => (passTo l i).set i (l[2 * i]?.getD 0 + l[2 * i + 1]?.getD 0)
theorem passTo_len (l : List Rat) : ∀ i, (passTo l i).length = l.length
  | 0 => rfl
  | i + 1 => by
    show ((passTo l i).set i _).length = _
    rw [List.length_set]; exact passTo_len l i
theorem passTo_get (l : List Rat) : ∀ (i j : Nat), j < l.length → (passTo l i)[j]? = some (if j < i then l[2 * j]?.getD 0 + l[2 * j + 1]?.getD 0 else l[j]?.getD 0)
  | 0, j, h => by
    show l[j]? = _
    rw [if_neg (by omega), List.getElem?_eq_getElem h]; rfl
  | i + 1, j, h => by
    show ((passTo l i).set i _)[j]? = _
    by_cases e : i = j
    · subst e
      rw [List.getElem?_set_self (by rw [passTo_len]; exact h), if_pos (by omega)]
    · rw [List.getElem?_set_ne e, passTo_get l i j h]
      by_cases h2 : j < i
      · rw [if_pos h2, if_pos (by omega)]
      · rw [if_neg h2, if_neg (by omega)]
theorem pass_even {l : List Rat} {p : Nat} (h : l.length = 2 * p) : (passTo l p).take p = halve l := by
  apply List.ext_getElem?
  intro j
  by_cases hj : j < p
  · rw [List.getElem?_take_of_lt hj, passTo_get l p j (by omega), halve_get l j (by omega), if_pos hj, if_pos (by omega)]
  · rw [List.getElem?_eq_none (by rw [List.length_take, passTo_len]; omega), List.getElem?_eq_none (by rw [halve_len]; omega)]
theorem pass_odd {l : List Rat} {p : Nat} (h : l.length = 2 * p + 1) : ((passTo l p).set p (l[2 * p]?.getD 0)).take (p + 1) = halve l := by
  apply List.ext_getElem?
  intro j
  by_cases hj : j < p + 1
  · rw [List.getElem?_take_of_lt hj, halve_get l j (by omega)]
    by_cases e : p = j
    · subst e
      rw [List.getElem?_set_self (by rw [passTo_len]; omega), if_neg (by omega)]
    · rw [List.getElem?_set_ne e, passTo_get l p j (by omega), if_pos (by omega), if_pos (by omega)]
  · rw [List.getElem?_eq_none (by rw [List.length_take, List.length_set, passTo_len]; omega), List.getElem?_eq_none (by rw [halve_len]; omega)]
/-- Sizes of numbers that are added up. -/
def SzR : List Rat → Nat → Prop
  | [], _ => True
  | a :: l, C => ∃ k D, SzQ a k ∧ SzR l D ∧ k + 1 + D ≤ C
theorem SzR.halve_ : ∀ {l : List Rat} {C : Nat}, SzR l C → SzR (halve l) C
  | [], _, _ => trivial
  | [_], _, h => h
  | a :: b :: l, C, h => by
    obtain ⟨k, D, h1, ⟨k2, D2, h2, h3, h4⟩, h5⟩ := h
    exact ⟨k + k2 + 1, D2, h1.add h2, SzR.halve_ h3, by omega⟩
theorem SzR.mem : ∀ {l : List Rat} {C : Nat}, SzR l C → ∀ q ∈ l, SzQ q C
  | [], _, _, q, hq => by cases hq
  | a :: l, C, h, q, hq => by
    obtain ⟨k, D, h1, h2, h3⟩ := h
    rcases List.mem_cons.1 hq with rfl | hq
    · exact h1.mono (by omega)
    · exact (SzR.mem h2 q hq).mono (by omega)
theorem SzR.of {P : Nat} : ∀ {l : List Rat}, (∀ q ∈ l, SzQ q P) → SzR l (l.length * (P + 1))
  | [], _ => trivial
  | a :: l, h => ⟨P, l.length * (P + 1), h a (by simp), SzR.of (fun q hq => h q (by simp [hq])), by rw [List.length_cons, Nat.add_mul]; omega⟩
theorem SzR.sum : ∀ {l : List Rat} {C : Nat}, SzR l C → SzQ (sumQ l) (C + 1)
  | [], _, _ => SzQ.zero.mono (by omega)
  | a :: l, C, h => by
    obtain ⟨k, D, h1, h2, h3⟩ := h
    exact (h1.add (SzR.sum h2)).mono (by omega)
/-- The first numbers of a row in a block of its own. -/
def QP (w : World) (g : Nat) (qs : List Rat) : Prop :=
  ∃ cur : Array Value, Blk w g 38 cur ∧ ∀ (i : Nat) (q : Rat), qs[i]? = some q → ∃ (neg : Bool) (A : Option Addr) (n c : Nat) (A' : Option Addr) (n' c' : Nat),
    (cur[i * 3]? = some (.bool neg) ∧ cur[i * 3 + 1]? = some (.slice A n c) ∧ cur[i * 3 + 2]? = some (.slice A' n' c')) ∧ RatR w neg A n c A' n' c' q
theorem QP.keep {w w' : World} {g : Nat} {qs : List Rat} (h : QP w g qs) (hx : Ext w w') : QP w' g qs := by
  obtain ⟨cur, h1, h2⟩ := h
  refine ⟨cur, h1.keep hx, fun i q hq => ?_⟩
  obtain ⟨neg, A, n, c, A', n', c', h3, h4⟩ := h2 i q hq
  exact ⟨neg, A, n, c, A', n', c', h3, h4.keep hx⟩
theorem QP.lt {w : World} {g : Nat} {qs : List Rat} (h : QP w g qs) : g < w.heap.size := by
  obtain ⟨cur, h1, _⟩ := h
  exact h1.lt
theorem QP.at_ {w : World} {g : Nat} {qs : List Rat} (h : QP w g qs) {i : Nat} {q : Rat} (hl : qs[i]? = some q) :
    ∃ (neg : Bool) (A : Option Addr) (n c : Nat) (A' : Option Addr) (n' c' : Nat),
      (w.cell? ⟨g, i * 3, none⟩ = some (.bool neg) ∧ w.cell? ⟨g, i * 3 + 1, none⟩ = some (.slice A n c) ∧ w.cell? ⟨g, i * 3 + 2, none⟩ = some (.slice A' n' c')) ∧
      (w.frozen? ⟨g, i * 3, none⟩ = false ∧ w.frozen? ⟨g, i * 3 + 1, none⟩ = false ∧ w.frozen? ⟨g, i * 3 + 2, none⟩ = false) ∧ RatR w neg A n c A' n' c' q := by
  obtain ⟨cur, h1, h2⟩ := h
  obtain ⟨neg, A, n, c, A', n', c', ⟨e0, e1, e2⟩, h4⟩ := h2 i q hl
  exact ⟨neg, A, n, c, A', n', c', ⟨by rw [h1.cell]; exact e0, by rw [h1.cell]; exact e1, by rw [h1.cell]; exact e2⟩, ⟨h1.frozen _, h1.frozen _, h1.frozen _⟩, h4⟩
theorem QP.take {w : World} {g : Nat} {qs : List Rat} (h : QP w g qs) (m : Nat) : QP w g (qs.take m) := by
  obtain ⟨cur, h1, h2⟩ := h
  refine ⟨cur, h1, fun i q hq => h2 i q ?_⟩
  rw [List.getElem?_take] at hq
  split at hq
  · exact hq
  · cases hq
theorem set3_get {cur : Array Value} {m j : Nat} {u0 u1 u2 : Value} (hm : m * 3 + 2 < cur.size) : (((cur.setIfInBounds (m * 3) u0).setIfInBounds (m * 3 + 1) u1).setIfInBounds (m * 3 + 2) u2)[j]? = if j = m * 3 then some u0 else if j = m * 3 + 1 then some u1 else if j = m * 3 + 2 then some u2 else cur[j]? := by
  rw [Array.getElem?_setIfInBounds, Array.getElem?_setIfInBounds, Array.getElem?_setIfInBounds]
  simp only [Array.size_setIfInBounds]
  repeat' split
  all_goals first | rfl | omega
theorem QP.put {w : World} {g m : Nat} {qs : List Rat} {q : Rat} {neg : Bool} {A : Option Addr} {n c : Nat} {A' : Option Addr} {n' c' : Nat} (h : QP w g qs) (hm : m < qs.length) (hl : RatR w neg A n c A' n' c' q) :
    QP (((w.setCell ⟨g, m * 3, none⟩ (.bool neg)).setCell ⟨g, m * 3 + 1, none⟩ (.slice A n c)).setCell ⟨g, m * 3 + 2, none⟩ (.slice A' n' c')) g (qs.set m q) := by
  obtain ⟨cur, h1, h2⟩ := h
  have g2 := ((grown_set w g (m * 3) (.bool neg)).trans (grown_set _ g (m * 3 + 1) (.slice A n c))).trans (grown_set _ g (m * 3 + 2) (.slice A' n' c'))
  have b := ((h1.set_ (m * 3) (.bool neg)).set_ (m * 3 + 1) (.slice A n c)).set_ (m * 3 + 2) (.slice A' n' c')
  have hsz : m * 3 + 2 < cur.size := by
    obtain ⟨_, _, _, _, _, _, _, ⟨_, _, e2⟩, _⟩ := h2 m _ (List.getElem?_eq_getElem hm)
    exact (Array.getElem?_eq_some_iff.1 e2).1
  refine ⟨_, b, fun i p hi => ?_⟩
  by_cases e : m = i
  · subst e
    rw [List.getElem?_set_self hm] at hi
    injection hi with hi
    subst hi
    refine ⟨neg, A, n, c, A', n', c', ⟨?_, ?_, ?_⟩, hl.other g2 h1 (by decide)⟩
    · rw [set3_get hsz, if_pos rfl]
    · rw [set3_get hsz, if_neg (by omega), if_pos rfl]
    · rw [set3_get hsz, if_neg (by omega), if_neg (by omega), if_pos rfl]
  · rw [List.getElem?_set_ne e] at hi
    obtain ⟨neg', B, k, d, B', k', d', ⟨e0, e1, e2⟩, h4⟩ := h2 i p hi
    refine ⟨neg', B, k, d, B', k', d', ⟨?_, ?_, ?_⟩, h4.other g2 h1 (by decide)⟩
    · rw [set3_get hsz, if_neg (by omega), if_neg (by omega), if_neg (by omega)]; exact e0
    · rw [set3_get hsz, if_neg (by omega), if_neg (by omega), if_neg (by omega)]; exact e1
    · rw [set3_get hsz, if_neg (by omega), if_neg (by omega), if_neg (by omega)]; exact e2
end Go.Proofs.YtjmkcckbbgpkeaaGreatDoor


namespace Go.Proofs.YtjmkcckbbgpkeaaGreatDoor
open Go.RowKit
theorem QP.of_own {w : World} {B n g cap : Nat} {v : Value} {css : List (List Value)} {qs : List Rat} (hw : w.ownsRow B 38 3 v n css.flatten) (h0 : 0 < n) (hl : css.length = n) (h3 : ∀ cs ∈ css, cs.length = 3) (hq : ∀ (i : Nat) (q : Rat), qs[i]? = some q → ∃ cs, css[i]? = some cs ∧ QR w cs q) (hv : v = .slice (some ⟨g, 0, none⟩) n cap) : B ≤ g ∧ n ≤ cap ∧ QP w g qs := by
  rcases hw.2 with ⟨_, e2⟩ | ⟨g', cap', cur, k1, k2, k3, k4, k5, k6, k7⟩
  · omega
  · rw [hv] at k1
    injection k1 with e1 e2 e3
    injection e1 with e1
    injection e1 with e1
    subst e1 e3
    refine ⟨k2, k4, cur, k3, fun i q hi => ?_⟩
    obtain ⟨cs, c1, neg, A, m, c, A', m', c', rfl, hR⟩ := hq i q hi
    have hil : i < n := by rw [← hl]; exact (List.getElem?_eq_some_iff.1 c1).1
    have key : ∀ k, k < 3 → cur[i * 3 + k]? = ([.bool neg, .slice A m c, .slice A' m' c'] : List Value)[k]? := fun k hk => by
      rw [← Array.getElem?_toList]
      have h5 : (cur.toList.take (n * 3))[i * 3 + k]? = cur.toList[i * 3 + k]? := by rw [List.getElem?_take, if_pos (by omega)]
      rw [← h5, k7, flatten_get css h3 i k (by omega) hk, c1]; rfl
    exact ⟨neg, A, m, c, A', m', c', ⟨key 0 (by omega), key 1 (by omega), key 2 (by omega)⟩, hR⟩
/-- Adding up, under way. -/
structure SuS (w wr : World) (g n cap : Nat) (K : List Rat) (S : Rat) (C : Nat) : Prop where
  len : K.length = n
  pos : 0 < n
  cap : n ≤ cap
  sum : sumQ K = S
  sz : SzR K C
  row : QP wr g K
  ext : Ext w wr
theorem sumQ_one {K : List Rat} (h : K.length = 1) : K[0]? = some (sumQ K) := by
  obtain ⟨a, rfl⟩ := List.length_eq_one_iff.1 h
  show some a = some (a + 0)
  rw [Rat.add_zero]
theorem get_some {K : List Rat} {i : Nat} (h : i < K.length) : K[i]? = some (K[i]?.getD 0) := by rw [List.getElem?_eq_getElem h]; rfl
end Go.Proofs.YtjmkcckbbgpkeaaGreatDoor
