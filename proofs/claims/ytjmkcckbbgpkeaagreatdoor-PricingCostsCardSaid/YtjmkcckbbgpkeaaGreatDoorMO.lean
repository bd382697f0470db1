/- Stable sorting of indices by a weak order (plain). -/
/- Rows of numbers that are sorted: memory, the comparison of split.greatest, slices.swapRangeCmpFunc. -/
/- slices.insertionSortCmpFunc and slices.rotateCmpFunc at the comparison of split.greatest. -/
/- slices.rotateCmpFunc; binary search (plain). -/
import Derived.Test.YtjmkcckbbgpkeaaGreatDoorMul
import Derived.Test.YtjmkcckbbgpkeaaGreatDoorQl
set_option linter.unusedVariables false
set_option linter.unusedSimpArgs false

namespace Go.Proofs.YtjmkcckbbgpkeaaGreatDoor
/-- The element at an index. -/
def atL (l : List Nat) (i : Nat) : Nat := l[i]?.getD 0
/-- Two elements change places. -/
def swapL (l : List Nat) (i j : Nat) : List Nat := (l.set i (atL l j)).set j (atL l i)
theorem swapL_len (l : List Nat) (i j : Nat) : (swapL l i j).length = l.length := by unfold swapL; simp
theorem atL_get {l : List Nat} {i : Nat} (h : i < l.length) : l[i]? = some (atL l i) := by
  unfold atL; rw [List.getElem?_eq_getElem h]; rfl
theorem atL_set (l : List Nat) (i k v : Nat) (hi : i < l.length) : atL (l.set i v) k = if k = i then v else atL l k := by
  unfold atL
  by_cases e : k = i
  · subst e; rw [List.getElem?_set_self hi, if_pos rfl]; rfl
  · rw [List.getElem?_set_ne (fun h => e h.symm), if_neg e]
theorem atL_swap {l : List Nat} {i j : Nat} (hi : i < l.length) (hj : j < l.length) (k : Nat) : atL (swapL l i j) k = if k = j then atL l i else if k = i then atL l j else atL l k := by
  unfold swapL
  rw [atL_set _ _ _ _ (by rw [List.length_set]; exact hj), atL_set _ _ _ _ hi]
theorem swapL_perm {l : List Nat} {i j : Nat} (hi : i < l.length) (hj : j < l.length) : (swapL l i j).Perm l := by
  have h := Array.swap_perm (xs := l.toArray) (i := i) (j := j) (by simpa using hi) (by simpa using hj)
  have e : (l.toArray.swap i j (by simpa using hi) (by simpa using hj)).toList = swapL l i j := by
    unfold swapL atL
    rw [Array.swap_def]
    simp [hi, hj]
  have h2 := Array.perm_iff_toList_perm.1 h
  rw [e] at h2
  exact h2
/-- Elements were moved within a range. -/
structure Moved (a b : Nat) (l l' : List Nat) : Prop where
  len : l'.length = l.length
  perm : l'.Perm l
  out : ∀ i, i < a ∨ b ≤ i → atL l' i = atL l i
  sub : ∀ P : Nat → Prop, (∀ i, a ≤ i → i < b → P (atL l i)) → ∀ i, a ≤ i → i < b → P (atL l' i)
theorem Moved.refl (a b : Nat) (l : List Nat) : Moved a b l l := ⟨rfl, .refl _, fun _ _ => rfl, fun _ h => h⟩
theorem Moved.trans {a b : Nat} {l l' l'' : List Nat} (h : Moved a b l l') (h2 : Moved a b l' l'') : Moved a b l l'' :=
  ⟨h2.len.trans h.len, h2.perm.trans h.perm, fun i hi => (h2.out i hi).trans (h.out i hi), fun P hp => h2.sub P (h.sub P hp)⟩
theorem Moved.mono {a b a' b' : Nat} {l l' : List Nat} (h : Moved a b l l') (ha : a' ≤ a) (hb : b ≤ b') : Moved a' b' l l' :=
  ⟨h.len, h.perm, fun i hi => h.out i (by omega), fun P hp i h1 h2 => by
    by_cases h3 : a ≤ i ∧ i < b
    · exact h.sub P (fun k k1 k2 => hp k (by omega) (by omega)) i h3.1 h3.2
    · rw [h.out i (by omega)]; exact hp i h1 h2⟩
theorem Moved.swap {a b i j : Nat} {l : List Nat} (hi : a ≤ i ∧ i < b) (hj : a ≤ j ∧ j < b) (hb : b ≤ l.length) : Moved a b l (swapL l i j) :=
  ⟨swapL_len _ _ _, swapL_perm (by omega) (by omega), fun k hk => by
    rw [atL_swap (by omega) (by omega), if_neg (by omega), if_neg (by omega)], fun P hp k h1 h2 => by
    rw [atL_swap (by omega) (by omega)]
    split
    · exact hp _ hi.1 hi.2
    · split
      · exact hp _ hj.1 hj.2
      · exact hp _ h1 h2⟩
/-- The order: by a strict weak order, equal ones by number. -/
structure Ord (bf : Nat → Nat → Bool) : Prop where
  irr : ∀ x, bf x x = false
  tr : ∀ x y z, bf x y = true → bf y z = true → bf x z = true
  eqv : ∀ x y z, bf x y = false → bf y z = false → bf x z = false
def ltB (bf : Nat → Nat → Bool) (x y : Nat) : Prop := bf x y = true ∨ (bf y x = false ∧ x < y)
theorem ltB_tr {bf : Nat → Nat → Bool} (o : Ord bf) {x y z : Nat} (h : ltB bf x y) (h2 : ltB bf y z) : ltB bf x z := by
  unfold ltB at *
  rcases h with h | ⟨h, h'⟩ <;> rcases h2 with h2 | ⟨h2, h2'⟩
  · exact .inl (o.tr _ _ _ h h2)
  · left
    cases e : bf x z
    · have := o.eqv _ _ _ e h2
      rw [this] at h; cases h
    · rfl
  · left
    cases e : bf x z
    · have := o.eqv _ _ _ h e
      rw [this] at h2; cases h2
    · rfl
  · right
    exact ⟨o.eqv _ _ _ h2 h, by omega⟩
theorem ltB_irr {bf : Nat → Nat → Bool} (o : Ord bf) (x : Nat) : ¬ ltB bf x x := by
  unfold ltB
  rw [o.irr]
  simp
theorem bf_as {bf : Nat → Nat → Bool} (o : Ord bf) {x y : Nat} (h : bf x y = true) : bf y x = false := by
  cases e : bf y x
  · rfl
  · have := o.tr _ _ _ h e
    rw [o.irr] at this; cases this
/-- Of two numbers the greater one is before the other if and only if it is by the weak order. -/
theorem ltB_up {bf : Nat → Nat → Bool} {x y : Nat} (h : y < x) : bf x y = true → ltB bf x y := fun h => .inl h
theorem ltB_no {bf : Nat → Nat → Bool} {x y : Nat} (h : y < x) (h2 : bf x y = false) : ltB bf y x := by
  unfold ltB
  cases e : bf y x
  · exact .inr ⟨h2, h⟩
  · exact .inl rfl
/-- A range is in order. -/
def Srt (bf : Nat → Nat → Bool) (a b : Nat) (l : List Nat) : Prop := ∀ i j, a ≤ i → i < j → j < b → ltB bf (atL l i) (atL l j)
/-- Insertion, under way: the element at j moves down. -/
structure Ins (bf : Nat → Nat → Bool) (a i j : Nat) (l : List Nat) : Prop where
  srt : ∀ p q, a ≤ p → p < q → q ≤ i → q ≠ j → ltB bf (atL l p) (atL l q)
  up : ∀ k, a ≤ k → k ≤ i → k ≠ j → atL l k < atL l j
theorem Ins.step {bf : Nat → Nat → Bool} {a i j : Nat} {l : List Nat} (h : Ins bf a i j l) (hj : a < j) (hji : j ≤ i) (hil : i < l.length) (hb : bf (atL l j) (atL l (j - 1)) = true) : Ins bf a i (j - 1) (swapL l j (j - 1)) := by
  have e := atL_swap (l := l) (i := j) (j := j - 1) (by omega) (by omega)
  constructor
  · intro p q h1 h2 h3 h4
    rw [e p, e q]
    by_cases q1 : q = j
    · subst q1
      rw [if_neg (show ¬ q = q - 1 by omega), if_pos rfl]
      by_cases p1 : p = q - 1
      · subst p1; rw [if_pos rfl]; exact .inl hb
      · rw [if_neg p1, if_neg (show ¬ p = q by omega)]
        exact h.srt p (q - 1) h1 (by omega) (by omega) (by omega)
    · rw [if_neg h4, if_neg q1]
      by_cases p1 : p = j - 1
      · rw [if_pos p1]; exact h.srt j q (by omega) (by omega) h3 q1
      · rw [if_neg p1]
        by_cases p2 : p = j
        · rw [if_pos p2]; exact h.srt (j - 1) q (by omega) (by omega) h3 q1
        · rw [if_neg p2]; exact h.srt p q h1 h2 h3 q1
  · intro k h1 h2 h3
    rw [e k, e (j - 1), if_neg h3, if_pos rfl]
    split
    · exact h.up (j - 1) (by omega) (by omega) (by omega)
    · rename_i h4; exact h.up k h1 h2 h4
theorem Ins.stop {bf : Nat → Nat → Bool} (o : Ord bf) {a i j : Nat} {l : List Nat} (h : Ins bf a i j l) (hj : a ≤ j) (hji : j ≤ i) (hb : j = a ∨ bf (atL l j) (atL l (j - 1)) = false) : Srt bf a (i + 1) l := by
  intro p q h1 h2 h3
  by_cases q1 : q = j
  · subst q1
    rcases hb with hb | hb
    · omega
    · have h4 := ltB_no (h.up (q - 1) (by omega) (by omega) (by omega)) hb
      by_cases p1 : p = q - 1
      · rw [p1]; exact h4
      · exact ltB_tr o (h.srt p (q - 1) h1 (by omega) (by omega) (by omega)) h4
  · exact h.srt p q h1 h2 (by omega) q1
/-- Two ranges change places: what stands at an index. -/
def rngAt (l : List Nat) (a b n k : Nat) : Nat := if a ≤ k ∧ k < a + n then atL l (k - a + b) else if b ≤ k ∧ k < b + n then atL l (k - b + a) else atL l k
theorem rngAt_step {l l' : List Nat} {a b i : Nat} (h : ∀ k, atL l' k = rngAt l a b i k) (hd : a + i < b) (hb : b + i < l'.length) (k : Nat) : atL (swapL l' (a + i) (b + i)) k = rngAt l a b (i + 1) k := by
  rw [atL_swap (by omega) (by omega), h, h, h]
  unfold rngAt
  by_cases k1 : k = b + i
  · subst k1
    rw [if_pos rfl]
    rw [if_neg (by omega), if_neg (by omega), if_neg (by omega), if_pos (by omega), show b + i - b + a = a + i by omega]
  · rw [if_neg k1]
    by_cases k2 : k = a + i
    · subst k2
      rw [if_pos rfl, if_neg (by omega), if_neg (by omega), if_pos (by omega), show a + i - a + b = b + i by omega]
    · rw [if_neg k2]
      by_cases k3 : a ≤ k ∧ k < a + i
      · rw [if_pos k3, if_pos (by omega)]
      · rw [if_neg k3, if_neg (show ¬ (a ≤ k ∧ k < a + (i + 1)) by omega)]
        by_cases k4 : b ≤ k ∧ k < b + i
        · rw [if_pos k4, if_pos (by omega)]
        · rw [if_neg k4, if_neg (by omega)]
/-- Rotation: what stands at an index. -/
def rotAt (l : List Nat) (a m b k : Nat) : Nat := if k < a ∨ b ≤ k then atL l k else if k < a + (b - m) then atL l (k + (m - a)) else atL l (k - (b - m))
theorem rot_big {l l' : List Nat} {m i j : Nat} (hj : 0 < j) (hi : j < i) (him : i ≤ m) (h : ∀ k, atL l' k = rngAt l (m - i) m j k) (k : Nat) : rotAt l' (m - (i - j)) m (m + j) k = rotAt l (m - i) m (m + j) k := by
  unfold rotAt
  rw [h, h, h]
  unfold rngAt
  repeat' split
  all_goals first | omega | (congr 1; done) | (congr 1; omega)
theorem rot_small {l l' : List Nat} {m i j : Nat} (hi : 0 < i) (hj : i < j) (him : i ≤ m) (h : ∀ k, atL l' k = rngAt l (m - i) (m + j - i) i k) (k : Nat) : rotAt l' (m - i) m (m + (j - i)) k = rotAt l (m - i) m (m + j) k := by
  unfold rotAt
  rw [h, h, h]
  unfold rngAt
  repeat' split
  all_goals first | omega | (congr 1; done) | (congr 1; omega)
theorem rot_same {l l' : List Nat} {m i : Nat} (hi : 0 < i) (him : i ≤ m) (h : ∀ k, atL l' k = rngAt l (m - i) m i k) (k : Nat) : atL l' k = rotAt l (m - i) m (m + i) k := by
  unfold rotAt
  rw [h]
  unfold rngAt
  repeat' split
  all_goals first | omega | (congr 1; done) | (congr 1; omega)
/-- The first element of a range is put behind others. -/
def upAt (l : List Nat) (a e k : Nat) : Nat := if a ≤ k ∧ k < e then atL l (k + 1) else if k = e then atL l a else atL l k
theorem upAt_step {l l' : List Nat} {a e : Nat} (h : ∀ k, atL l' k = upAt l a e k) (ha : a ≤ e) (hl : e + 1 < l'.length) (k : Nat) : atL (swapL l' e (e + 1)) k = upAt l a (e + 1) k := by
  rw [atL_swap (by omega) (by omega), h, h, h]
  unfold upAt
  repeat' split
  all_goals first | omega | rfl | (congr 1; done) | (congr 1; omega)
theorem upAt_zero (l : List Nat) (a k : Nat) : atL l k = upAt l a a k := by
  unfold upAt
  repeat' split
  all_goals first | omega | rfl | (congr 1; done) | (congr 1; omega)
/-- The last element of a range is put before others. -/
def dnAt (l : List Nat) (m e k : Nat) : Nat := if e < k ∧ k ≤ m then atL l (k - 1) else if k = e then atL l m else atL l k
theorem dnAt_step {l l' : List Nat} {m e : Nat} (h : ∀ k, atL l' k = dnAt l m e k) (h0 : 0 < e) (he : e ≤ m) (hl : m < l'.length) (k : Nat) : atL (swapL l' e (e - 1)) k = dnAt l m (e - 1) k := by
  rw [atL_swap (by omega) (by omega), h, h, h]
  unfold dnAt
  repeat' split
  all_goals first | omega | rfl | (congr 1; done) | (congr 1; omega)
theorem dnAt_zero (l : List Nat) (m k : Nat) : atL l k = dnAt l m m k := by
  unfold dnAt
  repeat' split
  all_goals first | omega | rfl | (congr 1; done) | (congr 1; omega)
/-- Two ranges to be merged. -/
structure Mrg (bf : Nat → Nat → Bool) (a m b : Nat) (l : List Nat) : Prop where
  lo : Srt bf a m l
  hi : Srt bf m b l
  cr : ∀ i j, a ≤ i → i < m → m ≤ j → j < b → atL l i < atL l j
theorem merge_one {bf : Nat → Nat → Bool} (o : Ord bf) {a m b i : Nat} {l l' : List Nat} (h : Mrg bf a m b l) (hm : m = a + 1) (him : m ≤ i) (hib : i ≤ b) (h1 : ∀ k, m ≤ k → k < i → bf (atL l k) (atL l a) = true) (h2 : ∀ k, i ≤ k → k < b → bf (atL l k) (atL l a) = false) (hu : ∀ k, atL l' k = upAt l a (i - 1) k) : Srt bf a b l' := by
  intro p q k1 k2 k3
  rw [hu, hu]
  unfold upAt
  by_cases p1 : a ≤ p ∧ p < i - 1
  · rw [if_pos p1]
    by_cases q1 : a ≤ q ∧ q < i - 1
    · rw [if_pos q1]; exact h.hi _ _ (by omega) (by omega) (by omega)
    · rw [if_neg q1]
      by_cases q2 : q = i - 1
      · rw [if_pos q2]; exact .inl (h1 _ (by omega) (by omega))
      · rw [if_neg q2]; exact h.hi _ _ (by omega) (by omega) (by omega)
  · rw [if_neg p1, if_neg (show ¬ (a ≤ q ∧ q < i - 1) by omega), if_neg (show ¬ q = i - 1 by omega)]
    by_cases p2 : p = i - 1
    · rw [if_pos p2]
      exact ltB_no (h.cr a q (by omega) (by omega) (by omega) (by omega)) (h2 q (by omega) k3)
    · rw [if_neg p2]; exact h.hi _ _ (by omega) (by omega) (by omega)
theorem merge_last {bf : Nat → Nat → Bool} (o : Ord bf) {a m b i : Nat} {l l' : List Nat} (h : Mrg bf a m b l) (hm : b = m + 1) (hai : a ≤ i) (him : i ≤ m) (h1 : ∀ k, a ≤ k → k < i → bf (atL l m) (atL l k) = false) (h2 : ∀ k, i ≤ k → k < m → bf (atL l m) (atL l k) = true) (hu : ∀ k, atL l' k = dnAt l m i k) : Srt bf a b l' := by
  intro p q k1 k2 k3
  rw [hu, hu]
  unfold dnAt
  by_cases q1 : i < q ∧ q ≤ m
  · rw [if_pos q1]
    by_cases p1 : i < p ∧ p ≤ m
    · rw [if_pos p1]; exact h.lo _ _ (by omega) (by omega) (by omega)
    · rw [if_neg p1]
      by_cases p2 : p = i
      · rw [if_pos p2]; exact .inl (h2 _ (by omega) (by omega))
      · rw [if_neg p2]; exact h.lo _ _ (by omega) (by omega) (by omega)
  · rw [if_neg q1, if_neg (show ¬ (i < p ∧ p ≤ m) by omega), if_neg (show ¬ p = i by omega)]
    by_cases q2 : q = i
    · rw [if_pos q2]
      exact ltB_no (h.cr p m (by omega) (by omega) (by omega) (by omega)) (h1 p k1 (by omega))
    · rw [if_neg q2]; exact h.lo _ _ (by omega) (by omega) (by omega)
/-- Symmetric merging: the cut. -/
theorem mrg_cut {bf : Nat → Nat → Bool} (o : Ord bf) {a m b mid s e : Nat} {l l' : List Nat} (h : Mrg bf a m b l) (ham : a < m) (hmb : m < b) (hmid : mid = (a + b) / 2) (hs : a ≤ s ∧ s ≤ m ∧ s ≤ mid) (he : e = mid + m - s) (heb : e ≤ b)
    (hno : s = a ∨ e = b ∨ bf (atL l e) (atL l (s - 1)) = false) (hyes : s = m ∨ e = m ∨ bf (atL l (e - 1)) (atL l s) = true) (hr : ∀ k, atL l' k = rotAt l s m e k) :
    Mrg bf a s mid l' ∧ Mrg bf mid e b l' ∧ ∀ i j, a ≤ i → i < mid → mid ≤ j → j < b → ltB bf (atL l' i) (atL l' j) := by
  have hem : m ≤ e := by omega
  have r1 : ∀ k, k < s ∨ e ≤ k → atL l' k = atL l k := fun k hk => by rw [hr]; unfold rotAt; rw [if_pos hk]
  have r2 : ∀ k, s ≤ k → k < mid → atL l' k = atL l (k + (m - s)) := fun k h1 h2 => by
    rw [hr]; unfold rotAt; rw [if_neg (by omega), if_pos (by omega)]
  have r3 : ∀ k, mid ≤ k → k < e → atL l' k = atL l (k - (e - m)) := fun k h1 h2 => by
    rw [hr]; unfold rotAt; rw [if_neg (by omega), if_neg (by omega)]
  have c1 : ∀ i j, a ≤ i → i < s → e ≤ j → j < b → ltB bf (atL l i) (atL l j) := fun i j h1 h2 h3 h4 => by
    rcases hno with x | x | x
    · omega
    · omega
    · have y := ltB_no (h.cr (s - 1) e (by omega) (by omega) (by omega) (by omega)) x
      have y2 : ltB bf (atL l i) (atL l e) := by
        by_cases z : i = s - 1
        · rw [z]; exact y
        · exact ltB_tr o (h.lo i (s - 1) (by omega) (by omega) (by omega)) y
      by_cases z : j = e
      · rw [z]; exact y2
      · exact ltB_tr o y2 (h.hi e j (by omega) (by omega) (by omega))
  have c2 : ∀ i j, m ≤ i → i < e → s ≤ j → j < m → ltB bf (atL l i) (atL l j) := fun i j h1 h2 h3 h4 => by
    rcases hyes with x | x | x
    · omega
    · omega
    · have y : ltB bf (atL l (e - 1)) (atL l s) := .inl x
      have y2 : ltB bf (atL l i) (atL l s) := by
        by_cases z : i = e - 1
        · rw [z]; exact y
        · exact ltB_tr o (h.hi i (e - 1) (by omega) (by omega) (by omega)) y
      by_cases z : j = s
      · rw [z]; exact y2
      · exact ltB_tr o y2 (h.lo s j (by omega) (by omega) (by omega))
  refine ⟨⟨?_, ?_, ?_⟩, ⟨?_, ?_, ?_⟩, ?_⟩
  · intro i j h1 h2 h3
    rw [r1 i (by omega), r1 j (by omega)]; exact h.lo i j h1 h2 (by omega)
  · intro i j h1 h2 h3
    rw [r2 i h1 (by omega), r2 j (by omega) h3]; exact h.hi _ _ (by omega) (by omega) (by omega)
  · intro i j h1 h2 h3 h4
    rw [r1 i (by omega), r2 j h3 h4]; exact h.cr _ _ h1 (by omega) (by omega) (by omega)
  · intro i j h1 h2 h3
    rw [r3 i h1 (by omega), r3 j (by omega) h3]; exact h.lo _ _ (by omega) (by omega) (by omega)
  · intro i j h1 h2 h3
    rw [r1 i (by omega), r1 j (by omega)]; exact h.hi i j (by omega) h2 h3
  · intro i j h1 h2 h3 h4
    rw [r3 i h1 h2, r1 j (by omega)]; exact h.cr _ _ (by omega) (by omega) (by omega) h4
  · intro i j h1 h2 h3 h4
    by_cases i1 : i < s
    · rw [r1 i (by omega)]
      by_cases j1 : j < e
      · rw [r3 j h3 j1]; exact h.lo _ _ h1 (by omega) (by omega)
      · rw [r1 j (by omega)]; exact c1 i j h1 i1 (by omega) h4
    · rw [r2 i (by omega) h2]
      by_cases j1 : j < e
      · rw [r3 j h3 j1]; exact c2 _ _ (by omega) (by omega) (by omega) (by omega)
      · rw [r1 j (by omega)]; exact h.hi _ _ (by omega) (by omega) h4
/-- Symmetric merging: the two halves. -/
theorem mrg_halves {bf : Nat → Nat → Bool} {a mid b : Nat} {l l1 l2 : List Nat} (hx : ∀ i j, a ≤ i → i < mid → mid ≤ j → j < b → ltB bf (atL l i) (atL l j)) (m1 : Moved a mid l l1) (s1 : Srt bf a mid l1) (m2 : Moved mid b l1 l2) (s2 : Srt bf mid b l2) : Srt bf a b l2 := by
  intro i j h1 h2 h3
  by_cases i1 : mid ≤ i
  · exact s2 i j i1 h2 h3
  · by_cases j1 : j < mid
    · rw [m2.out i (by omega), m2.out j (by omega)]; exact s1 i j h1 h2 j1
    · rw [m2.out i (by omega)]
      refine m2.sub (fun y => ltB bf (atL l1 i) y) (fun k k1 k2 => ?_) j (by omega) h3
      rw [m1.out k (by omega)]
      exact m1.sub (fun x => ltB bf x (atL l k)) (fun p p1 p2 => hx p k p1 p2 k1 k2) i h1 (by omega)
/-- Blocks, each of which holds its own numbers in order. -/
def Blocks (bf : Nat → Nat → Bool) (n s : Nat) (l : List Nat) : Prop := ∀ a, a % s = 0 → a < n → Srt bf a (min (a + s) n) l ∧ ∀ i, a ≤ i → i < min (a + s) n → a ≤ atL l i ∧ atL l i < min (a + s) n
/-- The blocks below an index are twice as great. -/
structure Half (bf : Nat → Nat → Bool) (n s c : Nat) (l : List Nat) : Prop where
  dv : c % (2 * s) = 0
  lo : ∀ a, a % (2 * s) = 0 → a < c → a < n → Srt bf a (min (a + 2 * s) n) l ∧ ∀ i, a ≤ i → i < min (a + 2 * s) n → a ≤ atL l i ∧ atL l i < min (a + 2 * s) n
  hi : ∀ a, a % s = 0 → c ≤ a → a < n → Srt bf a (min (a + s) n) l ∧ ∀ i, a ≤ i → i < min (a + s) n → a ≤ atL l i ∧ atL l i < min (a + s) n
theorem half_start {bf : Nat → Nat → Bool} {n s : Nat} {l : List Nat} (h : Blocks bf n s l) : Half bf n s 0 l :=
  ⟨by simp, fun a _ h2 => by omega, fun a h1 _ h3 => h a h1 h3⟩
theorem half_mrg {bf : Nat → Nat → Bool} {n s c : Nat} {l : List Nat} (h : Half bf n s c l) (hs : 0 < s) (hc : c + s < n) : Mrg bf c (c + s) (min (c + 2 * s) n) l := by
  have d1 : c % s = 0 := by
    have := h.dv
    have e := Nat.mod_mul_left_mod c 2 s
    rw [this] at e
    simpa using e.symm
  have d2 : (c + s) % s = 0 := by rw [Nat.add_mod_right]; exact d1
  have h1 := h.hi c d1 (Nat.le_refl _) (by omega)
  have h2 := h.hi (c + s) d2 (by omega) hc
  rw [show min (c + s) n = c + s by omega] at h1
  rw [show min (c + s + s) n = min (c + 2 * s) n by omega] at h2
  exact ⟨h1.1, h2.1, fun i j k1 k2 k3 k4 => by
    have := h1.2 i k1 k2
    have := h2.2 j k3 k4
    omega⟩
theorem half_step {bf : Nat → Nat → Bool} {n s c : Nat} {l l' : List Nat} (h : Half bf n s c l) (hs : 0 < s) (hc : c + s < n) (hm : Moved c (min (c + 2 * s) n) l l') (hsr : Srt bf c (min (c + 2 * s) n) l') : Half bf n s (c + 2 * s) l' := by
  have d1 : c % s = 0 := by
    have := h.dv
    have e := Nat.mod_mul_left_mod c 2 s
    rw [this] at e
    simpa using e.symm
  have d2 : (c + s) % s = 0 := by rw [Nat.add_mod_right]; exact d1
  have h1 := h.hi c d1 (Nat.le_refl _) (by omega)
  have h2 := h.hi (c + s) d2 (by omega) hc
  rw [show min (c + s) n = c + s by omega] at h1
  rw [show min (c + s + s) n = min (c + 2 * s) n by omega] at h2
  refine ⟨by rw [Nat.add_mod_right]; exact h.dv, fun a k1 k2 k3 => ?_, fun a k1 k2 k3 => ?_⟩
  · by_cases ac : a = c
    · subst ac
      refine ⟨hsr, fun i i1 i2 => ?_⟩
      refine hm.sub (fun x => a ≤ x ∧ x < min (a + 2 * s) n) (fun k q1 q2 => ?_) i i1 i2
      by_cases kk : k < a + s
      · have := h1.2 k q1 kk; omega
      · have := h2.2 k (by omega) q2; omega
    · have hlt : a + 2 * s ≤ c := by
        obtain ⟨x, hx⟩ := Nat.dvd_of_mod_eq_zero k1
        obtain ⟨y, hy⟩ := Nat.dvd_of_mod_eq_zero h.dv
        subst hx; subst hy
        have : x < y := by
          apply Nat.lt_of_not_le
          intro hle
          have := Nat.mul_le_mul_left (2 * s) hle
          have hne : x ≠ y := fun e => ac (by rw [e])
          have hlt2 : y + 1 ≤ x := by omega
          have := Nat.mul_le_mul_left (2 * s) hlt2
          rw [Nat.mul_add, Nat.mul_one] at this
          omega
        have := Nat.mul_le_mul_left (2 * s) (show x + 1 ≤ y from this)
        rw [Nat.mul_add, Nat.mul_one] at this
        exact this
      obtain ⟨g1, g2⟩ := h.lo a k1 (by omega) k3
      refine ⟨fun i j i1 i2 i3 => ?_, fun i i1 i2 => ?_⟩
      · rw [hm.out i (by omega), hm.out j (by omega)]; exact g1 i j i1 i2 i3
      · rw [hm.out i (by omega)]; exact g2 i i1 i2
  · obtain ⟨g1, g2⟩ := h.hi a k1 (by omega) k3
    refine ⟨fun i j i1 i2 i3 => ?_, fun i i1 i2 => ?_⟩
    · rw [hm.out i (by omega), hm.out j (by omega)]; exact g1 i j i1 i2 i3
    · rw [hm.out i (by omega)]; exact g2 i i1 i2
theorem half_end {bf : Nat → Nat → Bool} {n s c : Nat} {l : List Nat} (h : Half bf n s c l) (hs : 0 < s) (hc : n ≤ c + s) : Blocks bf n (2 * s) l := by
  intro a k1 k2
  by_cases ac : a < c
  · exact h.lo a k1 ac k2
  · have d1 : a % s = 0 := by
      have e := Nat.mod_mul_left_mod a 2 s
      rw [k1] at e
      simpa using e.symm
    have := h.hi a d1 (by omega) k2
    rw [show min (a + 2 * s) n = min (a + s) n by omega]
    exact this
/-- The blocks below an index are in order, what is above is as it was. -/
structure Part (bf : Nat → Nat → Bool) (n s c : Nat) (l : List Nat) : Prop where
  dv : c % s = 0
  lo : ∀ a, a % s = 0 → a < c → Srt bf a (a + s) l ∧ ∀ i, a ≤ i → i < a + s → a ≤ atL l i ∧ atL l i < a + s
  hi : ∀ i, c ≤ i → i < n → atL l i = i
theorem part_step {bf : Nat → Nat → Bool} {n s c : Nat} {l l' : List Nat} (h : Part bf n s c l) (hs : 0 < s) (hc : c + s ≤ n) (hm : Moved c (c + s) l l') (hsr : Srt bf c (c + s) l') : Part bf n s (c + s) l' := by
  refine ⟨by rw [Nat.add_mod_right]; exact h.dv, fun a k1 k2 => ?_, fun i h1 h2 => ?_⟩
  · by_cases ac : a = c
    · subst ac
      refine ⟨hsr, fun i i1 i2 => hm.sub (fun x => a ≤ x ∧ x < a + s) (fun k q1 q2 => ?_) i i1 i2⟩
      rw [h.hi k q1 (by omega)]; omega
    · have hlt : a + s ≤ c := by
        obtain ⟨x, hx⟩ := Nat.dvd_of_mod_eq_zero k1
        obtain ⟨y, hy⟩ := Nat.dvd_of_mod_eq_zero h.dv
        subst hx; subst hy
        have : x < y := by
          apply Nat.lt_of_not_le
          intro hle
          have hne : x ≠ y := fun e => ac (by rw [e])
          have hlt2 : y + 1 ≤ x := by omega
          have := Nat.mul_le_mul_left s hlt2
          rw [Nat.mul_add, Nat.mul_one] at this
          omega
        have := Nat.mul_le_mul_left s (show x + 1 ≤ y from this)
        rw [Nat.mul_add, Nat.mul_one] at this
        exact this
      obtain ⟨g1, g2⟩ := h.lo a k1 (by omega)
      refine ⟨fun i j i1 i2 i3 => ?_, fun i i1 i2 => ?_⟩
      · rw [hm.out i (by omega), hm.out j (by omega)]; exact g1 i j i1 i2 i3
      · rw [hm.out i (by omega)]; exact g2 i i1 i2
  · rw [hm.out i (by omega)]; exact h.hi i (by omega) h2
theorem part_end {bf : Nat → Nat → Bool} {n s c : Nat} {l l' : List Nat} (h : Part bf n s c l) (hs : 0 < s) (hc : c ≤ n) (hn : n < c + s) (hm : Moved c n l l') (hsr : Srt bf c n l') : Blocks bf n s l' := by
  intro a k1 k2
  by_cases ac : a < c
  · have hlt : a + s ≤ c := by
      obtain ⟨x, hx⟩ := Nat.dvd_of_mod_eq_zero k1
      obtain ⟨y, hy⟩ := Nat.dvd_of_mod_eq_zero h.dv
      subst hx; subst hy
      have : x < y := Nat.lt_of_mul_lt_mul_left ac
      have := Nat.mul_le_mul_left s (show x + 1 ≤ y from this)
      rw [Nat.mul_add, Nat.mul_one] at this
      exact this
    obtain ⟨g1, g2⟩ := h.lo a k1 ac
    rw [show min (a + s) n = a + s by omega]
    refine ⟨fun i j i1 i2 i3 => ?_, fun i i1 i2 => ?_⟩
    · rw [hm.out i (by omega), hm.out j (by omega)]; exact g1 i j i1 i2 i3
    · rw [hm.out i (by omega)]; exact g2 i i1 i2
  · have ac : a = c := by
      obtain ⟨x, hx⟩ := Nat.dvd_of_mod_eq_zero k1
      obtain ⟨y, hy⟩ := Nat.dvd_of_mod_eq_zero h.dv
      subst hx; subst hy
      by_cases e : y < x
      · have := Nat.mul_le_mul_left s (show y + 1 ≤ x from e)
        rw [Nat.mul_add, Nat.mul_one] at this
        omega
      · have : x ≤ y := by omega
        have := Nat.mul_le_mul_left s this
        omega
    subst ac
    rw [show min (a + s) n = n by omega]
    refine ⟨hsr, fun i i1 i2 => hm.sub (fun x => a ≤ x ∧ x < n) (fun k q1 q2 => ?_) i i1 i2⟩
    rw [h.hi k q1 q2]; omega
theorem part_start (bf : Nat → Nat → Bool) (n s : Nat) : Part bf n s 0 (List.range n) :=
  ⟨by simp, fun a _ h => by omega, fun i _ h => by unfold atL; rw [List.getElem?_range h]; rfl⟩
theorem blocks_end {bf : Nat → Nat → Bool} {n s : Nat} {l : List Nat} (h : Blocks bf n s l) (hs : n ≤ s) (hn : 0 < n) : Srt bf 0 n l := by
  have := (h 0 (by simp) hn).1
  rw [show min (0 + s) n = n by omega] at this
  exact this
/-- How many elements are before an element of a list in order. -/
theorem count_before {bf : Nat → Nat → Bool} (o : Ord bf) {n : Nat} {l : List Nat} [DecidableRel (ltB bf)] (hl : l.length = n) (hp : l.Perm (List.range n)) (hs : Srt bf 0 n l) (p : Nat) (hpn : p < n) : (List.range n).countP (fun k => decide (ltB bf k (atL l p))) = p := by
  rw [← hp.countP_eq]
  have h1 : l = l.take p ++ l.drop p := (List.take_append_drop p l).symm
  rw [h1, List.countP_append]
  rw [List.take_append_drop]
  have e1 : (l.take p).countP (fun k => decide (ltB bf k (atL l p))) = (l.take p).length := by
    rw [List.countP_eq_length]
    intro x hx
    obtain ⟨i, hi⟩ := List.mem_iff_getElem?.1 hx
    have hip : i < p := by
      have := (List.getElem?_eq_some_iff.1 hi).1
      simp at this; omega
    rw [List.getElem?_take_of_lt hip, atL_get (by omega)] at hi
    injection hi with hi
    rw [← hi]
    simpa using hs i p (by omega) hip hpn
  have e2 : (l.drop p).countP (fun k => decide (ltB bf k (atL l p))) = 0 := by
    rw [List.countP_eq_zero]
    intro x hx
    obtain ⟨i, hi⟩ := List.mem_iff_getElem?.1 hx
    rw [List.getElem?_drop] at hi
    have hip : p + i < n := by
      have := (List.getElem?_eq_some_iff.1 hi).1
      omega
    rw [atL_get (by omega)] at hi
    injection hi with hi
    rw [← hi]
    simp only [decide_eq_true_eq]
    intro h
    by_cases e : i = 0
    · subst e; exact ltB_irr o _ h
    · exact ltB_irr o _ (ltB_tr o h (hs p (p + i) (by omega) (by omega) hip))
  rw [e1, e2, List.length_take]
  omega
end Go.Proofs.YtjmkcckbbgpkeaaGreatDoor


namespace Go.Proofs.YtjmkcckbbgpkeaaGreatDoor
open Go.RowKit
/-- A row of numbers in a block of its own. -/
def NRow (w : World) (g : Nat) (l : List Nat) : Prop := ∃ cs : Array Value, Blk w g 3 cs ∧ ∀ i, i < l.length → cs[i]? = some (.int .i64 ((atL l i : Nat) : Int))
theorem NRow.keep {w w' : World} {g : Nat} {l : List Nat} (h : NRow w g l) (hx : Ext w w') : NRow w' g l := by
  obtain ⟨cs, h1, h2⟩ := h
  exact ⟨cs, h1.keep hx, h2⟩
theorem NRow.cell {w : World} {g : Nat} {l : List Nat} (h : NRow w g l) {i : Nat} (hi : i < l.length) : w.cell? ⟨g, i, none⟩ = some (.int .i64 ((atL l i : Nat) : Int)) := by
  obtain ⟨cs, h1, h2⟩ := h
  rw [h1.cell]; exact h2 i hi
theorem NRow.lt {w : World} {g : Nat} {l : List Nat} (h : NRow w g l) : g < w.heap.size := by
  obtain ⟨cs, h1, _⟩ := h
  exact h1.lt
theorem NRow.frozen {w : World} {g : Nat} {l : List Nat} (h : NRow w g l) (i : Nat) : w.frozen? ⟨g, i, none⟩ = false := by
  obtain ⟨cs, h1, _⟩ := h
  exact h1.frozen i
theorem NRow.put {w : World} {g : Nat} {l : List Nat} (h : NRow w g l) {i : Nat} (v : Nat) (hi : i < l.length) : NRow (w.setCell ⟨g, i, none⟩ (.int .i64 ((v : Nat) : Int))) g (l.set i v) := by
  obtain ⟨cs, h1, h2⟩ := h
  refine ⟨_, h1.set_ i _, fun k hk => ?_⟩
  rw [List.length_set] at hk
  rw [atL_set _ _ _ _ hi, Array.getElem?_setIfInBounds]
  have hs := (Array.getElem?_eq_some_iff.1 (h2 i hi)).1
  by_cases e : i = k
  · subst e; rw [if_pos rfl, if_pos hs, if_pos rfl]
  · rw [if_neg e, if_neg (fun h => e h.symm)]; exact h2 k hk
theorem NRow.swap {w : World} {g : Nat} {l : List Nat} (h : NRow w g l) {i j : Nat} (hi : i < l.length) (hj : j < l.length) : NRow ((w.setCell ⟨g, i, none⟩ (.int .i64 ((atL l j : Nat) : Int))).setCell ⟨g, j, none⟩ (.int .i64 ((atL l i : Nat) : Int))) g (swapL l i j) :=
  (h.put (atL l j) hi).put (atL l i) (by rw [List.length_set]; exact hj)
/-- What the comparison of two indices returns. -/
def cvQ (qs : List Rat) (i k : Nat) : Int := cmpQ (qs[k]?.getD 0) (qs[i]?.getD 0)
/-- Ranges change places, under way. -/
structure SwS (w0 wr : World) (g : Nat) (l l' : List Nat) (a b n i : Nat) : Prop where
  at_ : ∀ k, atL l' k = rngAt l a b i k
  mv : Moved a (b + n) l l'
  row : NRow wr g l'
  ext : Ext w0 wr
theorem SwS.step {w0 wr : World} {g : Nat} {l l' : List Nat} {a b n i : Nat} (h : SwS w0 wr g l l' a b n i) (hi : i < n) (hab : a + n ≤ b) (hb : b + n ≤ l.length) (hg : w0.heap.size ≤ g) :
    SwS w0 ((wr.setCell ⟨g, a + i, none⟩ (.int .i64 ((atL l' (b + i) : Nat) : Int))).setCell ⟨g, b + i, none⟩ (.int .i64 ((atL l' (a + i) : Nat) : Int))) g l (swapL l' (a + i) (b + i)) a b n (i + 1) := by
  have hl := h.mv.len
  exact ⟨rngAt_step h.at_ (by omega) (by omega), h.mv.trans (Moved.swap (by omega) (by omega) (by omega)), h.row.swap (by omega) (by omega), (h.ext.set_ (p := ⟨g, a + i, none⟩) hg _).set_ (p := ⟨g, b + i, none⟩) hg _⟩
theorem SwS.keep {w0 wr w' : World} {g : Nat} {l l' : List Nat} {a b n i : Nat} (h : SwS w0 wr g l l' a b n i) (hx : Ext wr w') : SwS w0 w' g l l' a b n i := ⟨h.at_, h.mv, h.row.keep hx, h.ext.tr hx⟩
theorem rngAt_zero (l : List Nat) (a b k : Nat) : atL l k = rngAt l a b 0 k := by
  unfold rngAt
  rw [if_neg (by omega), if_neg (by omega)]
end Go.Proofs.YtjmkcckbbgpkeaaGreatDoor


namespace Go.Proofs.YtjmkcckbbgpkeaaGreatDoor
open Go.RowKit
def bfV (cv : Nat → Nat → Int) (x y : Nat) : Bool := decide (cv x y < 0)
/-- Insertion sort, the outer loop under way. -/
structure OutS (w0 wr : World) (g : Nat) (bf : Nat → Nat → Bool) (l l' : List Nat) (a i : Nat) : Prop where
  mv : Moved a i l l'
  srt : Srt bf a i l'
  row : NRow wr g l'
  ext : Ext w0 wr
structure InnS (w0 wr : World) (g : Nat) (bf : Nat → Nat → Bool) (l l' : List Nat) (a i j : Nat) : Prop where
  mv : Moved a (i + 1) l l'
  ins : Ins bf a i j l'
  row : NRow wr g l'
  ext : Ext w0 wr
theorem InnS.keep {w0 wr w' : World} {g : Nat} {bf : Nat → Nat → Bool} {l l' : List Nat} {a i j : Nat} (h : InnS w0 wr g bf l l' a i j) (hx : Ext wr w') : InnS w0 w' g bf l l' a i j := ⟨h.mv, h.ins, h.row.keep hx, h.ext.tr hx⟩
theorem OutS.inn {w0 wr : World} {g : Nat} {bf : Nat → Nat → Bool} {l l' : List Nat} {a b i : Nat} (h : OutS w0 wr g bf l l' a i) (hid : ∀ k, a ≤ k → k < b → atL l k = k) (hai : a ≤ i) (hib : i < b) : InnS w0 wr g bf l l' a i i := by
  refine ⟨h.mv.mono (Nat.le_refl _) (by omega), ⟨fun p q h1 h2 h3 h4 => h.srt p q h1 h2 (by omega), fun k h1 h2 h3 => ?_⟩, h.row, h.ext⟩
  rw [h.mv.out i (by omega), hid i hai hib]
  exact h.mv.sub (fun x => x < i) (fun p p1 p2 => by rw [hid p p1 (by omega)]; exact p2) k h1 (by omega)
theorem InnS.step {w0 wr : World} {g : Nat} {bf : Nat → Nat → Bool} {l l' : List Nat} {a i j : Nat} (h : InnS w0 wr g bf l l' a i j) (hj : a < j) (hji : j ≤ i) (hil : i < l.length) (hb : bf (atL l' j) (atL l' (j - 1)) = true) (hg : w0.heap.size ≤ g) :
    InnS w0 ((wr.setCell ⟨g, j, none⟩ (.int .i64 ((atL l' (j - 1) : Nat) : Int))).setCell ⟨g, j - 1, none⟩ (.int .i64 ((atL l' j : Nat) : Int))) g bf l (swapL l' j (j - 1)) a i (j - 1) := by
  have hl := h.mv.len
  exact ⟨h.mv.trans (Moved.swap (by omega) (by omega) (by omega)), h.ins.step hj hji (by omega) hb, h.row.swap (by omega) (by omega), (h.ext.set_ (p := ⟨g, j, none⟩) hg _).set_ (p := ⟨g, j - 1, none⟩) hg _⟩
theorem InnS.stop {w0 wr : World} {g : Nat} {bf : Nat → Nat → Bool} {l l' : List Nat} {a i j : Nat} (o : Ord bf) (h : InnS w0 wr g bf l l' a i j) (hj : a ≤ j) (hji : j ≤ i) (hb : j = a ∨ bf (atL l' j) (atL l' (j - 1)) = false) : OutS w0 wr g bf l l' a (i + 1) :=
  ⟨h.mv, h.ins.stop o hj hji hb, h.row, h.ext⟩
theorem InnS.lt {w0 wr : World} {g : Nat} {bf : Nat → Nat → Bool} {l l' : List Nat} {a b i j : Nat} (h : InnS w0 wr g bf l l' a i j) (hid : ∀ k, a ≤ k → k < b → atL l k = k) (hib : i < b) {k : Nat} (h1 : a ≤ k) (h2 : k ≤ i) : atL l' k < b :=
  h.mv.sub (fun x => x < b) (fun p p1 p2 => by rw [hid p p1 (by omega)]; omega) k h1 (by omega)
end Go.Proofs.YtjmkcckbbgpkeaaGreatDoor


namespace Go.Proofs.YtjmkcckbbgpkeaaGreatDoor
open Go.RowKit
theorem bf_left {bf : Nat → Nat → Bool} (o : Ord bf) {x y z : Nat} (h : ltB bf x y) (h2 : bf y z = true) : bf x z = true := by
  rcases h with h | ⟨h, _⟩
  · exact o.tr _ _ _ h h2
  · cases e : bf x z
    · have := o.eqv _ _ _ h e
      rw [this] at h2; cases h2
    · rfl
theorem bf_right {bf : Nat → Nat → Bool} (o : Ord bf) {x y z : Nat} (h : ltB bf x y) (h2 : bf z x = true) : bf z y = true := by
  rcases h with h | ⟨h, _⟩
  · exact o.tr _ _ _ h2 h
  · cases e : bf z y
    · have := o.eqv _ _ _ e h
      rw [this] at h2; cases h2
    · rfl
/-- Binary search, under way. -/
structure BsS (P : Nat → Bool) (lo hi i j : Nat) : Prop where
  li : lo ≤ i
  ij : i ≤ j
  jh : j ≤ hi
  yes : ∀ k, lo ≤ k → k < i → P k = true
  no : ∀ k, j ≤ k → k < hi → P k = false
theorem BsS.start (P : Nat → Bool) {lo hi : Nat} (h : lo ≤ hi) : BsS P lo hi lo hi := ⟨Nat.le_refl _, h, Nat.le_refl _, fun k h1 h2 => by omega, fun k h1 h2 => by omega⟩
theorem BsS.up {P : Nat → Bool} {lo hi i j : Nat} (h : BsS P lo hi i j) (hm : ∀ k k', lo ≤ k → k < k' → k' < hi → P k' = true → P k = true) {c : Nat} (hc : c = (i + j) / 2) (hij : i < j) (hp : P c = true) : BsS P lo hi (c + 1) j :=
  have h1 := h.li
  have h2 := h.jh
  ⟨by omega, by omega, h2, fun k k1 k2 => by
    by_cases e : k = c
    · rw [e]; exact hp
    · exact hm k c k1 (by omega) (by omega) hp, h.no⟩
theorem BsS.down {P : Nat → Bool} {lo hi i j : Nat} (h : BsS P lo hi i j) (hm : ∀ k k', lo ≤ k → k < k' → k' < hi → P k' = true → P k = true) {c : Nat} (hc : c = (i + j) / 2) (hij : i < j) (hp : P c = false) : BsS P lo hi i c :=
  have h1 := h.li
  have h2 := h.jh
  ⟨h1, by omega, by omega, h.yes, fun k k1 k2 => by
    by_cases e : k = c
    · rw [e]; exact hp
    · cases ek : P k
      · rfl
      · have := hm c k (by omega) (by omega) k2 ek
        rw [this] at hp; cases hp⟩
/-- Rotation, under way. -/
structure RoS (w0 wr : World) (g : Nat) (l l' : List Nat) (a m b i j : Nat) : Prop where
  at_ : ∀ k, rotAt l' (m - i) m (m + j) k = rotAt l a m b k
  mv : Moved a b l l'
  row : NRow wr g l'
  ext : Ext w0 wr
end Go.Proofs.YtjmkcckbbgpkeaaGreatDoor
