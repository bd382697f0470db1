/- The cheapest path that the search of pricing.Cheapest finds is the first one of all loopless paths (plain). -/
import Derived.Test.YtjmkcckbbgpkeaaGreatDoorScaleP
import Derived.Test.YtjmkcckbbgpkeaaGreatDoorChLen
set_option linter.unusedVariables false
set_option linter.unusedSimpArgs false

set_option linter.unusedVariables false
set_option linter.unusedSimpArgs false
namespace Go.Proofs.YtjmkcckbbgpkeaaGreatDoor
open Go.RowKit
theorem rat_lt_trans {a b c : Rat} (h1 : a < b) (h2 : b < c) : a < c := by
  have h3 := Rat.le_trans (Rat.le_of_lt h1) (Rat.le_of_lt h2)
  refine Rat.lt_of_le_of_ne h3 ?_
  rintro rfl
  exact (Rat.not_lt.2 (Rat.le_of_lt h1)) h2
theorem rat_tri (a b : Rat) : a < b ∨ a = b ∨ b < a := by
  by_cases h : a < b
  · exact .inl h
  · by_cases h2 : b < a
    · exact .inr (.inr h2)
    · exact .inr (.inl (Rat.le_antisymm (Rat.not_lt.1 h2) (Rat.not_lt.1 h)))
/-- The order of paths, in words. -/
theorem bef_iff (ps : List Rat) (x y : List Nat) : befP ps x y = true ↔ prQ ps x < prQ ps y ∨ (prQ ps x = prQ ps y ∧ (x.length < y.length ∨ (x.length = y.length ∧ lexI x y < 0))) := by
  unfold befP cmpL or3 cmpQ cmpI
  rw [decide_eq_true_iff]
  by_cases h1 : prQ ps x < prQ ps y
  · simp [h1]
  · by_cases h2 : prQ ps x = prQ ps y
    · by_cases h3 : x.length < y.length
      · simp [h1, h2, h3, Rat.lt_irrefl]
      · by_cases h4 : x.length = y.length
        · simp [h1, h2, h3, h4, Rat.lt_irrefl]
        · simp [h1, h2, h3, h4, Rat.lt_irrefl]
    · simp [h1, h2]
theorem lexI_anti : ∀ x y : List Nat, x.length = y.length → ¬ lexI x y < 0 → ¬ lexI y x < 0 → x = y
  | [], [], _, _, _ => rfl
  | a :: x, b :: y, hl, h1, h2 => by
    unfold lexI at h1 h2
    by_cases e : a < b
    · rw [if_pos e] at h1; omega
    · by_cases e2 : a = b
      · subst e2
        simp at h1 h2 hl
        rw [lexI_anti x y hl (by omega) (by omega)]
      · rw [if_pos (by omega)] at h2; omega
theorem lexI_total : ∀ x y : List Nat, x.length = y.length → x = y ∨ lexI x y < 0 ∨ lexI y x < 0 := fun x y h => by
  by_cases h1 : lexI x y < 0
  · exact .inr (.inl h1)
  · by_cases h2 : lexI y x < 0
    · exact .inr (.inr h2)
    · exact .inl (lexI_anti x y h h1 h2)
theorem lexI_trans : ∀ x y z : List Nat, x.length = y.length → y.length = z.length → lexI x y < 0 → lexI y z < 0 → lexI x z < 0
  | [], [], [], _, _, h, _ => h
  | a :: x, b :: y, c :: z, hl, hl2, h1, h2 => by
    unfold lexI at h1 h2 ⊢
    simp only [List.length_cons] at hl hl2
    by_cases e1 : a < b <;> by_cases e2 : b < c <;> by_cases e3 : a = b <;> by_cases e4 : b = c <;> simp [e1, e2, e3, e4] at h1 h2 ⊢ <;> try omega
    · subst e3 e4
      exact lexI_trans x y z (by omega) (by omega) h1 h2
theorem lexI_irrefl : ∀ x : List Nat, lexI x x = 0
  | [] => rfl
  | a :: x => by unfold lexI; simp [lexI_irrefl x]
theorem lexI_app : ∀ (x y z : List Nat), x.length = y.length → lexI x y < 0 → lexI (x ++ z) (y ++ z) < 0
  | [], [], _, _, h => by simp [lexI] at h
  | a :: x, b :: y, z, hl, h => by
    simp only [List.cons_append]
    unfold lexI at h ⊢
    by_cases e : a < b
    · simp [e]
    · by_cases e2 : a = b
      · subst e2
        simp at h ⊢
        exact lexI_app x y z (by simpa using hl) h
      · simp [e, e2] at h
/-- At most: not behind. -/
def leL (ps : List Rat) (x y : List Nat) : Prop := befP ps y x = false
theorem leL_iff (ps : List Rat) (x y : List Nat) : leL ps x y ↔ x = y ∨ befP ps x y = true := by
  unfold leL
  constructor
  · intro h
    have h' : ¬ befP ps y x = true := by simp [h]
    rw [bef_iff] at h'
    rcases rat_tri (prQ ps x) (prQ ps y) with h1 | h1 | h1
    · exact .inr ((bef_iff ps x y).2 (.inl h1))
    · rcases Nat.lt_trichotomy x.length y.length with h2 | h2 | h2
      · exact .inr ((bef_iff ps x y).2 (.inr ⟨h1, .inl h2⟩))
      · rcases lexI_total x y h2 with h3 | h3 | h3
        · exact .inl h3
        · exact .inr ((bef_iff ps x y).2 (.inr ⟨h1, .inr ⟨h2, h3⟩⟩))
        · exact absurd (.inr ⟨h1.symm, .inr ⟨h2.symm, h3⟩⟩) h'
      · exact absurd (.inr ⟨h1.symm, .inl h2⟩) h'
    · exact absurd (.inl h1) h'
  · intro h
    apply Bool.eq_false_iff.2
    intro hb
    rw [bef_iff] at hb
    rcases h with h | h
    · subst h
      rcases hb with h1 | ⟨_, h1 | ⟨_, h1⟩⟩
      · exact Rat.lt_irrefl h1
      · omega
      · rw [lexI_irrefl] at h1; omega
    · rw [bef_iff] at h
      rcases h with h1 | ⟨h1, h2⟩
      · rcases hb with h3 | ⟨h3, _⟩
        · exact Rat.lt_irrefl (rat_lt_trans h1 h3)
        · rw [h3] at h1; exact Rat.lt_irrefl h1
      · rcases hb with h3 | ⟨_, h3⟩
        · rw [h1] at h3; exact Rat.lt_irrefl h3
        · rcases h2 with h2 | ⟨h2, h4⟩ <;> rcases h3 with h3 | ⟨h3, h5⟩ <;> try omega
          have := lexI_trans x y x h2 h3 h4 h5
          rw [lexI_irrefl] at this; omega
theorem bef_trans {ps : List Rat} {x y z : List Nat} (h1 : befP ps x y = true) (h2 : befP ps y z = true) : befP ps x z = true := by
  rw [bef_iff] at *
  rcases h1 with h1 | ⟨h1, h1'⟩ <;> rcases h2 with h2 | ⟨h2, h2'⟩
  · exact .inl (rat_lt_trans h1 h2)
  · exact .inl (by rw [← h2]; exact h1)
  · exact .inl (by rw [h1]; exact h2)
  · refine .inr ⟨h1.trans h2, ?_⟩
    rcases h1' with h1' | ⟨h1', g1⟩ <;> rcases h2' with h2' | ⟨h2', g2⟩
    · exact .inl (by omega)
    · exact .inl (by omega)
    · exact .inl (by omega)
    · exact .inr ⟨by omega, lexI_trans x y z h1' h2' g1 g2⟩
theorem leL.refl (ps : List Rat) (x : List Nat) : leL ps x x := (leL_iff ps x x).2 (.inl rfl)
theorem leL.trans {ps : List Rat} {x y z : List Nat} (h1 : leL ps x y) (h2 : leL ps y z) : leL ps x z := by
  rw [leL_iff] at *
  rcases h1 with rfl | h1
  · exact h2
  · rcases h2 with rfl | h2
    · exact .inr h1
    · exact .inr (bef_trans h1 h2)
theorem leL.anti {ps : List Rat} {x y : List Nat} (h1 : leL ps x y) (h2 : leL ps y x) : x = y := by
  rcases (leL_iff ps x y).1 h1 with h | h
  · exact h
  · unfold leL at h2; rw [h] at h2; cases h2
theorem leL.of_bef {ps : List Rat} {x y : List Nat} (h : befP ps x y = true) : leL ps x y := (leL_iff ps x y).2 (.inr h)
theorem leL.of_not {ps : List Rat} {x y : List Nat} (h : ¬ befP ps x y = true) : leL ps y x := by unfold leL; simpa using h
theorem prQ_app (ps : List Rat) (x y : List Nat) : prQ ps (x ++ y) = prQ ps x + prQ ps y := by
  have key : ∀ (l : List Nat) (s : Rat), l.foldl (fun s a => s + ps[a]?.getD 0) s = s + prQ ps l := by
    intro l
    unfold prQ
    induction l with
    | nil => intro s; simp [Rat.add_zero]
    | cons a l ih => intro s; rw [List.foldl_cons, List.foldl_cons, ih, ih (0 + _), Rat.zero_add, Rat.add_assoc]
  unfold prQ
  rw [List.foldl_append, key]
  rfl
/-- No price is below 0. -/
def posQ (ps : List Rat) : Prop := ∀ a : Nat, (0 : Rat) ≤ ps[a]?.getD 0
theorem prQ_pos {ps : List Rat} (h : posQ ps) : ∀ x : List Nat, 0 ≤ prQ ps x := by
  intro x
  induction x with
  | nil => exact Rat.le_refl
  | cons a x ih =>
    rw [show a :: x = [a] ++ x from rfl, prQ_app]
    have : prQ ps [a] = 0 + ps[a]?.getD 0 := rfl
    rw [this, Rat.zero_add]
    have h1 := Rat.add_le_add_left (c := prQ ps x) |>.2 (h a)
    rw [Rat.add_zero, Rat.add_comm] at h1
    exact Rat.le_trans ih h1
theorem bef_cut {ps : List Rat} (h : posQ ps) (x y z : List Nat) (hy : y ≠ []) : befP ps (x ++ z) (x ++ y ++ z) = true := by
  rw [bef_iff]
  have h1 : prQ ps (x ++ z) ≤ prQ ps (x ++ y ++ z) := by
    rw [prQ_app, prQ_app, prQ_app]
    have h2 := Rat.add_le_add_left (c := prQ ps x) |>.2 (prQ_pos h y)
    rw [Rat.add_zero] at h2
    exact (Rat.add_le_add_right (c := prQ ps z)).2 h2
  have h3 : (x ++ z).length < (x ++ y ++ z).length := by
    have := List.length_pos_iff.2 hy
    simp; omega
  by_cases h4 : prQ ps (x ++ z) = prQ ps (x ++ y ++ z)
  · exact .inr ⟨h4, .inl h3⟩
  · exact .inl (Rat.lt_of_le_of_ne h1 h4)
theorem leL.ext {ps : List Rat} (h : posQ ps) (x y : List Nat) : leL ps x (x ++ y) := by
  by_cases hy : y = []
  · subst hy; rw [List.append_nil]; exact leL.refl ps x
  · have := bef_cut h x y [] hy
    simp at this
    exact leL.of_bef this
theorem leL.app {ps : List Rat} {x y : List Nat} (h : leL ps x y) (z : List Nat) : leL ps (x ++ z) (y ++ z) := by
  rcases (leL_iff ps x y).1 h with rfl | h
  · exact leL.refl _ _
  · apply leL.of_bef
    rw [bef_iff] at *
    rw [prQ_app, prQ_app]
    rcases h with h | ⟨h, h'⟩
    · exact .inl (Rat.add_lt_add_right.2 h)
    · refine .inr ⟨by rw [h], ?_⟩
      rcases h' with h' | ⟨h', g⟩
      · exact .inl (by simp; omega)
      · exact .inr ⟨by simp; omega, lexI_app x y z h' g⟩
theorem leL.nil {ps : List Rat} (h : posQ ps) (x : List Nat) : leL ps [] x := by
  have := leL.ext h [] x
  simpa using this
/-- A walk of usable arcs. -/
def FW (t : Tp) (down : List Bool) (d : Nat) : Nat → List Nat → Nat → Prop
  | u, [], v => u = v
  | u, a :: p, v => a ∈ leavP t u ∧ usableP t down a d = true ∧ FW t down d (headP t a).toNat p v
theorem FW.app {t : Tp} {down : List Bool} {d : Nat} : ∀ (p : List Nat) {q : List Nat} {u v x : Nat}, FW t down d u p v → FW t down d v q x → FW t down d u (p ++ q) x
  | [], _, _, _, _, h1, h2 => by
    have h1 : _ = _ := h1
    subst h1; exact h2
  | _ :: p, _, _, _, _, h1, h2 => ⟨h1.1, h1.2.1, FW.app p h1.2.2 h2⟩
theorem FW.snoc_inv {t : Tp} {down : List Bool} {d : Nat} : ∀ (p : List Nat) {a u v : Nat}, FW t down d u (p ++ [a]) v → ∃ m, FW t down d u p m ∧ a ∈ leavP t m ∧ usableP t down a d = true ∧ v = (headP t a).toNat
  | [], a, u, v, h => ⟨u, rfl, h.1, h.2.1, h.2.2.symm⟩
  | b :: p, a, u, v, h => by
    obtain ⟨m, h1, h2⟩ := FW.snoc_inv p h.2.2
    exact ⟨m, ⟨h.1, h.2.1, h1⟩, h2⟩
theorem FW.one {t : Tp} {down : List Bool} {d a u : Nat} (h1 : a ∈ leavP t u) (h2 : usableP t down a d = true) : FW t down d u [a] (headP t a).toNat := ⟨h1, h2, rfl⟩
theorem leav_head {t : Tp} (hv : validP t = true) {n a : Nat} (h : a ∈ leavP t n) : 0 ≤ headP t a ∧ headP t a < t.nodes ∧ (headP t a).toNat < t.nodes.toNat ∧ tailP t a = (n : Int) := by
  unfold leavP leavTo at h
  rw [List.mem_filter, List.mem_range] at h
  obtain ⟨h1, h2⟩ := h
  have h2 : tailP t a = (n : Int) := by simpa using h2
  have hl : a / 2 < t.links.length := by omega
  unfold validP at hv
  rw [Bool.and_eq_true, List.all_eq_true] at hv
  have hok := hv.2 _ (List.getElem_mem hl)
  unfold Lk.ok ndB at hok
  simp at hok
  have : 0 ≤ headP t a ∧ headP t a < t.nodes := by
    unfold headP
    rw [List.getElem?_eq_getElem hl]
    simp only []
    split <;> omega
  exact ⟨this.1, this.2, by omega, h2⟩
theorem leav_uniq {t : Tp} {n m a : Nat} (h : a ∈ leavP t n) (h2 : a ∈ leavP t m) : n = m := by
  unfold leavP leavTo at h h2
  rw [List.mem_filter] at h h2
  have h3 := h.2
  have h4 := h2.2
  simp at h3 h4
  omega
/-- The first node is known, not done, and at most each other one. -/
theorem firstTo_min (ps : List Rat) (ls : List Lb) : ∀ k, ∀ (m : Nat) (l : Lb), m < k → ls[m]? = some l → l.known = true → l.done = false → 0 ≤ firstTo ps ls k ∧ leL ps (arcsOf ls (firstTo ps ls k).toNat) l.arcs
  | 0, m, _, h, _, _, _ => by omega
  | k + 1, m, l, hm, hl, h1, h2 => by
    have ih := firstTo_min ps ls k m l
    by_cases e : m = k
    · subst e
      unfold firstTo
      rw [hl]
      simp only [h1, h2, Bool.not_false, Bool.and_true, Bool.true_and]
      split
      · refine ⟨by omega, ?_⟩
        rw [Int.toNat_natCast]
        unfold arcsOf
        rw [hl]
        exact leL.refl _ _
      · rename_i hc
        simp only [Bool.or_eq_true, not_or, decide_eq_true_eq] at hc
        refine ⟨by omega, leL.of_not (by exact hc.2)⟩
    · obtain ⟨i1, i2⟩ := ih (by omega) hl h1 h2
      unfold firstTo
      split
      · exact ⟨i1, i2⟩
      · rename_i lk hk
        split
        · rename_i hc
          refine ⟨by omega, ?_⟩
          rw [Int.toNat_natCast]
          simp only [Bool.and_eq_true, Bool.or_eq_true, decide_eq_true_eq] at hc
          have hb : befP ps lk.arcs ((ls[(firstTo ps ls k).toNat]?.map Lb.arcs).getD []) = true := by
            rcases hc.2 with h | h
            · omega
            · exact h
          have : arcsOf ls k = lk.arcs := by unfold arcsOf; rw [hk]; rfl
          rw [this]
          exact (leL.of_bef hb).trans i2
        · exact ⟨i1, i2⟩
theorem first_min {ps : List Rat} {ls : List Lb} {m : Nat} {l : Lb} (hl : ls[m]? = some l) (h1 : l.known = true) (h2 : l.done = false) : 0 ≤ firstP ps ls ∧ leL ps (arcsOf ls (firstP ps ls).toNat) l.arcs :=
  firstTo_min ps ls _ m l (List.getElem?_eq_some_iff.1 hl).1 hl h1 h2
/-- What holds between two rounds. -/
structure DI (t : Tp) (down : List Bool) (ps : List Rat) (s d : Nat) (ls : List Lb) : Prop where
  len : ls.length = t.nodes.toNat
  walk : ∀ (v : Nat) (l : Lb), ls[v]? = some l → l.known = true → FW t down d s l.arcs v
  src : ∃ l, ls[s]? = some l ∧ l.known = true ∧ l.arcs = []
  dd : ∀ l, ls[d]? = some l → l.done = false
  kn : ∀ (v : Nat) (l : Lb), ls[v]? = some l → l.done = true → l.known = true
  lo : ∀ (v m : Nat) (l k : Lb), ls[v]? = some l → l.done = true → ls[m]? = some k → k.known = true → k.done = false → leL ps l.arcs k.arcs
  step : ∀ (u a : Nat) (l : Lb), ls[u]? = some l → l.done = true → a ∈ leavP t u → usableP t down a d = true → ∃ k, ls[(headP t a).toNat]? = some k ∧ k.known = true ∧ leL ps k.arcs (l.arcs ++ [a])
/-- Each walk is at least the label of a done node where it ends, or of one that is known and not done. -/
theorem DI.low {t : Tp} {down : List Bool} {ps : List Rat} {s d : Nat} {ls : List Lb} (h : DI t down ps s d ls) (hp : posQ ps) : ∀ (n : Nat) (p : List Nat) (v : Nat), p.length = n → FW t down d s p v →
    (∃ l, ls[v]? = some l ∧ l.done = true ∧ leL ps l.arcs p) ∨ (∃ (m : Nat) (k : Lb), ls[m]? = some k ∧ k.known = true ∧ k.done = false ∧ leL ps k.arcs p)
  | 0, p, v, hn, hw => by
    have : p = [] := List.length_eq_zero_iff.1 hn
    subst this
    have hw : s = v := hw
    subst hw
    obtain ⟨l, h1, h2, h3⟩ := h.src
    cases hd : l.done
    · exact .inr ⟨s, l, h1, h2, hd, by rw [h3]; exact leL.refl _ _⟩
    · exact .inl ⟨l, h1, hd, by rw [h3]; exact leL.refl _ _⟩
  | n + 1, p, v, hn, hw => by
    obtain ⟨q, a, rfl⟩ : ∃ q a, p = q ++ [a] := by
      have : p ≠ [] := by rintro rfl; simp at hn
      exact ⟨p.dropLast, p.getLast this, (List.dropLast_concat_getLast this).symm⟩
    obtain ⟨u, h1, h2, h3, rfl⟩ := FW.snoc_inv q hw
    rcases h.low hp n q u (by simpa using hn) h1 with ⟨l, k1, k2, k3⟩ | ⟨m, k, k1, k2, k3, k4⟩
    · obtain ⟨k, j1, j2, j3⟩ := h.step u a l k1 k2 h2 h3
      have hle := j3.trans (k3.app [a])
      cases hd : k.done
      · exact .inr ⟨_, k, j1, j2, hd, hle⟩
      · exact .inl ⟨k, j1, hd, hle⟩
    · exact .inr ⟨m, k, k1, k2, k3, k4.trans (leL.ext hp q [a])⟩
/-- What holds while the arcs of a node are looked at. -/
structure DJ (t : Tp) (down : List Bool) (ps : List Rat) (s d n : Nat) (X : List Nat) (done : List Nat) (ls : List Lb) : Prop where
  len : ls.length = t.nodes.toNat
  walk : ∀ (v : Nat) (l : Lb), ls[v]? = some l → l.known = true → FW t down d s l.arcs v
  src : ∃ l, ls[s]? = some l ∧ l.known = true ∧ l.arcs = []
  dd : ∀ l, ls[d]? = some l → l.done = false
  kn : ∀ (v : Nat) (l : Lb), ls[v]? = some l → l.done = true → l.known = true
  lo : ∀ (v m : Nat) (l k : Lb), ls[v]? = some l → l.done = true → ls[m]? = some k → k.known = true → k.done = false → leL ps l.arcs k.arcs
  step : ∀ (u a : Nat) (l : Lb), u ≠ n → ls[u]? = some l → l.done = true → a ∈ leavP t u → usableP t down a d = true → ∃ k, ls[(headP t a).toNat]? = some k ∧ k.known = true ∧ leL ps k.arcs (l.arcs ++ [a])
  own : ∃ l, ls[n]? = some l ∧ l.done = true ∧ l.known = true ∧ l.arcs = X
  all : ∀ (v : Nat) (l : Lb), ls[v]? = some l → l.done = true → leL ps l.arcs X
  past : ∀ a ∈ done, usableP t down a d = true → ∃ k, ls[(headP t a).toNat]? = some k ∧ k.known = true ∧ leL ps k.arcs (X ++ [a])
theorem DI.mark {t : Tp} {down : List Bool} {ps : List Rat} {s d : Nat} {ls : List Lb} (h : DI t down ps s d ls) (h0 : 0 ≤ firstP ps ls) (hd : (firstP ps ls).toNat ≠ d) :
    DJ t down ps s d (firstP ps ls).toNat (arcsOf ls (firstP ps ls).toNat) [] (markP ls (firstP ps ls).toNat) := by
  obtain ⟨l, h1, h2, h3⟩ := first_fresh ps ls ls.length h0
  have h1 : ls[(firstP ps ls).toNat]? = some l := h1
  have hmin : ∀ (m : Nat) (k : Lb), ls[m]? = some k → k.known = true → k.done = false → leL ps l.arcs k.arcs := fun m k e1 e2 e3 => by
    have := (first_min (ps := ps) e1 e2 e3).2
    unfold arcsOf at this
    rw [h1] at this
    exact this
  have hX : arcsOf ls (firstP ps ls).toNat = l.arcs := by unfold arcsOf; rw [h1]; rfl
  rw [hX]
  generalize (firstP ps ls).toNat = n at *
  have hlt := (List.getElem?_eq_some_iff.1 h1).1
  have hm : markP ls n = ls.set n ⟨l.known, true, l.arcs⟩ := by unfold markP; rw [h1]
  rw [hm]
  have get : ∀ (v : Nat) (k : Lb), (ls.set n ⟨l.known, true, l.arcs⟩)[v]? = some k → (v = n ∧ k = ⟨l.known, true, l.arcs⟩) ∨ (v ≠ n ∧ ls[v]? = some k) := fun v k e => by
    by_cases hv : v = n
    · subst hv
      rw [List.getElem?_set_self hlt] at e
      injection e with e
      exact .inl ⟨rfl, e.symm⟩
    · rw [List.getElem?_set_ne (fun h => hv h.symm)] at e
      exact .inr ⟨hv, e⟩
  have put : ∀ (v : Nat) (k : Lb), ls[v]? = some k → ∃ k', (ls.set n ⟨l.known, true, l.arcs⟩)[v]? = some k' ∧ k'.known = k.known ∧ k'.arcs = k.arcs := fun v k e => by
    by_cases hv : v = n
    · subst hv
      rw [h1] at e
      injection e with e
      subst e
      exact ⟨_, List.getElem?_set_self hlt, rfl, rfl⟩
    · exact ⟨k, by rw [List.getElem?_set_ne (fun h => hv h.symm)]; exact e, rfl, rfl⟩
  refine ⟨by rw [List.length_set]; exact h.len, ?_, ?_, ?_, ?_, ?_, ?_, ⟨_, List.getElem?_set_self hlt, rfl, h2, rfl⟩, ?_, by simp⟩
  · intro v k e hk
    rcases get v k e with ⟨rfl, rfl⟩ | ⟨_, e'⟩
    · exact h.walk _ l h1 h2
    · exact h.walk v k e' hk
  · obtain ⟨k, e1, e2, e3⟩ := h.src
    obtain ⟨k', f1, f2, f3⟩ := put s k e1
    exact ⟨k', f1, f2.trans e2, f3.trans e3⟩
  · intro k e
    rcases get d k e with ⟨rfl, rfl⟩ | ⟨_, e'⟩
    · exact absurd rfl hd
    · exact h.dd k e'
  · intro v k e hk
    rcases get v k e with ⟨rfl, rfl⟩ | ⟨_, e'⟩
    · exact h2
    · exact h.kn v k e' hk
  · intro v m x k ev hx em hk1 hk2
    rcases get m k em with ⟨rfl, rfl⟩ | ⟨_, em'⟩
    · cases hk2
    · rcases get v x ev with ⟨rfl, rfl⟩ | ⟨_, ev'⟩
      · exact hmin m k em' hk1 hk2
      · exact h.lo v m x k ev' hx em' hk1 hk2
  · intro u a x hu e hx ha hus
    rcases get u x e with ⟨rfl, rfl⟩ | ⟨_, e'⟩
    · exact absurd rfl hu
    · obtain ⟨k, f1, f2, f3⟩ := h.step u a x e' hx ha hus
      obtain ⟨k', g1, g2, g3⟩ := put _ k f1
      exact ⟨k', g1, g2.trans f2, by rw [g3]; exact f3⟩
  · intro v x e hx
    rcases get v x e with ⟨rfl, rfl⟩ | ⟨_, e'⟩
    · exact leL.refl _ _
    · exact h.lo v n x l e' hx h1 h2 h3
theorem DJ.relax {t : Tp} {down : List Bool} {ps : List Rat} {s d n : Nat} {X done : List Nat} {ls : List Lb} (h : DJ t down ps s d n X done ls) (hv : validP t = true) (hp : posQ ps) {a : Nat} (ha : a ∈ leavP t n) :
    DJ t down ps s d n X (done ++ [a]) (relaxP t down ps d n ls a) := by
  obtain ⟨hh1, hh2, hh3, _⟩ := leav_head hv ha
  obtain ⟨ln, hn1, hn2, hn3, hn4⟩ := h.own
  have hX : arcsOf ls n = X := by unfold arcsOf; rw [hn1]; exact hn4
  obtain ⟨lm, hlm⟩ : ∃ lm, ls[(headP t a).toNat]? = some lm := ⟨_, List.getElem?_eq_getElem (by rw [h.len]; exact hh3)⟩
  have hlt := (List.getElem?_eq_some_iff.1 hlm).1
  unfold relaxP
  rw [hlm, hX]
  simp only []
  split
  · rename_i hc
    refine ⟨h.len, h.walk, h.src, h.dd, h.kn, h.lo, h.step, h.own, h.all, fun b hb hus => ?_⟩
    rcases List.mem_append.1 hb with hb | hb
    · exact h.past b hb hus
    · have : b = a := by simpa using hb
      subst this
      rw [hus] at hc
      have hdn : lm.done = true := by simpa using hc
      exact ⟨lm, hlm, h.kn _ lm hlm hdn, (h.all _ lm hlm hdn).trans (leL.ext hp X [b])⟩
  · rename_i hc
    simp only [Bool.or_eq_true, not_or, Bool.not_eq_true, Bool.not_eq_false'] at hc
    obtain ⟨hc1, hc2⟩ := hc
    have hc2 : usableP t down a d = true := by simpa using hc2
    split
    · rename_i hb
      have hle : lm.known = true → leL ps (X ++ [a]) lm.arcs := fun hk => by
        rw [hk] at hb
        exact leL.of_bef (by simpa using hb)
      generalize hM : (headP t a).toNat = M at *
      have get : ∀ (v : Nat) (k : Lb), (ls.set M ⟨true, false, X ++ [a]⟩)[v]? = some k → (v = M ∧ k = ⟨true, false, X ++ [a]⟩) ∨ (v ≠ M ∧ ls[v]? = some k) := fun v k e => by
        by_cases hv : v = M
        · subst hv
          rw [List.getElem?_set_self hlt] at e
          injection e with e
          exact .inl ⟨rfl, e.symm⟩
        · rw [List.getElem?_set_ne (fun h => hv h.symm)] at e
          exact .inr ⟨hv, e⟩
      have put : ∀ (v : Nat) (k : Lb), ls[v]? = some k → k.known = true → ∃ k', (ls.set M ⟨true, false, X ++ [a]⟩)[v]? = some k' ∧ k'.known = true ∧ leL ps k'.arcs k.arcs := fun v k e hk => by
        by_cases hv : v = M
        · subst hv
          rw [hlm] at e
          injection e with e
          subst e
          exact ⟨_, List.getElem?_set_self hlt, rfl, hle hk⟩
        · exact ⟨k, by rw [List.getElem?_set_ne (fun h => hv h.symm)]; exact e, hk, leL.refl _ _⟩
      have hnM : n ≠ M := by
        rintro rfl
        rw [hn1] at hlm
        injection hlm with e
        rw [← e, hn2] at hc1
        cases hc1
      refine ⟨by rw [List.length_set]; exact h.len, ?_, ?_, ?_, ?_, ?_, ?_, ⟨ln, by rw [List.getElem?_set_ne (fun h => hnM h.symm)]; exact hn1, hn2, hn3, hn4⟩, ?_, ?_⟩
      · intro v k e hk
        rcases get v k e with ⟨rfl, rfl⟩ | ⟨_, e'⟩
        · have := FW.app X (by rw [← hn4]; exact h.walk n ln hn1 hn3) (FW.one ha hc2)
          rw [hM] at this
          exact this
        · exact h.walk v k e' hk
      · obtain ⟨k, e1, e2, e3⟩ := h.src
        by_cases hs : s = M
        · subst hs
          rw [hlm] at e1
          injection e1 with e1
          subst e1
          have h9 := (hle e2).anti (by rw [e3]; exact leL.nil hp _)
          rw [e3] at h9
          simp at h9
        · exact ⟨k, by rw [List.getElem?_set_ne (fun h => hs h.symm)]; exact e1, e2, e3⟩
      · intro k e
        rcases get d k e with ⟨rfl, rfl⟩ | ⟨_, e'⟩
        · rfl
        · exact h.dd k e'
      · intro v k e hk
        rcases get v k e with ⟨rfl, rfl⟩ | ⟨_, e'⟩
        · rfl
        · exact h.kn v k e' hk
      · intro v m x k ev hx em hk1 hk2
        rcases get v x ev with ⟨rfl, rfl⟩ | ⟨_, ev'⟩
        · cases hx
        · rcases get m k em with ⟨rfl, rfl⟩ | ⟨_, em'⟩
          · exact (h.all v x ev' hx).trans (leL.ext hp X [a])
          · exact h.lo v m x k ev' hx em' hk1 hk2
      · intro u b x hu e hx hb' hus
        rcases get u x e with ⟨rfl, rfl⟩ | ⟨_, e'⟩
        · cases hx
        · obtain ⟨k, f1, f2, f3⟩ := h.step u b x hu e' hx hb' hus
          obtain ⟨k', g1, g2, g3⟩ := put _ k f1 f2
          exact ⟨k', g1, g2, g3.trans f3⟩
      · intro v x e hx
        rcases get v x e with ⟨rfl, rfl⟩ | ⟨_, e'⟩
        · cases hx
        · exact h.all v x e' hx
      · intro b hb' hus
        rcases List.mem_append.1 hb' with hb' | hb'
        · obtain ⟨k, f1, f2, f3⟩ := h.past b hb' hus
          obtain ⟨k', g1, g2, g3⟩ := put _ k f1 f2
          exact ⟨k', g1, g2, g3.trans f3⟩
        · have : b = a := by simpa using hb'
          subst this
          rw [hM]
          exact ⟨_, List.getElem?_set_self hlt, rfl, leL.refl _ _⟩
    · rename_i hb
      simp only [Bool.or_eq_true, not_or, Bool.not_eq_true, Bool.not_eq_false'] at hb
      refine ⟨h.len, h.walk, h.src, h.dd, h.kn, h.lo, h.step, h.own, h.all, fun b hb' hus => ?_⟩
      rcases List.mem_append.1 hb' with hb' | hb'
      · exact h.past b hb' hus
      · have : b = a := by simpa using hb'
        subst this
        exact ⟨lm, hlm, by simpa using hb.1, hb.2⟩
theorem DJ.fold {t : Tp} {down : List Bool} {ps : List Rat} {s d n : Nat} {X : List Nat} (hv : validP t = true) (hp : posQ ps) : ∀ (al done : List Nat) (ls : List Lb), DJ t down ps s d n X done ls → (∀ a ∈ al, a ∈ leavP t n) → DJ t down ps s d n X (done ++ al) (al.foldl (relaxP t down ps d n) ls)
  | [], done, ls, h, _ => by rw [List.append_nil]; exact h
  | a :: al, done, ls, h, ha => by
    have := DJ.fold hv hp al (done ++ [a]) _ (h.relax hv hp (ha a (by simp))) (fun b hb => ha b (by simp [hb]))
    rw [List.append_assoc] at this
    exact this
theorem DJ.di {t : Tp} {down : List Bool} {ps : List Rat} {s d n : Nat} {X : List Nat} {ls : List Lb} (h : DJ t down ps s d n X (leavP t n) ls) : DI t down ps s d ls := by
  refine ⟨h.len, h.walk, h.src, h.dd, h.kn, h.lo, fun u a l e hl ha hus => ?_⟩
  by_cases hu : u = n
  · subst hu
    obtain ⟨ln, hn1, _, _, hn4⟩ := h.own
    rw [hn1] at e
    injection e with e
    subst e
    rw [hn4]
    exact h.past a ha hus
  · exact h.step u a l hu e hl ha hus
theorem fold_undone (t : Tp) (down : List Bool) (ps : List Rat) (d n : Nat) : ∀ (al : List Nat) (ls : List Lb), undone (al.foldl (relaxP t down ps d n) ls) = undone ls
  | [], _ => rfl
  | a :: al, ls => by rw [List.foldl_cons, fold_undone t down ps d n al, undone_relax]
/-- The search finds the first walk, or there is none. -/
theorem dij_min {t : Tp} {down : List Bool} {ps : List Rat} {s d : Nat} (hv : validP t = true) (hp : posQ ps) : ∀ (f : Nat) (ls : List Lb), DI t down ps s d ls → undone ls < f →
    match dijP t down ps d f ls with
    | none => ∀ p, ¬ FW t down d s p d
    | some p => FW t down d s p d ∧ ∀ q, FW t down d s q d → leL ps p q
  | 0, ls, _, h => by omega
  | f + 1, ls, hi, hf => by
    unfold dijP
    by_cases h1 : firstP ps ls < 0
    · rw [if_pos h1]
      simp only []
      intro p hw
      rcases hi.low hp _ p d rfl hw with ⟨l, k1, k2, _⟩ | ⟨m, k, k1, k2, k3, _⟩
      · rw [hi.dd l k1] at k2; cases k2
      · have := (first_min (ps := ps) k1 k2 k3).1
        omega
    · rw [if_neg h1]
      by_cases h2 : (firstP ps ls).toNat = d
      · rw [if_pos h2]
        simp only []
        obtain ⟨l, e1, e2, e3⟩ := first_fresh ps ls ls.length (show 0 ≤ firstP ps ls by omega)
        have e1 : ls[(firstP ps ls).toNat]? = some l := e1
        have hX : arcsOf ls (firstP ps ls).toNat = l.arcs := by unfold arcsOf; rw [e1]; rfl
        refine ⟨?_, fun q hw => ?_⟩
        · rw [hX]
          have := hi.walk _ l e1 e2
          rw [h2] at this
          exact this
        · rcases hi.low hp _ q d rfl hw with ⟨l, k1, k2, _⟩ | ⟨m, k, k1, k2, k3, k4⟩
          · rw [hi.dd l k1] at k2; cases k2
          · exact (first_min k1 k2 k3).2.trans k4
      · rw [if_neg h2]
        have hj := (DJ.fold hv hp (leavP t (firstP ps ls).toNat) [] _ (hi.mark (by omega) h2) (fun _ h => h))
        rw [List.nil_append] at hj
        refine dij_min hv hp f _ hj.di ?_
        rw [fold_undone]
        obtain ⟨l, e1, e2, e3⟩ := first_fresh ps ls ls.length (show 0 ≤ firstP ps ls by omega)
        have := undone_mark (ls := ls) e1 e3
        unfold firstP at *
        omega
theorem init_di {t : Tp} {down : List Bool} {ps : List Rat} {s d : Nat} (hs : s < t.nodes.toNat) : DI t down ps s d (initP t.nodes.toNat s) := by
  unfold initP
  have get : ∀ (v : Nat) (k : Lb), ((List.replicate t.nodes.toNat (⟨false, false, []⟩ : Lb)).set s ⟨true, false, []⟩)[v]? = some k → k.done = false ∧ k.arcs = [] ∧ (k.known = true → v = s) := fun v k e => by
    by_cases hv : v = s
    · subst hv
      rw [List.getElem?_set_self (by simp [hs])] at e
      injection e with e
      subst e
      exact ⟨rfl, rfl, fun _ => rfl⟩
    · rw [List.getElem?_set_ne (fun h => hv h.symm)] at e
      have := List.eq_of_mem_replicate (List.mem_of_getElem? e)
      subst this
      exact ⟨rfl, rfl, fun h => by cases h⟩
  refine ⟨by simp, ?_, ⟨_, List.getElem?_set_self (by simp [hs]), rfl, rfl⟩, fun l e => (get d l e).1, ?_, ?_, ?_⟩
  · intro v k e hk
    have := get v k e
    rw [this.2.1, this.2.2 hk]
    exact rfl
  · intro v k e hk
    rw [(get v k e).1] at hk; cases hk
  · intro v m l k e hk
    rw [(get v l e).1] at hk; cases hk
  · intro u a l e hk
    rw [(get u l e).1] at hk; cases hk
/-- Each loopless path is a walk of usable arcs. -/
theorem ext_walk {t : Tp} {down : List Bool} {s d : Nat} (hv : validP t = true) : ∀ (f : Nat) (path : List Nat) (u : Nat) (seen : List Bool) (q : List Nat), FW t down d s path u → q ∈ extP t down d f path u seen → FW t down d s q d
  | 0, _, _, _, _, _, h => by simp [extP] at h
  | f + 1, path, u, seen, q, hw, h => by
    unfold extP at h
    by_cases h1 : u = d
    · rw [if_pos h1] at h
      have : q = path := by simpa using h
      subst this
      rw [← h1]; rw [← h1] at hw; exact hw
    · rw [if_neg h1] at h
      by_cases h2 : 0 < path.length ∧ overP t u = true
      · rw [if_pos h2] at h; simp at h
      · rw [if_neg h2] at h
        rw [List.mem_flatMap] at h
        obtain ⟨a, ha, hq⟩ := h
        by_cases h3 : (downP down a || seen[(headP t a).toNat]?.getD false) = true
        · rw [if_pos h3] at hq; simp at hq
        · rw [if_neg h3] at hq
          simp only [Bool.or_eq_true, not_or, Bool.not_eq_true] at h3
          obtain ⟨g1, g2, g3, _⟩ := leav_head hv ha
          have hus : usableP t down a d = true := by
            unfold usableP
            rw [h3.1]
            by_cases h4 : headP t a = (d : Int)
            · simp [h4]
            · cases h5 : overP t (headP t a)
              · simp
              · exfalso
                cases f with
                | zero => simp [extP] at hq
                | succ f =>
                  unfold extP at hq
                  rw [if_neg (by omega), if_pos ⟨by simp, by rw [Int.toNat_of_nonneg g1]; exact h5⟩] at hq
                  simp at hq
          exact ext_walk hv f (path ++ [a]) _ _ q (FW.app path hw (FW.one ha hus)) hq
/-- A first walk is one of the loopless paths. -/
theorem ext_mem {t : Tp} {down : List Bool} {ps : List Rat} {s d : Nat} (hv : validP t = true) (hp : posQ ps) {p : List Nat} (hmin : ∀ q, FW t down d s q d → leL ps p q) : ∀ (y x : List Nat) (u f : Nat) (seen : List Bool), p = x ++ y → FW t down d s x u → FW t down d u y d →
    (∀ v, seen[v]?.getD false = true → ∃ x1 x2, x = x1 ++ x2 ∧ FW t down d s x1 v) → (x ≠ [] → u = d ∨ overP t (u : Int) = false) → seen.length = t.nodes.toNat → unset seen < f → p ∈ extP t down d f x u seen
  | [], x, u, f + 1, seen, hpx, hx, hy, hs, ho, hsl, hf => by
    have hy : u = d := hy
    unfold extP
    rw [if_pos hy, hpx]
    simp
  | a :: y, x, u, f + 1, seen, hpx, hx, hy, hs, ho, hsl, hf => by
    obtain ⟨ha, hus, hw⟩ := hy
    obtain ⟨g1, g2, g3, _⟩ := leav_head hv ha
    have hud : u ≠ d := by
      rintro rfl
      have h1 := hmin x hx
      have h2 := bef_cut hp x (a :: y) [] (by simp)
      rw [List.append_nil, List.append_nil, ← hpx] at h2
      unfold leL at h1
      rw [h2] at h1
      cases h1
    have hse : ∃ b, seen[(headP t a).toNat]? = some b := ⟨_, List.getElem?_eq_getElem (by omega)⟩
    have hno : seen[(headP t a).toNat]?.getD false = false := by
      apply Bool.eq_false_iff.2
      intro hse
      obtain ⟨x1, x2, e, hw1⟩ := hs _ hse
      have h1 := hmin (x1 ++ y) (FW.app x1 hw1 hw)
      have h2 := bef_cut hp x1 (x2 ++ [a]) y (by simp)
      have e2 : x1 ++ (x2 ++ [a]) ++ y = p := by rw [hpx, e]; simp
      rw [e2] at h2
      unfold leL at h1
      rw [h2] at h1
      cases h1
    unfold extP
    rw [if_neg hud, if_neg (by
      rintro ⟨h1, h2⟩
      rcases ho (List.length_pos_iff.1 h1) with h3 | h3
      · exact hud h3
      · rw [h2] at h3; cases h3)]
    rw [List.mem_flatMap]
    refine ⟨a, ha, ?_⟩
    have hdn : downP down a = false ∧ (headP t a = (d : Int) ∨ overP t (headP t a) = false) := by
      unfold usableP at hus
      simpa using hus
    rw [hdn.1, hno]
    simp only [Bool.or_self, Bool.false_eq_true, if_false]
    refine ext_mem hv hp hmin y (x ++ [a]) _ f _ (by rw [hpx]; simp) (FW.app x hx (FW.one ha hus)) hw ?_ ?_ (by rw [List.length_set]; exact hsl) (by
      obtain ⟨b, hb⟩ := hse
      rw [hb, Option.getD_some] at hno
      rw [hno] at hb
      have := unset_set hb
      omega)
    · intro v hve
      by_cases e : v = (headP t a).toNat
      · subst e
        exact ⟨x ++ [a], [], by simp, FW.app x hx (FW.one ha hus)⟩
      · rw [List.getElem?_set_ne (fun h => e h.symm)] at hve
        obtain ⟨x1, x2, e1, e2⟩ := hs v hve
        exact ⟨x1, x2 ++ [a], by rw [e1]; simp, e2⟩
    · intro _
      rcases hdn.2 with h | h
      · left; omega
      · right
        rw [Int.toNat_of_nonneg g1]
        exact h
/-- The first of some lists. -/
def minL (ps : List Rat) (b : List Nat) (l : List (List Nat)) : List Nat := l.foldl (fun b q => if befP ps q b then q else b) b
theorem minL_low (ps : List Rat) : ∀ (l : List (List Nat)) (b : List Nat), (minL ps b l = b ∨ minL ps b l ∈ l) ∧ leL ps (minL ps b l) b ∧ ∀ q ∈ l, leL ps (minL ps b l) q
  | [], b => ⟨.inl rfl, leL.refl _ _, by simp⟩
  | x :: l, b => by
    unfold minL
    rw [List.foldl_cons]
    by_cases h : befP ps x b = true
    · rw [if_pos h]
      obtain ⟨h1, h2, h3⟩ := minL_low ps l x
      refine ⟨.inr ?_, h2.trans (leL.of_bef h), fun q hq => ?_⟩
      · rcases h1 with h1 | h1
        · rw [show l.foldl (fun b q => if befP ps q b = true then q else b) x = minL ps x l from rfl, h1]; simp
        · exact List.mem_cons_of_mem _ h1
      · rcases List.mem_cons.1 hq with rfl | hq
        · exact h2
        · exact h3 q hq
    · rw [if_neg h]
      obtain ⟨h1, h2, h3⟩ := minL_low ps l b
      refine ⟨?_, h2, fun q hq => ?_⟩
      · rcases h1 with h1 | h1
        · exact .inl h1
        · exact .inr (List.mem_cons_of_mem _ h1)
      · rcases List.mem_cons.1 hq with rfl | hq
        · exact h2.trans (leL.of_not h)
        · exact h3 q hq
/-- The first loopless path, as the reference finds it. -/
def refCh (ps : List Rat) : List (List Nat) → Option (List Nat)
  | [] => none
  | x :: l => some (minL ps x l)
theorem pos_of_priced {t : Tp} {ps : List Rat} (h : pricedP t ps = true) : posQ ps := by
  intro a
  cases e : ps[a]? with
  | none => exact Rat.le_refl
  | some q =>
    unfold pricedP at h
    simp at h
    have := h.2 q (List.mem_of_getElem? e)
    rw [Option.getD_some, ← Rat.not_lt, ← sgn_neg]
    omega
/-- The search of the program finds the first one of all loopless paths. -/
theorem cheap_ref {t : Tp} {down : List Bool} {ps : List Rat} {s d : Nat} (hv : validP t = true) (hp : pricedP t ps = true) (hs : s < t.nodes.toNat) : cheapP t down ps s d = refCh ps (simP t down s d) := by
  have hq := pos_of_priced hp
  have h := dij_min (down := down) (s := s) (d := d) hv hq (t.nodes.toNat + 1) (initP t.nodes.toNat s) (init_di hs) (by
    have := undone_le (initP t.nodes.toNat s)
    have h2 : (initP t.nodes.toNat s).length = t.nodes.toNat := by unfold initP; simp
    omega)
  unfold cheapP
  have hw : ∀ q ∈ simP t down s d, FW t down d s q d := fun q hq => ext_walk hv _ [] s _ q rfl hq
  cases hd : dijP t down ps d (t.nodes.toNat + 1) (initP t.nodes.toNat s) with
  | none =>
    rw [hd] at h
    cases hl : simP t down s d with
    | nil => rfl
    | cons x l => exact absurd (hw x (by rw [hl]; simp)) (h x)
  | some p =>
    rw [hd] at h
    obtain ⟨h1, h2⟩ := h
    have hu : unset ((List.replicate t.nodes.toNat false).set s true) < t.nodes.toNat := by
      have := unset_set (l := List.replicate t.nodes.toNat false) (k := s) (by simp [hs])
      have h3 := unset_replicate t.nodes.toNat
      omega
    have hmem : p ∈ simP t down s d := by
      unfold simP
      refine ext_mem hv hq h2 p [] s _ _ rfl rfl h1 (fun v hve => ?_) (by simp) (by simp) hu
      by_cases e : v = s
      · subst e; exact ⟨[], [], rfl, rfl⟩
      · rw [List.getElem?_set_ne (fun h => e h.symm)] at hve
        rw [List.getElem?_replicate] at hve
        split at hve <;> simp at hve
    cases hl : simP t down s d with
    | nil => rw [hl] at hmem; simp at hmem
    | cons x l =>
      unfold refCh
      obtain ⟨m1, m2, m3⟩ := minL_low ps l x
      have hin : minL ps x l ∈ simP t down s d := by
        rw [hl]
        rcases m1 with m1 | m1
        · rw [m1]; simp
        · exact List.mem_cons_of_mem _ m1
      have hle : leL ps (minL ps x l) p := by
        rw [hl] at hmem
        rcases List.mem_cons.1 hmem with e | e
        · rw [e]; exact m2
        · exact m3 p e
      rw [(h2 _ (hw _ hin)).anti hle]
end Go.Proofs.YtjmkcckbbgpkeaaGreatDoor
