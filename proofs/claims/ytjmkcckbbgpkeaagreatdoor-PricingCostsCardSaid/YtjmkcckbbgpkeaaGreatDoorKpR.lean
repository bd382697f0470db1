/- The first path of kpaths is the cheapest one at the costs as prices (plain). -/
import Derived.Test.YtjmkcckbbgpkeaaGreatDoorKpQ
import Derived.Test.YtjmkcckbbgpkeaaGreatDoorKpP
set_option linter.unusedVariables false
set_option linter.unusedSimpArgs false

namespace Go.Proofs.YtjmkcckbbgpkeaaGreatDoor
open Go.RowKit
theorem costL_len (t : Tp) : (costL t).length = 2 * t.links.length := by unfold costL; simp
theorem costL_pos (t : Tp) : posQ (costL t) := fun a => by
  cases h : (costL t)[a]? with
  | none => exact Rat.le_refl
  | some q =>
    unfold costL at h
    rw [List.getElem?_map] at h
    cases h2 : (List.range (2 * t.links.length))[a]? with
    | none => rw [h2] at h; cases h
    | some b =>
      rw [h2] at h
      injection h with h
      show (0 : Rat) ≤ q
      rw [← h]
      exact Rat.intCast_nonneg.2 (by omega)
theorem costL_priced (t : Tp) : pricedP t (costL t) = true := by
  unfold pricedP
  rw [costL_len, decide_eq_true rfl]
  have : (costL t).any (fun q => decide (sgnI q < 0)) = false := by
    rw [List.any_eq_false]
    intro q hq
    unfold costL at hq
    obtain ⟨a, _, rfl⟩ := List.mem_map.1 hq
    simp only [decide_eq_true_eq]
    rw [sgn_neg, Rat.not_lt]
    exact Rat.intCast_nonneg.2 (by omega)
  rw [this]; rfl
theorem costP_le {t : Tp} (hv : validP t = true) (a : Nat) : costP t a ≤ 65535 := by
  unfold costP
  cases h : t.links[a / 2]? with
  | none => simp
  | some l =>
    unfold validP at hv
    rw [Bool.and_eq_true, List.all_eq_true] at hv
    have hok := hv.2 l (List.mem_of_getElem? h)
    unfold Lk.ok inB at hok
    simp at hok
    simp only []
    split <;> omega
theorem kcost_le {t : Tp} (hv : validP t = true) : ∀ x : List Nat, kcost t x ≤ 65535 * x.length := fun x => by
  have key : ∀ (y : List Nat) (s : Nat), y.foldl (fun s a => s + costP t a) s ≤ s + 65535 * y.length := by
    intro y
    induction y with
    | nil => intro s; simp
    | cons a y ih =>
      intro s
      have := ih (s + costP t a)
      have h2 := costP_le hv a
      rw [List.foldl_cons, List.length_cons]
      omega
  have := key x 0
  unfold kcost
  omega
theorem costL_sz {t : Tp} (hv : validP t = true) : ∀ q ∈ costL t, SzQ q 1 := fun q hq => by
  unfold costL at hq
  obtain ⟨a, _, rfl⟩ := List.mem_map.1 hq
  have := costP_le hv a
  refine ⟨?_, ?_⟩
  · rw [Rat.num_intCast, Int.natAbs_natCast, Nat.pow_one, B32_eq]; omega
  · rw [Rat.den_intCast]; decide
theorem cheap_dij {t : Tp} {down : List Bool} {s d : Nat} (hv : validP t = true) (hs : s < t.nodes.toNat) : match cheapP t down (costL t) s d with
    | none => ∀ p, ¬ FW t down d s p d
    | some p => FW t down d s p d ∧ ∀ q, FW t down d s q d → leL (costL t) p q := by
  unfold cheapP
  exact dij_min hv (costL_pos t) (t.nodes.toNat + 1) (initP t.nodes.toNat s) (init_di hs) (by
    have := undone_le (initP t.nodes.toNat s)
    have h2 : (initP t.nodes.toNat s).length = t.nodes.toNat := by unfold initP; simp
    omega)
theorem cheap_is {t : Tp} {down : List Bool} {s d : Nat} {x : List Nat} (hv : validP t = true) (hs : s < t.nodes.toNat) (h1 : FW t down d s x d) (h2 : ∀ q, FW t down d s q d → leL (costL t) x q) : cheapP t down (costL t) s d = some x := by
  have h := cheap_dij (down := down) (d := d) hv hs
  cases hc : cheapP t down (costL t) s d with
  | none => rw [hc] at h; exact absurd h1 (h x)
  | some p =>
    rw [hc] at h
    rw [(h.2 x h1).anti (h2 p h.1)]
theorem cheap_no {t : Tp} {down : List Bool} {s d : Nat} (hv : validP t = true) (hs : s < t.nodes.toNat) (h1 : ∀ p, ¬ FW t down d s p d) : cheapP t down (costL t) s d = none := by
  have h := cheap_dij (down := down) (d := d) hv hs
  cases hc : cheapP t down (costL t) s d with
  | none => rfl
  | some p => rw [hc] at h; exact absurd h.1 (h1 p)
theorem leO_cost (t : Tp) : LeO (fun x y : Nat × List Nat => leL (costL t) x.2 y.2) := ⟨fun x => leL.refl _ _, fun x y z h1 h2 => h1.trans h2, fun x y => by
  by_cases h : befP (costL t) x.2 y.2 = true
  · exact .inl (leL.of_bef h)
  · exact .inr (leL.of_not h)⟩
theorem leK_iff (t : Tp) (x y : List Nat) : leL (costL t) x y ↔ ¬ ordK t y x < 0 := by
  unfold leL
  rw [bef_ord, decide_eq_false_iff_not]
/-- A path whose arcs fit together, and whose inner nodes are not overloaded, as waypointref09.Path has it. -/
def PO (t : Tp) : Nat → Bool → List Nat → Nat → Prop
  | u, _, [], v => u = v
  | u, first, a :: p, v => a ∈ leavP t u ∧ (first = true ∨ overP t (u : Int) = false) ∧ PO t (headP t a).toNat false p v
theorem FW.po {t : Tp} {down : List Bool} {d : Nat} (hv : validP t = true) : ∀ (p : List Nat) {u v : Nat} (first : Bool), FW t down d u p v → (first = true ∨ p = [] ∨ overP t (u : Int) = false) → (∀ q z w, p = q ++ z → q ≠ [] → z ≠ [] → FW t down d u q w → w ≠ d) → PO t u first p v
  | [], _, _, _, h, _, _ => h
  | a :: p, u, v, first, h, ho, hm => by
    refine ⟨h.1, ?_, FW.po hv p false h.2.2 ?_ ?_⟩
    · rcases ho with h1 | h1 | h1
      · exact .inl h1
      · cases h1
      · exact .inr h1
    · by_cases e : p = []
      · exact .inr (.inl e)
      · have h1 := hm [a] p _ rfl (by simp) e (FW.one h.1 h.2.1)
        have h2 := h.2.1
        unfold usableP at h2
        rw [← head_nat hv h.1, Bool.and_eq_true, Bool.or_eq_true, Bool.not_eq_true', Bool.not_eq_true', beq_iff_eq] at h2
        rcases h2.2 with h3 | h3
        · exact absurd (by omega) h1
        · exact .inr (.inr h3)
    · intro q z w e hq hz hw
      exact hm (a :: q) z w (by rw [e]; rfl) (by simp) hz ⟨h.1, h.2.1, hw⟩
/-- The least path does not meet its end before. -/
theorem least_po {t : Tp} {down : List Bool} {s d : Nat} {x : List Nat} (hv : validP t = true) (h1 : FW t down d s x d) (h2 : ∀ q, FW t down d s q d → leL (costL t) x q) : PO t s true x d := by
  refine FW.po hv x true h1 (.inl rfl) (fun q z w e hq hz hw hwd => ?_)
  subst hwd
  have h3 := h2 q hw
  have h4 := leL.ext (costL_pos t) q z
  rw [← e] at h4
  have h5 := h3.anti h4
  rw [e] at h5
  have : z = [] := by simpa using h5
  exact hz this
end Go.Proofs.YtjmkcckbbgpkeaaGreatDoor
