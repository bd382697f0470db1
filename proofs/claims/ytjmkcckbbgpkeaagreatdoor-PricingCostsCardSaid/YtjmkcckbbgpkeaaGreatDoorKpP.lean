/- The first path that the search of kpaths finds is the first one of all (plain). -/
import Derived.Test.YtjmkcckbbgpkeaaGreatDoorDij
set_option linter.unusedVariables false
set_option linter.unusedSimpArgs false

namespace Go.Proofs.YtjmkcckbbgpkeaaGreatDoor
open Go.RowKit
theorem FW.lt {t : Tp} {down : List Bool} {d : Nat} (hv : validP t = true) : ∀ (p : List Nat) {u v : Nat}, u < t.nodes.toNat → FW t down d u p v → v < t.nodes.toNat
  | [], _, _, hu, h => by
    have h : _ = _ := h
    rw [← h]; exact hu
  | _ :: p, _, _, _, h => FW.lt hv p (leav_head hv h.1).2.2.1 h.2.2
theorem snoc_of {α : Type} : ∀ (p : List α), p = [] ∨ ∃ q a, p = q ++ [a] := fun p => by
  by_cases h : p = []
  · exact .inl h
  · exact .inr ⟨p.dropLast, p.getLast h, (List.dropLast_concat_getLast h).symm⟩
theorem head_nat {t : Tp} (hv : validP t = true) {u a : Nat} (h : a ∈ leavP t u) : ((headP t a).toNat : Int) = headP t a := by
  have := (leav_head hv h).1
  omega
theorem FW.alive {t : Tp} {down : List Bool} {s d : Nat} (hv : validP t = true) {p : List Nat} {v : Nat} (h : FW t down d s p v) : v = s ∨ v = d ∨ overP t (v : Int) = false := by
  rcases snoc_of p with rfl | ⟨q, a, rfl⟩
  · exact .inl (show s = v from h).symm
  · obtain ⟨u, _, h2, h3, rfl⟩ := FW.snoc_inv q h
    unfold usableP at h3
    rw [← head_nat hv h2, Bool.and_eq_true, Bool.or_eq_true, Bool.not_eq_true', Bool.not_eq_true', beq_iff_eq] at h3
    rcases h3.2 with h4 | h4
    · exact .inr (.inl (by omega))
    · exact .inr (.inr h4)
/-- A label of the search. -/
def KL (t : Tp) (down : List Bool) (s d n : Nat) (x : List Nat) : Prop :=
  (x = [] ∧ n = s) ∨ ∃ (y : List Nat) (a u : Nat), x = y ++ [a] ∧ FW t down d s y u ∧ a ∈ leavP t u ∧ downP down a = false ∧ n = (headP t a).toNat
theorem KL.fw {t : Tp} {down : List Bool} {s d n : Nat} {x : List Nat} (hv : validP t = true) (h : KL t down s d n x) (hl : x = [] ∨ n = d ∨ overP t (n : Int) = false) : FW t down d s x n := by
  rcases h with ⟨rfl, rfl⟩ | ⟨y, a, u, rfl, h1, h2, h3, rfl⟩
  · rfl
  · refine FW.app y h1 (FW.one h2 ?_)
    unfold usableP
    rw [← head_nat hv h2, h3]
    rcases hl with hl | hl | hl
    · simp at hl
    · rw [hl]; simp
    · rw [hl]; simp
/-- The search: the nodes that were reached, with their paths; the labels; and the arcs of a node that are still to be looked at. -/
structure KI (t : Tp) (down : List Bool) (ps : List Rat) (s d : Nat) (V : List Bool) (fin : Nat → List Nat) (H : List (Nat × List Nat)) (n : Nat) (todo : List Nat) : Prop where
  len : V.length = t.nodes.toNat
  lab : ∀ m x, (m, x) ∈ H → KL t down s d m x
  size : ∀ m x, (m, x) ∈ H → x.length ≤ V.count true
  best : ∀ u, V[u]? = some true → u = s ∨ overP t (u : Int) = false → FW t down d s (fin u) u ∧ (fin u).length < V.count true ∧ ∀ p, FW t down d s p u → leL ps (fin u) p
  front : ∀ u a, V[u]? = some true → u = s ∨ overP t (u : Int) = false → a ∈ leavP t u → downP down a = false → V[(headP t a).toNat]? = some false → (u = n ∧ a ∈ todo) ∨ ((headP t a).toNat, fin u ++ [a]) ∈ H
  src : V[s]? = some false → (s, []) ∈ H
  dd : V[d]? = some false
theorem KI.low {t : Tp} {down : List Bool} {ps : List Rat} {s d n : Nat} {V : List Bool} {fin : Nat → List Nat} {H : List (Nat × List Nat)} (h : KI t down ps s d V fin H n []) (hv : validP t = true) (hp : posQ ps) (hs : s < t.nodes.toNat) : ∀ (k : Nat) (p : List Nat) (v : Nat), p.length = k → FW t down d s p v → V[v]? = some false → ∃ m y, (m, y) ∈ H ∧ leL ps y p
  | 0, p, v, hk, hw, hV => by
    have : p = [] := List.length_eq_zero_iff.1 hk
    subst this
    have hw : s = v := hw
    subst hw
    exact ⟨s, [], h.src hV, leL.refl _ _⟩
  | k + 1, p, v, hk, hw, hV => by
    obtain ⟨q, a, rfl⟩ : ∃ q a, p = q ++ [a] := by
      rcases snoc_of p with rfl | h1
      · simp at hk
      · exact h1
    obtain ⟨u, h1, h2, h3, rfl⟩ := FW.snoc_inv q hw
    have hu := FW.lt hv q hs h1
    obtain ⟨b, hb⟩ : ∃ b, V[u]? = some b := ⟨_, List.getElem?_eq_getElem (by rw [h.len]; exact hu)⟩
    cases b
    case false =>
      obtain ⟨m, y, i1, i2⟩ := h.low hv hp hs k q u (by simpa using hk) h1 hb
      exact ⟨m, y, i1, i2.trans (leL.ext hp q [a])⟩
    case true =>
      have hal : u = s ∨ overP t (u : Int) = false := by
        rcases h1.alive hv with h4 | h4 | h4
        · exact .inl h4
        · subst h4; rw [h.dd] at hb; cases hb
        · exact .inr h4
      have hdn : downP down a = false := by
        unfold usableP at h3
        simp at h3
        exact h3.1
      rcases h.front u a hb hal h2 hdn hV with ⟨_, h4⟩ | h4
      · cases h4
      · exact ⟨_, _, h4, ((h.best u hb hal).2.2 q h1).app [a]⟩
theorem KI.none_ {t : Tp} {down : List Bool} {ps : List Rat} {s d n : Nat} {V : List Bool} {fin : Nat → List Nat} (h : KI t down ps s d V fin [] n []) (hv : validP t = true) (hp : posQ ps) (hs : s < t.nodes.toNat) (p : List Nat) : ¬ FW t down d s p d := fun hw => by
  obtain ⟨m, y, h1, _⟩ := h.low hv hp hs _ p d rfl hw h.dd
  cases h1
section
variable {t : Tp} {down : List Bool} {ps : List Rat} {s d n k : Nat} {V : List Bool} {fin : Nat → List Nat} {H H' : List (Nat × List Nat)} {x : List Nat}
/-- A node that was reached before. -/
theorem KI.skip (h : KI t down ps s d V fin H k []) (h1 : ∀ z, z ∈ H → z = (n, x) ∨ z ∈ H') (h2 : ∀ z, z ∈ H' → z ∈ H) (hV : V[n]? = some true) (m : Nat) : KI t down ps s d V fin H' m [] := by
  refine ⟨h.len, fun m x hx => h.lab m x (h2 _ hx), fun m x hx => h.size m x (h2 _ hx), h.best, fun u a g1 g2 g3 g4 g5 => .inr ?_, fun hS => ?_, h.dd⟩
  · rcases h.front u a g1 g2 g3 g4 g5 with ⟨_, g6⟩ | g6
    · cases g6
    · rcases h1 _ g6 with e | e
      · injection e with e1 e2
        rw [e1, hV] at g5; cases g5
      · exact e
  · rcases h1 _ (h.src hS) with e | e
    · injection e with e1 e2
      rw [e1, hV] at hS; cases hS
    · exact e
theorem KI.least (h : KI t down ps s d V fin H k []) (hv : validP t = true) (hp : posQ ps) (hs : s < t.nodes.toNat) (hx : (n, x) ∈ H) (hm : ∀ m y, (m, y) ∈ H → leL ps x y) (hV : V[n]? = some false) : ∀ p, FW t down d s p n → leL ps x p := fun p hw => by
  obtain ⟨m, y, h1, h2⟩ := h.low hv hp hs _ p n rfl hw hV
  exact (hm m y h1).trans h2
/-- The node d is reached. -/
theorem KI.found (h : KI t down ps s d V fin H k []) (hv : validP t = true) (hp : posQ ps) (hs : s < t.nodes.toNat) (hx : (d, x) ∈ H) (hm : ∀ m y, (m, y) ∈ H → leL ps x y) : FW t down d s x d ∧ ∀ p, FW t down d s p d → leL ps x p :=
  ⟨(h.lab _ _ hx).fw hv (.inr (.inl rfl)), h.least hv hp hs hx hm h.dd⟩
theorem count_reach {V : List Bool} {n : Nat} (hV : V[n]? = some false) : (V.set n true).count true = V.count true + 1 := by
  have hl := (List.getElem?_eq_some_iff.1 hV).1
  have he := (List.getElem?_eq_some_iff.1 hV).2
  rw [List.count_set hl, he]
  simp
/-- Another node is reached. -/
theorem KI.reach (h : KI t down ps s d V fin H k []) (hv : validP t = true) (hp : posQ ps) (hs : s < t.nodes.toNat) (hx : (n, x) ∈ H) (h1 : ∀ z, z ∈ H → z = (n, x) ∨ z ∈ H') (h2 : ∀ z, z ∈ H' → z ∈ H) (hm : ∀ m y, (m, y) ∈ H → leL ps x y) (hV : V[n]? = some false) (hd : n ≠ d) :
    KI t down ps s d (V.set n true) (fun u => if u = n then x else fin u) H' n (leavP t n) := by
  have hc := count_reach hV
  have hl := (List.getElem?_eq_some_iff.1 hV).1
  have hg : ∀ u b, u ≠ n → (V.set n true)[u]? = some b → V[u]? = some b := fun u b hu hb => by rwa [List.getElem?_set_ne (fun e => hu e.symm)] at hb
  have hg2 : ∀ u, (V.set n true)[u]? = some false → u ≠ n ∧ V[u]? = some false := fun u hb => by
    have hu : u ≠ n := fun e => by subst e; rw [List.getElem?_set_self hl] at hb; cases hb
    exact ⟨hu, hg u false hu hb⟩
  refine ⟨by rw [List.length_set]; exact h.len, fun m x hx => h.lab m x (h2 _ hx), fun m x hx => by rw [hc]; have := h.size m x (h2 _ hx); omega, fun u hu hal => ?_, fun u a g1 g2 g3 g4 g5 => ?_, fun hS => ?_, by rw [List.getElem?_set_ne hd]; exact h.dd⟩
  · by_cases e : u = n
    · subst e
      simp only [if_true]
      have hx0 : u = s → x = [] := fun e => by
        subst e
        exact ((hm _ _ (h.src hV)).anti (leL.nil hp x))
      refine ⟨(h.lab _ _ hx).fw hv ?_, by have := h.size _ _ hx; omega, h.least hv hp hs hx hm hV⟩
      rcases hal with e | e
      · exact .inl (hx0 e)
      · exact .inr (.inr e)
    · simp only [if_neg e]
      obtain ⟨i1, i2, i3⟩ := h.best u (hg u true e hu) hal
      exact ⟨i1, by omega, i3⟩
  · obtain ⟨g6, g7⟩ := hg2 _ g5
    by_cases e : u = n
    · subst e; exact .inl ⟨rfl, g3⟩
    · simp only [if_neg e]
      rcases h.front u a (hg u true e g1) g2 g3 g4 g7 with ⟨_, g8⟩ | g8
      · cases g8
      · rcases h1 _ g8 with e2 | e2
        · injection e2 with e3 e4
          exact absurd e3 g6
        · exact .inr e2
  · obtain ⟨g6, g7⟩ := hg2 _ hS
    rcases h1 _ (h.src g7) with e2 | e2
    · injection e2 with e3 e4
      exact absurd e3 g6
    · exact e2
/-- An overloaded node is left out. -/
theorem KI.dead {todo : List Nat} (h : KI t down ps s d V fin H n todo) (hn : n ≠ s) (ho : overP t (n : Int) = true) (m : Nat) : KI t down ps s d V fin H m [] := by
  refine ⟨h.len, h.lab, h.size, h.best, fun u a g1 g2 g3 g4 g5 => .inr ?_, h.src, h.dd⟩
  rcases h.front u a g1 g2 g3 g4 g5 with ⟨rfl, _⟩ | g6
  · rcases g2 with g2 | g2
    · exact absurd g2 hn
    · rw [ho] at g2; cases g2
  · exact g6
/-- An arc that is down is left out. -/
theorem KI.off {a : Nat} {todo : List Nat} (h : KI t down ps s d V fin H n (a :: todo)) (hd : downP down a = true) : KI t down ps s d V fin H n todo := by
  refine ⟨h.len, h.lab, h.size, h.best, fun u b g1 g2 g3 g4 g5 => ?_, h.src, h.dd⟩
  rcases h.front u b g1 g2 g3 g4 g5 with ⟨rfl, g6⟩ | g6
  · rcases List.mem_cons.1 g6 with rfl | g6
    · rw [hd] at g4; cases g4
    · exact .inl ⟨rfl, g6⟩
  · exact .inr g6
/-- An arc that is not down makes a label. -/
theorem KI.push {a : Nat} {todo : List Nat} (h : KI t down ps s d V fin H n (a :: todo)) (hn : V[n]? = some true) (hal : n = s ∨ overP t (n : Int) = false) (ha : a ∈ leavP t n) (hd : downP down a = false) (hH : ∀ z, z ∈ H' ↔ z = ((headP t a).toNat, fin n ++ [a]) ∨ z ∈ H) : KI t down ps s d V fin H' n todo := by
  obtain ⟨b1, b2, _⟩ := h.best n hn hal
  refine ⟨h.len, fun m x hx => ?_, fun m x hx => ?_, h.best, fun u b g1 g2 g3 g4 g5 => ?_, fun hS => (hH _).2 (.inr (h.src hS)), h.dd⟩
  · rcases (hH _).1 hx with e | e
    · injection e with e1 e2
      subst e1 e2
      exact .inr ⟨fin n, a, n, rfl, b1, ha, hd, rfl⟩
    · exact h.lab _ _ e
  · rcases (hH _).1 hx with e | e
    · injection e with e1 e2
      subst e2
      simp; omega
    · exact h.size _ _ e
  · rcases h.front u b g1 g2 g3 g4 g5 with ⟨rfl, g6⟩ | g6
    · rcases List.mem_cons.1 g6 with rfl | g6
      · exact .inr ((hH _).2 (.inl rfl))
      · exact .inl ⟨rfl, g6⟩
    · exact .inr ((hH _).2 (.inr g6))
theorem KI.start (hs : s < t.nodes.toNat) (hd : d < t.nodes.toNat) (m : Nat) : KI t down ps s d (List.replicate t.nodes.toNat false) fin [(s, [])] m [] := by
  have hno : ∀ u b, (List.replicate t.nodes.toNat false)[u]? = some b → b = false := fun u b h => by
    rw [List.getElem?_replicate] at h
    split at h
    · injection h with h; exact h.symm
    · cases h
  refine ⟨by simp, fun m x hx => ?_, fun m x hx => ?_, fun u hu => ?_, fun u a hu => ?_, fun _ => by simp, by rw [List.getElem?_replicate, if_pos hd]⟩
  · simp at hx
    exact .inl ⟨hx.2, hx.1⟩
  · simp at hx
    rw [hx.2]; simp
  · cases hno _ _ hu
  · cases hno _ _ hu
end
end Go.Proofs.YtjmkcckbbgpkeaaGreatDoor
