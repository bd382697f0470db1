/- The prices that the search of pricing.Dist finds are those of the cheapest paths (plain). -/
/- graph.Entering: for each node the arcs that end there. -/
/- The state of pricing.Dist in memory. -/
import Derived.Test.YtekiomanidimnaaGreatDoorDij
import Derived.Test.YtekiomanidimnaaGreatDoorQl
set_option linter.unusedVariables false
set_option linter.unusedSimpArgs false

set_option linter.unusedVariables false
set_option linter.unusedSimpArgs false
namespace Go.Proofs.YtekiomanidimnaaGreatDoor
open Go.RowKit
/-- The arcs that end at a node, below m. -/
def entTo (t : Tp) (m n : Nat) : List Nat := (List.range m).filter fun a => headP t a == (n : Int)
def entP (t : Tp) (n : Nat) : List Nat := entTo t (2 * t.links.length) n
theorem entTo_succ (t : Tp) (m n : Nat) : entTo t (m + 1) n = if headP t m == (n : Int) then entTo t m n ++ [m] else entTo t m n := by
  unfold entTo
  rw [List.range_succ, List.filter_append]
  by_cases h : headP t m == (n : Int) <;> simp [h]
theorem entTo_len (t : Tp) (m n : Nat) : (entTo t m n).length ≤ m := by
  unfold entTo
  exact Nat.le_trans (List.length_filter_le _ _) (by simp)
/-- The node with the least price of those that are known and not done, among the first k. -/
def dfirstTo (ps : List Rat) (ls : List Lb) : Nat → Int
  | 0 => -1
  | k + 1 => match ls[k]? with
    | none => dfirstTo ps ls k
    | some l => if l.known && !l.done && (decide (dfirstTo ps ls k < 0) || decide (cmpQ (prQ ps l.arcs) (prQ ps (arcsOf ls (dfirstTo ps ls k).toNat)) < 0)) then (k : Int) else dfirstTo ps ls k
def dfirstP (ps : List Rat) (ls : List Lb) : Int := dfirstTo ps ls ls.length
/-- One arc of the search for the prices. -/
def drelaxP (t : Tp) (down : List Bool) (ps : List Rat) (d n : Nat) (ls : List Lb) (a : Nat) : List Lb :=
  match ls[(tailP t a).toNat]? with
  | none => ls
  | some lm => if lm.done || !usableP t down a d then ls else if !lm.known || decide (cmpQ (prQ ps (a :: arcsOf ls n)) (prQ ps lm.arcs) < 0) then ls.set (tailP t a).toNat ⟨true, false, a :: arcsOf ls n⟩ else ls
def distP (t : Tp) (down : List Bool) (ps : List Rat) (d : Nat) : Nat → List Lb → List Lb
  | 0, ls => ls
  | f + 1, ls => if dfirstP ps ls < 0 then ls else distP t down ps d f ((entP t (dfirstP ps ls).toNat).foldl (drelaxP t down ps d (dfirstP ps ls).toNat) (markP ls (dfirstP ps ls).toNat))
theorem cmpQ_lt {a b : Rat} : cmpQ a b < 0 ↔ a < b := by
  unfold cmpQ
  split
  · rename_i h; simp [h]
  · rename_i h
    split <;> simp [h]
theorem prQ_cons (ps : List Rat) (a : Nat) (p : List Nat) : prQ ps (a :: p) = prQ ps p + ps[a]?.getD 0 := by
  rw [show a :: p = [a] ++ p from rfl, prQ_app, Rat.add_comm]
  congr 1
  unfold prQ
  simp [Rat.zero_add]
theorem dfirstTo_range (ps : List Rat) (ls : List Lb) : ∀ k, dfirstTo ps ls k = -1 ∨ (0 ≤ dfirstTo ps ls k ∧ (dfirstTo ps ls k).toNat < k ∧ (dfirstTo ps ls k).toNat < ls.length)
  | 0 => .inl rfl
  | k + 1 => by
    have ih := dfirstTo_range ps ls k
    unfold dfirstTo
    split
    · rcases ih with h | h
      · exact .inl h
      · exact .inr ⟨h.1, by omega, h.2.2⟩
    · rename_i l hl
      split
      · have := (List.getElem?_eq_some_iff.1 hl).1
        exact .inr ⟨by omega, by omega, by omega⟩
      · rcases ih with h | h
        · exact .inl h
        · exact .inr ⟨h.1, by omega, h.2.2⟩
theorem dfirst_fresh (ps : List Rat) (ls : List Lb) : ∀ k, 0 ≤ dfirstTo ps ls k → ∃ l, ls[(dfirstTo ps ls k).toNat]? = some l ∧ l.known = true ∧ l.done = false
  | 0, h => by simp [dfirstTo] at h
  | k + 1, h => by
    have ih := dfirst_fresh ps ls k
    unfold dfirstTo at h ⊢
    split
    · rename_i hl
      rw [hl] at h
      exact ih h
    · rename_i l hl
      rw [hl] at h
      simp only [] at h
      split
      · rename_i hc
        simp only [Bool.and_eq_true, Bool.not_eq_true'] at hc
        refine ⟨l, by rw [Int.toNat_natCast]; exact hl, hc.1.1, hc.1.2⟩
      · rename_i hc
        rw [if_neg hc] at h
        exact ih h
theorem dfirstTo_min (ps : List Rat) (ls : List Lb) : ∀ k, ∀ (m : Nat) (l : Lb), m < k → ls[m]? = some l → l.known = true → l.done = false → 0 ≤ dfirstTo ps ls k ∧ prQ ps (arcsOf ls (dfirstTo ps ls k).toNat) ≤ prQ ps l.arcs
  | 0, m, _, h, _, _, _ => by omega
  | k + 1, m, l, hm, hl, h1, h2 => by
    have ih := dfirstTo_min ps ls k m l
    by_cases e : m = k
    · subst e
      unfold dfirstTo
      rw [hl]
      simp only [h1, h2, Bool.not_false, Bool.and_true, Bool.true_and]
      split
      · refine ⟨by omega, ?_⟩
        rw [Int.toNat_natCast]
        unfold arcsOf
        rw [hl]
        exact Rat.le_refl
      · rename_i hc
        simp only [Bool.or_eq_true, not_or, decide_eq_true_eq, cmpQ_lt] at hc
        exact ⟨by omega, Rat.not_lt.1 hc.2⟩
    · obtain ⟨i1, i2⟩ := ih (by omega) hl h1 h2
      unfold dfirstTo
      split
      · exact ⟨i1, i2⟩
      · rename_i lk hk
        split
        · rename_i hc
          refine ⟨by omega, ?_⟩
          rw [Int.toNat_natCast]
          simp only [Bool.and_eq_true, Bool.or_eq_true, decide_eq_true_eq, cmpQ_lt] at hc
          have hb : prQ ps lk.arcs < prQ ps (arcsOf ls (dfirstTo ps ls k).toNat) := by
            rcases hc.2 with h | h
            · omega
            · exact h
          have : arcsOf ls k = lk.arcs := by unfold arcsOf; rw [hk]; rfl
          rw [this]
          exact Rat.le_trans (Rat.le_of_lt hb) i2
        · exact ⟨i1, i2⟩
theorem dfirst_min {ps : List Rat} {ls : List Lb} {m : Nat} {l : Lb} (hl : ls[m]? = some l) (h1 : l.known = true) (h2 : l.done = false) : 0 ≤ dfirstP ps ls ∧ prQ ps (arcsOf ls (dfirstP ps ls).toNat) ≤ prQ ps l.arcs :=
  dfirstTo_min ps ls _ m l (List.getElem?_eq_some_iff.1 hl).1 hl h1 h2
theorem drelax_len (t : Tp) (down : List Bool) (ps : List Rat) (d n : Nat) (ls : List Lb) (a : Nat) : (drelaxP t down ps d n ls a).length = ls.length := by
  unfold drelaxP
  split
  · rfl
  · split
    · rfl
    · split
      · simp
      · rfl
theorem dundone_relax (t : Tp) (down : List Bool) (ps : List Rat) (d n : Nat) (ls : List Lb) (a : Nat) : undone (drelaxP t down ps d n ls a) = undone ls := by
  unfold drelaxP
  split
  · rfl
  · rename_i lm hlm
    split
    · rfl
    · rename_i hc
      simp only [Bool.or_eq_true, not_or, Bool.not_eq_true] at hc
      split
      · exact undone_set hlm hc.1 rfl
      · rfl
theorem ent_mem {t : Tp} (hv : validP t = true) {n a : Nat} (h : a ∈ entP t n) : 0 ≤ tailP t a ∧ (tailP t a).toNat < t.nodes.toNat ∧ (headP t a).toNat = n ∧ a ∈ leavP t (tailP t a).toNat ∧ a < 2 * t.links.length := by
  unfold entP entTo at h
  rw [List.mem_filter, List.mem_range] at h
  obtain ⟨h1, h2⟩ := h
  have h2 : headP t a = (n : Int) := by simpa using h2
  have hl : a / 2 < t.links.length := by omega
  have hv2 := hv
  unfold validP at hv
  rw [Bool.and_eq_true, List.all_eq_true] at hv
  have hok := hv.2 _ (List.getElem_mem hl)
  unfold Lk.ok ndB at hok
  simp at hok
  have h3 : 0 ≤ tailP t a ∧ tailP t a < t.nodes := by
    unfold tailP
    rw [List.getElem?_eq_getElem hl]
    simp only []
    split <;> omega
  refine ⟨h3.1, by omega, by omega, ?_, h1⟩
  unfold leavP leavTo
  rw [List.mem_filter, List.mem_range]
  refine ⟨h1, ?_⟩
  simp
  omega
/-- What holds between two rounds. -/
structure EI (t : Tp) (down : List Bool) (ps : List Rat) (d : Nat) (ls : List Lb) : Prop where
  len : ls.length = t.nodes.toNat
  walk : ∀ (v : Nat) (l : Lb), ls[v]? = some l → l.known = true → FW t down d v l.arcs d
  unk : ∀ (v : Nat) (l : Lb), ls[v]? = some l → l.known = false → l.arcs = []
  src : ∃ l, ls[d]? = some l ∧ l.known = true ∧ l.arcs = []
  kn : ∀ (v : Nat) (l : Lb), ls[v]? = some l → l.done = true → l.known = true
  lo : ∀ (v m : Nat) (l k : Lb), ls[v]? = some l → l.done = true → ls[m]? = some k → k.known = true → k.done = false → prQ ps l.arcs ≤ prQ ps k.arcs
  step : ∀ (u a : Nat) (l : Lb), ls[u]? = some l → l.done = true → a ∈ entP t u → usableP t down a d = true → ∃ k, ls[(tailP t a).toNat]? = some k ∧ k.known = true ∧ prQ ps k.arcs ≤ prQ ps (a :: l.arcs)
structure EJ (t : Tp) (down : List Bool) (ps : List Rat) (d n : Nat) (X : List Nat) (done : List Nat) (ls : List Lb) : Prop where
  len : ls.length = t.nodes.toNat
  walk : ∀ (v : Nat) (l : Lb), ls[v]? = some l → l.known = true → FW t down d v l.arcs d
  unk : ∀ (v : Nat) (l : Lb), ls[v]? = some l → l.known = false → l.arcs = []
  src : ∃ l, ls[d]? = some l ∧ l.known = true ∧ l.arcs = []
  kn : ∀ (v : Nat) (l : Lb), ls[v]? = some l → l.done = true → l.known = true
  lo : ∀ (v m : Nat) (l k : Lb), ls[v]? = some l → l.done = true → ls[m]? = some k → k.known = true → k.done = false → prQ ps l.arcs ≤ prQ ps k.arcs
  step : ∀ (u a : Nat) (l : Lb), u ≠ n → ls[u]? = some l → l.done = true → a ∈ entP t u → usableP t down a d = true → ∃ k, ls[(tailP t a).toNat]? = some k ∧ k.known = true ∧ prQ ps k.arcs ≤ prQ ps (a :: l.arcs)
  own : ∃ l, ls[n]? = some l ∧ l.done = true ∧ l.known = true ∧ l.arcs = X
  all : ∀ (v : Nat) (l : Lb), ls[v]? = some l → l.done = true → prQ ps l.arcs ≤ prQ ps X
  past : ∀ a ∈ done, usableP t down a d = true → ∃ k, ls[(tailP t a).toNat]? = some k ∧ k.known = true ∧ prQ ps k.arcs ≤ prQ ps (a :: X)
theorem prQ_le_cons {ps : List Rat} (hp : posQ ps) (a : Nat) (x : List Nat) : prQ ps x ≤ prQ ps (a :: x) := by
  rw [prQ_cons]
  have := Rat.add_le_add_left (c := prQ ps x) |>.2 (hp a)
  rw [Rat.add_zero] at this
  exact this
theorem prQ_cons_mono {ps : List Rat} {x y : List Nat} (a : Nat) (h : prQ ps x ≤ prQ ps y) : prQ ps (a :: x) ≤ prQ ps (a :: y) := by
  rw [prQ_cons, prQ_cons]
  exact Rat.add_le_add_right.2 h
theorem EI.mark {t : Tp} {down : List Bool} {ps : List Rat} {d : Nat} {ls : List Lb} (h : EI t down ps d ls) (h0 : 0 ≤ dfirstP ps ls) :
    EJ t down ps d (dfirstP ps ls).toNat (arcsOf ls (dfirstP ps ls).toNat) [] (markP ls (dfirstP ps ls).toNat) := by
  obtain ⟨l, h1, h2, h3⟩ := dfirst_fresh ps ls ls.length h0
  have h1 : ls[(dfirstP ps ls).toNat]? = some l := h1
  have hmin : ∀ (m : Nat) (k : Lb), ls[m]? = some k → k.known = true → k.done = false → prQ ps l.arcs ≤ prQ ps k.arcs := fun m k e1 e2 e3 => by
    have := (dfirst_min (ps := ps) e1 e2 e3).2
    unfold arcsOf at this
    rw [h1] at this
    exact this
  have hX : arcsOf ls (dfirstP ps ls).toNat = l.arcs := by unfold arcsOf; rw [h1]; rfl
  rw [hX]
  generalize (dfirstP ps ls).toNat = n at *
  have hlt := (List.getElem?_eq_some_iff.1 h1).1
  have hm : markP ls n = ls.set n ⟨l.known, true, l.arcs⟩ := by unfold markP; rw [h1]
  rw [hm]
  have get : ∀ (v : Nat) (k : Lb), (ls.set n ⟨l.known, true, l.arcs⟩)[v]? = some k → (v = n ∧ k = ⟨l.known, true, l.arcs⟩) ∨ (v ≠ n ∧ ls[v]? = some k) := fun v k e => by
    by_cases hv : v = n
    · subst hv
      rw [List.getElem?_set_self hlt] at e
      injection e with e
      exact .inl ⟨rfl, e.symm⟩
    · rw [List.getElem?_set_ne (fun h => hv h.symm)] at e
      exact .inr ⟨hv, e⟩
  have put : ∀ (v : Nat) (k : Lb), ls[v]? = some k → ∃ k', (ls.set n ⟨l.known, true, l.arcs⟩)[v]? = some k' ∧ k'.known = k.known ∧ k'.arcs = k.arcs := fun v k e => by
    by_cases hv : v = n
    · subst hv
      rw [h1] at e
      injection e with e
      subst e
      exact ⟨_, List.getElem?_set_self hlt, rfl, rfl⟩
    · exact ⟨k, by rw [List.getElem?_set_ne (fun h => hv h.symm)]; exact e, rfl, rfl⟩
  refine ⟨by rw [List.length_set]; exact h.len, ?_, ?_, ?_, ?_, ?_, ?_, ⟨_, List.getElem?_set_self hlt, rfl, h2, rfl⟩, ?_, by simp⟩
  · intro v k e hk
    rcases get v k e with ⟨rfl, rfl⟩ | ⟨_, e'⟩
    · exact h.walk _ l h1 h2
    · exact h.walk v k e' hk
  · intro v k e hk
    rcases get v k e with ⟨rfl, rfl⟩ | ⟨_, e'⟩
    · exact h.unk _ l h1 hk
    · exact h.unk v k e' hk
  · obtain ⟨k, e1, e2, e3⟩ := h.src
    obtain ⟨k', f1, f2, f3⟩ := put d k e1
    exact ⟨k', f1, f2.trans e2, f3.trans e3⟩
  · intro v k e hk
    rcases get v k e with ⟨rfl, rfl⟩ | ⟨_, e'⟩
    · exact h2
    · exact h.kn v k e' hk
  · intro v m x k ev hx em hk1 hk2
    rcases get m k em with ⟨rfl, rfl⟩ | ⟨_, em'⟩
    · cases hk2
    · rcases get v x ev with ⟨rfl, rfl⟩ | ⟨_, ev'⟩
      · exact hmin m k em' hk1 hk2
      · exact h.lo v m x k ev' hx em' hk1 hk2
  · intro u a x hu e hx ha hus
    rcases get u x e with ⟨rfl, rfl⟩ | ⟨_, e'⟩
    · exact absurd rfl hu
    · obtain ⟨k, f1, f2, f3⟩ := h.step u a x e' hx ha hus
      obtain ⟨k', g1, g2, g3⟩ := put _ k f1
      exact ⟨k', g1, g2.trans f2, by rw [g3]; exact f3⟩
  · intro v x e hx
    rcases get v x e with ⟨rfl, rfl⟩ | ⟨_, e'⟩
    · exact Rat.le_refl
    · exact h.lo v n x l e' hx h1 h2 h3
theorem EJ.relax {t : Tp} {down : List Bool} {ps : List Rat} {d n : Nat} {X done : List Nat} {ls : List Lb} (h : EJ t down ps d n X done ls) (hv : validP t = true) (hp : posQ ps) {a : Nat} (ha : a ∈ entP t n) :
    EJ t down ps d n X (done ++ [a]) (drelaxP t down ps d n ls a) := by
  obtain ⟨hh1, hh3, hh4, hh5, _⟩ := ent_mem hv ha
  obtain ⟨ln, hn1, hn2, hn3, hn4⟩ := h.own
  have hX : arcsOf ls n = X := by unfold arcsOf; rw [hn1]; exact hn4
  obtain ⟨lm, hlm⟩ : ∃ lm, ls[(tailP t a).toNat]? = some lm := ⟨_, List.getElem?_eq_getElem (by rw [h.len]; exact hh3)⟩
  have hlt := (List.getElem?_eq_some_iff.1 hlm).1
  unfold drelaxP
  rw [hlm, hX]
  simp only []
  split
  · rename_i hc
    refine ⟨h.len, h.walk, h.unk, h.src, h.kn, h.lo, h.step, h.own, h.all, fun b hb hus => ?_⟩
    rcases List.mem_append.1 hb with hb | hb
    · exact h.past b hb hus
    · have : b = a := by simpa using hb
      subst this
      rw [hus] at hc
      have hdn : lm.done = true := by simpa using hc
      exact ⟨lm, hlm, h.kn _ lm hlm hdn, Rat.le_trans (h.all _ lm hlm hdn) (prQ_le_cons hp b X)⟩
  · rename_i hc
    simp only [Bool.or_eq_true, not_or, Bool.not_eq_true, Bool.not_eq_false'] at hc
    obtain ⟨hc1, hc2⟩ := hc
    have hc2 : usableP t down a d = true := by simpa using hc2
    split
    · rename_i hb
      have hlt2 : lm.known = true → prQ ps (a :: X) < prQ ps lm.arcs := fun hk => by
        rw [hk] at hb
        simpa [cmpQ_lt] using hb
      have hle : lm.known = true → prQ ps (a :: X) ≤ prQ ps lm.arcs := fun hk => Rat.le_of_lt (hlt2 hk)
      generalize hM : (tailP t a).toNat = M at *
      have get : ∀ (v : Nat) (k : Lb), (ls.set M ⟨true, false, a :: X⟩)[v]? = some k → (v = M ∧ k = ⟨true, false, a :: X⟩) ∨ (v ≠ M ∧ ls[v]? = some k) := fun v k e => by
        by_cases hv : v = M
        · subst hv
          rw [List.getElem?_set_self hlt] at e
          injection e with e
          exact .inl ⟨rfl, e.symm⟩
        · rw [List.getElem?_set_ne (fun h => hv h.symm)] at e
          exact .inr ⟨hv, e⟩
      have put : ∀ (v : Nat) (k : Lb), ls[v]? = some k → k.known = true → ∃ k', (ls.set M ⟨true, false, a :: X⟩)[v]? = some k' ∧ k'.known = true ∧ prQ ps k'.arcs ≤ prQ ps k.arcs := fun v k e hk => by
        by_cases hv : v = M
        · subst hv
          rw [hlm] at e
          injection e with e
          subst e
          exact ⟨_, List.getElem?_set_self hlt, rfl, hle hk⟩
        · exact ⟨k, by rw [List.getElem?_set_ne (fun h => hv h.symm)]; exact e, hk, Rat.le_refl⟩
      have hnM : n ≠ M := by
        rintro rfl
        rw [hn1] at hlm
        injection hlm with e
        rw [← e, hn2] at hc1
        cases hc1
      refine ⟨by rw [List.length_set]; exact h.len, ?_, ?_, ?_, ?_, ?_, ?_, ⟨ln, by rw [List.getElem?_set_ne (fun h => hnM h.symm)]; exact hn1, hn2, hn3, hn4⟩, ?_, ?_⟩
      · intro v k e hk
        rcases get v k e with ⟨rfl, rfl⟩ | ⟨_, e'⟩
        · refine ⟨hh5, hc2, ?_⟩
          rw [hh4, ← hn4]
          exact h.walk n ln hn1 hn3
        · exact h.walk v k e' hk
      · intro v k e hk
        rcases get v k e with ⟨rfl, rfl⟩ | ⟨_, e'⟩
        · cases hk
        · exact h.unk v k e' hk
      · obtain ⟨k, e1, e2, e3⟩ := h.src
        by_cases hs : d = M
        · subst hs
          rw [hlm] at e1
          injection e1 with e1
          subst e1
          have h9 := hlt2 e2
          rw [e3] at h9
          exact absurd h9 (Rat.not_lt.2 (prQ_pos hp (a :: X)))
        · exact ⟨k, by rw [List.getElem?_set_ne (fun h => hs h.symm)]; exact e1, e2, e3⟩
      · intro v k e hk
        rcases get v k e with ⟨rfl, rfl⟩ | ⟨_, e'⟩
        · rfl
        · exact h.kn v k e' hk
      · intro v m x k ev hx em hk1 hk2
        rcases get v x ev with ⟨rfl, rfl⟩ | ⟨_, ev'⟩
        · cases hx
        · rcases get m k em with ⟨rfl, rfl⟩ | ⟨_, em'⟩
          · exact Rat.le_trans (h.all v x ev' hx) (prQ_le_cons hp a X)
          · exact h.lo v m x k ev' hx em' hk1 hk2
      · intro u b x hu e hx hb' hus
        rcases get u x e with ⟨rfl, rfl⟩ | ⟨_, e'⟩
        · cases hx
        · obtain ⟨k, f1, f2, f3⟩ := h.step u b x hu e' hx hb' hus
          obtain ⟨k', g1, g2, g3⟩ := put _ k f1 f2
          exact ⟨k', g1, g2, Rat.le_trans g3 f3⟩
      · intro v x e hx
        rcases get v x e with ⟨rfl, rfl⟩ | ⟨_, e'⟩
        · cases hx
        · exact h.all v x e' hx
      · intro b hb' hus
        rcases List.mem_append.1 hb' with hb' | hb'
        · obtain ⟨k, f1, f2, f3⟩ := h.past b hb' hus
          obtain ⟨k', g1, g2, g3⟩ := put _ k f1 f2
          exact ⟨k', g1, g2, Rat.le_trans g3 f3⟩
        · have : b = a := by simpa using hb'
          subst this
          rw [hM]
          exact ⟨_, List.getElem?_set_self hlt, rfl, Rat.le_refl⟩
    · rename_i hb
      simp only [Bool.or_eq_true, not_or, Bool.not_eq_true, Bool.not_eq_false', decide_eq_false_iff_not, cmpQ_lt] at hb
      refine ⟨h.len, h.walk, h.unk, h.src, h.kn, h.lo, h.step, h.own, h.all, fun b hb' hus => ?_⟩
      rcases List.mem_append.1 hb' with hb' | hb'
      · exact h.past b hb' hus
      · have : b = a := by simpa using hb'
        subst this
        exact ⟨lm, hlm, by simpa using hb.1, Rat.not_lt.1 hb.2⟩
theorem EJ.fold {t : Tp} {down : List Bool} {ps : List Rat} {d n : Nat} {X : List Nat} (hv : validP t = true) (hp : posQ ps) : ∀ (al done : List Nat) (ls : List Lb), EJ t down ps d n X done ls → (∀ a ∈ al, a ∈ entP t n) → EJ t down ps d n X (done ++ al) (al.foldl (drelaxP t down ps d n) ls)
  | [], done, ls, h, _ => by rw [List.append_nil]; exact h
  | a :: al, done, ls, h, ha => by
    have := EJ.fold hv hp al (done ++ [a]) _ (h.relax hv hp (ha a (by simp))) (fun b hb => ha b (by simp [hb]))
    rw [List.append_assoc] at this
    exact this
theorem EJ.di {t : Tp} {down : List Bool} {ps : List Rat} {d n : Nat} {X : List Nat} {ls : List Lb} (h : EJ t down ps d n X (entP t n) ls) : EI t down ps d ls := by
  refine ⟨h.len, h.walk, h.unk, h.src, h.kn, h.lo, fun u a l e hl ha hus => ?_⟩
  by_cases hu : u = n
  · subst hu
    obtain ⟨ln, hn1, _, _, hn4⟩ := h.own
    rw [hn1] at e
    injection e with e
    subst e
    rw [hn4]
    exact h.past a ha hus
  · exact h.step u a l hu e hl ha hus
theorem dfold_undone (t : Tp) (down : List Bool) (ps : List Rat) (d n : Nat) : ∀ (al : List Nat) (ls : List Lb), undone (al.foldl (drelaxP t down ps d n) ls) = undone ls
  | [], _ => rfl
  | a :: al, ls => by rw [List.foldl_cons, dfold_undone t down ps d n al, dundone_relax]
/-- The search ends where no node is known and not done. -/
theorem dist_end {t : Tp} {down : List Bool} {ps : List Rat} {d : Nat} (hv : validP t = true) (hp : posQ ps) : ∀ (f : Nat) (ls : List Lb), EI t down ps d ls → undone ls < f → EI t down ps d (distP t down ps d f ls) ∧ ∀ (v : Nat) (l : Lb), (distP t down ps d f ls)[v]? = some l → l.known = true → l.done = true
  | 0, ls, _, h => by omega
  | f + 1, ls, hi, hf => by
    unfold distP
    by_cases h1 : dfirstP ps ls < 0
    · rw [if_pos h1]
      refine ⟨hi, fun v l e hk => ?_⟩
      cases hd : l.done
      · have := (dfirst_min (ps := ps) e hk hd).1
        omega
      · rfl
    · rw [if_neg h1]
      have hj := (EJ.fold hv hp (entP t (dfirstP ps ls).toNat) [] _ (hi.mark (by omega)) (fun _ h => h))
      rw [List.nil_append] at hj
      refine dist_end hv hp f _ hj.di ?_
      rw [dfold_undone]
      obtain ⟨l, e1, e2, e3⟩ := dfirst_fresh ps ls ls.length (show 0 ≤ dfirstP ps ls by omega)
      have := undone_mark (ls := ls) e1 e3
      unfold dfirstP at *
      omega
theorem init_ei {t : Tp} {down : List Bool} {ps : List Rat} {d : Nat} (hs : d < t.nodes.toNat) : EI t down ps d (initP t.nodes.toNat d) := by
  unfold initP
  have get : ∀ (v : Nat) (k : Lb), ((List.replicate t.nodes.toNat (⟨false, false, []⟩ : Lb)).set d ⟨true, false, []⟩)[v]? = some k → k.done = false ∧ k.arcs = [] ∧ (k.known = true → v = d) := fun v k e => by
    by_cases hv : v = d
    · subst hv
      rw [List.getElem?_set_self (by simp [hs])] at e
      injection e with e
      subst e
      exact ⟨rfl, rfl, fun _ => rfl⟩
    · rw [List.getElem?_set_ne (fun h => hv h.symm)] at e
      have := List.eq_of_mem_replicate (List.mem_of_getElem? e)
      subst this
      exact ⟨rfl, rfl, fun h => by cases h⟩
  refine ⟨by simp, ?_, fun v k e _ => (get v k e).2.1, ⟨_, List.getElem?_set_self (by simp [hs]), rfl, rfl⟩, ?_, ?_, ?_⟩
  · intro v k e hk
    have := get v k e
    rw [this.2.1, this.2.2 hk]
    exact rfl
  · intro v k e hk
    rw [(get v k e).1] at hk; cases hk
  · intro v m l k e hk
    rw [(get v l e).1] at hk; cases hk
  · intro u a l e hk
    rw [(get u l e).1] at hk; cases hk
theorem EI.low {t : Tp} {down : List Bool} {ps : List Rat} {d : Nat} {ls : List Lb} (h : EI t down ps d ls) (hv : validP t = true) (hp : posQ ps) (hend : ∀ (v : Nat) (l : Lb), ls[v]? = some l → l.known = true → l.done = true) : ∀ (p : List Nat) (v : Nat), FW t down d v p d → ∃ l, ls[v]? = some l ∧ l.known = true ∧ prQ ps l.arcs ≤ prQ ps p
  | [], v, hw => by
    have hw : v = d := hw
    subst hw
    obtain ⟨l, h1, h2, h3⟩ := h.src
    exact ⟨l, h1, h2, by rw [h3]; exact Rat.le_refl⟩
  | a :: p, v, hw => by
    obtain ⟨w1, w2, w3⟩ := hw
    obtain ⟨l, h1, h2, h3⟩ := h.low hv hp hend p _ w3
    obtain ⟨g1, g2, g3, g4⟩ := leav_head hv w1
    have hm : a ∈ entP t (headP t a).toNat := by
      unfold leavP leavTo at w1
      rw [List.mem_filter] at w1
      unfold entP entTo
      rw [List.mem_filter]
      exact ⟨w1.1, by simp; omega⟩
    obtain ⟨k, k1, k2, k3⟩ := h.step _ a l h1 (hend _ l h1 h2) hm w2
    rw [g4, Int.toNat_natCast] at k1
    exact ⟨k, k1, k2, Rat.le_trans k3 (prQ_cons_mono a h3)⟩
/-- The prices are those of the cheapest paths. -/
theorem dist_ref {t : Tp} {down : List Bool} {ps : List Rat} {d : Nat} (hv : validP t = true) (hp : pricedP t ps = true) (hd : d < t.nodes.toNat) :
    (distP t down ps d (t.nodes.toNat + 1) (initP t.nodes.toNat d)).length = t.nodes.toNat ∧ ∀ (v : Nat) (l : Lb), (distP t down ps d (t.nodes.toNat + 1) (initP t.nodes.toNat d))[v]? = some l → l.known = (cheapP t down ps v d).isSome ∧ prQ ps l.arcs = prQ ps ((cheapP t down ps v d).getD []) := by
  have hq := pos_of_priced hp
  have hlen : (initP t.nodes.toNat d).length = t.nodes.toNat := by unfold initP; simp
  obtain ⟨hi, hend⟩ := dist_end (down := down) hv hq (t.nodes.toNat + 1) _ (init_ei (down := down) (ps := ps) hd) (by
    have := undone_le (initP t.nodes.toNat d)
    omega)
  refine ⟨hi.len, fun v l e => ?_⟩
  have hvN : v < t.nodes.toNat := by
    have := (List.getElem?_eq_some_iff.1 e).1
    rw [hi.len] at this
    exact this
  have h := dij_min (down := down) (s := v) (d := d) hv hq (t.nodes.toNat + 1) (initP t.nodes.toNat v) (init_di hvN) (by
    have := undone_le (initP t.nodes.toNat v)
    have h2 : (initP t.nodes.toNat v).length = t.nodes.toNat := by unfold initP; simp
    omega)
  unfold cheapP
  cases hc : dijP t down ps d (t.nodes.toNat + 1) (initP t.nodes.toNat v) with
  | none =>
    rw [hc] at h
    have hk : l.known = false := by
      cases hk : l.known
      · rfl
      · exact absurd (hi.walk v l e hk) (h l.arcs)
    exact ⟨hk, by rw [hi.unk v l e hk]; rfl⟩
  | some p =>
    rw [hc] at h
    obtain ⟨h1, h2⟩ := h
    obtain ⟨l', e', hk, hle⟩ := hi.low hv hq hend p v h1
    rw [e] at e'
    injection e' with e'
    subst e'
    refine ⟨hk, Rat.le_antisymm hle ?_⟩
    have h3 := h2 _ (hi.walk v l e hk)
    rcases (leL_iff ps p l.arcs).1 h3 with h4 | h4
    · rw [h4]; exact Rat.le_refl
    · rcases (bef_iff ps p l.arcs).1 h4 with h5 | ⟨h5, _⟩
      · exact Rat.le_of_lt h5
      · exact (show prQ ps p ≤ prQ ps l.arcs by rw [h5]; exact Rat.le_refl)
end Go.Proofs.YtekiomanidimnaaGreatDoor


namespace Go.Proofs.YtekiomanidimnaaGreatDoor
open Go.RowKit
set_option maxRecDepth 100000 in
set_option maxHeartbeats 4000000 in
theorem entering_any (t : Tp) (AO : Option Addr) (co : Nat) (AL : Option Addr) (cl : Nat) (w : World) (ht : TopR w t AO co AL cl) (hv : validP t = true) :
    Calls Tryz.prog 86 #[.agg #[.int .i64 t.nodes, .slice AO t.over.length co, .slice AL t.links.length cl]] w fun e w' => ∃ g N : Nat, t.nodes = (N : Int) ∧ e = .returned (.slice (some ⟨g, 0, none⟩) N N) ∧ LL w' g N (entP t) ∧ Ext w w' := by
  have hN : ∃ N : Nat, t.nodes = (N : Int) ∧ 1 ≤ N ∧ N ≤ 64 ∧ t.links.length ≤ 256 := by
    unfold validP headOk inB at hv
    simp at hv
    exact ⟨t.nodes.toNat, by omega, by omega, by omega, by omega⟩
  have htl : ∀ a, a < 2 * t.links.length → ∃ n : Nat, headP t a = (n : Int) ∧ (n : Int) < t.nodes := fun a ha => by
    unfold validP at hv
    rw [Bool.and_eq_true] at hv
    obtain ⟨l, hl⟩ : ∃ l, t.links[a / 2]? = some l := ⟨_, List.getElem?_eq_getElem (by omega)⟩
    have hlk := List.all_eq_true.1 hv.2 l (List.mem_of_getElem? hl)
    unfold Lk.ok ndB at hlk
    simp at hlk
    unfold headP
    rw [hl]
    simp only []
    split
    · exact ⟨l.b.toNat, by omega, by omega⟩
    · exact ⟨l.a.toNat, by omega, by omega⟩
  obtain ⟨N, hN1, hN2, hN3, hN4⟩ := hN
  have HN := Lib.hid (hN1)
  have HT := Lib.hid (ht)
  have TL := Lib.hid (htl)
  have h3 := ht.ll
  have h4 := ht.cl
  clear ht hv htl
  obtain ⟨ti, hi, hz0, hz1, hz2⟩ := info_parts Tryz.info3
  obtain ⟨hba, e0⟩ := boxes1 w #[.int .i64 (N : Int), .slice AO t.over.length co, .slice AL t.links.length cl] 25
  have hmk := run_make_row' (P := Tryz.prog) 31 39 (.slice none 0 0) 24 Tryz.underlying31 Tryz.info39 rfl .i64 .i64 N (by omega) (by omega)
  have hargs : (Value.agg #[.int .i64 t.nodes, .slice AO t.over.length co, .slice AL t.links.length cl]) = .agg #[.int .i64 (N : Int), .slice AO t.over.length co, .slice AL t.links.length cl] := by rw [hN1]
  rw [hargs]
  clear hargs
  have hcall : ∀ (W : World), Ext w W → Calls Tryz.prog 110 #[.agg #[.int .i64 (N : Int), .slice AO t.over.length co, .slice AL t.links.length cl]] W fun e w' => e = .returned (.int .i64 (2 * (t.links.length : Int))) ∧ Ext W w' := fun W hW => by
    have := gArcs_any t AO co AL cl W (HT.out.keep hW); rw [hN1] at this; exact this
  have htail : ∀ (W : World) (a : Nat), Ext w W → a / 2 < t.links.length → Calls Tryz.prog 54 #[.agg #[.int .i64 (N : Int), .slice AO t.over.length co, .slice AL t.links.length cl], .int .i64 a] W fun e w' => e = .returned (.int .i64 (headP t a)) ∧ Ext W w' := fun W a hW ha => by
    have := gHead_any t AO co AL cl a W (HT.out.keep hW) ha; rw [hN1] at this; exact this
  have CALL := Lib.hid (hcall)
  have TAIL := Lib.hid (htail)
  clear hcall htail hN1
  go_enter Tryz.func86, Tryz.ntmps86
  go_wp2_with fail
  refine (CALL.out _ (e0.alloc _)).mono ?_
  rintro e w1 ⟨rfl, hx1⟩
  have E1 := Lib.hid ((e0.alloc _).tr hx1)
  have hfam : Fam ((w.alloc (.cells #[.int .i64 (N : Int), .slice AO t.over.length co, .slice AL t.links.length cl] 25)).alloc (.cells (madeCells #[.slice none 0 0] N) 39)) (w.heap.size + 1) (w.heap.size + 2) N (fun _ => .slice none 0 0) (fun _ => []) := by
    refine ⟨?_, fun i hi => World.ownsRow_nil _ _ _ _, fun i j _ _ _ => .inl rfl⟩
    have e : ((List.range N).map fun _ => Value.slice none 0 0).toArray = madeCells #[.slice none 0 0] N := by
      apply Array.toList_inj.1
      rw [toList_madeCells_one]
      simp only [List.map_const', List.length_range]
    rw [e]
    exact Blk.new' _ _ _ (by simp)
  have hfam := hfam.keep hx1
  have hba := (hba.alloc (.cells (madeCells #[.slice none 0 0] N) 39)).keep hx1
  have z1 : w.heap.size + 2 ≤ w1.heap.size := by have := hx1.size; simp at this; omega
  clear hx1 e0 hmk CALL
  go_wp2
  go_loopw [11] (fun it wr => ∃ (m : Nat) (V : Nat → Value), m ≤ 2 * t.links.length ∧ it = .int .i64 m ∧ Fam wr (w.heap.size + 1) (w.heap.size + 2) N V (entTo t m) ∧ Blk wr w.heap.size 25 #[.int .i64 (N : Int), .slice AO t.over.length co, .slice AL t.links.length cl] ∧ Ext w wr) (fun i _ => 2 * t.links.length - (intOf i).toNat)
  case atStart => exact ⟨0, _, Nat.zero_le _, rfl, hfam, hba, E1.out⟩
  case round =>
    clear hfam hba E1
    obtain ⟨m, V, hm, rfl, hfam, hba, hx⟩ := hrel
    obtain ⟨⟨i0, i1, i2⟩, g0, g1, g2⟩ := hba.three
    by_cases hml : m < 2 * t.links.length
    · obtain ⟨n, hn1, hn2⟩ := TL.out m hml
      rw [HN.out] at hn2
      have hn : n < N := by omega
      have TN := Lib.hid hn1
      have FAM := Lib.hid hfam
      have E := Lib.hid hx
      clear hn1 hn2 hfam hx
      go_wp2_with fail
      refine (TAIL.out _ m E.out (by omega)).mono ?_
      rintro e w2 ⟨rfl, hx2⟩
      rw [TN.out]
      have FAM2 := Lib.hid (FAM.out.keep hx2)
      have hba := hba.keep hx2
      have E2 := Lib.hid (E.out.tr hx2)
      have hsz : w.heap.size + 2 ≤ w2.heap.size := by have := FAM2.out.row.lt; omega
      have hcn : w2.cell? ⟨w.heap.size + 1, n, none⟩ = some (V n) := (FAM2.out.row.cell n).trans (range_map_get N V n hn)
      have hown := FAM2.out.own n hn
      have hlen := entTo_len t m n
      have j1 : (n : Int) < (N : Int) := by omega
      obtain ⟨A, c, hV, _, _⟩ := ownsRow_rdT hown rfl
      rw [hV] at hcn hown
      have HV := Lib.hid hV
      have OWN := Lib.hid hown
      clear hV hown hx2
      generalize hL : (entTo t m n).length = L at *
      have HL := Lib.hid hL
      clear hL
      go_wp2_with (at_builtin; go_must (refine wpList_append_own_at _ rfl (.tmp 22) (.tmp 24) 39 rfl (w.heap.size + 2) 3 ti (.int .i64 0) 1 8 Tryz.underlying39 hi hz0 hz1 hz2 rfl (by decide) (.slice A L c) L (ints (entTo t m n)) rfl (OWN.out.alloc _) ⟨w2.heap.size, 0, none⟩ 1 1 [.int .i64 (m : Int)] rfl rfl ?c1 ?c2 ?c3 ?c4 ?c5 ?_))
      case c1 =>
        intro j u hj
        match j, hj with
        | 0, hj => simp at hj; subst hj; simp [Addr.add]
      case c2 => intro u hu; simp at hu; subst hu; rfl
      case c3 => unfold maxLen; omega
      case c4 => omega
      case c5 => simp; omega
      intro v' w3 hown' hgrow _ hat
      have FAM3 := Lib.hid (FAM2.out.alloc (.cells #[.int .i64 (m : Int)] 3))
      rw [← HV.out] at hgrow hat
      have hrow3 := FAM3.out.rowG hn hgrow
      have hc3 : w3.cell? ⟨w.heap.size + 1, n, none⟩ = some (V n) := (hrow3.cell n).trans (range_map_get N V n hn)
      have hf3 := hrow3.frozen n
      rw [HV.out] at hc3
      have hbel : Below w.heap.size w w3 := (E2.out.alloc (.cells #[.int .i64 (m : Int)] 3)).grown hgrow (by simp; omega) (fun k hk => by have := (FAM2.out.own n hn).lt k hk; omega)
      have hba3 : Blk w3 w.heap.size 25 #[.int .i64 (N : Int), .slice AO t.over.length co, .slice AL t.links.length cl] := (hgrow.block w.heap.size (by have := hba.lt; simp; omega) (fun e => by have := (FAM2.out.own n hn).lt _ e.symm; omega)).trans (hba.alloc _)
      have hsh : ∃ g' cap, v' = .slice (some ⟨g', 0, none⟩) (L + 1) cap := by
        rcases hown'.2 with ⟨_, h⟩ | ⟨g', cap, _, h, _⟩
        · omega
        · exact ⟨g', cap, h⟩
      obtain ⟨g', cap, hv'⟩ := hsh
      subst hv'
      have FAM4 := Lib.hid (FAM3.out.app (a := m) hn (by rw [HL.out]; exact hown') hgrow (by simpa using hat))
      have hX : (fun i => if i = n then entTo t m n ++ [m] else entTo t m i) = entTo t (m + 1) := by
        funext i
        rw [entTo_succ, TN.out]
        by_cases e : i = n
        · subst e; simp
        · rw [if_neg e, if_neg (by simp; omega)]
      rw [hX] at FAM4
      clear hX hgrow hat hown' hrow3 OWN FAM FAM2 FAM3 hba
      go_wp2
      go_roundw
      case rel => exact ⟨m + 1, _, by omega, by go_num, FAM4.out, hba3.far (by simp) _, Ext.set_ hbel (by simp) _⟩
      case measure => simp [intOf]; omega
    · have hme : m = 2 * t.links.length := by omega
      subst hme
      have LLf := Lib.hid hfam.ll
      have E := Lib.hid hx
      clear hfam hx
      go_wp2
      go_ret
      exact ⟨_, N, HN.out, rfl, LLf.out, E.out⟩

end Go.Proofs.YtekiomanidimnaaGreatDoor


namespace Go.Proofs.YtekiomanidimnaaGreatDoor
open Go.RowKit
theorem QR.other {w w' : World} {cs : List Value} {q : Rat} {g : Nat} {t' : TypeId} {cs' : Array Value} (h : QR w cs q) (hg : w.grownBy w' (some g)) (hb : Blk w g t' cs') (hne : 167 ≠ t') : QR w' cs q := by
  obtain ⟨neg, A, n, c, A', n', c', e, h1⟩ := h
  exact ⟨neg, A, n, c, A', n', c', e, h1.other hg hb hne⟩
/-- A made row of rational numbers. -/
def QB (w : World) (g : Nat) (qs : List Rat) : Prop :=
  ∃ css : List (List Value), css.length = qs.length ∧ (∀ cs ∈ css, cs.length = 3) ∧ Blk w g 44 css.flatten.toArray ∧ ∀ (i : Nat) (q : Rat), qs[i]? = some q → ∃ cs, css[i]? = some cs ∧ QR w cs q
theorem QB.keep {w w' : World} {g : Nat} {qs : List Rat} (h : QB w g qs) (hx : Ext w w') : QB w' g qs := by
  obtain ⟨css, h1, h2, h3, h4⟩ := h
  refine ⟨css, h1, h2, h3.keep hx, fun i q hl => ?_⟩
  obtain ⟨cs, k1, k2⟩ := h4 i q hl
  exact ⟨cs, k1, k2.keep hx⟩
theorem QB.lt {w : World} {g : Nat} {qs : List Rat} (h : QB w g qs) : g < w.heap.size := by
  obtain ⟨css, _, _, h3, _⟩ := h
  exact h3.lt
theorem QB.blk {w : World} {g : Nat} {qs : List Rat} (h : QB w g qs) : ∃ cs, Blk w g 44 cs := by
  obtain ⟨css, _, _, h3, _⟩ := h
  exact ⟨_, h3⟩
theorem QB.at_ {w : World} {g : Nat} {qs : List Rat} (h : QB w g qs) {i : Nat} {q : Rat} (hl : qs[i]? = some q) :
    ∃ (neg : Bool) (A : Option Addr) (n c : Nat) (A' : Option Addr) (n' c' : Nat),
      (w.cell? ⟨g, i * 3, none⟩ = some (.bool neg) ∧ w.cell? ⟨g, i * 3 + 1, none⟩ = some (.slice A n c) ∧ w.cell? ⟨g, i * 3 + 2, none⟩ = some (.slice A' n' c')) ∧
      (w.frozen? ⟨g, i * 3, none⟩ = false ∧ w.frozen? ⟨g, i * 3 + 1, none⟩ = false ∧ w.frozen? ⟨g, i * 3 + 2, none⟩ = false) ∧ RatR w neg A n c A' n' c' q := by
  obtain ⟨css, h1, h2, h3, h4⟩ := h
  obtain ⟨cs, k1, neg, A, n, c, A', n', c', rfl, k2⟩ := h4 i q hl
  have hi := (List.getElem?_eq_some_iff.1 hl).1
  have key : ∀ k, k < 3 → w.cell? ⟨g, i * 3 + k, none⟩ = ([.bool neg, .slice A n c, .slice A' n' c'] : List Value)[k]? := fun k hk => by
    rw [h3.cell, List.getElem?_toArray, flatten_get css h2 i k (by omega) hk, k1]; rfl
  exact ⟨neg, A, n, c, A', n', c', ⟨key 0 (by omega), key 1 (by omega), key 2 (by omega)⟩, ⟨h3.frozen _, h3.frozen _, h3.frozen _⟩, k2⟩
theorem QB.other {w w' : World} {g g' : Nat} {qs : List Rat} {t' : TypeId} {cs' : Array Value} (h : QB w g qs) (hg : w.grownBy w' (some g')) (hb : Blk w g' t' cs') (hne : 167 ≠ t') (hgg : g ≠ g') : QB w' g qs := by
  obtain ⟨css, h1, h2, h3, h4⟩ := h
  refine ⟨css, h1, h2, (hg.block g h3.lt (fun e => hgg (by injection e))).trans h3, fun i q hq => ?_⟩
  obtain ⟨cs, k1, k2⟩ := h4 i q hq
  exact ⟨cs, k1, k2.other hg hb hne⟩
theorem st_gen {K : Nat} (css : List (List Value)) (h2 : ∀ cs ∈ css, cs.length = K) (m : Nat) (hml : m < css.length) (c1 : List Value) (k : Nat) (v : Value) (hc : c1.length = K) (hk : k < K) : ((css.set m c1).flatten).set (m * K + k) v = (css.set m (c1.set k v)).flatten := by
  have hall : ∀ c ∈ css.set m c1, c.length = K := fun c hcc => by
    rcases List.mem_or_eq_of_mem_set hcc with h | h
    · exact h2 c h
    · rw [h]; exact hc
  have h := flatten_set (css.set m c1) hall m k v (by rw [List.length_set]; exact hml) hk
  rw [List.getElem?_set_self hml, Option.getD_some, List.set_set] at h
  exact h
theorem QB.put {w : World} {g m : Nat} {qs : List Rat} {q : Rat} {neg : Bool} {A : Option Addr} {n c : Nat} {A' : Option Addr} {n' c' : Nat} (h : QB w g qs) (hm : m < qs.length) (hl : RatR w neg A n c A' n' c' q) :
    QB (((w.setCell ⟨g, m * 3, none⟩ (.bool neg)).setCell ⟨g, m * 3 + 1, none⟩ (.slice A n c)).setCell ⟨g, m * 3 + 2, none⟩ (.slice A' n' c')) g (qs.set m q) := by
  obtain ⟨css, h1, h2, h3, h4⟩ := h
  have g2 := ((grown_set w g (m * 3) (.bool neg)).trans (grown_set _ g (m * 3 + 1) (.slice A n c))).trans (grown_set _ g (m * 3 + 2) (.slice A' n' c'))
  have hml : m < css.length := by omega
  obtain ⟨cs, hcs⟩ : ∃ cs, css[m]? = some cs := ⟨_, List.getElem?_eq_getElem hml⟩
  have hc3 : cs.length = 3 := h2 cs (List.mem_of_getElem? hcs)
  have e0 : css = css.set m cs := by
    apply List.ext_getElem?
    intro i
    by_cases e : m = i
    · subst e; rw [List.getElem?_set_self hml]; exact hcs
    · rw [List.getElem?_set_ne e]
  have b := ((h3.set_ (m * 3 + 0) (.bool neg)).set_ (m * 3 + 1) (.slice A n c)).set_ (m * 3 + 2) (.slice A' n' c')
  rw [List.setIfInBounds_toArray, List.setIfInBounds_toArray, List.setIfInBounds_toArray, e0, st_gen css h2 m hml cs 0 _ hc3 (by omega), st_gen css h2 m hml _ 1 _ (by simp [hc3]) (by omega), st_gen css h2 m hml _ 2 _ (by simp [hc3]) (by omega)] at b
  have e3 : ((cs.set 0 (.bool neg)).set 1 (.slice A n c)).set 2 (.slice A' n' c') = [.bool neg, .slice A n c, .slice A' n' c'] := by
    rcases cs with _ | ⟨a0, _ | ⟨a1, _ | ⟨a2, _ | ⟨a3, r⟩⟩⟩⟩
    all_goals first | (simp at hc3; done) | rfl
  rw [e3] at b
  refine ⟨css.set m [.bool neg, .slice A n c, .slice A' n' c'], by simp [h1], fun c hcc => ?_, b, fun i p hi => ?_⟩
  · rcases List.mem_or_eq_of_mem_set hcc with h | h
    · exact h2 c h
    · rw [h]; rfl
  · by_cases e : m = i
    · subst e
      rw [List.getElem?_set_self hm] at hi
      injection hi with hi
      subst hi
      exact ⟨_, List.getElem?_set_self hml, neg, A, n, c, A', n', c', rfl, hl.other g2 h3 (by decide)⟩
    · rw [List.getElem?_set_ne e] at hi
      obtain ⟨cs', k1, k2⟩ := h4 i p hi
      exact ⟨cs', by rw [List.getElem?_set_ne e]; exact k1, k2.other g2 h3 (by decide)⟩
theorem QB.ql {w : World} {g : Nat} {qs : List Rat} (h : QB w g qs) : QL w (some ⟨g, 0, none⟩) qs := by
  obtain ⟨css, h1, h2, h3, h4⟩ := h
  exact ⟨css, h1, h2, (RdT.of_blk h3 rfl).rd, h4⟩
theorem run_make_rats (n : Nat) (hn : n ≤ 1000) (w : World) :
    (Instr.makeSlice 47 (.int .i64 (n : Int)) (.int .i64 (n : Int))).run Tryz.prog w = .ok (.slice (some ⟨w.heap.size, 0, none⟩) n n) (w.alloc (.cells (madeCells #[.bool false, .slice none 0 0, .slice none 0 0] (n * 3)) 44)) := by
  obtain ⟨i, hi, hz, hs, hb⟩ := info_parts Tryz.info44
  have h63 : (i.bytes : Int) * (n : Int) ≤ 281474976710656 := by rw [hb]; omega
  have hr := run_make (P := Tryz.prog) w 47 44 i _ Tryz.underlying47 hi hz .i64 .i64 n n (by omega) (by omega) h63 (by omega)
  simp only [Int.toNat_natCast] at hr
  rw [hs] at hr
  exact hr
theorem made_flatten3 (N : Nat) : madeCells #[.bool false, .slice none 0 0, .slice none 0 0] (N * 3) = (List.replicate N [Value.bool false, .slice none 0 0, .slice none 0 0]).flatten.toArray := by
  apply Array.ext'
  apply List.ext_getElem?
  intro i
  have hall : ∀ cs ∈ List.replicate N [Value.bool false, .slice none 0 0, .slice none 0 0], cs.length = 3 := fun cs h => by rw [List.eq_of_mem_replicate h]; rfl
  have hl := flatten_length _ hall
  rw [List.length_replicate] at hl
  by_cases hi : i < N * 3
  · have h1 := flatten_get _ hall (i / 3) (i % 3) (by rw [List.length_replicate]; omega) (by omega)
    rw [show i / 3 * 3 + i % 3 = i by omega, List.getElem?_replicate, if_pos (by omega), Option.getD_some] at h1
    simp only []
    rw [h1]
    have h2 : (madeCells #[.bool false, .slice none 0 0, .slice none 0 0] (N * 3)).toList[i]? = some ((#[.bool false, .slice none 0 0, .slice none 0 0] : Array Value)[i % 3]!) := by
      simp [madeCells, hi]
    rw [h2]
    have h6 : i % 3 = 0 ∨ i % 3 = 1 ∨ i % 3 = 2 := by omega
    rcases h6 with e | e | e <;> rw [e] <;> rfl
  · rw [List.getElem?_eq_none (by simp [madeCells]; omega), List.getElem?_eq_none (by simp only []; omega)]
theorem QB.made (w : World) (N : Nat) : QB (w.alloc (.cells (madeCells #[.bool false, .slice none 0 0, .slice none 0 0] (N * 3)) 44)) w.heap.size (List.replicate N 0) := by
  refine ⟨List.replicate N [.bool false, .slice none 0 0, .slice none 0 0], by simp, fun cs h => by rw [List.eq_of_mem_replicate h]; rfl, ?_, fun i q hq => ?_⟩
  · rw [made_flatten3]; exact Blk.new _ _ _
  · rw [List.getElem?_replicate] at hq
    split at hq
    · rename_i hi
      injection hq with hq
      subst hq
      exact ⟨_, by rw [List.getElem?_replicate, if_pos hi], false, none, 0, 0, none, 0, 0, rfl, ratR_zero _⟩
    · cases hq
theorem bools_setA (l : List Bool) (k : Nat) (b : Bool) : (bools l).toArray.setIfInBounds k (.bool b) = (bools (l.set k b)).toArray := by
  rw [List.setIfInBounds_toArray]
  unfold bools
  rw [List.map_set]
theorem bools_getA (l : List Bool) (k : Nat) (b : Bool) (h : l[k]? = some b) : (bools l).toArray[k]? = some (.bool b) := by
  unfold bools
  simp [h]
def priL (ps : List Rat) (ls : List Lb) : List Rat := ls.map fun l => prQ ps l.arcs
/-- The search for the prices, under way. -/
structure DSt (w wr : World) (t : Tp) (AO : Option Addr) (co : Nat) (AL : Option Addr) (cl : Nat) (ps : List Rat) (gd gk gn gll N : Nat) (ls : List Lb) : Prop where
  tt : Blk wr w.heap.size 25 #[.int .i64 (N : Int), .slice AO t.over.length co, .slice AL t.links.length cl]
  di : QB wr gd (priL ps ls)
  kk : Blk wr gk 4 (bools (ls.map Lb.known)).toArray
  nn : Blk wr gn 4 (bools (ls.map Lb.done)).toArray
  len : ls.length = N
  ok : lenOk ls
  ll : LL wr gll N (entP t)
  gg : w.heap.size < gd ∧ w.heap.size < gk ∧ w.heap.size < gn ∧ gk ≠ gn
  ext : Ext w wr
theorem DSt.keep {w wr w' : World} {t : Tp} {AO : Option Addr} {co : Nat} {AL : Option Addr} {cl : Nat} {ps : List Rat} {gd gk gn gll N : Nat} {ls : List Lb} (h : DSt w wr t AO co AL cl ps gd gk gn gll N ls) (hx : Ext wr w') : DSt w w' t AO co AL cl ps gd gk gn gll N ls :=
  ⟨h.tt.keep hx, h.di.keep hx, h.kk.keep hx, h.nn.keep hx, h.len, h.ok, h.ll.keep hx, h.gg, h.ext.tr hx⟩
theorem mark_known {ls : List Lb} {n : Nat} {l : Lb} (h : ls[n]? = some l) : (markP ls n).map Lb.known = ls.map Lb.known ∧ (markP ls n).map Lb.done = (ls.map Lb.done).set n true ∧ ∀ ps, priL ps (markP ls n) = priL ps ls := by
  unfold markP
  rw [h]
  have hlt := (List.getElem?_eq_some_iff.1 h).1
  refine ⟨?_, by simp [List.map_set], fun ps => ?_⟩
  · simp only [List.map_set]
    apply List.ext_getElem?
    intro i
    by_cases e : n = i
    · subst e; rw [List.getElem?_set_self (by simpa using hlt)]; simp [h]
    · rw [List.getElem?_set_ne e]
  · unfold priL
    simp only [List.map_set]
    apply List.ext_getElem?
    intro i
    by_cases e : n = i
    · subst e; rw [List.getElem?_set_self (by simpa using hlt)]; simp [h]
    · rw [List.getElem?_set_ne e]
theorem DSt.mark {w wr : World} {t : Tp} {AO : Option Addr} {co : Nat} {AL : Option Addr} {cl : Nat} {ps : List Rat} {gd gk gn gll N n : Nat} {ls : List Lb} {l : Lb} (h : DSt w wr t AO co AL cl ps gd gk gn gll N ls) (hl : ls[n]? = some l) (hd : l.done = false) : DSt w (wr.setCell ⟨gn, n, none⟩ (.bool true)) t AO co AL cl ps gd gk gn gll N (markP ls n) := by
  obtain ⟨e1, e2, e3⟩ := mark_known hl
  have hg := grown_set wr gn n (.bool true)
  obtain ⟨g1, g2, g3, g4⟩ := h.gg
  obtain ⟨cd, hcd⟩ := h.di.blk
  refine ⟨h.tt.far (p := ⟨gn, n, none⟩) (by simp; omega) _, ?_, ?_, ?_, ?_, ?_, h.ll.other hg h.nn (by decide) (by decide), h.gg, h.ext.set_ (p := ⟨gn, n, none⟩) (by simp; omega) _⟩
  · rw [e3]; exact h.di.other hg h.nn (by decide) (hcd.ne_ h.nn (by decide))
  · rw [e1]; exact h.kk.far (p := ⟨gn, n, none⟩) g4 _
  · rw [e2, ← bools_setA]; exact h.nn.set_ n _
  · unfold markP; rw [hl, List.length_set]; exact h.len
  · intro x hx
    have hu := undone_mark hl hd
    have hm : (markP ls n).length = ls.length := by unfold markP; rw [hl, List.length_set]
    have h1 : x.arcs.length + undone ls ≤ ls.length := by
      unfold markP at hx
      rw [hl] at hx
      rcases List.mem_or_eq_of_mem_set hx with h5 | h5
      · exact h.ok x h5
      · subst h5; exact h.ok l (List.mem_of_getElem? hl)
    omega
theorem DSt.put {w wr : World} {t : Tp} {AO : Option Addr} {co : Nat} {AL : Option Addr} {cl : Nat} {ps : List Rat} {gd gk gn gll N m : Nat} {ls : List Lb} {lm : Lb} {X : List Nat} {neg : Bool} {A : Option Addr} {n c : Nat} {A' : Option Addr} {n' c' : Nat} (h : DSt w wr t AO co AL cl ps gd gk gn gll N ls) (hl : ls[m]? = some lm) (hd : lm.done = false) (hX : X.length + undone ls ≤ N) (hR : RatR wr neg A n c A' n' c' (prQ ps X)) :
    DSt w ((((wr.setCell ⟨gd, m * 3, none⟩ (.bool neg)).setCell ⟨gd, m * 3 + 1, none⟩ (.slice A n c)).setCell ⟨gd, m * 3 + 2, none⟩ (.slice A' n' c')).setCell ⟨gk, m, none⟩ (.bool true)) t AO co AL cl ps gd gk gn gll N (ls.set m ⟨true, false, X⟩) := by
  have hml := (List.getElem?_eq_some_iff.1 hl).1
  obtain ⟨g1, g2, g3, g4⟩ := h.gg
  obtain ⟨cd, hcd⟩ := h.di.blk
  have hg := ((grown_set wr gd (m * 3) (.bool neg)).trans (grown_set _ gd (m * 3 + 1) (.slice A n c))).trans (grown_set _ gd (m * 3 + 2) (.slice A' n' c'))
  have hp := h.di.put (m := m) (by unfold priL; rw [List.length_map]; exact hml) hR
  have hdk : gk ≠ gd := h.kk.ne_ hcd (by decide)
  have hdn : gn ≠ gd := h.nn.ne_ hcd (by decide)
  have k1 := ((h.kk.far (p := ⟨gd, m * 3, none⟩) hdk (.bool neg)).far (p := ⟨gd, m * 3 + 1, none⟩) hdk (.slice A n c)).far (p := ⟨gd, m * 3 + 2, none⟩) hdk (.slice A' n' c')
  have n1 := ((h.nn.far (p := ⟨gd, m * 3, none⟩) hdn (.bool neg)).far (p := ⟨gd, m * 3 + 1, none⟩) hdn (.slice A n c)).far (p := ⟨gd, m * 3 + 2, none⟩) hdn (.slice A' n' c')
  have t1 := ((h.tt.far (p := ⟨gd, m * 3, none⟩) (by simp; omega) (.bool neg)).far (p := ⟨gd, m * 3 + 1, none⟩) (by simp; omega) (.slice A n c)).far (p := ⟨gd, m * 3 + 2, none⟩) (by simp; omega) (.slice A' n' c')
  have l1 := h.ll.other hg hcd (by decide) (by decide)
  have x1 := ((h.ext.set_ (p := ⟨gd, m * 3, none⟩) (by simp; omega) (.bool neg)).set_ (p := ⟨gd, m * 3 + 1, none⟩) (by simp; omega) (.slice A n c)).set_ (p := ⟨gd, m * 3 + 2, none⟩) (by simp; omega) (.slice A' n' c')
  have hgk := grown_set (((wr.setCell ⟨gd, m * 3, none⟩ (.bool neg)).setCell ⟨gd, m * 3 + 1, none⟩ (.slice A n c)).setCell ⟨gd, m * 3 + 2, none⟩ (.slice A' n' c')) gk m (.bool true)
  have e1 : (ls.set m ⟨true, false, X⟩).map Lb.known = (ls.map Lb.known).set m true := by simp [List.map_set]
  have e2 : (ls.set m ⟨true, false, X⟩).map Lb.done = ls.map Lb.done := by
    simp only [List.map_set]
    apply List.ext_getElem?
    intro i
    by_cases e : m = i
    · subst e; rw [List.getElem?_set_self (by simpa using hml)]; simp [hl, hd]
    · rw [List.getElem?_set_ne e]
  have e3 : priL ps (ls.set m ⟨true, false, X⟩) = (priL ps ls).set m (prQ ps X) := by unfold priL; simp [List.map_set]
  refine ⟨t1.far (p := ⟨gk, m, none⟩) (by simp; omega) _, ?_, ?_, ?_, by rw [List.length_set]; exact h.len, ?_, l1.other hgk k1 (by decide) (by decide), h.gg, x1.set_ (p := ⟨gk, m, none⟩) (by simp; omega) _⟩
  · rw [e3]; exact hp.other hgk k1 (by decide) (fun e => hdk e.symm)
  · rw [e1, ← bools_setA]; exact k1.set_ m _
  · rw [e2]; exact n1.far (p := ⟨gk, m, none⟩) (fun e => g4 e.symm) _
  · intro x hx
    rw [List.length_set, undone_set hl hd rfl]
    rcases List.mem_or_eq_of_mem_set hx with h5 | h5
    · exact h.ok x h5
    · subst h5; rw [h.len]; exact hX
end Go.Proofs.YtekiomanidimnaaGreatDoor
