/- pricing.Simple's second closure: the search. -/
/- pricing.Simple's second closure: the search, whole. -/
/- pricing.Simple. -/
import Derived.Test.YtjmkcckbbgpkeaaGreatDoorME
import Derived.Deep.RegionHeld3
import Derived.Laws.EntriesVeiled
set_option linter.unusedVariables false
set_option linter.unusedSimpArgs false

namespace Go.Proofs.YtjmkcckbbgpkeaaGreatDoor
open Go.RowKit
theorem cloneI_ok (B : Nat) (qv : Value) (path : List Nat) (w : World) (hq : w.ownsRow B 3 1 qv path.length (ints path)) (hl : path.length ≤ 1000) :
    Calls Tryz.prog 29 #[qv] w fun e w' => ∃ (A : Option Addr) (c : Nat), e = .returned (.slice A path.length c) ∧ path.length ≤ c ∧ RdT w' 3 A (ints path) ∧ (path ≠ [] → ∀ a, A = some a → w.heap.size ≤ a.block) ∧ Ext w w' := by
  obtain ⟨ti, hi, hz0, hz1, hz2⟩ := info_parts Tryz.info3
  have hq0 := hq
  rcases hq.2 with ⟨rfl, h0⟩ | ⟨g, cap, cur, rfl, k1, k2, k3, k4, k5, k6⟩
  · have hp : path = [] := List.eq_nil_of_length_eq_zero h0
    subst hp
    refine (Tryz.slices_Clone_nil 0 0 w).mono ?_
    rintro e w' ⟨rfl, rfl⟩
    exact ⟨none, 0, rfl, Nat.le_refl _, RdT.nil _ _ _, fun h => absurd rfl h, Ext.refl _⟩
  · refine (Tryz.slices_Clone ti (.int .i64 0) 1 8 hi hz0 hz1 hz2 rfl (by decide) (fun w => by simp [Go.sizeOf, typeInfo, hi, hz1]) g 0 path.length cap (ints path) w (by simp [ints]) (by unfold maxLen; omega) (by omega) ?_ (ints_one _)).mono ?_
    · intro j u hj
      rw [Nat.zero_add, hq0.cellAt j (by have := (List.getElem?_eq_some_iff.1 hj).1; rw [ints_length] at this; omega)]
      exact hj
    · rintro e w' ⟨v', rfl, hown, hne, hbel⟩
      obtain ⟨A, c, rfl, h1, h2⟩ := ownsRow_rdT (l := path) hown rfl
      refine ⟨A, c, rfl, h1, h2, fun _ a ha => ?_, hbel⟩
      subst ha
      obtain ⟨g', cap', hv, h3, _⟩ : ∃ g' cap', (Value.slice (some a) path.length c) = .slice (some ⟨g', 0, none⟩) path.length cap' ∧ w.heap.size ≤ g' ∧ True := by
        rcases hown.2 with ⟨e, _⟩ | ⟨g', cap', _, e, h4, _⟩
        · cases e
        · exact ⟨g', cap', e, h4, trivial⟩
      injection hv with hv
      injection hv with hv
      subst hv
      exact h3
/-- What one arc does to the paths. -/
def srchG (t : Tp) (down : List Bool) (d most f : Nat) (path : List Nat) (vis : List Bool) (ps : List (List Nat)) (a : Nat) : List (List Nat) :=
  if decide (most < ps.length) || vis[(headP t a).toNat]?.getD false || !usableP t down a d || !leftP t down d vis (headP t a).toNat then ps
      else srchP t down d most f (path ++ [a]) (headP t a).toNat vis ps
end Go.Proofs.YtjmkcckbbgpkeaaGreatDoor


namespace Go.Proofs.YtjmkcckbbgpkeaaGreatDoor
open Go.RowKit
theorem set_back {l : List Bool} {k : Nat} (h : l[k]? = some false) : (l.set k true).set k false = l := by
  obtain ⟨hk, he⟩ := List.getElem?_eq_some_iff.1 h
  rw [List.set_set]
  apply List.ext_getElem?
  intro i
  rw [List.getElem?_set]
  split
  · rename_i e; subst e; simp [hk, he]
  · rfl
theorem srchP_succ (t : Tp) (down : List Bool) (d most f : Nat) (path : List Nat) (n : Nat) (vis : List Bool) (ps : List (List Nat)) (h : n ≠ d) : srchP t down d most (f + 1) path n vis ps = (leavP t n).foldl (srchG t down d most f path (vis.set n true)) ps := by
  rw [srchP, if_neg h]; rfl
theorem PathsA.form {w : World} {B : Nat} {v : Value} {ps : List (List Nat)} {x : Option Nat} (h : PathsA w B v ps x) : ∃ A c, v = .slice A ps.length c := h.paths.form
theorem own_form {w : World} {B n : Nat} {e : TypeId} {v : Value} {xs : List Value} (h : w.ownsRow B e 1 v (n + 1) xs) : ∃ g cap, v = .slice (some ⟨g, 0, none⟩) (n + 1) cap ∧ n + 1 ≤ cap := by
  rcases h.2 with ⟨_, h2⟩ | ⟨g, cap, _, h2, _, _, h3, _⟩
  · omega
  · exact ⟨g, cap, h2, h3⟩
theorem own_form' {w : World} {B n : Nat} {e : TypeId} {v : Value} {xs : List Value} (h : w.ownsRow B e 1 v n xs) : ∃ A cap, v = .slice A n cap := by
  rcases h.2 with ⟨h1, h2⟩ | ⟨g, cap, _, h2, _⟩
  · exact ⟨none, 0, by rw [h1, h2]⟩
  · exact ⟨_, cap, h2⟩
end Go.Proofs.YtjmkcckbbgpkeaaGreatDoor


namespace Go.Proofs.YtjmkcckbbgpkeaaGreatDoor
open Go.RowKit
/-- The parameters' boxes. -/
structure SBox (wx : World) (W : Nat) (t : Tp) (AO : Option Addr) (co : Nat) (AL : Option Addr) (cl : Nat) (AD : Option Addr) (cd : Nat) (down : List Bool) (d most : Int) : Prop where
  tt : Blk wx W 25 #[.int .i64 t.nodes, .slice AO t.over.length co, .slice AL t.links.length cl]
  ww : Blk wx (W + 1) 22 #[.slice AD down.length cd]
  dd : Blk wx (W + 1 + 1) 3 #[.int .i64 d]
  mm : Blk wx (W + 1 + 1 + 1) 3 #[.int .i64 most]
theorem SBox.keep {w w' : World} {W : Nat} {t : Tp} {AO : Option Addr} {co : Nat} {AL : Option Addr} {cl : Nat} {AD : Option Addr} {cd : Nat} {down : List Bool} {d most : Int} (h : SBox w W t AO co AL cl AD cd down d most) (hx : Ext w w') : SBox w' W t AO co AL cl AD cd down d most :=
  ⟨h.tt.keep hx, h.ww.keep hx, h.dd.keep hx, h.mm.keep hx⟩
theorem bools_replicate (N : Nat) : madeCells #[.bool false] N = (bools (List.replicate N false)).toArray := by
  apply Array.ext'
  rw [toList_madeCells_one]
  simp [bools]
end Go.Proofs.YtjmkcckbbgpkeaaGreatDoor
