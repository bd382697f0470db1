/- pricing.Simple's second closure: the search. -/
/- pricing.Simple's second closure: the search, whole. -/
/- pricing.Simple. -/
import Derived.Test.YtekiomanidimnaaDoorME
import Derived.Deep.RegionHeld3
import Derived.Laws.EntriesVeiled
set_option linter.unusedVariables false
set_option linter.unusedSimpArgs false

namespace Go.Proofs.YtekiomanidimnaaDoor
open Go.RowKit
/-- What one arc does to the paths. -/
def srchG (t : Tp) (down : List Bool) (d most f : Nat) (path : List Nat) (vis : List Bool) (ps : List (List Nat)) (a : Nat) : List (List Nat) :=
  if decide (most < ps.length) || vis[(headP t a).toNat]?.getD false || !usableP t down a d || !leftP t down d vis (headP t a).toNat then ps
      else srchP t down d most f (path ++ [a]) (headP t a).toNat vis ps
end Go.Proofs.YtekiomanidimnaaDoor


namespace Go.Proofs.YtekiomanidimnaaDoor
open Go.RowKit
theorem set_back {l : List Bool} {k : Nat} (h : l[k]? = some false) : (l.set k true).set k false = l := by
  obtain ⟨hk, he⟩ := List.getElem?_eq_some_iff.1 h
  rw [List.set_set]
  apply List.ext_getElem?
  intro i
  rw [List.getElem?_set]
  split
  · rename_i e; subst e; simp [hk, he]
  · rfl
theorem srchP_succ (t : Tp) (down : List Bool) (d most f : Nat) (path : List Nat) (n : Nat) (vis : List Bool) (ps : List (List Nat)) (h : n ≠ d) : srchP t down d most (f + 1) path n vis ps = (leavP t n).foldl (srchG t down d most f path (vis.set n true)) ps := by
  rw [srchP, if_neg h]; rfl
theorem PathsA.form {w : World} {B : Nat} {v : Value} {ps : List (List Nat)} {x : Option Nat} (h : PathsA w B v ps x) : ∃ A c, v = .slice A ps.length c := h.paths.form
theorem own_form {w : World} {B n : Nat} {e : TypeId} {v : Value} {xs : List Value} (h : w.ownsRow B e 1 v (n + 1) xs) : ∃ g cap, v = .slice (some ⟨g, 0, none⟩) (n + 1) cap ∧ n + 1 ≤ cap := by
  rcases h.2 with ⟨_, h2⟩ | ⟨g, cap, _, h2, _, _, h3, _⟩
  · omega
  · exact ⟨g, cap, h2, h3⟩
theorem own_form' {w : World} {B n : Nat} {e : TypeId} {v : Value} {xs : List Value} (h : w.ownsRow B e 1 v n xs) : ∃ A cap, v = .slice A n cap := by
  rcases h.2 with ⟨h1, h2⟩ | ⟨g, cap, _, h2, _⟩
  · exact ⟨none, 0, by rw [h1, h2]⟩
  · exact ⟨_, cap, h2⟩
end Go.Proofs.YtekiomanidimnaaDoor


namespace Go.Proofs.YtekiomanidimnaaDoor
open Go.RowKit
theorem bools_replicate (N : Nat) : madeCells #[.bool false] N = (bools (List.replicate N false)).toArray := by
  apply Array.ext'
  rw [toList_madeCells_one]
  simp [bools]
end Go.Proofs.YtekiomanidimnaaDoor
