/- The document's example: a ring of four nodes (plain). -/
/- waypointlaw42.ring. -/
import Derived.Test.YtekiomanidimnaaDoorMI
import Derived.Maps.AppendAt
import Derived.Deep.RegionHeld3
set_option linter.unusedVariables false
set_option linter.unusedSimpArgs false

namespace Go.Proofs.YtekiomanidimnaaDoor
open Go.RowKit
def ringL (i : Nat) : Lk := ⟨i, ((i + 1) % 4 : Nat), 1, 1, 0, 1, 0⟩
def ringT : Tp := ⟨4, [], (List.range 4).map ringL⟩
def ringQ (k : Int) : List Rat := mkRat k 2 :: List.replicate 7 (mkRat 1 2)
theorem ring_one : cheapP ringT [] (ringQ 1) 0 2 = some [0, 2] := by decide +kernel
theorem ring_two : cheapP ringT [] (ringQ 2) 0 2 = some [7, 5] := by decide +kernel
theorem ring_pr1 : prQ (ringQ 1) [0, 2] = 1 := by decide +kernel
theorem ring_pr2 : prQ (ringQ 2) [7, 5] = 1 := by decide +kernel
theorem ring_valid : validP ringT = true := by decide +kernel
end Go.Proofs.YtekiomanidimnaaDoor


namespace Go.Proofs.YtekiomanidimnaaDoor
open Go.RowKit
def ringC (k : Nat) : List Value := ((List.range k).map ringL).flatMap Lk.cells
theorem ringC_succ (k : Nat) : ringC (k + 1) = ringC k ++ (ringL k).cells := by
  unfold ringC
  rw [List.range_succ, List.map_append, List.flatMap_append]
  simp
theorem own_form7 {w : World} {B n s : Nat} {e : TypeId} {v : Value} {xs : List Value} (h : w.ownsRow B e s v n xs) : ∃ A cap, v = .slice A n cap := by
  rcases h.2 with ⟨h1, h2⟩ | ⟨g, cap, _, h2, _⟩
  · exact ⟨none, 0, by rw [h1, h2]⟩
  · exact ⟨_, cap, h2⟩
theorem own_rd7 {w : World} {B n s c : Nat} {e : TypeId} {A : Option Addr} {xs : List Value} (h : w.ownsRow B e s (.slice A n c) n xs) : Rd w A xs ∧ n ≤ c := by
  rcases h.2 with ⟨h1, h2⟩ | ⟨g, cap, cur, h2, h3, h4, h5, h6, h7, h8⟩
  · subst h2
    injection h1 with e1 e2 e3
    have hx : xs = [] := List.eq_nil_of_length_eq_zero (by have := h.1; omega)
    subst hx
    exact ⟨Rd.nil _ _, by omega⟩
  · injection h2 with e1 e2 e3
    subst e1 e3
    refine ⟨fun _ => ⟨g, 0, rfl, lt_of_get h4, fun i hi => ?_⟩, h5⟩
    rw [cell_of_row w g (0 + i) cur e (0, 0) h4, Nat.zero_add, ← h8, List.getElem?_take, if_pos (by have := h.1; omega)]
    simp
theorem set3_grown (w : World) (g : Nat) (a b c : Value) : w.grownBy (((w.setCell ⟨g, 0, none⟩ a).setCell ⟨g, 1, none⟩ b).setCell ⟨g, 2, none⟩ c) (some g) :=
  ((grown_set w g 0 a).trans (grown_set _ g 1 b)).trans (grown_set _ g 2 c)
theorem own_ne7 {w : World} {B n g s : Nat} {e : TypeId} {v : Value} {xs : List Value} (h : w.ownsRow B e s v n xs) (hg : g < B) : v.ownBlock = none ∨ v.ownBlock ≠ some g := by
  right
  intro e
  have := (h.lt g e).1
  omega
theorem ofQ_one : ofQ 1 2 = mkRat 1 2 := by decide +kernel
theorem ofQ_two : ofQ 2 2 = mkRat 2 2 := by decide +kernel
end Go.Proofs.YtekiomanidimnaaDoor
