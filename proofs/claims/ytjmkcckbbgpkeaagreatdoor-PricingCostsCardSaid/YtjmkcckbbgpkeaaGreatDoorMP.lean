/- slices.stableCmpFunc, slices.SortStableFunc: the indices of split.greatest in order. -/
/- split.greatest: the indices, the greatest numbers first. -/
import Derived.Test.YtjmkcckbbgpkeaaGreatDoorSortE
import Derived.Test.YtjmkcckbbgpkeaaGreatDoorMN
set_option linter.unusedVariables false
set_option linter.unusedSimpArgs false

namespace Go.Proofs.YtjmkcckbbgpkeaaGreatDoor
open Go.RowKit
/-- Sorting, under way. -/
structure StS (w0 wr : World) (g N : Nat) (l : List Nat) : Prop where
  mv : Moved 0 N (List.range N) l
  row : NRow wr g l
  ext : Ext w0 wr
theorem StS.len {w0 wr : World} {g N : Nat} {l : List Nat} (h : StS w0 wr g N l) : l.length = N := by rw [h.mv.len]; simp
theorem StS.lt {w0 wr : World} {g N : Nat} {l : List Nat} (h : StS w0 wr g N l) : ∀ k, k < N → atL l k < N :=
  h.mv.lt (Nat.le_refl _) (fun k hk => by unfold atL; rw [List.getElem?_range hk]; exact hk)
theorem StS.next {w0 wr w' : World} {g N a b : Nat} {l l' : List Nat} (h : StS w0 wr g N l) (hm : Moved a b l l') (hb : b ≤ N) (hr : NRow w' g l') (hx : Ext w0 w') : StS w0 w' g N l' :=
  ⟨h.mv.trans (hm.mono (Nat.zero_le _) hb), hr, hx⟩
end Go.Proofs.YtjmkcckbbgpkeaaGreatDoor


namespace Go.Proofs.YtjmkcckbbgpkeaaGreatDoor
open Go.RowKit
theorem cmpQ_neg (a b : Rat) : cmpQ a b < 0 ↔ a < b := by
  unfold cmpQ
  by_cases h : a < b
  · rw [if_pos h]; exact ⟨fun _ => h, fun _ => by decide⟩
  · rw [if_neg h]
    by_cases e : a = b
    · rw [if_pos e]; exact ⟨fun x => absurd x (by decide), fun x => absurd x h⟩
    · rw [if_neg e]; exact ⟨fun x => absurd x (by decide), fun x => absurd x h⟩
theorem ord_cvQ (qs : List Rat) : Ord (bfV (cvQ qs)) := by
  refine ⟨fun x => ?_, fun x y z h1 h2 => ?_, fun x y z h1 h2 => ?_⟩
  · unfold bfV cvQ; rw [decide_eq_false_iff_not, cmpQ_neg]; exact Rat.lt_irrefl
  · unfold bfV cvQ at *
    rw [decide_eq_true_eq, cmpQ_neg] at *
    exact Rat.not_le.1 (fun h => absurd h1 (Rat.not_lt.2 (Rat.le_trans h (Rat.le_of_lt h2))))
  · unfold bfV cvQ at *
    rw [decide_eq_false_iff_not, cmpQ_neg, Rat.not_lt] at *
    exact Rat.le_trans h1 h2
theorem OI.row {w : World} {B : Nat} {A : Option Addr} {n c : Nat} {l : List Nat} (h : OI w B (.slice A n c) l) (hl : l.length = n) (h0 : 0 < n) : ∃ g, A = some ⟨g, 0, none⟩ ∧ B ≤ g ∧ NRow w g l := by
  obtain ⟨h1, h2⟩ := h
  rcases h2 with ⟨h3, h4⟩ | ⟨g', cap, cur, h3, h4, h5, h6, h7, h8, h9⟩
  · have : l = [] := by simpa [ints] using h4
    subst this
    simp at hl; omega
  · injection h3 with e1 e2 e3
    refine ⟨g', e1, h4, cur, h5, fun i hi => ?_⟩
    have h10 : (cur.toList.take l.length)[i]? = (ints l)[i]? := by
      have := h9
      rw [← this]
      simp
    rw [List.getElem?_take, if_pos hi] at h10
    rw [← Array.getElem?_toList, h10]
    unfold ints
    rw [List.getElem?_map, atL_get hi]
    rfl
end Go.Proofs.YtjmkcckbbgpkeaaGreatDoor
