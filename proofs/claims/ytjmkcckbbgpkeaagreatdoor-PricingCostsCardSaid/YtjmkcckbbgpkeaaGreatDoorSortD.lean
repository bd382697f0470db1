/- slices.symMergeCmpFunc. -/
import Derived.Test.YtjmkcckbbgpkeaaGreatDoorMO
set_option linter.unusedVariables false
set_option linter.unusedSimpArgs false

namespace Go.Proofs.YtjmkcckbbgpkeaaGreatDoor
open Go.RowKit
/-- The first element is put behind others, under way. -/
structure UpS (w0 wr : World) (g : Nat) (l l' : List Nat) (a b k : Nat) : Prop where
  at_ : ∀ q, atL l' q = upAt l a k q
  mv : Moved a b l l'
  row : NRow wr g l'
  ext : Ext w0 wr
theorem UpS.step {w0 wr : World} {g : Nat} {l l' : List Nat} {a b k : Nat} (h : UpS w0 wr g l l' a b k) (hak : a ≤ k) (hk : k + 1 < b) (hb : b ≤ l.length) (hg : w0.heap.size ≤ g) :
    UpS w0 ((wr.setCell ⟨g, k, none⟩ (.int .i64 ((atL l' (k + 1) : Nat) : Int))).setCell ⟨g, k + 1, none⟩ (.int .i64 ((atL l' k : Nat) : Int))).drew g l (swapL l' k (k + 1)) a b (k + 1) := by
  have hl := h.mv.len
  have hd : ∀ W : World, Ext W W.drew := fun W => (Ext.refl W).drewN 1
  exact ⟨upAt_step h.at_ hak (by omega), h.mv.trans (Moved.swap (by omega) (by omega) (by omega)), (h.row.swap (by omega) (by omega)).keep (hd _), ((h.ext.set_ (p := ⟨g, k, none⟩) hg _).set_ (p := ⟨g, k + 1, none⟩) hg _).tr (hd _)⟩
/-- The last element is put before others, under way. -/
structure DnS (w0 wr : World) (g : Nat) (l l' : List Nat) (a m k : Nat) : Prop where
  at_ : ∀ q, atL l' q = dnAt l m k q
  mv : Moved a (m + 1) l l'
  row : NRow wr g l'
  ext : Ext w0 wr
theorem DnS.step {w0 wr : World} {g : Nat} {l l' : List Nat} {a m k : Nat} (h : DnS w0 wr g l l' a m k) (hak : a < k) (hk : k ≤ m) (hb : m < l.length) (hg : w0.heap.size ≤ g) :
    DnS w0 ((wr.setCell ⟨g, k, none⟩ (.int .i64 ((atL l' (k - 1) : Nat) : Int))).setCell ⟨g, k - 1, none⟩ (.int .i64 ((atL l' k : Nat) : Int))).drew g l (swapL l' k (k - 1)) a m (k - 1) := by
  have hl := h.mv.len
  have hd : ∀ W : World, Ext W W.drew := fun W => (Ext.refl W).drewN 1
  exact ⟨dnAt_step h.at_ (by omega) hk (by omega), h.mv.trans (Moved.swap (by omega) (by omega) (by omega)), (h.row.swap (by omega) (by omega)).keep (hd _), ((h.ext.set_ (p := ⟨g, k, none⟩) hg _).set_ (p := ⟨g, k - 1, none⟩) hg _).tr (hd _)⟩
end Go.Proofs.YtjmkcckbbgpkeaaGreatDoor
