/- slices.symMergeCmpFunc: any ranges. -/
import Derived.Test.YtjmkcckbbgpkeaaGreatDoorSortD
set_option linter.unusedVariables false
set_option linter.unusedSimpArgs false

namespace Go.Proofs.YtjmkcckbbgpkeaaGreatDoor
open Go.RowKit
theorem Moved.lt {a b N n : Nat} {l l' : List Nat} (h : Moved a b l l') (hb : b ≤ N) (hn : ∀ k, k < N → atL l k < n) : ∀ k, k < N → atL l' k < n := fun k hk =>
  (h.mono (Nat.zero_le a) hb).sub (fun x => x < n) (fun i _ h2 => hn i h2) k (Nat.zero_le _) hk
theorem Mrg.congr {bf : Nat → Nat → Bool} {a m b : Nat} {l l' : List Nat} (h : Mrg bf a m b l) (hmb : m ≤ b) (ham : a ≤ m) (he : ∀ k, a ≤ k → k < b → atL l' k = atL l k) : Mrg bf a m b l' :=
  ⟨fun i j h1 h2 h3 => by rw [he i (by omega) (by omega), he j (by omega) (by omega)]; exact h.lo i j h1 h2 h3,
   fun i j h1 h2 h3 => by rw [he i (by omega) (by omega), he j (by omega) (by omega)]; exact h.hi i j h1 h2 h3,
   fun i j h1 h2 h3 h4 => by rw [he i (by omega) (by omega), he j (by omega) (by omega)]; exact h.cr i j h1 h2 h3 h4⟩
theorem rotAt_none {l : List Nat} {s m e : Nat} (hs : s ≤ m) (he : m ≤ e) (h : ¬ (s < m ∧ m < e)) (k : Nat) : atL l k = rotAt l s m e k := by
  unfold rotAt
  repeat' split
  all_goals first | omega | rfl | (congr 1; omega)
/-- Symmetric merging: what the search says. -/
theorem sym_cut {bf : Nat → Nat → Bool} (o : Ord bf) {a m b mid p s0 r0 i e : Nat} {l : List Nat} (h : Mrg bf a m b l) (ham : a + 1 < m) (hmb : m + 1 < b) (hmid : mid = (a + b) / 2) (hsr : (m ≤ mid ∧ s0 = a ∧ r0 = m) ∨ (mid < m ∧ s0 + b = mid + m ∧ r0 = mid)) (hp : p + 1 = mid + m) (he : e = mid + m - i) (hB : BsS (fun k => !bf (atL l (p - k)) (atL l k)) s0 r0 i i) :
    ∀ l' : List Nat, (∀ k, atL l' k = rotAt l i m e k) → Mrg bf a i mid l' ∧ Mrg bf mid e b l' ∧ ∀ x y, a ≤ x → x < mid → mid ≤ y → y < b → ltB bf (atL l' x) (atL l' y) := fun l' hr => by
  have h1 := hB.li
  have h2 := hB.jh
  refine mrg_cut o h (by omega) (by omega) hmid (by omega) he (by omega) ?_ ?_ hr
  · by_cases his : i = s0
    · rcases hsr with q | q
      · exact .inl (by omega)
      · exact .inr (.inl (by omega))
    · have h5 := hB.yes (i - 1) (by omega) (by omega)
      have h6 : p - (i - 1) = e := by omega
      simp only [h6] at h5
      exact .inr (.inr (by simpa using h5))
  · by_cases his : i = r0
    · rcases hsr with q | q
      · exact .inl (by omega)
      · exact .inr (.inl (by omega))
    · have h5 := hB.no i (Nat.le_refl _) (by omega)
      have h6 : p - i = e - 1 := by omega
      simp only [h6] at h5
      exact .inr (.inr (by simpa using h5))
end Go.Proofs.YtjmkcckbbgpkeaaGreatDoor
