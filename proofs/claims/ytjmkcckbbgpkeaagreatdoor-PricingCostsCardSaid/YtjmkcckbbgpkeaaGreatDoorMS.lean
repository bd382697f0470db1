/- strings.Cut at a separator of one byte; nat.extend of no digits; nat.Parse of numerals below 10^9. -/
/- nat.Parse of numerals below 10^9. -/
/- rational.Make; rational.Parse of the text of a number with few digits. -/
import Derived.Test.YtjmkcckbbgpkeaaGreatDoorMQ
set_option linter.unusedVariables false
set_option linter.unusedSimpArgs false

namespace Go.Proofs.YtjmkcckbbgpkeaaGreatDoor
open Go.RowKit Go.Sort
theorem own_rdT_any {w : World} {B n : Nat} {e : TypeId} {v : Value} {xs : List Value} (h : w.ownsRow B e 1 v n xs) : ∃ (A : Option Addr) (c : Nat), v = .slice A n c ∧ n ≤ c ∧ RdT w e A xs := by
  obtain ⟨h1, h2⟩ := h
  rw [Nat.mul_one] at h1
  rcases h2 with ⟨h3, h4⟩ | ⟨g, cap, cur, h3, _, h5, h6, _, _, h9⟩
  · subst h4
    obtain rfl : xs = [] := List.eq_nil_of_length_eq_zero h1
    exact ⟨none, 0, h3, Nat.le_refl _, RdT.nil _ _ _⟩
  · refine ⟨_, cap, h3, h6, fun _ => ⟨g, 0, cur, (0, 0), rfl, h5, fun i hi => ?_⟩⟩
    rw [Nat.mul_one] at h9
    rw [Nat.zero_add, ← h9, List.getElem?_take, if_pos (by omega)]
    simp
/-- The decimal digit at place i of a numeral. -/
theorem dec_at {M i : Nat} (hi : i < Lib.nDigits M) : (Lib.decDigits M)[i]? = some (UInt8.ofNat (48 + M / 10 ^ (Lib.nDigits M - 1 - i) % 10)) := by
  rw [Lib.decDigits_eq, List.getElem?_map, List.getElem?_range hi]
  rfl
theorem dec_byte (M i : Nat) : (UInt8.ofNat (48 + M / 10 ^ i % 10)).toNat = 48 + M / 10 ^ i % 10 := by
  have : M / 10 ^ i % 10 < 10 := Nat.mod_lt _ (by decide)
  rw [UInt8.toNat_ofNat']
  omega
theorem dec_next {M L i : Nat} (hi : i < L) : M / 10 ^ (L - (i + 1)) = 10 * (M / 10 ^ (L - i)) + M / 10 ^ (L - 1 - i) % 10 := by
  have h1 : L - i = (L - (i + 1)) + 1 := by omega
  rw [h1, show L - 1 - i = L - (i + 1) by omega, Nat.pow_succ, ← Nat.div_div_eq_div_mul]
  omega
theorem dec_top {M : Nat} (h : 1 < Lib.nDigits M) : M / 10 ^ (Lib.nDigits M - 1) % 10 ≠ 0 := by
  have key : ∀ M, 0 < M → M / 10 ^ (Lib.nDigits M - 1) % 10 ≠ 0 := by
    intro M
    induction M using Nat.strongRecOn with
    | ind M ih =>
      intro hM
      by_cases h1 : M < 10
      · rw [Lib.nDigits_small h1]; simp; omega
      · rw [Lib.nDigits_big h1]
        have := ih (M / 10) (by omega) (by omega)
        have h2 := Lib.nDigits_pos (M / 10)
        rw [show Lib.nDigits (M / 10) + 1 - 1 = (Lib.nDigits (M / 10) - 1) + 1 by omega, Nat.pow_succ, Nat.mul_comm, ← Nat.div_div_eq_div_mul]
        exact this
  refine key M ?_
  rcases Nat.eq_zero_or_pos M with h0 | h0
  · subst h0; rw [Lib.nDigits_small (by decide)] at h; omega
  · exact h0
theorem dec_lt (M : Nat) : M < 10 ^ Lib.nDigits M := by
  induction M using Nat.strongRecOn with
  | ind M ih =>
    by_cases h1 : M < 10
    · rw [Lib.nDigits_small h1]; omega
    · rw [Lib.nDigits_big h1, Nat.pow_succ]
      have := ih (M / 10) (by omega)
      omega
end Go.Proofs.YtjmkcckbbgpkeaaGreatDoor


namespace Go.Proofs.YtjmkcckbbgpkeaaGreatDoor
open Go.RowKit Go.Sort
theorem loop_len (bs : ByteArray) : ∀ (k i : Nat) (r : List UInt8), bs.size - i = k → (ByteArray.toList.loop bs i r).length = r.length + k
  | 0, i, r, h => by
    rw [ByteArray.toList.loop.eq_1, if_neg (by omega)]; simp
  | k + 1, i, r, h => by
    rw [ByteArray.toList.loop.eq_1, if_pos (by omega), loop_len bs k (i + 1) _ (by omega)]
    simp; omega
theorem toList_len (bs : ByteArray) : bs.toList.length = bs.size := by
  unfold ByteArray.toList
  rw [loop_len bs bs.size 0 [] (by omega)]; simp
theorem not_empty (bs : ByteArray) (h : 0 < bs.size) : bs.toList.isEmpty = false := by
  cases h1 : bs.toList with
  | nil => have := toList_len bs; rw [h1] at this; simp at this; omega
  | cons a l => rfl
theorem byte_at {S : ByteArray} {i : Nat} (h : i < S.size) {x : UInt8} (hx : S.data.toList[i]? = some x) : S[i] = x := by
  have : S.data[i]? = some x := by simpa using hx
  exact (Array.getElem?_eq_some_iff.1 this).2
end Go.Proofs.YtjmkcckbbgpkeaaGreatDoor


namespace Go.Proofs.YtjmkcckbbgpkeaaGreatDoor
open Go.RowKit Go.Sort
theorem rat_set3 {w W : World} {nb : Bool} {A A' : Option Addr} {n c n' c' g : Nat} {q : Rat} {cs : Array Value} (h : RatR W nb A n c A' n' c' q) (hb : Blk W g 38 cs) (hg : w.heap.size ≤ g) (hx : Ext w W) :
    RatR (((W.setCell ⟨g, 0, none⟩ (.bool nb)).setCell ⟨g, 1, none⟩ (.slice A n c)).setCell ⟨g, 2, none⟩ (.slice A' n' c')) nb A n c A' n' c' q ∧ Ext w (((W.setCell ⟨g, 0, none⟩ (.bool nb)).setCell ⟨g, 1, none⟩ (.slice A n c)).setCell ⟨g, 2, none⟩ (.slice A' n' c')) :=
  ⟨h.other (set3_grown W g _ _ _) hb (by decide), ((hx.set_ (p := ⟨g, 0, none⟩) hg _).set_ (p := ⟨g, 1, none⟩) hg _).set_ (p := ⟨g, 2, none⟩) hg _⟩
theorem dec_not (M : Nat) (c : UInt8) (hc : c.toNat < 48) : ∀ b ∈ Lib.decDigits M, (b == c) = false := by
  intro b hb
  obtain ⟨i, hi, he⟩ := List.getElem_of_mem hb
  have h1 := dec_at (M := M) (i := i) (by rw [← Lib.decDigits_length]; exact hi)
  rw [List.getElem?_eq_getElem hi, he] at h1
  injection h1 with h1
  have h2 := dec_byte M (Lib.nDigits M - 1 - i)
  rw [← h1] at h2
  refine beq_eq_false_iff_ne.2 (fun e => ?_)
  rw [e] at h2
  omega
end Go.Proofs.YtjmkcckbbgpkeaaGreatDoor
