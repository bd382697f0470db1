/- rational.Parse of the text of a number with few digits. -/
import Derived.Test.YtjmkcckbbgpkeaaGreatDoorMS
set_option linter.unusedVariables false
set_option linter.unusedSimpArgs false

namespace Go.Proofs.YtjmkcckbbgpkeaaGreatDoor
open Go.RowKit Go.Sort
/-- A number's text without the sign. -/
def absText (q : Rat) : List UInt8 := Lib.decDigits q.num.natAbs ++ (if q.den = 1 then [] else [47] ++ Lib.decDigits q.den)
theorem ratText_abs (q : Rat) : ratText q = (if q.num < 0 then [45] else []) ++ absText q := by unfold ratText absText; rw [List.append_assoc]
theorem dec_cons (M : Nat) : ∃ b l, Lib.decDigits M = b :: l ∧ (b == 45) = false := by
  have h1 := Lib.nDigits_pos M
  have h2 := Lib.decDigits_length M
  match h : Lib.decDigits M, h2 with
  | [], h2 => simp at h2; omega
  | b :: l, _ => exact ⟨b, l, rfl, dec_not M 45 (by decide) b (by rw [h]; simp)⟩
theorem text_prefix (q : Rat) : Lib.hasPrefix (ratText q) [45] = decide (q.num < 0) ∧ Lib.trimPrefix (ratText q) [45] = absText q := by
  obtain ⟨b, l, hb, hne⟩ := dec_cons q.num.natAbs
  rw [ratText_abs]
  unfold Lib.trimPrefix Lib.hasPrefix
  by_cases h : q.num < 0
  · simp [h]
  · unfold absText
    rw [hb]
    have h45 : (45 == b) = false := beq_eq_false_iff_ne.2 (fun e => by subst e; simp at hne)
    simp [h, List.isPrefixOf, h45]
theorem extract_zero (l r : List UInt8) : (⟨(l ++ r).toArray⟩ : ByteArray).extract 0 l.length = ⟨l.toArray⟩ := by
  apply ByteArray.ext
  rw [ByteArray.data_extract]
  apply Array.toList_inj.1
  simp
theorem extract_rest (l r : List UInt8) (c : UInt8) : (⟨(l ++ c :: r).toArray⟩ : ByteArray).extract (l.length + 1) (⟨(l ++ c :: r).toArray⟩ : ByteArray).size = ⟨r.toArray⟩ := by
  apply ByteArray.ext
  rw [ByteArray.data_extract]
  apply Array.toList_inj.1
  rw [show (⟨(l ++ c :: r).toArray⟩ : ByteArray).size = (l ++ c :: r).length from rfl]
  simp
  exact List.take_of_length_le (by omega)
end Go.Proofs.YtjmkcckbbgpkeaaGreatDoor
