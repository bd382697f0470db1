/- rational.Parse of the text of a number with few digits. -/
import Derived.Test.YtekiomanidimnaaGreatDoorMS
set_option linter.unusedVariables false
set_option linter.unusedSimpArgs false

namespace Go.Proofs.YtekiomanidimnaaGreatDoor
open Go.RowKit Go.Sort
/-- A number's text without the sign. -/
def absText (q : Rat) : List UInt8 := Lib.decDigits q.num.natAbs ++ (if q.den = 1 then [] else [47] ++ Lib.decDigits q.den)
theorem ratText_abs (q : Rat) : ratText q = (if q.num < 0 then [45] else []) ++ absText q := by unfold ratText absText; rw [List.append_assoc]
theorem dec_cons (M : Nat) : ∃ b l, Lib.decDigits M = b :: l ∧ (b == 45) = false := by
  have h1 := Lib.nDigits_pos M
  have h2 := Lib.decDigits_length M
  match h : Lib.decDigits M, h2 with
  | [], h2 => simp at h2; omega
  | b :: l, _ => exact ⟨b, l, rfl, dec_not M 45 (by decide) b (by rw [h]; simp)⟩
theorem text_prefix (q : Rat) : Lib.hasPrefix (ratText q) [45] = decide (q.num < 0) ∧ Lib.trimPrefix (ratText q) [45] = absText q := by
  obtain ⟨b, l, hb, hne⟩ := dec_cons q.num.natAbs
  rw [ratText_abs]
  unfold Lib.trimPrefix Lib.hasPrefix
  by_cases h : q.num < 0
  · simp [h]
  · unfold absText
    rw [hb]
    have h45 : (45 == b) = false := beq_eq_false_iff_ne.2 (fun e => by subst e; simp at hne)
    simp [h, List.isPrefixOf, h45]
theorem extract_zero (l r : List UInt8) : (⟨(l ++ r).toArray⟩ : ByteArray).extract 0 l.length = ⟨l.toArray⟩ := by
  apply ByteArray.ext
  rw [ByteArray.data_extract]
  apply Array.toList_inj.1
  simp
theorem extract_rest (l r : List UInt8) (c : UInt8) : (⟨(l ++ c :: r).toArray⟩ : ByteArray).extract (l.length + 1) (⟨(l ++ c :: r).toArray⟩ : ByteArray).size = ⟨r.toArray⟩ := by
  apply ByteArray.ext
  rw [ByteArray.data_extract]
  apply Array.toList_inj.1
  rw [show (⟨(l ++ c :: r).toArray⟩ : ByteArray).size = (l ++ c :: r).length from rfl]
  simp
  exact List.take_of_length_le (by omega)
set_option maxRecDepth 100000 in
set_option maxHeartbeats 4000000 in
theorem ratParse_ok (q : Rat) (w : World) (hn : q.num.natAbs < 1000000000) (hd : q.den < 1000000000) :
    Calls Tryz.prog 65 #[.string ⟨(ratText q).toArray⟩] w fun e w' => ∃ (nb : Bool) (A : Option Addr) (n c : Nat) (A' : Option Addr) (n' c' : Nat), e = .returned (.tuple #[.agg #[.bool nb, .slice A n c, .slice A' n' c'], .int .i64 0]) ∧ RatR w' nb A n c A' n' c' q ∧ Ext w w' := by
  obtain ⟨b0, e0⟩ := boxes1 w #[.bool false, .slice none 0 0, .slice none 0 0] 44
  have B0 := Lib.hid (b0)
  have E0 := Lib.hid (e0)
  clear b0 e0
  obtain ⟨tp1, tp2⟩ := text_prefix q
  go_enter Tryz.func65, Tryz.ntmps65
  go_wp2_with fail
  refine (Tryz.strings_CutPrefix ⟨(ratText q).toArray⟩ ⟨#[45]⟩ _).mono ?_
  rintro e w1 ⟨rfl, rfl⟩
  rw [show ((⟨(ratText q).toArray⟩ : ByteArray).data.toList) = ratText q from rfl, show ((⟨#[45]⟩ : ByteArray).data.toList) = [45] from rfl, tp1, tp2]
  clear tp1 tp2
  have hcut : ∃ (a b : ByteArray) (fd : Bool), (∀ W : World, Calls Tryz.prog 124 #[.string ⟨(absText q).toArray⟩, .string ⟨#[47]⟩] W fun e w' => e = .returned (.tuple #[.string a, .string b, .bool fd]) ∧ Ext W w') ∧ a = ⟨(Lib.decDigits q.num.natAbs).toArray⟩ ∧ (if fd then b else ⟨#[49]⟩) = ⟨(Lib.decDigits q.den).toArray⟩ := by
    have hnn := dec_not q.num.natAbs 47 (by decide)
    by_cases h1 : q.den = 1
    · refine ⟨_, _, false, fun W => cut_no _ 47 W ?_, ?_, ?_⟩
      · show Lib.indexByte (absText q) 47 = -1
        unfold absText
        rw [if_pos h1, List.append_nil]
        exact index_none _ _ hnn
      · unfold absText; rw [if_pos h1, List.append_nil]
      · rw [h1]; simp [Lib.decDigits]
    · have ha : absText q = Lib.decDigits q.num.natAbs ++ 47 :: Lib.decDigits q.den := by unfold absText; rw [if_neg h1]; rfl
      have l1 := (Dig.dec_len_nine _ hn).1
      have l2 := (Dig.dec_len_nine _ hd).1
      have hsz : (⟨(absText q).toArray⟩ : ByteArray).size = (Lib.decDigits q.num.natAbs).length + ((Lib.decDigits q.den).length + 1) := by rw [ha]; show (Lib.decDigits q.num.natAbs ++ 47 :: Lib.decDigits q.den).length = _; simp
      refine ⟨_, _, true, fun W => cut_yes _ 47 (Lib.decDigits q.num.natAbs).length W ?_ (by rw [hsz]; omega) (by rw [hsz]; omega), ?_, ?_⟩
      · show Lib.indexByte (absText q) 47 = _
        rw [ha]
        exact index_at _ _ _ hnn
      · rw [ha]; exact extract_zero _ _
      · rw [if_pos rfl, ha]; exact extract_rest _ _ _
  obtain ⟨a, b, fd, hcall, rfl, hb⟩ := hcut
  have HC := Lib.hid (hcall)
  have HB := Lib.hid (hb)
  have RED := Lib.hid (mkQ_self q)
  have hden := q.den_pos
  clear hcall hb
  generalize decide (q.num < 0) = ng at *
  go_wp2_with fail
  refine (HC.out _).mono ?_
  rintro e w2 ⟨rfl, x2⟩
  have B2 := Lib.hid (B0.out.keep x2)
  have E2 := Lib.hid (E0.out.tr x2)
  clear x2 B0 E0 HC
  have main : ∀ (b' : ByteArray), (if fd then b else ⟨#[49]⟩) = b' → b' = ⟨(Lib.decDigits q.den).toArray⟩ := fun b' h => by rw [← h, HB.out]
  have key : ∀ (sx : ByteArray), sx = ⟨(Lib.decDigits q.den).toArray⟩ → True := fun _ _ => trivial
  have hfd : (fd = false ∧ (⟨#[49]⟩ : ByteArray) = ⟨(Lib.decDigits q.den).toArray⟩) ∨ (fd = true ∧ b = ⟨(Lib.decDigits q.den).toArray⟩) := by
    cases fd
    · exact .inl ⟨rfl, main _ rfl⟩
    · exact .inr ⟨rfl, main _ rfl⟩
  clear main key HB
  rcases hfd with ⟨rfl, h49⟩ | ⟨rfl, rfl⟩
  all_goals
    go_wp2_with fail
    refine (natParse_ok q.num.natAbs _ hn).mono ?_
    rintro e w3 ⟨A3, n3, c3, rfl, h3, x3⟩
    have l3 := h3.lenOf (k := 1) (by have : B32 ^ 1 = 4294967296 := by decide
                                     omega)
    have X3 := Lib.hid ((Ext.refl w3).alloc (.cells #[.slice A3 n3 c3] 42))
    have B3 := Lib.hid ((B2.out.keep x3).keep X3.out)
    have E3 := Lib.hid ((E2.out.tr x3).tr X3.out)
    have N3 := Lib.hid (h3.keep X3.out)
    have K3 := Lib.hid (Blk.new w3 42 #[.slice A3 n3 c3])
    clear h3 x3 X3
    go_wp2_with fail
    first
      | refine (natParse_ok q.den _ hd).mono ?_
      | (rw [h49]; refine (natParse_ok q.den _ hd).mono ?_)
    rintro e w4 ⟨A4, n4, c4, rfl, h4, x4⟩
    have l4 := h4.lenOf (k := 1) (by have : B32 ^ 1 = 4294967296 := by decide
                                     omega)
    have X4 := Lib.hid ((Ext.refl w4).alloc (.cells #[.slice A4 n4 c4] 42))
    have B4 := Lib.hid ((B3.out.keep x4).keep X4.out)
    have E4 := Lib.hid ((E3.out.tr x4).tr X4.out)
    have N4 := Lib.hid (And.intro ((N3.out.keep x4).keep X4.out) (h4.keep X4.out))
    have K4 := Lib.hid (And.intro ((K3.out.keep x4).keep X4.out) (Blk.new w4 42 #[.slice A4 n4 c4]))
    obtain ⟨j3, _⟩ := K4.out.1.one
    obtain ⟨j4, _⟩ := K4.out.2.one
    clear h4 x4 X4
    go_wp2_with fail
    refine (ratMake_ok ng A3 A4 n3 c3 n4 c4 _ _ _ N4.out.1 N4.out.2 (by omega) (by omega) hden).mono ?_
    rintro e w5 ⟨nb, A, n, c, A', n', c', rfl, hq, x5⟩
    rw [RED.out] at hq
    have B5 := Lib.hid (B4.out.keep x5)
    have E5 := Lib.hid (E4.out.tr x5)
    obtain ⟨⟨i0, i1, i2⟩, f0, f1, f2⟩ := B5.out.three
    obtain ⟨r1, r2⟩ := rat_set3 (w := w) hq B5.out (Nat.le_refl _) E5.out
    have q3 := ((B5.out.set_ 0 (.bool nb)).set_ 1 (.slice A n c)).set_ 2 (.slice A' n' c')
    have RF := Lib.hid (And.intro q3 (And.intro r1 r2))
    clear q3 r1 r2 hq x5
    go_wp2
    exact bodyPost_ret (v := .tuple #[.agg #[.bool nb, .slice A n c, .slice A' n' c'], .int .i64 0]) (by simp [results, Tryz.results65, go_sem, RF.out.1.cell]) rfl ⟨_, _, _, _, _, _, _, rfl, RF.out.2.1, RF.out.2.2⟩
end Go.Proofs.YtekiomanidimnaaGreatDoor
