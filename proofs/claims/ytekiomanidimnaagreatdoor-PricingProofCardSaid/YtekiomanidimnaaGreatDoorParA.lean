/- strings.Cut at a separator of one byte; nat.extend of no digits; nat.Parse of numerals below 10^9. -/
import Derived.Test.YtekiomanidimnaaGreatDoorRqB
set_option linter.unusedVariables false
set_option linter.unusedSimpArgs false

namespace Go.Proofs.YtekiomanidimnaaGreatDoor
open Go.RowKit Go.Sort
set_option maxRecDepth 100000 in
set_option maxHeartbeats 2000000 in
theorem lcut_no (s : ByteArray) (c : UInt8) (w : World) (h : Lib.indexByte s.data.toList c = -1) :
    Calls Tryz.prog 156 #[.string s, .string ⟨#[c]⟩] w fun e w' => e = .returned (.tuple #[.string s, .string ⟨#[]⟩, .bool false]) ∧ Ext w w' := by
  go_enter Tryz.func156, Tryz.ntmps156
  go_wp2_with fail
  refine (Tryz.stringslite_Index_one s c _).mono ?_
  rintro e w1 ⟨rfl, rfl⟩
  rw [h]
  go_wp2
  exact bodyPost_ret (v := .tuple #[.string s, .string ⟨#[]⟩, .bool false]) (by simp [results, Tryz.results156, go_sem]) rfl ⟨rfl, Ext.refl _⟩
set_option maxRecDepth 100000 in
set_option maxHeartbeats 2000000 in
theorem lcut_yes (s : ByteArray) (c : UInt8) (i : Nat) (w : World) (h : Lib.indexByte s.data.toList c = (i : Int)) (hi : i < s.size) (hs : s.size ≤ 1000000) :
    Calls Tryz.prog 156 #[.string s, .string ⟨#[c]⟩] w fun e w' => e = .returned (.tuple #[.string (s.extract 0 i), .string (s.extract (i + 1) s.size), .bool true]) ∧ Ext w w' := by
  go_enter Tryz.func156, Tryz.ntmps156
  go_wp2_with fail
  refine (Tryz.stringslite_Index_one s c _).mono ?_
  rintro e w1 ⟨rfl, rfl⟩
  rw [h]
  go_wp2
  go_region
  all_goals go_wp2
  exact bodyPost_ret (v := .tuple #[.string (s.extract 0 i), .string (s.extract (i + 1) s.size), .bool true]) (by simp [results, Tryz.results156, go_sem]) rfl ⟨rfl, (Ext.refl _).drewN 1⟩
set_option maxRecDepth 100000 in
set_option maxHeartbeats 2000000 in
theorem cut_no (s : ByteArray) (c : UInt8) (w : World) (h : Lib.indexByte s.data.toList c = -1) :
    Calls Tryz.prog 124 #[.string s, .string ⟨#[c]⟩] w fun e w' => e = .returned (.tuple #[.string s, .string ⟨#[]⟩, .bool false]) ∧ Ext w w' := by
  go_enter Tryz.func124, Tryz.ntmps124
  go_wp2_with fail
  refine (lcut_no s c _ h).mono ?_
  rintro e w1 ⟨rfl, x1⟩
  have X1 := Lib.hid (x1)
  clear x1
  go_wp2
  exact bodyPost_ret (v := .tuple #[.string s, .string ⟨#[]⟩, .bool false]) (by simp [results, Tryz.results124, go_sem]) rfl ⟨rfl, X1.out⟩
set_option maxRecDepth 100000 in
set_option maxHeartbeats 2000000 in
theorem cut_yes (s : ByteArray) (c : UInt8) (i : Nat) (w : World) (h : Lib.indexByte s.data.toList c = (i : Int)) (hi : i < s.size) (hs : s.size ≤ 1000000) :
    Calls Tryz.prog 124 #[.string s, .string ⟨#[c]⟩] w fun e w' => e = .returned (.tuple #[.string (s.extract 0 i), .string (s.extract (i + 1) s.size), .bool true]) ∧ Ext w w' := by
  go_enter Tryz.func124, Tryz.ntmps124
  go_wp2_with fail
  refine (lcut_yes s c i _ h hi hs).mono ?_
  rintro e w1 ⟨rfl, x1⟩
  have X1 := Lib.hid (x1)
  clear x1
  go_wp2
  exact bodyPost_ret (v := .tuple #[.string (s.extract 0 i), .string (s.extract (i + 1) s.size), .bool true]) (by simp [results, Tryz.results124, go_sem]) rfl ⟨rfl, X1.out⟩
theorem own_rdT_any {w : World} {B n : Nat} {e : TypeId} {v : Value} {xs : List Value} (h : w.ownsRow B e 1 v n xs) : ∃ (A : Option Addr) (c : Nat), v = .slice A n c ∧ n ≤ c ∧ RdT w e A xs := by
  obtain ⟨h1, h2⟩ := h
  rw [Nat.mul_one] at h1
  rcases h2 with ⟨h3, h4⟩ | ⟨g, cap, cur, h3, _, h5, h6, _, _, h9⟩
  · subst h4
    obtain rfl : xs = [] := List.eq_nil_of_length_eq_zero h1
    exact ⟨none, 0, h3, Nat.le_refl _, RdT.nil _ _ _⟩
  · refine ⟨_, cap, h3, h6, fun _ => ⟨g, 0, cur, (0, 0), rfl, h5, fun i hi => ?_⟩⟩
    rw [Nat.mul_one] at h9
    rw [Nat.zero_add, ← h9, List.getElem?_take, if_pos (by omega)]
    simp
set_option maxRecDepth 100000 in
set_option maxHeartbeats 2000000 in
theorem extend_nil (f M : Nat) (w : World) (hM : M < 4294967296) :
    Calls Tryz.prog 157 #[.slice none 0 0, .int .u64 f, .int .u64 M] w fun e w' => ∃ (A : Option Addr) (n c : Nat) (ds : List Nat), e = .returned (.slice A n c) ∧ ds.length = n ∧ n ≤ c ∧ n ≤ 1 ∧ (∀ d ∈ ds, d < B32) ∧ Dig.val B32 ds = M ∧ RdT w' 167 A (u32s ds) ∧ Ext w w' := by
  obtain ⟨ti, hi, hz0, hz1, hz2⟩ := info_parts Tryz.info167
  go_enter Tryz.func157, Tryz.ntmps157
  go_wp2
  go_loopg [2, 7, 10] 0 (fun m ct _ it wr => ct = .int .u64 M ∧ it = .int .i64 0 ∧ wr = w)
  case atStart => exact ⟨rfl, rfl, rfl⟩
  case round =>
    obtain ⟨rfl, rfl, rfl⟩ := hrel
    by_cases h0 : M = 0
    · subst h0
      go_wp2
      go_ret
      exact ⟨none, 0, 0, [], rfl, rfl, Nat.le_refl _, by omega, (fun _ h => by cases h), rfl, RdT.nil _ _ _, Ext.refl _⟩
    · have d1 : decide ((M : Int) > 0) = true := by simp; omega
      go_wp2_with (at_builtin; go_must (refine wpList_append_rd _ rfl (.tmp 32) (.tmp 35) 40 rfl wr.heap.size 167 ti (.int .u32 0) 4 Tryz.underlying40 hi hz0 hz1 hz2 rfl (.slice none 0 0) 0 [] rfl ?c0 (some ⟨wr.heap.size, 0, none⟩) 1 1 [.int .u32 (M : Int)] rfl rfl ?c1 ?c2 ?c3 ?c4 ?c5 ?c6 ?_))
      case c0 => exact World.ownsRow_nil _ _ _ _
      case c1 => exact Rd.new _ _ _ rfl rfl
      case c2 => intro h; cases h
      case c3 => intro u hu; simp at hu; subst hu; rfl
      case c4 => unfold maxLen; omega
      case c5 => omega
      case c6 => simp
      intro v3 w3 hown3 hgrow3 _
      have e3 : Ext wr w3 := Below.grown ((Ext.refl wr).alloc (.cells #[.int .u32 (M : Int)] 167)) hgrow3 (by simp) (fun k hk => by simp [Value.ownBlock] at hk)
      obtain ⟨A3, c3, rfl, hc3, hr3⟩ := own_rdT_any hown3
      have F := Lib.hid (And.intro hr3 e3)
      clear hown3 hgrow3 e3 hr3
      go_wp2
      go_ret
      exact ⟨A3, 1, c3, [M], rfl, rfl, hc3, Nat.le_refl _, (fun d hd => by simp at hd; subst hd; exact hM), by simp [Dig.val], F.out.1, F.out.2⟩
/-- The decimal digit at place i of a numeral. -/
theorem dec_at {M i : Nat} (hi : i < Lib.nDigits M) : (Lib.decDigits M)[i]? = some (UInt8.ofNat (48 + M / 10 ^ (Lib.nDigits M - 1 - i) % 10)) := by
  rw [Lib.decDigits_eq, List.getElem?_map, List.getElem?_range hi]
  rfl
theorem dec_byte (M i : Nat) : (UInt8.ofNat (48 + M / 10 ^ i % 10)).toNat = 48 + M / 10 ^ i % 10 := by
  have : M / 10 ^ i % 10 < 10 := Nat.mod_lt _ (by decide)
  rw [UInt8.toNat_ofNat']
  omega
theorem dec_next {M L i : Nat} (hi : i < L) : M / 10 ^ (L - (i + 1)) = 10 * (M / 10 ^ (L - i)) + M / 10 ^ (L - 1 - i) % 10 := by
  have h1 : L - i = (L - (i + 1)) + 1 := by omega
  rw [h1, show L - 1 - i = L - (i + 1) by omega, Nat.pow_succ, ← Nat.div_div_eq_div_mul]
  omega
theorem dec_top {M : Nat} (h : 1 < Lib.nDigits M) : M / 10 ^ (Lib.nDigits M - 1) % 10 ≠ 0 := by
  have key : ∀ M, 0 < M → M / 10 ^ (Lib.nDigits M - 1) % 10 ≠ 0 := by
    intro M
    induction M using Nat.strongRecOn with
    | ind M ih =>
      intro hM
      by_cases h1 : M < 10
      · rw [Lib.nDigits_small h1]; simp; omega
      · rw [Lib.nDigits_big h1]
        have := ih (M / 10) (by omega) (by omega)
        have h2 := Lib.nDigits_pos (M / 10)
        rw [show Lib.nDigits (M / 10) + 1 - 1 = (Lib.nDigits (M / 10) - 1) + 1 by omega, Nat.pow_succ, Nat.mul_comm, ← Nat.div_div_eq_div_mul]
        exact this
  refine key M ?_
  rcases Nat.eq_zero_or_pos M with h0 | h0
  · subst h0; rw [Lib.nDigits_small (by decide)] at h; omega
  · exact h0
theorem dec_lt (M : Nat) : M < 10 ^ Lib.nDigits M := by
  induction M using Nat.strongRecOn with
  | ind M ih =>
    by_cases h1 : M < 10
    · rw [Lib.nDigits_small h1]; omega
    · rw [Lib.nDigits_big h1, Nat.pow_succ]
      have := ih (M / 10) (by omega)
      omega
end Go.Proofs.YtekiomanidimnaaGreatDoor
