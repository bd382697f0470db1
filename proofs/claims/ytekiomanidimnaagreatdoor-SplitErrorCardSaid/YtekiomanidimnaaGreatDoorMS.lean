/- strings.Cut at a separator of one byte; nat.extend of no digits; nat.Parse of numerals below 10^9. -/
/- nat.Parse of numerals below 10^9. -/
/- rational.Make; rational.Parse of the text of a number with few digits. -/
import Derived.Test.YtekiomanidimnaaGreatDoorMQ
set_option linter.unusedVariables false
set_option linter.unusedSimpArgs false

namespace Go.Proofs.YtekiomanidimnaaGreatDoor
open Go.RowKit Go.Sort
set_option maxRecDepth 100000 in
set_option maxHeartbeats 2000000 in
theorem lcut_no (s : ByteArray) (c : UInt8) (w : World) (h : Lib.indexByte s.data.toList c = -1) :
    Calls Tryz.prog 156 #[.string s, .string ⟨#[c]⟩] w fun e w' => e = .returned (.tuple #[.string s, .string ⟨#[]⟩, .bool false]) ∧ Ext w w' := by
  go_enter Tryz.func156, Tryz.ntmps156
  go_wp2_with fail
  refine (Tryz.stringslite_Index_one s c _).mono ?_
  rintro e w1 ⟨rfl, rfl⟩
  rw [h]
  go_wp2
  exact bodyPost_ret (v := .tuple #[.string s, .string ⟨#[]⟩, .bool false]) (by simp [results, Tryz.results156, go_sem]) rfl ⟨rfl, Ext.refl _⟩
set_option maxRecDepth 100000 in
set_option maxHeartbeats 2000000 in
theorem lcut_yes (s : ByteArray) (c : UInt8) (i : Nat) (w : World) (h : Lib.indexByte s.data.toList c = (i : Int)) (hi : i < s.size) (hs : s.size ≤ 1000000) :
    Calls Tryz.prog 156 #[.string s, .string ⟨#[c]⟩] w fun e w' => e = .returned (.tuple #[.string (s.extract 0 i), .string (s.extract (i + 1) s.size), .bool true]) ∧ Ext w w' := by
  go_enter Tryz.func156, Tryz.ntmps156
  go_wp2_with fail
  refine (Tryz.stringslite_Index_one s c _).mono ?_
  rintro e w1 ⟨rfl, rfl⟩
  rw [h]
  go_wp2
  go_region
  all_goals go_wp2
  exact bodyPost_ret (v := .tuple #[.string (s.extract 0 i), .string (s.extract (i + 1) s.size), .bool true]) (by simp [results, Tryz.results156, go_sem]) rfl ⟨rfl, (Ext.refl _).drewN 1⟩
set_option maxRecDepth 100000 in
set_option maxHeartbeats 2000000 in
theorem cut_no (s : ByteArray) (c : UInt8) (w : World) (h : Lib.indexByte s.data.toList c = -1) :
    Calls Tryz.prog 124 #[.string s, .string ⟨#[c]⟩] w fun e w' => e = .returned (.tuple #[.string s, .string ⟨#[]⟩, .bool false]) ∧ Ext w w' := by
  go_enter Tryz.func124, Tryz.ntmps124
  go_wp2_with fail
  refine (lcut_no s c _ h).mono ?_
  rintro e w1 ⟨rfl, x1⟩
  have X1 := Lib.hid (x1)
  clear x1
  go_wp2
  exact bodyPost_ret (v := .tuple #[.string s, .string ⟨#[]⟩, .bool false]) (by simp [results, Tryz.results124, go_sem]) rfl ⟨rfl, X1.out⟩
set_option maxRecDepth 100000 in
set_option maxHeartbeats 2000000 in
theorem cut_yes (s : ByteArray) (c : UInt8) (i : Nat) (w : World) (h : Lib.indexByte s.data.toList c = (i : Int)) (hi : i < s.size) (hs : s.size ≤ 1000000) :
    Calls Tryz.prog 124 #[.string s, .string ⟨#[c]⟩] w fun e w' => e = .returned (.tuple #[.string (s.extract 0 i), .string (s.extract (i + 1) s.size), .bool true]) ∧ Ext w w' := by
  go_enter Tryz.func124, Tryz.ntmps124
  go_wp2_with fail
  refine (lcut_yes s c i _ h hi hs).mono ?_
  rintro e w1 ⟨rfl, x1⟩
  have X1 := Lib.hid (x1)
  clear x1
  go_wp2
  exact bodyPost_ret (v := .tuple #[.string (s.extract 0 i), .string (s.extract (i + 1) s.size), .bool true]) (by simp [results, Tryz.results124, go_sem]) rfl ⟨rfl, X1.out⟩
theorem own_rdT_any {w : World} {B n : Nat} {e : TypeId} {v : Value} {xs : List Value} (h : w.ownsRow B e 1 v n xs) : ∃ (A : Option Addr) (c : Nat), v = .slice A n c ∧ n ≤ c ∧ RdT w e A xs := by
  obtain ⟨h1, h2⟩ := h
  rw [Nat.mul_one] at h1
  rcases h2 with ⟨h3, h4⟩ | ⟨g, cap, cur, h3, _, h5, h6, _, _, h9⟩
  · subst h4
    obtain rfl : xs = [] := List.eq_nil_of_length_eq_zero h1
    exact ⟨none, 0, h3, Nat.le_refl _, RdT.nil _ _ _⟩
  · refine ⟨_, cap, h3, h6, fun _ => ⟨g, 0, cur, (0, 0), rfl, h5, fun i hi => ?_⟩⟩
    rw [Nat.mul_one] at h9
    rw [Nat.zero_add, ← h9, List.getElem?_take, if_pos (by omega)]
    simp
set_option maxRecDepth 100000 in
set_option maxHeartbeats 2000000 in
theorem extend_nil (f M : Nat) (w : World) (hM : M < 4294967296) :
    Calls Tryz.prog 157 #[.slice none 0 0, .int .u64 f, .int .u64 M] w fun e w' => ∃ (A : Option Addr) (n c : Nat) (ds : List Nat), e = .returned (.slice A n c) ∧ ds.length = n ∧ n ≤ c ∧ n ≤ 1 ∧ (∀ d ∈ ds, d < B32) ∧ Dig.val B32 ds = M ∧ RdT w' 167 A (u32s ds) ∧ Ext w w' := by
  obtain ⟨ti, hi, hz0, hz1, hz2⟩ := info_parts Tryz.info167
  go_enter Tryz.func157, Tryz.ntmps157
  go_wp2
  go_loopg [2, 7, 10] 0 (fun m ct _ it wr => ct = .int .u64 M ∧ it = .int .i64 0 ∧ wr = w)
  case atStart => exact ⟨rfl, rfl, rfl⟩
  case round =>
    obtain ⟨rfl, rfl, rfl⟩ := hrel
    by_cases h0 : M = 0
    · subst h0
      go_wp2
      go_ret
      exact ⟨none, 0, 0, [], rfl, rfl, Nat.le_refl _, by omega, (fun _ h => by cases h), rfl, RdT.nil _ _ _, Ext.refl _⟩
    · have d1 : decide ((M : Int) > 0) = true := by simp; omega
      go_wp2_with (at_builtin; go_must (refine wpList_append_rd _ rfl (.tmp 32) (.tmp 35) 40 rfl wr.heap.size 167 ti (.int .u32 0) 4 Tryz.underlying40 hi hz0 hz1 hz2 rfl (.slice none 0 0) 0 [] rfl ?c0 (some ⟨wr.heap.size, 0, none⟩) 1 1 [.int .u32 (M : Int)] rfl rfl ?c1 ?c2 ?c3 ?c4 ?c5 ?c6 ?_))
      case c0 => exact World.ownsRow_nil _ _ _ _
      case c1 => exact Rd.new _ _ _ rfl rfl
      case c2 => intro h; cases h
      case c3 => intro u hu; simp at hu; subst hu; rfl
      case c4 => unfold maxLen; omega
      case c5 => omega
      case c6 => simp
      intro v3 w3 hown3 hgrow3 _
      have e3 : Ext wr w3 := Below.grown ((Ext.refl wr).alloc (.cells #[.int .u32 (M : Int)] 167)) hgrow3 (by simp) (fun k hk => by simp [Value.ownBlock] at hk)
      obtain ⟨A3, c3, rfl, hc3, hr3⟩ := own_rdT_any hown3
      have F := Lib.hid (And.intro hr3 e3)
      clear hown3 hgrow3 e3 hr3
      go_wp2
      go_ret
      exact ⟨A3, 1, c3, [M], rfl, rfl, hc3, Nat.le_refl _, (fun d hd => by simp at hd; subst hd; exact hM), by simp [Dig.val], F.out.1, F.out.2⟩
/-- The decimal digit at place i of a numeral. -/
theorem dec_at {M i : Nat} (hi : i < Lib.nDigits M) : (Lib.decDigits M)[i]? = some (UInt8.ofNat (48 + M / 10 ^ (Lib.nDigits M - 1 - i) % 10)) := by
  rw [Lib.decDigits_eq, List.getElem?_map, List.getElem?_range hi]
  rfl
theorem dec_byte (M i : Nat) : (UInt8.ofNat (48 + M / 10 ^ i % 10)).toNat = 48 + M / 10 ^ i % 10 := by
  have : M / 10 ^ i % 10 < 10 := Nat.mod_lt _ (by decide)
  rw [UInt8.toNat_ofNat']
  omega
theorem dec_next {M L i : Nat} (hi : i < L) : M / 10 ^ (L - (i + 1)) = 10 * (M / 10 ^ (L - i)) + M / 10 ^ (L - 1 - i) % 10 := by
  have h1 : L - i = (L - (i + 1)) + 1 := by omega
  rw [h1, show L - 1 - i = L - (i + 1) by omega, Nat.pow_succ, ← Nat.div_div_eq_div_mul]
  omega
theorem dec_top {M : Nat} (h : 1 < Lib.nDigits M) : M / 10 ^ (Lib.nDigits M - 1) % 10 ≠ 0 := by
  have key : ∀ M, 0 < M → M / 10 ^ (Lib.nDigits M - 1) % 10 ≠ 0 := by
    intro M
    induction M using Nat.strongRecOn with
    | ind M ih =>
      intro hM
      by_cases h1 : M < 10
      · rw [Lib.nDigits_small h1]; simp; omega
      · rw [Lib.nDigits_big h1]
        have := ih (M / 10) (by omega) (by omega)
        have h2 := Lib.nDigits_pos (M / 10)
        rw [show Lib.nDigits (M / 10) + 1 - 1 = (Lib.nDigits (M / 10) - 1) + 1 by omega, Nat.pow_succ, Nat.mul_comm, ← Nat.div_div_eq_div_mul]
        exact this
  refine key M ?_
  rcases Nat.eq_zero_or_pos M with h0 | h0
  · subst h0; rw [Lib.nDigits_small (by decide)] at h; omega
  · exact h0
theorem dec_lt (M : Nat) : M < 10 ^ Lib.nDigits M := by
  induction M using Nat.strongRecOn with
  | ind M ih =>
    by_cases h1 : M < 10
    · rw [Lib.nDigits_small h1]; omega
    · rw [Lib.nDigits_big h1, Nat.pow_succ]
      have := ih (M / 10) (by omega)
      omega
end Go.Proofs.YtekiomanidimnaaGreatDoor


namespace Go.Proofs.YtekiomanidimnaaGreatDoor
open Go.RowKit Go.Sort
theorem loop_len (bs : ByteArray) : ∀ (k i : Nat) (r : List UInt8), bs.size - i = k → (ByteArray.toList.loop bs i r).length = r.length + k
  | 0, i, r, h => by
    rw [ByteArray.toList.loop.eq_1, if_neg (by omega)]; simp
  | k + 1, i, r, h => by
    rw [ByteArray.toList.loop.eq_1, if_pos (by omega), loop_len bs k (i + 1) _ (by omega)]
    simp; omega
theorem toList_len (bs : ByteArray) : bs.toList.length = bs.size := by
  unfold ByteArray.toList
  rw [loop_len bs bs.size 0 [] (by omega)]; simp
theorem not_empty (bs : ByteArray) (h : 0 < bs.size) : bs.toList.isEmpty = false := by
  cases h1 : bs.toList with
  | nil => have := toList_len bs; rw [h1] at this; simp at this; omega
  | cons a l => rfl
theorem byte_at {S : ByteArray} {i : Nat} (h : i < S.size) {x : UInt8} (hx : S.data.toList[i]? = some x) : S[i] = x := by
  have : S.data[i]? = some x := by simpa using hx
  exact (Array.getElem?_eq_some_iff.1 this).2
set_option maxRecDepth 100000 in
set_option maxHeartbeats 4000000 in
theorem natParse_ok (M : Nat) (w : World) (hM : M < 1000000000) :
    Calls Tryz.prog 125 #[.string ⟨(Lib.decDigits M).toArray⟩] w fun e w' => ∃ (A : Option Addr) (n c : Nat), e = .returned (.tuple #[.agg #[.slice A n c], .int .i64 0]) ∧ NatR w' A n c M ∧ Ext w w' := by
  obtain ⟨hl9, hl1⟩ := Dig.dec_len_nine M hM
  obtain ⟨L, hL⟩ : ∃ L, L = Lib.nDigits M := ⟨_, rfl⟩
  obtain ⟨S, hS⟩ : ∃ S : ByteArray, S = ⟨(Lib.decDigits M).toArray⟩ := ⟨_, rfl⟩
  have hsz : S.size = L := by rw [hS, hL, ← Lib.decDigits_length]; rfl
  obtain ⟨D, hD⟩ : ∃ D : Nat → Nat, D = fun i => M / 10 ^ (L - 1 - i) % 10 := ⟨_, rfl⟩
  obtain ⟨P, hP⟩ : ∃ P : Nat → Nat, P = fun i => M / 10 ^ (L - i) := ⟨_, rfl⟩
  have hget : ∀ (i : Nat) (h : i < S.size), S[i].toNat = 48 + D i := fun i h => by
    have h1 : i < L := by omega
    rw [byte_at h (x := UInt8.ofNat (48 + M / 10 ^ (L - 1 - i) % 10)) (by rw [hS, hL]; exact dec_at (by rw [← hL]; exact h1)), dec_byte, hD]
  have hDb : ∀ i, D i < 10 := fun i => by rw [hD]; exact Nat.mod_lt _ (by decide)
  have hD0 : 1 < L → D 0 ≠ 0 := fun h => by rw [hD, hL]; exact dec_top (by rw [← hL]; exact h)
  have hPn : ∀ i, i < L → P (i + 1) = 10 * P i + D i := fun i hi => by rw [hP, hD]; exact dec_next hi
  have hP0 : P 0 = 0 := by rw [hP]; simp only [Nat.sub_zero]; rw [hL]; exact Nat.div_eq_of_lt (dec_lt M)
  have hPL : P L = M := by rw [hP]; simp
  rw [Lib.decDigits_length, ← hL] at hl9 hl1
  rw [← hS]
  have hPb : ∀ i, P i < 1000000000 := fun i => by rw [hP]; exact Nat.lt_of_le_of_lt (Nat.div_le_self _ _) hM
  have PB := Lib.hid (And.intro hPn (And.intro hP0 (And.intro hPL hPb)))
  have DB := Lib.hid hDb
  have GB := Lib.hid hget
  have hne := not_empty S (by omega)
  clear hS hL hD hP hPn hP0 hPL hPb hDb hget
  obtain ⟨b0, e0⟩ := boxes1 w #[.slice none 0 0] 42
  have B0 := Lib.hid (b0)
  have E0 := Lib.hid (e0)
  clear b0 e0
  have g0 := GB.out 0 (by omega)
  have c0 : 1 < L → ((48 : Int) + (D 0 : Int) == 48) = false := fun h => beq_eq_false_iff_ne.2 (by have := hD0 h; omega)
  go_enter Tryz.func125, Tryz.ntmps125
  go_upto_region 1 with fail
  go_cut [21] (fun s wx => s = .bool false ∧ wx = w.alloc (.cells #[.slice none 0 0] 42))
  case first =>
    by_cases hL1 : 1 < L
    · have c1 := c0 hL1
      clear c0 hD0
      go_wp2
      go_meet
      exact ⟨rfl, rfl⟩
    · have hl : L = 1 := by omega
      subst hl
      clear c0 hD0
      go_wp2
      go_meet
      exact ⟨rfl, rfl⟩
  case rest =>
    obtain ⟨rfl, rfl⟩ := hcut
    clear c0 hD0 g0
    have X0 := Lib.hid (And.intro B0.out E0.out)
    clear B0 E0
    generalize w.alloc (.cells #[.slice none 0 0] 42) = W0 at *
    go_wp2
    go_loopg [4, 25] L (fun m _ it wr => ∃ i : Nat, L - i = m ∧ i ≤ L ∧ it = .int .i64 i ∧ wr = W0)
    case atStart => exact ⟨0, rfl, Nat.zero_le _, rfl, rfl⟩
    case round =>
      obtain ⟨i, rfl, hi, rfl, rfl⟩ := hrel
      by_cases hiL : i < L
      · have gi := GB.out i (by omega)
        have di := DB.out i
        go_wp2
        go_roundg (L - (i + 1))
        case measure => omega
        case rel => exact ⟨i + 1, rfl, by omega, by go_num, rfl⟩
      · obtain rfl : i = L := by omega
        go_wp2
        go_loopg [0, 5, 6, 7, 8, 9] 1 (fun m st dt _ _ _ _ wi => (m = 1 ∧ st = .string S ∧ dt = .slice none 0 0 ∧ wi = wr) ∨ (m = 0 ∧ ∃ (sx : ByteArray) (A : Option Addr) (n c : Nat) (ds : List Nat), st = .string sx ∧ sx.toList.isEmpty = true ∧ dt = .slice A n c ∧ ds.length = n ∧ n ≤ c ∧ n ≤ 1 ∧ Hid ((∀ d ∈ ds, d < B32) ∧ Dig.val B32 ds = M ∧ RdT wi 167 A (u32s ds) ∧ Ext wr wi)))
        case atStart => exact .inl ⟨rfl, rfl, rfl, rfl⟩
        case round =>
          rcases hrel with ⟨rfl, rfl, rfl, rfl⟩ | ⟨rfl, sx, A, n, c, ds, rfl, hsx, rfl, hdl, hnc, hn1, HD⟩
          · have hmin : min (9 : Int) (i : Int) = (i : Int) := by omega
            go_wp2
            go_loopg [7, 8, 9, 50] i (fun m sct pt _ it wj => ∃ k sc : Nat, i - k = m ∧ k ≤ i ∧ it = .int .i64 k ∧ sct = .int .u64 sc ∧ pt = .int .u64 (P k) ∧ Hid (sc = 10 ^ k) ∧ wj = wr)
            case atStart => exact ⟨0, 1, rfl, Nat.zero_le _, rfl, rfl, by rw [PB.out.2.1]; rfl, Lib.hid rfl, rfl⟩
            case round =>
              obtain ⟨k, sc, rfl, hk, rfl, rfl, rfl, HSC, rfl⟩ := hrel
              by_cases hki : k < i
              · have gk := GB.out k (by omega)
                have dk' := DB.out k
                have pb := PB.out.2.2.2 k
                have hsc : sc ≤ 100000000 := by rw [HSC.out]; exact Nat.le_trans (Nat.pow_le_pow_right (by decide) (show k ≤ 8 by omega)) (by decide)
                have HN := Lib.hid (PB.out.1 k hki)
                go_wp2
                go_roundg (i - (k + 1))
                case measure => omega
                case rel => exact ⟨k + 1, sc * 10, rfl, by omega, by go_num, by go_num, by rw [HN.out]; go_num, Lib.hid (by rw [HSC.out, Nat.pow_succ]), rfl⟩
              · obtain rfl : k = i := by omega
                have hPM := PB.out.2.2.1
                rw [hPM]
                go_wp2_with fail
                refine (extend_nil sc M _ (by omega)).mono ?_
                rintro e w1 ⟨A1, n1, c1, ds1, rfl, q1, q2, q3, q4, q5, q6, x1⟩
                have F := Lib.hid (And.intro q4 (And.intro q5 (And.intro q6 x1)))
                have hem : (S.extract k S.size).toList.isEmpty = true := by
                  rw [List.isEmpty_iff_length_eq_zero, toList_len, ByteArray.size_extract]; omega
                clear q4 q5 q6 x1
                go_wp2
                go_roundg 0
                case measure => omega
                case rel => exact .inr ⟨rfl, S.extract k S.size, A1, n1, c1, ds1, by simp [hsz], hem, rfl, q1, q2, q3, F⟩
          · have hwx := HD.out.2.2.2
            have X1 := Lib.hid (And.intro (X0.out.1.keep hwx) (X0.out.2.tr hwx))
            clear hwx
            go_wp2_with fail
            refine (trim_any A n c ds _ hdl hnc (by omega) HD.out.1 HD.out.2.2.1).mono ?_
            rintro e w2 ⟨A2, n2, c2, rfl, h2, x2⟩
            rw [HD.out.2.1] at h2
            have B2 := Lib.hid (X1.out.1.keep x2)
            have E2 := Lib.hid (X1.out.2.tr x2)
            have N2 := Lib.hid h2
            obtain ⟨j0, f0⟩ := B2.out.one
            clear h2 x2
            go_wp2
            exact bodyPost_ret (v := .tuple #[.agg #[.slice A2 n2 c2], .int .i64 0]) (by simp [results, Tryz.results125, go_sem, (B2.out.set_ 0 (.slice A2 n2 c2)).cell]) rfl ⟨A2, n2, c2, rfl, N2.out.set_ (p := ⟨w.heap.size, 0, none⟩) B2.out (by decide) _, E2.out.set_ (p := ⟨w.heap.size, 0, none⟩) (Nat.le_refl _) _⟩
end Go.Proofs.YtekiomanidimnaaGreatDoor


namespace Go.Proofs.YtekiomanidimnaaGreatDoor
open Go.RowKit Go.Sort
theorem rat_set3 {w W : World} {nb : Bool} {A A' : Option Addr} {n c n' c' g : Nat} {q : Rat} {cs : Array Value} (h : RatR W nb A n c A' n' c' q) (hb : Blk W g 44 cs) (hg : w.heap.size ≤ g) (hx : Ext w W) :
    RatR (((W.setCell ⟨g, 0, none⟩ (.bool nb)).setCell ⟨g, 1, none⟩ (.slice A n c)).setCell ⟨g, 2, none⟩ (.slice A' n' c')) nb A n c A' n' c' q ∧ Ext w (((W.setCell ⟨g, 0, none⟩ (.bool nb)).setCell ⟨g, 1, none⟩ (.slice A n c)).setCell ⟨g, 2, none⟩ (.slice A' n' c')) :=
  ⟨h.other (set3_grown W g _ _ _) hb (by decide), ((hx.set_ (p := ⟨g, 0, none⟩) hg _).set_ (p := ⟨g, 1, none⟩) hg _).set_ (p := ⟨g, 2, none⟩) hg _⟩
set_option maxRecDepth 100000 in
set_option maxHeartbeats 2000000 in
theorem ratMake_ok (neg : Bool) (A1 A2 : Option Addr) (n1 c1 n2 c2 N D : Nat) (w : World) (h1 : NatR w A1 n1 c1 N) (h2 : NatR w A2 n2 c2 D) (hn1 : n1 ≤ 1073741824) (hn2 : n2 ≤ 1073741824) (hD : 0 < D) :
    Calls Tryz.prog 126 #[.bool neg, .agg #[.slice A1 n1 c1], .agg #[.slice A2 n2 c2]] w fun e w' => ∃ (nb : Bool) (A : Option Addr) (n c : Nat) (A' : Option Addr) (n' c' : Nat), e = .returned (.tuple #[.agg #[.bool nb, .slice A n c, .slice A' n' c'], .int .i64 0]) ∧ RatR w' nb A n c A' n' c' (mkQ neg N D) ∧ Ext w w' := by
  obtain ⟨b0, b1, b2, e0⟩ := boxes3 w #[.slice A1 n1 c1] 42 #[.slice A2 n2 c2] 42 #[.bool false, .slice none 0 0, .slice none 0 0] 44
  have z2 : ((n2 : Int) == 0) = false := by
    have := h2.eq_zero
    exact beq_eq_false_iff_ne.2 (by omega)
  have H1 := Lib.hid (h1.keep e0)
  have H2 := Lib.hid (h2.keep e0)
  have BB := Lib.hid (And.intro b0 (And.intro b1 b2))
  have E0 := Lib.hid (e0)
  clear h1 h2 b0 b1 b2 e0
  obtain ⟨j1, _⟩ := BB.out.2.1.one
  go_enter Tryz.func126, Tryz.ntmps126
  go_wp2_with fail
  refine (isZero_any A2 n2 c2 _).mono ?_
  rintro e w1 ⟨rfl, x1⟩
  have BB1 := Lib.hid (And.intro (BB.out.1.keep x1) (And.intro (BB.out.2.1.keep x1) (BB.out.2.2.keep x1)))
  have E1 := Lib.hid (E0.out.tr x1)
  have H3 := Lib.hid (And.intro (H1.out.keep x1) (H2.out.keep x1))
  clear x1 BB E0 H1 H2 j1
  obtain ⟨j0, _⟩ := BB1.out.1.one
  obtain ⟨j1, _⟩ := BB1.out.2.1.one
  go_wp2_with fail
  refine (reducedAt_all (N := N) (D := D) (by omega) neg A1 A2 n1 c1 n2 c2 _ H3.out.1 H3.out.2 hn1 hn2).mono ?_
  rintro e w2 ⟨nb, A, n, c, A', n', c', rfl, hq, x2⟩
  have B2 := Lib.hid (BB1.out.2.2.keep x2)
  have E2 := Lib.hid (E1.out.tr x2)
  obtain ⟨⟨i0, i1, i2⟩, f0, f1, f2⟩ := B2.out.three
  obtain ⟨r1, r2⟩ := rat_set3 (w := w) hq B2.out (by omega) E2.out
  have q3 := ((B2.out.set_ 0 (.bool nb)).set_ 1 (.slice A n c)).set_ 2 (.slice A' n' c')
  have RF := Lib.hid (And.intro q3 (And.intro r1 r2))
  clear q3 r1 r2 hq x2 BB1 E1
  go_wp2
  exact bodyPost_ret (v := .tuple #[.agg #[.bool nb, .slice A n c, .slice A' n' c'], .int .i64 0]) (by simp [results, Tryz.results126, go_sem, RF.out.1.cell]) rfl ⟨_, _, _, _, _, _, _, rfl, RF.out.2.1, RF.out.2.2⟩
theorem dec_not (M : Nat) (c : UInt8) (hc : c.toNat < 48) : ∀ b ∈ Lib.decDigits M, (b == c) = false := by
  intro b hb
  obtain ⟨i, hi, he⟩ := List.getElem_of_mem hb
  have h1 := dec_at (M := M) (i := i) (by rw [← Lib.decDigits_length]; exact hi)
  rw [List.getElem?_eq_getElem hi, he] at h1
  injection h1 with h1
  have h2 := dec_byte M (Lib.nDigits M - 1 - i)
  rw [← h1] at h2
  refine beq_eq_false_iff_ne.2 (fun e => ?_)
  rw [e] at h2
  omega
theorem index_none (l : List UInt8) (c : UInt8) (h : ∀ b ∈ l, (b == c) = false) : Lib.indexByte l c = -1 := by
  induction l with
  | nil => rfl
  | cons b l ih =>
    rw [Lib.indexByte, h b (by simp), ih (fun x hx => h x (by simp [hx]))]
    rfl
theorem index_at (l r : List UInt8) (c : UInt8) (h : ∀ b ∈ l, (b == c) = false) : Lib.indexByte (l ++ c :: r) c = (l.length : Int) := by
  induction l with
  | nil => simp [Lib.indexByte]
  | cons b l ih =>
    have h1 := ih (fun x hx => h x (by simp [hx]))
    rw [List.cons_append, Lib.indexByte, h b (by simp), h1]
    have : ((l.length : Int) == -1) = false := beq_eq_false_iff_ne.2 (by omega)
    rw [this]
    simp
end Go.Proofs.YtekiomanidimnaaGreatDoor
