/- nat.Parse of numerals below 10^9. -/
import Derived.Test.YtekiomanidimnaaGreatDoorParA
set_option linter.unusedVariables false
set_option linter.unusedSimpArgs false

namespace Go.Proofs.YtekiomanidimnaaGreatDoor
open Go.RowKit Go.Sort
theorem loop_len (bs : ByteArray) : ∀ (k i : Nat) (r : List UInt8), bs.size - i = k → (ByteArray.toList.loop bs i r).length = r.length + k
  | 0, i, r, h => by
    rw [ByteArray.toList.loop.eq_1, if_neg (by omega)]; simp
  | k + 1, i, r, h => by
    rw [ByteArray.toList.loop.eq_1, if_pos (by omega), loop_len bs k (i + 1) _ (by omega)]
    simp; omega
theorem toList_len (bs : ByteArray) : bs.toList.length = bs.size := by
  unfold ByteArray.toList
  rw [loop_len bs bs.size 0 [] (by omega)]; simp
theorem not_empty (bs : ByteArray) (h : 0 < bs.size) : bs.toList.isEmpty = false := by
  cases h1 : bs.toList with
  | nil => have := toList_len bs; rw [h1] at this; simp at this; omega
  | cons a l => rfl
theorem byte_at {S : ByteArray} {i : Nat} (h : i < S.size) {x : UInt8} (hx : S.data.toList[i]? = some x) : S[i] = x := by
  have : S.data[i]? = some x := by simpa using hx
  exact (Array.getElem?_eq_some_iff.1 this).2
set_option maxRecDepth 100000 in
set_option maxHeartbeats 4000000 in
theorem natParse_ok (M : Nat) (w : World) (hM : M < 1000000000) :
    Calls Tryz.prog 125 #[.string ⟨(Lib.decDigits M).toArray⟩] w fun e w' => ∃ (A : Option Addr) (n c : Nat), e = .returned (.tuple #[.agg #[.slice A n c], .int .i64 0]) ∧ NatR w' A n c M ∧ Ext w w' := by
  obtain ⟨hl9, hl1⟩ := Dig.dec_len_nine M hM
  obtain ⟨L, hL⟩ : ∃ L, L = Lib.nDigits M := ⟨_, rfl⟩
  obtain ⟨S, hS⟩ : ∃ S : ByteArray, S = ⟨(Lib.decDigits M).toArray⟩ := ⟨_, rfl⟩
  have hsz : S.size = L := by rw [hS, hL, ← Lib.decDigits_length]; rfl
  obtain ⟨D, hD⟩ : ∃ D : Nat → Nat, D = fun i => M / 10 ^ (L - 1 - i) % 10 := ⟨_, rfl⟩
  obtain ⟨P, hP⟩ : ∃ P : Nat → Nat, P = fun i => M / 10 ^ (L - i) := ⟨_, rfl⟩
  have hget : ∀ (i : Nat) (h : i < S.size), S[i].toNat = 48 + D i := fun i h => by
    have h1 : i < L := by omega
    rw [byte_at h (x := UInt8.ofNat (48 + M / 10 ^ (L - 1 - i) % 10)) (by rw [hS, hL]; exact dec_at (by rw [← hL]; exact h1)), dec_byte, hD]
  have hDb : ∀ i, D i < 10 := fun i => by rw [hD]; exact Nat.mod_lt _ (by decide)
  have hD0 : 1 < L → D 0 ≠ 0 := fun h => by rw [hD, hL]; exact dec_top (by rw [← hL]; exact h)
  have hPn : ∀ i, i < L → P (i + 1) = 10 * P i + D i := fun i hi => by rw [hP, hD]; exact dec_next hi
  have hP0 : P 0 = 0 := by rw [hP]; simp only [Nat.sub_zero]; rw [hL]; exact Nat.div_eq_of_lt (dec_lt M)
  have hPL : P L = M := by rw [hP]; simp
  rw [Lib.decDigits_length, ← hL] at hl9 hl1
  rw [← hS]
  have hPb : ∀ i, P i < 1000000000 := fun i => by rw [hP]; exact Nat.lt_of_le_of_lt (Nat.div_le_self _ _) hM
  have PB := Lib.hid (And.intro hPn (And.intro hP0 (And.intro hPL hPb)))
  have DB := Lib.hid hDb
  have GB := Lib.hid hget
  have hne := not_empty S (by omega)
  clear hS hL hD hP hPn hP0 hPL hPb hDb hget
  obtain ⟨b0, e0⟩ := boxes1 w #[.slice none 0 0] 42
  have B0 := Lib.hid (b0)
  have E0 := Lib.hid (e0)
  clear b0 e0
  have g0 := GB.out 0 (by omega)
  have c0 : 1 < L → ((48 : Int) + (D 0 : Int) == 48) = false := fun h => beq_eq_false_iff_ne.2 (by have := hD0 h; omega)
  go_enter Tryz.func125, Tryz.ntmps125
  go_upto_region 1 with fail
  go_cut [21] (fun s wx => s = .bool false ∧ wx = w.alloc (.cells #[.slice none 0 0] 42))
  case first =>
    by_cases hL1 : 1 < L
    · have c1 := c0 hL1
      clear c0 hD0
      go_wp2
      go_meet
      exact ⟨rfl, rfl⟩
    · have hl : L = 1 := by omega
      subst hl
      clear c0 hD0
      go_wp2
      go_meet
      exact ⟨rfl, rfl⟩
  case rest =>
    obtain ⟨rfl, rfl⟩ := hcut
    clear c0 hD0 g0
    have X0 := Lib.hid (And.intro B0.out E0.out)
    clear B0 E0
    generalize w.alloc (.cells #[.slice none 0 0] 42) = W0 at *
    go_wp2
    go_loopg [4, 25] L (fun m _ it wr => ∃ i : Nat, L - i = m ∧ i ≤ L ∧ it = .int .i64 i ∧ wr = W0)
    case atStart => exact ⟨0, rfl, Nat.zero_le _, rfl, rfl⟩
    case round =>
      obtain ⟨i, rfl, hi, rfl, rfl⟩ := hrel
      by_cases hiL : i < L
      · have gi := GB.out i (by omega)
        have di := DB.out i
        go_wp2
        go_roundg (L - (i + 1))
        case measure => omega
        case rel => exact ⟨i + 1, rfl, by omega, by go_num, rfl⟩
      · obtain rfl : i = L := by omega
        go_wp2
        go_loopg [0, 5, 6, 7, 8, 9] 1 (fun m st dt _ _ _ _ wi => (m = 1 ∧ st = .string S ∧ dt = .slice none 0 0 ∧ wi = wr) ∨ (m = 0 ∧ ∃ (sx : ByteArray) (A : Option Addr) (n c : Nat) (ds : List Nat), st = .string sx ∧ sx.toList.isEmpty = true ∧ dt = .slice A n c ∧ ds.length = n ∧ n ≤ c ∧ n ≤ 1 ∧ Hid ((∀ d ∈ ds, d < B32) ∧ Dig.val B32 ds = M ∧ RdT wi 167 A (u32s ds) ∧ Ext wr wi)))
        case atStart => exact .inl ⟨rfl, rfl, rfl, rfl⟩
        case round =>
          rcases hrel with ⟨rfl, rfl, rfl, rfl⟩ | ⟨rfl, sx, A, n, c, ds, rfl, hsx, rfl, hdl, hnc, hn1, HD⟩
          · have hmin : min (9 : Int) (i : Int) = (i : Int) := by omega
            go_wp2
            go_loopg [7, 8, 9, 50] i (fun m sct pt _ it wj => ∃ k sc : Nat, i - k = m ∧ k ≤ i ∧ it = .int .i64 k ∧ sct = .int .u64 sc ∧ pt = .int .u64 (P k) ∧ Hid (sc = 10 ^ k) ∧ wj = wr)
            case atStart => exact ⟨0, 1, rfl, Nat.zero_le _, rfl, rfl, by rw [PB.out.2.1]; rfl, Lib.hid rfl, rfl⟩
            case round =>
              obtain ⟨k, sc, rfl, hk, rfl, rfl, rfl, HSC, rfl⟩ := hrel
              by_cases hki : k < i
              · have gk := GB.out k (by omega)
                have dk' := DB.out k
                have pb := PB.out.2.2.2 k
                have hsc : sc ≤ 100000000 := by rw [HSC.out]; exact Nat.le_trans (Nat.pow_le_pow_right (by decide) (show k ≤ 8 by omega)) (by decide)
                have HN := Lib.hid (PB.out.1 k hki)
                go_wp2
                go_roundg (i - (k + 1))
                case measure => omega
                case rel => exact ⟨k + 1, sc * 10, rfl, by omega, by go_num, by go_num, by rw [HN.out]; go_num, Lib.hid (by rw [HSC.out, Nat.pow_succ]), rfl⟩
              · obtain rfl : k = i := by omega
                have hPM := PB.out.2.2.1
                rw [hPM]
                go_wp2_with fail
                refine (extend_nil sc M _ (by omega)).mono ?_
                rintro e w1 ⟨A1, n1, c1, ds1, rfl, q1, q2, q3, q4, q5, q6, x1⟩
                have F := Lib.hid (And.intro q4 (And.intro q5 (And.intro q6 x1)))
                have hem : (S.extract k S.size).toList.isEmpty = true := by
                  rw [List.isEmpty_iff_length_eq_zero, toList_len, ByteArray.size_extract]; omega
                clear q4 q5 q6 x1
                go_wp2
                go_roundg 0
                case measure => omega
                case rel => exact .inr ⟨rfl, S.extract k S.size, A1, n1, c1, ds1, by simp [hsz], hem, rfl, q1, q2, q3, F⟩
          · have hwx := HD.out.2.2.2
            have X1 := Lib.hid (And.intro (X0.out.1.keep hwx) (X0.out.2.tr hwx))
            clear hwx
            go_wp2_with fail
            refine (trim_any A n c ds _ hdl hnc (by omega) HD.out.1 HD.out.2.2.1).mono ?_
            rintro e w2 ⟨A2, n2, c2, rfl, h2, x2⟩
            rw [HD.out.2.1] at h2
            have B2 := Lib.hid (X1.out.1.keep x2)
            have E2 := Lib.hid (X1.out.2.tr x2)
            have N2 := Lib.hid h2
            obtain ⟨j0, f0⟩ := B2.out.one
            clear h2 x2
            go_wp2
            exact bodyPost_ret (v := .tuple #[.agg #[.slice A2 n2 c2], .int .i64 0]) (by simp [results, Tryz.results125, go_sem, (B2.out.set_ 0 (.slice A2 n2 c2)).cell]) rfl ⟨A2, n2, c2, rfl, N2.out.set_ (p := ⟨w.heap.size, 0, none⟩) B2.out (by decide) _, E2.out.set_ (p := ⟨w.heap.size, 0, none⟩) (Nat.le_refl _) _⟩
end Go.Proofs.YtekiomanidimnaaGreatDoor
