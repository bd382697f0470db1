/- waypointref01: Cmp, Uint64, fits. -/
import Derived.Test.YtekiomanidimnaaGreatDoorGrpB
set_option linter.unusedVariables false
set_option linter.unusedSimpArgs false

namespace Go.Proofs.YtekiomanidimnaaGreatDoor
open Go.RowKit
set_option maxRecDepth 100000 in
set_option maxHeartbeats 2000000 in
theorem rCmp_ok (A1 A2 : Option Addr) (n1 c1 n2 c2 a b : Nat) (w : World) (h1 : GrpR w A1 n1 c1 a) (h2 : GrpR w A2 n2 c2 b) (hn : n1 ≤ 1099511627776) :
    Calls Tryz.prog 136 #[.slice A1 n1 c1, .slice A2 n2 c2] w fun e w' => e = .returned (.int .i64 (cmpI a b)) ∧ Ext w w' := by
  obtain ⟨xs, rfl, hc1, hcx, rfl, hr1⟩ := h1
  obtain ⟨ys, rfl, hc2, hcy, rfl, hr2⟩ := h2
  by_cases hl : xs.length = ys.length
  · have hlb : decide (xs.length < ys.length) = false := by simp; omega
    have hlb2 : decide (ys.length < xs.length) = false := by simp; omega
    have HL := Lib.hid (hl)
    clear hl
    go_enter Tryz.func136, Tryz.ntmps136
    go_wp2
    go_loopw [5] (fun t wr => ∃ (k m : Nat), k ≤ xs.length ∧ t = .int .i64 (k - 1) ∧ wr = w.drewN m ∧ ∀ j, k ≤ j → j < xs.length → xs[j]?.getD 0 = ys[j]?.getD 0) (fun t _ => (intOf t + 1).toNat)
    case atStart => exact ⟨xs.length, 0, Nat.le_refl _, by go_num, rfl, fun j h1 h2 => by omega⟩
    case round =>
      obtain ⟨k, m, hk, rfl, rfl, hz⟩ := hrel
      have HZ := Lib.hid hz
      clear hz
      by_cases h0 : k = 0
      · subst h0
        have hfin : cmpI (Dig.val G6 xs) (Dig.val G6 ys) = 0 := by
          have e : xs = ys := by have := Dig.drop_eq_of HL.out HZ.out; simpa using this
          unfold cmpI; rw [e]; simp
        have HF := Lib.hid hfin
        clear hfin
        go_wp2
        go_ret
        rw [HF.out]
        exact ⟨rfl, by repeat (first | exact Ext.refl _ | refine Ext.drewN ?_ _ | refine Ext.alloc ?_ _)⟩
      · have hlq := HL.out
        obtain ⟨b1, o1, rfl, hb1, hcell1⟩ := hr1.rd.ints (k := k - 1) (by omega)
        obtain ⟨b2, o2, rfl, hb2, hcell2⟩ := hr2.rd.ints (k := k - 1) (by omega)
        have hk1 := hcell1 (k - 1) (by omega)
        have hk2 := hcell2 (k - 1) (by omega)
        clear hcell1 hcell2 hr1 hr2
        obtain ⟨d1, hd1⟩ : ∃ d, d = xs[k - 1]?.getD 0 := ⟨_, rfl⟩
        obtain ⟨d2, hd2⟩ : ∃ d, d = ys[k - 1]?.getD 0 := ⟨_, rfl⟩
        rw [← hd1] at hk1
        rw [← hd2] at hk2
        have HD1 := Lib.hid hd1
        have HD2 := Lib.hid hd2
        have i0 : (0 : Int) ≤ (k : Int) - 1 := by omega
        have i1 : (k : Int) - 1 < (xs.length : Int) := by omega
        have i2 : (k : Int) - 1 < (ys.length : Int) := by omega
        have i3 : ((k : Int) - 1).toNat = k - 1 := by omega
        clear hd1 hd2 hlq
        rcases Nat.lt_trichotomy d1 d2 with hd | hd | hd
        · have hb : decide (d1 < d2) = true := by simpa using hd
          have hfin : cmpI (Dig.val G6 xs) (Dig.val G6 ys) = -1 := by
            unfold cmpI; rw [if_pos (Dig.val_lt_of_digit G6_pos hcx.lt HL.out (k := k - 1) (by omega) (fun j h1 h2 => HZ.out j (by omega) h2) (by rw [← HD1.out, ← HD2.out]; exact hd))]
          have HF := Lib.hid hfin
          clear hfin
          go_wp2
          go_quiet (fail)
          go_wp2
          go_ret
          rw [HF.out]
          exact ⟨rfl, by repeat (first | exact Ext.refl _ | refine Ext.drewN ?_ _ | refine Ext.alloc ?_ _)⟩
        · subst hd
          go_wp2
          go_quiet (fail)
          go_wp2
          go_quiet (fail)
          go_wp2
          go_roundw
          case rel => exact ⟨k - 1, _, by omega, by go_num, rfl, fun j h1 h2 => by
            by_cases e : j = k - 1
            · subst e; rw [← HD1.out, ← HD2.out]
            · exact HZ.out j (by omega) h2⟩
          case measure => simp [intOf]; omega
        · have hb : decide (d1 < d2) = false := by simp; omega
          have hb' : decide (d2 < d1) = true := by simpa using hd
          have hfin : cmpI (Dig.val G6 xs) (Dig.val G6 ys) = 1 := by
            have := Dig.val_lt_of_digit G6_pos hcy.lt HL.out.symm (k := k - 1) (by have := HL.out; omega) (fun j h1 h2 => (HZ.out j (by omega) (by have := HL.out; omega)).symm) (by rw [← HD1.out, ← HD2.out]; exact hd)
            unfold cmpI; rw [if_neg (by omega), if_neg (by omega)]
          have HF := Lib.hid hfin
          clear hfin
          go_wp2
          go_quiet (fail)
          go_wp2
          go_quiet (fail)
          go_wp2
          go_ret
          rw [HF.out]
          exact ⟨rfl, by repeat (first | exact Ext.refl _ | refine Ext.drewN ?_ _ | refine Ext.alloc ?_ _)⟩
  · rcases Nat.lt_or_ge xs.length ys.length with hlt | hge
    · have hb : decide (xs.length < ys.length) = true := by simp; omega
      have hfin : cmpI (Dig.val G6 xs) (Dig.val G6 ys) = -1 := by unfold cmpI; rw [if_pos (Dig.Canon.len_lt G6_gt hcx hcy hlt)]
      rw [hfin]
      clear hfin
      go_enter Tryz.func136, Tryz.ntmps136
      go_wp2
      go_ret
      exact ⟨rfl, Ext.refl _⟩
    · have hb : decide (xs.length < ys.length) = false := by simp; omega
      have hb2 : decide (ys.length < xs.length) = true := by simp; omega
      have hfin : cmpI (Dig.val G6 xs) (Dig.val G6 ys) = 1 := by
        have := Dig.Canon.len_lt G6_gt hcy hcx (by omega)
        unfold cmpI; rw [if_neg (by omega), if_neg (by omega)]
      rw [hfin]
      clear hfin
      go_enter Tryz.func136, Tryz.ntmps136
      go_wp2
      go_ret
      exact ⟨rfl, Ext.refl _⟩
theorem drop_next (ds : List Nat) (k : Nat) (h : k < ds.length) : Dig.val G6 (ds.drop k) = ds[k]?.getD 0 + G6 * Dig.val G6 (ds.drop (k + 1)) := by
  rw [Dig.val_drop' _ _ _ h]; simp [List.getD]
theorem drop_le (ds : List Nat) (k : Nat) : Dig.val G6 (ds.drop k) ≤ Dig.val G6 ds := by
  rcases Nat.lt_or_ge ds.length k with h | h
  · rw [List.drop_of_length_le (by omega)]; exact Nat.zero_le _
  · rw [Dig.val_split' G6 ds k h]
    have : Dig.val G6 (ds.drop k) * 1 ≤ Dig.val G6 (ds.drop k) * G6 ^ k := Nat.mul_le_mul_left _ (Nat.pow_pos G6_pos)
    rw [Nat.mul_comm (G6 ^ k)]
    omega
def U64 : Nat := 18446744073709551616
theorem U64_eq : U64 = 18446744073709551616 := rfl
set_option maxRecDepth 100000 in
set_option maxHeartbeats 2000000 in
theorem rUint_ok (A : Option Addr) (n c N : Nat) (w : World) (h : GrpR w A n c N) (hn : n ≤ 1000000000) :
    Calls Tryz.prog 145 #[.slice A n c] w fun e w' => ∃ (x : Nat) (ok : Bool), e = .returned (.tuple #[.int .u64 x, .bool ok]) ∧ ((N < U64 ∧ x = N ∧ ok = true) ∨ (U64 ≤ N ∧ ok = false)) ∧ Ext w w' := by
  obtain ⟨ds, hdl, hc, hcan, rfl, hr⟩ := h
  have HR := Lib.hid (hr.rd)
  have HD := Lib.hid (hcan.lt)
  have HDL := Lib.hid (hdl)
  clear hr hcan hdl
  go_enter Tryz.func145, Tryz.ntmps145
  go_wp2
  go_loopg [4, 5, 6] n (fun m at_ it _ wr => ∃ k V : Nat, k = m ∧ k ≤ n ∧ it = .int .i64 (k - 1) ∧ at_ = .int .u64 V ∧ Hid (V = Dig.val G6 (ds.drop k)) ∧ Hid (V < U64) ∧ wr = w)
  case atStart => exact ⟨n, 0, rfl, Nat.le_refl _, by go_num, rfl, Lib.hid (by rw [List.drop_of_length_le (by rw [HDL.out]; omega)]; rfl), Lib.hid (by decide), rfl⟩
  case round =>
    obtain ⟨k, V, rfl, hk, rfl, rfl, hV, hV2, rfl⟩ := hrel
    by_cases h0 : k = 0
    · subst h0
      have hv : V = Dig.val G6 ds := hV.out
      go_wp2
      refine bodyPost_ret (v := .tuple #[.int .u64 V, .bool true]) (by simp [results, Tryz.results145, go_sem]) rfl ?_
      exact ⟨V, true, rfl, .inl ⟨by rw [← hv]; exact hV2.out, hv, rfl⟩, Ext.refl _⟩
    · have hkl : k - 1 < ds.length := by rw [HDL.out]; omega
      obtain ⟨b, o, rfl, hb, hcell⟩ := HR.out.ints (k := k - 1) hkl
      obtain ⟨x, hxi⟩ : ∃ x, x = ds[k - 1]?.getD 0 := ⟨_, rfl⟩
      have hget : ds[k - 1]? = some x := by rw [hxi, List.getElem?_eq_getElem hkl]; rfl
      have hxb : x < 1000000 := HD.out x (List.mem_of_getElem? hget)
      have hck := hcell (k - 1) hkl
      rw [← hxi] at hck
      have NX := Lib.hid (show Dig.val G6 (ds.drop (k - 1)) = x + 1000000 * V by
        rw [drop_next ds (k - 1) hkl, ← hxi, show k - 1 + 1 = k by omega, hV.out]; rfl)
      have LE := Lib.hid (drop_le ds (k - 1))
      have i0 : (0 : Int) ≤ (k : Int) - 1 := by omega
      have i3 : ((k : Int) - 1).toNat = k - 1 := by omega
      clear hxi hcell hget hkl
      go_wp2
      · rename_i hf
        have hf' : (18446744073709551615 - (x : Int)) / 1000000 < (V : Int) := by simpa using hf
        refine bodyPost_ret (v := .tuple #[.int .u64 0, .bool false]) (by simp [results, Tryz.results145, go_sem]) rfl ?_
        exact ⟨0, false, rfl, .inr ⟨by have h1 := NX.out; have h2 := LE.out; rw [U64_eq]; omega, rfl⟩, Ext.refl _⟩
      · rename_i hf
        have hf' : ¬ (18446744073709551615 - (x : Int)) / 1000000 < (V : Int) := by simpa using hf
        have hs : (V : Int) * 1000000 + (x : Int) < 18446744073709551616 := by omega
        go_roundg (k - 1)
        case measure => omega
        case rel => exact ⟨k - 1, V * 1000000 + x, rfl, by omega, by go_num, by go_num, Lib.hid (by rw [NX.out]; omega), Lib.hid (by rw [U64_eq]; omega), rfl⟩
theorem GrpR.lt_pow {w : World} {A : Option Addr} {n c N : Nat} (h : GrpR w A n c N) : N < G6 ^ n := by
  obtain ⟨ds, rfl, _, hcan, rfl, _⟩ := h
  exact Dig.val_lt G6_pos hcan.lt
set_option maxRecDepth 100000 in
set_option maxHeartbeats 2000000 in
theorem fits_ok (A1 A2 : Option Addr) (n1 c1 n2 c2 a b : Nat) (w : World) (h1 : GrpR w A1 n1 c1 a) (h2 : GrpR w A2 n2 c2 b) (hn2 : n2 ≤ 10000000) :
    Calls Tryz.prog 164 #[.slice A1 n1 c1, .slice A2 n2 c2] w fun e w' => ∃ q : Nat, e = .returned (.int .i64 q) ∧ q ≤ 999999 ∧ b * q ≤ a ∧ (q = 999999 ∨ a < b * (q + 1)) ∧ Ext w w' := by
  have H1 := Lib.hid (h1)
  have H2 := Lib.hid (h2)
  clear h1 h2
  go_enter Tryz.func164, Tryz.ntmps164
  go_wp2
  go_loopg [5, 6, 7] 999999 (fun m lt mt _ wr => ∃ l h : Nat, h - l = m ∧ l ≤ h ∧ h ≤ 999999 ∧ lt = .int .i64 l ∧ mt = .int .i64 h ∧ Hid (b * l ≤ a) ∧ Hid (h = 999999 ∨ a < b * (h + 1)) ∧ Ext w wr)
  case atStart => exact ⟨0, 999999, rfl, by omega, Nat.le_refl _, rfl, rfl, Lib.hid (by rw [Nat.mul_zero]; exact Nat.zero_le _), Lib.hid (.inl rfl), Ext.refl _⟩
  case round =>
    obtain ⟨l, h, rfl, hlh, hh, rfl, rfl, hl, hhh, hx⟩ := hrel
    have EX := Lib.hid (hx)
    clear hx
    by_cases h0 : l < h
    · obtain ⟨m, hm⟩ : ∃ m, m = (l + h + 1) / 2 := ⟨_, rfl⟩
      have hm1 : l < m ∧ m ≤ h := by omega
      have hmi : ((l : Int) + (h : Int) + 1) / 2 = (m : Int) := by omega
      clear hm
      go_wp2_with fail
      refine (times_ok A2 n2 c2 b m _ (H2.out.keep EX.out) hn2 (by omega)).mono ?_
      rintro e w1 ⟨A3, n3, c3, rfl, h3, hx1, _⟩
      have EX1 := Lib.hid (EX.out.tr hx1)
      have hn3 : n3 ≤ n2 + 1 := h3.lenOf (by
        have := (H2.out).lt_pow
        rw [Nat.pow_succ]
        exact Nat.lt_of_lt_of_le (Nat.mul_lt_mul_of_lt_of_le this (show m ≤ G6 by rw [G6_eq]; omega) G6_pos) (Nat.le_refl _))
      have H3 := Lib.hid h3
      clear h3 hx1
      go_wp2_with fail
      refine (rCmp_ok A3 A1 n3 c3 n1 c1 (b * m) a _ H3.out (H1.out.keep EX1.out) (by omega)).mono ?_
      rintro e w2 ⟨rfl, hx2⟩
      have EX2 := Lib.hid (EX1.out.tr hx2)
      clear hx2 H3
      by_cases hc : b * m ≤ a
      · have hcm : cmpI (b * m) a ≤ 0 := by unfold cmpI; split <;> (try split) <;> omega
        have hb : decide (cmpI (b * m) a ≤ 0) = true := by simpa using hcm
        have HC := Lib.hid (hc)
        clear hc hcm
        go_wp2
        go_roundg (h - m)
        case measure => omega
        case rel => exact ⟨m, h, rfl, by omega, hh, rfl, rfl, HC, hhh, EX2.out⟩
      · have hcm : ¬ cmpI (b * m) a ≤ 0 := by unfold cmpI; rw [if_neg (by omega), if_neg (by omega)]; decide
        have hb : decide (cmpI (b * m) a ≤ 0) = false := by simpa using hcm
        have HC := Lib.hid (hc)
        clear hc hcm
        go_wp2
        go_roundg (m - 1 - l)
        case measure => omega
        case rel => exact ⟨l, m - 1, rfl, by omega, by omega, rfl, by go_num, hl, Lib.hid (.inr (by rw [show m - 1 + 1 = m by omega]; have := HC.out; omega)), EX2.out⟩
    · obtain rfl : l = h := by omega
      go_wp2
      go_ret
      exact ⟨l, rfl, hh, hl.out, hhh.out, EX.out⟩
end Go.Proofs.YtekiomanidimnaaGreatDoor
