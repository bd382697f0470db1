/- waypointref01: GCD, Text. -/
import Derived.Test.YtekiomanidimnaaGreatDoorGrpF
import Derived.Test.YtekiomanidimnaaGreatDoorMH
import Derived.Laws.IdiomStrings
set_option linter.unusedVariables false
set_option linter.unusedSimpArgs false

namespace Go.Proofs.YtekiomanidimnaaGreatDoor
open Go.RowKit Go.Sort
set_option maxRecDepth 100000 in
set_option maxHeartbeats 4000000 in
theorem rGCD_ok (A1 A2 : Option Addr) (n1 c1 n2 c2 a b : Nat) (w : World) (h1 : GrpR w A1 n1 c1 a) (h2 : GrpR w A2 n2 c2 b) (hn1 : n1 ≤ 1000000) (hn2 : n2 ≤ 1000000) :
    Calls Tryz.prog 163 #[.slice A1 n1 c1, .slice A2 n2 c2] w fun e w' => ∃ (A : Option Addr) (n c : Nat), e = .returned (.slice A n c) ∧ GrpR w' A n c (Nat.gcd a b) ∧ Ext w w' := by
  induction b using Nat.strongRecOn generalizing A1 A2 n1 c1 n2 c2 a w with
  | ind b ih =>
    have hz := h2.eq_zero
    have H1 := Lib.hid (h1)
    have H2 := Lib.hid (h2)
    have IH := Lib.hid (ih)
    clear h1 h2 ih
    by_cases hb : b = 0
    · obtain rfl : n2 = 0 := hz.2 hb
      subst hb
      clear hz
      go_enter Tryz.func163, Tryz.ntmps163
      go_wp2
      go_ret
      exact ⟨_, _, _, rfl, by rw [Nat.gcd_zero_right]; exact H1.out, Ext.refl _⟩
    · have z2 : ((n2 : Int) == 0) = false := beq_eq_false_iff_ne.2 (by omega)
      have hb0 : 0 < b := by omega
      clear hz
      go_enter Tryz.func163, Tryz.ntmps163
      go_wp2_with fail
      refine (rDivMod_ok A1 A2 n1 c1 n2 c2 a b _ H1.out H2.out (by omega) hn2 hb0).mono ?_
      rintro e w1 ⟨A3, n3, c3, A4, n4, c4, rfl, h3, h4, x1⟩
      have hlt : a % b < b := Nat.mod_lt _ hb0
      have hn4 : n4 ≤ n2 := h4.lenOf (Nat.lt_trans hlt H2.out.lt_pow)
      have H4 := Lib.hid (And.intro (H2.out.keep x1) (And.intro h4 x1))
      clear h3 h4 x1
      go_wp2_with fail
      refine (IH.out (a % b) hlt A2 A4 n2 c2 n4 c4 b _ H4.out.1 H4.out.2.1 hn2 (by omega)).mono ?_
      rintro e w2 ⟨A5, n5, c5, rfl, h5, x2⟩
      have hg : Nat.gcd b (a % b) = Nat.gcd a b := by rw [Nat.gcd_comm a b, Nat.gcd_rec b a, Nat.gcd_comm]
      rw [hg] at h5
      have F := Lib.hid (And.intro h5 (H4.out.2.2.tr x2))
      clear h5 x2 hg
      go_wp2
      go_ret
      exact ⟨_, _, _, rfl, F.out.1, F.out.2⟩
/-- What is still to be written of a numeral, ahead of what has been. -/
def preD (M : Nat) : List UInt8 := if M = 0 then [] else Lib.decDigits M
theorem preD_step {M : Nat} (h : 0 < M) : preD M = preD (M / 10) ++ [UInt8.ofNat (48 + M % 10)] := by
  unfold preD
  rw [if_neg (by omega)]
  by_cases h1 : M < 10
  · rw [if_pos (by omega), Lib.decDigits_one h1, Nat.mod_eq_of_lt h1]; rfl
  · rw [if_neg (by omega), Lib.decDigits.eq_1 M, dif_neg h1]
theorem drop_pos {ds : List Nat} (hc : Dig.Canon G6 ds) {i : Nat} (hi : i < ds.length) : 0 < Dig.val G6 (ds.drop i) := by
  refine Dig.Canon.pos G6_pos ⟨fun d hd => hc.lt d (List.mem_of_mem_drop hd), ?_⟩ (by intro e; have := congrArg List.length e; simp at this; omega)
  intro h
  apply hc.top
  rw [← h, List.getLast?_drop, if_neg (by omega)]
theorem text_step (g e V : Nat) : (g + 10 ^ (e + 1) * V) % 10 = g % 10 ∧ (g + 10 ^ (e + 1) * V) / 10 = g / 10 + 10 ^ e * V := by
  have h : 10 ^ (e + 1) * V = 10 * (10 ^ e * V) := by rw [Nat.pow_succ, Nat.mul_comm (10 ^ e) 10, Nat.mul_assoc]
  rw [h]
  omega
theorem text_next {N g k V : Nat} {S : List UInt8} (hk : k < 6) (hM : 0 < g + 10 ^ (6 - k) * V) (h : Lib.decDigits N = preD (g + 10 ^ (6 - k) * V) ++ S) : Lib.decDigits N = preD (g / 10 + 10 ^ (6 - (k + 1)) * V) ++ (UInt8.ofNat (48 + g % 10) :: S) := by
  obtain ⟨e, he⟩ : ∃ e, 6 - k = e + 1 := ⟨5 - k, by omega⟩
  rw [h, preD_step hM, he, (text_step g e V).1, (text_step g e V).2, show 6 - (k + 1) = e by omega, List.append_assoc]
  rfl
theorem conv_one (w : World) (g : Nat) : (convert 188 9 (.slice (some ⟨w.heap.size, 0, none⟩) 1 1)).run Tryz.prog (w.alloc (.cells #[.int .u8 (48 + (g : Int) % 10)] 5)) = .ok (.string ⟨#[UInt8.ofNat (48 + g % 10)]⟩) (w.alloc (.cells #[.int .u8 (48 + (g : Int) % 10)] 5)) := by
  have := run_convert_bytes_back (P := Tryz.prog) (w.alloc (.cells #[.int .u8 (48 + (g : Int) % 10)] 5)) 188 9 5 ⟨w.heap.size, 0, none⟩ 1 [UInt8.ofNat (48 + g % 10)] Tryz.underlying188 Tryz.underlying5 Tryz.underlying9 (fun j hj => by
    obtain rfl : j = 0 := by simp at hj; exact hj
    rw [addr_add, (Blk.new w 5 #[.int .u8 (48 + (g : Int) % 10)]).cell]
    have hg : g % 10 < 10 := Nat.mod_lt _ (by decide)
    have : (UInt8.ofNat (48 + g % 10)).toNat = 48 + g % 10 := by rw [UInt8.toNat_ofNat']; omega
    simp only [List.getElem_cons_zero, this]
    simp)
  exact this
set_option maxRecDepth 100000 in
set_option maxHeartbeats 4000000 in
theorem rText_ok (A : Option Addr) (n c N : Nat) (w : World) (h : GrpR w A n c N) (hn : n ≤ 1000000) :
    Calls Tryz.prog 127 #[.slice A n c] w fun e w' => e = .returned (.string ⟨(Lib.decDigits N).toArray⟩) ∧ Ext w w' := by
  have hz := h.eq_zero
  by_cases h0 : N = 0
  · obtain rfl : n = 0 := hz.2 h0
    subst h0
    clear hz
    go_enter Tryz.func127, Tryz.ntmps127
    go_wp2
    go_ret
    exact ⟨by simp [Lib.decDigits], Ext.refl _⟩
  · have z1 : ((n : Int) == 0) = false := beq_eq_false_iff_ne.2 (by omega)
    obtain ⟨ds, hdl, hc, hcan, hv, hr⟩ := h
    have DS := Lib.hid (And.intro hdl (And.intro hcan (And.intro hv hr.rd)))
    clear hdl hcan hv hr hz
    go_enter Tryz.func127, Tryz.ntmps127
    go_wp2
    go_loopg [3, 4, 5, 6] n (fun m st it _ _ wr => ∃ (i : Nat) (sb : ByteArray), n - i = m ∧ i ≤ n ∧ it = .int .i64 i ∧ st = .string sb ∧ sb.size ≤ 6 * i ∧ Hid (Lib.decDigits N = preD (Dig.val G6 (ds.drop i)) ++ sb.data.toList) ∧ Hid (Ext w wr))
    case atStart => exact ⟨0, ⟨#[]⟩, rfl, Nat.zero_le _, rfl, rfl, by decide, Lib.hid (by rw [List.drop_zero, DS.out.2.2.1]; unfold preD; rw [if_neg h0]; simp), Lib.hid (Ext.refl _)⟩
    case round =>
      obtain ⟨i, sb, rfl, hin, rfl, rfl, hsz, HS, EW⟩ := hrel
      by_cases hi : i < n
      · have hil : i < ds.length := by rw [DS.out.1]; exact hi
        obtain ⟨x, hx⟩ : ∃ x, x = ds[i]?.getD 0 := ⟨_, rfl⟩
        have hxb : x < 1000000 := by
          rw [hx, List.getElem?_eq_getElem hil]
          exact DS.out.2.1.lt _ (List.getElem_mem _)
        obtain ⟨bb, oo, hA1, hbb, hcell⟩ := DS.out.2.2.2.ints (k := i) hil
        subst hA1
        have k1 := EW.out.cell (p := ⟨bb, oo + i, none⟩) hbb
        rw [hcell i hil, ← hx] at k1
        have NX := Lib.hid (show Dig.val G6 (ds.drop i) = x + 1000000 * Dig.val G6 (ds.drop (i + 1)) by rw [drop_next ds i hil, ← hx]; rfl)
        clear hcell hbb hil hx
        go_wp2
        go_loopg [3, 5, 6] 6 (fun m st gt kt wi => ∃ (k g : Nat) (sb : ByteArray), 6 - k = m ∧ k ≤ 6 ∧ g < 10 ^ (6 - k) ∧ kt = .int .i64 k ∧ gt = .int .i64 g ∧ st = .string sb ∧ sb.size ≤ 6 * i + k ∧ Hid (Lib.decDigits N = preD (g + 10 ^ (6 - k) * Dig.val G6 (ds.drop (i + 1))) ++ sb.data.toList) ∧ Hid (Ext w wi))
        case atStart => exact ⟨0, x, sb, rfl, by omega, by simpa using hxb, rfl, rfl, rfl, hsz, Lib.hid (by rw [HS.out, NX.out]), EW⟩
        case round =>
          obtain ⟨k, g, sb2, rfl, hk, hg, rfl, rfl, rfl, hsz2, HS2, EW2⟩ := hrel
          have hVp : i < n - 1 → 0 < Dig.val G6 (ds.drop (i + 1)) := fun h => drop_pos DS.out.2.1 (by rw [DS.out.1]; omega)
          have VP := Lib.hid (hVp)
          clear hVp
          by_cases hk6 : k < 6
          · by_cases hi1 : i < n - 1
            · have d1 : decide ((i : Int) < (n : Int) - 1) = true := by simp; omega
              have HM := Lib.hid (show 0 < g + 10 ^ (6 - k) * Dig.val G6 (ds.drop (i + 1)) from by
                have h1 := VP.out hi1
                have h2 : 0 < 10 ^ (6 - k) := Nat.pow_pos (by decide)
                have := Nat.mul_pos h2 h1
                omega)
              have hcv := conv_one wr g
              obtain ⟨dg, hdg⟩ : ∃ dg : UInt8, dg = UInt8.ofNat (48 + g % 10) := ⟨_, rfl⟩
              rw [← hdg] at hcv
              have hgm : (g : Int) % 10 < 10 := Int.emod_lt_of_pos _ (by decide)
              have hg10 : g < 1000000 := Nat.lt_of_lt_of_le hg (Nat.le_trans (Nat.pow_le_pow_right (by decide) (show 6 - k ≤ 6 by omega)) (by decide))
              have hnx := text_next hk6 HM.out HS2.out
              rw [← hdg] at hnx
              have HN := Lib.hid hnx
              clear hnx hdg
              have hgd := Lib.hid (show g / 10 < 10 ^ (6 - (k + 1)) from by
                obtain ⟨e, he⟩ : ∃ e, 6 - k = e + 1 := ⟨5 - k, by omega⟩
                rw [he, Nat.pow_succ] at hg
                rw [show 6 - (k + 1) = e by omega]
                omega)
              clear hg
              go_wp2
              go_roundg (6 - (k + 1))
              case measure => omega
              case rel => exact ⟨k + 1, g / 10, ⟨#[dg]⟩ ++ sb2, rfl, by omega, hgd.out, by go_num, by go_num, rfl, by rw [ByteArray.size_append, show (⟨#[dg]⟩ : ByteArray).size = 1 from rfl]; omega, Lib.hid (by rw [HN.out]; simp), Lib.hid (EW2.out.alloc _)⟩
            · have d1 : decide ((i : Int) < (n : Int) - 1) = false := by simp; omega
              by_cases hg0 : 0 < g
              · have d3 : decide ((g : Int) > 0) = true := by simp; omega
                have HM := Lib.hid (show 0 < g + 10 ^ (6 - k) * Dig.val G6 (ds.drop (i + 1)) from by omega)
                have hcv := conv_one wr g
                obtain ⟨dg, hdg⟩ : ∃ dg : UInt8, dg = UInt8.ofNat (48 + g % 10) := ⟨_, rfl⟩
                rw [← hdg] at hcv
                have hgm : (g : Int) % 10 < 10 := Int.emod_lt_of_pos _ (by decide)
                have hg10 : g < 1000000 := Nat.lt_of_lt_of_le hg (Nat.le_trans (Nat.pow_le_pow_right (by decide) (show 6 - k ≤ 6 by omega)) (by decide))
                have hnx := text_next hk6 HM.out HS2.out
                rw [← hdg] at hnx
                have HN := Lib.hid hnx
                clear hnx hdg
                have hgd := Lib.hid (show g / 10 < 10 ^ (6 - (k + 1)) from by
                  obtain ⟨e, he⟩ : ∃ e, 6 - k = e + 1 := ⟨5 - k, by omega⟩
                  rw [he, Nat.pow_succ] at hg
                  rw [show 6 - (k + 1) = e by omega]
                  omega)
                clear hg
                go_wp2
                go_roundg (6 - (k + 1))
                case measure => omega
                case rel => exact ⟨k + 1, g / 10, ⟨#[dg]⟩ ++ sb2, rfl, by omega, hgd.out, by go_num, by go_num, rfl, by rw [ByteArray.size_append, show (⟨#[dg]⟩ : ByteArray).size = 1 from rfl]; omega, Lib.hid (by rw [HN.out]; simp), Lib.hid (EW2.out.alloc _)⟩
              · obtain rfl : g = 0 := by omega
                have HF := Lib.hid (show Lib.decDigits N = preD (Dig.val G6 (ds.drop (i + 1))) ++ sb2.data.toList from by
                  have hd : Dig.val G6 (ds.drop (i + 1)) = 0 := by rw [List.drop_of_length_le (by rw [DS.out.1]; omega)]; rfl
                  rw [HS2.out, hd, Nat.mul_zero])
                go_wp2
                go_roundg (n - (i + 1))
                case measure => omega
                case rel => exact ⟨i + 1, sb2, rfl, by omega, by go_num, rfl, by omega, HF, EW2⟩
          · obtain rfl : k = 6 := by omega
            obtain rfl : g = 0 := by simpa using hg
            have HF := Lib.hid (show Lib.decDigits N = preD (Dig.val G6 (ds.drop (i + 1))) ++ sb2.data.toList from by
              rw [HS2.out]; simp)
            clear hg
            go_wp2
            go_roundg (n - (i + 1))
            case measure => omega
            case rel => exact ⟨i + 1, sb2, rfl, by omega, by go_num, rfl, by omega, HF, EW2⟩
      · obtain rfl : i = n := by omega
        have HF := Lib.hid (show sb = ⟨(Lib.decDigits N).toArray⟩ from by
          have h1 := HS.out
          rw [List.drop_of_length_le (by rw [DS.out.1]; omega)] at h1
          have h2 : Lib.decDigits N = sb.data.toList := by rw [h1]; rfl
          rw [h2])
        go_wp2
        go_ret
        exact ⟨by rw [← HF.out]; rfl, EW.out⟩
end Go.Proofs.YtekiomanidimnaaGreatDoor
