/- waypointref01: carried, times, Uint64, Cmp. -/
import Derived.Test.YtekiomanidimnaaGreatDoorGrpA
set_option linter.unusedVariables false
set_option linter.unusedSimpArgs false

namespace Go.Proofs.YtekiomanidimnaaGreatDoor
open Go.RowKit
theorem val_take_next (xs : List Nat) (i : Nat) : Dig.val G6 (xs.take (i + 1)) = Dig.val G6 (xs.take i) + G6 ^ i * xs[i]?.getD 0 := by
  rcases Nat.lt_or_ge i xs.length with h | h
  · rw [Dig.val_take_succ' _ _ _ h]; simp [List.getD]
  · rw [List.take_of_length_le (by omega), List.take_of_length_le h, List.getElem?_eq_none h]; simp
theorem step_val {V D C x P : Nat} (h : V = D + P * C) : V + P * x = (D + P * ((C + x) % 1000000)) + P * G6 * ((C + x) / 1000000) := by
  have := Nat.div_add_mod (C + x) 1000000
  rw [h, G6_eq, Nat.mul_assoc, Nat.add_assoc, Nat.add_assoc, ← Nat.mul_add, ← Nat.mul_add]
  congr 2
  omega
theorem without_ok' (A : Option Addr) (n c : Nat) (ds : List Nat) (hn : ds.length = n) (w : World) (hr : Rd w A (ints ds)) (hc : n ≤ c) (hlt : ∀ d ∈ ds, d < G6) (hl : n ≤ 1073741824) :
    Calls Tryz.prog 160 #[.slice A n c] w (GrpPost w (Dig.val G6 ds)) := by
  subst hn
  exact without_ok A c ds w hr hc hlt hl
/-- How far the carry has gone. -/
def carSt (n i C : Nat) : Prop := (i ≤ n ∧ C ≤ 5000000000000) ∨ (i = n + 1 ∧ C ≤ 5000000) ∨ (i = n + 2 ∧ C ≤ 5) ∨ (i = n + 3 ∧ C = 0)
set_option maxRecDepth 100000 in
set_option maxHeartbeats 4000000 in
theorem carried_ok (A : Option Addr) (c : Nat) (xs : List Nat) (w : World) (hr : Rd w A (ints xs)) (hc : xs.length ≤ c) (hlt : ∀ d ∈ xs, d ≤ 4000000000000000000) (hl : xs.length ≤ 100000000) :
    Calls Tryz.prog 159 #[.slice A xs.length c] w (GrpPost w (Dig.val G6 xs)) := by
  have HR := Lib.hid (hr)
  have HX := Lib.hid (hlt)
  clear hr hlt
  go_enter Tryz.func159, Tryz.ntmps159
  go_wp2
  go_loopg [3, 4, 5] (xs.length + 3) (fun m ot ct it wr => ∃ (i C : Nat) (ds : List Nat) (A : Option Addr) (c : Nat), xs.length + 3 - i = m ∧ it = .int .i64 i ∧ ct = .int .i64 C ∧ ot = .slice A ds.length c ∧ OI wr w.heap.size ot ds ∧ (∀ d ∈ ds, d < G6) ∧ ds.length = i ∧ Dig.val G6 (xs.take i) = Dig.val G6 ds + G6 ^ i * C ∧ carSt xs.length i C ∧ Ext w wr)
  case atStart => exact ⟨0, 0, [], none, 0, rfl, rfl, rfl, rfl, OI.nil _ _, (fun _ h => by cases h), rfl, by simp [Dig.val], by unfold carSt; omega, Ext.refl _⟩
  case round =>
    obtain ⟨i, C, ds, A', c', rfl, rfl, rfl, rfl, hown, hlt, hlen, hval, hst, hx⟩ := hrel
    have OW := Lib.hid (hown)
    have HL := Lib.hid (hlt)
    have HV := Lib.hid (hval)
    have EX := Lib.hid (hx)
    have ST := Lib.hid (hst)
    clear hown hlt hval hx hst
    by_cases h0 : i < xs.length
    · obtain ⟨b, o, rfl, hb, hcell⟩ := HR.out.ints (k := i) h0
      obtain ⟨x, hxi⟩ : ∃ x, x = xs[i]?.getD 0 := ⟨_, rfl⟩
      have hxb : x ≤ 4000000000000000000 := by rw [hxi, List.getElem?_eq_getElem h0]; exact HX.out _ (List.getElem_mem h0)
      have hck := EX.out.cell (p := ⟨b, o + i, none⟩) hb
      rw [hcell i h0, ← hxi] at hck
      have HXI := Lib.hid (hxi)
      have hS : (C : Int) + (x : Int) ≤ 4500000000000000000 := by have := ST.out; unfold carSt at this; omega
      have ST2 := Lib.hid (show carSt xs.length (i + 1) ((C + x) / 1000000) by have := ST.out; unfold carSt at this ⊢; omega)
      clear hxi hcell hxb
      go_wp2_with (at_builtin; go_must (refine wpList_push wr rfl (.tmp 26) (.tmp 29) rfl w.heap.size (.slice A' ds.length c') ds rfl OW.out _ ((C + x) % 1000000) ?c0 rfl ?c1 ?c2 ?_))
      case c0 => go_num
      case c1 => omega
      case c2 => exact EX.out.size
      intro v2 w2 hown2 hb2 A2 c2 e2
      subst e2
      have OW2 := Lib.hid hown2
      have EX2 := Lib.hid (EX.out.tr' hb2)
      have V2 := Lib.hid (show Dig.val G6 (xs.take (i + 1)) = Dig.val G6 (ds ++ [(C + x) % 1000000]) + G6 ^ (i + 1) * ((C + x) / 1000000) by
        rw [val_take_next, ← HXI.out, Dig.val_snoc, hlen, Nat.pow_succ]
        exact step_val HV.out)
      have L2 := Lib.hid (show ∀ d ∈ ds ++ [(C + x) % 1000000], d < G6 from fun d hd => by
        rcases List.mem_append.1 hd with h | h
        · exact HL.out d h
        · simp at h; subst h; exact Nat.mod_lt _ (by decide))
      clear hown2 hb2
      go_wp2
      go_roundg (xs.length + 3 - (i + 1))
      case measure => omega
      case rel => exact ⟨i + 1, (C + x) / 1000000, ds ++ [(C + x) % 1000000], A2, c2, rfl, by go_num, by go_num, by rw [List.length_append, hlen]; rfl, OW2.out, L2.out, by rw [List.length_append, hlen]; rfl, V2.out, ST2.out, EX2.out⟩
    · by_cases h1 : 0 < C
      · obtain ⟨x, hxi⟩ : ∃ x, x = xs[i]?.getD 0 := ⟨_, rfl⟩
        obtain rfl : x = 0 := by rw [hxi, List.getElem?_eq_none (by omega)]; rfl
        have HXI := Lib.hid (hxi)
        have hS : (C : Int) ≤ 4500000000000000000 := by have := ST.out; unfold carSt at this; omega
        have ST2 := Lib.hid (show carSt xs.length (i + 1) (C / 1000000) by have := ST.out; unfold carSt at this ⊢; omega)
        have hi3 : i < xs.length + 3 := by have := ST.out; unfold carSt at this; omega
        clear hxi
        have d1 : decide ((i : Int) < (xs.length : Int)) = false := by simp; omega
        have d2 : decide ((C : Int) > 0) = true := by simp; omega
        go_wp2_with (at_builtin; go_must (refine wpList_push wr rfl (.tmp 26) (.tmp 29) rfl w.heap.size (.slice A' ds.length c') ds rfl OW.out _ (C % 1000000) ?d0 rfl ?d1 ?d2 ?_))
        case d0 => go_num
        case d1 => omega
        case d2 => exact EX.out.size
        intro v2 w2 hown2 hb2 A2 c2 e2
        subst e2
        have OW2 := Lib.hid hown2
        have EX2 := Lib.hid (EX.out.tr' hb2)
        have V2 := Lib.hid (show Dig.val G6 (xs.take (i + 1)) = Dig.val G6 (ds ++ [C % 1000000]) + G6 ^ (i + 1) * (C / 1000000) by
          rw [val_take_next, ← HXI.out, Dig.val_snoc, hlen, Nat.pow_succ]
          exact step_val (x := 0) HV.out)
        have L2 := Lib.hid (show ∀ d ∈ ds ++ [C % 1000000], d < G6 from fun d hd => by
          rcases List.mem_append.1 hd with h | h
          · exact HL.out d h
          · simp at h; subst h; exact Nat.mod_lt _ (by decide))
        clear hown2 hb2
        go_wp2
        go_roundg (xs.length + 3 - (i + 1))
        case measure => omega
        case rel => exact ⟨i + 1, C / 1000000, ds ++ [C % 1000000], A2, c2, rfl, by go_num, by go_num, by rw [List.length_append, hlen]; rfl, OW2.out, L2.out, by rw [List.length_append, hlen]; rfl, V2.out, ST2.out, EX2.out⟩
      · obtain rfl : C = 0 := by omega
        have hi3 : i ≤ xs.length + 3 := by have := ST.out; unfold carSt at this; omega
        have d1 : decide ((i : Int) < (xs.length : Int)) = false := by simp; omega
        obtain ⟨A2, c2, e, hc2, hr2⟩ := OW.out.rdT
        injection e with e1 e2 e3
        subst e1 e3
        have R := Lib.hid (hr2.rd)
        clear hr2
        go_wp2_with fail
        rw [hlen] at hc2
        refine (without_ok' A' i c' ds hlen _ R.out hc2 HL.out (by omega)).mono ?_
        rintro e w1 ⟨A1, n1, c1, rfl, hR, hx1, fr⟩
        have hv : Dig.val G6 ds = Dig.val G6 xs := by have := HV.out; rw [Nat.mul_zero, Nat.add_zero, List.take_of_length_le (by omega)] at this; exact this.symm
        rw [hv] at hR
        have F := Lib.hid (And.intro hR (And.intro (EX.out.tr hx1) (fun ad h => Nat.le_trans EX.out.size (fr ad h))))
        clear hR hx1 hv fr
        go_wp2
        go_ret
        exact ⟨_, _, _, rfl, F.out.1, F.out.2.1, F.out.2.2⟩
theorem carried_ok' (A : Option Addr) (n c : Nat) (xs : List Nat) (hn : xs.length = n) (w : World) (hr : Rd w A (ints xs)) (hc : n ≤ c) (hlt : ∀ d ∈ xs, d ≤ 4000000000000000000) (hl : n ≤ 100000000) :
    Calls Tryz.prog 159 #[.slice A n c] w (GrpPost w (Dig.val G6 xs)) := by
  subst hn
  exact carried_ok A c xs w hr hc hlt hl
theorem val_mul (m : Nat) (ds : List Nat) : Dig.val G6 (ds.map (· * m)) = Dig.val G6 ds * m := by
  induction ds with
  | nil => simp [Dig.val]
  | cons d ds ih => rw [List.map_cons, Dig.val_cons, Dig.val_cons, ih, Nat.add_mul, Nat.mul_assoc]
set_option maxRecDepth 100000 in
set_option maxHeartbeats 4000000 in
theorem times_ok (A : Option Addr) (n c N m : Nat) (w : World) (h : GrpR w A n c N) (hn : n ≤ 10000000) (hm : m ≤ 4294967296) :
    Calls Tryz.prog 165 #[.slice A n c, .int .i64 m] w (GrpPost w (N * m)) := by
  obtain ⟨ds, hdl, hc, hcan, rfl, hr⟩ := h
  have HR := Lib.hid (hr.rd)
  have HD := Lib.hid (hcan.lt)
  have HDL := Lib.hid (hdl)
  clear hr hcan hdl
  go_enter Tryz.func165, Tryz.ntmps165
  go_wp2
  go_loopg [5, 6] n (fun k ot it wr => ∃ (i : Nat) (l : List Nat) (A : Option Addr) (c : Nat), n - i = k ∧ i ≤ n ∧ it = .int .i64 i ∧ ot = .slice A i c ∧ l.length = i ∧ l = (ds.take i).map (· * m) ∧ OI wr w.heap.size (.slice A i c) l ∧ Ext w wr)
  case atStart => exact ⟨0, [], none, 0, rfl, Nat.zero_le _, rfl, rfl, rfl, by simp, OI.nil _ _, Ext.refl _⟩
  case round =>
    obtain ⟨i, l, A', c', rfl, hi, rfl, rfl, hlen, hl, hown, hx⟩ := hrel
    have OW := Lib.hid (hown)
    have HL := Lib.hid (hl)
    have EX := Lib.hid (hx)
    clear hown hl hx
    by_cases h0 : i < n
    · obtain ⟨b, o, rfl, hb, hcell⟩ := HR.out.ints (k := i) (by rw [HDL.out]; exact h0)
      obtain ⟨x, hxi⟩ : ∃ x, x = ds[i]?.getD 0 := ⟨_, rfl⟩
      have hget : ds[i]? = some x := by rw [hxi, List.getElem?_eq_getElem (by rw [HDL.out]; exact h0)]; rfl
      have hxb : x < 1000000 := HD.out x (List.mem_of_getElem? hget)
      have hck := EX.out.cell (p := ⟨b, o + i, none⟩) hb
      rw [hcell i (by rw [HDL.out]; exact h0), ← hxi] at hck
      have hS : (x : Int) * (m : Int) ≤ 4294967296000000 := by
        have h1 : x * m ≤ 1000000 * 4294967296 := Nat.mul_le_mul (by omega) hm
        have h2 : ((x * m : Nat) : Int) = (x : Int) * (m : Int) := by simp
        omega
      have hS0 : 0 ≤ (x : Int) * (m : Int) := by
        have h2 : ((x * m : Nat) : Int) = (x : Int) * (m : Int) := by simp
        omega
      have L2 := Lib.hid (show l ++ [x * m] = (ds.take (i + 1)).map (· * m) by
        rw [List.take_add_one, hget, HL.out]; simp)
      clear hxi hcell hget
      go_wp2_with (at_builtin; go_must (refine wpList_push wr rfl (.tmp 13) (.tmp 20) rfl w.heap.size (.slice A' i c') l rfl OW.out _ (x * m) ?c0 rfl ?c1 ?c2 ?_))
      case c0 => rw [Int.natCast_mul]
      case c1 => omega
      case c2 => exact EX.out.size
      intro v2 w2 hown2 hb2 A2 c2 e2
      subst e2
      have OW2 := Lib.hid hown2
      have EX2 := Lib.hid (EX.out.tr' hb2)
      clear hown2 hb2
      go_wp2
      go_roundg (n - (i + 1))
      case measure => omega
      case rel => exact ⟨i + 1, l ++ [x * m], A2, c2, rfl, by omega, by go_num, rfl, by rw [List.length_append, hlen]; rfl, L2.out, OW2.out, EX2.out⟩
    · obtain rfl : i = n := by omega
      obtain ⟨A2, c2, e, hc2, hr2⟩ := OW.out.rdT
      injection e with e1 e2 e3
      subst e1 e3
      rw [hlen] at hc2
      have R := Lib.hid (hr2.rd)
      clear hr2 e2
      have hb := Lib.hid (show ∀ d ∈ l, d ≤ 4000000000000000000 from fun d hd => by
        rw [HL.out] at hd
        obtain ⟨x, hx, rfl⟩ := List.mem_map.1 hd
        have h1 := HD.out x (List.mem_of_mem_take hx)
        rw [G6_eq] at h1
        exact Nat.le_trans (Nat.mul_le_mul (Nat.le_of_lt h1) hm) (by decide))
      have hv := Lib.hid (show Dig.val G6 l = Dig.val G6 ds * m by rw [HL.out, List.take_of_length_le (by rw [HDL.out]; omega), val_mul])
      go_wp2_with fail
      refine (carried_ok' A' i c' l hlen _ R.out hc2 hb.out (by omega)).mono ?_
      rintro e w1 ⟨A1, n1, c1, rfl, hR, hx1, fr⟩
      rw [hv.out] at hR
      have F := Lib.hid (And.intro hR (And.intro (EX.out.tr hx1) (fun ad h => Nat.le_trans EX.out.size (fr ad h))))
      clear hR hx1 fr
      go_wp2
      go_ret
      exact ⟨_, _, _, rfl, F.out.1, F.out.2.1, F.out.2.2⟩
end Go.Proofs.YtekiomanidimnaaGreatDoor
