/- waypointlaw42.awake, waypointlaw42.small. -/
import Derived.Test.YtjmkcckbbgpkeaaGreatDoorMK
import Derived.Test.YtjmkcckbbgpkeaaGreatDoorMJ
set_option linter.unusedVariables false
set_option linter.unusedSimpArgs false

namespace Go.Proofs.YtjmkcckbbgpkeaaGreatDoor
open Go.RowKit
theorem ring_ch1 : chP ringT [] (ringQ 1) 0 2 = ([0, 2], 0) := by decide +kernel
theorem ring_ch2 : chP ringT [] (ringQ 2) 0 2 = ([7, 5], 0) := by decide +kernel
theorem ring_sz (k : Int) (h : k = 1 ∨ k = 2) : ∀ q ∈ ringQ k, SzQ q 1 := by
  intro q hq
  unfold ringQ at hq
  rcases List.mem_cons.1 hq with rfl | hq
  · rcases h with rfl | rfl <;> (unfold SzQ; decide +kernel)
  · rw [List.eq_of_mem_replicate hq]; unfold SzQ; decide +kernel
theorem one_text : ratText 1 = [49] := by
  unfold ratText
  rw [show (1 : Rat).num = 1 from rfl, show (1 : Rat).den = 1 from rfl]
  simp [Lib.decDigits]
theorem ring_cheap (k : Int) (hk : k = 1 ∨ k = 2) (l : List Nat) (hl : chP ringT [] (ringQ k) 0 2 = (l, 0)) (AL : Option Addr) (cl : Nat) (PP : Option Addr) (cp : Nat) (w : World) (ht : TopR w ringT none 0 AL cl) (hq : QL w PP (ringQ k)) :
    Calls Tryz.prog 10 #[.agg #[.int .i64 4, .slice none 0 0, .slice AL 4 cl], .slice none 0 0, .slice PP 8 cp, .int .i64 0, .int .i64 2] w (ChPost w (ringQ k) (l, 0)) := by
  have := cheapest_ok ringT none 0 AL cl none 0 [] PP cp (ringQ k) 1 0 2 w ht (Rd.nil _ _) (by decide) (by decide) hq (by show 8 ≤ 1000000; decide) (by decide) (by decide) (ring_sz k hk)
  rw [hl] at this
  exact this
theorem text_one (neg : Bool) (A : Option Addr) (n c : Nat) (A' : Option Addr) (n' c' : Nat) (q : Rat) (hq : q = 1) (w : World) (h : RatR w neg A n c A' n' c' q) (ht : Tab w) :
    Calls Tryz.prog 16 #[.agg #[.bool neg, .slice A n c, .slice A' n' c']] w fun e w' => e = .returned (.string ⟨#[49]⟩) ∧ Ext w w' := by
  subst hq
  obtain ⟨h1, h2⟩ := h.lens (k := 1) (by unfold SzQ; decide +kernel)
  have := ratText_any neg A n c A' n' c' 1 w h (by omega) (by omega) ht
  rw [one_text] at this
  exact this
set_option maxRecDepth 100000 in
set_option maxHeartbeats 4000000 in
theorem awake_ok (w : World) (ht : Tab w) :
    Calls Tryz.prog 4 #[] w fun e w' => e = .returned (.bool true) ∧ Ext w w' := by
  have HT := Lib.hid (ht)
  clear ht
  go_enter Tryz.func4, Tryz.ntmps4
  go_wp2_with fail
  refine (ring_ok 1 _ (.inl rfl)).mono ?_
  rintro e w1 ⟨AL, cl, PP, cp, rfl, T1, Q1, X1⟩
  have B1 := Lib.hid (Blk.new w1 25 #[.int .i64 4, .slice none 0 0, .slice AL 4 cl])
  have X1' := Lib.hid ((Ext.refl w1).alloc (.cells #[.int .i64 4, .slice none 0 0, .slice AL 4 cl] 25))
  have H1 := Lib.hid (And.intro (T1.keep X1'.out) (And.intro (Q1.keep X1'.out) (X1.tr X1'.out)))
  clear T1 Q1 X1
  go_wp2_with fail
  refine (ring_ok 2 _ (.inr rfl)).mono ?_
  rintro e w2 ⟨AL2, cl2, PP2, cp2, rfl, T2, Q2, X2⟩
  have X2' := Lib.hid ((Ext.refl w2).alloc (.cells #[.int .i64 4, .slice none 0 0, .slice AL2 4 cl2] 25))
  have X2'' := Lib.hid (X2.tr X2'.out)
  have B1 := Lib.hid (B1.out.keep X2''.out)
  have B2 := Lib.hid (Blk.new w2 25 #[.int .i64 4, .slice none 0 0, .slice AL2 4 cl2])
  have H1 := Lib.hid (And.intro (H1.out.1.keep X2''.out) (And.intro (H1.out.2.1.keep X2''.out) (H1.out.2.2.tr X2''.out)))
  have H2 := Lib.hid (And.intro (T2.keep X2'.out) (Q2.keep X2'.out))
  obtain ⟨⟨i0, i1, i2⟩, _⟩ := B1.out.three
  clear T2 Q2 X2 X2' X2'' X1'
  go_wp2_with fail
  refine (ring_cheap 1 (.inl rfl) [0, 2] ring_ch1 AL cl PP cp _ H1.out.1 H1.out.2.1).mono ?_
  rintro e w3 ⟨A3, c3, neg3, AN3, n3, cn3, AD3, d3, cd3, rfl, hc3, hr3, hq3, X3⟩
  clear i0 i1 i2
  have X3' := Lib.hid ((Ext.refl w3).alloc (.cells #[.bool neg3, .slice AN3 n3 cn3, .slice AD3 d3 cd3] 38))
  have X3'' := Lib.hid (X3.tr X3'.out)
  have B2 := Lib.hid (B2.out.keep X3''.out)
  have B3 := Lib.hid (Blk.new w3 38 #[.bool neg3, .slice AN3 n3 cn3, .slice AD3 d3 cd3])
  have H2 := Lib.hid (And.intro (H2.out.1.keep X3''.out) (H2.out.2.keep X3''.out))
  have E3 := Lib.hid (H1.out.2.2.tr X3''.out)
  have R3 := Lib.hid (And.intro hc3 (And.intro (hr3.keep X3'.out) (hq3.keep X3'.out)))
  obtain ⟨⟨i0, i1, i2⟩, _⟩ := B2.out.three
  clear hc3 hr3 hq3 X3 X3' X3'' H1 B1
  go_wp2_with fail
  refine (ring_cheap 2 (.inr rfl) [7, 5] ring_ch2 AL2 cl2 PP2 cp2 _ H2.out.1 H2.out.2).mono ?_
  rintro e w4 ⟨A4, c4, neg4, AN4, n4, cn4, AD4, d4, cd4, rfl, hc4, hr4, hq4, X4⟩
  clear i0 i1 i2
  have X4' := Lib.hid ((Ext.refl w4).alloc (.cells #[.bool neg4, .slice AN4 n4 cn4, .slice AD4 d4 cd4] 38))
  have X4'' := Lib.hid (X4.tr X4'.out)
  have B3 := Lib.hid (B3.out.keep X4''.out)
  have B4 := Lib.hid (Blk.new w4 38 #[.bool neg4, .slice AN4 n4 cn4, .slice AD4 d4 cd4])
  have E4 := Lib.hid (E3.out.tr X4''.out)
  have R3 := Lib.hid (And.intro R3.out.1 (And.intro (R3.out.2.1.keep X4''.out) (R3.out.2.2.keep X4''.out)))
  have R4 := Lib.hid (And.intro hc4 (And.intro (hr4.keep X4'.out) (hq4.keep X4'.out)))
  obtain ⟨⟨i0, i1, i2⟩, _⟩ := B3.out.three
  clear hc4 hr4 hq4 X4 X4' X4'' H2 B2 E3
  go_wp2_with fail
  refine (text_one neg3 AN3 n3 cn3 AD3 d3 cd3 _ ring_pr1 _ R3.out.2.2 (HT.out.keep E4.out)).mono ?_
  rintro e w5 ⟨rfl, X5⟩
  clear i0 i1 i2
  have B4 := Lib.hid (B4.out.keep X5)
  have E5 := Lib.hid (E4.out.tr X5)
  have R3 := Lib.hid (And.intro R3.out.1 (R3.out.2.1.keep X5))
  have R4 := Lib.hid (And.intro R4.out.1 (And.intro (R4.out.2.1.keep X5) (R4.out.2.2.keep X5)))
  obtain ⟨⟨i0, i1, i2⟩, _⟩ := B4.out.three
  clear X5 E4 B3
  go_wp2_with fail
  refine (text_one neg4 AN4 n4 cn4 AD4 d4 cd4 _ ring_pr2 _ R4.out.2.2 (HT.out.keep E5.out)).mono ?_
  rintro e w6 ⟨rfl, X6⟩
  clear i0 i1 i2
  have E6 := Lib.hid (E5.out.tr X6)
  have X6' := Lib.hid ((Ext.refl w6).alloc (.cells #[.int .i64 0, .int .i64 2] 3))
  have R3 := Lib.hid (And.intro R3.out.1 ((R3.out.2.keep X6).keep X6'.out))
  have R4 := Lib.hid (And.intro R4.out.1 ((R4.out.2.1.keep X6).keep X6'.out))
  have R6 := Lib.hid (Rd.new w6 3 #[.int .i64 0, .int .i64 2] (xs := ints [0, 2]) rfl rfl)
  clear X6 E5 B4
  go_wp2_with fail
  refine (sameInts_ok A3 (some ⟨w6.heap.size, 0, none⟩) c3 2 [0, 2] [0, 2] _ R3.out.2.rd R6.out R3.out.1 (by decide) (by decide) (by decide)).mono ?_
  rintro e w7 ⟨rfl, X7⟩
  have E7 := Lib.hid ((E6.out.tr X6'.out).tr X7)
  have X7' := Lib.hid ((Ext.refl w7).alloc (.cells #[.int .i64 7, .int .i64 5] 3))
  have R4 := Lib.hid (And.intro R4.out.1 ((R4.out.2.keep X7).keep X7'.out))
  have R7 := Lib.hid (Rd.new w7 3 #[.int .i64 7, .int .i64 5] (xs := ints [7, 5]) rfl rfl)
  have T1 : decide (([0, 2] : List Nat) = [0, 2]) = true := by decide
  rw [T1]
  clear T1
  clear X7 E6 X6' R3 R6
  go_wp2_with fail
  refine (sameInts_ok A4 (some ⟨w7.heap.size, 0, none⟩) c4 2 [7, 5] [7, 5] _ R4.out.2.rd R7.out R4.out.1 (by decide) (by decide) (by decide)).mono ?_
  rintro e w8 ⟨rfl, X8⟩
  rw [show decide (([7, 5] : List Nat) = [7, 5]) = true from by decide]
  have E8 := Lib.hid ((E7.out.tr X7'.out).tr X8)
  clear X8 E7
  go_wp2
  go_ret
  exact ⟨rfl, E8.out⟩
def smallP (t : Tp) (nd np : Nat) : Bool := decide (t.links.length ≤ 11) && decide (t.over.length ≤ 20) && decide (nd ≤ 40) && decide (np ≤ 40) && (!validP t || decide (t.nodes ≤ 8))
set_option maxRecDepth 100000 in
set_option maxHeartbeats 4000000 in
theorem small_ok (t : Tp) (AO : Option Addr) (co : Nat) (AL : Option Addr) (cl : Nat) (AD : Option Addr) (nd cd : Nat) (AF : Option Addr) (np cf : Nat) (s d : Int) (w : World) (ht : t.links.length ≤ 11 → t.over.length ≤ 20 → TopR w t AO co AL cl) :
    Calls Tryz.prog 5 #[.agg #[.int .i64 t.nodes, .slice AO t.over.length co, .slice AL t.links.length cl], .agg #[.slice AD nd cd, .slice AF np cf, .int .i64 s, .int .i64 d]] w fun e w' => e = .returned (.bool (smallP t nd np)) ∧ Ext w w' := by
  obtain ⟨b0, b1, e0⟩ := boxes2 w #[.int .i64 t.nodes, .slice AO t.over.length co, .slice AL t.links.length cl] 25 #[.slice AD nd cd, .slice AF np cf, .int .i64 s, .int .i64 d] 28
  obtain ⟨⟨i0, i1, i2⟩, _⟩ := b0.three
  have j0 := b1.cell 0
  have j1 := b1.cell 1
  have HT := Lib.hid (ht)
  have E0 := Lib.hid (e0)
  have B0 := Lib.hid (b0)
  clear ht e0 b0 b1
  simp at j0 j1
  generalize hR : smallP t nd np = R
  have HR := Lib.hid (hR)
  clear hR
  go_enter Tryz.func5, Tryz.ntmps5
  by_cases h1 : t.links.length ≤ 11
  case neg =>
    obtain rfl : R = false := by rw [← HR.out]; simp [smallP, h1]
    have d1 : decide ((t.links.length : Int) ≤ 11) = false := by simp; omega
    go_wp2
    go_ret
    exact ⟨rfl, E0.out⟩
  case pos =>
    by_cases h2 : t.over.length ≤ 20
    case neg =>
      obtain rfl : R = false := by rw [← HR.out]; simp [smallP, h2]
      have d2 : decide ((t.over.length : Int) ≤ 20) = false := by simp; omega
      go_wp2
      go_ret
      exact ⟨rfl, E0.out⟩
    case pos =>
      by_cases h3 : nd ≤ 40
      case neg =>
        obtain rfl : R = false := by rw [← HR.out]; simp [smallP, h3]
        have d3 : decide ((nd : Int) ≤ 40) = false := by simp; omega
        go_wp2
        go_ret
        exact ⟨rfl, E0.out⟩
      case pos =>
        by_cases h4 : np ≤ 40
        case neg =>
          obtain rfl : R = false := by rw [← HR.out]; simp [smallP, h4]
          have d4 : decide ((np : Int) ≤ 40) = false := by simp; omega
          go_wp2
          go_ret
          exact ⟨rfl, E0.out⟩
        case pos =>
          have hT := HT.out h1 h2
          go_wp2_with fail
          refine (rValid_any t AO co AL cl _ (hT.keep E0.out)).mono ?_
          rintro e w1 ⟨rfl, hx1⟩
          obtain ⟨⟨k0, _, _⟩, _⟩ := (B0.out.keep hx1).three
          have E1 := Lib.hid (E0.out.tr hx1)
          clear hx1 hT i0 i1 i2 j0 j1
          cases hvv : validP t
          case false =>
            obtain rfl : R = true := by rw [← HR.out]; simp [smallP, h1, h2, h3, h4, hvv]
            go_wp2
            go_ret
            exact ⟨rfl, E1.out⟩
          case true =>
            by_cases h5 : t.nodes ≤ 8
            · obtain rfl : R = true := by rw [← HR.out]; simp [smallP, h1, h2, h3, h4, hvv, h5]
              go_wp2
              go_ret
              exact ⟨rfl, E1.out⟩
            · obtain rfl : R = false := by rw [← HR.out]; simp [smallP, h1, h2, h3, h4, hvv, h5]
              have d5 : decide (t.nodes ≤ 8) = false := by simp; omega
              go_wp2
              go_ret
              exact ⟨rfl, E1.out⟩
end Go.Proofs.YtjmkcckbbgpkeaaGreatDoor
