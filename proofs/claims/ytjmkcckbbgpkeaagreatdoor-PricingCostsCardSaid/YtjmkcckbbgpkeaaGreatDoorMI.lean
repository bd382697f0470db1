/- pricing.priced: whether each arc has a price, at least 0. -/
/- cmp.Or, slices.Compare; pricing.compare. -/
/- pricing.first. -/
/- pricing.Cheapest as a plain function on labels; sizes of prices; how labels lie in memory. -/
/- Labels in memory. -/
/- pricing.Cheapest. -/
import Derived.Test.YtjmkcckbbgpkeaaGreatDoorMH
import Derived.Deep.RegionHeld3
import Derived.Test.YtjmkcckbbgpkeaaGreatDoorMC
import Derived.Test.YtjmkcckbbgpkeaaGreatDoorMF
import Derived.Laws.MakeOwn
set_option linter.unusedVariables false
set_option linter.unusedSimpArgs false

namespace Go.Proofs.YtjmkcckbbgpkeaaGreatDoor
open Go.RowKit
/-- The size of a number, in digits. -/
def SzQ (q : Rat) (k : Nat) : Prop := q.num.natAbs < B32 ^ k ∧ q.den < B32 ^ k
/-- A rational number's three cells. -/
def QR (w : World) (cs : List Value) (q : Rat) : Prop :=
  ∃ (neg : Bool) (A : Option Addr) (n c : Nat) (A' : Option Addr) (n' c' : Nat), cs = [.bool neg, .slice A n c, .slice A' n' c'] ∧ RatR w neg A n c A' n' c' q
theorem QR.keep {w w' : World} {cs : List Value} {q : Rat} (h : QR w cs q) (hx : Ext w w') : QR w' cs q := by
  obtain ⟨neg, A, n, c, A', n', c', e, h1⟩ := h
  exact ⟨neg, A, n, c, A', n', c', e, h1.keep hx⟩
theorem NatR.lenOf {w : World} {A : Option Addr} {n c N k : Nat} (h : NatR w A n c N) (hN : N < B32 ^ k) : n ≤ k := by
  obtain ⟨ds, rfl, _, hcan, rfl, _⟩ := h
  exact hcan.len_le B32_gt hN
theorem RatR.lens {w : World} {neg : Bool} {A : Option Addr} {n c : Nat} {A' : Option Addr} {n' c' : Nat} {q : Rat} {k : Nat} (h : RatR w neg A n c A' n' c' q) (hs : SzQ q k) : n ≤ k ∧ n' ≤ k := by
  refine ⟨h.2.1.lenOf hs.1, h.2.2.lenOf ?_⟩
  unfold dk
  split
  · exact Nat.pow_pos B32_pos
  · exact hs.2
theorem flatten_get {m : Nat} : ∀ (css : List (List Value)), (∀ cs ∈ css, cs.length = m) → ∀ (i k : Nat), i < css.length → k < m → css.flatten[i * m + k]? = (css[i]?.getD [])[k]?
  | [], _, i, k, hi, _ => by simp at hi
  | cs :: css, h, 0, k, _, hk => by
    rw [Nat.zero_mul, Nat.zero_add, List.flatten_cons, List.getElem?_append_left (by rw [h cs (by simp)]; exact hk)]
    rfl
  | cs :: css, h, i + 1, k, hi, hk => by
    have hl := h cs (by simp)
    rw [List.flatten_cons, List.getElem?_append_right (by rw [hl, Nat.add_mul, Nat.one_mul]; omega), hl, show (i + 1) * m + k - m = i * m + k by rw [Nat.add_mul, Nat.one_mul]; omega]
    rw [flatten_get css (fun c hc => h c (by simp [hc])) i k (by simpa using hi) hk]
    simp
theorem flatten_length {m : Nat} (css : List (List Value)) (h : ∀ cs ∈ css, cs.length = m) : css.flatten.length = css.length * m := by
  induction css with
  | nil => simp
  | cons a l ih => rw [List.flatten_cons, List.length_append, h a (by simp), ih (fun c hc => h c (by simp [hc])), List.length_cons, Nat.add_mul, Nat.one_mul, Nat.add_comm]
/-- A slice of rational numbers. -/
def QL (w : World) (P : Option Addr) (qs : List Rat) : Prop :=
  ∃ css : List (List Value), css.length = qs.length ∧ (∀ cs ∈ css, cs.length = 3) ∧ Rd w P css.flatten ∧ ∀ (i : Nat) (q : Rat), qs[i]? = some q → ∃ cs, css[i]? = some cs ∧ QR w cs q
theorem QL.keep {w w' : World} {P : Option Addr} {qs : List Rat} (h : QL w P qs) (hx : Ext w w') : QL w' P qs := by
  obtain ⟨css, h1, h2, h3, h4⟩ := h
  refine ⟨css, h1, h2, h3.keep hx, fun i q hq => ?_⟩
  obtain ⟨cs, k1, k2⟩ := h4 i q hq
  exact ⟨cs, k1, k2.keep hx⟩
theorem QL.at_ {w : World} {P : Option Addr} {qs : List Rat} (h : QL w P qs) {i : Nat} {q : Rat} (hq : qs[i]? = some q) :
    ∃ (b o : Nat) (neg : Bool) (A : Option Addr) (n c : Nat) (A' : Option Addr) (n' c' : Nat), P = some ⟨b, o, none⟩ ∧ b < w.heap.size ∧ w.cell? ⟨b, o + i * 3, none⟩ = some (.bool neg) ∧ w.cell? ⟨b, o + i * 3 + 1, none⟩ = some (.slice A n c) ∧ w.cell? ⟨b, o + i * 3 + 2, none⟩ = some (.slice A' n' c') ∧ RatR w neg A n c A' n' c' q := by
  obtain ⟨css, h1, h2, h3, h4⟩ := h
  obtain ⟨cs, k1, neg, A, n, c, A', n', c', rfl, k2⟩ := h4 i q hq
  have hi := (List.getElem?_eq_some_iff.1 hq).1
  have hl := flatten_length css h2
  have key : ∀ k, k < 3 → css.flatten[i * 3 + k]? = ([.bool neg, .slice A n c, .slice A' n' c'] : List Value)[k]? := fun k hk => by
    rw [flatten_get css h2 i k (by omega) hk, k1]; rfl
  obtain ⟨b, o, rfl, hb, hc⟩ := h3.at_ (i := i * 3) (by omega)
  refine ⟨b, o, neg, A, n, c, A', n', c', rfl, hb, ?_, ?_, ?_, k2⟩
  · have := hc (i * 3 + 0) (by omega)
    rw [key 0 (by omega)] at this
    exact this
  · have := hc (i * 3 + 1) (by omega)
    rw [key 1 (by omega)] at this
    exact this
  · have := hc (i * 3 + 2) (by omega)
    rw [key 2 (by omega)] at this
    exact this
set_option maxHeartbeats 1000000 in
theorem negative_any (neg : Bool) (A : Option Addr) (n c : Nat) (A' : Option Addr) (n' c' : Nat) (q : Rat) (w : World) (h : RatR w neg A n c A' n' c' q) :
    Calls Tryz.prog 48 #[.agg #[.bool neg, .slice A n c, .slice A' n' c']] w fun e w' => e = .returned (.bool (decide (sgnI q < 0))) ∧ Ext w w' := by
  obtain ⟨hba, e0⟩ := boxes1 w #[.bool neg, .slice A n c, .slice A' n' c'] 38
  obtain ⟨⟨i0, i1, i2⟩, g0, g1, g2⟩ := hba.three
  have H := Lib.hid h
  clear h
  go_enter Tryz.func48, Tryz.ntmps48
  go_wp2_with fail
  refine (sign_any neg A n c A' n' c' q _ (H.out.keep e0)).mono ?_
  rintro e w1 ⟨rfl, hx1⟩
  have HX := Lib.hid (e0.tr hx1)
  clear hx1
  go_wp2
  go_ret
  exact ⟨rfl, HX.out⟩
def IdxPost (w : World) (qs : List Rat) (e : Ending) (w' : World) : Prop := ∃ r : Int, e = .returned (.int .i64 r) ∧ decide (0 ≤ r) = qs.any (fun q => decide (sgnI q < 0)) ∧ Ext w w'
set_option maxRecDepth 100000 in
set_option maxHeartbeats 2000000 in
theorem indexFunc_any (P : Option Addr) (cp : Nat) (qs : List Rat) (w : World) (h : QL w P qs) (hl : qs.length ≤ 1000000) :
    Calls Tryz.prog 79 #[.slice P qs.length cp, .func (.func 48) #[] #[]] w (IdxPost w qs) := by
  have H := Lib.hid h
  clear h
  go_enter Tryz.func79, Tryz.ntmps79
  go_wp2
  go_loopw [5, 8] (fun _ it wr => ∃ k : Nat, k ≤ qs.length ∧ it = .int .i64 k ∧ (qs.take k).any (fun q => decide (sgnI q < 0)) = false ∧ Ext w wr) (fun _ i _ => qs.length - (intOf i).toNat)
  case atStart => exact ⟨0, Nat.zero_le _, rfl, rfl, Ext.refl _⟩
  case round =>
    obtain ⟨k, hk, rfl, hno, hx⟩ := hrel
    have HNO := Lib.hid hno
    have HX := Lib.hid hx
    clear hno hx
    by_cases hkl : k < qs.length
    · obtain ⟨q, hq⟩ : ∃ q, qs[k]? = some q := ⟨_, List.getElem?_eq_getElem hkl⟩
      obtain ⟨b, o, neg, A, n, c, A', n', c', rfl, hb, i0, i1, i2, hR⟩ := (H.out.keep HX.out).at_ hq
      have R := Lib.hid hR
      have STEP := Lib.hid (show (qs.take (k + 1)).any (fun q => decide (sgnI q < 0)) = decide (sgnI q < 0) by
        rw [List.take_add_one, hq, List.any_append, HNO.out]; simp)
      have ALL := Lib.hid (show decide (sgnI q < 0) = true → qs.any (fun q => decide (sgnI q < 0)) = true from fun e => List.any_eq_true.2 ⟨q, List.mem_of_getElem? hq, e⟩)
      clear hq hR
      go_wp2_with fail
      refine (negative_any neg A n c A' n' c' q _ R.out).mono ?_
      rintro e w1 ⟨rfl, hx1⟩
      have HX1 := Lib.hid (HX.out.tr hx1)
      clear hx1 i0 i1 i2
      cases hs : decide (sgnI q < 0)
      case true =>
        have hall := ALL.out hs
        have HALL := Lib.hid hall
        clear hall hs
        go_wp2
        go_ret
        exact ⟨(k : Int), rfl, by rw [HALL.out]; simp, HX1.out⟩
      case false =>
        have HS := Lib.hid (STEP.out.trans hs)
        clear hs
        go_wp2
        go_roundw
        case rel => exact ⟨k + 1, by omega, by go_num, HS.out, HX1.out⟩
        case measure => simp [intOf]; omega
    · have hke : k = qs.length := by omega
      subst hke
      rw [List.take_of_length_le (Nat.le_refl _)] at HNO
      go_wp2
      go_ret
      exact ⟨-1, rfl, by rw [HNO.out]; rfl, HX.out⟩
set_option maxHeartbeats 1000000 in
theorem containsFunc_any (P : Option Addr) (cp : Nat) (qs : List Rat) (w : World) (h : QL w P qs) (hl : qs.length ≤ 1000000) :
    Calls Tryz.prog 49 #[.slice P qs.length cp, .func (.func 48) #[] #[]] w fun e w' => e = .returned (.bool (qs.any (fun q => decide (sgnI q < 0)))) ∧ Ext w w' := by
  have H := Lib.hid h
  clear h
  generalize hB : qs.any (fun q => decide (sgnI q < 0)) = B
  have HB := Lib.hid hB
  clear hB
  go_enter Tryz.func49, Tryz.ntmps49
  go_wp2_with fail
  refine (indexFunc_any P cp qs _ H.out hl).mono ?_
  rintro e w1 ⟨r, rfl, hr, hx1⟩
  rw [HB.out] at hr
  subst hr
  go_wp2
  go_ret
  exact ⟨rfl, hx1⟩
/-- Each arc has a price, at least 0. -/
def pricedP (t : Tp) (qs : List Rat) : Bool := decide (qs.length = 2 * t.links.length) && !qs.any (fun q => decide (sgnI q < 0))
set_option maxHeartbeats 1000000 in
theorem priced_any (t : Tp) (AO : Option Addr) (co : Nat) (AL : Option Addr) (cl : Nat) (P : Option Addr) (cp : Nat) (qs : List Rat) (w : World) (ht : TopR w t AO co AL cl) (h : QL w P qs) (hl : qs.length ≤ 1000000) :
    Calls Tryz.prog 22 #[.agg #[.int .i64 t.nodes, .slice AO t.over.length co, .slice AL t.links.length cl], .slice P qs.length cp] w fun e w' => e = .returned (.bool (pricedP t qs)) ∧ Ext w w' := by
  obtain ⟨hba, e0⟩ := boxes1 w #[.int .i64 t.nodes, .slice AO t.over.length co, .slice AL t.links.length cl] 25
  obtain ⟨⟨i0, i1, i2⟩, g0, g1, g2⟩ := hba.three
  have H := Lib.hid h
  have HT := Lib.hid ht
  have h3 := ht.ll
  have h4 := ht.cl
  generalize hB : pricedP t qs = B
  have HB := Lib.hid hB
  clear h ht hB
  go_enter Tryz.func22, Tryz.ntmps22
  go_wp2_with fail
  refine (gArcs_any t AO co AL cl _ (HT.out.keep e0)).mono ?_
  rintro e w1 ⟨rfl, hx1⟩
  have HX := Lib.hid (e0.tr hx1)
  clear hx1 i0 i1 i2 g0 g1 g2
  by_cases he : qs.length = 2 * t.links.length
  · have heb : ((qs.length : Int) == 2 * (t.links.length : Int)) = true := by simp; omega
    have hb2 : B = !qs.any (fun q => decide (sgnI q < 0)) := by rw [← HB.out]; unfold pricedP; rw [decide_eq_true he]; rfl
    subst hb2
    clear he HB
    go_wp2_with fail
    refine (containsFunc_any P cp qs _ (H.out.keep HX.out) hl).mono ?_
    rintro e w2 ⟨rfl, hx2⟩
    have HX2 := Lib.hid (HX.out.tr hx2)
    clear hx2
    generalize hZ : qs.any (fun q => decide (sgnI q < 0)) = Z at *
    have HZ := Lib.hid hZ
    clear hZ
    go_wp2
    go_ret
    exact ⟨by rw [HZ.out]; rfl, HX2.out⟩
  · have heb : ((qs.length : Int) == 2 * (t.links.length : Int)) = false := beq_eq_false_iff_ne.2 (by omega)
    have hb2 : B = false := by rw [← HB.out]; unfold pricedP; rw [decide_eq_false he]; rfl
    subst hb2
    clear he HB
    go_wp2
    go_ret
    exact ⟨rfl, HX.out⟩
end Go.Proofs.YtjmkcckbbgpkeaaGreatDoor


namespace Go.Proofs.YtjmkcckbbgpkeaaGreatDoor
open Go.RowKit
/-- The first number that is not 0. -/
def or3 (x y z : Int) : Int := if x ≠ 0 then x else if y ≠ 0 then y else z
/-- The comparison of two lists, number for number. -/
def lexI : List Nat → List Nat → Int
  | [], [] => 0
  | [], _ :: _ => -1
  | _ :: _, [] => 1
  | a :: x, b :: y => if a < b then -1 else if a = b then lexI x y else 1
set_option maxRecDepth 100000 in
set_option maxHeartbeats 1000000 in
theorem cmpOr_any (g : Nat) (x y z : Int) (w : World) (h : Blk w g 3 #[.int .i64 x, .int .i64 y, .int .i64 z]) :
    Calls Tryz.prog 56 #[.slice (some ⟨g, 0, none⟩) 3 3] w fun e w' => e = .returned (.int .i64 (or3 x y z)) ∧ w = w' := by
  obtain ⟨⟨i0, i1, i2⟩, _⟩ := h.three
  have hR : ∃ R, R = or3 x y z := ⟨_, rfl⟩
  obtain ⟨R, hR⟩ := hR
  have HR := Lib.hid hR
  rw [← hR]
  clear h hR
  go_enter Tryz.func56, Tryz.ntmps56
  go_wp2
  go_loop [5, 8] (fun _ it => ∃ k : Nat, k ≤ 3 ∧ it = .int .i64 k ∧ (1 ≤ k → x = 0) ∧ (2 ≤ k → y = 0) ∧ (3 ≤ k → z = 0)) (fun _ i => 3 - (intOf i).toNat)
  case atStart => exact ⟨0, by omega, rfl, by omega, by omega, by omega⟩
  case round =>
    obtain ⟨k, hk, rfl, h1, h2, h3⟩ := hrel
    have H1 := Lib.hid h1
    have H2 := Lib.hid h2
    have H3 := Lib.hid h3
    clear h1 h2 h3
    obtain rfl | rfl | rfl | rfl : k = 0 ∨ k = 1 ∨ k = 2 ∨ k = 3 := by omega
    · by_cases hx : x = 0
      · have hb : (x != 0) = false := by simp [hx]
        have HX := Lib.hid hx
        clear hx
        go_wp2
        go_round
        case rel => exact ⟨1, by omega, rfl, fun _ => HX.out, by omega, by omega⟩
        case measure => simp [intOf]
      · have hb : (x != 0) = true := bne_iff_ne.2 hx
        have HX := Lib.hid (show x = R by rw [HR.out]; unfold or3; rw [if_pos hx])
        go_wp2
        go_ret
        exact ⟨by rw [← HX.out]; rfl, rfl⟩
    · by_cases hx : y = 0
      · have hb : (y != 0) = false := by simp [hx]
        have HX := Lib.hid hx
        clear hx
        go_wp2
        go_round
        case rel => exact ⟨2, by omega, rfl, fun _ => H1.out (by omega), fun _ => HX.out, by omega⟩
        case measure => simp [intOf]
      · have hb : (y != 0) = true := bne_iff_ne.2 hx
        have HX := Lib.hid (show y = R by rw [HR.out]; unfold or3; rw [if_neg (by simpa using H1.out (by omega)), if_pos hx])
        go_wp2
        go_ret
        exact ⟨by rw [← HX.out]; rfl, rfl⟩
    · by_cases hx : z = 0
      · have hb : (z != 0) = false := by simp [hx]
        have HX := Lib.hid hx
        clear hx
        go_wp2
        go_round
        case rel => exact ⟨3, by omega, rfl, fun _ => H1.out (by omega), fun _ => H2.out (by omega), fun _ => HX.out⟩
        case measure => simp [intOf]
      · have hb : (z != 0) = true := bne_iff_ne.2 hx
        have HX := Lib.hid (show z = R by rw [HR.out]; unfold or3; rw [if_neg (by simpa using H1.out (by omega)), if_neg (by simpa using H2.out (by omega))])
        go_wp2
        go_ret
        exact ⟨by rw [← HX.out]; rfl, rfl⟩
    · have HX := Lib.hid (show 0 = R by rw [HR.out]; unfold or3; rw [if_neg (by simpa using H1.out (by omega)), if_neg (by simpa using H2.out (by omega)), H3.out (by omega)])
      go_wp2
      go_ret
      exact ⟨by rw [← HX.out]; rfl, rfl⟩
theorem compareInt_nat (x y : Nat) : Lib.compareInt (x : Int) (y : Int) = cmpI x y := by
  unfold Lib.compareInt cmpI
  split <;> split <;> (try split) <;> omega
theorem cmpInt_any (x y : Nat) (w : World) : Calls Tryz.prog 57 #[.int .i64 x, .int .i64 y] w fun e w' => e = .returned (.int .i64 (cmpI x y)) ∧ w = w' := by
  refine (Tryz.cmp_Compare_int x y w).mono ?_
  rintro e w' ⟨rfl, rfl⟩
  exact ⟨by rw [compareInt_nat], rfl⟩
theorem lexI_drop {l1 l2 : List Nat} {k a b : Nat} (h1 : l1[k]? = some a) (h2 : l2[k]? = some b) : lexI (l1.drop k) (l2.drop k) = if a < b then -1 else if a = b then lexI (l1.drop (k + 1)) (l2.drop (k + 1)) else 1 := by
  obtain ⟨hk1, e1⟩ := List.getElem?_eq_some_iff.1 h1
  obtain ⟨hk2, e2⟩ := List.getElem?_eq_some_iff.1 h2
  rw [List.drop_eq_getElem_cons hk1, List.drop_eq_getElem_cons hk2, lexI, e1, e2]
set_option maxRecDepth 100000 in
set_option maxHeartbeats 2000000 in
theorem slCompare_any (A1 A2 : Option Addr) (c1 c2 : Nat) (l1 l2 : List Nat) (w : World) (hr1 : Rd w A1 (ints l1)) (hr2 : Rd w A2 (ints l2)) (hl1 : l1.length ≤ 1000000) (hl2 : l2.length ≤ 1000000) :
    Calls Tryz.prog 58 #[.slice A1 l1.length c1, .slice A2 l2.length c2] w fun e w' => e = .returned (.int .i64 (lexI l1 l2)) ∧ w = w' := by
  have R1 := Lib.hid hr1
  have R2 := Lib.hid hr2
  obtain ⟨R, hR⟩ : ∃ R, R = lexI l1 l2 := ⟨_, rfl⟩
  have HR := Lib.hid hR
  rw [← hR]
  clear hr1 hr2 hR
  go_enter Tryz.func58, Tryz.ntmps58
  go_wp2
  go_loop [5, 6, 7, 8, 11] (fun _ _ _ _ it => ∃ k : Nat, k ≤ l1.length ∧ k ≤ l2.length ∧ it = .int .i64 k ∧ lexI (l1.drop k) (l2.drop k) = R) (fun _ _ _ _ i => l1.length - (intOf i).toNat)
  case atStart => exact ⟨0, Nat.zero_le _, Nat.zero_le _, rfl, HR.out.symm⟩
  case round =>
    obtain ⟨k, hk1, hk2, rfl, hlex⟩ := hrel
    have HL := Lib.hid hlex
    clear hlex
    by_cases hkl : k < l1.length
    · obtain ⟨a, ha⟩ : ∃ a, l1[k]? = some a := ⟨_, List.getElem?_eq_getElem hkl⟩
      obtain ⟨b, o, rfl, hb, hc1⟩ := R1.out.ints_ hkl
      rw [ha, Option.getD_some] at hc1
      by_cases hk2l : k < l2.length
      · obtain ⟨a2, ha2⟩ : ∃ a, l2[k]? = some a := ⟨_, List.getElem?_eq_getElem hk2l⟩
        obtain ⟨b2, o2, rfl, hb2, hc2⟩ := R2.out.ints_ hk2l
        rw [ha2, Option.getD_some] at hc2
        have hl := HL.out
        rw [lexI_drop ha ha2] at hl
        have HL2 := Lib.hid hl
        clear hl ha ha2
        go_wp2_with fail
        refine (cmpInt_any a a2 _).mono ?_
        rintro e w1 ⟨rfl, rfl⟩
        by_cases hlt : a < a2
        · have hv : cmpI a a2 = -1 := by unfold cmpI; rw [if_pos hlt]
          have HR2 := Lib.hid (show -1 = R by rw [← HL2.out, if_pos hlt])
          rw [hv]
          clear hv
          go_wp2
          go_ret
          exact ⟨by rw [← HR2.out]; rfl, rfl⟩
        · by_cases heq : a = a2
          · have hv : cmpI a a2 = 0 := by unfold cmpI; rw [if_neg hlt, if_pos heq]
            have HR2 := Lib.hid (show lexI (l1.drop (k + 1)) (l2.drop (k + 1)) = R by rw [← HL2.out, if_neg hlt, if_pos heq])
            rw [hv]
            clear hv heq
            go_wp2
            go_round
            case rel => exact ⟨k + 1, by omega, by omega, by go_num, HR2.out⟩
            case measure => simp [intOf]; omega
          · have hv : cmpI a a2 = 1 := by unfold cmpI; rw [if_neg hlt, if_neg heq]
            have HR2 := Lib.hid (show 1 = R by rw [← HL2.out, if_neg hlt, if_neg heq])
            rw [hv]
            clear hv
            go_wp2
            go_ret
            exact ⟨by rw [← HR2.out]; rfl, rfl⟩
      · have HR2 := Lib.hid (show 1 = R by
          rw [← HL.out, List.drop_eq_getElem_cons hkl, List.drop_of_length_le (show l2.length ≤ k by omega)]; rfl)
        clear ha
        go_wp2
        go_ret
        exact ⟨by rw [← HR2.out]; rfl, rfl⟩
    · have hke : k = l1.length := by omega
      subst hke
      by_cases hk2l : l1.length < l2.length
      · have HR2 := Lib.hid (show -1 = R by
          rw [← HL.out, List.drop_of_length_le (Nat.le_refl _), List.drop_eq_getElem_cons hk2l]; rfl)
        go_wp2
        go_ret
        exact ⟨by rw [← HR2.out]; rfl, rfl⟩
      · have HR2 := Lib.hid (show 0 = R by
          rw [← HL.out, List.drop_of_length_le (Nat.le_refl _), List.drop_of_length_le (show l2.length ≤ l1.length by omega)]; rfl)
        go_wp2
        go_ret
        exact ⟨by rw [← HR2.out]; rfl, rfl⟩
/-- The comparison of two labels. -/
def cmpL (p q : Rat) (x y : List Nat) : Int := or3 (cmpQ p q) (cmpI x.length y.length) (lexI x y)
set_option maxRecDepth 100000 in
set_option maxHeartbeats 4000000 in
theorem compare_any (k1 d1 na k2 d2 nb : Bool) (A1 : Option Addr) (n1 c1 : Nat) (A1' : Option Addr) (n1' c1' : Nat) (A2 : Option Addr) (n2 c2 : Nat) (A2' : Option Addr) (n2' c2' : Nat) (AX AY : Option Addr) (cx cy : Nat) (p q : Rat) (x y : List Nat) (w : World)
    (ha : RatR w na A1 n1 c1 A1' n1' c1' p) (hb : RatR w nb A2 n2 c2 A2' n2' c2' q) (l1 : n1 ≤ 268435456) (l1' : n1' ≤ 268435456) (l2 : n2 ≤ 268435456) (l2' : n2' ≤ 268435456) (hx : Rd w AX (ints x)) (hy : Rd w AY (ints y)) (hxl : x.length ≤ 1000000) (hyl : y.length ≤ 1000000) :
    Calls Tryz.prog 30 #[.agg #[.bool k1, .bool d1, .bool na, .slice A1 n1 c1, .slice A1' n1' c1', .slice AX x.length cx], .agg #[.bool k2, .bool d2, .bool nb, .slice A2 n2 c2, .slice A2' n2' c2', .slice AY y.length cy]] w fun e w' => e = .returned (.int .i64 (cmpL p q x y)) ∧ Ext w w' := by
  obtain ⟨hba, hbb, e0⟩ := boxes2 w #[.bool k1, .bool d1, .bool na, .slice A1 n1 c1, .slice A1' n1' c1', .slice AX x.length cx] 68 #[.bool k2, .bool d2, .bool nb, .slice A2 n2 c2, .slice A2' n2' c2', .slice AY y.length cy] 68
  have HA := Lib.hid ha
  have HB := Lib.hid hb
  have HX := Lib.hid hx
  have HY := Lib.hid hy
  obtain ⟨R, hR⟩ : ∃ R, R = cmpL p q x y := ⟨_, rfl⟩
  have HR := Lib.hid hR
  rw [← hR]
  clear ha hb hx hy hR
  generalize hW : (w.alloc (.cells #[.bool k1, .bool d1, .bool na, .slice A1 n1 c1, .slice A1' n1' c1', .slice AX x.length cx] 68)).alloc (.cells #[.bool k2, .bool d2, .bool nb, .slice A2 n2 c2, .slice A2' n2' c2', .slice AY y.length cy] 68) = W at *
  have ca2 := hba.cell 2
  have ca3 := hba.cell 3
  have ca4 := hba.cell 4
  have ca5 := hba.cell 5
  have cb2 := hbb.cell 2
  have cb3 := hbb.cell 3
  have cb4 := hbb.cell 4
  have cb5 := hbb.cell 5
  simp only [List.getElem?_toArray, List.getElem?_cons_zero, List.getElem?_cons_succ] at ca2 ca3 ca4 ca5 cb2 cb3 cb4 cb5
  have BA := Lib.hid hba
  have BB := Lib.hid hbb
  have E0 := Lib.hid e0
  clear hba hbb e0
  go_enter Tryz.func30, Tryz.ntmps30
  go_wp2
  clear hW
  have W0 := Lib.hid (show Ext w W.drew from E0.out.drewN 1)
  have BA : Hid (Blk W.drew _ _ _) := BA.out
  have BB : Hid (Blk W.drew _ _ _) := BB.out
  go_region_held3 (fun w' => w'.cell? ⟨w.heap.size, 2, none⟩ = some (.bool na) ∧ w'.cell? ⟨w.heap.size, 3, none⟩ = some (.slice A1 n1 c1) ∧ w'.cell? ⟨w.heap.size, 4, none⟩ = some (.slice A1' n1' c1') ∧ w'.cell? ⟨w.heap.size, 5, none⟩ = some (.slice AX x.length cx) ∧
      w'.cell? ⟨w.heap.size + 1, 2, none⟩ = some (.bool nb) ∧ w'.cell? ⟨w.heap.size + 1, 3, none⟩ = some (.slice A2 n2 c2) ∧ w'.cell? ⟨w.heap.size + 1, 4, none⟩ = some (.slice A2' n2' c2') ∧ w'.cell? ⟨w.heap.size + 1, 5, none⟩ = some (.slice AY y.length cy))
    (first | exact ⟨ca2, ca3, ca4, ca5, cb2, cb3, cb4, cb5⟩ | exact ⟨cell_alloc_of ca2 _, cell_alloc_of ca3 _, cell_alloc_of ca4 _, cell_alloc_of ca5 _, cell_alloc_of cb2 _, cell_alloc_of cb3 _, cell_alloc_of cb4 _, cell_alloc_of cb5 _⟩)
    (first
      | (go_at_call 14
         refine (ratCmp_any na nb A1 n1 c1 A1' n1' c1' A2 n2 c2 A2' n2' c2' p q _ (by exact HA.out.keep W0.out) (by exact HB.out.keep W0.out) l1 l1' l2 l2').mono ?_
         rintro e w5 ⟨rfl, hx5⟩
         have X5 := Lib.hid (W0.out.tr hx5)
         have B5 := Lib.hid (BA.out.keep hx5)
         have C5 := Lib.hid (BB.out.keep hx5)
         have ca2 := B5.out.cell 2
         have ca3 := B5.out.cell 3
         have ca4 := B5.out.cell 4
         have ca5 := B5.out.cell 5
         have cb2 := C5.out.cell 2
         have cb3 := C5.out.cell 3
         have cb4 := C5.out.cell 4
         have cb5 := C5.out.cell 5
         simp only [List.getElem?_toArray, List.getElem?_cons_zero, List.getElem?_cons_succ] at ca2 ca3 ca4 ca5 cb2 cb3 cb4 cb5
         clear hx5)
      | (go_at_call 57
         refine (cmpInt_any x.length y.length _).mono ?_
         rintro e w6 ⟨rfl, rfl⟩)
      | (go_at_call 58
         refine (slCompare_any AX AY cx cy x y _ (by exact HX.out.keep X5.out) (by exact HY.out.keep X5.out) hxl hyl).mono ?_
         rintro e w6 ⟨rfl, rfl⟩)
      | (go_at_call 56
         refine (cmpOr_any w5.heap.size (cmpQ p q) (cmpI x.length y.length) (lexI x y) _ (Blk.new _ _ _)).mono ?_
         rintro e w7 ⟨rfl, rfl⟩
         have FIN := Lib.hid (X5.out.alloc (.cells #[.int .i64 (cmpQ p q), .int .i64 (cmpI x.length y.length), .int .i64 (lexI x y)] 3))))
  all_goals
    go_wp2
    go_ret
    exact ⟨by rw [HR.out]; rfl, FIN.out⟩
end Go.Proofs.YtjmkcckbbgpkeaaGreatDoor


namespace Go.Proofs.YtjmkcckbbgpkeaaGreatDoor
open Go.RowKit
/-- The price of a list of arcs. -/
def prQ (ps : List Rat) (arcs : List Nat) : Rat := arcs.foldl (fun s a => s + ps[a]?.getD 0) 0
theorem prQ_snoc (ps : List Rat) (arcs : List Nat) (a : Nat) : prQ ps (arcs ++ [a]) = prQ ps arcs + ps[a]?.getD 0 := by unfold prQ; rw [List.foldl_append]; rfl
/-- A label. -/
structure Lb where
  known : Bool
  done : Bool
  arcs : List Nat
def LbR (w : World) (ps : List Rat) (cs : List Value) (lb : Lb) : Prop :=
  ∃ (neg : Bool) (A : Option Addr) (n c : Nat) (A' : Option Addr) (n' c' : Nat) (AX : Option Addr) (cx : Nat), cs = [.bool lb.known, .bool lb.done, .bool neg, .slice A n c, .slice A' n' c', .slice AX lb.arcs.length cx] ∧ RatR w neg A n c A' n' c' (prQ ps lb.arcs) ∧ lb.arcs.length ≤ cx ∧ RdT w 3 AX (ints lb.arcs)
theorem LbR.keep {w w' : World} {ps : List Rat} {cs : List Value} {lb : Lb} (h : LbR w ps cs lb) (hx : Ext w w') : LbR w' ps cs lb := by
  obtain ⟨neg, A, n, c, A', n', c', AX, cx, e, h1, h2, h3⟩ := h
  exact ⟨neg, A, n, c, A', n', c', AX, cx, e, h1.keep hx, h2, h3.keep hx⟩
/-- The labels of all nodes. -/
def LbsR (w : World) (ps : List Rat) (g : Nat) (ls : List Lb) : Prop :=
  ∃ css : List (List Value), css.length = ls.length ∧ (∀ cs ∈ css, cs.length = 6) ∧ Blk w g 68 css.flatten.toArray ∧ ∀ (i : Nat) (lb : Lb), ls[i]? = some lb → ∃ cs, css[i]? = some cs ∧ LbR w ps cs lb
theorem LbsR.keep {w w' : World} {ps : List Rat} {g : Nat} {ls : List Lb} (h : LbsR w ps g ls) (hx : Ext w w') : LbsR w' ps g ls := by
  obtain ⟨css, h1, h2, h3, h4⟩ := h
  refine ⟨css, h1, h2, h3.keep hx, fun i lb hl => ?_⟩
  obtain ⟨cs, k1, k2⟩ := h4 i lb hl
  exact ⟨cs, k1, k2.keep hx⟩
theorem LbsR.lt {w : World} {ps : List Rat} {g : Nat} {ls : List Lb} (h : LbsR w ps g ls) : g < w.heap.size := by
  obtain ⟨css, _, _, h3, _⟩ := h
  exact h3.lt
theorem LbsR.at_ {w : World} {ps : List Rat} {g : Nat} {ls : List Lb} (h : LbsR w ps g ls) {i : Nat} {lb : Lb} (hl : ls[i]? = some lb) :
    ∃ (neg : Bool) (A : Option Addr) (n c : Nat) (A' : Option Addr) (n' c' : Nat) (AX : Option Addr) (cx : Nat),
      (w.cell? ⟨g, i * 6, none⟩ = some (.bool lb.known) ∧ w.cell? ⟨g, i * 6 + 1, none⟩ = some (.bool lb.done) ∧ w.cell? ⟨g, i * 6 + 2, none⟩ = some (.bool neg) ∧ w.cell? ⟨g, i * 6 + 3, none⟩ = some (.slice A n c) ∧ w.cell? ⟨g, i * 6 + 4, none⟩ = some (.slice A' n' c') ∧ w.cell? ⟨g, i * 6 + 5, none⟩ = some (.slice AX lb.arcs.length cx)) ∧
      RatR w neg A n c A' n' c' (prQ ps lb.arcs) ∧ lb.arcs.length ≤ cx ∧ RdT w 3 AX (ints lb.arcs) := by
  obtain ⟨css, h1, h2, h3, h4⟩ := h
  obtain ⟨cs, k1, neg, A, n, c, A', n', c', AX, cx, rfl, k2, k3, k4⟩ := h4 i lb hl
  have hi := (List.getElem?_eq_some_iff.1 hl).1
  have key : ∀ k, k < 6 → w.cell? ⟨g, i * 6 + k, none⟩ = ([.bool lb.known, .bool lb.done, .bool neg, .slice A n c, .slice A' n' c', .slice AX lb.arcs.length cx] : List Value)[k]? := fun k hk => by
    rw [h3.cell, List.getElem?_toArray, flatten_get css h2 i k (by omega) hk, k1]; rfl
  exact ⟨neg, A, n, c, A', n', c', AX, cx, ⟨key 0 (by omega), key 1 (by omega), key 2 (by omega), key 3 (by omega), key 4 (by omega), key 5 (by omega)⟩, k2, k3, k4⟩
/-- A label is before another one. -/
def befP (ps : List Rat) (x y : List Nat) : Bool := decide (cmpL (prQ ps x) (prQ ps y) x y < 0)
/-- The node with the first path of those that are known and not done, among the first k. -/
def firstTo (ps : List Rat) (ls : List Lb) : Nat → Int
  | 0 => -1
  | k + 1 => match ls[k]? with
    | none => firstTo ps ls k
    | some l => if l.known && !l.done && (decide (firstTo ps ls k < 0) || befP ps l.arcs ((ls[(firstTo ps ls k).toNat]?.map Lb.arcs).getD [])) then (k : Int) else firstTo ps ls k
def firstP (ps : List Rat) (ls : List Lb) : Int := firstTo ps ls ls.length
theorem firstTo_range (ps : List Rat) (ls : List Lb) : ∀ k, firstTo ps ls k = -1 ∨ (0 ≤ firstTo ps ls k ∧ (firstTo ps ls k).toNat < k ∧ (firstTo ps ls k).toNat < ls.length)
  | 0 => .inl rfl
  | k + 1 => by
    have ih := firstTo_range ps ls k
    unfold firstTo
    split
    · rcases ih with h | h
      · exact .inl h
      · exact .inr ⟨h.1, by omega, h.2.2⟩
    · rename_i l hl
      split
      · have := (List.getElem?_eq_some_iff.1 hl).1
        exact .inr ⟨by omega, by omega, by omega⟩
      · rcases ih with h | h
        · exact .inl h
        · exact .inr ⟨h.1, by omega, h.2.2⟩
/-- The sizes of the prices of labels. -/
def SzL (ps : List Rat) (ls : List Lb) : Prop := ∀ lb ∈ ls, SzQ (prQ ps lb.arcs) 268435456 ∧ lb.arcs.length ≤ 1000
set_option maxRecDepth 100000 in
set_option maxHeartbeats 8000000 in
theorem first_any (g : Nat) (ps : List Rat) (ls : List Lb) (w : World) (h : LbsR w ps g ls) (hsz : SzL ps ls) (hl : ls.length ≤ 1000) :
    Calls Tryz.prog 25 #[.slice (some ⟨g, 0, none⟩) ls.length ls.length] w fun e w' => e = .returned (.int .i64 (firstP ps ls)) ∧ Ext w w' := by
  have H := Lib.hid h
  have SZ := Lib.hid hsz
  clear h hsz
  go_enter Tryz.func25, Tryz.ntmps25
  go_wp2
  go_loopg [3, 4, 5, 8] ls.length (fun m bt _ _ it wr => ∃ k : Nat, ls.length - k = m ∧ k ≤ ls.length ∧ it = .int .i64 k ∧ bt = .int .i64 (firstTo ps ls k) ∧ Ext w wr)
  case atStart => exact ⟨0, rfl, Nat.zero_le _, rfl, rfl, Ext.refl _⟩
  case round =>
    obtain ⟨k, rfl, hk, rfl, rfl, hx⟩ := hrel
    have EX := Lib.hid hx
    have hfr := firstTo_range ps ls k
    have HST := Lib.hid (show firstTo ps ls (k + 1) = match ls[k]? with
      | none => firstTo ps ls k
      | some l => if l.known && !l.done && (decide (firstTo ps ls k < 0) || befP ps l.arcs ((ls[(firstTo ps ls k).toNat]?.map Lb.arcs).getD [])) then (k : Int) else firstTo ps ls k from rfl)
    generalize hbb : firstTo ps ls k = b at *
    have HBB := Lib.hid hbb
    clear hbb
    clear hx
    by_cases hkl : k < ls.length
    · obtain ⟨lb, hlb⟩ : ∃ lb, ls[k]? = some lb := ⟨_, List.getElem?_eq_getElem hkl⟩
      obtain ⟨neg, A, n, c, A', n', c', AX, cx, ⟨i0, i1, i2, i3, i4, i5⟩, hR, hcx, hAX⟩ := (H.out.keep EX.out).at_ hlb
      have hst := HST.out
      rw [hlb] at hst
      have HST2 := Lib.hid hst
      have SZB := Lib.hid (SZ.out lb (List.mem_of_getElem? hlb))
      have R := Lib.hid hR
      have X := Lib.hid hAX
      have HLB := Lib.hid hlb
      clear hst hR hAX hlb HST
      go_upto_region 5 with fail
      obtain ⟨kn, dn, arcs⟩ := lb
      simp only [] at i0 i1 i5 hcx
      obtain ⟨bx, e0⟩ := boxes1 wr #[.bool kn, .bool dn, .bool neg, .slice A n c, .slice A' n' c', .slice AX arcs.length cx] 68
      generalize wr.alloc (.cells #[.bool kn, .bool dn, .bool neg, .slice A n c, .slice A' n' c', .slice AX arcs.length cx] 68) = W at *
      have y0 := XW.cell _ _ _ bx.lt (bx.cell 0)
      have y1 := XW.cell _ _ _ bx.lt (bx.cell 1)
      have EW := Lib.hid (EX.out.tr e0)
      have E0 := Lib.hid e0
      have BX := Lib.hid bx
      clear e0 bx i0 i1 i2 i3 i4 i5 EX
      go_cut [32] (fun s wx => s = .bool (kn && !dn && (decide (b < 0) || befP ps arcs ((ls[b.toNat]?.map Lb.arcs).getD []))) ∧ Ext w wx)
      case first =>
        cases kn
        case false =>
          refine wp_region_ext (by kernel_rfl) (by kernel_rfl) ?_
          repeat (go_big_quiet_step (fail))
          refine wpQuiet_nil ?_
          rintro _ ⟨x, rfl⟩
          go_wp2
          go_meet
          exact ⟨rfl, EW.out.tr x.ext⟩
        case true =>
          cases dn
          case true =>
            refine wp_region_ext (by kernel_rfl) (by kernel_rfl) ?_
            repeat (go_big_quiet_step (fail))
            refine wpQuiet_nil ?_
            rintro _ ⟨x, rfl⟩
            go_wp2
            go_meet
            exact ⟨rfl, EW.out.tr x.ext⟩
          case false =>
            rcases hfr with hb | ⟨hb0, hbk, hbl⟩
            · subst hb
              have hbd : decide ((-1 : Int) < 0) = true := rfl
              refine wp_region_ext (by kernel_rfl) (by kernel_rfl) ?_
              repeat (go_big_quiet_step (fail))
              refine wpQuiet_nil ?_
              rintro _ ⟨x, rfl⟩
              go_wp2
              go_meet
              exact ⟨rfl, EW.out.tr x.ext⟩
            · obtain ⟨m, rfl⟩ : ∃ m : Nat, b = (m : Int) := ⟨b.toNat, by omega⟩
              rw [Int.toNat_natCast] at hbk hbl
              obtain ⟨lm, hlm⟩ : ∃ lm, ls[m]? = some lm := ⟨_, List.getElem?_eq_getElem hbl⟩
              have SZM := Lib.hid (SZ.out lm (List.mem_of_getElem? hlm))
              have HV := Lib.hid (show befP ps arcs ((ls[m]?.map Lb.arcs).getD []) = befP ps arcs lm.arcs by rw [hlm]; rfl)
              obtain ⟨neg2, A2, n2, c2, A2', n2', c2', AX2, cx2, ⟨j0, j1, j2, j3, j4, j5⟩, hR2, hcx2, hAX2⟩ := (H.out.keep EW.out).at_ hlm
              have hgl := (H.out.keep EW.out).lt
              have z0 := XW.cell _ _ _ hgl j0
              have z1 := XW.cell _ _ _ hgl j1
              have z2 := XW.cell _ _ _ hgl j2
              have z3 := XW.cell _ _ _ hgl j3
              have z4 := XW.cell _ _ _ hgl j4
              have z5 := XW.cell _ _ _ hgl j5
              have y2 := XW.cell _ _ _ BX.out.lt (BX.out.cell 2)
              have y3 := XW.cell _ _ _ BX.out.lt (BX.out.cell 3)
              have y4 := XW.cell _ _ _ BX.out.lt (BX.out.cell 4)
              have y5 := XW.cell _ _ _ BX.out.lt (BX.out.cell 5)
              have R2 := Lib.hid hR2
              have X2 := Lib.hid hAX2
              have hml : (m : Int) < (ls.length : Int) := by omega
              have hm0 : (0 : Int) ≤ (m : Int) := by omega
              have hbd : decide ((m : Int) < 0) = false := by simp
              have hl1 := R.out.lens SZB.out.1
              have hl2 := R2.out.lens SZM.out.1
              clear hlm hR2 hAX2 j0 j1 j2 j3 j4 j5
              refine wp_region_ext (by kernel_rfl) (by kernel_rfl) ?_
              repeat (go_big_quiet_step ((go_at_call 30; exact Calls.ext_of (compare_any _ _ neg _ _ neg2 A n c A' n' c' A2 n2 c2 A2' n2' c2' AX AX2 cx cx2 (prQ ps arcs) (prQ ps lm.arcs) arcs lm.arcs _ (R.out.keep (E0.out.tr (XW.ext _))) (R2.out.keep (XW.ext _)) hl1.1 hl1.2 hl2.1 hl2.2 (X.out.rd.keep (E0.out.tr (XW.ext _))) (X2.out.rd.keep (XW.ext _)) (by have := SZB.out.2; simp only [] at this; omega) (by have := SZM.out.2; omega)))))
              refine wpQuiet_nil ?_
              rintro _ ⟨x, rfl⟩
              go_wp2
              go_meet
              refine ⟨?_, EW.out.tr x.ext⟩
              rw [Int.toNat_natCast, HV.out]
              rfl
      case rest =>
        obtain ⟨rfl, hx2⟩ := hcut
        have EX2 := Lib.hid hx2
        clear hx2 y0 y1 EW E0 BX
        have hst := HST2.out
        simp only [] at hst
        generalize (kn && !dn && (decide (b < 0) || befP ps arcs ((ls[b.toNat]?.map Lb.arcs).getD []))) = cond at *
        cases cond
        case false =>
          have HS := Lib.hid (show firstTo ps ls (k + 1) = b by rw [hst]; rfl)
          clear hst HST2
          go_wp2
          go_roundg (ls.length - (k + 1))
          case measure => omega
          case rel => exact ⟨k + 1, rfl, by omega, by go_num, by rw [HS.out], EX2.out⟩
        case true =>
          have HS := Lib.hid (show firstTo ps ls (k + 1) = (k : Int) by rw [hst]; rfl)
          clear hst HST2
          go_wp2
          go_roundg (ls.length - (k + 1))
          case measure => omega
          case rel => exact ⟨k + 1, rfl, by omega, by go_num, by rw [HS.out], EX2.out⟩
    · have hke : k = ls.length := by omega
      subst hke
      go_wp2
      go_ret
      exact ⟨by unfold firstP; rw [HBB.out]; rfl, EX.out⟩
end Go.Proofs.YtjmkcckbbgpkeaaGreatDoor


namespace Go.Proofs.YtjmkcckbbgpkeaaGreatDoor
open Go.RowKit
theorem SzQ.mono {q : Rat} {k m : Nat} (h : SzQ q k) (hm : k ≤ m) : SzQ q m := ⟨Nat.lt_of_lt_of_le h.1 (Nat.pow_le_pow_right B32_pos hm), Nat.lt_of_lt_of_le h.2 (Nat.pow_le_pow_right B32_pos hm)⟩
theorem SzQ.zero : SzQ 0 1 := ⟨by decide, by decide⟩
theorem SzQ.add {a b : Rat} {k m : Nat} (ha : SzQ a k) (hb : SzQ b m) : SzQ (a + b) (k + m + 1) := by
  have hd : a.den * b.den ≠ 0 := Nat.mul_ne_zero a.den_nz b.den_nz
  have e := Rat.add_def' a b
  obtain ⟨g, hg, e1, e2⟩ : ∃ g : Nat, g ≠ 0 ∧ a.num * b.den + b.num * a.den = (a + b).num * g ∧ a.den * b.den = (a + b).den * g := by
    have hq : mkRat (a.num * b.den + b.num * a.den) (a.den * b.den) = ⟨(a + b).num, (a + b).den, (a + b).den_nz, (a + b).reduced⟩ := e.symm
    exact Rat.mkRat_num_den hd hq
  have h1 : 1 ≤ g := by omega
  have hk : 0 < B32 ^ k := Nat.pow_pos B32_pos
  have hm : 0 < B32 ^ m := Nat.pow_pos B32_pos
  have p1 : a.num.natAbs * b.den < B32 ^ k * B32 ^ m := Nat.mul_lt_mul_of_lt_of_le ha.1 (Nat.le_of_lt hb.2) hm
  have p2 : b.num.natAbs * a.den < B32 ^ m * B32 ^ k := Nat.mul_lt_mul_of_lt_of_le hb.1 (Nat.le_of_lt ha.2) hk
  have p3 : a.den * b.den < B32 ^ k * B32 ^ m := Nat.mul_lt_mul_of_lt_of_le ha.2 (Nat.le_of_lt hb.2) hm
  have hB : B32 ^ (k + m + 1) = B32 ^ k * B32 ^ m * B32 := by rw [Nat.pow_succ, Nat.pow_add]
  rw [Nat.mul_comm (B32 ^ m)] at p2
  unfold SzQ
  rw [hB]
  generalize B32 ^ k * B32 ^ m = Z at *
  have hZ : 2 * Z ≤ Z * B32 := by rw [Nat.mul_comm]; exact Nat.mul_le_mul_left _ (by decide)
  constructor
  · have q1 : (a.num * b.den + b.num * a.den).natAbs = (a + b).num.natAbs * g := by rw [e1, Int.natAbs_mul]; rfl
    have q2 : (a.num * b.den + b.num * a.den).natAbs ≤ a.num.natAbs * b.den + b.num.natAbs * a.den := by
      refine Nat.le_trans (Int.natAbs_add_le _ _) ?_
      rw [Int.natAbs_mul, Int.natAbs_mul]
      exact Nat.le_refl _
    have q3 : (a + b).num.natAbs * 1 ≤ (a + b).num.natAbs * g := Nat.mul_le_mul_left _ h1
    omega
  · have q3 : (a + b).den * 1 ≤ (a + b).den * g := Nat.mul_le_mul_left _ h1
    omega
theorem SzQ.pr {ps : List Rat} {P : Nat} (hP : 1 ≤ P) (h : ∀ q ∈ ps, SzQ q P) (arcs : List Nat) : SzQ (prQ ps arcs) (1 + arcs.length * (P + 1)) := by
  have key : ∀ (l : List Nat) (s : Rat) (k : Nat), SzQ s k → SzQ (l.foldl (fun s a => s + ps[a]?.getD 0) s) (k + l.length * (P + 1)) := by
    intro l
    induction l with
    | nil => intro s k hs; simpa using hs
    | cons a l ih =>
      intro s k hs
      have h1 : SzQ (ps[a]?.getD 0) P := by
        by_cases ha : a < ps.length
        · rw [List.getElem?_eq_getElem ha]; exact h _ (List.getElem_mem ha)
        · rw [List.getElem?_eq_none (by omega)]; exact SzQ.zero.mono hP
      have := ih _ _ (hs.add h1)
      rw [List.foldl_cons]
      refine this.mono ?_
      rw [List.length_cons, Nat.add_mul, Nat.one_mul]
      omega
  exact key arcs 0 1 SzQ.zero
def arcsOf (ls : List Lb) (n : Nat) : List Nat := (ls[n]?.map Lb.arcs).getD []
/-- One arc of the search for the cheapest path. -/
def relaxP (t : Tp) (down : List Bool) (ps : List Rat) (d n : Nat) (ls : List Lb) (a : Nat) : List Lb :=
  match ls[(headP t a).toNat]? with
  | none => ls
  | some lm => if lm.done || !usableP t down a d then ls else if !lm.known || befP ps (arcsOf ls n ++ [a]) lm.arcs then ls.set (headP t a).toNat ⟨true, false, arcsOf ls n ++ [a]⟩ else ls
def markP (ls : List Lb) (n : Nat) : List Lb := match ls[n]? with
  | none => ls
  | some l => ls.set n ⟨l.known, true, l.arcs⟩
def undone (ls : List Lb) : Nat := ls.countP (fun l => !l.done)
def dijP (t : Tp) (down : List Bool) (ps : List Rat) (d : Nat) : Nat → List Lb → Option (List Nat)
  | 0, _ => none
  | f + 1, ls => if firstP ps ls < 0 then none else if (firstP ps ls).toNat = d then some (arcsOf ls (firstP ps ls).toNat) else
    dijP t down ps d f ((leavP t (firstP ps ls).toNat).foldl (relaxP t down ps d (firstP ps ls).toNat) (markP ls (firstP ps ls).toNat))
def initP (N s : Nat) : List Lb := (List.replicate N ⟨false, false, []⟩).set s ⟨true, false, []⟩
/-- The cheapest path, as the program finds it. -/
def cheapP (t : Tp) (down : List Bool) (ps : List Rat) (s d : Nat) : Option (List Nat) := dijP t down ps d (t.nodes.toNat + 1) (initP t.nodes.toNat s)
theorem first_fresh (ps : List Rat) (ls : List Lb) : ∀ k, 0 ≤ firstTo ps ls k → ∃ l, ls[(firstTo ps ls k).toNat]? = some l ∧ l.known = true ∧ l.done = false
  | 0, h => by simp [firstTo] at h
  | k + 1, h => by
    have ih := first_fresh ps ls k
    unfold firstTo at h ⊢
    split
    · rename_i hl
      rw [hl] at h
      exact ih h
    · rename_i l hl
      rw [hl] at h
      simp only [] at h
      split
      · rename_i hc
        simp only [Bool.and_eq_true, Bool.not_eq_true'] at hc
        refine ⟨l, by rw [Int.toNat_natCast]; exact hl, hc.1.1, hc.1.2⟩
      · rename_i hc
        rw [if_neg hc] at h
        exact ih h
theorem relax_len (t : Tp) (down : List Bool) (ps : List Rat) (d n : Nat) (ls : List Lb) (a : Nat) : (relaxP t down ps d n ls a).length = ls.length := by
  unfold relaxP
  split
  · rfl
  · split
    · rfl
    · split
      · simp
      · rfl
theorem undone_set {ls : List Lb} {m : Nat} {lm l : Lb} (h : ls[m]? = some lm) (hd : lm.done = false) (hl : l.done = false) : undone (ls.set m l) = undone ls := by
  unfold undone
  induction ls generalizing m with
  | nil => simp at h
  | cons x ls ih =>
    cases m with
    | zero => simp at h; subst h; simp [List.countP_cons, hd, hl]
    | succ m => simp at h; simp [List.countP_cons, ih h]
theorem undone_mark {ls : List Lb} {n : Nat} {l : Lb} (h : ls[n]? = some l) (hd : l.done = false) : undone (markP ls n) + 1 = undone ls := by
  unfold markP
  rw [h]
  simp only []
  unfold undone
  induction ls generalizing n with
  | nil => simp at h
  | cons x ls ih =>
    cases n with
    | zero => simp at h; subst h; simp [List.countP_cons, hd]
    | succ n => simp at h; have := ih h; simp [List.countP_cons]; omega
theorem undone_relax (t : Tp) (down : List Bool) (ps : List Rat) (d n : Nat) (ls : List Lb) (a : Nat) : undone (relaxP t down ps d n ls a) = undone ls := by
  unfold relaxP
  split
  · rfl
  · rename_i lm hlm
    split
    · rfl
    · rename_i hc
      simp only [Bool.or_eq_true, not_or, Bool.not_eq_true] at hc
      split
      · exact undone_set hlm hc.1 rfl
      · rfl
/-- No label is longer than the nodes that are done. -/
def lenOk (ls : List Lb) : Prop := ∀ l ∈ ls, l.arcs.length + undone ls ≤ ls.length
theorem arcsOf_len {ls : List Lb} (h : lenOk ls) (n : Nat) (hn : undone ls ≤ ls.length) : (arcsOf ls n).length + undone ls ≤ ls.length := by
  unfold arcsOf
  cases e : ls[n]? with
  | none => simpa using hn
  | some l => exact h l (List.mem_of_getElem? e)
theorem undone_le (ls : List Lb) : undone ls ≤ ls.length := List.countP_le_length
end Go.Proofs.YtjmkcckbbgpkeaaGreatDoor


namespace Go.Proofs.YtjmkcckbbgpkeaaGreatDoor
open Go.RowKit
theorem RdT.other {w w' : World} {t t' : TypeId} {A : Option Addr} {xs : List Value} {g : Nat} {cs' : Array Value} (h : RdT w t A xs) (hg : w.grownBy w' (some g)) (hb : Blk w g t' cs') (hne : t ≠ t') : RdT w' t A xs :=
  h.grown hg (fun hx ad had e => by
    obtain ⟨b, o, cs, fr, e1, e2, _⟩ := h hx
    rw [had] at e1
    injection e1 with e1
    subst e1
    injection e with e
    subst e
    unfold Blk at hb
    rw [e2] at hb
    injection hb with hb
    injection hb with _ hb
    exact hne hb)
theorem NatR.other {w w' : World} {A : Option Addr} {n c N g : Nat} {t' : TypeId} {cs' : Array Value} (h : NatR w A n c N) (hg : w.grownBy w' (some g)) (hb : Blk w g t' cs') (hne : 120 ≠ t') : NatR w' A n c N := by
  obtain ⟨ds, h1, h2, h3, h4, h5⟩ := h
  exact ⟨ds, h1, h2, h3, h4, h5.other hg hb hne⟩
theorem RatR.other {w w' : World} {neg : Bool} {A : Option Addr} {n c : Nat} {A' : Option Addr} {n' c' : Nat} {q : Rat} {g : Nat} {t' : TypeId} {cs' : Array Value} (h : RatR w neg A n c A' n' c' q) (hg : w.grownBy w' (some g)) (hb : Blk w g t' cs') (hne : 120 ≠ t') : RatR w' neg A n c A' n' c' q :=
  ⟨h.1, h.2.1.other hg hb hne, h.2.2.other hg hb hne⟩
theorem LbR.other {w w' : World} {ps : List Rat} {cs : List Value} {lb : Lb} {g : Nat} {cs' : Array Value} (h : LbR w ps cs lb) (hg : w.grownBy w' (some g)) (hb : Blk w g 68 cs') : LbR w' ps cs lb := by
  obtain ⟨neg, A, n, c, A', n', c', AX, cx, e, h1, h2, h3⟩ := h
  exact ⟨neg, A, n, c, A', n', c', AX, cx, e, h1.other hg hb (by decide), h2, h3.other hg hb (by decide)⟩
theorem LL.other {w w' : World} {gl N g : Nat} {X : Nat → List Nat} {t' : TypeId} {cs' : Array Value} (h : LL w gl N X) (hg : w.grownBy w' (some g)) (hb : Blk w g t' cs') (h1 : 41 ≠ t') (h2 : 3 ≠ t') : LL w' gl N X := by
  obtain ⟨V, k1, k2⟩ := h
  refine ⟨V, (hg.block gl k1.lt (fun e => k1.ne_ hb h1 (by injection e))).trans k1, fun i hi => ?_⟩
  obtain ⟨A, c, k3, k4, k5⟩ := k2 i hi
  exact ⟨A, c, k3, k4, k5.other hg hb h2⟩
theorem flatten_set {m : Nat} : ∀ (css : List (List Value)), (∀ cs ∈ css, cs.length = m) → ∀ (i k : Nat) (v : Value), i < css.length → k < m → css.flatten.set (i * m + k) v = (css.set i ((css[i]?.getD []).set k v)).flatten
  | [], _, i, k, v, hi, _ => by simp at hi
  | cs :: css, h, 0, k, v, _, hk => by
    rw [Nat.zero_mul, Nat.zero_add, List.flatten_cons, List.set_append_left _ _ (by rw [h cs (by simp)]; exact hk)]
    rfl
  | cs :: css, h, i + 1, k, v, hi, hk => by
    have hl := h cs (by simp)
    rw [List.flatten_cons, List.set_append_right _ _ (by rw [hl, Nat.add_mul, Nat.one_mul]; omega), hl, show (i + 1) * m + k - m = i * m + k by rw [Nat.add_mul, Nat.one_mul]; omega]
    rw [flatten_set css (fun c hc => h c (by simp [hc])) i k v (by simpa using hi) hk]
    simp
theorem LbsR.upd {w w' : World} {ps : List Rat} {g m : Nat} {ls : List Lb} {lb : Lb} {cs : List Value} {css : List (List Value)} (h1 : css.length = ls.length) (h2 : ∀ cs ∈ css, cs.length = 6) (h3 : Blk w g 68 css.flatten.toArray) (h4 : ∀ (i : Nat) (lb : Lb), ls[i]? = some lb → ∃ cs, css[i]? = some cs ∧ LbR w ps cs lb)
    (hg : w.grownBy w' (some g)) (hb : Blk w' g 68 (css.set m cs).flatten.toArray) (hc : cs.length = 6) (hl : LbR w' ps cs lb) (hm : m < ls.length) : LbsR w' ps g (ls.set m lb) := by
  refine ⟨css.set m cs, by simp [h1], fun c hcc => ?_, hb, fun i l hi => ?_⟩
  · rcases List.mem_or_eq_of_mem_set hcc with h | h
    · exact h2 c h
    · rw [h]; exact hc
  · by_cases e : m = i
    · subst e
      rw [List.getElem?_set_self hm] at hi
      injection hi with hi
      subst hi
      exact ⟨cs, by rw [List.getElem?_set_self (by omega)], hl⟩
    · rw [List.getElem?_set_ne e] at hi
      obtain ⟨c, k1, k2⟩ := h4 i l hi
      exact ⟨c, by rw [List.getElem?_set_ne e]; exact k1, k2.other hg h3⟩
/-- A node is done. -/
theorem LbsR.mark {w : World} {ps : List Rat} {g n : Nat} {ls : List Lb} {l : Lb} (h : LbsR w ps g ls) (hl : ls[n]? = some l) : LbsR (w.setCell ⟨g, n * 6 + 1, none⟩ (.bool true)) ps g (markP ls n) := by
  have hn := (List.getElem?_eq_some_iff.1 hl).1
  obtain ⟨css, h1, h2, h3, h4⟩ := h
  obtain ⟨cs, k1, k2⟩ := h4 n l hl
  have hg := grown_set w g (n * 6 + 1) (.bool true)
  have hcl : cs.length = 6 := h2 cs (List.mem_of_getElem? k1)
  unfold markP
  rw [hl]
  refine LbsR.upd (cs := cs.set 1 (.bool true)) h1 h2 h3 h4 hg ?_ (by simp [hcl]) ?_ hn
  · have := h3.set_ (n * 6 + 1) (.bool true)
    rw [List.setIfInBounds_toArray, flatten_set css h2 n 1 _ (by omega) (by omega), k1] at this
    exact this
  · have := k2.other hg h3
    obtain ⟨neg, A, n, c, A', n', c', AX, cx, e, q1, q2, q3⟩ := this
    exact ⟨neg, A, n, c, A', n', c', AX, cx, by rw [e]; rfl, q1, q2, q3⟩
theorem six_of (cs : List Value) (h : cs.length = 6) : ∃ a0 a1 a2 a3 a4 a5, cs = [a0, a1, a2, a3, a4, a5] := by
  rcases cs with _ | ⟨a0, _ | ⟨a1, _ | ⟨a2, _ | ⟨a3, _ | ⟨a4, _ | ⟨a5, _ | ⟨a6, r⟩⟩⟩⟩⟩⟩⟩
  all_goals first | (simp at h; done) | exact ⟨_, _, _, _, _, _, rfl⟩
theorem st_six (css : List (List Value)) (h2 : ∀ cs ∈ css, cs.length = 6) (m : Nat) (hml : m < css.length) (c1 : List Value) (k : Nat) (v : Value) (hc : c1.length = 6) (hk : k < 6) : ((css.set m c1).flatten).set (m * 6 + k) v = (css.set m (c1.set k v)).flatten := by
  have hall : ∀ c ∈ css.set m c1, c.length = 6 := fun c hcc => by
    rcases List.mem_or_eq_of_mem_set hcc with h | h
    · exact h2 c h
    · rw [h]; exact hc
  have h := flatten_set (css.set m c1) hall m k v (by rw [List.length_set]; exact hml) hk
  rw [List.getElem?_set_self hml, Option.getD_some, List.set_set] at h
  exact h
theorem put_six (css : List (List Value)) (h2 : ∀ cs ∈ css, cs.length = 6) (m : Nat) (hml : m < css.length) {a0 a1 a2 a3 a4 a5 : Value} (hcs : css[m]? = some [a0, a1, a2, a3, a4, a5]) (v0 v1 v2 v3 v4 v5 : Value) :
    (((((css.flatten.set (m * 6 + 0) v0).set (m * 6 + 1) v1).set (m * 6 + 2) v2).set (m * 6 + 3) v3).set (m * 6 + 4) v4).set (m * 6 + 5) v5 = (css.set m [v0, v1, v2, v3, v4, v5]).flatten := by
  have e0 : css.flatten = (css.set m [a0, a1, a2, a3, a4, a5]).flatten := by
    congr 1
    apply List.ext_getElem?
    intro i
    rw [List.getElem?_set]
    split
    · rename_i e; subst e; rw [hcs]
    · rfl
  rw [e0, st_six css h2 m hml _ 0 v0 rfl (by omega), st_six css h2 m hml _ 1 v1 rfl (by omega), st_six css h2 m hml _ 2 v2 rfl (by omega), st_six css h2 m hml _ 3 v3 rfl (by omega), st_six css h2 m hml _ 4 v4 rfl (by omega), st_six css h2 m hml _ 5 v5 rfl (by omega)]
  rfl
/-- A label is laid into the row. -/
theorem LbsR.put {w : World} {ps : List Rat} {g m : Nat} {ls : List Lb} {lb : Lb} {v0 v1 v2 v3 v4 v5 : Value} (h : LbsR w ps g ls) (hm : m < ls.length) (hl : LbR w ps [v0, v1, v2, v3, v4, v5] lb) :
    LbsR ((((((w.setCell ⟨g, m * 6, none⟩ v0).setCell ⟨g, m * 6 + 1, none⟩ v1).setCell ⟨g, m * 6 + 2, none⟩ v2).setCell ⟨g, m * 6 + 3, none⟩ v3).setCell ⟨g, m * 6 + 4, none⟩ v4).setCell ⟨g, m * 6 + 5, none⟩ v5) ps g (ls.set m lb) := by
  obtain ⟨css, h1, h2, h3, h4⟩ := h
  have g0 := grown_set w g (m * 6) v0
  have g1 := g0.trans (grown_set _ g (m * 6 + 1) v1)
  have g2 := g1.trans (grown_set _ g (m * 6 + 2) v2)
  have g3 := g2.trans (grown_set _ g (m * 6 + 3) v3)
  have g4 := g3.trans (grown_set _ g (m * 6 + 4) v4)
  have g5 := g4.trans (grown_set _ g (m * 6 + 5) v5)
  refine LbsR.upd (cs := [v0, v1, v2, v3, v4, v5]) h1 h2 h3 h4 g5 ?_ rfl (hl.other g5 h3) hm
  have b := (((((h3.set_ (m * 6 + 0) v0).set_ (m * 6 + 1) v1).set_ (m * 6 + 2) v2).set_ (m * 6 + 3) v3).set_ (m * 6 + 4) v4).set_ (m * 6 + 5) v5
  have hml : m < css.length := by omega
  obtain ⟨cs, hcs⟩ : ∃ cs, css[m]? = some cs := ⟨_, List.getElem?_eq_getElem hml⟩
  have hcl : cs.length = 6 := h2 cs (List.mem_of_getElem? hcs)
  obtain ⟨a0, a1, a2, a3, a4, a5, rfl⟩ : ∃ a0 a1 a2 a3 a4 a5, cs = [a0, a1, a2, a3, a4, a5] := six_of cs hcl
  have hput := put_six css h2 m hml hcs v0 v1 v2 v3 v4 v5
  simp only [List.setIfInBounds_toArray] at b
  rw [hput] at b
  exact b
end Go.Proofs.YtjmkcckbbgpkeaaGreatDoor


namespace Go.Proofs.YtjmkcckbbgpkeaaGreatDoor
open Go.RowKit
theorem Tryz.info104 : (Tryz.prog.info? 68).map (fun i => (i.zero, i.size, i.bytes)) = some (some (.agg #[.bool false, .bool false, .bool false, .slice none 0 0, .slice none 0 0, .slice none 0 0]), 6, 88) := by kernel_rfl
theorem run_make_labels (n : Nat) (hn : n ≤ 1000) (w : World) :
    (Instr.makeSlice 66 (.int .i64 (n : Int)) (.int .i64 (n : Int))).run Tryz.prog w = .ok (.slice (some ⟨w.heap.size, 0, none⟩) n n) (w.alloc (.cells (madeCells #[.bool false, .bool false, .bool false, .slice none 0 0, .slice none 0 0, .slice none 0 0] (n * 6)) 68)) := by
  obtain ⟨i, hi, hz, hs, hb⟩ := info_parts Tryz.info104
  have h63 : (i.bytes : Int) * (n : Int) ≤ 281474976710656 := by rw [hb]; omega
  have hr := run_make (P := Tryz.prog) w 66 68 i _ Tryz.underlying66 hi hz .i64 .i64 n n (by omega) (by omega) h63 (by omega)
  simp only [Int.toNat_natCast] at hr
  rw [hs] at hr
  exact hr
def zeroCells : List Value := [.bool false, .bool false, .bool false, .slice none 0 0, .slice none 0 0, .slice none 0 0]
theorem made_flatten (N : Nat) : madeCells #[.bool false, .bool false, .bool false, .slice none 0 0, .slice none 0 0, .slice none 0 0] (N * 6) = (List.replicate N zeroCells).flatten.toArray := by
  apply Array.ext'
  apply List.ext_getElem?
  intro i
  have hall : ∀ cs ∈ List.replicate N zeroCells, cs.length = 6 := fun cs h => by rw [List.eq_of_mem_replicate h]; rfl
  have hl := flatten_length _ hall
  rw [List.length_replicate] at hl
  by_cases hi : i < N * 6
  · have h1 := flatten_get _ hall (i / 6) (i % 6) (by rw [List.length_replicate]; omega) (by omega)
    rw [show i / 6 * 6 + i % 6 = i by omega, List.getElem?_replicate, if_pos (by omega), Option.getD_some] at h1
    simp only []
    rw [h1]
    have h2 : (madeCells #[.bool false, .bool false, .bool false, .slice none 0 0, .slice none 0 0, .slice none 0 0] (N * 6)).toList[i]? = some ((#[.bool false, .bool false, .bool false, .slice none 0 0, .slice none 0 0, .slice none 0 0] : Array Value)[i % 6]!) := by
      simp [madeCells, hi]
    rw [h2]
    have h6 : i % 6 = 0 ∨ i % 6 = 1 ∨ i % 6 = 2 ∨ i % 6 = 3 ∨ i % 6 = 4 ∨ i % 6 = 5 := by omega
    rcases h6 with e | e | e | e | e | e <;> rw [e] <;> rfl
  · rw [List.getElem?_eq_none (by simp [madeCells]; omega), List.getElem?_eq_none (by simp only []; omega)]
theorem ratR_zero (w : World) : RatR w false none 0 0 none 0 0 0 := ⟨by decide, NatR.zero _ _ _, NatR.zero _ _ _⟩
theorem LbR.zero (w : World) (ps : List Rat) : LbR w ps zeroCells ⟨false, false, []⟩ := ⟨false, none, 0, 0, none, 0, 0, none, 0, rfl, ratR_zero w, Nat.le_refl _, RdT.nil _ _ _⟩
theorem labels_made (w : World) (ps : List Rat) (N n : Nat) (hn : n < N) :
    LbsR (w.alloc (.cells ((madeCells #[.bool false, .bool false, .bool false, .slice none 0 0, .slice none 0 0, .slice none 0 0] (N * 6)).setIfInBounds (n * 6) (.bool true)) 68)) ps w.heap.size (initP N n) := by
  have hall : ∀ cs ∈ List.replicate N zeroCells, cs.length = 6 := fun cs h => by rw [List.eq_of_mem_replicate h]; rfl
  have hf := flatten_set _ hall n 0 (.bool true) (by rw [List.length_replicate]; exact hn) (by omega)
  rw [Nat.add_zero, List.getElem?_replicate, if_pos hn, Option.getD_some] at hf
  rw [made_flatten, List.setIfInBounds_toArray, hf]
  refine ⟨_, by simp [initP], fun cs h => ?_, Blk.new _ _ _, fun i lb hl => ?_⟩
  · rcases List.mem_or_eq_of_mem_set h with h | h
    · exact hall cs h
    · rw [h]; rfl
  · unfold initP at hl
    by_cases e : n = i
    · subst e
      rw [List.getElem?_set_self (by simpa using hn)] at hl
      injection hl with hl
      subst hl
      exact ⟨_, List.getElem?_set_self (by simpa using hn), false, none, 0, 0, none, 0, 0, none, 0, rfl, ratR_zero _, Nat.le_refl _, RdT.nil _ _ _⟩
    · rw [List.getElem?_set_ne e, List.getElem?_replicate] at hl
      split at hl
      · rename_i hi
        injection hl with hl
        subst hl
        exact ⟨zeroCells, by rw [List.getElem?_set_ne e, List.getElem?_replicate, if_pos hi], LbR.zero _ _⟩
      · cases hl
/-- The search for the cheapest path, under way. -/
structure ChSt (w wr : World) (t : Tp) (AO : Option Addr) (co : Nat) (AL : Option Addr) (cl : Nat) (ps : List Rat) (g gll N : Nat) (ls : List Lb) : Prop where
  tt : Blk wr w.heap.size 25 #[.int .i64 t.nodes, .slice AO t.over.length co, .slice AL t.links.length cl]
  rr : Blk wr (w.heap.size + 1) 38 #[.bool false, .slice none 0 0, .slice none 0 0]
  lab : LbsR wr ps g ls
  len : ls.length = N
  ok : lenOk ls
  ll : LL wr gll N (leavP t)
  gg : w.heap.size + 2 ≤ g
  ext : Ext w wr
theorem ChSt.keep {w wr w' : World} {t : Tp} {AO : Option Addr} {co : Nat} {AL : Option Addr} {cl : Nat} {ps : List Rat} {g gll N : Nat} {ls : List Lb} (h : ChSt w wr t AO co AL cl ps g gll N ls) (hx : Ext wr w') : ChSt w w' t AO co AL cl ps g gll N ls :=
  ⟨h.tt.keep hx, h.rr.keep hx, h.lab.keep hx, h.len, h.ok, h.ll.keep hx, h.gg, h.ext.tr hx⟩
/-- The labels' row turns. -/
theorem ChSt.turn {w wr w' : World} {t : Tp} {AO : Option Addr} {co : Nat} {AL : Option Addr} {cl : Nat} {ps : List Rat} {g gll N : Nat} {ls ls' : List Lb} (h : ChSt w wr t AO co AL cl ps g gll N ls) (hg : wr.grownBy w' (some g)) (hl : LbsR w' ps g ls') (hlen : ls'.length = N) (hok : lenOk ls') : ChSt w w' t AO co AL cl ps g gll N ls' := by
  obtain ⟨css, h1, h2, h3, h4⟩ := h.lab
  have hgg := h.gg
  exact ⟨(hg.block _ h.tt.lt (fun e => by injection e with e; omega)).trans h.tt, (hg.block _ h.rr.lt (fun e => by injection e with e; omega)).trans h.rr, hl, hlen, hok, h.ll.other hg h3 (by decide) (by decide), hgg, Below.grown h.ext hg h.ext.size (fun k hk => by injection hk with hk; omega)⟩
theorem SzL_of {ps : List Rat} {P N : Nat} {ls : List Lb} (hP : 1 ≤ P) (hP2 : P ≤ 1000000) (h : ∀ q ∈ ps, SzQ q P) (hok : lenOk ls) (hl : ls.length = N) (hN : N ≤ 64) : SzL ps ls := fun lb hlb => by
  have h1 := hok lb hlb
  refine ⟨(SzQ.pr hP h lb.arcs).mono ?_, by omega⟩
  have h2 : lb.arcs.length * (P + 1) ≤ 64 * 1000001 := Nat.mul_le_mul (by omega) (by omega)
  omega
theorem RdT.grownK {w w' : World} {t t' : TypeId} {A : Option Addr} {xs : List Value} {row : Option Nat} (h : RdT w t A xs) (hg : w.grownBy w' row) (hr : ∀ k, row = some k → ∃ cs fr, w.heap[k]? = some (.cells cs t' fr)) (hne : t ≠ t') : RdT w' t A xs :=
  h.grown hg (fun hx ad had e => by
    obtain ⟨b, o, cs, fr, e1, e2, _⟩ := h hx
    rw [had] at e1
    injection e1 with e1
    subst e1
    obtain ⟨c9, f9, e9⟩ := hr _ e.symm
    rw [e2] at e9
    injection e9 with e9
    injection e9 with _ e9
    exact hne e9)
theorem RatR.grownK {w w' : World} {t' : TypeId} {neg : Bool} {A : Option Addr} {n c : Nat} {A' : Option Addr} {n' c' : Nat} {q : Rat} {row : Option Nat} (h : RatR w neg A n c A' n' c' q) (hg : w.grownBy w' row) (hr : ∀ k, row = some k → ∃ cs fr, w.heap[k]? = some (.cells cs t' fr)) (hne : 120 ≠ t') : RatR w' neg A n c A' n' c' q := by
  obtain ⟨h1, ⟨ds, a1, a2, a3, a4, a5⟩, ⟨es, b1, b2, b3, b4, b5⟩⟩ := h
  exact ⟨h1, ⟨ds, a1, a2, a3, a4, a5.grownK hg hr hne⟩, ⟨es, b1, b2, b3, b4, b5.grownK hg hr hne⟩⟩
theorem Blk.grownK {w w' : World} {t t' : TypeId} {g : Nat} {cs : Array Value} {row : Option Nat} (h : Blk w g t cs) (hg : w.grownBy w' row) (hr : ∀ k, row = some k → ∃ cs fr, w.heap[k]? = some (.cells cs t' fr)) (hne : t ≠ t') : Blk w' g t cs :=
  (hg.block g h.lt (fun e => by
    obtain ⟨c9, f9, e9⟩ := hr _ e.symm
    unfold Blk at h
    rw [h] at e9
    injection e9 with e9
    injection e9 with _ e9
    exact hne e9)).trans h
theorem cloneO_ok (AX : Option Addr) (cx : Nat) (l : List Nat) (w : World) (hq : RdT w 3 AX (ints l)) (hl : l.length ≤ 1000) :
    Calls Tryz.prog 29 #[.slice AX l.length cx] w fun e w' => ∃ v, e = .returned v ∧ w'.ownsRow w.heap.size 3 1 v l.length (ints l) ∧ Ext w w' := by
  obtain ⟨ti, hi, hz0, hz1, hz2⟩ := info_parts Tryz.info3
  cases AX with
  | none =>
    have hn : l = [] := by
      cases l with
      | nil => rfl
      | cons a l => obtain ⟨_, _, _, _, e, _⟩ := hq (by simp [ints]); cases e
    subst hn
    refine (Tryz.slices_Clone_nil 0 cx w).mono ?_
    rintro e w' ⟨rfl, rfl⟩
    exact ⟨_, rfl, World.ownsRow_nil _ _ _ _, Ext.refl _⟩
  | some ad =>
    by_cases hne : l = []
    · subst hne
      refine (Tryz.slices_Clone_int_zero ad cx w).mono ?_
      rintro e w' ⟨v', rfl, hown, _, hbel⟩
      exact ⟨v', rfl, hown, hbel⟩
    · obtain ⟨b, o, cs, fr, e, hb, hc⟩ := hq (by simpa [ints] using hne)
      injection e with e
      subst e
      refine (Tryz.slices_Clone ti (.int .i64 0) 1 8 hi hz0 hz1 hz2 rfl (by decide) (fun w => by simp [Go.sizeOf, typeInfo, hi, hz1]) b o l.length cx (ints l) w (by simp [ints]) (by unfold maxLen; omega) (by omega) ?_ (ints_one _)).mono ?_
      · intro j u hj
        have hjl := (List.getElem?_eq_some_iff.1 hj).1
        rw [cell_of_row w b (o + j) cs _ fr hb, hc j hjl]
        exact hj
      · rintro e w' ⟨v', rfl, hown, _, hbel⟩
        exact ⟨v', rfl, hown, hbel⟩
theorem put_grown (w : World) (g m : Nat) (v0 v1 v2 v3 v4 v5 : Value) : w.grownBy ((((((w.setCell ⟨g, m * 6, none⟩ v0).setCell ⟨g, m * 6 + 1, none⟩ v1).setCell ⟨g, m * 6 + 2, none⟩ v2).setCell ⟨g, m * 6 + 3, none⟩ v3).setCell ⟨g, m * 6 + 4, none⟩ v4).setCell ⟨g, m * 6 + 5, none⟩ v5) (some g) :=
  (((((grown_set w g (m * 6) v0).trans (grown_set _ g (m * 6 + 1) v1)).trans (grown_set _ g (m * 6 + 2) v2)).trans (grown_set _ g (m * 6 + 3) v3)).trans (grown_set _ g (m * 6 + 4) v4)).trans (grown_set _ g (m * 6 + 5) v5)
theorem cell_drew {w : World} {p : Addr} {v : Value} (h : w.cell? p = some v) : w.drew.cell? p = some v := h
theorem rd_src {w : World} {g : Nat} {a : Int} (h : Blk w g 3 #[.int .i64 a]) : Rd w (some ⟨g, 0, none⟩) [.int .i64 a] := (RdT.of_blk h rfl).rd
theorem own_rd8 {w : World} {B g c a : Nat} {l : List Nat} (h : w.ownsRow B 3 1 (.slice (some ⟨g, 0, none⟩) (l.length + 1) c) (l.length + 1) (ints l ++ [.int .i64 (a : Int)])) : RdT w 3 (some ⟨g, 0, none⟩) (ints (l ++ [a])) := by
  obtain ⟨A', c', q1, q2, q3⟩ := ownsRow_rdT (l := l ++ [a]) (by rw [ints_snoc]; exact h) (by simp)
  injection q1 with q1 _ q4
  subst q1 q4
  exact q3
/-- The new label. -/
def NextPost (w : World) (ps : List Rat) (arcs : List Nat) (p : Value) (wx : World) : Prop :=
  ∃ (gl : Nat) (neg : Bool) (A : Option Addr) (n c : Nat) (A' : Option Addr) (n' c' : Nat) (AX : Option Addr) (cx : Nat), p = .pointer (some ⟨gl, 0, none⟩) ∧ Blk wx gl 68 #[.bool true, .bool false, .bool neg, .slice A n c, .slice A' n' c', .slice AX arcs.length cx] ∧ RatR wx neg A n c A' n' c' (prQ ps arcs) ∧ arcs.length ≤ cx ∧ RdT wx 3 AX (ints arcs) ∧ w.heap.size ≤ gl ∧ Ext w wx
theorem next_new {W w : World} {ps : List Rat} {arcs : List Nat} {neg : Bool} {A : Option Addr} {n c : Nat} {A' : Option Addr} {n' c' : Nat} {AX : Option Addr} {cx k : Nat} (hk : arcs.length = k) (hR : RatR w neg A n c A' n' c' (prQ ps arcs)) (hc : arcs.length ≤ cx) (hX : RdT w 3 AX (ints arcs)) (hx : Ext W w) :
    NextPost W ps arcs (.pointer (some ⟨w.heap.size, 0, none⟩)) (w.alloc (.cells #[.bool true, .bool false, .bool neg, .slice A n c, .slice A' n' c', .slice AX k cx] 68)) := by
  subst hk
  exact ⟨w.heap.size, neg, A, n, c, A', n', c', AX, cx, rfl, Blk.new _ _ _, hR.keep ((Ext.refl w).alloc _), hc, hX.keep ((Ext.refl w).alloc _), hx.size, hx.alloc _⟩
theorem next_set {W w : World} {ps : List Rat} {arcs : List Nat} {neg : Bool} {A : Option Addr} {n c : Nat} {A' : Option Addr} {n' c' : Nat} {AX : Option Addr} {cx gl k : Nat} {z0 z1 z2 z3 z4 z5 : Value} (hk : arcs.length = k) (hb : Blk w gl 68 #[z0, z1, z2, z3, z4, z5]) (hR : RatR w neg A n c A' n' c' (prQ ps arcs)) (hc : arcs.length ≤ cx) (hX : RdT w 3 AX (ints arcs)) (hg : W.heap.size ≤ gl) (hx : Ext W w) :
    NextPost W ps arcs (.pointer (some ⟨gl, 0, none⟩)) ((((((w.setCell ⟨gl, 0, none⟩ (.bool true)).setCell ⟨gl, 1, none⟩ (.bool false)).setCell ⟨gl, 2, none⟩ (.bool neg)).setCell ⟨gl, 3, none⟩ (.slice A n c)).setCell ⟨gl, 4, none⟩ (.slice A' n' c')).setCell ⟨gl, 5, none⟩ (.slice AX k cx)) := by
  subst hk
  have b0 := hb.set_ 0 (.bool true)
  have b1 := b0.set_ 1 (.bool false)
  have b2 := b1.set_ 2 (.bool neg)
  have b3 := b2.set_ 3 (.slice A n c)
  have b4 := b3.set_ 4 (.slice A' n' c')
  have b5 := b4.set_ 5 (.slice AX arcs.length cx)
  refine ⟨gl, neg, A, n, c, A', n', c', AX, cx, rfl, b5, ?_, hc, ?_, hg, ?_⟩
  · exact (((((hR.set_ (p := ⟨gl, 0, none⟩) hb (by decide) _).set_ (p := ⟨gl, 1, none⟩) b0 (by decide) _).set_ (p := ⟨gl, 2, none⟩) b1 (by decide) _).set_ (p := ⟨gl, 3, none⟩) b2 (by decide) _).set_ (p := ⟨gl, 4, none⟩) b3 (by decide) _).set_ (p := ⟨gl, 5, none⟩) b4 (by decide) _
  · exact (((((hX.set_ (p := ⟨gl, 0, none⟩) hb (by decide) _).set_ (p := ⟨gl, 1, none⟩) b0 (by decide) _).set_ (p := ⟨gl, 2, none⟩) b1 (by decide) _).set_ (p := ⟨gl, 3, none⟩) b2 (by decide) _).set_ (p := ⟨gl, 4, none⟩) b3 (by decide) _).set_ (p := ⟨gl, 5, none⟩) b4 (by decide) _
  · exact (((((hx.set_ (p := ⟨gl, 0, none⟩) hg _).set_ (p := ⟨gl, 1, none⟩) hg _).set_ (p := ⟨gl, 2, none⟩) hg _).set_ (p := ⟨gl, 3, none⟩) hg _).set_ (p := ⟨gl, 4, none⟩) hg _).set_ (p := ⟨gl, 5, none⟩) hg _
end Go.Proofs.YtjmkcckbbgpkeaaGreatDoor
