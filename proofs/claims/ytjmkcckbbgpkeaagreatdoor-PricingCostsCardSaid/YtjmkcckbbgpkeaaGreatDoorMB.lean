/- Plain facts on rational numbers in lowest terms. -/
/- rational.one, times, whole: what each call returns. -/
/- rational.reduced: the quotient in lowest terms, for a denominator that is not 0. -/
/- rational.magnitude, Of, Int, Den, Sign: what each call returns. -/
/- rational.signed, Cmp: what each call returns, for numbers of fewer than 2^28 digits. -/
/- rational.Cmp: what the call returns, for numbers of fewer than 2^28 digits. -/
/- rational.Add: what the call returns; that reduced is right at the cross sum and the product of the denominators is a hypothesis. -/
import Derived.Test.YtjmkcckbbgpkeaaGreatDoorMA
import Derived.Deep.DeepCutAuto
set_option linter.unusedVariables false
set_option linter.unusedSimpArgs false

namespace Go.Proofs.YtjmkcckbbgpkeaaGreatDoor
/-- The quotient of two natural numbers, or the negated one. -/
def mkQ (neg : Bool) (n d : Nat) : Rat := mkRat (if neg then -(n : Int) else n) d
theorem sgn_abs (neg : Bool) (n : Nat) : (if neg then -(n : Int) else n).natAbs = n := by cases neg <;> simp
theorem mkQ_abs (neg : Bool) {n d : Nat} (hd : d ≠ 0) : (mkQ neg n d).num.natAbs = n / n.gcd d := by
  unfold mkQ
  rw [Rat.mkRat_def, dif_neg hd, Rat.normalize_eq]
  simp only [sgn_abs]
  cases neg
  · simp only [Bool.false_eq_true, if_false]; rw [← Int.natCast_ediv, Int.natAbs_natCast]
  · simp only [if_true]
    rw [Int.neg_ediv_of_dvd (Int.natCast_dvd_natCast.2 (Nat.gcd_dvd_left n d)), ← Int.natCast_ediv, Int.natAbs_neg, Int.natAbs_natCast]
theorem mkQ_den (neg : Bool) {n d : Nat} (hd : d ≠ 0) : (mkQ neg n d).den = d / n.gcd d := by
  unfold mkQ
  rw [Rat.mkRat_def, dif_neg hd, Rat.normalize_eq]
  simp only [sgn_abs]
theorem mkQ_neg (neg : Bool) {n d : Nat} (hd : d ≠ 0) : decide ((mkQ neg n d).num < 0) = (neg && n != 0) := by
  unfold mkQ
  rw [Rat.mkRat_def, dif_neg hd, Rat.normalize_eq]
  simp only [sgn_abs]
  have hg : 0 < n.gcd d := Nat.gcd_pos_of_pos_right n (by omega)
  cases neg
  · simp only [Bool.false_eq_true, if_false, Bool.false_and, decide_eq_false_iff_not]; rw [← Int.natCast_ediv]; exact Int.not_lt.2 (Int.natCast_nonneg _)
  · simp only [if_true, Bool.true_and]
    rw [Int.neg_ediv_of_dvd (Int.natCast_dvd_natCast.2 (Nat.gcd_dvd_left n d)), ← Int.natCast_ediv]
    by_cases h0 : n = 0
    · subst h0; simp
    · have : 0 < n / n.gcd d := Nat.div_pos (Nat.le_of_dvd (by omega) (Nat.gcd_dvd_left n d)) hg
      have h1 : (n != 0) = true := by simpa using h0
      rw [h1]; simp; omega
theorem mkQ_self (q : Rat) : mkQ (decide (q.num < 0)) q.num.natAbs q.den = q := by
  unfold mkQ
  have : (if decide (q.num < 0) = true then -(q.num.natAbs : Int) else q.num.natAbs) = q.num := by
    by_cases h : q.num < 0 <;> simp [h] <;> omega
  rw [this, Rat.mkRat_self]
/-- The denominator as it is kept: 0 stands for 1. -/
def dk (q : Rat) : Nat := if q.den = 1 then 0 else q.den
/-- The number for which a kept denominator stands. -/
def dn (d : Nat) : Nat := if d = 0 then 1 else d
theorem dn_dk (q : Rat) : dn (dk q) = q.den := by
  unfold dn dk
  have := q.den_nz
  split <;> (try split at *) <;> omega
theorem dk_zero (q : Rat) : dk q = 0 ↔ q.den = 1 := by
  unfold dk
  have := q.den_nz
  split <;> omega
end Go.Proofs.YtjmkcckbbgpkeaaGreatDoor


namespace Go.Proofs.YtjmkcckbbgpkeaaGreatDoor
open Go.RowKit

/-- The struct's cells (neg, A n c, A' n' c') are the number q. -/
def RatR (w : World) (neg : Bool) (A : Option Addr) (n c : Nat) (A' : Option Addr) (n' c' : Nat) (q : Rat) : Prop :=
  neg = decide (q.num < 0) ∧ NatR w A n c q.num.natAbs ∧ NatR w A' n' c' (dk q)
section
variable {w w' : World} {neg : Bool} {A : Option Addr} {n c : Nat} {A' : Option Addr} {n' c' : Nat} {q : Rat}
theorem RatR.keep (h : RatR w neg A n c A' n' c' q) (hb : Ext w w') : RatR w' neg A n c A' n' c' q := ⟨h.1, h.2.1.keep hb, h.2.2.keep hb⟩
theorem RatR.set_ (h : RatR w neg A n c A' n' c' q) {p : Addr} {t' : TypeId} {cs' : Array Value} (hp : Blk w p.block t' cs') (hne : 120 ≠ t') (u : Value) : RatR (w.setCell p u) neg A n c A' n' c' q :=
  ⟨h.1, h.2.1.set_ hp hne u, h.2.2.set_ hp hne u⟩
end
def RatPost (w : World) (q : Rat) (e : Ending) (w' : World) : Prop :=
  ∃ (neg : Bool) (A : Option Addr) (n c : Nat) (A' : Option Addr) (n' c' : Nat), e = .returned (.agg #[.bool neg, .slice A n c, .slice A' n' c']) ∧ RatR w' neg A n c A' n' c' q ∧ Ext w w'
theorem natPost_set {w w1 : World} {g N : Nat} {A : Option Addr} {n c : Nat} {z : Value} {t : TypeId} (hb : Blk w1 g t #[z]) (ht : 120 ≠ t) (hR : NatR w1 A n c N) (hx : Ext w w1) (hg : w.heap.size ≤ g) :
    NatPost w N (.returned (.agg #[.slice A n c])) (w1.setCell ⟨g, 0, none⟩ (.slice A n c)) := ⟨_, _, _, rfl, hR.set_ hb ht _, hx.set_ hg _⟩

set_option maxHeartbeats 2000000 in
theorem one_any (A : Option Addr) (n c N : Nat) (w : World) (h : NatR w A n c N) :
    Calls Tryz.prog 82 #[.agg #[.slice A n c]] w fun e w' => e = .returned (.bool (decide (N = 1))) ∧ Ext w w' := by
  have H := Lib.hid h
  clear h
  obtain ⟨hba, e0⟩ := boxes1 w #[.slice A n c] 36
  have hcase : (N < 18446744073709551616 ∧ ((N : Int) == 1) = decide (N = 1)) ∨ (18446744073709551616 ≤ N ∧ decide (N = 1) = false) := by
    rcases Nat.lt_or_ge N 18446744073709551616 with h | h
    · refine .inl ⟨h, ?_⟩
      by_cases h1 : N = 1
      · simp [h1]
      · rw [beq_eq_false_iff_ne.2 (by omega)]; simp [h1]
    · exact .inr ⟨h, by simp; omega⟩
  generalize decide (N = 1) = b at *
  rcases hcase with ⟨hN, hb⟩ | ⟨hN, rfl⟩
  · go_enter Tryz.func82, Tryz.ntmps82
    go_wp2_with fail
    refine (natUint64_small A n c N _ (H.out.keep e0) hN).mono ?_
    rintro e w1 ⟨rfl, hx1⟩
    have HX := Lib.hid (e0.tr hx1)
    clear hx1 e0 hba
    go_wp2
    go_ret
    exact ⟨rfl, HX.out⟩
  · go_enter Tryz.func82, Tryz.ntmps82
    go_wp2_with fail
    refine (natUint64_big A n c N _ (H.out.keep e0) (by omega)).mono ?_
    rintro e w1 ⟨rfl, hx1⟩
    have HX := Lib.hid (e0.tr hx1)
    clear hx1 e0 hba
    go_wp2
    go_ret
    exact ⟨rfl, HX.out⟩

set_option maxHeartbeats 2000000 in
theorem times_any (A1 A2 : Option Addr) (n1 c1 n2 c2 a d : Nat) (w : World) (h1 : NatR w A1 n1 c1 a) (h2 : NatR w A2 n2 c2 d) (hn1 : n1 ≤ 1073741824) (hn2 : n2 ≤ 1073741824) :
    Calls Tryz.prog 41 #[.agg #[.slice A1 n1 c1], .agg #[.slice A2 n2 c2]] w (NatPost w (a * dn d)) := by
  have H1 := Lib.hid h1
  have H2 := Lib.hid h2
  obtain ⟨hba, hbb, hbr, e0⟩ := boxes3 w #[.slice A1 n1 c1] 36 #[.slice A2 n2 c2] 36 #[.slice none 0 0] 36
  by_cases h0 : d = 0
  · have zb : ((n2 : Int) == 0) = true := by have := h2.eq_zero; simp; omega
    have hv : a * dn d = a := by unfold dn; rw [if_pos h0, Nat.mul_one]
    rw [hv]
    clear h1 h2 hv h0
    go_enter Tryz.func41, Tryz.ntmps41
    go_wp2_with fail
    refine (isZero_any A2 n2 c2 _).mono ?_
    rintro e w1 ⟨rfl, hx1⟩
    have hba := hba.keep hx1
    have hbr := hbr.keep hx1
    have ca := hba.one.1
    obtain ⟨d2, f2⟩ := hbr.one
    have HX := Lib.hid (e0.tr hx1)
    clear hx1 e0
    go_wp2
    exact bodyPost_ret (v := .agg #[.slice A1 n1 c1]) (by simp [results, Tryz.results41, go_sem, (hbr.set_ 0 _).cell]) rfl (natPost_set hbr (by decide) (H1.out.keep HX.out) HX.out (by omega))
  · have zb : ((n2 : Int) == 0) = false := by have := h2.eq_zero; exact beq_eq_false_iff_ne.2 (by omega)
    have hv : a * dn d = a * d := by unfold dn; rw [if_neg h0]
    rw [hv]
    clear h1 h2 hv h0
    go_enter Tryz.func41, Tryz.ntmps41
    go_wp2_with fail
    refine (isZero_any A2 n2 c2 _).mono ?_
    rintro e w1 ⟨rfl, hx1⟩
    have hba := hba.keep hx1
    have hbb := hbb.keep hx1
    have hbr := hbr.keep hx1
    have ca := hba.one.1
    have cb := hbb.one.1
    have HX := Lib.hid (e0.tr hx1)
    clear hx1 e0
    go_wp2_with fail
    refine (natMul_any A1 A2 n1 c1 n2 c2 a d _ (H1.out.keep HX.out) (H2.out.keep HX.out) hn1 hn2).mono ?_
    rintro e w2 ⟨A, n, c, rfl, hR, hx2⟩
    have hbr := hbr.keep hx2
    obtain ⟨d2, f2⟩ := hbr.one
    have HX2 := Lib.hid (HX.out.tr hx2)
    have R := Lib.hid hR
    clear hx2 hR
    go_wp2
    exact bodyPost_ret (v := .agg #[.slice A n c]) (by simp [results, Tryz.results41, go_sem, (hbr.set_ 0 _).cell]) rfl (natPost_set hbr (by decide) R.out HX2.out (by omega))

theorem ratR_whole {w : World} {A : Option Addr} {n c N : Nat} (neg : Bool) (h : NatR w A n c N) : RatR w (neg && N != 0) A n c none 0 0 (mkQ neg N 1) := by
  refine ⟨(mkQ_neg neg (by omega)).symm, ?_, ?_⟩
  · rw [mkQ_abs neg (by omega), Nat.gcd_one_right, Nat.div_one]; exact h
  · have : dk (mkQ neg N 1) = 0 := by rw [dk_zero, mkQ_den neg (by omega), Nat.gcd_one_right]
    rw [this]; exact NatR.zero _ _ _
/-- A result of three cells is stored, and returned. -/
theorem ratPost_set {w w1 : World} {g : Nat} {q : Rat} {neg : Bool} {A : Option Addr} {n c : Nat} {A' : Option Addr} {n' c' : Nat} {z : Array Value} {t : TypeId} (hb : Blk w1 g t z) (ht : 120 ≠ t) (hR : RatR w1 neg A n c A' n' c' q) (hx : Ext w w1) (hg : w.heap.size ≤ g) :
    RatPost w q (.returned (.agg #[.bool neg, .slice A n c, .slice A' n' c'])) (((w1.setCell ⟨g, 0, none⟩ (.bool neg)).setCell ⟨g, 1, none⟩ (.slice A n c)).setCell ⟨g, 2, none⟩ (.slice A' n' c')) :=
  ⟨_, _, _, _, _, _, _, rfl, ((hR.set_ hb ht _).set_ (p := ⟨g, 1, none⟩) (hb.set_ 0 _) ht _).set_ (p := ⟨g, 2, none⟩) ((hb.set_ 0 _).set_ 1 _) ht _, ((hx.set_ hg _).set_ (p := ⟨g, 1, none⟩) hg _).set_ (p := ⟨g, 2, none⟩) hg _⟩
theorem RatPost.drew {w w' : World} {q : Rat} {e : Ending} (h : RatPost w q e w') : RatPost w q e w'.drew := by
  obtain ⟨neg, A, n, c, A', n', c', he, hr, hx⟩ := h
  exact ⟨neg, A, n, c, A', n', c', he, hr.keep ((Ext.refl _).drewN 1), hx.drewN 1⟩

set_option maxHeartbeats 2000000 in
theorem whole_any (neg : Bool) (A : Option Addr) (n c N : Nat) (w : World) (h : NatR w A n c N) :
    Calls Tryz.prog 19 #[.bool neg, .agg #[.slice A n c]] w (RatPost w (mkQ neg N 1)) := by
  have H := Lib.hid h
  obtain ⟨hba, hbr, e0⟩ := boxes2 w #[.slice A n c] 36 #[.bool false, .slice none 0 0, .slice none 0 0] 38
  have hw : ∀ w', Ext w w' → RatR w' (neg && N != 0) A n c none 0 0 (mkQ neg N 1) := fun w' hx => ratR_whole neg (h.keep hx)
  have hw := Lib.hid hw
  have hz : (!((n : Int) == 0)) = (N != 0) := by
    have := h.eq_zero
    by_cases h0 : N = 0
    · have : n = 0 := by omega
      subst this; subst h0; rfl
    · have : n ≠ 0 := by omega
      rw [beq_eq_false_iff_ne.2 (by omega), bne_iff_ne.2 h0]; rfl
  generalize hnz : (N != 0) = nz at *
  clear h hnz
  cases neg
  · go_enter Tryz.func19, Tryz.ntmps19
    go_wp2
    go_region
    go_wp2
    exact bodyPost_ret (v := .agg #[.bool false, .slice A n c, .slice none 0 0]) (by simp [results, Tryz.results19, go_sem]) rfl ⟨_, _, _, _, _, _, _, rfl, hw.out _ ((((Ext.refl w).alloc _).alloc _).drewN 1), (((Ext.refl w).alloc _).alloc _).drewN 1⟩
  · have hba := hba
    have hba : Blk ((w.alloc (.cells #[.slice A n c] 36)).alloc (.cells #[.bool false, .slice none 0 0, .slice none 0 0] 38)).drew _ _ _ := hba
    have hbr : Blk ((w.alloc (.cells #[.slice A n c] 36)).alloc (.cells #[.bool false, .slice none 0 0, .slice none 0 0] 38)).drew _ _ _ := hbr
    have e0 : Ext w ((w.alloc (.cells #[.slice A n c] 36)).alloc (.cells #[.bool false, .slice none 0 0, .slice none 0 0] 38)).drew := e0.drewN 1
    have ca := hba.one.1
    go_enter Tryz.func19, Tryz.ntmps19
    go_wp2
    go_region_held3 (fun w' => w'.cell? ⟨w.heap.size, 0, none⟩ = some (.slice A n c)) (first | exact ca | go_keep)
      (first | (go_at_call 44; refine (isZero_any _ _ _ _).mono ?_; rintro e w1 ⟨rfl, hx1⟩; have hba := hba.keep hx1; have hbr := hbr.keep hx1; have HX1 := Lib.hid (e0.tr hx1); obtain ⟨ca, _⟩ := hba.one; obtain ⟨⟨c0, c1, c2⟩, f0, f1, f2⟩ := hbr.three; clear hx1))
    go_wp2
    exact bodyPost_ret (v := .agg #[.bool nz, .slice A n c, .slice none 0 0]) (by simp [results, Tryz.results19, go_sem, (((hbr.set_ 0 _).set_ 1 _).set_ 2 _).cell]) rfl (ratPost_set hbr (by decide) (hw.out _ HX1.out) HX1.out (by omega))

end Go.Proofs.YtjmkcckbbgpkeaaGreatDoor


namespace Go.Proofs.YtjmkcckbbgpkeaaGreatDoor
open Go.RowKit

theorem mkQ_zero (neg : Bool) (d : Nat) : mkQ neg 0 d = mkQ neg 0 1 := by
  unfold mkQ
  have : (if neg = true then -((0 : Nat) : Int) else ((0 : Nat) : Int)) = 0 := by cases neg <;> rfl
  rw [this]; simp
theorem mkQ_div (neg : Bool) {n d g : Nat} (hd : d ≠ 0) (hg : g = n.gcd d) : mkQ neg n d = mkQ neg (n / g) (d / g) := by
  subst hg
  have hg : 0 < n.gcd d := Nat.gcd_pos_of_pos_right n (by omega)
  have hd' : d / n.gcd d ≠ 0 := by
    have := Nat.div_pos (Nat.le_of_dvd (by omega) (Nat.gcd_dvd_right n d)) hg; omega
  unfold mkQ
  rw [Rat.mkRat_eq_iff hd hd']
  have e1 : n = n / n.gcd d * n.gcd d := (Nat.div_mul_cancel (Nat.gcd_dvd_left n d)).symm
  have e2 : d = d / n.gcd d * n.gcd d := (Nat.div_mul_cancel (Nat.gcd_dvd_right n d)).symm
  have e : (n : Int) * ((d / n.gcd d : Nat) : Int) = ((n / n.gcd d : Nat) : Int) * (d : Int) := by
    rw [← Int.natCast_mul, ← Int.natCast_mul]
    congr 1
    generalize hG : n.gcd d = G at *
    generalize n / G = x at *
    generalize d / G = y at *
    rw [e1, e2]
    simp only [Nat.mul_comm, Nat.mul_left_comm]
  cases neg
  · simpa using e
  · simp only [if_true, Int.neg_mul]; rw [e]
/-- A quotient in lowest terms. -/
theorem ratR_low {w : World} {neg : Bool} {A : Option Addr} {n c : Nat} {A' : Option Addr} {n' c' N D : Nat} (h : NatR w A n c N) (h' : NatR w A' n' c' D) (hN : N ≠ 0) (hD : D ≠ 0) (hD1 : D ≠ 1) (hg : N.gcd D = 1) :
    RatR w neg A n c A' n' c' (mkQ neg N D) := by
  refine ⟨?_, ?_, ?_⟩
  · rw [mkQ_neg neg hD, bne_iff_ne.2 hN, Bool.and_true]
  · rw [mkQ_abs neg hD, hg, Nat.div_one]; exact h
  · have : dk (mkQ neg N D) = D := by unfold dk; rw [mkQ_den neg hD, hg, Nat.div_one, if_neg hD1]
    rw [this]; exact h'

set_option maxHeartbeats 2000000 in
theorem reduced_whole (neg : Bool) (A1 A2 : Option Addr) (n1 c1 n2 c2 N D : Nat) (w : World) (h1 : NatR w A1 n1 c1 N) (h2 : NatR w A2 n2 c2 D) (h : N = 0 ∨ D = 1) :
    Calls Tryz.prog 54 #[.bool neg, .agg #[.slice A1 n1 c1], .agg #[.slice A2 n2 c2]] w (RatPost w (mkQ neg N D)) := by
  have H1 := Lib.hid h1
  have H2 := Lib.hid h2
  have hq : mkQ neg N D = mkQ neg N 1 := by
    rcases h with h | h
    · rw [h, mkQ_zero]
    · rw [h]
  rw [hq]
  obtain ⟨hba, hbb, hbr, e0⟩ := boxes3 w #[.slice A1 n1 c1] 36 #[.slice A2 n2 c2] 36 #[.bool false, .slice none 0 0, .slice none 0 0] 38
  by_cases h0 : N = 0
  · have zb : ((n1 : Int) == 0) = true := by have := h1.eq_zero; simp; omega
    clear h1 h2 h hq h0
    go_enter Tryz.func54, Tryz.ntmps54
    go_wp2_with fail
    refine (isZero_any A1 n1 c1 _).mono ?_
    rintro e w1 ⟨rfl, hx1⟩
    have hba := hba.keep hx1
    have hbr := hbr.keep hx1
    have ca := hba.one.1
    have HX := Lib.hid (e0.tr hx1)
    clear hx1 e0
    go_wp2_with fail
    refine (whole_any neg A1 n1 c1 N _ (H1.out.keep HX.out)).mono ?_
    rintro e w2 ⟨ng, A, n, c, A', n', c', rfl, hR, hx2⟩
    have hbr := hbr.keep hx2
    obtain ⟨⟨k0, k1, k2⟩, f0, f1, f2⟩ := hbr.three
    have HX2 := Lib.hid (HX.out.tr hx2)
    have R := Lib.hid hR
    clear hx2 hR
    go_wp2
    exact bodyPost_ret (v := .agg #[.bool ng, .slice A n c, .slice A' n' c']) (by simp [results, Tryz.results54, go_sem, (((hbr.set_ 0 _).set_ 1 _).set_ 2 _).cell]) rfl (ratPost_set hbr (by decide) R.out HX2.out (by omega))
  · have zb : ((n1 : Int) == 0) = false := by have := h1.eq_zero; exact beq_eq_false_iff_ne.2 (by omega)
    have hd1 : decide (D = 1) = true := by simp; omega
    have HD := Lib.hid hd1
    clear h1 h2 h hq h0 hd1
    go_enter Tryz.func54, Tryz.ntmps54
    go_wp2_with fail
    refine (isZero_any A1 n1 c1 _).mono ?_
    rintro e w1 ⟨rfl, hx1⟩
    have hba := hba.keep hx1
    have hbb := hbb.keep hx1
    have hbr := hbr.keep hx1
    have cb := hbb.one.1
    have HX := Lib.hid (e0.tr hx1)
    clear hx1 e0
    go_wp2_with fail
    refine (one_any A2 n2 c2 D _ (H2.out.keep HX.out)).mono ?_
    rintro e w3 ⟨rfl, hx3⟩
    rw [HD.out]
    have hba := hba.keep hx3
    have hbr := hbr.keep hx3
    have ca := hba.one.1
    have HX := Lib.hid (HX.out.tr hx3)
    clear hx3
    go_wp2_with fail
    refine (whole_any neg A1 n1 c1 N _ (H1.out.keep HX.out)).mono ?_
    rintro e w2 ⟨ng, A, n, c, A', n', c', rfl, hR, hx2⟩
    have hbr := hbr.keep hx2
    obtain ⟨⟨k0, k1, k2⟩, f0, f1, f2⟩ := hbr.three
    have HX2 := Lib.hid (HX.out.tr hx2)
    have R := Lib.hid hR
    clear hx2 hR
    go_wp2
    exact bodyPost_ret (v := .agg #[.bool ng, .slice A n c, .slice A' n' c']) (by simp [results, Tryz.results54, go_sem, (((hbr.set_ 0 _).set_ 1 _).set_ 2 _).cell]) rfl (ratPost_set hbr (by decide) R.out HX2.out (by omega))

set_option maxHeartbeats 4000000 in
theorem reduced_rest (neg : Bool) (A1 A2 : Option Addr) (n1 c1 n2 c2 N D : Nat) (w : World) (h1 : NatR w A1 n1 c1 N) (h2 : NatR w A2 n2 c2 D) (hn1 : n1 ≤ 1073741824) (hn2 : n2 ≤ 1073741824) (hN : N ≠ 0) (hD : D ≠ 0) (hD1 : D ≠ 1)
    (hdm : 18446744073709551616 ≤ N ∨ 18446744073709551616 ≤ D → ∀ x y, 0 < y → DivModAt x y) :
    Calls Tryz.prog 54 #[.bool neg, .agg #[.slice A1 n1 c1], .agg #[.slice A2 n2 c2]] w (RatPost w (mkQ neg N D)) := by
  have H1 := Lib.hid h1
  have H2 := Lib.hid h2
  have HDM := Lib.hid hdm
  have hgp : 0 < N.gcd D := Nat.gcd_pos_of_pos_left D (by omega)
  have hgle : N.gcd D ≤ N := Nat.le_of_dvd (by omega) (Nat.gcd_dvd_left N D)
  have hdn : DivModAt N (N.gcd D) := by
    rcases Nat.lt_or_ge N 18446744073709551616 with h | h
    · exact divModAt_small hgp h
    · exact hdm (.inl h) _ _ hgp
  have hdd : DivModAt D (N.gcd D) := by
    rcases Nat.lt_or_ge D 18446744073709551616 with h | h
    · exact divModAt_small hgp h
    · exact hdm (.inr h) _ _ hgp
  have HDN := Lib.hid hdn
  have HDD := Lib.hid hdd
  obtain ⟨hba, hbb, hbr, e0⟩ := boxes3 w #[.slice A1 n1 c1] 36 #[.slice A2 n2 c2] 36 #[.bool false, .slice none 0 0, .slice none 0 0] 38
  have zb : ((n1 : Int) == 0) = false := by have := h1.eq_zero; exact beq_eq_false_iff_ne.2 (by omega)
  have hd1 : decide (D = 1) = false := by simp; omega
  have HD1 := Lib.hid hd1
  have hq := Lib.hid (mkQ_div neg (n := N) (g := N.gcd D) hD rfl)
  clear h1 h2 hd1 hdn hdd hdm
  go_enter Tryz.func54, Tryz.ntmps54
  go_wp2_with fail
  refine (isZero_any A1 n1 c1 _).mono ?_
  rintro e w1 ⟨rfl, hx1⟩
  have hba := hba.keep hx1
  have hbb := hbb.keep hx1
  have hbr := hbr.keep hx1
  have cb := hbb.one.1
  have HX := Lib.hid (e0.tr hx1)
  clear hx1 e0
  go_wp2_with fail
  refine (one_any A2 n2 c2 D _ (H2.out.keep HX.out)).mono ?_
  rintro e w3 ⟨rfl, hx3⟩
  rw [HD1.out]
  have hba := hba.keep hx3
  have hbb := hbb.keep hx3
  have hbr := hbr.keep hx3
  have ca := hba.one.1
  have cb := hbb.one.1
  have HX := Lib.hid (HX.out.tr hx3)
  clear hx3
  go_wp2_with fail
  refine (gcd_any A1 A2 n1 c1 n2 c2 N D _ (H1.out.keep HX.out) (H2.out.keep HX.out) hn1 hn2 HDM.out).mono ?_
  rintro e w4 ⟨A3, n3, c3, rfl, hG, hx4⟩
  have z4 : w.heap.size + 1 + 1 < w4.heap.size := (hbr.keep hx4).lt
  have hba := (hba.keep hx4).alloc (.cells #[.slice A3 n3 c3] 36)
  have hbb := (hbb.keep hx4).alloc (.cells #[.slice A3 n3 c3] 36)
  have hbr := (hbr.keep hx4).alloc (.cells #[.slice A3 n3 c3] 36)
  have hbg := Blk.new w4 36 #[.slice A3 n3 c3]
  have HX4 := Lib.hid ((HX.out.tr hx4).alloc (.cells #[.slice A3 n3 c3] 36))
  have G4 := Lib.hid (hG.keep ((Ext.refl w4).alloc (.cells #[.slice A3 n3 c3] 36)))
  have hn3 : n3 ≤ n1 := hG.len_le H1.out hgle
  clear hx4 hG HDM
  go_wp2_with fail
  refine (one_any A3 n3 c3 (N.gcd D) _ G4.out).mono ?_
  rintro e w5 ⟨rfl, hx5⟩
  have hba := hba.keep hx5
  have hbb := hbb.keep hx5
  have hbr := hbr.keep hx5
  have hbg := hbg.keep hx5
  have ca := hba.one.1
  have cb := hbb.one.1
  have cg := hbg.one.1
  have HX5 := Lib.hid (HX4.out.tr hx5)
  have G5 := Lib.hid (G4.out.keep hx5)
  clear hx5 G4 HX4 HX
  by_cases hg1 : N.gcd D = 1
  · have hgb : decide (N.gcd D = 1) = true := by simpa using hg1
    rw [hgb]
    have HG1 := Lib.hid hg1
    clear hgb hg1
    go_wp2_with fail
    refine (one_any A2 n2 c2 D _ (H2.out.keep HX5.out)).mono ?_
    rintro e w6 ⟨rfl, hx6⟩
    rw [HD1.out]
    have hba := hba.keep hx6
    have hbb := hbb.keep hx6
    have hbr := hbr.keep hx6
    have ca := hba.one.1
    have cb := hbb.one.1
    obtain ⟨⟨k0, k1, k2⟩, f0, f1, f2⟩ := hbr.three
    have HX6 := Lib.hid (HX5.out.tr hx6)
    clear hx6
    go_wp2
    exact bodyPost_ret (v := .agg #[.bool neg, .slice A1 n1 c1, .slice A2 n2 c2]) (by simp [results, Tryz.results54, go_sem, (((hbr.set_ 0 _).set_ 1 _).set_ 2 _).cell]) rfl
      (ratPost_set hbr (by decide) (ratR_low (H1.out.keep HX6.out) (H2.out.keep HX6.out) hN hD hD1 HG1.out) HX6.out (by omega))
  · have hgb : decide (N.gcd D = 1) = false := by simpa using hg1
    rw [hgb]
    clear hgb hg1
    go_wp2_with fail
    refine (HDN.out A1 A3 n1 c1 n3 c3 _ (H1.out.keep HX5.out) G5.out hn1 (by omega)).mono ?_
    rintro e w6 ⟨B1, k1, d1, _, _, _, rfl, hQ, _, hx6⟩
    have hba6 := hba.keep hx6
    have hbb := (hbb.keep hx6).far (p := ⟨w.heap.size, 0, none⟩) (by first | (simp; omega) | simp) (.slice B1 k1 d1)
    have hbr := (hbr.keep hx6).far (p := ⟨w.heap.size, 0, none⟩) (by first | (simp; omega) | simp) (.slice B1 k1 d1)
    have hbg := (hbg.keep hx6).far (p := ⟨w.heap.size, 0, none⟩) (by first | (simp; omega) | simp) (.slice B1 k1 d1)
    have hba := hba6.set_ 0 (.slice B1 k1 d1)
    simp only [List.setIfInBounds_toArray, List.set_cons_zero] at hba
    obtain ⟨a6, g6⟩ := hba6.one
    have cb := hbb.one.1
    have cg := hbg.one.1
    have HX6 := Lib.hid ((HX5.out.tr hx6).set_ (p := ⟨w.heap.size, 0, none⟩) (by simp) (.slice B1 k1 d1))
    have G6 := Lib.hid ((G5.out.keep hx6).set_ (p := ⟨w.heap.size, 0, none⟩) hba6 (by decide) (.slice B1 k1 d1))
    have Q6 := Lib.hid (hQ.set_ (p := ⟨w.heap.size, 0, none⟩) hba6 (by decide) (.slice B1 k1 d1))
    clear hx6 hQ G5 HX5
    go_wp2_with fail
    refine (HDD.out A2 A3 n2 c2 n3 c3 _ (H2.out.keep HX6.out) G6.out hn2 (by omega)).mono ?_
    rintro e w7 ⟨B3, k3, d3, _, _, _, rfl, hS, _, hx7⟩
    have hbb7 := hbb.keep hx7
    have hba := (hba.keep hx7).far (p := ⟨w.heap.size + 1, 0, none⟩) (by first | (simp; omega) | simp) (.slice B3 k3 d3)
    have hbr := (hbr.keep hx7).far (p := ⟨w.heap.size + 1, 0, none⟩) (by first | (simp; omega) | simp) (.slice B3 k3 d3)
    have hbb := hbb7.set_ 0 (.slice B3 k3 d3)
    simp only [List.setIfInBounds_toArray, List.set_cons_zero] at hbb
    obtain ⟨a7, g7⟩ := hbb7.one
    have ca := hba.one.1
    have cb := hbb.one.1
    have HX7 := Lib.hid ((HX6.out.tr hx7).set_ (p := ⟨w.heap.size + 1, 0, none⟩) (by simp) (.slice B3 k3 d3))
    have Q7 := Lib.hid ((Q6.out.keep hx7).set_ (p := ⟨w.heap.size + 1, 0, none⟩) hbb7 (by decide) (.slice B3 k3 d3))
    have S7 := Lib.hid (hS.set_ (p := ⟨w.heap.size + 1, 0, none⟩) hbb7 (by decide) (.slice B3 k3 d3))
    clear hx7 hS G6 HX6 Q6
    go_wp2_with fail
    refine (one_any B3 k3 d3 (D / N.gcd D) _ S7.out).mono ?_
    rintro e w8 ⟨rfl, hx8⟩
    have hba := hba.keep hx8
    have hbb := hbb.keep hx8
    have hbr := hbr.keep hx8
    have ca := hba.one.1
    have cb := hbb.one.1
    have HX8 := Lib.hid (HX7.out.tr hx8)
    have Q8 := Lib.hid (Q7.out.keep hx8)
    have S8 := Lib.hid (S7.out.keep hx8)
    clear hx8 Q7 S7 HX7
    by_cases hd1 : D / N.gcd D = 1
    · have hdb : decide (D / N.gcd D = 1) = true := by simpa using hd1
      rw [hdb]
      have HQ := Lib.hid (hd1 ▸ hq.out)
      clear hdb hd1
      go_wp2_with fail
      refine (whole_any neg B1 k1 d1 (N / N.gcd D) _ Q8.out).mono ?_
      rintro e w9 ⟨ng, A, n, c, A', n', c', rfl, hR, hx9⟩
      have hbr := hbr.keep hx9
      obtain ⟨⟨k0, k1', k2⟩, f0, f1, f2⟩ := hbr.three
      have HX9 := Lib.hid (HX8.out.tr hx9)
      have R := Lib.hid hR
      clear hx9 hR
      go_wp2
      exact bodyPost_ret (v := .agg #[.bool ng, .slice A n c, .slice A' n' c']) (by simp [results, Tryz.results54, go_sem, (((hbr.set_ 0 _).set_ 1 _).set_ 2 _).cell]) rfl (by rw [HQ.out]; exact ratPost_set hbr (by decide) R.out HX9.out (by omega))
    · have hdb : decide (D / N.gcd D = 1) = false := by simpa using hd1
      rw [hdb]
      obtain ⟨⟨k0, k1', k2⟩, f0, f1, f2⟩ := hbr.three
      have hN' : N / N.gcd D ≠ 0 := by have := Nat.div_pos hgle hgp; omega
      have hD' : D / N.gcd D ≠ 0 := by have := Nat.div_pos (Nat.le_of_dvd (by omega) (Nat.gcd_dvd_right N D)) hgp; omega
      have HF := Lib.hid (ratR_low (neg := neg) Q8.out S8.out hN' hD' hd1 (by rw [Nat.gcd_div (Nat.gcd_dvd_left N D) (Nat.gcd_dvd_right N D), Nat.div_self hgp]))
      clear hdb hd1 hN' hD'
      go_wp2
      exact bodyPost_ret (v := .agg #[.bool neg, .slice B1 k1 d1, .slice B3 k3 d3]) (by simp [results, Tryz.results54, go_sem, (((hbr.set_ 0 _).set_ 1 _).set_ 2 _).cell]) rfl
        (by rw [hq.out]; exact ratPost_set hbr (by decide) HF.out HX8.out (by omega))

/-- reduced is right at N and D. -/
def ReducedAt (N D : Nat) : Prop := ∀ (neg : Bool) (A1 A2 : Option Addr) (n1 c1 n2 c2 : Nat) (w : World), NatR w A1 n1 c1 N → NatR w A2 n2 c2 D → n1 ≤ 1073741824 → n2 ≤ 1073741824 →
  Calls Tryz.prog 54 #[.bool neg, .agg #[.slice A1 n1 c1], .agg #[.slice A2 n2 c2]] w (RatPost w (mkQ neg N D))
theorem reducedAt_of {N D : Nat} (hD : D ≠ 0) (hdm : 18446744073709551616 ≤ N ∨ 18446744073709551616 ≤ D → ∀ x y, 0 < y → DivModAt x y) : ReducedAt N D := fun neg A1 A2 n1 c1 n2 c2 w h1 h2 hn1 hn2 => by
  by_cases h : N = 0 ∨ D = 1
  · exact reduced_whole neg A1 A2 n1 c1 n2 c2 N D w h1 h2 h
  · exact reduced_rest neg A1 A2 n1 c1 n2 c2 N D w h1 h2 hn1 hn2 (by omega) hD (by omega) hdm
theorem reducedAt_small {N D : Nat} (hD : D ≠ 0) (hN : N < 18446744073709551616) (hD' : D < 18446744073709551616) : ReducedAt N D := reducedAt_of hD (fun h => by omega)

end Go.Proofs.YtjmkcckbbgpkeaaGreatDoor


namespace Go.Proofs.YtjmkcckbbgpkeaaGreatDoor
open Go.RowKit

theorem wrap_neg (x : Int) (h0 : -9223372036854775808 ≤ x) (hx : x < 0) : IntKind.u64.wrap (-IntKind.u64.wrap x) = -x := by
  rw [IntKind.wrap_u64, IntKind.wrap_u64]; omega
set_option maxHeartbeats 2000000 in
theorem magnitude_any (x : Int) (w : World) (h0 : -9223372036854775808 ≤ x) (h1 : x ≤ 9223372036854775807) :
    Calls Tryz.prog 18 #[.int .i64 x] w fun e w' => ∃ (A : Option Addr) (n c : Nat), e = .returned (.tuple #[.agg #[.slice A n c], .bool (decide (x < 0))]) ∧ NatR w' A n c x.natAbs ∧ Ext w w' := by
  obtain ⟨hbr, e0⟩ := boxes1 w #[.slice none 0 0] 36
  by_cases hx : x < 0
  · have hd : decide (x < 0) = true := by simpa using hx
    rw [hd]
    clear hd
    go_enter Tryz.func18, Tryz.ntmps18
    go_wp2_with fail
    rw [wrap_neg x h0 hx]
    refine (natOf_any (-x) _ (by omega) (by omega)).mono ?_
    rintro e w2 ⟨A5, n5, c5, rfl, hR, hx2⟩
    have hR : NatR w2 A5 n5 c5 x.natAbs := by rw [show x.natAbs = (-x).toNat by omega]; exact hR
    have hbr := hbr.keep hx2
    obtain ⟨c2, f2⟩ := hbr.one
    have HX2 := Lib.hid (e0.tr hx2)
    have R := Lib.hid (hR)
    clear hx2 hR e0
    go_wp2
    exact bodyPost_ret (v := .tuple #[.agg #[.slice A5 n5 c5], .bool true]) (by simp [results, Tryz.results18, go_sem, (hbr.set_ 0 _).cell]) rfl (⟨_, _, _, rfl, R.out.set_ hbr (by decide) _, HX2.out.set_ (by simp) _⟩)
  · have hd : decide (x < 0) = false := by simpa using hx
    rw [hd]
    clear hd
    go_enter Tryz.func18, Tryz.ntmps18
    go_wp2_with fail
    refine (natOf_any x _ (by omega) (by omega)).mono ?_
    rintro e w2 ⟨A5, n5, c5, rfl, hR, hx2⟩
    have hR : NatR w2 A5 n5 c5 x.natAbs := by rw [show x.natAbs = x.toNat by omega]; exact hR
    have hbr := hbr.keep hx2
    obtain ⟨c2, f2⟩ := hbr.one
    have HX2 := Lib.hid (e0.tr hx2)
    have R := Lib.hid (hR)
    clear hx2 hR e0
    go_wp2
    exact bodyPost_ret (v := .tuple #[.agg #[.slice A5 n5 c5], .bool false]) (by simp [results, Tryz.results18, go_sem, (hbr.set_ 0 _).cell]) rfl (⟨_, _, _, rfl, R.out.set_ hbr (by decide) _, HX2.out.set_ (by simp) _⟩)

set_option maxHeartbeats 2000000 in
theorem den_any (neg : Bool) (A : Option Addr) (n c : Nat) (A' : Option Addr) (n' c' : Nat) (q : Rat) (w : World) (h : RatR w neg A n c A' n' c' q) :
    Calls Tryz.prog 55 #[.agg #[.bool neg, .slice A n c, .slice A' n' c']] w (NatPost w q.den) := by
  obtain ⟨hba, hbr, e0⟩ := boxes2 w #[.bool neg, .slice A n c, .slice A' n' c'] 38 #[.slice none 0 0] 36
  have H := Lib.hid (h.2.2)
  by_cases hd : q.den = 1
  · have zb : ((n' : Int) == 0) = true := by have := h.2.2.eq_zero; rw [dk_zero] at this; simp; omega
    rw [hd]
    clear h hd
    go_enter Tryz.func55, Tryz.ntmps55
    go_wp2_with fail
    refine (isZero_any A' n' c' _).mono ?_
    rintro e w1 ⟨rfl, hx1⟩
    have hbr := hbr.keep hx1
    have HX := Lib.hid (e0.tr hx1)
    clear hx1 e0
    go_wp2_with fail
    refine (natOf_any 1 _ (by omega) (by omega)).mono ?_
    rintro e w2 ⟨A5, n5, c5, rfl, hR, hx2⟩
    have hbr := hbr.keep hx2
    obtain ⟨c2, f2⟩ := hbr.one
    have HX2 := Lib.hid (HX.out.tr hx2)
    have R := Lib.hid (hR)
    clear hx2 hR
    go_wp2
    exact bodyPost_ret (v := .agg #[.slice A5 n5 c5]) (by simp [results, Tryz.results55, go_sem, (hbr.set_ 0 _).cell]) rfl (natPost_set hbr (by decide) R.out HX2.out (by omega))
  · have zb : ((n' : Int) == 0) = false := by have := h.2.2.eq_zero; rw [dk_zero] at this; exact beq_eq_false_iff_ne.2 (by omega)
    have hdk : dk q = q.den := by unfold dk; rw [if_neg hd]
    rw [hdk] at H
    clear h hd hdk
    go_enter Tryz.func55, Tryz.ntmps55
    go_wp2_with fail
    refine (isZero_any A' n' c' _).mono ?_
    rintro e w1 ⟨rfl, hx1⟩
    have hba := hba.keep hx1
    have hbr := hbr.keep hx1
    obtain ⟨⟨k0, k1, k2⟩, g0, g1, g2⟩ := hba.three
    obtain ⟨c2, f2⟩ := hbr.one
    have HX := Lib.hid (e0.tr hx1)
    clear hx1 e0
    go_wp2
    exact bodyPost_ret (v := .agg #[.slice A' n' c']) (by simp [results, Tryz.results55, go_sem, (hbr.set_ 0 _).cell]) rfl (natPost_set hbr (by decide) (H.out.keep HX.out) HX.out (by omega))

/-- The sign of a number. -/
def sgnI (q : Rat) : Int := if q.num = 0 then 0 else if q.num < 0 then -1 else 1
set_option maxHeartbeats 2000000 in
theorem sign_any (neg : Bool) (A : Option Addr) (n c : Nat) (A' : Option Addr) (n' c' : Nat) (q : Rat) (w : World) (h : RatR w neg A n c A' n' c' q) :
    Calls Tryz.prog 39 #[.agg #[.bool neg, .slice A n c, .slice A' n' c']] w fun e w' => e = .returned (.int .i64 (sgnI q)) ∧ Ext w w' := by
  obtain ⟨hba, e0⟩ := boxes1 w #[.bool neg, .slice A n c, .slice A' n' c'] 38
  have hcase : (((n : Int) == 0) = true ∧ sgnI q = 0) ∨ (((n : Int) == 0) = false ∧ neg = true ∧ sgnI q = -1) ∨ (((n : Int) == 0) = false ∧ neg = false ∧ sgnI q = 1) := by
    have h1 := h.2.1.eq_zero
    have h2 := h.1
    unfold sgnI
    by_cases h0 : q.num = 0
    · exact .inl ⟨by simp; omega, by rw [if_pos h0]⟩
    · have : ((n : Int) == 0) = false := beq_eq_false_iff_ne.2 (by omega)
      by_cases hn : q.num < 0
      · exact .inr (.inl ⟨this, by rw [h2]; simpa using hn, by rw [if_neg h0, if_pos hn]⟩)
      · exact .inr (.inr ⟨this, by rw [h2]; simpa using hn, by rw [if_neg h0, if_neg hn]⟩)
  clear h
  generalize sgnI q = s at *
  rcases hcase with ⟨zb, rfl⟩ | ⟨zb, rfl, rfl⟩ | ⟨zb, rfl, rfl⟩
  all_goals
    go_enter Tryz.func39, Tryz.ntmps39
    go_wp2_with fail
    refine (isZero_any A n c _).mono ?_
    rintro e w1 ⟨rfl, hx1⟩
    have hba := hba.keep hx1
    obtain ⟨⟨k0, k1, k2⟩, g0, g1, g2⟩ := hba.three
    have HX := Lib.hid (e0.tr hx1)
    clear hx1 e0
    go_wp2
    go_ret
    exact ⟨rfl, HX.out⟩

/-- The quotient of integers. -/
def ofQ (x y : Int) : Rat := mkQ (decide (x < 0) != decide (y < 0)) x.natAbs y.natAbs
theorem natAbs_len {w : World} {A : Option Addr} {n c N : Nat} (h : NatR w A n c N) (hN : N < 18446744073709551616) : n ≤ 2 := by
  obtain ⟨ds, rfl, _, hc, rfl, _⟩ := h
  exact hc.len_le B32_gt (by rw [B32_sq]; exact hN)

set_option maxHeartbeats 2000000 in
theorem ratOf_any (x y : Int) (w : World) (h0 : -9223372036854775808 ≤ x) (h1 : x ≤ 9223372036854775807) (h2 : -9223372036854775808 ≤ y) (h3 : y ≤ 9223372036854775807) (hy : y ≠ 0) :
    Calls Tryz.prog 42 #[.int .i64 x, .int .i64 y] w fun e w' => ∃ (neg : Bool) (A : Option Addr) (n c : Nat) (A' : Option Addr) (n' c' : Nat), e = .returned (.tuple #[.agg #[.bool neg, .slice A n c, .slice A' n' c'], .int .i64 0]) ∧ RatR w' neg A n c A' n' c' (ofQ x y) ∧ Ext w w' := by
  obtain ⟨hbr, e0⟩ := boxes1 w #[.bool false, .slice none 0 0, .slice none 0 0] 38
  have yb : (y == 0) = false := beq_eq_false_iff_ne.2 hy
  have RED := Lib.hid (reducedAt_small (N := x.natAbs) (D := y.natAbs) (by omega) (by omega) (by omega))
  go_enter Tryz.func42, Tryz.ntmps42
  go_wp2_with fail
  refine (magnitude_any x _ h0 h1).mono ?_
  rintro e w1 ⟨A1, n1, c1, rfl, hN, hx1⟩
  have hbr := (hbr.keep hx1).alloc (.cells #[.slice A1 n1 c1] 36)
  have hb1 := Blk.new w1 36 #[.slice A1 n1 c1]
  have HX1 := Lib.hid ((e0.tr hx1).alloc (.cells #[.slice A1 n1 c1] 36))
  have L1 := natAbs_len hN (by omega)
  have N1 := Lib.hid (hN.keep ((Ext.refl w1).alloc (.cells #[.slice A1 n1 c1] 36)))
  clear hx1 hN e0
  go_wp2_with fail
  refine (magnitude_any y _ h2 h3).mono ?_
  rintro e w2 ⟨A2, n2, c2, rfl, hD, hx2⟩
  have hbr := (hbr.keep hx2).alloc (.cells #[.slice A2 n2 c2] 36)
  have hb1 := (hb1.keep hx2).alloc (.cells #[.slice A2 n2 c2] 36)
  have hz1 : w1.heap.size < w2.heap.size := by have := hx2.size; simp at this; omega
  have hb2 := Blk.new w2 36 #[.slice A2 n2 c2]
  have cb1 := hb1.one.1
  have HX2 := Lib.hid ((HX1.out.tr hx2).alloc (.cells #[.slice A2 n2 c2] 36))
  have L2 := natAbs_len hD (by omega)
  have N2 := Lib.hid ((N1.out.keep hx2).keep ((Ext.refl w2).alloc (.cells #[.slice A2 n2 c2] 36)))
  have D2 := Lib.hid (hD.keep ((Ext.refl w2).alloc (.cells #[.slice A2 n2 c2] 36)))
  clear hx2 hD HX1 N1
  generalize hs : (decide (x < 0)) = s1 at *
  generalize hs' : (decide (y < 0)) = s2 at *
  go_wp2_with fail
  refine (RED.out (!(s1 == s2)) A1 A2 n1 c1 n2 c2 _ N2.out D2.out (by omega) (by omega)).mono ?_
  rintro e w3 ⟨ng, A, n, c, A', n', c', rfl, hR, hx3⟩
  have hbr := hbr.keep hx3
  obtain ⟨⟨k0, k1, k2⟩, g0, g1, g2⟩ := hbr.three
  have HX3 := Lib.hid (HX2.out.tr hx3)
  have R := Lib.hid (hR)
  have hq : ofQ x y = mkQ (!(s1 == s2)) x.natAbs y.natAbs := by unfold ofQ; rw [hs, hs']; rfl
  have HQ := Lib.hid (hq)
  clear hx3 hR hq hs hs'
  go_wp2
  exact bodyPost_ret (v := .tuple #[.agg #[.bool ng, .slice A n c, .slice A' n' c'], .int .i64 0]) (by simp [results, Tryz.results42, go_sem, (((hbr.set_ 0 _).set_ 1 _).set_ 2 _).cell]) rfl (by rw [HQ.out]; obtain ⟨_, _, _, _, _, _, _, he, h1, h2⟩ := ratPost_set hbr (by decide) R.out HX3.out (Nat.le_refl _); injection he with he; injection he with he; simp at he; obtain ⟨rfl, ⟨rfl, rfl, rfl⟩, rfl, rfl, rfl⟩ := he; exact ⟨_, _, _, _, _, _, _, rfl, h1, h2⟩)

set_option maxHeartbeats 2000000 in
theorem ratInt_any (x : Int) (w : World) (h0 : -9223372036854775808 ≤ x) (h1 : x ≤ 9223372036854775807) :
    Calls Tryz.prog 8 #[.int .i64 x] w (RatPost w (mkQ (decide (x < 0)) x.natAbs 1)) := by
  obtain ⟨hbr, e0⟩ := boxes1 w #[.bool false, .slice none 0 0, .slice none 0 0] 38
  go_enter Tryz.func8, Tryz.ntmps8
  go_wp2_with fail
  refine (magnitude_any x _ h0 h1).mono ?_
  rintro e w1 ⟨A1, n1, c1, rfl, hN, hx1⟩
  have hbr := (hbr.keep hx1).alloc (.cells #[.slice A1 n1 c1] 36)
  have hb1 := Blk.new w1 36 #[.slice A1 n1 c1]
  have HX1 := Lib.hid ((e0.tr hx1).alloc (.cells #[.slice A1 n1 c1] 36))
  have N1 := Lib.hid (hN.keep ((Ext.refl w1).alloc (.cells #[.slice A1 n1 c1] 36)))
  clear hx1 hN e0
  generalize hs : (decide (x < 0)) = s1 at *
  clear hs
  go_wp2_with fail
  refine (whole_any s1 A1 n1 c1 x.natAbs _ N1.out).mono ?_
  rintro e w3 ⟨ng, A, n, c, A', n', c', rfl, hR, hx3⟩
  have hbr := hbr.keep hx3
  obtain ⟨⟨k0, k1, k2⟩, g0, g1, g2⟩ := hbr.three
  have HX3 := Lib.hid (HX1.out.tr hx3)
  have R := Lib.hid (hR)
  clear hx3 hR
  go_wp2
  exact bodyPost_ret (v := .agg #[.bool ng, .slice A n c, .slice A' n' c']) (by simp [results, Tryz.results8, go_sem, (((hbr.set_ 0 _).set_ 1 _).set_ 2 _).cell]) rfl (ratPost_set hbr (by decide) R.out HX3.out (Nat.le_refl _))

end Go.Proofs.YtjmkcckbbgpkeaaGreatDoor


namespace Go.Proofs.YtjmkcckbbgpkeaaGreatDoor
open Go.RowKit

/-- A signed number. -/
def sval (neg : Bool) (n : Nat) : Int := if neg then -(n : Int) else n
def sgB (m : Bool) (a : Nat) (o : Bool) (b : Nat) : Bool := if m = o then m else if b ≤ a then m else o
def sgV (m : Bool) (a : Nat) (o : Bool) (b : Nat) : Nat := if m = o then a + b else if b ≤ a then a - b else b - a
theorem sg_sum (m : Bool) (a : Nat) (o : Bool) (b : Nat) : sval (sgB m a o b) (sgV m a o b) = sval m a + sval o b := by
  unfold sval sgB sgV
  cases m <;> cases o <;> by_cases h : b ≤ a <;> simp [h] <;> omega

set_option maxHeartbeats 2000000 in
theorem signed_any (m o : Bool) (A1 A2 : Option Addr) (n1 c1 n2 c2 a b : Nat) (w : World) (h1 : NatR w A1 n1 c1 a) (h2 : NatR w A2 n2 c2 b) (hn1 : n1 ≤ 1073741824) (hn2 : n2 ≤ 1073741824) :
    Calls Tryz.prog 53 #[.bool m, .agg #[.slice A1 n1 c1], .bool o, .agg #[.slice A2 n2 c2]] w fun e w' => ∃ (A : Option Addr) (n c : Nat), e = .returned (.tuple #[.bool (sgB m a o b), .agg #[.slice A n c]]) ∧ NatR w' A n c (sgV m a o b) ∧ Ext w w' := by
  obtain ⟨hba, hbb, hbr, e0⟩ := boxes3 w #[.slice A1 n1 c1] 36 #[.slice A2 n2 c2] 36 #[.slice none 0 0] 36
  have H1 := Lib.hid (h1)
  have H2 := Lib.hid (h2)
  clear h1 h2
  by_cases hm : m = o
  · have hB : sgB m a o b = m := by unfold sgB; rw [if_pos hm]
    have hV : sgV m a o b = a + b := by unfold sgV; rw [if_pos hm]
    rw [hB, hV]
    subst hm
    clear hB hV
    go_enter Tryz.func53, Tryz.ntmps53
    go_wp2_with fail
    refine (natAdd_any A1 A2 n1 c1 n2 c2 a b _ (H1.out.keep e0) (H2.out.keep e0) hn1 hn2).mono ?_
    rintro e w1 ⟨A, n, c, rfl, hR, hx1⟩
    have hbr := hbr.keep hx1
    obtain ⟨k, f⟩ := hbr.one
    have HX := Lib.hid (e0.tr hx1)
    have R := Lib.hid (hR)
    clear hx1 hR e0
    go_wp2
    exact bodyPost_ret (v := .tuple #[.bool m, .agg #[.slice A n c]]) (by simp [results, Tryz.results53, go_sem, (hbr.set_ 0 _).cell]) rfl (⟨_, _, _, rfl, R.out.set_ hbr (by decide) _, HX.out.set_ (by first | (simp; omega) | simp) _⟩)
  · have hmb : (m == o) = false := by simpa using hm
    by_cases hle : b ≤ a
    · have hB : sgB m a o b = m := by unfold sgB; rw [if_neg hm, if_pos hle]
      have hV : sgV m a o b = a - b := by unfold sgV; rw [if_neg hm, if_pos hle]
      rw [hB, hV]
      have hq : 0 ≤ cmpI a b := by unfold cmpI; rw [if_neg (by omega)]; split <;> omega
      clear hB hV hm
      go_enter Tryz.func53, Tryz.ntmps53
      go_wp2_with fail
      refine (natCmp_any A1 A2 n1 c1 n2 c2 a b _ (H1.out.keep e0) (H2.out.keep e0) (by omega)).mono ?_
      rintro e w1 ⟨rfl, hx1⟩
      have hba := hba.keep hx1
      have hbb := hbb.keep hx1
      have hbr := hbr.keep hx1
      have ca := hba.one.1
      have cb := hbb.one.1
      have HX := Lib.hid (e0.tr hx1)
      clear hx1 e0
      generalize cmpI a b = q at *
      go_wp2_with fail
      refine (natSub_any A1 A2 n1 c1 n2 c2 a b _ (H1.out.keep HX.out) (H2.out.keep HX.out) hn1 hle).mono ?_
      rintro e w2 ⟨A, n, c, rfl, hR, hx2⟩
      have hbr := hbr.keep hx2
      have zr := hbr.lt
      have hbr' := hbr.alloc (.cells #[.slice A n c] 36)
      obtain ⟨k, f⟩ := hbr'.one
      have HX2 := Lib.hid (HX.out.tr hx2)
      have R := Lib.hid (hR)
      clear hx2 hR
      go_wp2
      go_region
      go_wp2
      exact bodyPost_ret (v := .tuple #[.bool m, .agg #[.slice A n c]]) (by simp [results, Tryz.results53, go_sem, ((hbr.set_ 0 (.slice A n c)).alloc _).cell]) rfl (⟨_, _, _, rfl, ((R.out.set_ (p := ⟨w.heap.size + 1 + 1, 0, none⟩) hbr (by decide) _).keep ((Ext.refl _).alloc _)).keep ((Ext.refl _).drewN 1), ((HX2.out.set_ (p := ⟨w.heap.size + 1 + 1, 0, none⟩) (by first | (simp; omega) | simp) _).alloc _).drewN 1⟩)
    · have hB : sgB m a o b = o := by unfold sgB; rw [if_neg hm, if_neg hle]
      have hV : sgV m a o b = b - a := by unfold sgV; rw [if_neg hm, if_neg hle]
      rw [hB, hV]
      have hq : cmpI a b < 0 := by unfold cmpI; rw [if_pos (by omega)]; omega
      have hle' : a ≤ b := by omega
      clear hB hV hm hle
      go_enter Tryz.func53, Tryz.ntmps53
      go_wp2_with fail
      refine (natCmp_any A1 A2 n1 c1 n2 c2 a b _ (H1.out.keep e0) (H2.out.keep e0) (by omega)).mono ?_
      rintro e w1 ⟨rfl, hx1⟩
      have hba := hba.keep hx1
      have hbb := hbb.keep hx1
      have hbr := hbr.keep hx1
      have ca := hba.one.1
      have cb := hbb.one.1
      have HX := Lib.hid (e0.tr hx1)
      clear hx1 e0
      generalize cmpI a b = q at *
      go_wp2_with fail
      refine (natSub_any A2 A1 n2 c2 n1 c1 b a _ (H2.out.keep HX.out) (H1.out.keep HX.out) hn2 hle').mono ?_
      rintro e w2 ⟨A, n, c, rfl, hR, hx2⟩
      have hbr := hbr.keep hx2
      have zr := hbr.lt
      have hbr' := hbr.alloc (.cells #[.slice A n c] 36)
      obtain ⟨k, f⟩ := hbr'.one
      have HX2 := Lib.hid (HX.out.tr hx2)
      have R := Lib.hid (hR)
      clear hx2 hR
      go_wp2
      go_region
      go_wp2
      exact bodyPost_ret (v := .tuple #[.bool o, .agg #[.slice A n c]]) (by simp [results, Tryz.results53, go_sem, ((hbr.set_ 0 (.slice A n c)).alloc _).cell]) rfl (⟨_, _, _, rfl, ((R.out.set_ (p := ⟨w.heap.size + 1 + 1, 0, none⟩) hbr (by decide) _).keep ((Ext.refl _).alloc _)).keep ((Ext.refl _).drewN 1), ((HX2.out.set_ (p := ⟨w.heap.size + 1 + 1, 0, none⟩) (by first | (simp; omega) | simp) _).alloc _).drewN 1⟩)

/-- The comparison of two rational numbers. -/
def cmpQ (a b : Rat) : Int := if a < b then -1 else if a = b then 0 else 1
theorem num_abs_pos {q : Rat} (h : 0 < q.num) : (q.num.natAbs : Int) = q.num := by omega
theorem cmpQ_of (a b : Rat) : cmpQ a b = if a.num * b.den < b.num * a.den then -1 else if a.num * b.den = b.num * a.den then 0 else 1 := by
  unfold cmpQ
  have e : a = b ↔ a.num * b.den = b.num * a.den := by
    constructor
    · rintro rfl; rfl
    · intro h
      have h1 := (Rat.mkRat_eq_iff a.den_nz b.den_nz).2 h
      rwa [Rat.mkRat_self, Rat.mkRat_self] at h1
  by_cases h1 : a < b
  · rw [if_pos h1, if_pos ((Rat.lt_iff a b).1 h1)]
  · rw [if_neg h1, if_neg (fun h => h1 ((Rat.lt_iff a b).2 h))]
    by_cases h2 : a = b
    · rw [if_pos h2, if_pos (e.1 h2)]
    · rw [if_neg h2, if_neg (fun h => h2 (e.2 h))]
theorem cmpQ_sign (a b : Rat) (h : sgnI a ≠ sgnI b) : cmpQ a b = if sgnI a < sgnI b then -1 else 1 := by
  rw [cmpQ_of]
  have ha : (0 : Int) < a.den := by have := a.den_nz; omega
  have hb : (0 : Int) < b.den := by have := b.den_nz; omega
  unfold sgnI at *
  rcases Int.lt_trichotomy a.num 0 with h1 | h1 | h1 <;> rcases Int.lt_trichotomy b.num 0 with h2 | h2 | h2
  · simp [Int.ne_of_lt h1, Int.ne_of_lt h2, h1, h2] at h
  · rw [if_pos (by rw [h2, Int.zero_mul]; exact Int.mul_neg_of_neg_of_pos h1 hb)]; simp [Int.ne_of_lt h1, h1, h2]
  · rw [if_pos (Int.lt_trans (Int.mul_neg_of_neg_of_pos h1 hb) (Int.mul_pos h2 ha))]; simp [Int.ne_of_lt h1, h1, Int.ne_of_gt h2, Int.not_lt.2 (Int.le_of_lt h2)]
  · have := Int.mul_neg_of_neg_of_pos h2 ha
    rw [h1, Int.zero_mul, if_neg (by omega), if_neg (by omega)]; simp [Int.ne_of_lt h2, h2]
  · simp [h1, h2] at h
  · have := Int.mul_pos h2 ha
    rw [h1, Int.zero_mul, if_pos this]; simp [Int.ne_of_gt h2, Int.not_lt.2 (Int.le_of_lt h2)]
  · have := Int.mul_neg_of_neg_of_pos h2 ha
    have h3 := Int.mul_pos h1 hb
    rw [if_neg (by omega), if_neg (by omega)]; simp [Int.ne_of_gt h1, Int.not_lt.2 (Int.le_of_lt h1), Int.ne_of_lt h2, h2]
  · have h3 := Int.mul_pos h1 hb
    rw [h2, Int.zero_mul, if_neg (by omega), if_neg (by omega)]; simp [Int.ne_of_gt h1, Int.not_lt.2 (Int.le_of_lt h1)]
  · simp [Int.ne_of_gt h1, Int.ne_of_gt h2, Int.not_lt.2 (Int.le_of_lt h1), Int.not_lt.2 (Int.le_of_lt h2)] at h
theorem cmpQ_same (a b : Rat) (h : sgnI a = sgnI b) (h0 : sgnI a ≠ 0) : cmpQ a b = sgnI a * cmpI (a.num.natAbs * b.den) (b.num.natAbs * a.den) := by
  rw [cmpQ_of]
  unfold sgnI at *
  unfold cmpI
  have hz : a.num ≠ 0 := fun e => h0 (by rw [if_pos e])
  have hz' : b.num ≠ 0 := fun e => h0 (by rw [h, if_pos e])
  rw [if_neg hz] at *
  rw [if_neg hz'] at h
  have ea : ((a.num.natAbs * b.den : Nat) : Int) = (a.num.natAbs : Int) * b.den := by push_cast; rfl
  have eb : ((b.num.natAbs * a.den : Nat) : Int) = (b.num.natAbs : Int) * a.den := by push_cast; rfl
  by_cases hn : a.num < 0
  · rw [if_pos hn] at *
    have hn' : b.num < 0 := by
      by_cases hb : b.num < 0
      · exact hb
      · rw [if_neg hb] at h; omega
    have e1 : (a.num.natAbs : Int) = -a.num := by omega
    have e2 : (b.num.natAbs : Int) = -b.num := by omega
    rw [e1, Int.neg_mul] at ea
    rw [e2, Int.neg_mul] at eb
    generalize a.num * (b.den : Int) = X at *
    generalize b.num * (a.den : Int) = Y at *
    generalize a.num.natAbs * b.den = x at *
    generalize b.num.natAbs * a.den = y at *
    rcases Nat.lt_trichotomy x y with h | h | h
    · rw [if_neg (by omega), if_neg (by omega), if_pos h]; rfl
    · rw [if_neg (by omega), if_pos (by omega), if_neg (by omega), if_pos h]; rfl
    · rw [if_pos (by omega), if_neg (by omega), if_neg (by omega)]; rfl
  · rw [if_neg hn] at *
    have hn' : ¬ b.num < 0 := by
      intro hb
      rw [if_pos hb] at h; omega
    have e1 : (a.num.natAbs : Int) = a.num := by omega
    have e2 : (b.num.natAbs : Int) = b.num := by omega
    rw [e1] at ea
    rw [e2] at eb
    generalize a.num * (b.den : Int) = X at *
    generalize b.num * (a.den : Int) = Y at *
    generalize a.num.natAbs * b.den = x at *
    generalize b.num.natAbs * a.den = y at *
    rcases Nat.lt_trichotomy x y with h | h | h
    · rw [if_pos (by omega), if_pos h]; rfl
    · rw [if_neg (by omega), if_pos (by omega), if_neg (by omega), if_pos h]; rfl
    · rw [if_neg (by omega), if_neg (by omega), if_neg (by omega), if_neg (by omega)]; rfl
theorem cmpQ_zero (a b : Rat) (h : sgnI a = sgnI b) (h0 : sgnI a = 0) : cmpQ a b = 0 := by
  have e : ∀ q : Rat, sgnI q = 0 → q.num = 0 := fun q hq => by
    unfold sgnI at hq
    by_cases hz : q.num = 0
    · exact hz
    · rw [if_neg hz] at hq; split at hq <;> omega
  rw [cmpQ_of, e a h0, e b (h ▸ h0)]; simp

end Go.Proofs.YtjmkcckbbgpkeaaGreatDoor


namespace Go.Proofs.YtjmkcckbbgpkeaaGreatDoor
open Go.RowKit

/-- Both lists of digits are short. -/
theorem natMul_len {w w' : World} {A A1 A2 : Option Addr} {n c n1 c1 n2 c2 a b : Nat} (h : NatR w A n c (a * b)) (h1 : NatR w' A1 n1 c1 a) (h2 : NatR w' A2 n2 c2 b) : n ≤ n1 + n2 := by
  obtain ⟨ds, rfl, _, hc, hv, _⟩ := h
  obtain ⟨xs, rfl, _, hx, rfl, _⟩ := h1
  obtain ⟨ys, rfl, _, hy, rfl, _⟩ := h2
  refine hc.len_le B32_gt ?_
  rw [hv, Nat.pow_add]
  exact Nat.mul_lt_mul'' (Dig.val_lt B32_pos hx.lt) (Dig.val_lt B32_pos hy.lt)
theorem times_len {w w' : World} {A A1 A2 : Option Addr} {n c n1 c1 n2 c2 a d : Nat} (h : NatR w A n c (a * dn d)) (h1 : NatR w' A1 n1 c1 a) (h2 : NatR w' A2 n2 c2 d) : n ≤ n1 + n2 := by
  by_cases hd : d = 0
  · have e : a * dn d = a := by unfold dn; rw [if_pos hd, Nat.mul_one]
    rw [e] at h
    have := h.len_le h1 (Nat.le_refl _); omega
  · have e : a * dn d = a * d := by unfold dn; rw [if_neg hd]
    rw [e] at h
    exact natMul_len h h1 h2

set_option maxHeartbeats 4000000 in
theorem ratCmp_any (na nb : Bool) (A1 : Option Addr) (n1 c1 : Nat) (A1' : Option Addr) (n1' c1' : Nat) (A2 : Option Addr) (n2 c2 : Nat) (A2' : Option Addr) (n2' c2' : Nat) (a b : Rat) (w : World)
    (ha : RatR w na A1 n1 c1 A1' n1' c1' a) (hb : RatR w nb A2 n2 c2 A2' n2' c2' b) (l1 : n1 ≤ 268435456) (l1' : n1' ≤ 268435456) (l2 : n2 ≤ 268435456) (l2' : n2' ≤ 268435456) :
    Calls Tryz.prog 14 #[.agg #[.bool na, .slice A1 n1 c1, .slice A1' n1' c1'], .agg #[.bool nb, .slice A2 n2 c2, .slice A2' n2' c2']] w fun e w' => e = .returned (.int .i64 (cmpQ a b)) ∧ Ext w w' := by
  obtain ⟨hba, hbb, e0⟩ := boxes2 w #[.bool na, .slice A1 n1 c1, .slice A1' n1' c1'] 38 #[.bool nb, .slice A2 n2 c2, .slice A2' n2' c2'] 38
  have HA := Lib.hid (ha)
  have HB := Lib.hid (hb)
  clear ha hb
  have hba : Blk ((w.alloc (.cells #[.bool na, .slice A1 n1 c1, .slice A1' n1' c1'] 38)).alloc (.cells #[.bool nb, .slice A2 n2 c2, .slice A2' n2' c2'] 38)).drew _ _ _ := hba
  have hbb : Blk ((w.alloc (.cells #[.bool na, .slice A1 n1 c1, .slice A1' n1' c1'] 38)).alloc (.cells #[.bool nb, .slice A2 n2 c2, .slice A2' n2' c2'] 38)).drew _ _ _ := hbb
  have E0 := Lib.hid (e0.drewN 1)
  clear e0
  obtain ⟨⟨k0, k1, k2⟩, f0, f1, f2⟩ := hba.three
  obtain ⟨⟨j0, j1, j2⟩, g0, g1, g2⟩ := hbb.three
  clear f0 f1 f2 g0 g1 g2
  have hcase : (((sgnI a != sgnI b) = true ∧ decide (sgnI a < sgnI b) = true ∧ cmpQ a b = -1) ∨ ((sgnI a != sgnI b) = true ∧ decide (sgnI a < sgnI b) = false ∧ cmpQ a b = 1)) ∨
      ((sgnI a != sgnI b) = false ∧ (sgnI a == 0) = true ∧ cmpQ a b = 0) ∨
      ((sgnI a != sgnI b) = false ∧ (sgnI a == 0) = false ∧ cmpQ a b = sgnI a * cmpI (a.num.natAbs * b.den) (b.num.natAbs * a.den) ∧ (sgnI a = 1 ∨ sgnI a = -1)) := by
    by_cases h : sgnI a = sgnI b
    · right
      by_cases h0 : sgnI a = 0
      · exact .inl ⟨by simpa using h, by simpa using h0, cmpQ_zero a b h h0⟩
      · refine .inr ⟨by simpa using h, by simpa using h0, cmpQ_same a b h h0, ?_⟩
        clear h
        unfold sgnI at *
        by_cases hz : a.num = 0
        · rw [if_pos hz] at h0; exact absurd rfl h0
        · rw [if_neg hz]
          by_cases hn : a.num < 0
          · rw [if_pos hn]; exact .inr rfl
          · rw [if_neg hn]; exact .inl rfl
    · left
      have e := cmpQ_sign a b h
      by_cases hl : sgnI a < sgnI b
      · exact .inl ⟨by simpa using h, by simpa using hl, by rw [e, if_pos hl]⟩
      · exact .inr ⟨by simpa using h, by simpa using hl, by rw [e, if_neg hl]⟩
  have tok : True := trivial
  go_enter Tryz.func14, Tryz.ntmps14
  go_wp2
  go_region_held3 (fun w' => w'.cell? ⟨w.heap.size, 0, none⟩ = some (.bool na) ∧ w'.cell? ⟨w.heap.size, 1, none⟩ = some (.slice A1 n1 c1) ∧ w'.cell? ⟨w.heap.size, 2, none⟩ = some (.slice A1' n1' c1') ∧
      w'.cell? ⟨w.heap.size + 1, 0, none⟩ = some (.bool nb) ∧ w'.cell? ⟨w.heap.size + 1, 1, none⟩ = some (.slice A2 n2 c2) ∧ w'.cell? ⟨w.heap.size + 1, 2, none⟩ = some (.slice A2' n2' c2')) (exact ⟨k0, k1, k2, j0, j1, j2⟩)
    (first
      | (go_at_call 39; have _t := tok; refine (sign_any na A1 n1 c1 A1' n1' c1' a _ (HA.out.keep E0.out)).mono ?_; rintro e w1 ⟨rfl, hx1⟩; clear tok; have hba := hba.keep hx1; have hbb := hbb.keep hx1; have E1 := Lib.hid (E0.out.tr hx1); obtain ⟨⟨k0, k1, k2⟩, _⟩ := hba.three; obtain ⟨⟨j0, j1, j2⟩, _⟩ := hbb.three; clear hx1)
      | (go_at_call 39; refine (sign_any nb A2 n2 c2 A2' n2' c2' b _ (HB.out.keep E1.out)).mono ?_; rintro e w2 ⟨rfl, hx2⟩; have hba := hba.keep hx2; have hbb := hbb.keep hx2; have E2 := Lib.hid (E1.out.tr hx2); obtain ⟨⟨k0, k1, k2⟩, _⟩ := hba.three; obtain ⟨⟨j0, j1, j2⟩, _⟩ := hbb.three; clear hx2))
  generalize hS : sgnI a = s at *
  generalize hT : sgnI b = t at *
  clear hS hT
  rcases hcase with (⟨h1, h2, h3⟩ | ⟨h1, h2, h3⟩) | ⟨h1, h2, h3⟩ | ⟨h1, h2, h3, h4⟩
  · have H3 := Lib.hid h3
    clear h3
    go_wp2
    go_ret
    rw [H3.out]
    exact ⟨rfl, E2.out⟩
  · have H3 := Lib.hid h3
    clear h3
    go_wp2
    go_ret
    rw [H3.out]
    exact ⟨rfl, E2.out⟩
  · have H3 := Lib.hid h3
    clear h3
    go_wp2
    go_ret
    rw [H3.out]
    exact ⟨rfl, E2.out⟩
  · have H3 := Lib.hid h3
    clear h3
    have hr := cmpI_range (a.num.natAbs * b.den) (b.num.natAbs * a.den)
    have hw1 : IntKind.i64.wrap (s * cmpI (a.num.natAbs * b.den) (b.num.natAbs * a.den)) = s * cmpI (a.num.natAbs * b.den) (b.num.natAbs * a.den) := by
      generalize cmpI (a.num.natAbs * b.den) (b.num.natAbs * a.den) = q at *
      apply IntWalk.i64_in
      rcases h4 with h | h <;> subst h <;> omega
    have hba : Blk w2.drew _ _ _ := hba
    have hbb : Blk w2.drew _ _ _ := hbb
    have E2 := Lib.hid (E2.out.drewN 1)
    clear h4
    go_wp2
    have tok : True := trivial
    go_region_held3 (fun w' => w'.cell? ⟨w.heap.size, 1, none⟩ = some (.slice A1 n1 c1) ∧ w'.cell? ⟨w.heap.size, 2, none⟩ = some (.slice A1' n1' c1') ∧
        w'.cell? ⟨w.heap.size + 1, 1, none⟩ = some (.slice A2 n2 c2) ∧ w'.cell? ⟨w.heap.size + 1, 2, none⟩ = some (.slice A2' n2' c2')) (exact ⟨k1, k2, j1, j2⟩)
      (first
        | (go_at_call 41; have _t := tok; refine (times_any A1 A2' n1 c1 n2' c2' a.num.natAbs (dk b) _ (HA.out.2.1.keep E2.out) (HB.out.2.2.keep E2.out) (by omega) (by omega)).mono ?_; rintro e w3 ⟨A3, n3, c3, rfl, hR3, hx3⟩; clear tok; have hba := hba.keep hx3; have hbb := hbb.keep hx3; have E3 := Lib.hid (E2.out.tr hx3); obtain ⟨⟨k0, k1, k2⟩, _⟩ := hba.three; obtain ⟨⟨j0, j1, j2⟩, _⟩ := hbb.three; have R3 := Lib.hid hR3; clear hx3 hR3)
        | (go_at_call 41; refine (times_any A2 A1' n2 c2 n1' c1' b.num.natAbs (dk a) _ (HB.out.2.1.keep E3.out) (HA.out.2.2.keep E3.out) (by omega) (by omega)).mono ?_; rintro e w4 ⟨A4, n4, c4, rfl, hR4, hx4⟩; have hba := hba.keep hx4; have hbb := hbb.keep hx4; have E4 := Lib.hid (E3.out.tr hx4); obtain ⟨⟨k0, k1, k2⟩, _⟩ := hba.three; obtain ⟨⟨j0, j1, j2⟩, _⟩ := hbb.three; have R4 := Lib.hid hR4; have R34 := Lib.hid (R3.out.keep hx4); clear hx4 hR4)
        | (go_at_call 40; refine (natCmp_any A3 A4 n3 c3 n4 c4 (a.num.natAbs * b.den) (b.num.natAbs * a.den) _ (by have := R34.out; rw [dn_dk] at this; exact this) (by have := R4.out; rw [dn_dk] at this; exact this) (by have := times_len R34.out HA.out.2.1 HB.out.2.2; omega)).mono ?_; rintro e w5 ⟨rfl, hx5⟩; have hba := hba.keep hx5; have hbb := hbb.keep hx5; have E5 := Lib.hid (E4.out.tr hx5); obtain ⟨⟨k0, k1, k2⟩, _⟩ := hba.three; obtain ⟨⟨j0, j1, j2⟩, _⟩ := hbb.three; clear hx5))
    go_wp2
    go_ret
    rw [H3.out]
    exact ⟨rfl, E5.out⟩

end Go.Proofs.YtjmkcckbbgpkeaaGreatDoor


namespace Go.Proofs.YtjmkcckbbgpkeaaGreatDoor
open Go.RowKit

theorem sgnI_zero {q : Rat} : sgnI q = 0 ↔ q = 0 := by
  unfold sgnI
  constructor
  · intro h
    by_cases hz : q.num = 0
    · exact Rat.num_eq_zero.1 hz
    · rw [if_neg hz] at h; split at h <;> omega
  · rintro rfl; rfl
/-- The numerator of the sum before it is reduced. -/
def crossN (a b : Rat) : Nat := (a.num * b.den + b.num * a.den).natAbs
theorem sval_num {neg : Bool} {q : Rat} (h : neg = decide (q.num < 0)) (d : Nat) : sval neg (q.num.natAbs * d) = q.num * d := by
  subst h
  unfold sval
  by_cases hn : q.num < 0
  · simp only [hn, decide_true, if_true]; push_cast; rw [show ((q.num.natAbs : Nat) : Int) = -q.num by omega, Int.neg_mul, Int.neg_neg]
  · simp only [hn, decide_false, Bool.false_eq_true, if_false]; push_cast; rw [show ((q.num.natAbs : Nat) : Int) = q.num by omega]
theorem add_mkQ {na nb : Bool} {a b : Rat} (ha : na = decide (a.num < 0)) (hb : nb = decide (b.num < 0)) :
    a + b = mkQ (sgB na (a.num.natAbs * b.den) nb (b.num.natAbs * a.den)) (sgV na (a.num.natAbs * b.den) nb (b.num.natAbs * a.den)) (a.den * b.den) ∧
    sgV na (a.num.natAbs * b.den) nb (b.num.natAbs * a.den) = crossN a b := by
  have h := sg_sum na (a.num.natAbs * b.den) nb (b.num.natAbs * a.den)
  rw [sval_num ha, sval_num hb] at h
  constructor
  · rw [Rat.add_def', ← h]; rfl
  · unfold crossN; rw [← h]; unfold sval; split <;> omega

theorem den_len {w w' : World} {A A' : Option Addr} {n c n' c' : Nat} {q : Rat} (h : NatR w A n c q.den) (h' : NatR w' A' n' c' (dk q)) : n ≤ n' + 2 := by
  by_cases hd : q.den = 1
  · rw [hd] at h
    have := natAbs_len h (by omega); omega
  · have e : dk q = q.den := by unfold dk; rw [if_neg hd]
    rw [e] at h'
    have := h.len_le h' (Nat.le_refl _); omega
theorem cross_len {w w' : World} {A A1 A2 : Option Addr} {n c n1 c1 n2 c2 : Nat} {m o : Bool} {a b : Nat} (h : NatR w A n c (sgV m a o b)) (h1 : NatR w' A1 n1 c1 a) (h2 : NatR w' A2 n2 c2 b) : n ≤ n1 + n2 + 1 := by
  have hle : sgV m a o b ≤ a + b := by unfold sgV; split <;> (try split) <;> omega
  obtain ⟨ds, rfl, _, hc, hv, _⟩ := h
  obtain ⟨xs, rfl, _, hx, rfl, _⟩ := h1
  obtain ⟨ys, rfl, _, hy, rfl, _⟩ := h2
  refine hc.len_le B32_gt ?_
  rw [hv]
  have p1 := Dig.val_lt B32_pos hx.lt
  have p2 := Dig.val_lt B32_pos hy.lt
  have p3 : B32 ^ xs.length ≤ B32 ^ (xs.length + ys.length) := Nat.pow_le_pow_right B32_pos (by omega)
  have p4 : B32 ^ ys.length ≤ B32 ^ (xs.length + ys.length) := Nat.pow_le_pow_right B32_pos (by omega)
  have p5 : B32 ^ (xs.length + ys.length + 1) = B32 ^ (xs.length + ys.length) * 4294967296 := by rw [Nat.pow_succ, B32_eq]
  have p6 : 0 < B32 ^ (xs.length + ys.length) := Nat.pow_pos B32_pos
  omega

set_option maxHeartbeats 4000000 in
theorem ratAdd_any (na nb : Bool) (A1 : Option Addr) (n1 c1 : Nat) (A1' : Option Addr) (n1' c1' : Nat) (A2 : Option Addr) (n2 c2 : Nat) (A2' : Option Addr) (n2' c2' : Nat) (a b : Rat) (w : World)
    (ha : RatR w na A1 n1 c1 A1' n1' c1' a) (hb : RatR w nb A2 n2 c2 A2' n2' c2' b) (l1 : n1 ≤ 134217728) (l1' : n1' ≤ 134217728) (l2 : n2 ≤ 134217728) (l2' : n2' ≤ 134217728) (hred : ReducedAt (crossN a b) (a.den * b.den)) :
    Calls Tryz.prog 28 #[.agg #[.bool na, .slice A1 n1 c1, .slice A1' n1' c1'], .agg #[.bool nb, .slice A2 n2 c2, .slice A2' n2' c2']] w (RatPost w (a + b)) := by
  obtain ⟨hba, hbb, hbr, e0⟩ := boxes3 w #[.bool na, .slice A1 n1 c1, .slice A1' n1' c1'] 38 #[.bool nb, .slice A2 n2 c2, .slice A2' n2' c2'] 38 #[.bool false, .slice none 0 0, .slice none 0 0] 38
  have hq := add_mkQ ha.1 hb.1
  have HA := Lib.hid (ha)
  have HB := Lib.hid (hb)
  have RED := Lib.hid (hred)
  clear hred
  by_cases h0 : a = 0
  · have hs : sgnI a = 0 := sgnI_zero.2 h0
    have hab : a + b = b := by rw [h0, Rat.zero_add]
    rw [hab]
    have HS := Lib.hid (hs)
    clear ha hb hq h0 hab hs
    go_enter Tryz.func28, Tryz.ntmps28
    go_wp2_with fail
    refine (sign_any na A1 n1 c1 A1' n1' c1' a _ (HA.out.keep e0)).mono ?_
    rintro e w1 ⟨rfl, hx1⟩
    rw [HS.out]
    have hbb := hbb.keep hx1
    have hbr := hbr.keep hx1
    obtain ⟨⟨j0, j1, j2⟩, g0, g1, g2⟩ := hbb.three
    obtain ⟨⟨k0, k1, k2⟩, f0, f1, f2⟩ := hbr.three
    have E1 := Lib.hid (e0.tr hx1)
    clear hx1 e0
    go_wp2
    exact bodyPost_ret (v := .agg #[.bool nb, .slice A2 n2 c2, .slice A2' n2' c2']) (by simp [results, Tryz.results28, go_sem, (((hbr.set_ 0 _).set_ 1 _).set_ 2 _).cell]) rfl (ratPost_set hbr (by decide) (HB.out.keep E1.out) E1.out (by omega))
  have hs : (sgnI a == 0) = false := beq_eq_false_iff_ne.2 (fun h => h0 (sgnI_zero.1 h))
  by_cases h0' : b = 0
  · have hs' : sgnI b = 0 := sgnI_zero.2 h0'
    have hab : a + b = a := by rw [h0', Rat.add_zero]
    rw [hab]
    have HS := Lib.hid (hs')
    clear ha hb hq h0 hab hs' h0'
    go_enter Tryz.func28, Tryz.ntmps28
    go_wp2_with fail
    refine (sign_any na A1 n1 c1 A1' n1' c1' a _ (HA.out.keep e0)).mono ?_
    rintro e w1 ⟨rfl, hx1⟩
    have hba := hba.keep hx1
    have hbb := hbb.keep hx1
    have hbr := hbr.keep hx1
    obtain ⟨⟨i0, i1, i2⟩, h0, h1, h2⟩ := hba.three
    obtain ⟨⟨j0, j1, j2⟩, g0, g1, g2⟩ := hbb.three
    have E1 := Lib.hid (e0.tr hx1)
    clear hx1 e0
    generalize sgnI a = s at *
    go_wp2_with fail
    refine (sign_any nb A2 n2 c2 A2' n2' c2' b _ (HB.out.keep E1.out)).mono ?_
    rintro e w2 ⟨rfl, hx2⟩
    rw [HS.out]
    have hba := hba.keep hx2
    have hbr := hbr.keep hx2
    obtain ⟨⟨i0, i1, i2⟩, h0, h1, h2⟩ := hba.three
    obtain ⟨⟨k0, k1, k2⟩, f0, f1, f2⟩ := hbr.three
    have E2 := Lib.hid (E1.out.tr hx2)
    clear hx2
    go_wp2
    exact bodyPost_ret (v := .agg #[.bool na, .slice A1 n1 c1, .slice A1' n1' c1']) (by simp [results, Tryz.results28, go_sem, (((hbr.set_ 0 _).set_ 1 _).set_ 2 _).cell]) rfl (ratPost_set hbr (by decide) (HA.out.keep E2.out) E2.out (by omega))
  have hs' : (sgnI b == 0) = false := beq_eq_false_iff_ne.2 (fun h => h0' (sgnI_zero.1 h))
  have HQ := Lib.hid (hq)
  clear ha hb hq h0 h0'
  go_enter Tryz.func28, Tryz.ntmps28
  go_wp2_with fail
  refine (sign_any na A1 n1 c1 A1' n1' c1' a _ (HA.out.keep e0)).mono ?_
  rintro e w1 ⟨rfl, hx1⟩
  have hba := hba.keep hx1
  have hbb := hbb.keep hx1
  have hbr := hbr.keep hx1
  obtain ⟨⟨i0, i1, i2⟩, h0, h1, h2⟩ := hba.three
  obtain ⟨⟨j0, j1, j2⟩, g0, g1, g2⟩ := hbb.three
  have E1 := Lib.hid (e0.tr hx1)
  clear hx1 e0
  generalize sgnI a = s at *
  go_wp2_with fail
  refine (sign_any nb A2 n2 c2 A2' n2' c2' b _ (HB.out.keep E1.out)).mono ?_
  rintro e w2 ⟨rfl, hx2⟩
  generalize sgnI b = t at *
  have hba := hba.keep hx2
  have hbb := hbb.keep hx2
  have hbr := hbr.keep hx2
  have E2 := Lib.hid (E1.out.tr hx2)
  clear hx2 i0 i1 i2 h0 h1 h2 j0 j1 j2 g0 g1 g2
  go_upto_region 5 with fail
  go_cut [5, 6] (fun s5 s6 wx => ∃ (g : Nat) (A : Option Addr) (n c : Nat), s5 = .bool (sgB na (a.num.natAbs * b.den) nb (b.num.natAbs * a.den)) ∧ s6 = .pointer (some ⟨g, 0, none⟩) ∧ w.heap.size + 1 + 1 < g ∧ n ≤ 1073741823 ∧ Blk wx g 36 #[.slice A n c] ∧
    NatR wx A n c (sgV na (a.num.natAbs * b.den) nb (b.num.natAbs * a.den)) ∧ Blk wx w.heap.size 38 #[.bool na, .slice A1 n1 c1, .slice A1' n1' c1'] ∧ Blk wx (w.heap.size + 1) 38 #[.bool nb, .slice A2 n2 c2, .slice A2' n2' c2'] ∧
    Blk wx (w.heap.size + 1 + 1) 38 #[.bool false, .slice none 0 0, .slice none 0 0] ∧ Ext w wx)
  case first =>
    have hba : Blk w2.drew _ _ _ := hba
    have hbb : Blk w2.drew _ _ _ := hbb
    have hbr : Blk w2.drew _ _ _ := hbr
    have E2 := Lib.hid (E2.out.drewN 1)
    obtain ⟨⟨i0, i1, i2⟩, h0, h1, h2⟩ := hba.three
    obtain ⟨⟨j0, j1, j2⟩, g0, g1, g2⟩ := hbb.three
    clear h0 h1 h2 g0 g1 g2
    have zw2 : w.heap.size + 1 + 1 < w2.heap.size := hbr.lt
    have tok : True := trivial
    go_region_held3 (fun w' => w'.cell? ⟨w.heap.size, 0, none⟩ = some (.bool na) ∧ w'.cell? ⟨w.heap.size, 1, none⟩ = some (.slice A1 n1 c1) ∧ w'.cell? ⟨w.heap.size, 2, none⟩ = some (.slice A1' n1' c1') ∧
        w'.cell? ⟨w.heap.size + 1, 0, none⟩ = some (.bool nb) ∧ w'.cell? ⟨w.heap.size + 1, 1, none⟩ = some (.slice A2 n2 c2) ∧ w'.cell? ⟨w.heap.size + 1, 2, none⟩ = some (.slice A2' n2' c2')) (first
        | exact ⟨i0, i1, i2, j0, j1, j2⟩
        | exact ⟨(hba.alloc _).cell 0, (hba.alloc _).cell 1, (hba.alloc _).cell 2, (hbb.alloc _).cell 0, (hbb.alloc _).cell 1, (hbb.alloc _).cell 2⟩
        | exact ⟨(hba.far (p := ⟨w2.heap.size, 0, none⟩) zza _).cell 0, (hba.far (p := ⟨w2.heap.size, 0, none⟩) zza _).cell 1, (hba.far (p := ⟨w2.heap.size, 0, none⟩) zza _).cell 2, (hbb.far (p := ⟨w2.heap.size, 0, none⟩) zzb _).cell 0, (hbb.far (p := ⟨w2.heap.size, 0, none⟩) zzb _).cell 1, (hbb.far (p := ⟨w2.heap.size, 0, none⟩) zzb _).cell 2⟩
        | exact ⟨(hba.far (p := ⟨w3.heap.size, 0, none⟩) zza _).cell 0, (hba.far (p := ⟨w3.heap.size, 0, none⟩) zza _).cell 1, (hba.far (p := ⟨w3.heap.size, 0, none⟩) zza _).cell 2, (hbb.far (p := ⟨w3.heap.size, 0, none⟩) zzb _).cell 0, (hbb.far (p := ⟨w3.heap.size, 0, none⟩) zzb _).cell 1, (hbb.far (p := ⟨w3.heap.size, 0, none⟩) zzb _).cell 2⟩
        | exact ⟨(hba.far (p := ⟨w4.heap.size, 0, none⟩) zza _).cell 0, (hba.far (p := ⟨w4.heap.size, 0, none⟩) zza _).cell 1, (hba.far (p := ⟨w4.heap.size, 0, none⟩) zza _).cell 2, (hbb.far (p := ⟨w4.heap.size, 0, none⟩) zzb _).cell 0, (hbb.far (p := ⟨w4.heap.size, 0, none⟩) zzb _).cell 1, (hbb.far (p := ⟨w4.heap.size, 0, none⟩) zzb _).cell 2⟩)
      (first
        | (go_at_call 41
           have _t := tok
           refine (times_any A1 A2' n1 c1 n2' c2' a.num.natAbs (dk b) _ (HA.out.2.1.keep (by first | exact E2.out | exact E2.out.alloc (.cells #[.slice none 0 0] 36))) (HB.out.2.2.keep (by first | exact E2.out | exact E2.out.alloc (.cells #[.slice none 0 0] 36))) (by omega) (by omega)).mono ?_
           rintro e w3 ⟨A3, n3, c3, rfl, hR3, hx3⟩
           clear tok
           have hba : Blk w3 w.heap.size 38 #[.bool na, .slice A1 n1 c1, .slice A1' n1' c1'] := by first | exact hba.keep hx3 | exact (hba.alloc (.cells #[.slice none 0 0] 36)).keep hx3
           have hbb : Blk w3 (w.heap.size + 1) 38 #[.bool nb, .slice A2 n2 c2, .slice A2' n2' c2'] := by first | exact hbb.keep hx3 | exact (hbb.alloc (.cells #[.slice none 0 0] 36)).keep hx3
           have hbr : Blk w3 (w.heap.size + 1 + 1) 38 #[.bool false, .slice none 0 0, .slice none 0 0] := by first | exact hbr.keep hx3 | exact (hbr.alloc (.cells #[.slice none 0 0] 36)).keep hx3
           have E3 : Hid (Ext w w3) := by first | exact E2.out.tr hx3 | exact (E2.out.alloc (.cells #[.slice none 0 0] 36)).tr hx3
           obtain ⟨⟨i0, i1, i2⟩, _⟩ := hba.three
           obtain ⟨⟨j0, j1, j2⟩, _⟩ := hbb.three
           have R3 := Lib.hid hR3
           (try (have hbg : Blk w3 w2.heap.size 36 #[.slice none 0 0] := ((Blk.new w2 36 #[.slice none 0 0]).drewN 1).keep hx3; have zza : w.heap.size ≠ w2.heap.size := (by have := zw2; omega); have zzb : w.heap.size + 1 ≠ w2.heap.size := (by have := zw2; omega); have zzr : w.heap.size + 1 + 1 < w2.heap.size := zw2; obtain ⟨cg, fg⟩ := hbg.one))
           have zw3 := hbr.lt
           clear hx3 hR3)
        | (go_at_call 41
           refine (times_any A2 A1' n2 c2 n1' c1' b.num.natAbs (dk a) _ (HB.out.2.1.keep (by first | exact E3.out | exact E3.out.alloc (.cells #[.slice none 0 0] 36))) (HA.out.2.2.keep (by first | exact E3.out | exact E3.out.alloc (.cells #[.slice none 0 0] 36))) (by omega) (by omega)).mono ?_
           rintro e w4 ⟨A4, n4, c4, rfl, hR4, hx4⟩
           have hba : Blk w4 w.heap.size 38 #[.bool na, .slice A1 n1 c1, .slice A1' n1' c1'] := by first | exact hba.keep hx4 | exact (hba.alloc (.cells #[.slice none 0 0] 36)).keep hx4
           have hbb : Blk w4 (w.heap.size + 1) 38 #[.bool nb, .slice A2 n2 c2, .slice A2' n2' c2'] := by first | exact hbb.keep hx4 | exact (hbb.alloc (.cells #[.slice none 0 0] 36)).keep hx4
           have hbr : Blk w4 (w.heap.size + 1 + 1) 38 #[.bool false, .slice none 0 0, .slice none 0 0] := by first | exact hbr.keep hx4 | exact (hbr.alloc (.cells #[.slice none 0 0] 36)).keep hx4
           have E4 : Hid (Ext w w4) := by first | exact E3.out.tr hx4 | exact (E3.out.alloc (.cells #[.slice none 0 0] 36)).tr hx4
           obtain ⟨⟨i0, i1, i2⟩, _⟩ := hba.three
           obtain ⟨⟨j0, j1, j2⟩, _⟩ := hbb.three
           have R4 := Lib.hid hR4
           have R34 : Hid (NatR w4 A3 n3 c3 (a.num.natAbs * dn (dk b))) := by first | exact R3.out.keep hx4 | exact (R3.out.keep ((Ext.refl _).alloc (.cells #[.slice none 0 0] 36))).keep hx4
           (try (have hbg := hbg.keep hx4; obtain ⟨cg, fg⟩ := hbg.one))
           (try (have hbg : Blk w4 w3.heap.size 36 #[.slice none 0 0] := (Blk.new w3 36 #[.slice none 0 0]).keep hx4; have zza : w.heap.size ≠ w3.heap.size := (by have := zw3; omega); have zzb : w.heap.size + 1 ≠ w3.heap.size := (by have := zw3; omega); have zzr : w.heap.size + 1 + 1 < w3.heap.size := zw3; obtain ⟨cg, fg⟩ := hbg.one))
           have zw4 := hbr.lt
           clear hx4 hR4)
        | (go_at_call 53
           refine (signed_any na nb A3 A4 n3 c3 n4 c4 (a.num.natAbs * b.den) (b.num.natAbs * a.den) _ (by have := R34.out; rw [dn_dk] at this; first | exact this | exact this.keep ((Ext.refl _).alloc (.cells #[.slice none 0 0] 36))) (by have := R4.out; rw [dn_dk] at this; first | exact this | exact this.keep ((Ext.refl _).alloc (.cells #[.slice none 0 0] 36))) (by have := times_len R34.out HA.out.2.1 HB.out.2.2; omega) (by have := times_len R4.out HB.out.2.1 HA.out.2.2; omega)).mono ?_
           rintro e w5 ⟨A5, n5, c5, rfl, hR5, hx5⟩
           have hba : Blk w5 w.heap.size 38 #[.bool na, .slice A1 n1 c1, .slice A1' n1' c1'] := by first | exact hba.keep hx5 | exact (hba.alloc (.cells #[.slice none 0 0] 36)).keep hx5
           have hbb : Blk w5 (w.heap.size + 1) 38 #[.bool nb, .slice A2 n2 c2, .slice A2' n2' c2'] := by first | exact hbb.keep hx5 | exact (hbb.alloc (.cells #[.slice none 0 0] 36)).keep hx5
           have hbr : Blk w5 (w.heap.size + 1 + 1) 38 #[.bool false, .slice none 0 0, .slice none 0 0] := by first | exact hbr.keep hx5 | exact (hbr.alloc (.cells #[.slice none 0 0] 36)).keep hx5
           have E5 : Hid (Ext w w5) := by first | exact E4.out.tr hx5 | exact (E4.out.alloc (.cells #[.slice none 0 0] 36)).tr hx5
           obtain ⟨⟨i0, i1, i2⟩, _⟩ := hba.three
           obtain ⟨⟨j0, j1, j2⟩, _⟩ := hbb.three
           have R5 := Lib.hid hR5
           (try (have hbg := hbg.keep hx5; obtain ⟨cg, fg⟩ := hbg.one))
           (try (have hbg : Blk w5 w4.heap.size 36 #[.slice none 0 0] := (Blk.new w4 36 #[.slice none 0 0]).keep hx5; have zza : w.heap.size ≠ w4.heap.size := (by have := zw4; omega); have zzb : w.heap.size + 1 ≠ w4.heap.size := (by have := zw4; omega); have zzr : w.heap.size + 1 + 1 < w4.heap.size := zw4; obtain ⟨cg, fg⟩ := hbg.one))
           have zw5 := hbr.lt
           have L5 : n5 ≤ 1073741823 := (by have h1 := R34.out; have h2 := R4.out; have l3 := times_len h1 HA.out.2.1 HB.out.2.2; have l4 := times_len h2 HB.out.2.1 HA.out.2.2; rw [dn_dk] at h1 h2; have := cross_len R5.out h1 h2; omega)
           clear hx5 hR5))
    all_goals
      go_wp2_with fail
      go_meet
      first
        | exact ⟨w5.heap.size, A5, n5, c5, rfl, rfl, zw5, L5, Blk.new w5 _ _, R5.out.keep ((Ext.refl _).alloc _), hba.alloc _, hbb.alloc _, hbr.alloc _, E5.out.alloc _⟩
        | exact ⟨_, A5, n5, c5, rfl, rfl, zzr, L5, hbg.set_ 0 _, R5.out.set_ (p := ⟨_, 0, none⟩) hbg (by decide) _, hba.far zza _, hbb.far zzb _, hbr.far (by simp; omega) _, E5.out.set_ (by simp; omega) _⟩
  case rest =>
    obtain ⟨g, A, n, c, rfl, rfl, hg, hnl, hbg, hR, hba, hbb, hbr, hx⟩ := hcut
    have R := Lib.hid (hR)
    have E5 := Lib.hid (hx)
    obtain ⟨hq1, hq2⟩ := HQ.out
    rw [hq2] at hq1
    have HQ1 := Lib.hid (hq1)
    have hR' : NatR wc A n c (crossN a b) := by rw [← hq2]; exact hR
    have R' := Lib.hid (hR')
    clear hR hx hq1 hq2 HQ hR' R
    generalize sgB na (a.num.natAbs * b.den) nb (b.num.natAbs * a.den) = sb at *
    have za : ((n1' : Int) == 0) = decide (a.den = 1) := by
      have := HA.out.2.2.eq_zero; rw [dk_zero] at this
      by_cases h : a.den = 1
      · rw [decide_eq_true h]; simp; omega
      · rw [decide_eq_false h]; exact beq_eq_false_iff_ne.2 (by omega)
    have zb : ((n2' : Int) == 0) = decide (b.den = 1) := by
      have := HB.out.2.2.eq_zero; rw [dk_zero] at this
      by_cases h : b.den = 1
      · rw [decide_eq_true h]; simp; omega
      · rw [decide_eq_false h]; exact beq_eq_false_iff_ne.2 (by omega)
    have hb3 : (a.den = 1 ∧ b.den = 1) ∨ (a.den = 1 ∧ b.den ≠ 1) ∨ a.den ≠ 1 := by omega
    rcases hb3 with ⟨hda, hdb⟩ | ⟨hda, hdb⟩ | hda
    case inl =>
        have hda' : decide (a.den = 1) = true := decide_eq_true hda
        have hdb' : decide (b.den = 1) = true := decide_eq_true hdb
        have hfin : a + b = mkQ sb (crossN a b) 1 := by rw [HQ1.out, hda, hdb]
        have HF := Lib.hid (hfin)
        rw [hda'] at za
        rw [hdb'] at zb
        obtain ⟨⟨i0, i1, i2⟩, h0, h1, h2⟩ := hba.three
        clear hfin hda hdb hda' hdb'
        go_wp2_with fail
        refine (isZero_any A1' n1' c1' _).mono ?_
        rintro e w6 ⟨rfl, hx6⟩
        have hbb := hbb.keep hx6
        have hbr := hbr.keep hx6
        have hbg := hbg.keep hx6
        obtain ⟨⟨j0, j1, j2⟩, g'0, g'1, g'2⟩ := hbb.three
        have E6 := Lib.hid (E5.out.tr hx6)
        have R6 := Lib.hid (R'.out.keep hx6)
        clear hx6
        go_wp2_with fail
        refine (isZero_any A2' n2' c2' _).mono ?_
        rintro e w7 ⟨rfl, hx7⟩
        have hbr := hbr.keep hx7
        have hbg := hbg.keep hx7
        have cg := hbg.one.1
        have E7 := Lib.hid (E6.out.tr hx7)
        have R7 := Lib.hid (R6.out.keep hx7)
        clear hx7
        go_wp2_with fail
        refine (whole_any sb A n c (crossN a b) _ R7.out).mono ?_
        rintro e w8 ⟨ng, B, m, d, B', m', d', rfl, hR8, hx8⟩
        have hbr := hbr.keep hx8
        obtain ⟨⟨k0, k1, k2⟩, f0, f1, f2⟩ := hbr.three
        have E8 := Lib.hid (E7.out.tr hx8)
        have R8 := Lib.hid (hR8)
        clear hx8 hR8
        go_wp2
        exact bodyPost_ret (v := .agg #[.bool ng, .slice B m d, .slice B' m' d']) (by simp [results, Tryz.results28, go_sem, (((hbr.set_ 0 _).set_ 1 _).set_ 2 _).cell]) rfl (by rw [HF.out]; exact ratPost_set hbr (by decide) R8.out E8.out (by omega))
    case' inr.inl =>
      rw [decide_eq_true hda] at za
      rw [decide_eq_false hdb] at zb
      obtain ⟨⟨i0, i1, i2⟩, h0, h1, h2⟩ := hba.three
      clear hda hdb
      go_wp2_with fail
      refine (isZero_any A1' n1' c1' _).mono ?_
      rintro e w6 ⟨rfl, hx6⟩
      have hba := hba.keep hx6
      have hbb := hbb.keep hx6
      have hbr := hbr.keep hx6
      have hbg := hbg.keep hx6
      obtain ⟨⟨j0, j1, j2⟩, g'0, g'1, g'2⟩ := hbb.three
      have E6 := Lib.hid (E5.out.tr hx6)
      have R6 := Lib.hid (R'.out.keep hx6)
      clear hx6
      go_wp2_with fail
      refine (isZero_any A2' n2' c2' _).mono ?_
      rintro e wz ⟨rfl, hxz⟩
      have hba := hba.keep hxz
      have hbb := hbb.keep hxz
      have hbr := hbr.keep hxz
      have hbg := hbg.keep hxz
      have EZ := Lib.hid (E6.out.tr hxz)
      have RZ := Lib.hid (R6.out.keep hxz)
      clear hxz i0 i1 i2 h0 h1 h2 j0 j1 j2 g'0 g'1 g'2
    case' inr.inr =>
      rw [decide_eq_false hda] at za
      obtain ⟨⟨i0, i1, i2⟩, h0, h1, h2⟩ := hba.three
      clear hda zb
      go_wp2_with fail
      refine (isZero_any A1' n1' c1' _).mono ?_
      rintro e wz ⟨rfl, hxz⟩
      have hba := hba.keep hxz
      have hbb := hbb.keep hxz
      have hbr := hbr.keep hxz
      have hbg := hbg.keep hxz
      have EZ := Lib.hid (E5.out.tr hxz)
      have RZ := Lib.hid (R'.out.keep hxz)
      clear hxz i0 i1 i2 h0 h1 h2
    all_goals
      have hba : Blk wz.drew _ _ _ := hba
      have hbb : Blk wz.drew _ _ _ := hbb
      have hbr : Blk wz.drew _ _ _ := hbr
      have hbg : Blk wz.drew _ _ _ := hbg
      have EZ := Lib.hid (EZ.out.drewN 1)
      have RZ := Lib.hid (RZ.out.keep ((Ext.refl wz).drewN 1))
      obtain ⟨⟨i0, i1, i2⟩, _⟩ := hba.three
      obtain ⟨⟨j0, j1, j2⟩, _⟩ := hbb.three
      obtain ⟨cg, _⟩ := hbg.one
      go_wp2
      go_region_held3 (fun w' => w'.cell? ⟨w.heap.size, 0, none⟩ = some (.bool na) ∧ w'.cell? ⟨w.heap.size, 1, none⟩ = some (.slice A1 n1 c1) ∧ w'.cell? ⟨w.heap.size, 2, none⟩ = some (.slice A1' n1' c1') ∧
          w'.cell? ⟨w.heap.size + 1, 2, none⟩ = some (.slice A2' n2' c2') ∧ w'.cell? ⟨g, 0, none⟩ = some (.slice A n c)) (first | exact ⟨i0, i1, i2, j2, cg⟩ | exact ⟨(fa _ _ _).cell 0, (fa _ _ _).cell 1, (fa _ _ _).cell 2, (fb _ _ _).cell 2, (fg _ _ _).cell 0⟩)
        (first
          | (go_at_call 55
             refine (den_any na A1 n1 c1 A1' n1' c1' a _ (HA.out.keep EZ.out)).mono ?_
             rintro e w7 ⟨A7, n7, c7, rfl, hR7, hx7⟩
             have hba := hba.keep hx7
             have hbb := hbb.keep hx7
             have hbr := hbr.keep hx7
             have hbg := hbg.keep hx7
             have E7 := Lib.hid (EZ.out.tr hx7)
             have RZ7 := Lib.hid (RZ.out.keep hx7)
             have R7 := Lib.hid hR7
             have L7 := den_len hR7 HA.out.2.2
             obtain ⟨⟨i0, i1, i2⟩, _⟩ := hba.three
             obtain ⟨⟨j0, j1, j2⟩, _⟩ := hbb.three
             obtain ⟨cg, _⟩ := hbg.one
             clear hx7 hR7)
          | (go_at_call 41
             refine (times_any A7 A2' n7 c7 n2' c2' a.den (dk b) _ R7.out (HB.out.2.2.keep E7.out) (by omega) (by omega)).mono ?_
             rintro e w8 ⟨A8, n8, c8, rfl, hR8, hx8⟩
             have hba := hba.keep hx8
             have hbb := hbb.keep hx8
             have hbr := hbr.keep hx8
             have hbg := hbg.keep hx8
             have E8 := Lib.hid (E7.out.tr hx8)
             have RZ8 := Lib.hid (RZ7.out.keep hx8)
             have L8 := times_len hR8 R7.out (HB.out.2.2.keep E7.out)
             have hR8 : NatR w8 A8 n8 c8 (a.den * b.den) := (by rw [dn_dk] at hR8; exact hR8)
             have R8 := Lib.hid hR8
             obtain ⟨⟨i0, i1, i2⟩, _⟩ := hba.three
             obtain ⟨⟨j0, j1, j2⟩, _⟩ := hbb.three
             obtain ⟨cg, _⟩ := hbg.one
             clear hx8 hR8)
          | (go_at_call 54
             refine (RED.out sb A A8 n c n8 c8 _ RZ8.out R8.out (by omega) (by omega)).mono ?_
             rintro e w9 ⟨ng, B, m, d, B', m', d', rfl, hR9, hx9⟩
             have hba := hba.keep hx9
             have hbb := hbb.keep hx9
             have hbr := hbr.keep hx9
             have hbg := hbg.keep hx9
             have E9 := Lib.hid (E8.out.tr hx9)
             have R9 := Lib.hid hR9
             obtain ⟨⟨i0, i1, i2⟩, _⟩ := hba.three
             obtain ⟨⟨j0, j1, j2⟩, _⟩ := hbb.three
             obtain ⟨⟨k0, k1, k2⟩, f0, f1, f2⟩ := hbr.three
             obtain ⟨cg, _⟩ := hbg.one
             have fa := fun u0 u1 u2 => ((hba.far (p := ⟨w.heap.size + 1 + 1, 0, none⟩) (by simp; omega) u0).far (p := ⟨w.heap.size + 1 + 1, 1, none⟩) (by simp; omega) u1).far (p := ⟨w.heap.size + 1 + 1, 2, none⟩) (by simp; omega) u2
             have fb := fun u0 u1 u2 => ((hbb.far (p := ⟨w.heap.size + 1 + 1, 0, none⟩) (by simp) u0).far (p := ⟨w.heap.size + 1 + 1, 1, none⟩) (by simp) u1).far (p := ⟨w.heap.size + 1 + 1, 2, none⟩) (by simp) u2
             have fg := fun u0 u1 u2 => ((hbg.far (p := ⟨w.heap.size + 1 + 1, 0, none⟩) (by simp; omega) u0).far (p := ⟨w.heap.size + 1 + 1, 1, none⟩) (by simp; omega) u1).far (p := ⟨w.heap.size + 1 + 1, 2, none⟩) (by simp; omega) u2
             clear hx9 hR9))
      go_wp2
      exact bodyPost_ret (v := .agg #[.bool ng, .slice B m d, .slice B' m' d']) (by simp [results, Tryz.results28, go_sem, (((hbr.set_ 0 _).set_ 1 _).set_ 2 _).cell]) rfl (by rw [HQ1.out]; exact ratPost_set hbr (by decide) R9.out E9.out (by omega))

end Go.Proofs.YtjmkcckbbgpkeaaGreatDoor
