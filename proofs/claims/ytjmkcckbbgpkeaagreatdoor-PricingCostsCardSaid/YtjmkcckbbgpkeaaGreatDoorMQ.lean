/- waypointref02: rational numbers of the reference in memory; Make, made. -/
/- waypointref02: made, size, Of, Text. -/
import Derived.Test.YtjmkcckbbgpkeaaGreatDoorMN
import Derived.Test.YtjmkcckbbgpkeaaGreatDoorMK
set_option linter.unusedVariables false
set_option linter.unusedSimpArgs false

namespace Go.Proofs.YtjmkcckbbgpkeaaGreatDoor
open Go.RowKit
/-- The struct's cells are the number q. -/
def RQR (w : World) (neg : Bool) (A : Option Addr) (n c : Nat) (A' : Option Addr) (n' c' : Nat) (q : Rat) : Prop :=
  neg = decide (q.num < 0) ∧ GrpR w A n c q.num.natAbs ∧ GrpR w A' n' c' (dk q)
theorem GrpR.other {w w' : World} {A : Option Addr} {n c N g : Nat} {t' : TypeId} {cs' : Array Value} (h : GrpR w A n c N) (hg : w.grownBy w' (some g)) (hb : Blk w g t' cs') (hne : 3 ≠ t') : GrpR w' A n c N := by
  obtain ⟨ds, h1, h2, h3, h4, h5⟩ := h
  exact ⟨ds, h1, h2, h3, h4, h5.other hg hb hne⟩
section
variable {w w' : World} {neg : Bool} {A : Option Addr} {n c : Nat} {A' : Option Addr} {n' c' : Nat} {q : Rat}
theorem RQR.keep (h : RQR w neg A n c A' n' c' q) (hb : Ext w w') : RQR w' neg A n c A' n' c' q := ⟨h.1, h.2.1.keep hb, h.2.2.keep hb⟩
theorem RQR.other (h : RQR w neg A n c A' n' c' q) {g : Nat} {t' : TypeId} {cs' : Array Value} (hg : w.grownBy w' (some g)) (hb : Blk w g t' cs') (hne : 3 ≠ t') : RQR w' neg A n c A' n' c' q :=
  ⟨h.1, h.2.1.other hg hb hne, h.2.2.other hg hb hne⟩
end
def RQPost (w : World) (q : Rat) (e : Ending) (w' : World) : Prop :=
  ∃ (neg : Bool) (A : Option Addr) (n c : Nat) (A' : Option Addr) (n' c' : Nat), e = .returned (.agg #[.bool neg, .slice A n c, .slice A' n' c']) ∧ RQR w' neg A n c A' n' c' q ∧ Ext w w'
theorem GrpR.one {w : World} {A : Option Addr} {n c : Nat} (h : GrpR w A n c 1) : n = 1 ∧ ∃ b o : Nat, A = some ⟨b, o, none⟩ ∧ b < w.heap.size ∧ w.cell? ⟨b, o, none⟩ = some (.int .i64 1) := by
  obtain ⟨ds, hl, _, hcan, hv, hr⟩ := h
  have e : ds = [1] := Dig.Canon.unique G6_gt hcan ⟨by simp [G6], by simp⟩ (by rw [hv]; simp [Dig.val])
  subst e
  obtain ⟨b, o, e, hb, hc⟩ := hr.rd.ints (k := 0) (by simp)
  exact ⟨by simpa using hl.symm, b, o, e, hb, (hc 0 (by simp)).trans (by simp)⟩
theorem GrpR.notone {w : World} {A : Option Addr} {c N : Nat} (h : GrpR w A 1 c N) (hN : N ≠ 1) : ∃ b o d : Nat, A = some ⟨b, o, none⟩ ∧ b < w.heap.size ∧ w.cell? ⟨b, o, none⟩ = some (.int .i64 (d : Int)) ∧ ((d : Int) == 1) = false := by
  obtain ⟨ds, hl, _, hcan, hv, hr⟩ := h
  obtain ⟨d, rfl⟩ : ∃ d, ds = [d] := by
    match ds, hl with
    | [d], _ => exact ⟨d, rfl⟩
  obtain ⟨b, o, e, hb, hc⟩ := hr.rd.ints (k := 0) (by simp)
  refine ⟨b, o, d, e, hb, (hc 0 (by simp)).trans (by simp), ?_⟩
  simp [Dig.val] at hv
  exact beq_eq_false_iff_ne.2 (by omega)
theorem mkQ_dk (neg : Bool) {n d : Nat} (hd : d ≠ 0) : dk (mkQ neg n d) = if d / n.gcd d = 1 then 0 else d / n.gcd d := by
  unfold dk; rw [mkQ_den neg hd]
/-- The digits of a number are new. -/
def FrsR (w : World) (A A' : Option Addr) : Prop := (∀ ad, A = some ad → w.heap.size ≤ ad.block) ∧ ∀ ad, A' = some ad → w.heap.size ≤ ad.block
theorem FrsR.le {w w' : World} {A A' : Option Addr} (h : FrsR w' A A') (hx : w.heap.size ≤ w'.heap.size) : FrsR w A A' := ⟨fun ad e => Nat.le_trans hx (h.1 ad e), fun ad e => Nat.le_trans hx (h.2 ad e)⟩
theorem FrsR.zl {w : World} {A A' : Option Addr} (h : FrsR w A A') : FrsR w none A' := ⟨fun _ e => (by cases e), h.2⟩
theorem FrsR.zr {w : World} {A A' : Option Addr} (h : FrsR w A A') : FrsR w A none := ⟨h.1, fun _ e => (by cases e)⟩
def RQPostF (w : World) (q : Rat) (e : Ending) (w' : World) : Prop :=
  ∃ (neg : Bool) (A : Option Addr) (n c : Nat) (A' : Option Addr) (n' c' : Nat), e = .returned (.agg #[.bool neg, .slice A n c, .slice A' n' c']) ∧ RQR w' neg A n c A' n' c' q ∧ Ext w w' ∧ FrsR w A A'
theorem RQPostF.ok {w w' : World} {q : Rat} {e : Ending} (h : RQPostF w q e w') : RQPost w q e w' := by
  obtain ⟨neg, A, n, c, A', n', c', k0, k1, k2, _⟩ := h
  exact ⟨neg, A, n, c, A', n', c', k0, k1, k2⟩
end Go.Proofs.YtjmkcckbbgpkeaaGreatDoor


namespace Go.Proofs.YtjmkcckbbgpkeaaGreatDoor
open Go.RowKit Go.Sort
theorem rAbs_len {w : World} {A : Option Addr} {n c : Nat} {x : Int} (h : GrpR w A n c x.natAbs) (hx : -2147483648 < x) (hx2 : x < 2147483648) : n ≤ 2 := h.lenOf (by
  have : G6 ^ 2 = 1000000000000 := by decide
  omega)
theorem rdec_len {w : World} {A : Option Addr} {n c N : Nat} (h : GrpR w A n c N) (hn : n ≤ 1000000) : (Lib.decDigits N).length ≤ 6000001 := by
  have h1 := h.lt_pow
  have h2 : N < 10 ^ (6 * n + 1) := by
    refine Nat.lt_of_lt_of_le h1 ?_
    rw [show G6 = 10 ^ 6 from rfl, ← Nat.pow_mul]
    exact Nat.pow_le_pow_right (by decide) (by omega)
  rw [Lib.decDigits_length]
  have := nd_le _ _ h2
  omega
end Go.Proofs.YtjmkcckbbgpkeaaGreatDoor
