/- waypointref41.Of: the numbers of fractions. -/
/- waypointlaw42.numbers: the program's numbers for the reference's. -/
/- waypointlaw46.numbers: the program's numbers for the reference's. -/
/- waypointlaw46.is: whether a number is the specified one. -/
/- Small fractions; appending a number. -/
import Derived.Test.YtekiomanidimnaaDoorQl
import Derived.Test.YtekiomanidimnaaDoorOpen
import Derived.Test.YtekiomanidimnaaDoorMul
set_option linter.unusedVariables false
set_option linter.unusedSimpArgs false

namespace Go.Proofs.YtekiomanidimnaaDoor
open Go.RowKit
def frD (x : Fr) : Int := if x.den = 0 then 1 else x.den
def frQ (x : Fr) : Rat := ofQ x.num (frD x)
/-- A number of the reference in three cells. -/
def RQC (w : World) (cs : List Value) (q : Rat) : Prop := ∃ (neg : Bool) (A : Option Addr) (n c : Nat) (A' : Option Addr) (n' c' : Nat), cs = [.bool neg, .slice A n c, .slice A' n' c'] ∧ RQR w neg A n c A' n' c' q
theorem RQC.keep (w w' : World) (cs : List Value) (q : Rat) (h : RQC w cs q) (hx : Ext w w') : RQC w' cs q := by
  obtain ⟨neg, A, n, c, A', n', c', e, h1⟩ := h
  exact ⟨neg, A, n, c, A', n', c', e, h1.keep hx⟩
theorem GrpR.grownK {w w' : World} {A : Option Addr} {n c N : Nat} {t' : TypeId} {row : Option Nat} (h : GrpR w A n c N) (hg : w.grownBy w' row) (hr : ∀ k, row = some k → ∃ cs fr, w.heap[k]? = some (.cells cs t' fr)) (hne : 3 ≠ t') : GrpR w' A n c N := by
  obtain ⟨ds, h1, h2, h3, h4, h5⟩ := h
  exact ⟨ds, h1, h2, h3, h4, h5.grownK hg hr hne⟩
theorem RQC.grownK {w w' : World} {cs : List Value} {q : Rat} {t' : TypeId} {row : Option Nat} (h : RQC w cs q) (hg : w.grownBy w' row) (hr : ∀ k, row = some k → ∃ cs fr, w.heap[k]? = some (.cells cs t' fr)) (hne : 3 ≠ t') : RQC w' cs q := by
  obtain ⟨neg, A, n, c, A', n', c', e, h1⟩ := h
  exact ⟨neg, A, n, c, A', n', c', e, h1.1, h1.2.1.grownK hg hr hne, h1.2.2.grownK hg hr hne⟩
theorem own_heap {w : World} {B n s : Nat} {e : TypeId} {v : Value} {xs : List Value} (h : w.ownsRow B e s v n xs) : ∀ k, v.ownBlock = some k → ∃ cs fr, w.heap[k]? = some (.cells cs e fr) := by
  intro k hk
  rcases h.2 with ⟨rfl, _⟩ | ⟨g, cap, cur, rfl, _, e3, _⟩
  · cases hk
  · simp [Value.ownBlock] at hk; subst hk; exact ⟨cur, _, e3⟩
theorem fr_cells {w : World} {AF : Option Addr} {fr : List Fr} (h : Rd w AF (fr.flatMap Fr.cells)) {i : Nat} {x : Fr} (hx : fr[i]? = some x) : ∃ b o : Nat, AF = some ⟨b, o, none⟩ ∧ b < w.heap.size ∧ w.cell? ⟨b, o + i * 2, none⟩ = some (.int .i8 x.num) ∧ w.cell? ⟨b, o + i * 2 + 1, none⟩ = some (.int .i8 x.den) := by
  have hi := (List.getElem?_eq_some_iff.1 hx)
  have hl := flatMap_len Fr.cells 2 (fun _ => rfl) fr
  obtain ⟨b, o, e, hb, hc⟩ := h.at_ (i := i * 2) (by rw [hl]; have := hi.1; omega)
  refine ⟨b, o, e, hb, ?_, ?_⟩
  · rw [hc (i * 2) (by rw [hl]; have := hi.1; omega)]
    have := flatMap_k Fr.cells 2 (fun _ => rfl) fr i 0 hi.1 (by omega)
    rw [Nat.add_zero] at this
    rw [this, hi.2]; rfl
  · rw [Nat.add_assoc, hc (i * 2 + 1) (by rw [hl]; have := hi.1; omega), flatMap_k Fr.cells 2 (fun _ => rfl) fr i 1 hi.1 (by omega), hi.2]; rfl
end Go.Proofs.YtekiomanidimnaaDoor


namespace Go.Proofs.YtekiomanidimnaaDoor
open Go.RowKit
theorem QLg.at_ {w : World} {P : Option Addr} {qs : List Rat} (h : QLg RQC w P qs) {i : Nat} {q : Rat} (hq : qs[i]? = some q) :
    ∃ (b o : Nat) (neg : Bool) (A : Option Addr) (n c : Nat) (A' : Option Addr) (n' c' : Nat), P = some ⟨b, o, none⟩ ∧ b < w.heap.size ∧ w.cell? ⟨b, o + i * 3, none⟩ = some (.bool neg) ∧ w.cell? ⟨b, o + i * 3 + 1, none⟩ = some (.slice A n c) ∧ w.cell? ⟨b, o + i * 3 + 2, none⟩ = some (.slice A' n' c') ∧ RQR w neg A n c A' n' c' q := by
  obtain ⟨css, h1, h2, h3, h4⟩ := h
  obtain ⟨cs, k1, neg, A, n, c, A', n', c', rfl, k2⟩ := h4 i q hq
  have hi := (List.getElem?_eq_some_iff.1 hq).1
  have hl := flatten_length css h2
  have key : ∀ k, k < 3 → css.flatten[i * 3 + k]? = ([.bool neg, .slice A n c, .slice A' n' c'] : List Value)[k]? := fun k hk => by
    rw [flatten_get css h2 i k (by omega) hk, k1]; rfl
  obtain ⟨b, o, rfl, hb, hc⟩ := h3.at_ (i := i * 3) (by omega)
  refine ⟨b, o, neg, A, n, c, A', n', c', rfl, hb, ?_, ?_, ?_, k2⟩
  · have := hc (i * 3 + 0) (by omega)
    rw [key 0 (by omega)] at this
    exact this
  · have := hc (i * 3 + 1) (by omega)
    rw [key 1 (by omega)] at this
    exact this
  · have := hc (i * 3 + 2) (by omega)
    rw [key 2 (by omega)] at this
    exact this
theorem QLg.keep {w w' : World} {P : Option Addr} {qs : List Rat} (h : QLg RQC w P qs) (hx : Ext w w') : QLg RQC w' P qs := by
  obtain ⟨css, h1, h2, h3, h4⟩ := h
  refine ⟨css, h1, h2, h3.keep hx, fun i q hq => ?_⟩
  obtain ⟨cs, k1, k2⟩ := h4 i q hq
  exact ⟨cs, k1, RQC.keep _ _ _ _ k2 hx⟩
/-- Few digits. -/
def SmQ (q : Rat) : Prop := q.num.natAbs < 1000000000 ∧ q.den < 1000000000
theorem RQR.lens {w : World} {neg : Bool} {A : Option Addr} {n c : Nat} {A' : Option Addr} {n' c' : Nat} {q : Rat} (h : RQR w neg A n c A' n' c' q) (hs : SmQ q) : n ≤ 2 ∧ n' ≤ 2 := by
  have h6 : G6 ^ 2 = 1000000000000 := by decide
  refine ⟨h.2.1.lenOf (by have := hs.1; omega), h.2.2.lenOf ?_⟩
  unfold dk
  split
  · decide
  · have := hs.2; omega
theorem NatR.grownK {w w' : World} {A : Option Addr} {n c N : Nat} {t' : TypeId} {row : Option Nat} (h : NatR w A n c N) (hg : w.grownBy w' row) (hr : ∀ k, row = some k → ∃ cs fr, w.heap[k]? = some (.cells cs t' fr)) (hne : 66 ≠ t') : NatR w' A n c N := by
  obtain ⟨ds, h1, h2, h3, h4, h5⟩ := h
  exact ⟨ds, h1, h2, h3, h4, h5.grownK hg hr hne⟩
theorem QR.grownK {w w' : World} {cs : List Value} {q : Rat} {t' : TypeId} {row : Option Nat} (h : QR w cs q) (hg : w.grownBy w' row) (hr : ∀ k, row = some k → ∃ cs fr, w.heap[k]? = some (.cells cs t' fr)) (hne : 66 ≠ t') : QR w' cs q := by
  obtain ⟨neg, A, n, c, A', n', c', e, h1⟩ := h
  exact ⟨neg, A, n, c, A', n', c', e, h1.1, h1.2.1.grownK hg hr hne, h1.2.2.grownK hg hr hne⟩
end Go.Proofs.YtekiomanidimnaaDoor


namespace Go.Proofs.YtekiomanidimnaaDoor
open Go.RowKit
end Go.Proofs.YtekiomanidimnaaDoor


namespace Go.Proofs.YtekiomanidimnaaDoor
open Go.RowKit
end Go.Proofs.YtekiomanidimnaaDoor


namespace Go.Proofs.YtekiomanidimnaaDoor
open Go.RowKit
theorem wp_push3 {o : Oper} {a : Act} {K : Act → World → Prop} {Q : Exit → Act → World → Prop} (w W : World) (t e : TypeId) (s x : Operand)
    (ho : o.op = .call { callee := .builtin .append, args := #[s, x], argTypes := #[t, t] })
    (ht : Tryd.prog.underlying t = some (.slice e)) (hinfo : (Tryd.prog.info? e).map (fun i => (i.zero, i.size, i.bytes)) = some (some (.agg #[.bool false, .slice none 0 0, .slice none 0 0]), 3, 56))
    (B : Nat) (v : Value) (n : Nat) (xs : List Value) (hs : a.eval s = v) (hown : W.ownsRow B e 3 v n xs) (u0 u1 u2 : Value) (h0 : u0.oneCell' = true) (h1 : u1.oneCell' = true) (h2 : u2.oneCell' = true) (g : Nat) (hx : a.eval x = .slice (some ⟨g, 0, none⟩) 1 1)
    (hblk : Blk W g e #[u0, u1, u2]) (hl : n ≤ 1000000000) (hB : B ≤ W.heap.size)
    (h : ∀ v' w', w'.ownsRow B e 3 v' (n + 1) (xs ++ [u0, u1, u2]) → W.grownBy w' v.ownBlock → (∃ A c, v' = .slice A (n + 1) c) → K (a.put o.dst v') w') : o.wp Tryd.prog a W K Q := by
  obtain ⟨ti, hi, hz0, hz1, hz2⟩ := info_parts hinfo
  obtain ⟨v', w', hrun, k1, k2, k3, k4⟩ := run_append_own_at (P := Tryd.prog) W B t o.type e ti _ 3 56 ht hi hz0 hz1 hz2 rfl (by decide) v n xs hown ⟨g, 0, none⟩ 1 1 [u0, u1, u2] rfl (fun j u hj => by
      rw [addr_add, Nat.zero_add]
      exact (hblk.cell j).trans (by simpa using hj)) (fun u hu => by
      simp only [List.mem_cons, List.not_mem_nil, or_false] at hu
      rcases hu with rfl | rfl | rfl
      · exact h0
      · exact h1
      · exact h2) (by unfold maxLen; omega) (by omega) hB
  unfold Oper.wp execOp
  simp only [ho, resolve, invoke, builtin, Sem.run_bind, Sem.run_pure, Result.andThen_ok, List.map_toArray, List.map_cons, List.map_nil, hs, hx, hrun]
  refine h v' w' k1 k2 ?_
  rcases k1.2 with ⟨_, e2⟩ | ⟨g', cap, _, e1, _⟩
  · omega
  · exact ⟨_, cap, e1⟩
theorem frQ_sm {x : Fr} (h : x.wf) : SmQ (frQ x) := by
  obtain ⟨⟨h1, h2⟩, h3, h4⟩ := h
  have hd : frD x ≠ 0 := by unfold frD; split <;> omega
  have hdb : (frD x).natAbs ≤ 128 := by unfold frD; split <;> omega
  unfold SmQ frQ ofQ
  rw [mkQ_abs _ (by omega), mkQ_den _ (by omega)]
  have h5 := Nat.div_le_self x.num.natAbs (x.num.natAbs.gcd (frD x).natAbs)
  have h6 := Nat.div_le_self (frD x).natAbs (x.num.natAbs.gcd (frD x).natAbs)
  omega
theorem SmQ.sz {q : Rat} (h : SmQ q) : SzQ q 1 := by
  have : B32 ^ 1 = 4294967296 := by decide
  unfold SzQ
  rw [this]
  have := h.1
  have := h.2
  omega
theorem SmQ.mul {a b : Rat} (ha : SmQ a) (hb : SmQ b) : SzQ (a * b) 2 := by
  have hd : a.den * b.den ≠ 0 := Nat.mul_ne_zero a.den_nz b.den_nz
  unfold SzQ
  rw [mul_mkQ, mkQ_abs _ hd, mkQ_den _ hd, B32_sq]
  have h1 := Nat.div_le_self (a.num.natAbs * b.num.natAbs) ((a.num.natAbs * b.num.natAbs).gcd (a.den * b.den))
  have h2 := Nat.div_le_self (a.den * b.den) ((a.num.natAbs * b.num.natAbs).gcd (a.den * b.den))
  have h3 : a.num.natAbs * b.num.natAbs ≤ 1000000000 * 1000000000 := Nat.mul_le_mul (Nat.le_of_lt ha.1) (Nat.le_of_lt hb.1)
  have h4 : a.den * b.den ≤ 1000000000 * 1000000000 := Nat.mul_le_mul (Nat.le_of_lt ha.2) (Nat.le_of_lt hb.2)
  omega
theorem cmpQ_self (q : Rat) : cmpQ q q = 0 := by
  unfold cmpQ
  rw [if_neg Rat.lt_irrefl, if_pos rfl]
theorem ofQ_pos {y0 y1 : Nat} (h0 : y0 ≤ 255) (h1 : y1 ≤ 255) : 0 < ofQ (1 + (y0 : Int)) (1 + (y1 : Int)) ∧ SmQ (ofQ (1 + (y0 : Int)) (1 + (y1 : Int))) := by
  have ha : (1 + (y0 : Int)).natAbs = 1 + y0 := by omega
  have hb : (1 + (y1 : Int)).natAbs = 1 + y1 := by omega
  have hd : (1 + y1) ≠ 0 := by omega
  unfold ofQ
  rw [ha, hb, show decide (1 + (y0 : Int) < 0) = false from by simp; omega, show decide (1 + (y1 : Int) < 0) = false from by simp; omega]
  constructor
  · have h2 := mkQ_abs (false != false) (n := 1 + y0) hd
    have h3 := mkQ_neg (false != false) (n := 1 + y0) hd
    have hg : 0 < (1 + y0).gcd (1 + y1) := Nat.gcd_pos_of_pos_right _ (by omega)
    have h4 : 0 < (1 + y0) / (1 + y0).gcd (1 + y1) := Nat.div_pos (Nat.le_of_dvd (by omega) (Nat.gcd_dvd_left _ _)) hg
    have h5 : ¬ (mkQ (false != false) (1 + y0) (1 + y1)).num < 0 := by
      intro h; rw [decide_eq_true h] at h3; cases h3
    have h6 : 0 ≤ mkQ (false != false) (1 + y0) (1 + y1) := Rat.num_nonneg.1 (by omega)
    rcases Rat.le_iff_lt_or_eq.1 h6 with h7 | h7
    · exact h7
    · rw [← h7] at h2; simp at h2; omega
  · unfold SmQ
    rw [mkQ_abs _ hd, mkQ_den _ hd]
    have h5 := Nat.div_le_self (1 + y0) ((1 + y0).gcd (1 + y1))
    have h6 := Nat.div_le_self (1 + y1) ((1 + y0).gcd (1 + y1))
    omega
end Go.Proofs.YtekiomanidimnaaDoor
