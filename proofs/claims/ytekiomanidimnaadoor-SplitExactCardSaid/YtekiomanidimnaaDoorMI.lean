/- pricing.priced: whether each arc has a price, at least 0. -/
/- cmp.Or, slices.Compare; pricing.compare. -/
/- pricing.first. -/
/- pricing.Cheapest as a plain function on labels; sizes of prices; how labels lie in memory. -/
/- Labels in memory. -/
/- pricing.Cheapest. -/
import Derived.Test.YtekiomanidimnaaDoorMH
import Derived.Deep.RegionHeld3
import Derived.Test.YtekiomanidimnaaDoorMC
import Derived.Test.YtekiomanidimnaaDoorMF
import Derived.Laws.MakeOwn
set_option linter.unusedVariables false
set_option linter.unusedSimpArgs false

namespace Go.Proofs.YtekiomanidimnaaDoor
open Go.RowKit
/-- The size of a number, in digits. -/
def SzQ (q : Rat) (k : Nat) : Prop := q.num.natAbs < B32 ^ k ∧ q.den < B32 ^ k
/-- A rational number's three cells. -/
def QR (w : World) (cs : List Value) (q : Rat) : Prop :=
  ∃ (neg : Bool) (A : Option Addr) (n c : Nat) (A' : Option Addr) (n' c' : Nat), cs = [.bool neg, .slice A n c, .slice A' n' c'] ∧ RatR w neg A n c A' n' c' q
theorem QR.keep {w w' : World} {cs : List Value} {q : Rat} (h : QR w cs q) (hx : Ext w w') : QR w' cs q := by
  obtain ⟨neg, A, n, c, A', n', c', e, h1⟩ := h
  exact ⟨neg, A, n, c, A', n', c', e, h1.keep hx⟩
theorem NatR.lenOf {w : World} {A : Option Addr} {n c N k : Nat} (h : NatR w A n c N) (hN : N < B32 ^ k) : n ≤ k := by
  obtain ⟨ds, rfl, _, hcan, rfl, _⟩ := h
  exact hcan.len_le B32_gt hN
theorem RatR.lens {w : World} {neg : Bool} {A : Option Addr} {n c : Nat} {A' : Option Addr} {n' c' : Nat} {q : Rat} {k : Nat} (h : RatR w neg A n c A' n' c' q) (hs : SzQ q k) : n ≤ k ∧ n' ≤ k := by
  refine ⟨h.2.1.lenOf hs.1, h.2.2.lenOf ?_⟩
  unfold dk
  split
  · exact Nat.pow_pos B32_pos
  · exact hs.2
theorem flatten_get {m : Nat} : ∀ (css : List (List Value)), (∀ cs ∈ css, cs.length = m) → ∀ (i k : Nat), i < css.length → k < m → css.flatten[i * m + k]? = (css[i]?.getD [])[k]?
  | [], _, i, k, hi, _ => by simp at hi
  | cs :: css, h, 0, k, _, hk => by
    rw [Nat.zero_mul, Nat.zero_add, List.flatten_cons, List.getElem?_append_left (by rw [h cs (by simp)]; exact hk)]
    rfl
  | cs :: css, h, i + 1, k, hi, hk => by
    have hl := h cs (by simp)
    rw [List.flatten_cons, List.getElem?_append_right (by rw [hl, Nat.add_mul, Nat.one_mul]; omega), hl, show (i + 1) * m + k - m = i * m + k by rw [Nat.add_mul, Nat.one_mul]; omega]
    rw [flatten_get css (fun c hc => h c (by simp [hc])) i k (by simpa using hi) hk]
    simp
theorem flatten_length {m : Nat} (css : List (List Value)) (h : ∀ cs ∈ css, cs.length = m) : css.flatten.length = css.length * m := by
  induction css with
  | nil => simp
  | cons a l ih => rw [List.flatten_cons, List.length_append, h a (by simp), ih (fun c hc => h c (by simp [hc])), List.length_cons, Nat.add_mul, Nat.one_mul, Nat.add_comm]
/-- A slice of rational numbers. -/
def QL (w : World) (P : Option Addr) (qs : List Rat) : Prop :=
  ∃ css : List (List Value), css.length = qs.length ∧ (∀ cs ∈ css, cs.length = 3) ∧ Rd w P css.flatten ∧ ∀ (i : Nat) (q : Rat), qs[i]? = some q → ∃ cs, css[i]? = some cs ∧ QR w cs q
theorem QL.keep {w w' : World} {P : Option Addr} {qs : List Rat} (h : QL w P qs) (hx : Ext w w') : QL w' P qs := by
  obtain ⟨css, h1, h2, h3, h4⟩ := h
  refine ⟨css, h1, h2, h3.keep hx, fun i q hq => ?_⟩
  obtain ⟨cs, k1, k2⟩ := h4 i q hq
  exact ⟨cs, k1, k2.keep hx⟩
theorem QL.at_ {w : World} {P : Option Addr} {qs : List Rat} (h : QL w P qs) {i : Nat} {q : Rat} (hq : qs[i]? = some q) :
    ∃ (b o : Nat) (neg : Bool) (A : Option Addr) (n c : Nat) (A' : Option Addr) (n' c' : Nat), P = some ⟨b, o, none⟩ ∧ b < w.heap.size ∧ w.cell? ⟨b, o + i * 3, none⟩ = some (.bool neg) ∧ w.cell? ⟨b, o + i * 3 + 1, none⟩ = some (.slice A n c) ∧ w.cell? ⟨b, o + i * 3 + 2, none⟩ = some (.slice A' n' c') ∧ RatR w neg A n c A' n' c' q := by
  obtain ⟨css, h1, h2, h3, h4⟩ := h
  obtain ⟨cs, k1, neg, A, n, c, A', n', c', rfl, k2⟩ := h4 i q hq
  have hi := (List.getElem?_eq_some_iff.1 hq).1
  have hl := flatten_length css h2
  have key : ∀ k, k < 3 → css.flatten[i * 3 + k]? = ([.bool neg, .slice A n c, .slice A' n' c'] : List Value)[k]? := fun k hk => by
    rw [flatten_get css h2 i k (by omega) hk, k1]; rfl
  obtain ⟨b, o, rfl, hb, hc⟩ := h3.at_ (i := i * 3) (by omega)
  refine ⟨b, o, neg, A, n, c, A', n', c', rfl, hb, ?_, ?_, ?_, k2⟩
  · have := hc (i * 3 + 0) (by omega)
    rw [key 0 (by omega)] at this
    exact this
  · have := hc (i * 3 + 1) (by omega)
    rw [key 1 (by omega)] at this
    exact this
  · have := hc (i * 3 + 2) (by omega)
    rw [key 2 (by omega)] at this
    exact this
def IdxPost (w : World) (qs : List Rat) (e : Ending) (w' : World) : Prop := ∃ r : Int, e = .returned (.int .i64 r) ∧ decide (0 ≤ r) = qs.any (fun q => decide (sgnI q < 0)) ∧ Ext w w'
/-- Each arc has a price, at least 0. -/
def pricedP (t : Tp) (qs : List Rat) : Bool := decide (qs.length = 2 * t.links.length) && !qs.any (fun q => decide (sgnI q < 0))
end Go.Proofs.YtekiomanidimnaaDoor


namespace Go.Proofs.YtekiomanidimnaaDoor
open Go.RowKit
/-- The first number that is not 0. -/
def or3 (x y z : Int) : Int := if x ≠ 0 then x else if y ≠ 0 then y else z
/-- The comparison of two lists, number for number. -/
def lexI : List Nat → List Nat → Int
  | [], [] => 0
  | [], _ :: _ => -1
  | _ :: _, [] => 1
  | a :: x, b :: y => if a < b then -1 else if a = b then lexI x y else 1
theorem compareInt_nat (x y : Nat) : Lib.compareInt (x : Int) (y : Int) = cmpI x y := by
  unfold Lib.compareInt cmpI
  split <;> split <;> (try split) <;> omega
theorem lexI_drop {l1 l2 : List Nat} {k a b : Nat} (h1 : l1[k]? = some a) (h2 : l2[k]? = some b) : lexI (l1.drop k) (l2.drop k) = if a < b then -1 else if a = b then lexI (l1.drop (k + 1)) (l2.drop (k + 1)) else 1 := by
  obtain ⟨hk1, e1⟩ := List.getElem?_eq_some_iff.1 h1
  obtain ⟨hk2, e2⟩ := List.getElem?_eq_some_iff.1 h2
  rw [List.drop_eq_getElem_cons hk1, List.drop_eq_getElem_cons hk2, lexI, e1, e2]
/-- The comparison of two labels. -/
def cmpL (p q : Rat) (x y : List Nat) : Int := or3 (cmpQ p q) (cmpI x.length y.length) (lexI x y)
end Go.Proofs.YtekiomanidimnaaDoor


namespace Go.Proofs.YtekiomanidimnaaDoor
open Go.RowKit
/-- The price of a list of arcs. -/
def prQ (ps : List Rat) (arcs : List Nat) : Rat := arcs.foldl (fun s a => s + ps[a]?.getD 0) 0
theorem prQ_snoc (ps : List Rat) (arcs : List Nat) (a : Nat) : prQ ps (arcs ++ [a]) = prQ ps arcs + ps[a]?.getD 0 := by unfold prQ; rw [List.foldl_append]; rfl
/-- A label. -/
structure Lb where
  known : Bool
  done : Bool
  arcs : List Nat
def LbR (w : World) (ps : List Rat) (cs : List Value) (lb : Lb) : Prop :=
  ∃ (neg : Bool) (A : Option Addr) (n c : Nat) (A' : Option Addr) (n' c' : Nat) (AX : Option Addr) (cx : Nat), cs = [.bool lb.known, .bool lb.done, .bool neg, .slice A n c, .slice A' n' c', .slice AX lb.arcs.length cx] ∧ RatR w neg A n c A' n' c' (prQ ps lb.arcs) ∧ lb.arcs.length ≤ cx ∧ RdT w 3 AX (ints lb.arcs)
theorem LbR.keep {w w' : World} {ps : List Rat} {cs : List Value} {lb : Lb} (h : LbR w ps cs lb) (hx : Ext w w') : LbR w' ps cs lb := by
  obtain ⟨neg, A, n, c, A', n', c', AX, cx, e, h1, h2, h3⟩ := h
  exact ⟨neg, A, n, c, A', n', c', AX, cx, e, h1.keep hx, h2, h3.keep hx⟩
/-- A label is before another one. -/
def befP (ps : List Rat) (x y : List Nat) : Bool := decide (cmpL (prQ ps x) (prQ ps y) x y < 0)
/-- The node with the first path of those that are known and not done, among the first k. -/
def firstTo (ps : List Rat) (ls : List Lb) : Nat → Int
  | 0 => -1
  | k + 1 => match ls[k]? with
    | none => firstTo ps ls k
    | some l => if l.known && !l.done && (decide (firstTo ps ls k < 0) || befP ps l.arcs ((ls[(firstTo ps ls k).toNat]?.map Lb.arcs).getD [])) then (k : Int) else firstTo ps ls k
def firstP (ps : List Rat) (ls : List Lb) : Int := firstTo ps ls ls.length
theorem firstTo_range (ps : List Rat) (ls : List Lb) : ∀ k, firstTo ps ls k = -1 ∨ (0 ≤ firstTo ps ls k ∧ (firstTo ps ls k).toNat < k ∧ (firstTo ps ls k).toNat < ls.length)
  | 0 => .inl rfl
  | k + 1 => by
    have ih := firstTo_range ps ls k
    unfold firstTo
    split
    · rcases ih with h | h
      · exact .inl h
      · exact .inr ⟨h.1, by omega, h.2.2⟩
    · rename_i l hl
      split
      · have := (List.getElem?_eq_some_iff.1 hl).1
        exact .inr ⟨by omega, by omega, by omega⟩
      · rcases ih with h | h
        · exact .inl h
        · exact .inr ⟨h.1, by omega, h.2.2⟩
/-- The sizes of the prices of labels. -/
def SzL (ps : List Rat) (ls : List Lb) : Prop := ∀ lb ∈ ls, SzQ (prQ ps lb.arcs) 268435456 ∧ lb.arcs.length ≤ 1000
end Go.Proofs.YtekiomanidimnaaDoor


namespace Go.Proofs.YtekiomanidimnaaDoor
open Go.RowKit
theorem SzQ.mono {q : Rat} {k m : Nat} (h : SzQ q k) (hm : k ≤ m) : SzQ q m := ⟨Nat.lt_of_lt_of_le h.1 (Nat.pow_le_pow_right B32_pos hm), Nat.lt_of_lt_of_le h.2 (Nat.pow_le_pow_right B32_pos hm)⟩
theorem SzQ.zero : SzQ 0 1 := ⟨by decide, by decide⟩
theorem SzQ.add {a b : Rat} {k m : Nat} (ha : SzQ a k) (hb : SzQ b m) : SzQ (a + b) (k + m + 1) := by
  have hd : a.den * b.den ≠ 0 := Nat.mul_ne_zero a.den_nz b.den_nz
  have e := Rat.add_def' a b
  obtain ⟨g, hg, e1, e2⟩ : ∃ g : Nat, g ≠ 0 ∧ a.num * b.den + b.num * a.den = (a + b).num * g ∧ a.den * b.den = (a + b).den * g := by
    have hq : mkRat (a.num * b.den + b.num * a.den) (a.den * b.den) = ⟨(a + b).num, (a + b).den, (a + b).den_nz, (a + b).reduced⟩ := e.symm
    exact Rat.mkRat_num_den hd hq
  have h1 : 1 ≤ g := by omega
  have hk : 0 < B32 ^ k := Nat.pow_pos B32_pos
  have hm : 0 < B32 ^ m := Nat.pow_pos B32_pos
  have p1 : a.num.natAbs * b.den < B32 ^ k * B32 ^ m := Nat.mul_lt_mul_of_lt_of_le ha.1 (Nat.le_of_lt hb.2) hm
  have p2 : b.num.natAbs * a.den < B32 ^ m * B32 ^ k := Nat.mul_lt_mul_of_lt_of_le hb.1 (Nat.le_of_lt ha.2) hk
  have p3 : a.den * b.den < B32 ^ k * B32 ^ m := Nat.mul_lt_mul_of_lt_of_le ha.2 (Nat.le_of_lt hb.2) hm
  have hB : B32 ^ (k + m + 1) = B32 ^ k * B32 ^ m * B32 := by rw [Nat.pow_succ, Nat.pow_add]
  rw [Nat.mul_comm (B32 ^ m)] at p2
  unfold SzQ
  rw [hB]
  generalize B32 ^ k * B32 ^ m = Z at *
  have hZ : 2 * Z ≤ Z * B32 := by rw [Nat.mul_comm]; exact Nat.mul_le_mul_left _ (by decide)
  constructor
  · have q1 : (a.num * b.den + b.num * a.den).natAbs = (a + b).num.natAbs * g := by rw [e1, Int.natAbs_mul]; rfl
    have q2 : (a.num * b.den + b.num * a.den).natAbs ≤ a.num.natAbs * b.den + b.num.natAbs * a.den := by
      refine Nat.le_trans (Int.natAbs_add_le _ _) ?_
      rw [Int.natAbs_mul, Int.natAbs_mul]
      exact Nat.le_refl _
    have q3 : (a + b).num.natAbs * 1 ≤ (a + b).num.natAbs * g := Nat.mul_le_mul_left _ h1
    omega
  · have q3 : (a + b).den * 1 ≤ (a + b).den * g := Nat.mul_le_mul_left _ h1
    omega
theorem SzQ.pr {ps : List Rat} {P : Nat} (hP : 1 ≤ P) (h : ∀ q ∈ ps, SzQ q P) (arcs : List Nat) : SzQ (prQ ps arcs) (1 + arcs.length * (P + 1)) := by
  have key : ∀ (l : List Nat) (s : Rat) (k : Nat), SzQ s k → SzQ (l.foldl (fun s a => s + ps[a]?.getD 0) s) (k + l.length * (P + 1)) := by
    intro l
    induction l with
    | nil => intro s k hs; simpa using hs
    | cons a l ih =>
      intro s k hs
      have h1 : SzQ (ps[a]?.getD 0) P := by
        by_cases ha : a < ps.length
        · rw [List.getElem?_eq_getElem ha]; exact h _ (List.getElem_mem ha)
        · rw [List.getElem?_eq_none (by omega)]; exact SzQ.zero.mono hP
      have := ih _ _ (hs.add h1)
      rw [List.foldl_cons]
      refine this.mono ?_
      rw [List.length_cons, Nat.add_mul, Nat.one_mul]
      omega
  exact key arcs 0 1 SzQ.zero
def arcsOf (ls : List Lb) (n : Nat) : List Nat := (ls[n]?.map Lb.arcs).getD []
/-- One arc of the search for the cheapest path. -/
def relaxP (t : Tp) (down : List Bool) (ps : List Rat) (d n : Nat) (ls : List Lb) (a : Nat) : List Lb :=
  match ls[(headP t a).toNat]? with
  | none => ls
  | some lm => if lm.done || !usableP t down a d then ls else if !lm.known || befP ps (arcsOf ls n ++ [a]) lm.arcs then ls.set (headP t a).toNat ⟨true, false, arcsOf ls n ++ [a]⟩ else ls
def markP (ls : List Lb) (n : Nat) : List Lb := match ls[n]? with
  | none => ls
  | some l => ls.set n ⟨l.known, true, l.arcs⟩
def undone (ls : List Lb) : Nat := ls.countP (fun l => !l.done)
def dijP (t : Tp) (down : List Bool) (ps : List Rat) (d : Nat) : Nat → List Lb → Option (List Nat)
  | 0, _ => none
  | f + 1, ls => if firstP ps ls < 0 then none else if (firstP ps ls).toNat = d then some (arcsOf ls (firstP ps ls).toNat) else
    dijP t down ps d f ((leavP t (firstP ps ls).toNat).foldl (relaxP t down ps d (firstP ps ls).toNat) (markP ls (firstP ps ls).toNat))
def initP (N s : Nat) : List Lb := (List.replicate N ⟨false, false, []⟩).set s ⟨true, false, []⟩
/-- The cheapest path, as the program finds it. -/
def cheapP (t : Tp) (down : List Bool) (ps : List Rat) (s d : Nat) : Option (List Nat) := dijP t down ps d (t.nodes.toNat + 1) (initP t.nodes.toNat s)
theorem first_fresh (ps : List Rat) (ls : List Lb) : ∀ k, 0 ≤ firstTo ps ls k → ∃ l, ls[(firstTo ps ls k).toNat]? = some l ∧ l.known = true ∧ l.done = false
  | 0, h => by simp [firstTo] at h
  | k + 1, h => by
    have ih := first_fresh ps ls k
    unfold firstTo at h ⊢
    split
    · rename_i hl
      rw [hl] at h
      exact ih h
    · rename_i l hl
      rw [hl] at h
      simp only [] at h
      split
      · rename_i hc
        simp only [Bool.and_eq_true, Bool.not_eq_true'] at hc
        refine ⟨l, by rw [Int.toNat_natCast]; exact hl, hc.1.1, hc.1.2⟩
      · rename_i hc
        rw [if_neg hc] at h
        exact ih h
theorem relax_len (t : Tp) (down : List Bool) (ps : List Rat) (d n : Nat) (ls : List Lb) (a : Nat) : (relaxP t down ps d n ls a).length = ls.length := by
  unfold relaxP
  split
  · rfl
  · split
    · rfl
    · split
      · simp
      · rfl
theorem undone_set {ls : List Lb} {m : Nat} {lm l : Lb} (h : ls[m]? = some lm) (hd : lm.done = false) (hl : l.done = false) : undone (ls.set m l) = undone ls := by
  unfold undone
  induction ls generalizing m with
  | nil => simp at h
  | cons x ls ih =>
    cases m with
    | zero => simp at h; subst h; simp [List.countP_cons, hd, hl]
    | succ m => simp at h; simp [List.countP_cons, ih h]
theorem undone_mark {ls : List Lb} {n : Nat} {l : Lb} (h : ls[n]? = some l) (hd : l.done = false) : undone (markP ls n) + 1 = undone ls := by
  unfold markP
  rw [h]
  simp only []
  unfold undone
  induction ls generalizing n with
  | nil => simp at h
  | cons x ls ih =>
    cases n with
    | zero => simp at h; subst h; simp [List.countP_cons, hd]
    | succ n => simp at h; have := ih h; simp [List.countP_cons]; omega
theorem undone_relax (t : Tp) (down : List Bool) (ps : List Rat) (d n : Nat) (ls : List Lb) (a : Nat) : undone (relaxP t down ps d n ls a) = undone ls := by
  unfold relaxP
  split
  · rfl
  · rename_i lm hlm
    split
    · rfl
    · rename_i hc
      simp only [Bool.or_eq_true, not_or, Bool.not_eq_true] at hc
      split
      · exact undone_set hlm hc.1 rfl
      · rfl
/-- No label is longer than the nodes that are done. -/
def lenOk (ls : List Lb) : Prop := ∀ l ∈ ls, l.arcs.length + undone ls ≤ ls.length
theorem arcsOf_len {ls : List Lb} (h : lenOk ls) (n : Nat) (hn : undone ls ≤ ls.length) : (arcsOf ls n).length + undone ls ≤ ls.length := by
  unfold arcsOf
  cases e : ls[n]? with
  | none => simpa using hn
  | some l => exact h l (List.mem_of_getElem? e)
theorem undone_le (ls : List Lb) : undone ls ≤ ls.length := List.countP_le_length
end Go.Proofs.YtekiomanidimnaaDoor


namespace Go.Proofs.YtekiomanidimnaaDoor
open Go.RowKit
theorem RdT.other {w w' : World} {t t' : TypeId} {A : Option Addr} {xs : List Value} {g : Nat} {cs' : Array Value} (h : RdT w t A xs) (hg : w.grownBy w' (some g)) (hb : Blk w g t' cs') (hne : t ≠ t') : RdT w' t A xs :=
  h.grown hg (fun hx ad had e => by
    obtain ⟨b, o, cs, fr, e1, e2, _⟩ := h hx
    rw [had] at e1
    injection e1 with e1
    subst e1
    injection e with e
    subst e
    unfold Blk at hb
    rw [e2] at hb
    injection hb with hb
    injection hb with _ hb
    exact hne hb)
theorem NatR.other {w w' : World} {A : Option Addr} {n c N g : Nat} {t' : TypeId} {cs' : Array Value} (h : NatR w A n c N) (hg : w.grownBy w' (some g)) (hb : Blk w g t' cs') (hne : 66 ≠ t') : NatR w' A n c N := by
  obtain ⟨ds, h1, h2, h3, h4, h5⟩ := h
  exact ⟨ds, h1, h2, h3, h4, h5.other hg hb hne⟩
theorem RatR.other {w w' : World} {neg : Bool} {A : Option Addr} {n c : Nat} {A' : Option Addr} {n' c' : Nat} {q : Rat} {g : Nat} {t' : TypeId} {cs' : Array Value} (h : RatR w neg A n c A' n' c' q) (hg : w.grownBy w' (some g)) (hb : Blk w g t' cs') (hne : 66 ≠ t') : RatR w' neg A n c A' n' c' q :=
  ⟨h.1, h.2.1.other hg hb hne, h.2.2.other hg hb hne⟩
theorem LL.other {w w' : World} {gl N g : Nat} {X : Nat → List Nat} {t' : TypeId} {cs' : Array Value} (h : LL w gl N X) (hg : w.grownBy w' (some g)) (hb : Blk w g t' cs') (h1 : 34 ≠ t') (h2 : 3 ≠ t') : LL w' gl N X := by
  obtain ⟨V, k1, k2⟩ := h
  refine ⟨V, (hg.block gl k1.lt (fun e => k1.ne_ hb h1 (by injection e))).trans k1, fun i hi => ?_⟩
  obtain ⟨A, c, k3, k4, k5⟩ := k2 i hi
  exact ⟨A, c, k3, k4, k5.other hg hb h2⟩
theorem flatten_set {m : Nat} : ∀ (css : List (List Value)), (∀ cs ∈ css, cs.length = m) → ∀ (i k : Nat) (v : Value), i < css.length → k < m → css.flatten.set (i * m + k) v = (css.set i ((css[i]?.getD []).set k v)).flatten
  | [], _, i, k, v, hi, _ => by simp at hi
  | cs :: css, h, 0, k, v, _, hk => by
    rw [Nat.zero_mul, Nat.zero_add, List.flatten_cons, List.set_append_left _ _ (by rw [h cs (by simp)]; exact hk)]
    rfl
  | cs :: css, h, i + 1, k, v, hi, hk => by
    have hl := h cs (by simp)
    rw [List.flatten_cons, List.set_append_right _ _ (by rw [hl, Nat.add_mul, Nat.one_mul]; omega), hl, show (i + 1) * m + k - m = i * m + k by rw [Nat.add_mul, Nat.one_mul]; omega]
    rw [flatten_set css (fun c hc => h c (by simp [hc])) i k v (by simpa using hi) hk]
    simp
theorem six_of (cs : List Value) (h : cs.length = 6) : ∃ a0 a1 a2 a3 a4 a5, cs = [a0, a1, a2, a3, a4, a5] := by
  rcases cs with _ | ⟨a0, _ | ⟨a1, _ | ⟨a2, _ | ⟨a3, _ | ⟨a4, _ | ⟨a5, _ | ⟨a6, r⟩⟩⟩⟩⟩⟩⟩
  all_goals first | (simp at h; done) | exact ⟨_, _, _, _, _, _, rfl⟩
theorem st_six (css : List (List Value)) (h2 : ∀ cs ∈ css, cs.length = 6) (m : Nat) (hml : m < css.length) (c1 : List Value) (k : Nat) (v : Value) (hc : c1.length = 6) (hk : k < 6) : ((css.set m c1).flatten).set (m * 6 + k) v = (css.set m (c1.set k v)).flatten := by
  have hall : ∀ c ∈ css.set m c1, c.length = 6 := fun c hcc => by
    rcases List.mem_or_eq_of_mem_set hcc with h | h
    · exact h2 c h
    · rw [h]; exact hc
  have h := flatten_set (css.set m c1) hall m k v (by rw [List.length_set]; exact hml) hk
  rw [List.getElem?_set_self hml, Option.getD_some, List.set_set] at h
  exact h
theorem put_six (css : List (List Value)) (h2 : ∀ cs ∈ css, cs.length = 6) (m : Nat) (hml : m < css.length) {a0 a1 a2 a3 a4 a5 : Value} (hcs : css[m]? = some [a0, a1, a2, a3, a4, a5]) (v0 v1 v2 v3 v4 v5 : Value) :
    (((((css.flatten.set (m * 6 + 0) v0).set (m * 6 + 1) v1).set (m * 6 + 2) v2).set (m * 6 + 3) v3).set (m * 6 + 4) v4).set (m * 6 + 5) v5 = (css.set m [v0, v1, v2, v3, v4, v5]).flatten := by
  have e0 : css.flatten = (css.set m [a0, a1, a2, a3, a4, a5]).flatten := by
    congr 1
    apply List.ext_getElem?
    intro i
    rw [List.getElem?_set]
    split
    · rename_i e; subst e; rw [hcs]
    · rfl
  rw [e0, st_six css h2 m hml _ 0 v0 rfl (by omega), st_six css h2 m hml _ 1 v1 rfl (by omega), st_six css h2 m hml _ 2 v2 rfl (by omega), st_six css h2 m hml _ 3 v3 rfl (by omega), st_six css h2 m hml _ 4 v4 rfl (by omega), st_six css h2 m hml _ 5 v5 rfl (by omega)]
  rfl
end Go.Proofs.YtekiomanidimnaaDoor


namespace Go.Proofs.YtekiomanidimnaaDoor
open Go.RowKit
def zeroCells : List Value := [.bool false, .bool false, .bool false, .slice none 0 0, .slice none 0 0, .slice none 0 0]
theorem made_flatten (N : Nat) : madeCells #[.bool false, .bool false, .bool false, .slice none 0 0, .slice none 0 0, .slice none 0 0] (N * 6) = (List.replicate N zeroCells).flatten.toArray := by
  apply Array.ext'
  apply List.ext_getElem?
  intro i
  have hall : ∀ cs ∈ List.replicate N zeroCells, cs.length = 6 := fun cs h => by rw [List.eq_of_mem_replicate h]; rfl
  have hl := flatten_length _ hall
  rw [List.length_replicate] at hl
  by_cases hi : i < N * 6
  · have h1 := flatten_get _ hall (i / 6) (i % 6) (by rw [List.length_replicate]; omega) (by omega)
    rw [show i / 6 * 6 + i % 6 = i by omega, List.getElem?_replicate, if_pos (by omega), Option.getD_some] at h1
    simp only []
    rw [h1]
    have h2 : (madeCells #[.bool false, .bool false, .bool false, .slice none 0 0, .slice none 0 0, .slice none 0 0] (N * 6)).toList[i]? = some ((#[.bool false, .bool false, .bool false, .slice none 0 0, .slice none 0 0, .slice none 0 0] : Array Value)[i % 6]!) := by
      simp [madeCells, hi]
    rw [h2]
    have h6 : i % 6 = 0 ∨ i % 6 = 1 ∨ i % 6 = 2 ∨ i % 6 = 3 ∨ i % 6 = 4 ∨ i % 6 = 5 := by omega
    rcases h6 with e | e | e | e | e | e <;> rw [e] <;> rfl
  · rw [List.getElem?_eq_none (by simp [madeCells]; omega), List.getElem?_eq_none (by simp only []; omega)]
theorem ratR_zero (w : World) : RatR w false none 0 0 none 0 0 0 := ⟨by decide, NatR.zero _ _ _, NatR.zero _ _ _⟩
theorem LbR.zero (w : World) (ps : List Rat) : LbR w ps zeroCells ⟨false, false, []⟩ := ⟨false, none, 0, 0, none, 0, 0, none, 0, rfl, ratR_zero w, Nat.le_refl _, RdT.nil _ _ _⟩
theorem SzL_of {ps : List Rat} {P N : Nat} {ls : List Lb} (hP : 1 ≤ P) (hP2 : P ≤ 1000000) (h : ∀ q ∈ ps, SzQ q P) (hok : lenOk ls) (hl : ls.length = N) (hN : N ≤ 64) : SzL ps ls := fun lb hlb => by
  have h1 := hok lb hlb
  refine ⟨(SzQ.pr hP h lb.arcs).mono ?_, by omega⟩
  have h2 : lb.arcs.length * (P + 1) ≤ 64 * 1000001 := Nat.mul_le_mul (by omega) (by omega)
  omega
theorem RdT.grownK {w w' : World} {t t' : TypeId} {A : Option Addr} {xs : List Value} {row : Option Nat} (h : RdT w t A xs) (hg : w.grownBy w' row) (hr : ∀ k, row = some k → ∃ cs fr, w.heap[k]? = some (.cells cs t' fr)) (hne : t ≠ t') : RdT w' t A xs :=
  h.grown hg (fun hx ad had e => by
    obtain ⟨b, o, cs, fr, e1, e2, _⟩ := h hx
    rw [had] at e1
    injection e1 with e1
    subst e1
    obtain ⟨c9, f9, e9⟩ := hr _ e.symm
    rw [e2] at e9
    injection e9 with e9
    injection e9 with _ e9
    exact hne e9)
theorem RatR.grownK {w w' : World} {t' : TypeId} {neg : Bool} {A : Option Addr} {n c : Nat} {A' : Option Addr} {n' c' : Nat} {q : Rat} {row : Option Nat} (h : RatR w neg A n c A' n' c' q) (hg : w.grownBy w' row) (hr : ∀ k, row = some k → ∃ cs fr, w.heap[k]? = some (.cells cs t' fr)) (hne : 66 ≠ t') : RatR w' neg A n c A' n' c' q := by
  obtain ⟨h1, ⟨ds, a1, a2, a3, a4, a5⟩, ⟨es, b1, b2, b3, b4, b5⟩⟩ := h
  exact ⟨h1, ⟨ds, a1, a2, a3, a4, a5.grownK hg hr hne⟩, ⟨es, b1, b2, b3, b4, b5.grownK hg hr hne⟩⟩
theorem Blk.grownK {w w' : World} {t t' : TypeId} {g : Nat} {cs : Array Value} {row : Option Nat} (h : Blk w g t cs) (hg : w.grownBy w' row) (hr : ∀ k, row = some k → ∃ cs fr, w.heap[k]? = some (.cells cs t' fr)) (hne : t ≠ t') : Blk w' g t cs :=
  (hg.block g h.lt (fun e => by
    obtain ⟨c9, f9, e9⟩ := hr _ e.symm
    unfold Blk at h
    rw [h] at e9
    injection e9 with e9
    injection e9 with _ e9
    exact hne e9)).trans h
theorem put_grown (w : World) (g m : Nat) (v0 v1 v2 v3 v4 v5 : Value) : w.grownBy ((((((w.setCell ⟨g, m * 6, none⟩ v0).setCell ⟨g, m * 6 + 1, none⟩ v1).setCell ⟨g, m * 6 + 2, none⟩ v2).setCell ⟨g, m * 6 + 3, none⟩ v3).setCell ⟨g, m * 6 + 4, none⟩ v4).setCell ⟨g, m * 6 + 5, none⟩ v5) (some g) :=
  (((((grown_set w g (m * 6) v0).trans (grown_set _ g (m * 6 + 1) v1)).trans (grown_set _ g (m * 6 + 2) v2)).trans (grown_set _ g (m * 6 + 3) v3)).trans (grown_set _ g (m * 6 + 4) v4)).trans (grown_set _ g (m * 6 + 5) v5)
theorem cell_drew {w : World} {p : Addr} {v : Value} (h : w.cell? p = some v) : w.drew.cell? p = some v := h
theorem rd_src {w : World} {g : Nat} {a : Int} (h : Blk w g 3 #[.int .i64 a]) : Rd w (some ⟨g, 0, none⟩) [.int .i64 a] := (RdT.of_blk h rfl).rd
theorem own_rd8 {w : World} {B g c a : Nat} {l : List Nat} (h : w.ownsRow B 3 1 (.slice (some ⟨g, 0, none⟩) (l.length + 1) c) (l.length + 1) (ints l ++ [.int .i64 (a : Int)])) : RdT w 3 (some ⟨g, 0, none⟩) (ints (l ++ [a])) := by
  obtain ⟨A', c', q1, q2, q3⟩ := ownsRow_rdT (l := l ++ [a]) (by rw [ints_snoc]; exact h) (by simp)
  injection q1 with q1 _ q4
  subst q1 q4
  exact q3
end Go.Proofs.YtekiomanidimnaaDoor
