/- split.proper: whether a list is shares. -/
/- Made rows of rational numbers in memory. -/
/- Ranks of numbers (plain); split.Keep. -/
/- What split.Round computes (plain), and rows in memory for it. -/
import Derived.Test.YtjmkcckbbgpkeaaGreatDoorMT
import Derived.Test.YtjmkcckbbgpkeaaGreatDoorMP
import Derived.Test.YtjmkcckbbgpkeaaGreatDoorQl
set_option linter.unusedVariables false
set_option linter.unusedSimpArgs false

namespace Go.Proofs.YtjmkcckbbgpkeaaGreatDoor
open Go.RowKit
def posB (q : Rat) : Bool := decide (0 < sgnI q)
def negB (q : Rat) : Bool := decide (sgnI q < 0)
/-- Whether numbers are shares. -/
def properP (qs : List Rat) : Bool := decide (qs.length ≤ 64) && (!qs.any negB && qs.any posB)
theorem any_next (f : Rat → Bool) (qs : List Rat) (i : Nat) (q : Rat) (h : qs[i]? = some q) : (qs.take (i + 1)).any f = ((qs.take i).any f || f q) := by
  rw [List.take_add_one, h, List.any_append]
  simp
theorem any_some {f : Rat → Bool} {qs : List Rat} {i : Nat} {q : Rat} (h : qs[i]? = some q) (hf : f q = true) : qs.any f = true := List.any_eq_true.2 ⟨q, List.mem_of_getElem? h, hf⟩
end Go.Proofs.YtjmkcckbbgpkeaaGreatDoor


namespace Go.Proofs.YtjmkcckbbgpkeaaGreatDoor
open Go.RowKit
theorem QR.other {w w' : World} {cs : List Value} {q : Rat} {g : Nat} {t' : TypeId} {cs' : Array Value} (h : QR w cs q) (hg : w.grownBy w' (some g)) (hb : Blk w g t' cs') (hne : 120 ≠ t') : QR w' cs q := by
  obtain ⟨neg, A, n, c, A', n', c', e, h1⟩ := h
  exact ⟨neg, A, n, c, A', n', c', e, h1.other hg hb hne⟩
/-- A made row of rational numbers. -/
def QB (w : World) (g : Nat) (qs : List Rat) : Prop :=
  ∃ css : List (List Value), css.length = qs.length ∧ (∀ cs ∈ css, cs.length = 3) ∧ Blk w g 38 css.flatten.toArray ∧ ∀ (i : Nat) (q : Rat), qs[i]? = some q → ∃ cs, css[i]? = some cs ∧ QR w cs q
theorem QB.keep {w w' : World} {g : Nat} {qs : List Rat} (h : QB w g qs) (hx : Ext w w') : QB w' g qs := by
  obtain ⟨css, h1, h2, h3, h4⟩ := h
  refine ⟨css, h1, h2, h3.keep hx, fun i q hl => ?_⟩
  obtain ⟨cs, k1, k2⟩ := h4 i q hl
  exact ⟨cs, k1, k2.keep hx⟩
theorem QB.lt {w : World} {g : Nat} {qs : List Rat} (h : QB w g qs) : g < w.heap.size := by
  obtain ⟨css, _, _, h3, _⟩ := h
  exact h3.lt
theorem QB.blk {w : World} {g : Nat} {qs : List Rat} (h : QB w g qs) : ∃ cs, Blk w g 38 cs := by
  obtain ⟨css, _, _, h3, _⟩ := h
  exact ⟨_, h3⟩
theorem QB.at_ {w : World} {g : Nat} {qs : List Rat} (h : QB w g qs) {i : Nat} {q : Rat} (hl : qs[i]? = some q) :
    ∃ (neg : Bool) (A : Option Addr) (n c : Nat) (A' : Option Addr) (n' c' : Nat),
      (w.cell? ⟨g, i * 3, none⟩ = some (.bool neg) ∧ w.cell? ⟨g, i * 3 + 1, none⟩ = some (.slice A n c) ∧ w.cell? ⟨g, i * 3 + 2, none⟩ = some (.slice A' n' c')) ∧
      (w.frozen? ⟨g, i * 3, none⟩ = false ∧ w.frozen? ⟨g, i * 3 + 1, none⟩ = false ∧ w.frozen? ⟨g, i * 3 + 2, none⟩ = false) ∧ RatR w neg A n c A' n' c' q := by
  obtain ⟨css, h1, h2, h3, h4⟩ := h
  obtain ⟨cs, k1, neg, A, n, c, A', n', c', rfl, k2⟩ := h4 i q hl
  have hi := (List.getElem?_eq_some_iff.1 hl).1
  have key : ∀ k, k < 3 → w.cell? ⟨g, i * 3 + k, none⟩ = ([.bool neg, .slice A n c, .slice A' n' c'] : List Value)[k]? := fun k hk => by
    rw [h3.cell, List.getElem?_toArray, flatten_get css h2 i k (by omega) hk, k1]; rfl
  exact ⟨neg, A, n, c, A', n', c', ⟨key 0 (by omega), key 1 (by omega), key 2 (by omega)⟩, ⟨h3.frozen _, h3.frozen _, h3.frozen _⟩, k2⟩
theorem QB.other {w w' : World} {g g' : Nat} {qs : List Rat} {t' : TypeId} {cs' : Array Value} (h : QB w g qs) (hg : w.grownBy w' (some g')) (hb : Blk w g' t' cs') (hne : 120 ≠ t') (hgg : g ≠ g') : QB w' g qs := by
  obtain ⟨css, h1, h2, h3, h4⟩ := h
  refine ⟨css, h1, h2, (hg.block g h3.lt (fun e => hgg (by injection e))).trans h3, fun i q hq => ?_⟩
  obtain ⟨cs, k1, k2⟩ := h4 i q hq
  exact ⟨cs, k1, k2.other hg hb hne⟩
theorem st_gen {K : Nat} (css : List (List Value)) (h2 : ∀ cs ∈ css, cs.length = K) (m : Nat) (hml : m < css.length) (c1 : List Value) (k : Nat) (v : Value) (hc : c1.length = K) (hk : k < K) : ((css.set m c1).flatten).set (m * K + k) v = (css.set m (c1.set k v)).flatten := by
  have hall : ∀ c ∈ css.set m c1, c.length = K := fun c hcc => by
    rcases List.mem_or_eq_of_mem_set hcc with h | h
    · exact h2 c h
    · rw [h]; exact hc
  have h := flatten_set (css.set m c1) hall m k v (by rw [List.length_set]; exact hml) hk
  rw [List.getElem?_set_self hml, Option.getD_some, List.set_set] at h
  exact h
theorem QB.put {w : World} {g m : Nat} {qs : List Rat} {q : Rat} {neg : Bool} {A : Option Addr} {n c : Nat} {A' : Option Addr} {n' c' : Nat} (h : QB w g qs) (hm : m < qs.length) (hl : RatR w neg A n c A' n' c' q) :
    QB (((w.setCell ⟨g, m * 3, none⟩ (.bool neg)).setCell ⟨g, m * 3 + 1, none⟩ (.slice A n c)).setCell ⟨g, m * 3 + 2, none⟩ (.slice A' n' c')) g (qs.set m q) := by
  obtain ⟨css, h1, h2, h3, h4⟩ := h
  have g2 := ((grown_set w g (m * 3) (.bool neg)).trans (grown_set _ g (m * 3 + 1) (.slice A n c))).trans (grown_set _ g (m * 3 + 2) (.slice A' n' c'))
  have hml : m < css.length := by omega
  obtain ⟨cs, hcs⟩ : ∃ cs, css[m]? = some cs := ⟨_, List.getElem?_eq_getElem hml⟩
  have hc3 : cs.length = 3 := h2 cs (List.mem_of_getElem? hcs)
  have e0 : css = css.set m cs := by
    apply List.ext_getElem?
    intro i
    by_cases e : m = i
    · subst e; rw [List.getElem?_set_self hml]; exact hcs
    · rw [List.getElem?_set_ne e]
  have b := ((h3.set_ (m * 3 + 0) (.bool neg)).set_ (m * 3 + 1) (.slice A n c)).set_ (m * 3 + 2) (.slice A' n' c')
  rw [List.setIfInBounds_toArray, List.setIfInBounds_toArray, List.setIfInBounds_toArray, e0, st_gen css h2 m hml cs 0 _ hc3 (by omega), st_gen css h2 m hml _ 1 _ (by simp [hc3]) (by omega), st_gen css h2 m hml _ 2 _ (by simp [hc3]) (by omega)] at b
  have e3 : ((cs.set 0 (.bool neg)).set 1 (.slice A n c)).set 2 (.slice A' n' c') = [.bool neg, .slice A n c, .slice A' n' c'] := by
    rcases cs with _ | ⟨a0, _ | ⟨a1, _ | ⟨a2, _ | ⟨a3, r⟩⟩⟩⟩
    all_goals first | (simp at hc3; done) | rfl
  rw [e3] at b
  refine ⟨css.set m [.bool neg, .slice A n c, .slice A' n' c'], by simp [h1], fun c hcc => ?_, b, fun i p hi => ?_⟩
  · rcases List.mem_or_eq_of_mem_set hcc with h | h
    · exact h2 c h
    · rw [h]; rfl
  · by_cases e : m = i
    · subst e
      rw [List.getElem?_set_self hm] at hi
      injection hi with hi
      subst hi
      exact ⟨_, List.getElem?_set_self hml, neg, A, n, c, A', n', c', rfl, hl.other g2 h3 (by decide)⟩
    · rw [List.getElem?_set_ne e] at hi
      obtain ⟨cs', k1, k2⟩ := h4 i p hi
      exact ⟨cs', by rw [List.getElem?_set_ne e]; exact k1, k2.other g2 h3 (by decide)⟩
theorem QB.ql {w : World} {g : Nat} {qs : List Rat} (h : QB w g qs) : QL w (some ⟨g, 0, none⟩) qs := by
  obtain ⟨css, h1, h2, h3, h4⟩ := h
  exact ⟨css, h1, h2, (RdT.of_blk h3 rfl).rd, h4⟩
theorem run_make_rats (n : Nat) (hn : n ≤ 1000) (w : World) :
    (Instr.makeSlice 32 (.int .i64 (n : Int)) (.int .i64 (n : Int))).run Tryz.prog w = .ok (.slice (some ⟨w.heap.size, 0, none⟩) n n) (w.alloc (.cells (madeCells #[.bool false, .slice none 0 0, .slice none 0 0] (n * 3)) 38)) := by
  obtain ⟨i, hi, hz, hs, hb⟩ := info_parts Tryz.info44
  have h63 : (i.bytes : Int) * (n : Int) ≤ 281474976710656 := by rw [hb]; omega
  have hr := run_make (P := Tryz.prog) w 32 38 i _ Tryz.underlying32 hi hz .i64 .i64 n n (by omega) (by omega) h63 (by omega)
  simp only [Int.toNat_natCast] at hr
  rw [hs] at hr
  exact hr
theorem made_flatten3 (N : Nat) : madeCells #[.bool false, .slice none 0 0, .slice none 0 0] (N * 3) = (List.replicate N [Value.bool false, .slice none 0 0, .slice none 0 0]).flatten.toArray := by
  apply Array.ext'
  apply List.ext_getElem?
  intro i
  have hall : ∀ cs ∈ List.replicate N [Value.bool false, .slice none 0 0, .slice none 0 0], cs.length = 3 := fun cs h => by rw [List.eq_of_mem_replicate h]; rfl
  have hl := flatten_length _ hall
  rw [List.length_replicate] at hl
  by_cases hi : i < N * 3
  · have h1 := flatten_get _ hall (i / 3) (i % 3) (by rw [List.length_replicate]; omega) (by omega)
    rw [show i / 3 * 3 + i % 3 = i by omega, List.getElem?_replicate, if_pos (by omega), Option.getD_some] at h1
    simp only []
    rw [h1]
    have h2 : (madeCells #[.bool false, .slice none 0 0, .slice none 0 0] (N * 3)).toList[i]? = some ((#[.bool false, .slice none 0 0, .slice none 0 0] : Array Value)[i % 3]!) := by
      simp [madeCells, hi]
    rw [h2]
    have h6 : i % 3 = 0 ∨ i % 3 = 1 ∨ i % 3 = 2 := by omega
    rcases h6 with e | e | e <;> rw [e] <;> rfl
  · rw [List.getElem?_eq_none (by simp [madeCells]; omega), List.getElem?_eq_none (by simp only []; omega)]
theorem QB.made (w : World) (N : Nat) : QB (w.alloc (.cells (madeCells #[.bool false, .slice none 0 0, .slice none 0 0] (N * 3)) 38)) w.heap.size (List.replicate N 0) := by
  refine ⟨List.replicate N [.bool false, .slice none 0 0, .slice none 0 0], by simp, fun cs h => by rw [List.eq_of_mem_replicate h]; rfl, ?_, fun i q hq => ?_⟩
  · rw [made_flatten3]; exact Blk.new _ _ _
  · rw [List.getElem?_replicate] at hq
    split at hq
    · rename_i hi
      injection hq with hq
      subst hq
      exact ⟨_, by rw [List.getElem?_replicate, if_pos hi], false, none, 0, 0, none, 0, 0, rfl, ratR_zero _⟩
    · cases hq
end Go.Proofs.YtjmkcckbbgpkeaaGreatDoor


namespace Go.Proofs.YtjmkcckbbgpkeaaGreatDoor
open Go.RowKit
instance ltB_dec (bf : Nat → Nat → Bool) : DecidableRel (ltB bf) := fun x y => by unfold ltB; infer_instance
/-- How many are before one. -/
def rankQ (qs : List Rat) (i : Nat) : Nat := (List.range qs.length).countP fun j => decide (ltB (bfV (cvQ qs)) j i)
/-- The indices in order. -/
structure RkS (qs : List Rat) (n : Nat) (l : List Nat) : Prop where
  len : l.length = n
  lt : ∀ p, p < n → atL l p < n
  rank : ∀ p, p < n → rankQ qs (atL l p) = p
  inv : ∀ i p, i < n → (rankQ qs i = p ↔ p < n ∧ i = atL l p)
theorem rks_of {qs : List Rat} {n : Nat} {l : List Nat} (hn : qs.length = n) (hl : l.length = n) (hp : l.Perm (List.range n)) (hs : Srt (bfV (cvQ qs)) 0 n l) : RkS qs n l := by
  have h1 : ∀ p, p < n → rankQ qs (atL l p) = p := fun p hpn => by
    unfold rankQ
    rw [hn]
    exact count_before (ord_cvQ qs) hl hp hs p hpn
  refine ⟨hl, fun p hpn => ?_, h1, fun i p hi => ⟨fun h => ?_, fun ⟨h2, h3⟩ => by rw [h3]; exact h1 p h2⟩⟩
  · have : atL l p ∈ List.range n := hp.mem_iff.1 (List.mem_of_getElem? (atL_get (by omega)))
    simpa using this
  · have hm : i ∈ l := hp.mem_iff.2 (by simpa using hi)
    obtain ⟨k, hk⟩ := List.mem_iff_getElem?.1 hm
    have hkl := (List.getElem?_eq_some_iff.1 hk).1
    rw [atL_get hkl] at hk
    injection hk with hk
    have := h1 k (by omega)
    rw [hk, h] at this
    subst this
    exact ⟨by omega, hk.symm⟩
theorem RkS.less {qs : List Rat} {n : Nat} {l : List Nat} (h : RkS qs n l) {i : Nat} (hi : i < n) : rankQ qs i < n := ((h.inv i _ hi).1 rfl).1
/-- Numbers of which those of low rank have been changed. -/
def lowTo {α : Type} (qs : List Rat) (n : Nat) (K : Int) (a b : Nat → α) (p : Nat) : List α := (List.range n).map fun i => if rankQ qs i < p ∧ (rankQ qs i : Int) < K then a i else b i
theorem lowTo_len {α : Type} (qs : List Rat) (n : Nat) (K : Int) (a b : Nat → α) (p : Nat) : (lowTo qs n K a b p).length = n := by unfold lowTo; simp
theorem lowTo_get {α : Type} (qs : List Rat) (n : Nat) (K : Int) (a b : Nat → α) (p i : Nat) (hi : i < n) : (lowTo qs n K a b p)[i]? = some (if rankQ qs i < p ∧ (rankQ qs i : Int) < K then a i else b i) := by
  unfold lowTo
  rw [List.getElem?_map, List.getElem?_range hi]; rfl
theorem lowTo_zero {α : Type} (qs : List Rat) (n : Nat) (K : Int) (a b : Nat → α) : lowTo qs n K a b 0 = (List.range n).map b := by
  unfold lowTo
  apply List.map_congr_left
  intro i _
  rw [if_neg (by omega)]
theorem lowTo_next {α : Type} {qs : List Rat} {n : Nat} {l : List Nat} (h : RkS qs n l) (K : Int) (a b : Nat → α) {p : Nat} (hp : p < n) : lowTo qs n K a b (p + 1) = if (p : Int) < K then (lowTo qs n K a b p).set (atL l p) (a (atL l p)) else lowTo qs n K a b p := by
  have hx := h.lt p hp
  apply List.ext_getElem?
  intro i
  by_cases hi : i < n
  · rw [lowTo_get _ _ _ _ _ _ _ hi]
    by_cases e : i = atL l p
    · have hr := (h.inv i p hi).2 ⟨hp, e⟩
      by_cases hK : (p : Int) < K
      · rw [if_pos hK, ← e, List.getElem?_set_self (by rw [lowTo_len]; exact hi), hr, if_pos ⟨by omega, hK⟩]
      · rw [if_neg hK, lowTo_get _ _ _ _ _ _ _ hi, hr, if_neg (fun h => hK h.2), if_neg (by omega)]
    · have hr : rankQ qs i ≠ p := fun h2 => e ((h.inv i p hi).1 h2).2
      have e2 : (lowTo qs n K a b p)[i]? = some (if rankQ qs i < p + 1 ∧ (rankQ qs i : Int) < K then a i else b i) := by
        rw [lowTo_get _ _ _ _ _ _ _ hi]
        by_cases h3 : rankQ qs i < p ∧ (rankQ qs i : Int) < K
        · rw [if_pos h3, if_pos ⟨by omega, h3.2⟩]
        · rw [if_neg h3, if_neg (by omega)]
      by_cases hK : (p : Int) < K
      · rw [if_pos hK, List.getElem?_set_ne (fun h => e h.symm), e2]
      · rw [if_neg hK, e2]
  · have h1 : ∀ q, (lowTo qs n K a b q)[i]? = none := fun q => List.getElem?_eq_none (by rw [lowTo_len]; omega)
    rw [h1]
    split
    · rw [List.getElem?_set_ne (by omega), h1]
    · rw [h1]
theorem lowTo_end {α : Type} {qs : List Rat} {n : Nat} {l : List Nat} (h : RkS qs n l) (K : Int) (a b : Nat → α) : lowTo qs n K a b n = (List.range n).map fun i => if (rankQ qs i : Int) < K then a i else b i := by
  unfold lowTo
  apply List.map_congr_left
  intro i hi
  have := h.less (List.mem_range.1 hi)
  by_cases h2 : (rankQ qs i : Int) < K
  · rw [if_pos ⟨this, h2⟩, if_pos h2]
  · rw [if_neg (fun h => h2 h.2), if_neg h2]
/-- What Keep returns. -/
def keepP (qs : List Rat) (k : Int) : List Rat × Int := if properP qs && decide (1 ≤ k) then ((List.range qs.length).map (fun i => if (rankQ qs i : Int) < k then qs[i]?.getD 0 else 0), 0) else ([], 1)
theorem proper_pos {qs : List Rat} (h : properP qs = true) : 0 < qs.length ∧ qs.length ≤ 64 := by
  unfold properP at h
  simp only [Bool.and_eq_true, decide_eq_true_eq] at h
  refine ⟨?_, h.1⟩
  cases qs with
  | nil => simp at h
  | cons a l => simp
def KeepPost (w : World) (r : List Rat × Int) (e : Ending) (w' : World) : Prop :=
  ∃ (A : Option Addr) (c : Nat), e = .returned (.tuple #[.slice A r.1.length c, .int .i64 r.2]) ∧ QL w' A r.1 ∧ Ext w w'
theorem ql_nil (w : World) (A : Option Addr) : QL w A [] := ⟨[], rfl, (fun _ h => by cases h), Rd.nil _ _, fun i q h => by simp at h⟩
end Go.Proofs.YtjmkcckbbgpkeaaGreatDoor


namespace Go.Proofs.YtjmkcckbbgpkeaaGreatDoor
open Go.RowKit
theorem SzQ.mkQ_ {s : Bool} {n d k : Nat} (hd : d ≠ 0) (hn : n < B32 ^ k) (hdd : d < B32 ^ k) : SzQ (mkQ s n d) k := by
  refine ⟨?_, ?_⟩
  · rw [mkQ_abs _ hd]; exact Nat.lt_of_le_of_lt (Nat.div_le_self _ _) hn
  · rw [mkQ_den _ hd]; exact Nat.lt_of_le_of_lt (Nat.div_le_self _ _) hdd
theorem pow_mul_lt {a b k m : Nat} (ha : a < B32 ^ k) (hb : b < B32 ^ m) : a * b < B32 ^ (k + m) := by
  rw [Nat.pow_add]
  rcases Nat.eq_zero_or_pos b with h0 | h0
  · rw [h0, Nat.mul_zero]; exact Nat.mul_pos (Nat.pow_pos B32_pos) (Nat.pow_pos B32_pos)
  · exact Nat.mul_lt_mul_of_lt_of_le ha (Nat.le_of_lt hb) (Nat.pow_pos B32_pos)
theorem SzQ.mul {a b : Rat} {k m : Nat} (ha : SzQ a k) (hb : SzQ b m) : SzQ (a * b) (k + m) := by
  rw [mul_mkQ]
  exact SzQ.mkQ_ (Nat.mul_ne_zero a.den_nz b.den_nz) (pow_mul_lt ha.1 hb.1) (pow_mul_lt ha.2 hb.2)
theorem SzQ.div {a b : Rat} {k m : Nat} (ha : SzQ a k) (hb : SzQ b m) (h0 : b ≠ 0) : SzQ (a / b) (k + m) := by
  have hn : b.num ≠ 0 := fun e => h0 (Rat.num_eq_zero.1 e)
  rw [div_mkQ a b h0]
  refine SzQ.mkQ_ (Nat.mul_ne_zero (by omega) a.den_nz) (pow_mul_lt ha.1 hb.2) ?_
  rw [Nat.add_comm]
  exact pow_mul_lt hb.1 ha.2
theorem SzQ.neg_ {a : Rat} {k : Nat} (ha : SzQ a k) : SzQ (-a) k := by
  refine ⟨?_, ha.2⟩
  have : (-a).num.natAbs = a.num.natAbs := by show (-(a.num)).natAbs = _; omega
  rw [this]; exact ha.1
theorem SzQ.sub {a b : Rat} {k m : Nat} (ha : SzQ a k) (hb : SzQ b m) : SzQ (a - b) (k + m + 1) := by
  rw [Rat.sub_eq_add_neg]; exact ha.add hb.neg_
theorem SzQ.fl {a : Rat} {k : Nat} (ha : SzQ a k) (hk : 1 ≤ k) : SzQ (flQ a) k := by
  unfold flQ flN
  refine SzQ.mkQ_ (by decide) (Nat.lt_of_le_of_lt (Nat.div_le_self _ _) ha.1) ?_
  have h1 := Nat.pow_le_pow_right B32_pos hk
  have h2 : 1 < B32 ^ 1 := by decide
  omega
theorem sgn_neg (q : Rat) : sgnI q < 0 ↔ q < 0 := by
  have h : q.num < 0 ↔ q < 0 := by rw [← Int.not_le, Rat.num_nonneg, Rat.not_le]
  unfold sgnI
  split
  · rename_i h0
    rw [← h, h0]
  · split
    · rename_i h1; exact ⟨fun _ => h.1 h1, fun _ => by decide⟩
    · rename_i h1; exact ⟨fun x => by omega, fun x => absurd (h.2 x) h1⟩
theorem sgn_pos (q : Rat) : 0 < sgnI q ↔ 0 < q := by
  have h : 0 < q.num ↔ 0 < q := by rw [Rat.lt_iff]; simp
  unfold sgnI
  split
  · rename_i h0
    rw [← h, h0]
  · split
    · rename_i h1; exact ⟨fun x => by omega, fun x => by have := h.2 x; omega⟩
    · rename_i h0 h1; exact ⟨fun _ => h.1 (by omega), fun _ => by decide⟩
theorem sumQ_nonneg : ∀ {l : List Rat}, (∀ q ∈ l, 0 ≤ q) → 0 ≤ sumQ l
  | [], _ => Rat.le_refl
  | a :: l, h => Rat.add_nonneg (h a (by simp)) (sumQ_nonneg (fun q hq => h q (by simp [hq])))
theorem le_sumQ : ∀ {l : List Rat}, (∀ q ∈ l, 0 ≤ q) → ∀ q ∈ l, q ≤ sumQ l
  | [], _, q, hq => by cases hq
  | a :: l, h, q, hq => by
    have h1 := h a (by simp)
    have h2 := sumQ_nonneg (l := l) (fun q hq => h q (by simp [hq]))
    show q ≤ a + sumQ l
    rcases List.mem_cons.1 hq with rfl | hq
    · have := Rat.add_le_add_left (c := q) |>.2 h2
      rw [Rat.add_zero] at this; exact this
    · have h3 := le_sumQ (l := l) (fun q hq => h q (by simp [hq])) q hq
      have := Rat.add_le_add_right (c := sumQ l) |>.2 h1
      rw [Rat.zero_add] at this
      exact Rat.le_trans h3 this
theorem proper_facts {qs : List Rat} (h : properP qs = true) : (∀ q ∈ qs, 0 ≤ q) ∧ 0 < sumQ qs := by
  unfold properP at h
  simp only [Bool.and_eq_true, Bool.not_eq_true', List.any_eq_false, List.any_eq_true] at h
  have h1 : ∀ q ∈ qs, 0 ≤ q := fun q hq => by
    have := h.2.1 q hq
    unfold negB at this
    rw [decide_eq_true_eq, sgn_neg, Rat.not_lt] at this
    exact this
  refine ⟨h1, ?_⟩
  obtain ⟨q, hq, hp⟩ := h.2.2
  unfold posB at hp
  rw [decide_eq_true_eq, sgn_pos] at hp
  have := le_sumQ h1 q hq
  exact Rat.not_le.1 (fun h3 => absurd hp (Rat.not_lt.2 (Rat.le_trans this h3)))
/-- A row whose first i elements are laid. -/
def headTo {α : Type} (n : Nat) (f : Nat → α) (z : α) (i : Nat) : List α := (List.range n).map fun j => if j < i then f j else z
theorem headTo_len {α : Type} (n : Nat) (f : Nat → α) (z : α) (i : Nat) : (headTo n f z i).length = n := by unfold headTo; simp
theorem headTo_get {α : Type} (n : Nat) (f : Nat → α) (z : α) (i j : Nat) (hj : j < n) : (headTo n f z i)[j]? = some (if j < i then f j else z) := by
  unfold headTo
  rw [List.getElem?_map, List.getElem?_range hj]; rfl
theorem headTo_zero {α : Type} (n : Nat) (f : Nat → α) (z : α) : headTo n f z 0 = List.replicate n z := by
  unfold headTo
  apply List.ext_getElem?
  intro j
  by_cases hj : j < n
  · rw [List.getElem?_map, List.getElem?_range hj, List.getElem?_replicate, if_pos hj]; simp
  · rw [List.getElem?_eq_none (by simp; omega), List.getElem?_eq_none (by simp; omega)]
theorem headTo_next {α : Type} (n : Nat) (f : Nat → α) (z : α) {i : Nat} (hi : i < n) : headTo n f z (i + 1) = (headTo n f z i).set i (f i) := by
  apply List.ext_getElem?
  intro j
  by_cases hj : j < n
  · rw [headTo_get _ _ _ _ _ hj]
    by_cases e : i = j
    · subst e; rw [List.getElem?_set_self (by rw [headTo_len]; exact hi), if_pos (by omega)]
    · rw [List.getElem?_set_ne e, headTo_get _ _ _ _ _ hj]
      by_cases h2 : j < i
      · rw [if_pos h2, if_pos (by omega)]
      · rw [if_neg h2, if_neg (by omega)]
  · rw [List.getElem?_eq_none (by rw [headTo_len]; omega), List.getElem?_eq_none (by rw [List.length_set, headTo_len]; omega)]
theorem headTo_end {α : Type} (n : Nat) (f : Nat → α) (z : α) : headTo n f z n = (List.range n).map f := by
  unfold headTo
  apply List.map_congr_left
  intro j hj
  rw [if_pos (List.mem_range.1 hj)]
def sumTo (f : Nat → Nat) : Nat → Nat
  | 0 => 0
  | i + 1 => sumTo f i + f i
theorem sumTo_le (f : Nat → Nat) (M : Nat) : ∀ i, (∀ j, j < i → f j ≤ M) → sumTo f i ≤ i * M
  | 0, _ => by simp [sumTo]
  | i + 1, h => by
    have h1 := sumTo_le f M i (fun j hj => h j (by omega))
    have h2 := h i (by omega)
    rw [Nat.add_mul]
    show sumTo f i + f i ≤ _
    omega
/-- A share, scaled. -/
def quoQ (qs : List Rat) (T : Nat) (i : Nat) : Rat := (qs[i]?.getD 0) * (((T : Int) : Rat) / sumQ qs)
def restQ (qs : List Rat) (T : Nat) (i : Nat) : Rat := quoQ qs T i - flQ (quoQ qs T i)
def restL (qs : List Rat) (T : Nat) : List Rat := (List.range qs.length).map (restQ qs T)
def missQ (qs : List Rat) (T : Nat) : Int := (T : Int) - (sumTo (fun i => flN (quoQ qs T i)) qs.length : Nat)
def weightQ (qs : List Rat) (T : Nat) (i : Nat) : Nat := if (rankQ (restL qs T) i : Int) < missQ qs T then flN (quoQ qs T i) + 1 else flN (quoQ qs T i)
/-- What Round returns. -/
def roundP (qs : List Rat) (total : Int) : List Nat × Int := if properP qs && (decide (1 ≤ total) && decide (total ≤ 65536)) then ((List.range qs.length).map (weightQ qs total.toNat), 0) else ([], 1)
theorem quo_nonneg {qs : List Rat} (h : properP qs = true) (T : Nat) (i : Nat) : 0 ≤ quoQ qs T i := by
  obtain ⟨h1, h2⟩ := proper_facts h
  unfold quoQ
  refine Rat.mul_nonneg ?_ ?_
  · cases hq : qs[i]? with
    | none => exact Rat.le_refl
    | some q => exact h1 q (List.mem_of_getElem? hq)
  · rw [Rat.div_def]
    exact Rat.mul_nonneg (Rat.intCast_nonneg.2 (by omega)) (Rat.le_of_lt (Rat.inv_pos.2 h2))
theorem fl_le {q : Rat} (h : 0 ≤ q) : ((flN q : Int) : Rat) ≤ q := by
  have hn := Rat.num_nonneg.2 h
  have hd := q.den_pos
  rw [Rat.le_iff]
  unfold flN
  simp only [Rat.num_intCast, Rat.den_intCast]
  have h1 := Nat.div_mul_le_self q.num.natAbs q.den
  have h2 : ((q.num.natAbs / q.den * q.den : Nat) : Int) ≤ (q.num.natAbs : Int) := by exact_mod_cast h1
  rw [Int.natCast_mul] at h2
  have h3 : ((q.num.natAbs : Nat) : Int) = q.num := by omega
  rw [h3] at h2
  simpa using h2
theorem fl_quo_le {qs : List Rat} (h : properP qs = true) (T : Nat) {i : Nat} (hi : i < qs.length) : flN (quoQ qs T i) ≤ T := by
  obtain ⟨h1, h2⟩ := proper_facts h
  have h3 := fl_le (quo_nonneg h T i)
  have h4 : quoQ qs T i ≤ ((T : Int) : Rat) := by
    unfold quoQ
    have h5 : qs[i]?.getD 0 ≤ sumQ qs := le_sumQ h1 _ (by rw [List.getElem?_eq_getElem hi]; exact List.getElem_mem _)
    have h6 : (0 : Rat) ≤ ((T : Int) : Rat) / sumQ qs := by
      rw [Rat.div_def]
      exact Rat.mul_nonneg (Rat.intCast_nonneg.2 (by omega)) (Rat.le_of_lt (Rat.inv_pos.2 h2))
    have h7 := Rat.mul_le_mul_of_nonneg_right h5 h6
    have h8 : sumQ qs * (((T : Int) : Rat) / sumQ qs) = ((T : Int) : Rat) := by
      rw [Rat.mul_comm, Rat.div_mul_cancel (fun e => by rw [e] at h2; exact Rat.lt_irrefl h2)]
    rw [h8] at h7
    exact h7
  have := Rat.intCast_le_intCast.1 (Rat.le_trans h3 h4)
  omega
theorem NRow.made (w : World) (n : Nat) : NRow (w.alloc (.cells (madeCells #[.int .i64 0] n) 3)) w.heap.size (List.replicate n 0) := by
  refine ⟨_, Blk.new _ _ _, fun i hi => ?_⟩
  rw [List.length_replicate] at hi
  rw [← Array.getElem?_toList, toList_madeCells_one]
  unfold atL
  rw [List.getElem?_replicate, if_pos hi, List.getElem?_replicate, if_pos hi]
  rfl
theorem NRow.rdT {w : World} {g : Nat} {l : List Nat} (h : NRow w g l) : RdT w 3 (some ⟨g, 0, none⟩) (ints l) := fun _ => by
  obtain ⟨cs, h1, h2⟩ := h
  refine ⟨g, 0, cs, (0, 0), rfl, h1, fun i hi => ?_⟩
  rw [ints_length] at hi
  rw [Nat.zero_add, h2 i hi]
  unfold ints
  rw [List.getElem?_map, atL_get hi]; rfl
end Go.Proofs.YtjmkcckbbgpkeaaGreatDoor
