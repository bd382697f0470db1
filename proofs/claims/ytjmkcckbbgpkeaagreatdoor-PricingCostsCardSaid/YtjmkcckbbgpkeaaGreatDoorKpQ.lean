/- The queue of labels of kpaths in memory. -/
import Derived.Test.YtjmkcckbbgpkeaaGreatDoorHeapP
import Derived.Test.YtjmkcckbbgpkeaaGreatDoorMU
set_option linter.unusedVariables false
set_option linter.unusedSimpArgs false

namespace Go.Proofs.YtjmkcckbbgpkeaaGreatDoor
open Go.RowKit
/-- What an arc costs. -/
def costP (t : Tp) (a : Nat) : Nat := match t.links[a / 2]? with
  | some l => if a % 2 = 0 then l.c0.toNat else l.c1.toNat
  | none => 0
def kcost (t : Tp) (x : List Nat) : Nat := x.foldl (fun s a => s + costP t a) 0
theorem kcost_snoc (t : Tp) (x : List Nat) (a : Nat) : kcost t (x ++ [a]) = kcost t x + costP t a := by unfold kcost; rw [List.foldl_append]; rfl
/-- The costs as prices. -/
def costL (t : Tp) : List Rat := (List.range (2 * t.links.length)).map fun a => ((costP t a : Int) : Rat)
theorem costL_get (t : Tp) (a : Nat) (ha : a / 2 < t.links.length) : (costL t)[a]?.getD 0 = ((costP t a : Int) : Rat) := by
  unfold costL
  rw [List.getElem?_map, List.getElem?_range (by omega)]; rfl
theorem prQ_cost (t : Tp) (x : List Nat) : prQ (costL t) x = ((kcost t x : Int) : Rat) := by
  have key : ∀ (y : List Nat) (s : Nat), y.foldl (fun s a => s + (costL t)[a]?.getD 0) ((s : Int) : Rat) = ((y.foldl (fun s a => s + costP t a) s : Nat) : Int) := by
    intro y
    induction y with
    | nil => intro s; rfl
    | cons a y ih =>
      intro s
      rw [List.foldl_cons, List.foldl_cons, ← ih (s + costP t a)]
      congr 1
      rw [Int.natCast_add, Rat.intCast_add]
      congr 1
      by_cases ha : a / 2 < t.links.length
      · exact costL_get t a ha
      · have h1 : costP t a = 0 := by unfold costP; rw [List.getElem?_eq_none (by omega)]
        have h2 : (costL t)[a]? = none := by unfold costL; rw [List.getElem?_eq_none (by simp; omega)]
        rw [h1, h2]; rfl
  exact key x 0
/-- How two paths are ordered. -/
def ordK (t : Tp) (x y : List Nat) : Int := or3 (cmpI (kcost t x) (kcost t y)) (cmpI x.length y.length) (lexI x y)
theorem cmpQ_nat (a b : Nat) : cmpQ ((a : Int) : Rat) ((b : Int) : Rat) = cmpI a b := by
  unfold cmpQ cmpI
  by_cases h : a < b
  · rw [if_pos (Rat.intCast_lt_intCast.2 (by omega)), if_pos h]
  · rw [if_neg (fun h2 => h (by have := Rat.intCast_lt_intCast.1 h2; omega)), if_neg h]
    by_cases e : a = b
    · subst e; rw [if_pos rfl, if_pos rfl]
    · rw [if_neg (fun h2 => e (by have := Rat.intCast_inj.1 h2; omega)), if_neg e]
theorem bef_ord (t : Tp) (x y : List Nat) : befP (costL t) x y = decide (ordK t x y < 0) := by
  unfold befP cmpL ordK
  rw [prQ_cost, prQ_cost, cmpQ_nat]
/-- A row of ints in a block that is not below B. -/
def RdF (B : Nat) (w : World) (A : Option Addr) (xs : List Value) : Prop := RdT w 3 A xs ∧ ∀ p, A = some p → B ≤ p.block
theorem RdF.rd {B : Nat} {w : World} {A : Option Addr} {xs : List Value} (h : RdF B w A xs) : Rd w A xs := h.1.rd
theorem RdF.keep {B : Nat} {w w' : World} {A : Option Addr} {xs : List Value} (h : RdF B w A xs) (hx : Ext w w') : RdF B w' A xs := ⟨h.1.keep hx, h.2⟩
theorem RdF.other {B : Nat} {w w' : World} {A : Option Addr} {xs : List Value} {g : Nat} {t' : TypeId} {cs' : Array Value} (h : RdF B w A xs) (hg : w.grownBy w' (some g)) (hb : Blk w g t' cs') (hne : 3 ≠ t') : RdF B w' A xs := ⟨h.1.other hg hb hne, h.2⟩
theorem RdF.grownK {B : Nat} {w w' : World} {A : Option Addr} {xs : List Value} {t' : TypeId} {row : Option Nat} (h : RdF B w A xs) (hg : w.grownBy w' row) (hr : ∀ k, row = some k → ∃ cs fr, w.heap[k]? = some (.cells cs t' fr)) (hne : 3 ≠ t') : RdF B w' A xs := ⟨h.1.grownK hg hr hne, h.2⟩
/-- A write below B. -/
theorem RdF.below {B : Nat} {w w' : World} {A : Option Addr} {xs : List Value} {g : Nat} (h : RdF B w A xs) (hg : w.grownBy w' (some g)) (hB : g < B) : RdF B w' A xs := by
  refine ⟨fun hx => ?_, h.2⟩
  obtain ⟨b, o, cs, fr, e, hb, hc⟩ := h.1 hx
  have := h.2 _ e
  refine ⟨b, o, cs, fr, e, (hg.block b (lt_of_get hb) (fun e2 => ?_)).trans hb, hc⟩
  injection e2 with e2
  subst e2
  simp at this
  omega
/-- A label of the queue. -/
def KLb (t : Tp) (B : Nat) (w : World) (cs : List Value) (z : Nat × List Nat) : Prop :=
  ∃ (A : Option Addr) (c : Nat), cs = [.int .i64 (z.1 : Int), .int .i64 (kcost t z.2 : Nat), .int .i64 0, .slice A z.2.length c] ∧ z.2.length ≤ c ∧ RdF B w A (ints z.2)
theorem KLb.keep {t : Tp} {B : Nat} {w w' : World} {cs : List Value} {z : Nat × List Nat} (h : KLb t B w cs z) (hx : Ext w w') : KLb t B w' cs z := by
  obtain ⟨A, c, h1, h2, h3⟩ := h
  exact ⟨A, c, h1, h2, h3.keep hx⟩
theorem KLb.other {t : Tp} {B : Nat} {w w' : World} {cs : List Value} {z : Nat × List Nat} {g : Nat} {t' : TypeId} {cs' : Array Value} (h : KLb t B w cs z) (hg : w.grownBy w' (some g)) (hb : Blk w g t' cs') (hne : 3 ≠ t') : KLb t B w' cs z := by
  obtain ⟨A, c, h1, h2, h3⟩ := h
  exact ⟨A, c, h1, h2, h3.other hg hb hne⟩
theorem KLb.grownK {t : Tp} {B : Nat} {w w' : World} {cs : List Value} {z : Nat × List Nat} {t' : TypeId} {row : Option Nat} (h : KLb t B w cs z) (hg : w.grownBy w' row) (hr : ∀ k, row = some k → ∃ cs fr, w.heap[k]? = some (.cells cs t' fr)) (hne : 3 ≠ t') : KLb t B w' cs z := by
  obtain ⟨A, c, h1, h2, h3⟩ := h
  exact ⟨A, c, h1, h2, h3.grownK hg hr hne⟩
/-- The row of labels: an own row in the block g. -/
structure KRow (t : Tp) (w : World) (B g n c : Nat) (hs : List (Nat × List Nat)) : Prop where
  len : hs.length = n
  row : ∃ css : List (List Value), css.length = n ∧ (∀ cs ∈ css, cs.length = 4) ∧ w.ownsRow B 105 4 (.slice (some ⟨g, 0, none⟩) n c) n css.flatten ∧ ∀ (i : Nat) (z : Nat × List Nat), hs[i]? = some z → ∃ cs, css[i]? = some cs ∧ KLb t B w cs z
theorem KRow.blk {t : Tp} {w : World} {B g n c : Nat} {hs : List (Nat × List Nat)} (h : KRow t w B g n c hs) : ∃ cs, Blk w g 105 cs := by
  obtain ⟨css, _, _, h3, _⟩ := h.row
  rcases h3.2 with ⟨e, _⟩ | ⟨g', cap, cur, e, _, h5, _⟩
  · cases e
  · injection e with e
    injection e with e
    injection e with e
    subst e
    exact ⟨cur, h5⟩
theorem KRow.keep {t : Tp} {w w' : World} {B g n c : Nat} {hs : List (Nat × List Nat)} (h : KRow t w B g n c hs) (hx : Ext w w') : KRow t w' B g n c hs := by
  obtain ⟨css, h1, h2, h3, h4⟩ := h.row
  refine ⟨h.len, css, h1, h2, h3.kept (grown_ext hx) (own_none _), fun i z hz => ?_⟩
  obtain ⟨cs, k1, k2⟩ := h4 i z hz
  exact ⟨cs, k1, k2.keep hx⟩
theorem KRow.at_ {t : Tp} {w : World} {B g n c : Nat} {hs : List (Nat × List Nat)} (h : KRow t w B g n c hs) {i : Nat} {z : Nat × List Nat} (hz : hs[i]? = some z) :
    ∃ (A : Option Addr) (k : Nat), (w.cell? ⟨g, i * 4, none⟩ = some (.int .i64 (z.1 : Int)) ∧ w.cell? ⟨g, i * 4 + 1, none⟩ = some (.int .i64 (kcost t z.2 : Nat)) ∧ w.cell? ⟨g, i * 4 + 2, none⟩ = some (.int .i64 0) ∧ w.cell? ⟨g, i * 4 + 3, none⟩ = some (.slice A z.2.length k)) ∧
      (w.frozen? ⟨g, i * 4, none⟩ = false ∧ w.frozen? ⟨g, i * 4 + 1, none⟩ = false ∧ w.frozen? ⟨g, i * 4 + 2, none⟩ = false ∧ w.frozen? ⟨g, i * 4 + 3, none⟩ = false) ∧ z.2.length ≤ k ∧ RdF B w A (ints z.2) := by
  obtain ⟨css, h1, h2, h3, h4⟩ := h.row
  obtain ⟨cs, k1, A, k, rfl, k2, k3⟩ := h4 i z hz
  have hi := (List.getElem?_eq_some_iff.1 hz).1
  have hin : i < n := by have := h.len; omega
  obtain ⟨cb, hb⟩ := h.blk
  have key : ∀ j, j < 4 → w.cell? ⟨g, i * 4 + j, none⟩ = ([.int .i64 (z.1 : Int), .int .i64 (kcost t z.2 : Nat), .int .i64 0, .slice A z.2.length k] : List Value)[j]? := fun j hj => by
    have hf := flatten_get css h2 i j (by omega) hj
    rw [k1] at hf
    rcases h3.2 with ⟨e, _⟩ | ⟨g', cap, cur, e, _, h5, h6, h7, h8, h9⟩
    · cases e
    · injection e with e1 e2 e3
      injection e1 with e1
      injection e1 with e1
      subst e1
      have hb2 : Blk w g 105 cur := h5
      rw [hb2.cell, ← Array.getElem?_toList]
      rw [← h9, List.getElem?_take, if_pos (by omega)] at hf
      exact hf
  exact ⟨A, k, ⟨key 0 (by omega), key 1 (by omega), key 2 (by omega), key 3 (by omega)⟩, ⟨hb.frozen _, hb.frozen _, hb.frozen _, hb.frozen _⟩, k2, k3⟩
theorem own_set {w : World} {B g n c s k : Nat} {e : TypeId} {xs : List Value} (h : w.ownsRow B e s (.slice (some ⟨g, 0, none⟩) n c) n xs) (u : Value) : (w.setCell ⟨g, k, none⟩ u).ownsRow B e s (.slice (some ⟨g, 0, none⟩) n c) n (xs.set k u) := by
  refine ⟨by rw [List.length_set]; exact h.1, ?_⟩
  rcases h.2 with ⟨h3, h4⟩ | ⟨g', cap, cur, h3, h4, h5, h6, h7, h8, h9⟩
  · cases h3
  · have h3' := h3
    injection h3 with e1 e2 e3
    injection e1 with e1
    injection e1 with e1
    subst e1
    refine .inr ⟨g, cap, cur.setIfInBounds k u, h3', h4, (show Blk w g e cur from h5).set_ k u, h6, h7, by simpa using h8, ?_⟩
    rw [Array.toList_setIfInBounds, ← h9, List.take_set]
theorem own_put4 {w : World} {B g n c i : Nat} {e : TypeId} {css : List (List Value)} (h : w.ownsRow B e 4 (.slice (some ⟨g, 0, none⟩) n c) n css.flatten) (h1 : css.length = n) (h2 : ∀ cs ∈ css, cs.length = 4) (hi : i < n) (v0 v1 v2 v3 : Value) :
    ((((w.setCell ⟨g, i * 4, none⟩ v0).setCell ⟨g, i * 4 + 1, none⟩ v1).setCell ⟨g, i * 4 + 2, none⟩ v2).setCell ⟨g, i * 4 + 3, none⟩ v3).ownsRow B e 4 (.slice (some ⟨g, 0, none⟩) n c) n (css.set i [v0, v1, v2, v3]).flatten := by
  have hml : i < css.length := by omega
  obtain ⟨cs, hcs⟩ : ∃ cs, css[i]? = some cs := ⟨_, List.getElem?_eq_getElem hml⟩
  have hc4 : cs.length = 4 := h2 cs (List.mem_of_getElem? hcs)
  have e0 : css = css.set i cs := by
    apply List.ext_getElem?
    intro j
    by_cases e : i = j
    · subst e; rw [List.getElem?_set_self hml]; exact hcs
    · rw [List.getElem?_set_ne e]
  have b := own_set (k := i * 4 + 3) (own_set (k := i * 4 + 2) (own_set (k := i * 4 + 1) (own_set (k := i * 4 + 0) h v0) v1) v2) v3
  rw [e0, st_gen css h2 i hml cs 0 _ hc4 (by omega), st_gen css h2 i hml _ 1 _ (by simp [hc4]) (by omega), st_gen css h2 i hml _ 2 _ (by simp [hc4]) (by omega), st_gen css h2 i hml _ 3 _ (by simp [hc4]) (by omega)] at b
  have e3 : (((cs.set 0 v0).set 1 v1).set 2 v2).set 3 v3 = [v0, v1, v2, v3] := by
    rcases cs with _ | ⟨a0, _ | ⟨a1, _ | ⟨a2, _ | ⟨a3, _ | ⟨a4, r⟩⟩⟩⟩⟩
    all_goals first | (simp at hc4; done) | rfl
  rw [e3] at b
  exact b
theorem grown4 (w : World) (g i : Nat) (v0 v1 v2 v3 : Value) : w.grownBy ((((w.setCell ⟨g, i * 4, none⟩ v0).setCell ⟨g, i * 4 + 1, none⟩ v1).setCell ⟨g, i * 4 + 2, none⟩ v2).setCell ⟨g, i * 4 + 3, none⟩ v3) (some g) :=
  (((grown_set w g (i * 4) v0).trans (grown_set _ g (i * 4 + 1) v1)).trans (grown_set _ g (i * 4 + 2) v2)).trans (grown_set _ g (i * 4 + 3) v3)
/-- A label is put into the row. -/
theorem KRow.put {t : Tp} {w : World} {B g n c i : Nat} {hs : List (Nat × List Nat)} {z : Nat × List Nat} {A : Option Addr} {k : Nat} (h : KRow t w B g n c hs) (hi : i < n) (hk : z.2.length ≤ k) (hA : RdF B w A (ints z.2)) :
    KRow t ((((w.setCell ⟨g, i * 4, none⟩ (.int .i64 (z.1 : Int))).setCell ⟨g, i * 4 + 1, none⟩ (.int .i64 (kcost t z.2 : Nat))).setCell ⟨g, i * 4 + 2, none⟩ (.int .i64 0)).setCell ⟨g, i * 4 + 3, none⟩ (.slice A z.2.length k)) B g n c (hs.set i z) := by
  obtain ⟨cb, hb⟩ := h.blk
  obtain ⟨css, h1, h2, h3, h4⟩ := h.row
  have hg := grown4 w g i (.int .i64 (z.1 : Int)) (.int .i64 (kcost t z.2 : Nat)) (.int .i64 0) (.slice A z.2.length k)
  refine ⟨by rw [List.length_set]; exact h.len, css.set i [.int .i64 (z.1 : Int), .int .i64 (kcost t z.2 : Nat), .int .i64 0, .slice A z.2.length k], by rw [List.length_set]; exact h1, fun cs hc => ?_, own_put4 h3 h1 h2 hi _ _ _ _, fun j y hj => ?_⟩
  · rcases List.mem_or_eq_of_mem_set hc with hc | hc
    · exact h2 cs hc
    · rw [hc]; rfl
  · by_cases e : i = j
    · subst e
      rw [List.getElem?_set_self (by have := h.len; omega)] at hj
      injection hj with hj
      subst hj
      exact ⟨_, List.getElem?_set_self (by omega), A, k, rfl, hk, hA.other hg hb (by decide)⟩
    · rw [List.getElem?_set_ne e] at hj
      obtain ⟨cs, k1, k2⟩ := h4 j y hj
      exact ⟨cs, by rw [List.getElem?_set_ne e]; exact k1, k2.other hg hb (by decide)⟩
/-- The queue: a box that holds the row. -/
structure KQu (t : Tp) (w : World) (B q g n c : Nat) (hs : List (Nat × List Nat)) : Prop where
  box : Blk w q 107 #[.slice (some ⟨g, 0, none⟩) n c]
  row : KRow t w B g n c hs
theorem KQu.keep {t : Tp} {w w' : World} {B q g n c : Nat} {hs : List (Nat × List Nat)} (h : KQu t w B q g n c hs) (hx : Ext w w') : KQu t w' B q g n c hs := ⟨h.box.keep hx, h.row.keep hx⟩
theorem KRow.below {t : Tp} {w w' : World} {B g n c b : Nat} {hs : List (Nat × List Nat)} (h : KRow t w B g n c hs) (hg : w.grownBy w' (some b)) (hB : b < B) (hgB : B ≤ g) : KRow t w' B g n c hs := by
  obtain ⟨css, h1, h2, h3, h4⟩ := h.row
  refine ⟨h.len, css, h1, h2, h3.kept hg (.inr (fun e => ?_)), fun i z hz => ?_⟩
  · have e : some g = some b := e
    injection e with e
    omega
  · obtain ⟨cs, k1, A, c', k2, k3, k4⟩ := h4 i z hz
    exact ⟨cs, k1, A, c', k2, k3, k4.below hg hB⟩
theorem KRow.lo {t : Tp} {w : World} {B g n c : Nat} {hs : List (Nat × List Nat)} (h : KRow t w B g n c hs) : B ≤ g := by
  obtain ⟨css, h1, h2, h3, h4⟩ := h.row
  exact (h3.lt g rfl).1
theorem KQu.below {t : Tp} {w w' : World} {B q g n c b : Nat} {hs : List (Nat × List Nat)} {cs : Array Value} (h : KQu t w B q g n c hs) (hg : w.grownBy w' (some b)) (hb : Blk w b 3 cs) (hB : b < B) : KQu t w' B q g n c hs :=
  ⟨(hg.block q h.box.lt (fun e => by injection e with e; exact h.box.ne_ hb (by decide) e)).trans h.box, h.row.below hg hB h.row.lo⟩
end Go.Proofs.YtjmkcckbbgpkeaaGreatDoor
