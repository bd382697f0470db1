/- rational.Sum: the sum of a list. -/
/- slices.Clone of rational numbers; rational.Sum. -/
import Derived.Test.YtekiomanidimnaaDoorQA
import Derived.Test.YtekiomanidimnaaDoorQl
import Derived.Lib.SliceRun
set_option linter.unusedVariables false
set_option linter.unusedSimpArgs false

namespace Go.Proofs.YtekiomanidimnaaDoor
open Go.RowKit
/-- The sum of numbers. -/
def sumQ : List Rat → Rat
  | [] => 0
  | a :: l => a + sumQ l
/-- Neighbours are added up. -/
def halve : List Rat → List Rat
  | a :: b :: l => (a + b) :: halve l
  | l => l
theorem halve_sum : ∀ l : List Rat, sumQ (halve l) = sumQ l
  | [] => rfl
  | [_] => rfl
  | a :: b :: l => by
    show a + b + sumQ (halve l) = a + (b + sumQ l)
    rw [halve_sum l, Rat.add_assoc]
theorem halve_len : ∀ l : List Rat, (halve l).length = (l.length + 1) / 2
  | [] => rfl
  | [_] => by simp [halve]
  | a :: b :: l => by
    show (halve l).length + 1 = (l.length + 1 + 1 + 1) / 2
    rw [halve_len l]; omega
theorem halve_get : ∀ (l : List Rat) (j : Nat), j < (l.length + 1) / 2 → (halve l)[j]? = some (if 2 * j + 1 < l.length then l[2 * j]?.getD 0 + l[2 * j + 1]?.getD 0 else l[2 * j]?.getD 0)
  | [], j, h => by simp at h
  | [a], j, h => by
    obtain rfl : j = 0 := by simp at h; omega
    rfl
  | a :: b :: l, 0, h => by
    show some (a + b) = _
    simp
  | a :: b :: l, j + 1, h => by
    show (halve l)[j]? = _
    rw [halve_get l j (by simp at h; omega)]
    have e1 : (a :: b :: l)[2 * (j + 1)]? = l[2 * j]? := by rw [show 2 * (j + 1) = 2 * j + 1 + 1 by omega]; rfl
    have e2 : (a :: b :: l)[2 * (j + 1) + 1]? = l[2 * j + 1]? := by rw [show 2 * (j + 1) + 1 = (2 * j + 1) + 1 + 1 by omega]; rfl
    rw [e1, e2]
    simp only [List.length_cons]
    by_cases h2 : 2 * j + 1 < l.length
    · rw [if_pos h2, if_pos (by omega)]
    · rw [if_neg h2, if_neg (by omega)]
/-- The row, of which the first i pairs have been added up. -/
def passTo (l : List Rat) : Nat → List Rat
  | 0 => l
  | i + 1 => (passTo l i).set i (l[2 * i]?.getD 0 + l[2 * i + 1]?.getD 0)
theorem passTo_len (l : List Rat) : ∀ i, (passTo l i).length = l.length
  | 0 => rfl
  | i + 1 => by
    show ((passTo l i).set i _).length = _
    rw [List.length_set]; exact passTo_len l i
theorem passTo_get (l : List Rat) : ∀ (i j : Nat), j < l.length → (passTo l i)[j]? = some (if j < i then l[2 * j]?.getD 0 + l[2 * j + 1]?.getD 0 else l[j]?.getD 0)
  | 0, j, h => by
    show l[j]? = _
    rw [if_neg (by omega), List.getElem?_eq_getElem h]; rfl
  | i + 1, j, h => by
    show ((passTo l i).set i _)[j]? = _
    by_cases e : i = j
    · subst e
      rw [List.getElem?_set_self (by rw [passTo_len]; exact h), if_pos (by omega)]
    · rw [List.getElem?_set_ne e, passTo_get l i j h]
      by_cases h2 : j < i
      · rw [if_pos h2, if_pos (by omega)]
      · rw [if_neg h2, if_neg (by omega)]
theorem pass_even {l : List Rat} {p : Nat} (h : l.length = 2 * p) : (passTo l p).take p = halve l := by
  apply List.ext_getElem?
  intro j
  by_cases hj : j < p
  · rw [List.getElem?_take_of_lt hj, passTo_get l p j (by omega), halve_get l j (by omega), if_pos hj, if_pos (by omega)]
  · rw [List.getElem?_eq_none (by rw [List.length_take, passTo_len]; omega), List.getElem?_eq_none (by rw [halve_len]; omega)]
theorem pass_odd {l : List Rat} {p : Nat} (h : l.length = 2 * p + 1) : ((passTo l p).set p (l[2 * p]?.getD 0)).take (p + 1) = halve l := by
  apply List.ext_getElem?
  intro j
  by_cases hj : j < p + 1
  · rw [List.getElem?_take_of_lt hj, halve_get l j (by omega)]
    by_cases e : p = j
    · subst e
      rw [List.getElem?_set_self (by rw [passTo_len]; omega), if_neg (by omega)]
    · rw [List.getElem?_set_ne e, passTo_get l p j (by omega), if_pos (by omega), if_pos (by omega)]
  · rw [List.getElem?_eq_none (by rw [List.length_take, List.length_set, passTo_len]; omega), List.getElem?_eq_none (by rw [halve_len]; omega)]
/-- Sizes of numbers that are added up. -/
def SzR : List Rat → Nat → Prop
  | [], _ => True
  | a :: l, C => ∃ k D, SzQ a k ∧ SzR l D ∧ k + 1 + D ≤ C
theorem SzR.halve_ : ∀ {l : List Rat} {C : Nat}, SzR l C → SzR (halve l) C
  | [], _, _ => trivial
  | [_], _, h => h
  | a :: b :: l, C, h => by
    obtain ⟨k, D, h1, ⟨k2, D2, h2, h3, h4⟩, h5⟩ := h
    exact ⟨k + k2 + 1, D2, h1.add h2, SzR.halve_ h3, by omega⟩
theorem SzR.mem : ∀ {l : List Rat} {C : Nat}, SzR l C → ∀ q ∈ l, SzQ q C
  | [], _, _, q, hq => by cases hq
  | a :: l, C, h, q, hq => by
    obtain ⟨k, D, h1, h2, h3⟩ := h
    rcases List.mem_cons.1 hq with rfl | hq
    · exact h1.mono (by omega)
    · exact (SzR.mem h2 q hq).mono (by omega)
theorem SzR.of {P : Nat} : ∀ {l : List Rat}, (∀ q ∈ l, SzQ q P) → SzR l (l.length * (P + 1))
  | [], _ => trivial
  | a :: l, h => ⟨P, l.length * (P + 1), h a (by simp), SzR.of (fun q hq => h q (by simp [hq])), by rw [List.length_cons, Nat.add_mul]; omega⟩
theorem SzR.sum : ∀ {l : List Rat} {C : Nat}, SzR l C → SzQ (sumQ l) (C + 1)
  | [], _, _ => SzQ.zero.mono (by omega)
  | a :: l, C, h => by
    obtain ⟨k, D, h1, h2, h3⟩ := h
    exact (h1.add (SzR.sum h2)).mono (by omega)
/-- The first numbers of a row in a block of its own. -/
def QP (w : World) (g : Nat) (qs : List Rat) : Prop :=
  ∃ cur : Array Value, Blk w g 29 cur ∧ ∀ (i : Nat) (q : Rat), qs[i]? = some q → ∃ (neg : Bool) (A : Option Addr) (n c : Nat) (A' : Option Addr) (n' c' : Nat),
    (cur[i * 3]? = some (.bool neg) ∧ cur[i * 3 + 1]? = some (.slice A n c) ∧ cur[i * 3 + 2]? = some (.slice A' n' c')) ∧ RatR w neg A n c A' n' c' q
theorem QP.keep {w w' : World} {g : Nat} {qs : List Rat} (h : QP w g qs) (hx : Ext w w') : QP w' g qs := by
  obtain ⟨cur, h1, h2⟩ := h
  refine ⟨cur, h1.keep hx, fun i q hq => ?_⟩
  obtain ⟨neg, A, n, c, A', n', c', h3, h4⟩ := h2 i q hq
  exact ⟨neg, A, n, c, A', n', c', h3, h4.keep hx⟩
theorem QP.lt {w : World} {g : Nat} {qs : List Rat} (h : QP w g qs) : g < w.heap.size := by
  obtain ⟨cur, h1, _⟩ := h
  exact h1.lt
theorem QP.at_ {w : World} {g : Nat} {qs : List Rat} (h : QP w g qs) {i : Nat} {q : Rat} (hl : qs[i]? = some q) :
    ∃ (neg : Bool) (A : Option Addr) (n c : Nat) (A' : Option Addr) (n' c' : Nat),
      (w.cell? ⟨g, i * 3, none⟩ = some (.bool neg) ∧ w.cell? ⟨g, i * 3 + 1, none⟩ = some (.slice A n c) ∧ w.cell? ⟨g, i * 3 + 2, none⟩ = some (.slice A' n' c')) ∧
      (w.frozen? ⟨g, i * 3, none⟩ = false ∧ w.frozen? ⟨g, i * 3 + 1, none⟩ = false ∧ w.frozen? ⟨g, i * 3 + 2, none⟩ = false) ∧ RatR w neg A n c A' n' c' q := by
  obtain ⟨cur, h1, h2⟩ := h
  obtain ⟨neg, A, n, c, A', n', c', ⟨e0, e1, e2⟩, h4⟩ := h2 i q hl
  exact ⟨neg, A, n, c, A', n', c', ⟨by rw [h1.cell]; exact e0, by rw [h1.cell]; exact e1, by rw [h1.cell]; exact e2⟩, ⟨h1.frozen _, h1.frozen _, h1.frozen _⟩, h4⟩
theorem QP.take {w : World} {g : Nat} {qs : List Rat} (h : QP w g qs) (m : Nat) : QP w g (qs.take m) := by
  obtain ⟨cur, h1, h2⟩ := h
  refine ⟨cur, h1, fun i q hq => h2 i q ?_⟩
  rw [List.getElem?_take] at hq
  split at hq
  · exact hq
  · cases hq
theorem set3_get {cur : Array Value} {m j : Nat} {u0 u1 u2 : Value} (hm : m * 3 + 2 < cur.size) : (((cur.setIfInBounds (m * 3) u0).setIfInBounds (m * 3 + 1) u1).setIfInBounds (m * 3 + 2) u2)[j]? = if j = m * 3 then some u0 else if j = m * 3 + 1 then some u1 else if j = m * 3 + 2 then some u2 else cur[j]? := by
  rw [Array.getElem?_setIfInBounds, Array.getElem?_setIfInBounds, Array.getElem?_setIfInBounds]
  simp only [Array.size_setIfInBounds]
  repeat' split
  all_goals first | rfl | omega
theorem QP.put {w : World} {g m : Nat} {qs : List Rat} {q : Rat} {neg : Bool} {A : Option Addr} {n c : Nat} {A' : Option Addr} {n' c' : Nat} (h : QP w g qs) (hm : m < qs.length) (hl : RatR w neg A n c A' n' c' q) :
    QP (((w.setCell ⟨g, m * 3, none⟩ (.bool neg)).setCell ⟨g, m * 3 + 1, none⟩ (.slice A n c)).setCell ⟨g, m * 3 + 2, none⟩ (.slice A' n' c')) g (qs.set m q) := by
  obtain ⟨cur, h1, h2⟩ := h
  have g2 := ((grown_set w g (m * 3) (.bool neg)).trans (grown_set _ g (m * 3 + 1) (.slice A n c))).trans (grown_set _ g (m * 3 + 2) (.slice A' n' c'))
  have b := ((h1.set_ (m * 3) (.bool neg)).set_ (m * 3 + 1) (.slice A n c)).set_ (m * 3 + 2) (.slice A' n' c')
  have hsz : m * 3 + 2 < cur.size := by
    obtain ⟨_, _, _, _, _, _, _, ⟨_, _, e2⟩, _⟩ := h2 m _ (List.getElem?_eq_getElem hm)
    exact (Array.getElem?_eq_some_iff.1 e2).1
  refine ⟨_, b, fun i p hi => ?_⟩
  by_cases e : m = i
  · subst e
    rw [List.getElem?_set_self hm] at hi
    injection hi with hi
    subst hi
    refine ⟨neg, A, n, c, A', n', c', ⟨?_, ?_, ?_⟩, hl.other g2 h1 (by decide)⟩
    · rw [set3_get hsz, if_pos rfl]
    · rw [set3_get hsz, if_neg (by omega), if_pos rfl]
    · rw [set3_get hsz, if_neg (by omega), if_neg (by omega), if_pos rfl]
  · rw [List.getElem?_set_ne e] at hi
    obtain ⟨neg', B, k, d, B', k', d', ⟨e0, e1, e2⟩, h4⟩ := h2 i p hi
    refine ⟨neg', B, k, d, B', k', d', ⟨?_, ?_, ?_⟩, h4.other g2 h1 (by decide)⟩
    · rw [set3_get hsz, if_neg (by omega), if_neg (by omega), if_neg (by omega)]; exact e0
    · rw [set3_get hsz, if_neg (by omega), if_neg (by omega), if_neg (by omega)]; exact e1
    · rw [set3_get hsz, if_neg (by omega), if_neg (by omega), if_neg (by omega)]; exact e2
end Go.Proofs.YtekiomanidimnaaDoor


namespace Go.Proofs.YtekiomanidimnaaDoor
open Go.RowKit
theorem QP.of_own {w : World} {B n g cap : Nat} {v : Value} {css : List (List Value)} {qs : List Rat} (hw : w.ownsRow B 29 3 v n css.flatten) (h0 : 0 < n) (hl : css.length = n) (h3 : ∀ cs ∈ css, cs.length = 3) (hq : ∀ (i : Nat) (q : Rat), qs[i]? = some q → ∃ cs, css[i]? = some cs ∧ QR w cs q) (hv : v = .slice (some ⟨g, 0, none⟩) n cap) : B ≤ g ∧ n ≤ cap ∧ QP w g qs := by
  rcases hw.2 with ⟨_, e2⟩ | ⟨g', cap', cur, k1, k2, k3, k4, k5, k6, k7⟩
  · omega
  · rw [hv] at k1
    injection k1 with e1 e2 e3
    injection e1 with e1
    injection e1 with e1
    subst e1 e3
    refine ⟨k2, k4, cur, k3, fun i q hi => ?_⟩
    obtain ⟨cs, c1, neg, A, m, c, A', m', c', rfl, hR⟩ := hq i q hi
    have hil : i < n := by rw [← hl]; exact (List.getElem?_eq_some_iff.1 c1).1
    have key : ∀ k, k < 3 → cur[i * 3 + k]? = ([.bool neg, .slice A m c, .slice A' m' c'] : List Value)[k]? := fun k hk => by
      rw [← Array.getElem?_toList]
      have h5 : (cur.toList.take (n * 3))[i * 3 + k]? = cur.toList[i * 3 + k]? := by rw [List.getElem?_take, if_pos (by omega)]
      rw [← h5, k7, flatten_get css h3 i k (by omega) hk, c1]; rfl
    exact ⟨neg, A, m, c, A', m', c', ⟨key 0 (by omega), key 1 (by omega), key 2 (by omega)⟩, hR⟩
set_option maxRecDepth 100000 in
set_option maxHeartbeats 2000000 in
theorem cloneRat_ok (P : Option Addr) (n c : Nat) (qs : List Rat) (hn : qs.length = n) (h0 : 0 < n) (hn2 : n ≤ 1000000) (w : World) (hq : QL w P qs) :
    Calls Tryd.prog 37 #[.slice P n c] w fun e w' => ∃ g cap : Nat, e = .returned (.slice (some ⟨g, 0, none⟩) n cap) ∧ w.heap.size ≤ g ∧ n ≤ cap ∧ QP w' g qs ∧ Ext w w' := by
  obtain ⟨ti, hi, hz0, hz1, hz2⟩ := info_parts Tryd.info44
  obtain ⟨css, q1, q2, q3, q4⟩ := hq
  have hfl := flatten_length css q2
  obtain ⟨b, o, rfl, hb, hcell⟩ := q3.at_ (i := 0) (by rw [hfl]; omega)
  have HC := Lib.hid hcell
  have H1 := Lib.hid q1
  have H2 := Lib.hid q2
  have H4 := Lib.hid q4
  have HN := Lib.hid hn
  have HF := Lib.hid hfl
  have ONE := Lib.hid (show ∀ u ∈ css.flatten, u.oneCell' = true from fun u hu => by
    obtain ⟨cs, c1, c2⟩ := List.mem_flatten.1 hu
    obtain ⟨i, hi2⟩ := List.mem_iff_getElem?.1 c1
    have hil := (List.getElem?_eq_some_iff.1 hi2).1
    obtain ⟨cs', c3, neg, A, m, c, A', m', c', rfl, _⟩ := q4 i _ (List.getElem?_eq_getElem (by rw [← q1]; exact hil))
    rw [hi2] at c3
    injection c3 with c3
    subst c3
    simp only [List.mem_cons, List.not_mem_nil, or_false] at c2
    rcases c2 with rfl | rfl | rfl <;> rfl)
  clear q1 q2 q3 q4 hcell hn hfl
  have q47 : ∀ (w : World) (a : Option Addr) (n c n' c' : Nat), (binOp .eql 33 (.slice a n c) (.slice none n' c')).run Tryd.prog w = .ok (.bool a.isNone) w := fun w a n c n' c' => Lib.run_eql_slice_nil w _ _ a n c n' c' Tryd.underlying33
  go_enter Tryd.func37, Tryd.ntmps37
  go_wp2_with (at_builtin; go_must (refine wpList_append_own_at _ rfl (.tmp 5) (.tmp 6) 33 rfl w.heap.size 29 ti (.agg #[.bool false, .slice none 0 0, .slice none 0 0]) 3 56 Tryd.underlying33 hi hz0 hz1 hz2 rfl (by decide) (.slice (some ⟨w.heap.size, 0, none⟩) 0 0) 0 [] rfl ?c0 ⟨b, o, none⟩ n c css.flatten rfl ?c1 ?c2 ONE.out ?c3 ?c4 ?c5 ?_))
  case c0 => exact World.ownsRow_made w #[] 0 (Nat.le_refl _) (Nat.zero_le _) (by simp)
  case c1 => rw [HF.out, H1.out, HN.out]
  case c2 =>
    intro j u hj
    have hjl := (List.getElem?_eq_some_iff.1 hj).1
    have := HC.out j hjl
    rw [hj] at this
    rw [addr_add]
    exact (((Ext.refl w).alloc (.cells #[] 29)).cell (p := ⟨b, o + j, none⟩) hb).trans this
  case c3 => unfold maxLen; omega
  case c4 => omega
  case c5 => simp
  intro v3 w3 hown3 hgrow3 _ _
  have e3 : Ext w w3 := Below.grown ((Ext.refl w).alloc (.cells #[] 29)) hgrow3 (by simp) (fun k hk => by simp [Value.ownBlock] at hk; omega)
  have hv3 : ∃ g cap, v3 = .slice (some ⟨g, 0, none⟩) n cap := by
    rcases hown3.2 with ⟨_, e2⟩ | ⟨g, cap, _, e1, _⟩
    · omega
    · exact ⟨g, cap, by simpa using e1⟩
  obtain ⟨g, cap, rfl⟩ := hv3
  have hown3 : w3.ownsRow w.heap.size 29 3 (.slice (some ⟨g, 0, none⟩) n cap) n css.flatten := by simpa using hown3
  have F := Lib.hid (QP.of_own (qs := qs) hown3 h0 (by rw [H1.out, HN.out]) H2.out (fun i q hq => by
    obtain ⟨cs, c1, c2⟩ := H4.out i q hq
    exact ⟨cs, c1, c2.keep e3⟩) rfl)
  have E3 := Lib.hid e3
  clear hown3 hgrow3 e3
  go_wp2
  go_ret
  exact ⟨g, cap, rfl, F.out.1, F.out.2.1, F.out.2.2, E3.out⟩
/-- Adding up, under way. -/
structure SuS (w wr : World) (g n cap : Nat) (K : List Rat) (S : Rat) (C : Nat) : Prop where
  len : K.length = n
  pos : 0 < n
  cap : n ≤ cap
  sum : sumQ K = S
  sz : SzR K C
  row : QP wr g K
  ext : Ext w wr
theorem sumQ_one {K : List Rat} (h : K.length = 1) : K[0]? = some (sumQ K) := by
  obtain ⟨a, rfl⟩ := List.length_eq_one_iff.1 h
  show some a = some (a + 0)
  rw [Rat.add_zero]
theorem get_some {K : List Rat} {i : Nat} (h : i < K.length) : K[i]? = some (K[i]?.getD 0) := by rw [List.getElem?_eq_getElem h]; rfl
set_option maxRecDepth 100000 in
set_option maxHeartbeats 4000000 in
theorem ratSum_ok (P : Option Addr) (n c : Nat) (qs : List Rat) (hn : qs.length = n) (h0 : 0 < n) (hn2 : n ≤ 1000000) (C : Nat) (hC : C ≤ 100000000) (hsz : SzR qs C) (w : World) (hq : QL w P qs) :
    Calls Tryd.prog 23 #[.slice P n c] w (RatPost w (sumQ qs)) := by
  obtain ⟨b0, e0⟩ := boxes1 w #[.bool false, .slice none 0 0, .slice none 0 0] 29
  have BB := Lib.hid b0
  have HQ := Lib.hid (hq.keep e0)
  have HN := Lib.hid hn
  have HS := Lib.hid hsz
  have E0 := Lib.hid e0
  have hnz : ((n : Int) == 0) = false := beq_eq_false_iff_ne.2 (by omega)
  clear b0 e0 hq hn hsz
  go_enter Tryd.func23, Tryd.ntmps23
  go_wp2_with fail
  refine (cloneRat_ok P n c qs HN.out h0 hn2 _ HQ.out).mono ?_
  rintro e w1 ⟨g, cap, rfl, hg, hcap, hrow, x1⟩
  have S1 := Lib.hid (show SuS w w1 g n cap qs (sumQ qs) C from ⟨HN.out, h0, hcap, rfl, HS.out, hrow, E0.out.tr x1⟩)
  have B1 := Lib.hid (BB.out.keep x1)
  have hgw : w.heap.size < g := by
    have : w.heap.size < (w.alloc (.cells #[.bool false, .slice none 0 0, .slice none 0 0] 29)).heap.size := BB.out.lt
    omega
  clear hrow x1 BB HQ HN HS E0 hg
  generalize sumQ qs = S at *
  go_wp2
  go_loopg [3, 4, 5] n (fun q pt _ _ wr => ∃ (m : Nat) (K : List Rat), m = q ∧ (1 ≤ m ∧ m ≤ n) ∧ pt = .slice (some ⟨g, 0, none⟩) m cap ∧ Hid (SuS w wr g m cap K S C) ∧ Hid (Blk wr w.heap.size 29 #[.bool false, .slice none 0 0, .slice none 0 0]))
  case atStart => exact ⟨n, qs, rfl, by omega, rfl, S1, B1⟩
  case round =>
    obtain ⟨m, K, rfl, hm, rfl, SU, BK⟩ := hrel
    clear S1 B1
    by_cases hm1 : m = 1
    · subst hm1
      obtain ⟨ng, A, l, d, A', l', d', ⟨i0, i1, i2⟩, _, hR⟩ := SU.out.row.at_ (i := 0) (sumQ_one SU.out.len)
      rw [SU.out.sum] at hR
      have hbr := BK.out
      obtain ⟨⟨k0, k1, k2⟩, f0, f1, f2⟩ := hbr.three
      have R := Lib.hid hR
      have E := Lib.hid SU.out.ext
      clear hR SU BK
      go_wp2
      exact bodyPost_ret (v := .agg #[.bool ng, .slice A l d, .slice A' l' d']) (by simp [results, Tryd.results23, go_sem, (((hbr.set_ 0 _).set_ 1 _).set_ 2 _).cell]) rfl (ratPost_set hbr (by decide) R.out E.out (by omega))
    · have hmg : (1 : Int) < (m : Int) := by omega
      obtain ⟨p, hp⟩ : ∃ p : Nat, p = m / 2 := ⟨_, rfl⟩
      have ep : (m : Int) / 2 = (p : Int) := by omega
      have hpm : 1 ≤ p ∧ 2 * p ≤ m ∧ m ≤ 2 * p + 1 := by omega
      have HK := Lib.hid SU.out.len
      have HSU := Lib.hid (And.intro SU.out.sum (And.intro SU.out.sz (And.intro SU.out.cap SU.out.pos)))
      have T0 := Lib.hid (show QP wr g (passTo K 0) ∧ Ext w wr ∧ Blk wr w.heap.size 29 #[.bool false, .slice none 0 0, .slice none 0 0] from ⟨SU.out.row, SU.out.ext, BK.out⟩)
      clear hp SU BK
      go_wp2
      go_loopg [5, 19] p (fun q _ it wx => ∃ i : Nat, p - i = q ∧ i ≤ p ∧ it = .int .i64 i ∧ Hid (QP wx g (passTo K i) ∧ Ext w wx ∧ Blk wx w.heap.size 29 #[.bool false, .slice none 0 0, .slice none 0 0]))
      case atStart => exact ⟨0, rfl, Nat.zero_le _, rfl, T0⟩
      case round =>
        obtain ⟨i, rfl, hi, rfl, T⟩ := hrel
        clear T0
        by_cases hip : i < p
        · have hlt : (i : Int) < (p : Int) := by omega
          obtain ⟨u, hu⟩ : ∃ u : Nat, u = 2 * i := ⟨_, rfl⟩
          have eu : 2 * (i : Int) = (u : Int) := by omega
          have ha := passTo_get K i u (by rw [HK.out]; omega)
          have hb := passTo_get K i (u + 1) (by rw [HK.out]; omega)
          rw [if_neg (by omega)] at ha hb
          obtain ⟨n1, X1, m1, d1, X1', m1', d1', ⟨y0, y1, y2⟩, _, r1⟩ := T.out.1.at_ ha
          obtain ⟨n2, X2, m2, d2, X2', m2', d2', ⟨z0, z1, z2⟩, _, r2⟩ := T.out.1.at_ hb
          have s1 := HSU.out.2.1.mem _ (List.mem_of_getElem? (get_some (K := K) (i := u) (by rw [HK.out]; omega)))
          have s2 := HSU.out.2.1.mem _ (List.mem_of_getElem? (get_some (K := K) (i := u + 1) (by rw [HK.out]; omega)))
          obtain ⟨l1, l1'⟩ := r1.lens s1
          obtain ⟨l2, l2'⟩ := r2.lens s2
          have XD := Lib.hid (show Ext wr wr.drew from (Ext.refl wr).drewN 1)
          have R := Lib.hid (And.intro (r1.keep XD.out) (r2.keep XD.out))
          have y0 : wr.drew.cell? ⟨g, u * 3, none⟩ = some (.bool n1) := y0
          have y1 : wr.drew.cell? ⟨g, u * 3 + 1, none⟩ = some (.slice X1 m1 d1) := y1
          have y2 : wr.drew.cell? ⟨g, u * 3 + 2, none⟩ = some (.slice X1' m1' d1') := y2
          have z0 : wr.drew.cell? ⟨g, (u + 1) * 3, none⟩ = some (.bool n2) := z0
          have z1 : wr.drew.cell? ⟨g, (u + 1) * 3 + 1, none⟩ = some (.slice X2 m2 d2) := z1
          have z2 : wr.drew.cell? ⟨g, (u + 1) * 3 + 2, none⟩ = some (.slice X2' m2' d2') := z2
          have TD := Lib.hid (show QP wr.drew g (passTo K i) ∧ Ext w wr.drew ∧ Blk wr.drew w.heap.size 29 #[.bool false, .slice none 0 0, .slice none 0 0] from ⟨T.out.1.keep XD.out, T.out.2.1.tr XD.out, T.out.2.2.keep XD.out⟩)
          have q1 : (u : Int) < (m : Int) := by omega
          have q2 : (u : Int) + 1 < (m : Int) := by omega
          have q3 : (i : Int) < (m : Int) := by omega
          have hil : i < (passTo K i).length := by rw [passTo_len, HK.out]; omega
          have HIL := Lib.hid hil
          have hgl := Lib.hid (show w.heap.size ≤ g by omega)
          clear ha hb r1 r2 s1 s2 T XD hil
          generalize hva : K[u]?.getD 0 = va at *
          generalize hvb : K[u + 1]?.getD 0 = vb at *
          have HV := Lib.hid (show K[2 * i]?.getD 0 = va ∧ K[2 * i + 1]?.getD 0 = vb by rw [← hu]; exact ⟨hva, hvb⟩)
          clear hva hvb hu
          have wu1 : IntKind.i64.wrap (u : Int) = (u : Int) := IntWalk.i64_in _ (by omega)
          have wu2 : IntKind.i64.wrap ((u : Int) + 1) = (u : Int) + 1 := IntWalk.i64_in _ (by omega)
          go_wp2
          go_region_with ((
               go_at_call 38
               refine (ratAdd_any n1 n2 X1 m1 d1 X1' m1' d1' X2 m2 d2 X2' m2' d2' va vb _ R.out.1 R.out.2 (by omega) (by omega) (by omega) (by omega) (reducedAt_all (Nat.mul_ne_zero (Rat.den_nz _) (Rat.den_nz _)))).mono ?_
               rintro e w6 ⟨n6, A6, l6, c6, A6', l6', c6', rfl, h6, x6⟩
               obtain ⟨_, _, _, _, _, _, _, ⟨t0, t1, t2⟩, ⟨f0, f1, f2⟩, _⟩ := (TD.out.1.keep x6).at_ (i := i) (List.getElem?_eq_getElem HIL.out)
               have hbf := TD.out.2.2.keep x6
               have hne : w.heap.size ≠ g := (by omega)
               have NX := Lib.hid (show QP (((w6.setCell ⟨g, i * 3, none⟩ (.bool n6)).setCell ⟨g, i * 3 + 1, none⟩ (.slice A6 l6 c6)).setCell ⟨g, i * 3 + 2, none⟩ (.slice A6' l6' c6')) g (passTo K (i + 1)) ∧ Ext w (((w6.setCell ⟨g, i * 3, none⟩ (.bool n6)).setCell ⟨g, i * 3 + 1, none⟩ (.slice A6 l6 c6)).setCell ⟨g, i * 3 + 2, none⟩ (.slice A6' l6' c6')) ∧ Blk (((w6.setCell ⟨g, i * 3, none⟩ (.bool n6)).setCell ⟨g, i * 3 + 1, none⟩ (.slice A6 l6 c6)).setCell ⟨g, i * 3 + 2, none⟩ (.slice A6' l6' c6')) w.heap.size 29 #[.bool false, .slice none 0 0, .slice none 0 0] from ⟨by
                 have := (TD.out.1.keep x6).put HIL.out h6
                 rw [show passTo K (i + 1) = (passTo K i).set i (K[2 * i]?.getD 0 + K[2 * i + 1]?.getD 0) from rfl, HV.out.1, HV.out.2]
                 exact this, (((TD.out.2.1.tr x6).set_ (p := ⟨g, i * 3, none⟩) hgl.out _).set_ (p := ⟨g, i * 3 + 1, none⟩) hgl.out _).set_ (p := ⟨g, i * 3 + 2, none⟩) hgl.out _, ((hbf.far (p := ⟨g, i * 3, none⟩) hne _).far (p := ⟨g, i * 3 + 1, none⟩) hne _).far (p := ⟨g, i * 3 + 2, none⟩) hne _⟩)
               clear h6 x6 hbf hne))
          all_goals
            go_wp2
            go_roundg (p - (i + 1))
            case measure => omega
            case rel => exact ⟨i + 1, rfl, by omega, by go_num, NX⟩
        · obtain rfl : i = p := by omega
          have hlt : ¬ (i : Int) < (i : Int) := by omega
          by_cases hev : m = 2 * i
          · have hr1 : ((m : Int) % 2 == 1) = false := by simp; omega
            have F := Lib.hid (show SuS w wr g i cap (halve K) S C from ⟨by rw [halve_len, HK.out]; omega, by omega, by have := HSU.out.2.2.1; omega, by rw [halve_sum]; exact HSU.out.1, HSU.out.2.1.halve_, by rw [← pass_even (show K.length = 2 * i by rw [HK.out]; exact hev)]; exact T.out.1.take i, T.out.2.1⟩)
            have FB := Lib.hid T.out.2.2
            have hcp : (i : Int) ≤ (cap : Int) := by have := HSU.out.2.2.1; omega
            clear T
            go_wp2
            go_roundg i
            case measure => omega
            case rel => exact ⟨i, _, rfl, by omega, by go_num, F, FB⟩
          · have hr1 : ((m : Int) % 2 == 1) = true := by simp; omega
            obtain ⟨u, hu⟩ : ∃ u : Nat, u = 2 * i := ⟨_, rfl⟩
            have ha := passTo_get K i u (by rw [HK.out]; omega)
            rw [if_neg (by omega)] at ha
            obtain ⟨n1, X1, m1, d1, X1', m1', d1', ⟨y0, y1, y2⟩, _, r1⟩ := T.out.1.at_ ha
            have hil : i < (passTo K i).length := by rw [passTo_len, HK.out]; omega
            obtain ⟨_, _, _, _, _, _, _, ⟨t0, t1, t2⟩, ⟨f0, f1, f2⟩, hrr⟩ := T.out.1.at_ (i := i) (List.getElem?_eq_getElem hil)
            clear hrr
            have hgl : w.heap.size ≤ g := by omega
            have hne : w.heap.size ≠ g := by omega
            have F := Lib.hid (show SuS w (((wr.setCell ⟨g, i * 3, none⟩ (.bool n1)).setCell ⟨g, i * 3 + 1, none⟩ (.slice X1 m1 d1)).setCell ⟨g, i * 3 + 2, none⟩ (.slice X1' m1' d1')) g (i + 1) cap (halve K) S C from ⟨by rw [halve_len, HK.out]; omega, by omega, by have := HSU.out.2.2.1; omega, by rw [halve_sum]; exact HSU.out.1, HSU.out.2.1.halve_, by rw [← pass_odd (show K.length = 2 * i + 1 by rw [HK.out]; omega)]; exact (by rw [hu] at r1; exact (T.out.1.put hil r1).take (i + 1)), ((T.out.2.1.set_ (p := ⟨g, i * 3, none⟩) hgl _).set_ (p := ⟨g, i * 3 + 1, none⟩) hgl _).set_ (p := ⟨g, i * 3 + 2, none⟩) hgl _⟩)
            have FB := Lib.hid (((T.out.2.2.far (p := ⟨g, i * 3, none⟩) hne (.bool n1)).far (p := ⟨g, i * 3 + 1, none⟩) hne (.slice X1 m1 d1)).far (p := ⟨g, i * 3 + 2, none⟩) hne (.slice X1' m1' d1'))
            have e1 : (m : Int) - 1 = (u : Int) := by omega
            have q1 : (u : Int) < (m : Int) := by omega
            have q3 : (i : Int) < (m : Int) := by omega
            have hcp : (i : Int) + 1 ≤ (cap : Int) := by have := HSU.out.2.2.1; omega
            clear T r1 ha hil hu
            go_wp2
            go_roundg (i + 1)
            case measure => omega
            case rel => exact ⟨i + 1, _, rfl, by omega, by go_num, F, FB⟩
end Go.Proofs.YtekiomanidimnaaDoor
