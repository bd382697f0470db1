/- rational.Make; rational.Parse of the text of a number with few digits. -/
import Derived.Test.YtekiomanidimnaaGreatDoorParB
set_option linter.unusedVariables false
set_option linter.unusedSimpArgs false

namespace Go.Proofs.YtekiomanidimnaaGreatDoor
open Go.RowKit Go.Sort
theorem rat_set3 {w W : World} {nb : Bool} {A A' : Option Addr} {n c n' c' g : Nat} {q : Rat} {cs : Array Value} (h : RatR W nb A n c A' n' c' q) (hb : Blk W g 44 cs) (hg : w.heap.size ≤ g) (hx : Ext w W) :
    RatR (((W.setCell ⟨g, 0, none⟩ (.bool nb)).setCell ⟨g, 1, none⟩ (.slice A n c)).setCell ⟨g, 2, none⟩ (.slice A' n' c')) nb A n c A' n' c' q ∧ Ext w (((W.setCell ⟨g, 0, none⟩ (.bool nb)).setCell ⟨g, 1, none⟩ (.slice A n c)).setCell ⟨g, 2, none⟩ (.slice A' n' c')) :=
  ⟨h.other (set3_grown W g _ _ _) hb (by decide), ((hx.set_ (p := ⟨g, 0, none⟩) hg _).set_ (p := ⟨g, 1, none⟩) hg _).set_ (p := ⟨g, 2, none⟩) hg _⟩
set_option maxRecDepth 100000 in
set_option maxHeartbeats 2000000 in
theorem ratMake_ok (neg : Bool) (A1 A2 : Option Addr) (n1 c1 n2 c2 N D : Nat) (w : World) (h1 : NatR w A1 n1 c1 N) (h2 : NatR w A2 n2 c2 D) (hn1 : n1 ≤ 1073741824) (hn2 : n2 ≤ 1073741824) (hD : 0 < D) :
    Calls Tryz.prog 126 #[.bool neg, .agg #[.slice A1 n1 c1], .agg #[.slice A2 n2 c2]] w fun e w' => ∃ (nb : Bool) (A : Option Addr) (n c : Nat) (A' : Option Addr) (n' c' : Nat), e = .returned (.tuple #[.agg #[.bool nb, .slice A n c, .slice A' n' c'], .int .i64 0]) ∧ RatR w' nb A n c A' n' c' (mkQ neg N D) ∧ Ext w w' := by
  obtain ⟨b0, b1, b2, e0⟩ := boxes3 w #[.slice A1 n1 c1] 42 #[.slice A2 n2 c2] 42 #[.bool false, .slice none 0 0, .slice none 0 0] 44
  have z2 : ((n2 : Int) == 0) = false := by
    have := h2.eq_zero
    exact beq_eq_false_iff_ne.2 (by omega)
  have H1 := Lib.hid (h1.keep e0)
  have H2 := Lib.hid (h2.keep e0)
  have BB := Lib.hid (And.intro b0 (And.intro b1 b2))
  have E0 := Lib.hid (e0)
  clear h1 h2 b0 b1 b2 e0
  obtain ⟨j1, _⟩ := BB.out.2.1.one
  go_enter Tryz.func126, Tryz.ntmps126
  go_wp2_with fail
  refine (isZero_any A2 n2 c2 _).mono ?_
  rintro e w1 ⟨rfl, x1⟩
  have BB1 := Lib.hid (And.intro (BB.out.1.keep x1) (And.intro (BB.out.2.1.keep x1) (BB.out.2.2.keep x1)))
  have E1 := Lib.hid (E0.out.tr x1)
  have H3 := Lib.hid (And.intro (H1.out.keep x1) (H2.out.keep x1))
  clear x1 BB E0 H1 H2 j1
  obtain ⟨j0, _⟩ := BB1.out.1.one
  obtain ⟨j1, _⟩ := BB1.out.2.1.one
  go_wp2_with fail
  refine (reducedAt_all (N := N) (D := D) (by omega) neg A1 A2 n1 c1 n2 c2 _ H3.out.1 H3.out.2 hn1 hn2).mono ?_
  rintro e w2 ⟨nb, A, n, c, A', n', c', rfl, hq, x2⟩
  have B2 := Lib.hid (BB1.out.2.2.keep x2)
  have E2 := Lib.hid (E1.out.tr x2)
  obtain ⟨⟨i0, i1, i2⟩, f0, f1, f2⟩ := B2.out.three
  obtain ⟨r1, r2⟩ := rat_set3 (w := w) hq B2.out (by omega) E2.out
  have q3 := ((B2.out.set_ 0 (.bool nb)).set_ 1 (.slice A n c)).set_ 2 (.slice A' n' c')
  have RF := Lib.hid (And.intro q3 (And.intro r1 r2))
  clear q3 r1 r2 hq x2 BB1 E1
  go_wp2
  exact bodyPost_ret (v := .tuple #[.agg #[.bool nb, .slice A n c, .slice A' n' c'], .int .i64 0]) (by simp [results, Tryz.results126, go_sem, RF.out.1.cell]) rfl ⟨_, _, _, _, _, _, _, rfl, RF.out.2.1, RF.out.2.2⟩
theorem dec_not (M : Nat) (c : UInt8) (hc : c.toNat < 48) : ∀ b ∈ Lib.decDigits M, (b == c) = false := by
  intro b hb
  obtain ⟨i, hi, he⟩ := List.getElem_of_mem hb
  have h1 := dec_at (M := M) (i := i) (by rw [← Lib.decDigits_length]; exact hi)
  rw [List.getElem?_eq_getElem hi, he] at h1
  injection h1 with h1
  have h2 := dec_byte M (Lib.nDigits M - 1 - i)
  rw [← h1] at h2
  refine beq_eq_false_iff_ne.2 (fun e => ?_)
  rw [e] at h2
  omega
theorem index_none (l : List UInt8) (c : UInt8) (h : ∀ b ∈ l, (b == c) = false) : Lib.indexByte l c = -1 := by
  induction l with
  | nil => rfl
  | cons b l ih =>
    rw [Lib.indexByte, h b (by simp), ih (fun x hx => h x (by simp [hx]))]
    rfl
theorem index_at (l r : List UInt8) (c : UInt8) (h : ∀ b ∈ l, (b == c) = false) : Lib.indexByte (l ++ c :: r) c = (l.length : Int) := by
  induction l with
  | nil => simp [Lib.indexByte]
  | cons b l ih =>
    have h1 := ih (fun x hx => h x (by simp [hx]))
    rw [List.cons_append, Lib.indexByte, h b (by simp), h1]
    have : ((l.length : Int) == -1) = false := beq_eq_false_iff_ne.2 (by omega)
    rw [this]
    simp
end Go.Proofs.YtekiomanidimnaaGreatDoor
