/- waypointlaw42.numbers: the program's numbers for the reference's. -/
import Derived.Test.YtekiomanidimnaaGreatDoorFrOf
set_option linter.unusedVariables false
set_option linter.unusedSimpArgs false

namespace Go.Proofs.YtekiomanidimnaaGreatDoor
open Go.RowKit
theorem QLg.at_ {w : World} {P : Option Addr} {qs : List Rat} (h : QLg RQC w P qs) {i : Nat} {q : Rat} (hq : qs[i]? = some q) :
    ∃ (b o : Nat) (neg : Bool) (A : Option Addr) (n c : Nat) (A' : Option Addr) (n' c' : Nat), P = some ⟨b, o, none⟩ ∧ b < w.heap.size ∧ w.cell? ⟨b, o + i * 3, none⟩ = some (.bool neg) ∧ w.cell? ⟨b, o + i * 3 + 1, none⟩ = some (.slice A n c) ∧ w.cell? ⟨b, o + i * 3 + 2, none⟩ = some (.slice A' n' c') ∧ RQR w neg A n c A' n' c' q := by
  obtain ⟨css, h1, h2, h3, h4⟩ := h
  obtain ⟨cs, k1, neg, A, n, c, A', n', c', rfl, k2⟩ := h4 i q hq
  have hi := (List.getElem?_eq_some_iff.1 hq).1
  have hl := flatten_length css h2
  have key : ∀ k, k < 3 → css.flatten[i * 3 + k]? = ([.bool neg, .slice A n c, .slice A' n' c'] : List Value)[k]? := fun k hk => by
    rw [flatten_get css h2 i k (by omega) hk, k1]; rfl
  obtain ⟨b, o, rfl, hb, hc⟩ := h3.at_ (i := i * 3) (by omega)
  refine ⟨b, o, neg, A, n, c, A', n', c', rfl, hb, ?_, ?_, ?_, k2⟩
  · have := hc (i * 3 + 0) (by omega)
    rw [key 0 (by omega)] at this
    exact this
  · have := hc (i * 3 + 1) (by omega)
    rw [key 1 (by omega)] at this
    exact this
  · have := hc (i * 3 + 2) (by omega)
    rw [key 2 (by omega)] at this
    exact this
theorem QLg.keep {w w' : World} {P : Option Addr} {qs : List Rat} (h : QLg RQC w P qs) (hx : Ext w w') : QLg RQC w' P qs := by
  obtain ⟨css, h1, h2, h3, h4⟩ := h
  refine ⟨css, h1, h2, h3.keep hx, fun i q hq => ?_⟩
  obtain ⟨cs, k1, k2⟩ := h4 i q hq
  exact ⟨cs, k1, RQC.keep _ _ _ _ k2 hx⟩
/-- Few digits. -/
def SmQ (q : Rat) : Prop := q.num.natAbs < 1000000000 ∧ q.den < 1000000000
theorem RQR.lens {w : World} {neg : Bool} {A : Option Addr} {n c : Nat} {A' : Option Addr} {n' c' : Nat} {q : Rat} (h : RQR w neg A n c A' n' c' q) (hs : SmQ q) : n ≤ 2 ∧ n' ≤ 2 := by
  have h6 : G6 ^ 2 = 1000000000000 := by decide
  refine ⟨h.2.1.lenOf (by have := hs.1; omega), h.2.2.lenOf ?_⟩
  unfold dk
  split
  · decide
  · have := hs.2; omega
theorem NatR.grownK {w w' : World} {A : Option Addr} {n c N : Nat} {t' : TypeId} {row : Option Nat} (h : NatR w A n c N) (hg : w.grownBy w' row) (hr : ∀ k, row = some k → ∃ cs fr, w.heap[k]? = some (.cells cs t' fr)) (hne : 167 ≠ t') : NatR w' A n c N := by
  obtain ⟨ds, h1, h2, h3, h4, h5⟩ := h
  exact ⟨ds, h1, h2, h3, h4, h5.grownK hg hr hne⟩
theorem QR.grownK {w w' : World} {cs : List Value} {q : Rat} {t' : TypeId} {row : Option Nat} (h : QR w cs q) (hg : w.grownBy w' row) (hr : ∀ k, row = some k → ∃ cs fr, w.heap[k]? = some (.cells cs t' fr)) (hne : 167 ≠ t') : QR w' cs q := by
  obtain ⟨neg, A, n, c, A', n', c', e, h1⟩ := h
  exact ⟨neg, A, n, c, A', n', c', e, h1.1, h1.2.1.grownK hg hr hne, h1.2.2.grownK hg hr hne⟩
set_option maxRecDepth 100000 in
set_option maxHeartbeats 4000000 in
theorem numbers_ok (AF : Option Addr) (n cf : Nat) (qs : List Rat) (hn : qs.length = n) (w : World) (hr : QLg RQC w AF qs) (hwf : ∀ q ∈ qs, SmQ q) (hl : n ≤ 1000) :
    Calls Tryz.prog 21 #[.slice AF n cf] w fun e w' => ∃ (A : Option Addr) (c : Nat), e = .returned (.slice A n c) ∧ n ≤ c ∧ QL w' A qs ∧ Ext w w' := by
  have HR := Lib.hid (hr)
  have HW := Lib.hid (hwf)
  have HN := Lib.hid (hn)
  clear hr hwf hn
  go_enter Tryz.func21, Tryz.ntmps21
  go_wp2
  go_loopg [3, 4, 5, 6] n (fun m ot it _ _ wr => ∃ (i : Nat) (A : Option Addr) (c : Nat), n - i = m ∧ i ≤ n ∧ it = .int .i64 i ∧ ot = .slice A i c ∧ Hid (OQ QR 44 wr w.heap.size (.slice A i c) (qs.take i)) ∧ Hid (Ext w wr))
  case atStart => exact ⟨0, none, 0, rfl, Nat.zero_le _, rfl, rfl, Lib.hid (by rw [List.take_zero]; exact OQ.nil), Lib.hid (Ext.refl _)⟩
  case round =>
    obtain ⟨i, A, c, rfl, hin, rfl, rfl, OQ1, EX⟩ := hrel
    by_cases hi : i < n
    · obtain ⟨x, hx⟩ : ∃ x, qs[i]? = some x := ⟨_, List.getElem?_eq_getElem (by rw [HN.out]; exact hi)⟩
      have wf := HW.out x (List.mem_of_getElem? hx)
      obtain ⟨b, o, neg, A1, n1, c1, A2, n2, c2, hAF, hb, i0, i1, i2, hQ⟩ := (HR.out.keep EX.out).at_ hx
      subst hAF
      have lens := hQ.lens wf
      have TK := Lib.hid (show qs.take (i + 1) = qs.take i ++ [x] by rw [List.take_add_one, hx]; simp)
      have hlt : (qs.take i).length = i := by rw [List.length_take, HN.out]; omega
      obtain ⟨css, q1, q2, q3, q4⟩ := OQ1.out
      rw [hlt] at q1 q3
      have OW := Lib.hid (And.intro q1 (And.intro q2 (And.intro q3 q4)))
      have HQ := Lib.hid (And.intro hQ wf)
      clear hx q1 q2 q3 q4 hb OQ1 hQ wf
      go_wp2_with fail
      refine (rqText_ok neg A1 n1 c1 A2 n2 c2 x _ HQ.out.1 (by omega) (by omega)).mono ?_
      rintro e w4 ⟨rfl, x4⟩
      have E4 := Lib.hid (EX.out.tr x4)
      have X4 := Lib.hid x4
      clear x4 i0 i1 i2
      go_wp2_with fail
      refine (ratParse_ok x _ HQ.out.2.1 HQ.out.2.2).mono ?_
      rintro e w5 ⟨nb, A5, n5, c5, A6, n6, c6, rfl, h5, x5⟩
      have X5 := Lib.hid ((Ext.refl w5).alloc (.cells #[.bool nb, .slice A5 n5 c5, .slice A6 n6 c6] 44))
      have X45 := Lib.hid ((X4.out.tr x5).tr X5.out)
      have OW5 := Lib.hid (OW.out.2.2.1.kept (grown_ext X45.out) (own_none _))
      have E5 := Lib.hid (EX.out.tr X45.out)
      have R5 := Lib.hid (h5.keep X5.out)
      obtain ⟨⟨j0, j1, j2⟩, _⟩ := (Blk.new w5 44 #[.bool nb, .slice A5 n5 c5, .slice A6 n6 c6]).three
      clear h5 x5 X4 E4
      go_wp2_with (at_builtin; go_must (refine wpList_push3 (w5.alloc (.cells #[.bool nb, .slice A5 n5 c5, .slice A6 n6 c6] 44)) 47 44 rfl (.tmp 22) (.tmp 24) rfl Tryz.underlying47 Tryz.info44 w.heap.size (.slice A i c) i css.flatten rfl OW5.out _ _ _ rfl rfl rfl ?cx ?c0 ?c1 ?_))
      case cx => simp only [World.alloc, Array.size_push]; rfl
      case c0 => omega
      case c1 => exact E5.out.size
      intro v6 w6 own6 grow6 A7 c7 e7
      subst e7
      have x6 := (Ext.refl (w5.alloc (.cells #[.bool nb, .slice A5 n5 c5, .slice A6 n6 c6] 44))).alloc (.cells #[.bool nb, .slice A5 n5 c5, .slice A6 n6 c6] 44)
      have hoh := own_heap (OW5.out.alloc (.cells #[.bool nb, .slice A5 n5 c5, .slice A6 n6 c6] 44))
      have OQ6 := Lib.hid (show OQ QR 44 w6 w.heap.size (.slice A7 (i + 1) c7) (qs.take (i + 1)) from by
        rw [TK.out]
        refine OQ.push (w' := w6) (by rw [hlt]; exact OW.out.1) OW.out.2.1 rfl (fun j q hq => ?_) ?_ (by rw [hlt]; exact own6)
        · obtain ⟨cs, z1, z2⟩ := OW.out.2.2.2 j q hq
          exact ⟨cs, z1, ((z2.keep X45.out).keep x6).grownK grow6 hoh (by decide)⟩
        · exact QR.grownK ⟨nb, A5, n5, c5, A6, n6, c6, rfl, R5.out.keep x6⟩ grow6 hoh (by decide))
      have E6 := Lib.hid (show Ext w w6 from Below.grown (E5.out.tr x6) grow6 (by have := E5.out.size; simp at this ⊢; omega) (fun k hk => (OW5.out.lt k hk).1))
      clear own6 grow6 x6 hoh
      go_wp2
      go_roundg (n - (i + 1))
      case measure => omega
      case rel => exact ⟨i + 1, A7, c7, rfl, by omega, by go_num, rfl, OQ6, E6⟩
    · obtain rfl : i = n := by omega
      have hq := OQ1.out
      rw [List.take_of_length_le (by rw [HN.out]; omega)] at hq
      obtain ⟨A9, c9, e9, hc9, hq9⟩ := hq.list
      rw [HN.out] at e9 hc9
      injection e9 with e1 e2 e3
      subst e1 e3
      have F := Lib.hid (And.intro hc9 hq9)
      clear hq9 hq
      go_wp2
      go_ret
      exact ⟨A, c, rfl, F.out.1, F.out.2, EX.out⟩
end Go.Proofs.YtekiomanidimnaaGreatDoor
