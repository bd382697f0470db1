/- waypointref41.Of: the numbers of fractions. -/
/- waypointlaw42.numbers: the program's numbers for the reference's. -/
/- waypointlaw46.numbers: the program's numbers for the reference's. -/
/- waypointlaw46.is: whether a number is the specified one. -/
/- Small fractions; appending a number. -/
import Derived.Test.YtekiomanidimnaaGreatDoorQl
import Derived.Test.YtekiomanidimnaaGreatDoorOpen
import Derived.Test.YtekiomanidimnaaGreatDoorMul
set_option linter.unusedVariables false
set_option linter.unusedSimpArgs false

namespace Go.Proofs.YtekiomanidimnaaGreatDoor
open Go.RowKit
def frD (x : Fr) : Int := if x.den = 0 then 1 else x.den
def frQ (x : Fr) : Rat := ofQ x.num (frD x)
/-- A number of the reference in three cells. -/
def RQC (w : World) (cs : List Value) (q : Rat) : Prop := ∃ (neg : Bool) (A : Option Addr) (n c : Nat) (A' : Option Addr) (n' c' : Nat), cs = [.bool neg, .slice A n c, .slice A' n' c'] ∧ RQR w neg A n c A' n' c' q
theorem RQC.keep (w w' : World) (cs : List Value) (q : Rat) (h : RQC w cs q) (hx : Ext w w') : RQC w' cs q := by
  obtain ⟨neg, A, n, c, A', n', c', e, h1⟩ := h
  exact ⟨neg, A, n, c, A', n', c', e, h1.keep hx⟩
theorem GrpR.grownK {w w' : World} {A : Option Addr} {n c N : Nat} {t' : TypeId} {row : Option Nat} (h : GrpR w A n c N) (hg : w.grownBy w' row) (hr : ∀ k, row = some k → ∃ cs fr, w.heap[k]? = some (.cells cs t' fr)) (hne : 3 ≠ t') : GrpR w' A n c N := by
  obtain ⟨ds, h1, h2, h3, h4, h5⟩ := h
  exact ⟨ds, h1, h2, h3, h4, h5.grownK hg hr hne⟩
theorem RQC.grownK {w w' : World} {cs : List Value} {q : Rat} {t' : TypeId} {row : Option Nat} (h : RQC w cs q) (hg : w.grownBy w' row) (hr : ∀ k, row = some k → ∃ cs fr, w.heap[k]? = some (.cells cs t' fr)) (hne : 3 ≠ t') : RQC w' cs q := by
  obtain ⟨neg, A, n, c, A', n', c', e, h1⟩ := h
  exact ⟨neg, A, n, c, A', n', c', e, h1.1, h1.2.1.grownK hg hr hne, h1.2.2.grownK hg hr hne⟩
theorem own_heap {w : World} {B n s : Nat} {e : TypeId} {v : Value} {xs : List Value} (h : w.ownsRow B e s v n xs) : ∀ k, v.ownBlock = some k → ∃ cs fr, w.heap[k]? = some (.cells cs e fr) := by
  intro k hk
  rcases h.2 with ⟨rfl, _⟩ | ⟨g, cap, cur, rfl, _, e3, _⟩
  · cases hk
  · simp [Value.ownBlock] at hk; subst hk; exact ⟨cur, _, e3⟩
theorem fr_cells {w : World} {AF : Option Addr} {fr : List Fr} (h : Rd w AF (fr.flatMap Fr.cells)) {i : Nat} {x : Fr} (hx : fr[i]? = some x) : ∃ b o : Nat, AF = some ⟨b, o, none⟩ ∧ b < w.heap.size ∧ w.cell? ⟨b, o + i * 2, none⟩ = some (.int .i8 x.num) ∧ w.cell? ⟨b, o + i * 2 + 1, none⟩ = some (.int .i8 x.den) := by
  have hi := (List.getElem?_eq_some_iff.1 hx)
  have hl := flatMap_len Fr.cells 2 (fun _ => rfl) fr
  obtain ⟨b, o, e, hb, hc⟩ := h.at_ (i := i * 2) (by rw [hl]; have := hi.1; omega)
  refine ⟨b, o, e, hb, ?_, ?_⟩
  · rw [hc (i * 2) (by rw [hl]; have := hi.1; omega)]
    have := flatMap_k Fr.cells 2 (fun _ => rfl) fr i 0 hi.1 (by omega)
    rw [Nat.add_zero] at this
    rw [this, hi.2]; rfl
  · rw [Nat.add_assoc, hc (i * 2 + 1) (by rw [hl]; have := hi.1; omega), flatMap_k Fr.cells 2 (fun _ => rfl) fr i 1 hi.1 (by omega), hi.2]; rfl
set_option maxRecDepth 100000 in
set_option maxHeartbeats 4000000 in
theorem frOf_ok (AF : Option Addr) (n cf : Nat) (fr : List Fr) (hn : fr.length = n) (w : World) (hr : Rd w AF (fr.flatMap Fr.cells)) (hwf : ∀ x ∈ fr, x.wf) (hl : n ≤ 1000) :
    Calls Tryz.prog 19 #[.slice AF n cf] w fun e w' => ∃ (A : Option Addr) (c : Nat), e = .returned (.slice A n c) ∧ n ≤ c ∧ QLg RQC w' A (fr.map frQ) ∧ Ext w w' := by
  have HR := Lib.hid (hr)
  have HW := Lib.hid (hwf)
  have HN := Lib.hid (hn)
  clear hr hwf hn
  go_enter Tryz.func19, Tryz.ntmps19
  go_wp2
  go_loopg [3, 4, 5] n (fun m ot it _ wr => ∃ (i : Nat) (A : Option Addr) (c : Nat), n - i = m ∧ i ≤ n ∧ it = .int .i64 i ∧ ot = .slice A i c ∧ Hid (OQ RQC 51 wr w.heap.size (.slice A i c) ((fr.take i).map frQ)) ∧ Hid (Ext w wr))
  case atStart => exact ⟨0, none, 0, rfl, Nat.zero_le _, rfl, rfl, Lib.hid (by simpa using OQ.nil), Lib.hid (Ext.refl _)⟩
  case round =>
    obtain ⟨i, A, c, rfl, hin, rfl, rfl, OQ1, EX⟩ := hrel
    by_cases hi : i < n
    · obtain ⟨x, hx⟩ : ∃ x, fr[i]? = some x := ⟨_, List.getElem?_eq_getElem (by rw [HN.out]; exact hi)⟩
      have wf := HW.out x (List.mem_of_getElem? hx)
      obtain ⟨b, o, rfl, hb, hc0, hc1⟩ := fr_cells HR.out hx
      have k0 := (EX.out.cell (p := ⟨b, o + i * 2, none⟩) hb).trans hc0
      have k1 := (EX.out.cell (p := ⟨b, o + i * 2 + 1, none⟩) hb).trans hc1
      have TK := Lib.hid (show (fr.take (i + 1)).map frQ = (fr.take i).map frQ ++ [frQ x] by rw [List.take_add_one, hx]; simp)
      have hlt : ((fr.take i).map frQ).length = i := by rw [List.length_map, List.length_take, HN.out]; omega
      obtain ⟨css, q1, q2, q3, q4⟩ := OQ1.out
      rw [hlt] at q1 q3
      have OW := Lib.hid (And.intro q1 (And.intro q2 (And.intro q3 q4)))
      obtain ⟨xn, xd⟩ := x
      obtain ⟨⟨w1, w2⟩, w3, w4⟩ := wf
      simp only at w1 w2 w3 w4 hc0 hc1 k0 k1
      clear hc0 hc1 hx q1 q2 q3 q4 hb OQ1
      by_cases hd : xd = 0
      · subst hd
        go_wp2_with fail
        refine (rOf_ok xn 1 _ (by omega) (by omega) (by omega) (by omega) (by decide)).mono ?_
        rintro e w5 ⟨nb, A5, n5, c5, A6, n6, c6, rfl, h5, x5⟩
        have OW5 := Lib.hid (OW.out.2.2.1.kept (grown_ext x5) (own_none _))
        have E5 := Lib.hid (EX.out.tr x5)
        have R5 := Lib.hid (And.intro h5 x5)
        clear h5 x5
        go_wp2_with (at_builtin; go_must (refine wpList_push3 w5 37 51 rfl (.tmp 20) (.tmp 29) rfl Tryz.underlying37 Tryz.info51 w.heap.size (.slice A i c) i css.flatten rfl OW5.out _ _ _ rfl rfl rfl rfl ?c0 ?c1 ?_))
        case c0 => omega
        case c1 => exact E5.out.size
        intro v6 w6 own6 grow6 A7 c7 e7
        subst e7
        have hgr := grow6
        have x6 := (Ext.refl w5).alloc (.cells #[.bool nb, .slice A5 n5 c5, .slice A6 n6 c6] 51)
        have hoh := own_heap (OW5.out.alloc (.cells #[.bool nb, .slice A5 n5 c5, .slice A6 n6 c6] 51))
        have OQ6 := Lib.hid (show OQ RQC 51 w6 w.heap.size (.slice A7 (i + 1) c7) ((fr.take (i + 1)).map frQ) from by
          rw [TK.out]
          refine OQ.push (w' := w6) (by rw [hlt]; exact OW.out.1) OW.out.2.1 rfl (fun j q hq => ?_) ?_ (by rw [hlt]; exact own6)
          · obtain ⟨cs, z1, z2⟩ := OW.out.2.2.2 j q hq
            exact ⟨cs, z1, (RQC.keep _ _ _ _ (RQC.keep _ _ _ _ z2 R5.out.2) x6).grownK grow6 hoh (by decide)⟩
          · exact RQC.grownK ⟨nb, A5, n5, c5, A6, n6, c6, rfl, R5.out.1.keep x6⟩ grow6 hoh (by decide))
        have E6 := Lib.hid (show Ext w w6 from Below.grown (E5.out.tr x6) grow6 (by have := E5.out.size; simp; omega) (fun k hk => (OW5.out.lt k hk).1))
        clear own6 grow6 hgr x6 hoh
        go_wp2
        go_roundg (n - (i + 1))
        case measure => omega
        case rel => exact ⟨i + 1, A7, c7, rfl, by omega, by go_num, rfl, OQ6, E6⟩
      · have hdb : (xd == 0) = false := beq_eq_false_iff_ne.2 hd
        have hfq : frD ⟨xn, xd⟩ = xd := by unfold frD; rw [if_neg hd]
        have HFQ := Lib.hid (show frQ ⟨xn, xd⟩ = ofQ xn xd by unfold frQ; rw [hfq])
        rw [HFQ.out] at TK
        clear hfq
        go_wp2_with fail
        refine (rOf_ok xn xd _ (by omega) (by omega) (by omega) (by omega) hd).mono ?_
        rintro e w5 ⟨nb, A5, n5, c5, A6, n6, c6, rfl, h5, x5⟩
        have OW5 := Lib.hid (OW.out.2.2.1.kept (grown_ext x5) (own_none _))
        have E5 := Lib.hid (EX.out.tr x5)
        have R5 := Lib.hid (And.intro h5 x5)
        clear h5 x5
        go_wp2_with (at_builtin; go_must (refine wpList_push3 w5 37 51 rfl (.tmp 20) (.tmp 29) rfl Tryz.underlying37 Tryz.info51 w.heap.size (.slice A i c) i css.flatten rfl OW5.out _ _ _ rfl rfl rfl rfl ?d0 ?d1 ?_))
        case d0 => omega
        case d1 => exact E5.out.size
        intro v6 w6 own6 grow6 A7 c7 e7
        subst e7
        have hgr := grow6
        have x6 := (Ext.refl w5).alloc (.cells #[.bool nb, .slice A5 n5 c5, .slice A6 n6 c6] 51)
        have hoh := own_heap (OW5.out.alloc (.cells #[.bool nb, .slice A5 n5 c5, .slice A6 n6 c6] 51))
        have OQ6 := Lib.hid (show OQ RQC 51 w6 w.heap.size (.slice A7 (i + 1) c7) ((fr.take (i + 1)).map frQ) from by
          rw [TK.out]
          refine OQ.push (w' := w6) (by rw [hlt]; exact OW.out.1) OW.out.2.1 rfl (fun j q hq => ?_) ?_ (by rw [hlt]; exact own6)
          · obtain ⟨cs, z1, z2⟩ := OW.out.2.2.2 j q hq
            exact ⟨cs, z1, (RQC.keep _ _ _ _ (RQC.keep _ _ _ _ z2 R5.out.2) x6).grownK grow6 hoh (by decide)⟩
          · exact RQC.grownK ⟨nb, A5, n5, c5, A6, n6, c6, rfl, R5.out.1.keep x6⟩ grow6 hoh (by decide))
        have E6 := Lib.hid (show Ext w w6 from Below.grown (E5.out.tr x6) grow6 (by have := E5.out.size; simp; omega) (fun k hk => (OW5.out.lt k hk).1))
        clear own6 grow6 hgr x6 hoh
        go_wp2
        go_roundg (n - (i + 1))
        case measure => omega
        case rel => exact ⟨i + 1, A7, c7, rfl, by omega, by go_num, rfl, OQ6, E6⟩
    · obtain rfl : i = n := by omega
      have hq := OQ1.out
      rw [List.take_of_length_le (by rw [HN.out]; omega)] at hq
      obtain ⟨A9, c9, e9, hc9, hq9⟩ := hq.list
      have hml : (fr.map frQ).length = i := by rw [List.length_map, HN.out]
      rw [hml] at e9 hc9
      injection e9 with e1 e2 e3
      subst e1 e3
      have F := Lib.hid (And.intro hc9 hq9)
      clear hq9 hq
      go_wp2
      go_ret
      exact ⟨A, c, rfl, F.out.1, F.out.2, EX.out⟩
end Go.Proofs.YtekiomanidimnaaGreatDoor


namespace Go.Proofs.YtekiomanidimnaaGreatDoor
open Go.RowKit
theorem QLg.at_ {w : World} {P : Option Addr} {qs : List Rat} (h : QLg RQC w P qs) {i : Nat} {q : Rat} (hq : qs[i]? = some q) :
    ∃ (b o : Nat) (neg : Bool) (A : Option Addr) (n c : Nat) (A' : Option Addr) (n' c' : Nat), P = some ⟨b, o, none⟩ ∧ b < w.heap.size ∧ w.cell? ⟨b, o + i * 3, none⟩ = some (.bool neg) ∧ w.cell? ⟨b, o + i * 3 + 1, none⟩ = some (.slice A n c) ∧ w.cell? ⟨b, o + i * 3 + 2, none⟩ = some (.slice A' n' c') ∧ RQR w neg A n c A' n' c' q := by
  obtain ⟨css, h1, h2, h3, h4⟩ := h
  obtain ⟨cs, k1, neg, A, n, c, A', n', c', rfl, k2⟩ := h4 i q hq
  have hi := (List.getElem?_eq_some_iff.1 hq).1
  have hl := flatten_length css h2
  have key : ∀ k, k < 3 → css.flatten[i * 3 + k]? = ([.bool neg, .slice A n c, .slice A' n' c'] : List Value)[k]? := fun k hk => by
    rw [flatten_get css h2 i k (by omega) hk, k1]; rfl
  obtain ⟨b, o, rfl, hb, hc⟩ := h3.at_ (i := i * 3) (by omega)
  refine ⟨b, o, neg, A, n, c, A', n', c', rfl, hb, ?_, ?_, ?_, k2⟩
  · have := hc (i * 3 + 0) (by omega)
    rw [key 0 (by omega)] at this
    exact this
  · have := hc (i * 3 + 1) (by omega)
    rw [key 1 (by omega)] at this
    exact this
  · have := hc (i * 3 + 2) (by omega)
    rw [key 2 (by omega)] at this
    exact this
theorem QLg.keep {w w' : World} {P : Option Addr} {qs : List Rat} (h : QLg RQC w P qs) (hx : Ext w w') : QLg RQC w' P qs := by
  obtain ⟨css, h1, h2, h3, h4⟩ := h
  refine ⟨css, h1, h2, h3.keep hx, fun i q hq => ?_⟩
  obtain ⟨cs, k1, k2⟩ := h4 i q hq
  exact ⟨cs, k1, RQC.keep _ _ _ _ k2 hx⟩
/-- Few digits. -/
def SmQ (q : Rat) : Prop := q.num.natAbs < 1000000000 ∧ q.den < 1000000000
theorem RQR.lens {w : World} {neg : Bool} {A : Option Addr} {n c : Nat} {A' : Option Addr} {n' c' : Nat} {q : Rat} (h : RQR w neg A n c A' n' c' q) (hs : SmQ q) : n ≤ 2 ∧ n' ≤ 2 := by
  have h6 : G6 ^ 2 = 1000000000000 := by decide
  refine ⟨h.2.1.lenOf (by have := hs.1; omega), h.2.2.lenOf ?_⟩
  unfold dk
  split
  · decide
  · have := hs.2; omega
theorem NatR.grownK {w w' : World} {A : Option Addr} {n c N : Nat} {t' : TypeId} {row : Option Nat} (h : NatR w A n c N) (hg : w.grownBy w' row) (hr : ∀ k, row = some k → ∃ cs fr, w.heap[k]? = some (.cells cs t' fr)) (hne : 167 ≠ t') : NatR w' A n c N := by
  obtain ⟨ds, h1, h2, h3, h4, h5⟩ := h
  exact ⟨ds, h1, h2, h3, h4, h5.grownK hg hr hne⟩
theorem QR.grownK {w w' : World} {cs : List Value} {q : Rat} {t' : TypeId} {row : Option Nat} (h : QR w cs q) (hg : w.grownBy w' row) (hr : ∀ k, row = some k → ∃ cs fr, w.heap[k]? = some (.cells cs t' fr)) (hne : 167 ≠ t') : QR w' cs q := by
  obtain ⟨neg, A, n, c, A', n', c', e, h1⟩ := h
  exact ⟨neg, A, n, c, A', n', c', e, h1.1, h1.2.1.grownK hg hr hne, h1.2.2.grownK hg hr hne⟩
set_option maxRecDepth 100000 in
set_option maxHeartbeats 4000000 in
theorem numbers_ok (AF : Option Addr) (n cf : Nat) (qs : List Rat) (hn : qs.length = n) (w : World) (hr : QLg RQC w AF qs) (hwf : ∀ q ∈ qs, SmQ q) (hl : n ≤ 1000) :
    Calls Tryz.prog 21 #[.slice AF n cf] w fun e w' => ∃ (A : Option Addr) (c : Nat), e = .returned (.slice A n c) ∧ n ≤ c ∧ QL w' A qs ∧ Ext w w' := by
  have HR := Lib.hid (hr)
  have HW := Lib.hid (hwf)
  have HN := Lib.hid (hn)
  clear hr hwf hn
  go_enter Tryz.func21, Tryz.ntmps21
  go_wp2
  go_loopg [3, 4, 5, 6] n (fun m ot it _ _ wr => ∃ (i : Nat) (A : Option Addr) (c : Nat), n - i = m ∧ i ≤ n ∧ it = .int .i64 i ∧ ot = .slice A i c ∧ Hid (OQ QR 44 wr w.heap.size (.slice A i c) (qs.take i)) ∧ Hid (Ext w wr))
  case atStart => exact ⟨0, none, 0, rfl, Nat.zero_le _, rfl, rfl, Lib.hid (by rw [List.take_zero]; exact OQ.nil), Lib.hid (Ext.refl _)⟩
  case round =>
    obtain ⟨i, A, c, rfl, hin, rfl, rfl, OQ1, EX⟩ := hrel
    by_cases hi : i < n
    · obtain ⟨x, hx⟩ : ∃ x, qs[i]? = some x := ⟨_, List.getElem?_eq_getElem (by rw [HN.out]; exact hi)⟩
      have wf := HW.out x (List.mem_of_getElem? hx)
      obtain ⟨b, o, neg, A1, n1, c1, A2, n2, c2, hAF, hb, i0, i1, i2, hQ⟩ := (HR.out.keep EX.out).at_ hx
      subst hAF
      have lens := hQ.lens wf
      have TK := Lib.hid (show qs.take (i + 1) = qs.take i ++ [x] by rw [List.take_add_one, hx]; simp)
      have hlt : (qs.take i).length = i := by rw [List.length_take, HN.out]; omega
      obtain ⟨css, q1, q2, q3, q4⟩ := OQ1.out
      rw [hlt] at q1 q3
      have OW := Lib.hid (And.intro q1 (And.intro q2 (And.intro q3 q4)))
      have HQ := Lib.hid (And.intro hQ wf)
      clear hx q1 q2 q3 q4 hb OQ1 hQ wf
      go_wp2_with fail
      refine (rqText_ok neg A1 n1 c1 A2 n2 c2 x _ HQ.out.1 (by omega) (by omega)).mono ?_
      rintro e w4 ⟨rfl, x4⟩
      have E4 := Lib.hid (EX.out.tr x4)
      have X4 := Lib.hid x4
      clear x4 i0 i1 i2
      go_wp2_with fail
      refine (ratParse_ok x _ HQ.out.2.1 HQ.out.2.2).mono ?_
      rintro e w5 ⟨nb, A5, n5, c5, A6, n6, c6, rfl, h5, x5⟩
      have X5 := Lib.hid ((Ext.refl w5).alloc (.cells #[.bool nb, .slice A5 n5 c5, .slice A6 n6 c6] 44))
      have X45 := Lib.hid ((X4.out.tr x5).tr X5.out)
      have OW5 := Lib.hid (OW.out.2.2.1.kept (grown_ext X45.out) (own_none _))
      have E5 := Lib.hid (EX.out.tr X45.out)
      have R5 := Lib.hid (h5.keep X5.out)
      obtain ⟨⟨j0, j1, j2⟩, _⟩ := (Blk.new w5 44 #[.bool nb, .slice A5 n5 c5, .slice A6 n6 c6]).three
      clear h5 x5 X4 E4
      go_wp2_with (at_builtin; go_must (refine wpList_push3 (w5.alloc (.cells #[.bool nb, .slice A5 n5 c5, .slice A6 n6 c6] 44)) 47 44 rfl (.tmp 22) (.tmp 24) rfl Tryz.underlying47 Tryz.info44 w.heap.size (.slice A i c) i css.flatten rfl OW5.out _ _ _ rfl rfl rfl ?cx ?c0 ?c1 ?_))
      case cx => simp only [World.alloc, Array.size_push]; rfl
      case c0 => omega
      case c1 => exact E5.out.size
      intro v6 w6 own6 grow6 A7 c7 e7
      subst e7
      have x6 := (Ext.refl (w5.alloc (.cells #[.bool nb, .slice A5 n5 c5, .slice A6 n6 c6] 44))).alloc (.cells #[.bool nb, .slice A5 n5 c5, .slice A6 n6 c6] 44)
      have hoh := own_heap (OW5.out.alloc (.cells #[.bool nb, .slice A5 n5 c5, .slice A6 n6 c6] 44))
      have OQ6 := Lib.hid (show OQ QR 44 w6 w.heap.size (.slice A7 (i + 1) c7) (qs.take (i + 1)) from by
        rw [TK.out]
        refine OQ.push (w' := w6) (by rw [hlt]; exact OW.out.1) OW.out.2.1 rfl (fun j q hq => ?_) ?_ (by rw [hlt]; exact own6)
        · obtain ⟨cs, z1, z2⟩ := OW.out.2.2.2 j q hq
          exact ⟨cs, z1, ((z2.keep X45.out).keep x6).grownK grow6 hoh (by decide)⟩
        · exact QR.grownK ⟨nb, A5, n5, c5, A6, n6, c6, rfl, R5.out.keep x6⟩ grow6 hoh (by decide))
      have E6 := Lib.hid (show Ext w w6 from Below.grown (E5.out.tr x6) grow6 (by have := E5.out.size; simp at this ⊢; omega) (fun k hk => (OW5.out.lt k hk).1))
      clear own6 grow6 x6 hoh
      go_wp2
      go_roundg (n - (i + 1))
      case measure => omega
      case rel => exact ⟨i + 1, A7, c7, rfl, by omega, by go_num, rfl, OQ6, E6⟩
    · obtain rfl : i = n := by omega
      have hq := OQ1.out
      rw [List.take_of_length_le (by rw [HN.out]; omega)] at hq
      obtain ⟨A9, c9, e9, hc9, hq9⟩ := hq.list
      rw [HN.out] at e9 hc9
      injection e9 with e1 e2 e3
      subst e1 e3
      have F := Lib.hid (And.intro hc9 hq9)
      clear hq9 hq
      go_wp2
      go_ret
      exact ⟨A, c, rfl, F.out.1, F.out.2, EX.out⟩
end Go.Proofs.YtekiomanidimnaaGreatDoor


namespace Go.Proofs.YtekiomanidimnaaGreatDoor
open Go.RowKit
set_option maxRecDepth 100000 in
set_option maxHeartbeats 4000000 in
theorem lnumbers_ok (AF : Option Addr) (n cf : Nat) (qs : List Rat) (hn : qs.length = n) (w : World) (hr : QLg RQC w AF qs) (hwf : ∀ q ∈ qs, SmQ q) (hl : n ≤ 1000) :
    Calls Tryz.prog 36 #[.slice AF n cf] w fun e w' => ∃ (A : Option Addr) (c : Nat), e = .returned (.slice A n c) ∧ n ≤ c ∧ QL w' A qs ∧ Ext w w' := by
  have HR := Lib.hid (hr)
  have HW := Lib.hid (hwf)
  have HN := Lib.hid (hn)
  clear hr hwf hn
  go_enter Tryz.func36, Tryz.ntmps36
  go_wp2
  go_loopg [3, 4, 5, 6] n (fun m ot it _ _ wr => ∃ (i : Nat) (A : Option Addr) (c : Nat), n - i = m ∧ i ≤ n ∧ it = .int .i64 i ∧ ot = .slice A i c ∧ Hid (OQ QR 44 wr w.heap.size (.slice A i c) (qs.take i)) ∧ Hid (Ext w wr))
  case atStart => exact ⟨0, none, 0, rfl, Nat.zero_le _, rfl, rfl, Lib.hid (by rw [List.take_zero]; exact OQ.nil), Lib.hid (Ext.refl _)⟩
  case round =>
    obtain ⟨i, A, c, rfl, hin, rfl, rfl, OQ1, EX⟩ := hrel
    by_cases hi : i < n
    · obtain ⟨x, hx⟩ : ∃ x, qs[i]? = some x := ⟨_, List.getElem?_eq_getElem (by rw [HN.out]; exact hi)⟩
      have wf := HW.out x (List.mem_of_getElem? hx)
      obtain ⟨b, o, neg, A1, n1, c1, A2, n2, c2, hAF, hb, i0, i1, i2, hQ⟩ := (HR.out.keep EX.out).at_ hx
      subst hAF
      have lens := hQ.lens wf
      have TK := Lib.hid (show qs.take (i + 1) = qs.take i ++ [x] by rw [List.take_add_one, hx]; simp)
      have hlt : (qs.take i).length = i := by rw [List.length_take, HN.out]; omega
      obtain ⟨css, q1, q2, q3, q4⟩ := OQ1.out
      rw [hlt] at q1 q3
      have OW := Lib.hid (And.intro q1 (And.intro q2 (And.intro q3 q4)))
      have HQ := Lib.hid (And.intro hQ wf)
      clear hx q1 q2 q3 q4 hb OQ1 hQ wf
      go_wp2_with fail
      refine (rqText_ok neg A1 n1 c1 A2 n2 c2 x _ HQ.out.1 (by omega) (by omega)).mono ?_
      rintro e w4 ⟨rfl, x4⟩
      have E4 := Lib.hid (EX.out.tr x4)
      have X4 := Lib.hid x4
      clear x4 i0 i1 i2
      go_wp2_with fail
      refine (ratParse_ok x _ HQ.out.2.1 HQ.out.2.2).mono ?_
      rintro e w5 ⟨nb, A5, n5, c5, A6, n6, c6, rfl, h5, x5⟩
      have X5 := Lib.hid ((Ext.refl w5).alloc (.cells #[.bool nb, .slice A5 n5 c5, .slice A6 n6 c6] 44))
      have X45 := Lib.hid ((X4.out.tr x5).tr X5.out)
      have OW5 := Lib.hid (OW.out.2.2.1.kept (grown_ext X45.out) (own_none _))
      have E5 := Lib.hid (EX.out.tr X45.out)
      have R5 := Lib.hid (h5.keep X5.out)
      obtain ⟨⟨j0, j1, j2⟩, _⟩ := (Blk.new w5 44 #[.bool nb, .slice A5 n5 c5, .slice A6 n6 c6]).three
      clear h5 x5 X4 E4
      go_wp2_with (at_builtin; go_must (refine wpList_push3 (w5.alloc (.cells #[.bool nb, .slice A5 n5 c5, .slice A6 n6 c6] 44)) 47 44 rfl (.tmp 22) (.tmp 24) rfl Tryz.underlying47 Tryz.info44 w.heap.size (.slice A i c) i css.flatten rfl OW5.out _ _ _ rfl rfl rfl ?cx ?c0 ?c1 ?_))
      case cx => simp only [World.alloc, Array.size_push]; rfl
      case c0 => omega
      case c1 => exact E5.out.size
      intro v6 w6 own6 grow6 A7 c7 e7
      subst e7
      have x6 := (Ext.refl (w5.alloc (.cells #[.bool nb, .slice A5 n5 c5, .slice A6 n6 c6] 44))).alloc (.cells #[.bool nb, .slice A5 n5 c5, .slice A6 n6 c6] 44)
      have hoh := own_heap (OW5.out.alloc (.cells #[.bool nb, .slice A5 n5 c5, .slice A6 n6 c6] 44))
      have OQ6 := Lib.hid (show OQ QR 44 w6 w.heap.size (.slice A7 (i + 1) c7) (qs.take (i + 1)) from by
        rw [TK.out]
        refine OQ.push (w' := w6) (by rw [hlt]; exact OW.out.1) OW.out.2.1 rfl (fun j q hq => ?_) ?_ (by rw [hlt]; exact own6)
        · obtain ⟨cs, z1, z2⟩ := OW.out.2.2.2 j q hq
          exact ⟨cs, z1, ((z2.keep X45.out).keep x6).grownK grow6 hoh (by decide)⟩
        · exact QR.grownK ⟨nb, A5, n5, c5, A6, n6, c6, rfl, R5.out.keep x6⟩ grow6 hoh (by decide))
      have E6 := Lib.hid (show Ext w w6 from Below.grown (E5.out.tr x6) grow6 (by have := E5.out.size; simp at this ⊢; omega) (fun k hk => (OW5.out.lt k hk).1))
      clear own6 grow6 x6 hoh
      go_wp2
      go_roundg (n - (i + 1))
      case measure => omega
      case rel => exact ⟨i + 1, A7, c7, rfl, by omega, by go_num, rfl, OQ6, E6⟩
    · obtain rfl : i = n := by omega
      have hq := OQ1.out
      rw [List.take_of_length_le (by rw [HN.out]; omega)] at hq
      obtain ⟨A9, c9, e9, hc9, hq9⟩ := hq.list
      rw [HN.out] at e9 hc9
      injection e9 with e1 e2 e3
      subst e1 e3
      have F := Lib.hid (And.intro hc9 hq9)
      clear hq9 hq
      go_wp2
      go_ret
      exact ⟨A, c, rfl, F.out.1, F.out.2, EX.out⟩
end Go.Proofs.YtekiomanidimnaaGreatDoor


namespace Go.Proofs.YtekiomanidimnaaGreatDoor
open Go.RowKit
set_option maxRecDepth 100000 in
set_option maxHeartbeats 2000000 in
theorem lis_ok (na : Bool) (A1 : Option Addr) (n1 c1 : Nat) (A1' : Option Addr) (n1' c1' : Nat) (nb : Bool) (A2 : Option Addr) (n2 c2 : Nat) (A2' : Option Addr) (n2' c2' : Nat) (q : Rat) (w : World)
    (ha : RatR w na A1 n1 c1 A1' n1' c1' q) (hb : RQR w nb A2 n2 c2 A2' n2' c2' q) (l1 : n1 ≤ 1000000) (l1' : n1' ≤ 1000000) (l2 : n2 ≤ 1000000) (l2' : n2' ≤ 1000000) (hT : Tab w) :
    Calls Tryz.prog 43 #[.agg #[.bool na, .slice A1 n1 c1, .slice A1' n1' c1'], .agg #[.bool nb, .slice A2 n2 c2, .slice A2' n2' c2']] w fun e w' => e = .returned (.bool true) ∧ Ext w w' := by
  obtain ⟨b0, b1, e0⟩ := boxes2 w #[.bool na, .slice A1 n1 c1, .slice A1' n1' c1'] 44 #[.bool nb, .slice A2 n2 c2, .slice A2' n2' c2'] 51
  have e0' : Ext w ((w.alloc (.cells #[.bool na, .slice A1 n1 c1, .slice A1' n1' c1'] 44)).alloc (.cells #[.bool nb, .slice A2 n2 c2, .slice A2' n2' c2'] 51)).drew := e0.drewN 1
  have b0' : Blk ((w.alloc (.cells #[.bool na, .slice A1 n1 c1, .slice A1' n1' c1'] 44)).alloc (.cells #[.bool nb, .slice A2 n2 c2, .slice A2' n2' c2'] 51)).drew _ _ _ := b0
  have b1' : Blk ((w.alloc (.cells #[.bool na, .slice A1 n1 c1, .slice A1' n1' c1'] 44)).alloc (.cells #[.bool nb, .slice A2 n2 c2, .slice A2' n2' c2'] 51)).drew _ _ _ := b1
  have HA := Lib.hid (And.intro (ha.keep e0') (And.intro (hb.keep e0') (hT.keep e0')))
  have E0 := Lib.hid (e0')
  have BB := Lib.hid (And.intro b0' b1')
  obtain ⟨⟨i0, i1, i2⟩, _⟩ := b0'.three
  obtain ⟨⟨j0, j1, j2⟩, _⟩ := b1'.three
  clear ha hb hT b0 b1 e0 b0' b1' e0'
  obtain ⟨tx, htx⟩ : ∃ tx : ByteArray, tx = ⟨(ratText q).toArray⟩ := ⟨_, rfl⟩
  go_enter Tryz.func43, Tryz.ntmps43
  go_wp2
  go_region_held3 (fun w' => w'.cell? ⟨w.heap.size, 0, none⟩ = some (.bool na) ∧ w'.cell? ⟨w.heap.size, 1, none⟩ = some (.slice A1 n1 c1) ∧ w'.cell? ⟨w.heap.size, 2, none⟩ = some (.slice A1' n1' c1') ∧ w'.cell? ⟨w.heap.size + 1, 0, none⟩ = some (.bool nb) ∧ w'.cell? ⟨w.heap.size + 1, 1, none⟩ = some (.slice A2 n2 c2) ∧ w'.cell? ⟨w.heap.size + 1, 2, none⟩ = some (.slice A2' n2' c2'))
    (first | with_reducible exact ⟨i0, i1, i2, j0, j1, j2⟩ | fail)
    (first
      | (go_at_call 46
         refine (ratText_any na A1 n1 c1 A1' n1' c1' q _ HA.out.1 (by omega) (by omega) HA.out.2.2).mono ?_
         rintro e w3 ⟨rfl, x3⟩
         rw [← htx]
         have B3 := Lib.hid (And.intro (BB.out.1.keep x3) (BB.out.2.keep x3))
         have E3 := Lib.hid (E0.out.tr x3)
         have R3 := Lib.hid (HA.out.2.1.keep x3)
         obtain ⟨⟨i0, i1, i2⟩, _⟩ := B3.out.1.three
         obtain ⟨⟨j0, j1, j2⟩, _⟩ := B3.out.2.three
         clear x3)
      | (go_at_call 66
         refine (rqText_ok nb A2 n2 c2 A2' n2' c2' q _ R3.out l2 l2').mono ?_
         rintro e w4 ⟨rfl, x4⟩
         rw [← htx]
         have B4 := Lib.hid (And.intro (B3.out.1.keep x4) (B3.out.2.keep x4))
         have E4 := Lib.hid (E3.out.tr x4)
         obtain ⟨⟨i0, i1, i2⟩, _⟩ := B4.out.1.three
         obtain ⟨⟨j0, j1, j2⟩, _⟩ := B4.out.2.three
         clear x4)
      | fail)
  go_wp2
  go_ret
  exact ⟨rfl, E4.out⟩
end Go.Proofs.YtekiomanidimnaaGreatDoor


namespace Go.Proofs.YtekiomanidimnaaGreatDoor
open Go.RowKit
theorem wp_push3 {o : Oper} {a : Act} {K : Act → World → Prop} {Q : Exit → Act → World → Prop} (w W : World) (t e : TypeId) (s x : Operand)
    (ho : o.op = .call { callee := .builtin .append, args := #[s, x], argTypes := #[t, t] })
    (ht : Tryz.prog.underlying t = some (.slice e)) (hinfo : (Tryz.prog.info? e).map (fun i => (i.zero, i.size, i.bytes)) = some (some (.agg #[.bool false, .slice none 0 0, .slice none 0 0]), 3, 56))
    (B : Nat) (v : Value) (n : Nat) (xs : List Value) (hs : a.eval s = v) (hown : W.ownsRow B e 3 v n xs) (u0 u1 u2 : Value) (h0 : u0.oneCell' = true) (h1 : u1.oneCell' = true) (h2 : u2.oneCell' = true) (g : Nat) (hx : a.eval x = .slice (some ⟨g, 0, none⟩) 1 1)
    (hblk : Blk W g e #[u0, u1, u2]) (hl : n ≤ 1000000000) (hB : B ≤ W.heap.size)
    (h : ∀ v' w', w'.ownsRow B e 3 v' (n + 1) (xs ++ [u0, u1, u2]) → W.grownBy w' v.ownBlock → (∃ A c, v' = .slice A (n + 1) c) → K (a.put o.dst v') w') : o.wp Tryz.prog a W K Q := by
  obtain ⟨ti, hi, hz0, hz1, hz2⟩ := info_parts hinfo
  obtain ⟨v', w', hrun, k1, k2, k3, k4⟩ := run_append_own_at (P := Tryz.prog) W B t o.type e ti _ 3 56 ht hi hz0 hz1 hz2 rfl (by decide) v n xs hown ⟨g, 0, none⟩ 1 1 [u0, u1, u2] rfl (fun j u hj => by
      rw [addr_add, Nat.zero_add]
      exact (hblk.cell j).trans (by simpa using hj)) (fun u hu => by
      simp only [List.mem_cons, List.not_mem_nil, or_false] at hu
      rcases hu with rfl | rfl | rfl
      · exact h0
      · exact h1
      · exact h2) (by unfold maxLen; omega) (by omega) hB
  unfold Oper.wp execOp
  simp only [ho, resolve, invoke, builtin, Sem.run_bind, Sem.run_pure, Result.andThen_ok, List.map_toArray, List.map_cons, List.map_nil, hs, hx, hrun]
  refine h v' w' k1 k2 ?_
  rcases k1.2 with ⟨_, e2⟩ | ⟨g', cap, _, e1, _⟩
  · omega
  · exact ⟨_, cap, e1⟩
theorem frQ_sm {x : Fr} (h : x.wf) : SmQ (frQ x) := by
  obtain ⟨⟨h1, h2⟩, h3, h4⟩ := h
  have hd : frD x ≠ 0 := by unfold frD; split <;> omega
  have hdb : (frD x).natAbs ≤ 128 := by unfold frD; split <;> omega
  unfold SmQ frQ ofQ
  rw [mkQ_abs _ (by omega), mkQ_den _ (by omega)]
  have h5 := Nat.div_le_self x.num.natAbs (x.num.natAbs.gcd (frD x).natAbs)
  have h6 := Nat.div_le_self (frD x).natAbs (x.num.natAbs.gcd (frD x).natAbs)
  omega
theorem SmQ.sz {q : Rat} (h : SmQ q) : SzQ q 1 := by
  have : B32 ^ 1 = 4294967296 := by decide
  unfold SzQ
  rw [this]
  have := h.1
  have := h.2
  omega
theorem SmQ.mul {a b : Rat} (ha : SmQ a) (hb : SmQ b) : SzQ (a * b) 2 := by
  have hd : a.den * b.den ≠ 0 := Nat.mul_ne_zero a.den_nz b.den_nz
  unfold SzQ
  rw [mul_mkQ, mkQ_abs _ hd, mkQ_den _ hd, B32_sq]
  have h1 := Nat.div_le_self (a.num.natAbs * b.num.natAbs) ((a.num.natAbs * b.num.natAbs).gcd (a.den * b.den))
  have h2 := Nat.div_le_self (a.den * b.den) ((a.num.natAbs * b.num.natAbs).gcd (a.den * b.den))
  have h3 : a.num.natAbs * b.num.natAbs ≤ 1000000000 * 1000000000 := Nat.mul_le_mul (Nat.le_of_lt ha.1) (Nat.le_of_lt hb.1)
  have h4 : a.den * b.den ≤ 1000000000 * 1000000000 := Nat.mul_le_mul (Nat.le_of_lt ha.2) (Nat.le_of_lt hb.2)
  omega
theorem cmpQ_self (q : Rat) : cmpQ q q = 0 := by
  unfold cmpQ
  rw [if_neg Rat.lt_irrefl, if_pos rfl]
theorem ofQ_pos {y0 y1 : Nat} (h0 : y0 ≤ 255) (h1 : y1 ≤ 255) : 0 < ofQ (1 + (y0 : Int)) (1 + (y1 : Int)) ∧ SmQ (ofQ (1 + (y0 : Int)) (1 + (y1 : Int))) := by
  have ha : (1 + (y0 : Int)).natAbs = 1 + y0 := by omega
  have hb : (1 + (y1 : Int)).natAbs = 1 + y1 := by omega
  have hd : (1 + y1) ≠ 0 := by omega
  unfold ofQ
  rw [ha, hb, show decide (1 + (y0 : Int) < 0) = false from by simp; omega, show decide (1 + (y1 : Int) < 0) = false from by simp; omega]
  constructor
  · have h2 := mkQ_abs (false != false) (n := 1 + y0) hd
    have h3 := mkQ_neg (false != false) (n := 1 + y0) hd
    have hg : 0 < (1 + y0).gcd (1 + y1) := Nat.gcd_pos_of_pos_right _ (by omega)
    have h4 : 0 < (1 + y0) / (1 + y0).gcd (1 + y1) := Nat.div_pos (Nat.le_of_dvd (by omega) (Nat.gcd_dvd_left _ _)) hg
    have h5 : ¬ (mkQ (false != false) (1 + y0) (1 + y1)).num < 0 := by
      intro h; rw [decide_eq_true h] at h3; cases h3
    have h6 : 0 ≤ mkQ (false != false) (1 + y0) (1 + y1) := Rat.num_nonneg.1 (by omega)
    rcases Rat.le_iff_lt_or_eq.1 h6 with h7 | h7
    · exact h7
    · rw [← h7] at h2; simp at h2; omega
  · unfold SmQ
    rw [mkQ_abs _ hd, mkQ_den _ hd]
    have h5 := Nat.div_le_self (1 + y0) ((1 + y0).gcd (1 + y1))
    have h6 := Nat.div_le_self (1 + y1) ((1 + y0).gcd (1 + y1))
    omega
end Go.Proofs.YtekiomanidimnaaGreatDoor
