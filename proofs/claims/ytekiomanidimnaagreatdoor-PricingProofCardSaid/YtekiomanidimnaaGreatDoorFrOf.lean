/- waypointref41.Of: the numbers of fractions. -/
import Derived.Test.YtekiomanidimnaaGreatDoorQl
import Derived.Test.YtekiomanidimnaaGreatDoorML
set_option linter.unusedVariables false
set_option linter.unusedSimpArgs false

namespace Go.Proofs.YtekiomanidimnaaGreatDoor
open Go.RowKit
def frD (x : Fr) : Int := if x.den = 0 then 1 else x.den
def frQ (x : Fr) : Rat := ofQ x.num (frD x)
/-- A number of the reference in three cells. -/
def RQC (w : World) (cs : List Value) (q : Rat) : Prop := ∃ (neg : Bool) (A : Option Addr) (n c : Nat) (A' : Option Addr) (n' c' : Nat), cs = [.bool neg, .slice A n c, .slice A' n' c'] ∧ RQR w neg A n c A' n' c' q
theorem RQC.keep (w w' : World) (cs : List Value) (q : Rat) (h : RQC w cs q) (hx : Ext w w') : RQC w' cs q := by
  obtain ⟨neg, A, n, c, A', n', c', e, h1⟩ := h
  exact ⟨neg, A, n, c, A', n', c', e, h1.keep hx⟩
theorem GrpR.grownK {w w' : World} {A : Option Addr} {n c N : Nat} {t' : TypeId} {row : Option Nat} (h : GrpR w A n c N) (hg : w.grownBy w' row) (hr : ∀ k, row = some k → ∃ cs fr, w.heap[k]? = some (.cells cs t' fr)) (hne : 3 ≠ t') : GrpR w' A n c N := by
  obtain ⟨ds, h1, h2, h3, h4, h5⟩ := h
  exact ⟨ds, h1, h2, h3, h4, h5.grownK hg hr hne⟩
theorem RQC.grownK {w w' : World} {cs : List Value} {q : Rat} {t' : TypeId} {row : Option Nat} (h : RQC w cs q) (hg : w.grownBy w' row) (hr : ∀ k, row = some k → ∃ cs fr, w.heap[k]? = some (.cells cs t' fr)) (hne : 3 ≠ t') : RQC w' cs q := by
  obtain ⟨neg, A, n, c, A', n', c', e, h1⟩ := h
  exact ⟨neg, A, n, c, A', n', c', e, h1.1, h1.2.1.grownK hg hr hne, h1.2.2.grownK hg hr hne⟩
theorem own_heap {w : World} {B n s : Nat} {e : TypeId} {v : Value} {xs : List Value} (h : w.ownsRow B e s v n xs) : ∀ k, v.ownBlock = some k → ∃ cs fr, w.heap[k]? = some (.cells cs e fr) := by
  intro k hk
  rcases h.2 with ⟨rfl, _⟩ | ⟨g, cap, cur, rfl, _, e3, _⟩
  · cases hk
  · simp [Value.ownBlock] at hk; subst hk; exact ⟨cur, _, e3⟩
theorem fr_cells {w : World} {AF : Option Addr} {fr : List Fr} (h : Rd w AF (fr.flatMap Fr.cells)) {i : Nat} {x : Fr} (hx : fr[i]? = some x) : ∃ b o : Nat, AF = some ⟨b, o, none⟩ ∧ b < w.heap.size ∧ w.cell? ⟨b, o + i * 2, none⟩ = some (.int .i8 x.num) ∧ w.cell? ⟨b, o + i * 2 + 1, none⟩ = some (.int .i8 x.den) := by
  have hi := (List.getElem?_eq_some_iff.1 hx)
  have hl := flatMap_len Fr.cells 2 (fun _ => rfl) fr
  obtain ⟨b, o, e, hb, hc⟩ := h.at_ (i := i * 2) (by rw [hl]; have := hi.1; omega)
  refine ⟨b, o, e, hb, ?_, ?_⟩
  · rw [hc (i * 2) (by rw [hl]; have := hi.1; omega)]
    have := flatMap_k Fr.cells 2 (fun _ => rfl) fr i 0 hi.1 (by omega)
    rw [Nat.add_zero] at this
    rw [this, hi.2]; rfl
  · rw [Nat.add_assoc, hc (i * 2 + 1) (by rw [hl]; have := hi.1; omega), flatMap_k Fr.cells 2 (fun _ => rfl) fr i 1 hi.1 (by omega), hi.2]; rfl
set_option maxRecDepth 100000 in
set_option maxHeartbeats 4000000 in
theorem frOf_ok (AF : Option Addr) (n cf : Nat) (fr : List Fr) (hn : fr.length = n) (w : World) (hr : Rd w AF (fr.flatMap Fr.cells)) (hwf : ∀ x ∈ fr, x.wf) (hl : n ≤ 1000) :
    Calls Tryz.prog 19 #[.slice AF n cf] w fun e w' => ∃ (A : Option Addr) (c : Nat), e = .returned (.slice A n c) ∧ n ≤ c ∧ QLg RQC w' A (fr.map frQ) ∧ Ext w w' := by
  have HR := Lib.hid (hr)
  have HW := Lib.hid (hwf)
  have HN := Lib.hid (hn)
  clear hr hwf hn
  go_enter Tryz.func19, Tryz.ntmps19
  go_wp2
  go_loopg [3, 4, 5] n (fun m ot it _ wr => ∃ (i : Nat) (A : Option Addr) (c : Nat), n - i = m ∧ i ≤ n ∧ it = .int .i64 i ∧ ot = .slice A i c ∧ Hid (OQ RQC 51 wr w.heap.size (.slice A i c) ((fr.take i).map frQ)) ∧ Hid (Ext w wr))
  case atStart => exact ⟨0, none, 0, rfl, Nat.zero_le _, rfl, rfl, Lib.hid (by simpa using OQ.nil), Lib.hid (Ext.refl _)⟩
  case round =>
    obtain ⟨i, A, c, rfl, hin, rfl, rfl, OQ1, EX⟩ := hrel
    by_cases hi : i < n
    · obtain ⟨x, hx⟩ : ∃ x, fr[i]? = some x := ⟨_, List.getElem?_eq_getElem (by rw [HN.out]; exact hi)⟩
      have wf := HW.out x (List.mem_of_getElem? hx)
      obtain ⟨b, o, rfl, hb, hc0, hc1⟩ := fr_cells HR.out hx
      have k0 := (EX.out.cell (p := ⟨b, o + i * 2, none⟩) hb).trans hc0
      have k1 := (EX.out.cell (p := ⟨b, o + i * 2 + 1, none⟩) hb).trans hc1
      have TK := Lib.hid (show (fr.take (i + 1)).map frQ = (fr.take i).map frQ ++ [frQ x] by rw [List.take_add_one, hx]; simp)
      have hlt : ((fr.take i).map frQ).length = i := by rw [List.length_map, List.length_take, HN.out]; omega
      obtain ⟨css, q1, q2, q3, q4⟩ := OQ1.out
      rw [hlt] at q1 q3
      have OW := Lib.hid (And.intro q1 (And.intro q2 (And.intro q3 q4)))
      obtain ⟨xn, xd⟩ := x
      obtain ⟨⟨w1, w2⟩, w3, w4⟩ := wf
      simp only at w1 w2 w3 w4 hc0 hc1 k0 k1
      clear hc0 hc1 hx q1 q2 q3 q4 hb OQ1
      by_cases hd : xd = 0
      · subst hd
        go_wp2_with fail
        refine (rOf_ok xn 1 _ (by omega) (by omega) (by omega) (by omega) (by decide)).mono ?_
        rintro e w5 ⟨nb, A5, n5, c5, A6, n6, c6, rfl, h5, x5⟩
        have OW5 := Lib.hid (OW.out.2.2.1.kept (grown_ext x5) (own_none _))
        have E5 := Lib.hid (EX.out.tr x5)
        have R5 := Lib.hid (And.intro h5 x5)
        clear h5 x5
        go_wp2_with (at_builtin; go_must (refine wpList_push3 w5 37 51 rfl (.tmp 20) (.tmp 29) rfl Tryz.underlying37 Tryz.info51 w.heap.size (.slice A i c) i css.flatten rfl OW5.out _ _ _ rfl rfl rfl rfl ?c0 ?c1 ?_))
        case c0 => omega
        case c1 => exact E5.out.size
        intro v6 w6 own6 grow6 A7 c7 e7
        subst e7
        have hgr := grow6
        have x6 := (Ext.refl w5).alloc (.cells #[.bool nb, .slice A5 n5 c5, .slice A6 n6 c6] 51)
        have hoh := own_heap (OW5.out.alloc (.cells #[.bool nb, .slice A5 n5 c5, .slice A6 n6 c6] 51))
        have OQ6 := Lib.hid (show OQ RQC 51 w6 w.heap.size (.slice A7 (i + 1) c7) ((fr.take (i + 1)).map frQ) from by
          rw [TK.out]
          refine OQ.push (w' := w6) (by rw [hlt]; exact OW.out.1) OW.out.2.1 rfl (fun j q hq => ?_) ?_ (by rw [hlt]; exact own6)
          · obtain ⟨cs, z1, z2⟩ := OW.out.2.2.2 j q hq
            exact ⟨cs, z1, (RQC.keep _ _ _ _ (RQC.keep _ _ _ _ z2 R5.out.2) x6).grownK grow6 hoh (by decide)⟩
          · exact RQC.grownK ⟨nb, A5, n5, c5, A6, n6, c6, rfl, R5.out.1.keep x6⟩ grow6 hoh (by decide))
        have E6 := Lib.hid (show Ext w w6 from Below.grown (E5.out.tr x6) grow6 (by have := E5.out.size; simp; omega) (fun k hk => (OW5.out.lt k hk).1))
        clear own6 grow6 hgr x6 hoh
        go_wp2
        go_roundg (n - (i + 1))
        case measure => omega
        case rel => exact ⟨i + 1, A7, c7, rfl, by omega, by go_num, rfl, OQ6, E6⟩
      · have hdb : (xd == 0) = false := beq_eq_false_iff_ne.2 hd
        have hfq : frD ⟨xn, xd⟩ = xd := by unfold frD; rw [if_neg hd]
        have HFQ := Lib.hid (show frQ ⟨xn, xd⟩ = ofQ xn xd by unfold frQ; rw [hfq])
        rw [HFQ.out] at TK
        clear hfq
        go_wp2_with fail
        refine (rOf_ok xn xd _ (by omega) (by omega) (by omega) (by omega) hd).mono ?_
        rintro e w5 ⟨nb, A5, n5, c5, A6, n6, c6, rfl, h5, x5⟩
        have OW5 := Lib.hid (OW.out.2.2.1.kept (grown_ext x5) (own_none _))
        have E5 := Lib.hid (EX.out.tr x5)
        have R5 := Lib.hid (And.intro h5 x5)
        clear h5 x5
        go_wp2_with (at_builtin; go_must (refine wpList_push3 w5 37 51 rfl (.tmp 20) (.tmp 29) rfl Tryz.underlying37 Tryz.info51 w.heap.size (.slice A i c) i css.flatten rfl OW5.out _ _ _ rfl rfl rfl rfl ?d0 ?d1 ?_))
        case d0 => omega
        case d1 => exact E5.out.size
        intro v6 w6 own6 grow6 A7 c7 e7
        subst e7
        have hgr := grow6
        have x6 := (Ext.refl w5).alloc (.cells #[.bool nb, .slice A5 n5 c5, .slice A6 n6 c6] 51)
        have hoh := own_heap (OW5.out.alloc (.cells #[.bool nb, .slice A5 n5 c5, .slice A6 n6 c6] 51))
        have OQ6 := Lib.hid (show OQ RQC 51 w6 w.heap.size (.slice A7 (i + 1) c7) ((fr.take (i + 1)).map frQ) from by
          rw [TK.out]
          refine OQ.push (w' := w6) (by rw [hlt]; exact OW.out.1) OW.out.2.1 rfl (fun j q hq => ?_) ?_ (by rw [hlt]; exact own6)
          · obtain ⟨cs, z1, z2⟩ := OW.out.2.2.2 j q hq
            exact ⟨cs, z1, (RQC.keep _ _ _ _ (RQC.keep _ _ _ _ z2 R5.out.2) x6).grownK grow6 hoh (by decide)⟩
          · exact RQC.grownK ⟨nb, A5, n5, c5, A6, n6, c6, rfl, R5.out.1.keep x6⟩ grow6 hoh (by decide))
        have E6 := Lib.hid (show Ext w w6 from Below.grown (E5.out.tr x6) grow6 (by have := E5.out.size; simp; omega) (fun k hk => (OW5.out.lt k hk).1))
        clear own6 grow6 hgr x6 hoh
        go_wp2
        go_roundg (n - (i + 1))
        case measure => omega
        case rel => exact ⟨i + 1, A7, c7, rfl, by omega, by go_num, rfl, OQ6, E6⟩
    · obtain rfl : i = n := by omega
      have hq := OQ1.out
      rw [List.take_of_length_le (by rw [HN.out]; omega)] at hq
      obtain ⟨A9, c9, e9, hc9, hq9⟩ := hq.list
      have hml : (fr.map frQ).length = i := by rw [List.length_map, HN.out]
      rw [hml] at e9 hc9
      injection e9 with e1 e2 e3
      subst e1 e3
      have F := Lib.hid (And.intro hc9 hq9)
      clear hq9 hq
      go_wp2
      go_ret
      exact ⟨A, c, rfl, F.out.1, F.out.2, EX.out⟩
end Go.Proofs.YtekiomanidimnaaGreatDoor
