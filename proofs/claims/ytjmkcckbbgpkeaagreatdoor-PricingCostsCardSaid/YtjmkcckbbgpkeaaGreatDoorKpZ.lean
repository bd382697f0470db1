/- waypointref09.Cost, and Path of a path whose arcs fit together. -/
import Derived.Test.YtjmkcckbbgpkeaaGreatDoorKpY
import Derived.Test.YtjmkcckbbgpkeaaGreatDoorMC
set_option linter.unusedVariables false
set_option linter.unusedSimpArgs false

namespace Go.Proofs.YtjmkcckbbgpkeaaGreatDoor
open Go.RowKit
set_option maxHeartbeats 2000000 in
theorem rCost_ok (t : Tp) (AO : Option Addr) (co : Nat) (AL : Option Addr) (cl : Nat) (a : Nat) (w : World) (ht : TopR w t AO co AL cl) (hv : validP t = true) (ha : a < 2 * t.links.length) :
    Calls Tryz.prog 9 #[.agg #[.int .i64 t.nodes, .slice AO t.over.length co, .slice AL t.links.length cl], .int .i64 a] w fun e w' => e = .returned (.int .i64 (costP t a : Nat)) ∧ Ext w w' := by
  have HT := Lib.hid (ht)
  have HV := Lib.hid (hv)
  have h3 := ht.ll
  have h4 := ht.cl
  have ha2 : a / 2 < t.links.length := by omega
  obtain ⟨l, hl⟩ : ∃ l, t.links[a / 2]? = some l := ⟨_, List.getElem?_eq_getElem ha2⟩
  obtain ⟨b, o, rfl, hb, _, _, c2, c3, _⟩ := ht.link hl
  rw [costP_at hl (cost_nn hv hl)]
  clear ht hv hl
  obtain ⟨hba, e0⟩ := boxes1 w #[.int .i64 t.nodes, .slice AO t.over.length co, .slice (some ⟨b, o, none⟩) t.links.length cl] 25
  by_cases h : a % 2 = 0
  · rw [if_pos h]
    have h' : ((a : Int) % 2) = 0 := by omega
    clear h
    go_enter Tryz.func9, Tryz.ntmps9
    go_wp2_with fail
    refine (rArcs_ok t AO co (some ⟨b, o, none⟩) cl _ (HT.out.keep e0) HV.out).mono ?_
    rintro e w1 ⟨rfl, hx1⟩
    have hba := hba.keep hx1
    obtain ⟨⟨i0, i1, i2⟩, g0, g1, g2⟩ := hba.three
    have HX := Lib.hid (e0.tr hx1)
    have c2 := (HX.out.cell (p := ⟨b, o + a / 2 * 7 + 2, none⟩) hb).trans c2
    clear hx1 e0 c3
    go_wp2
    go_ret
    exact ⟨rfl, HX.out⟩
  · rw [if_neg h]
    have h' : ((a : Int) % 2) = 1 := by omega
    clear h
    go_enter Tryz.func9, Tryz.ntmps9
    go_wp2_with fail
    refine (rArcs_ok t AO co (some ⟨b, o, none⟩) cl _ (HT.out.keep e0) HV.out).mono ?_
    rintro e w1 ⟨rfl, hx1⟩
    have hba := hba.keep hx1
    obtain ⟨⟨i0, i1, i2⟩, g0, g1, g2⟩ := hba.three
    have HX := Lib.hid (e0.tr hx1)
    have c3 := (HX.out.cell (p := ⟨b, o + a / 2 * 7 + 3, none⟩) hb).trans c3
    clear hx1 e0 c2
    go_wp2
    go_ret
    exact ⟨rfl, HX.out⟩
set_option maxRecDepth 100000 in
set_option maxHeartbeats 4000000 in
theorem rPath_ok (t : Tp) (AO : Option Addr) (co : Nat) (AL : Option Addr) (cl : Nat) (s d : Nat) (AX : Option Addr) (cx : Nat) (x : List Nat) (w : World) (ht : TopR w t AO co AL cl) (hv : validP t = true) (hs : (s : Int) < t.nodes) (hx : Rd w AX (ints x)) (hxl : x.length ≤ 2000) (hp : PO t s true x d) :
    Calls Tryz.prog 12 #[.agg #[.int .i64 t.nodes, .slice AO t.over.length co, .slice AL t.links.length cl], .int .i64 (s : Int), .slice AX x.length cx] w fun e w' => e = .returned (.tuple #[.int .i64 (d : Int), .int .i64 (kcost t x : Nat), .int .i64 0]) ∧ Ext w w' := by
  have HT := Lib.hid (And.intro ht hv)
  have HX := Lib.hid (And.intro hx hp)
  have h3 := ht.ll
  have h4 := ht.cl
  obtain ⟨hba, e0⟩ := boxes1 w #[.int .i64 t.nodes, .slice AO t.over.length co, .slice AL t.links.length cl] 25
  have BB := Lib.hid hba
  clear ht hv hx hp
  go_enter Tryz.func12, Tryz.ntmps12
  go_wp2_with fail
  refine (rValid_any t AO co AL cl _ (HT.out.1.keep e0)).mono ?_
  rintro e w1 ⟨rfl, x1⟩
  rw [HT.out.2]
  have E1 := Lib.hid (And.intro (BB.out.keep x1) (e0.tr x1))
  obtain ⟨⟨i0, i1, i2⟩, _⟩ := E1.out.1.three
  clear x1 e0 hba BB
  generalize hL : x.length = L at *
  have HL := Lib.hid hL
  clear hL
  go_wp2
  go_loopg [1, 9, 10] L (fun j fr cs it wx => ∃ (i u : Nat), L - i = j ∧ i ≤ L ∧ it = .int .i64 (i : Int) ∧ fr = .int .i64 (u : Int) ∧ cs = .int .i64 (kcost t (x.take i) : Nat) ∧ Hid (PO t u (decide (i = 0)) (x.drop i) d ∧ Blk wx w.heap.size 25 #[.int .i64 t.nodes, .slice AO t.over.length co, .slice AL t.links.length cl] ∧ Ext w wx))
  case atStart => exact ⟨0, s, rfl, Nat.zero_le _, rfl, rfl, rfl, Lib.hid ⟨HX.out.2, E1.out.1, E1.out.2⟩⟩
  case round =>
    obtain ⟨i, u, rfl, hi, rfl, rfl, rfl, I⟩ := hrel
    clear E1 i0 i1 i2
    by_cases hiL : i < L
    · obtain ⟨a, ha⟩ : ∃ a, x[i]? = some a := ⟨_, List.getElem?_eq_getElem (by rw [HL.out]; exact hiL)⟩
      have hdrop : x.drop i = a :: x.drop (i + 1) := by
        obtain ⟨h1, h2⟩ := List.getElem?_eq_some_iff.1 ha
        rw [← h2]; exact List.drop_eq_getElem_cons h1
      have hpo := I.out.1
      rw [hdrop] at hpo
      obtain ⟨p1, p2, p3⟩ := hpo
      have haL : a < 2 * t.links.length := List.mem_range.1 (List.mem_filter.1 p1).1
      have htl : tailP t a = (u : Int) := by simpa using (List.mem_filter.1 p1).2
      obtain ⟨hh, hhead, hhN⟩ := headP_ok HT.out.2 haL
      have hkc : kcost t (x.take (i + 1)) = kcost t (x.take i) + costP t a := by rw [List.take_add_one, ha]; exact kcost_snoc t _ a
      have hc1 : costP t a ≤ 65535 := costP_le HT.out.2 a
      have hc2 : kcost t (x.take i) ≤ 65535 * 2000 := Nat.le_trans (kcost_le HT.out.2 _) (Nat.mul_le_mul_left _ (by rw [List.length_take]; omega))
      have HP := Lib.hid (show (i = 0 ∨ overP t (u : Int) = false) ∧ PO t hh false (x.drop (i + 1)) d from ⟨by
        rcases p2 with h | h
        · exact .inl (by simpa using h)
        · exact .inr h, by rw [hhead] at p3; exact p3⟩)
      have HKC := Lib.hid hkc
      have HTL := Lib.hid htl
      have HHD := Lib.hid hhead
      obtain ⟨ba, oa, ea, hba, hca⟩ := HX.out.1.at_ (i := i) (by rw [ints_length, HL.out]; exact hiL)
      have hca := hca i (by rw [ints_length, HL.out]; exact hiL)
      have KEEP := Lib.hid (show ∀ wx, Ext wr wx → (wx.cell? ⟨w.heap.size, 0, none⟩ = some (.int .i64 t.nodes) ∧ wx.cell? ⟨w.heap.size, 1, none⟩ = some (.slice AO t.over.length co) ∧ wx.cell? ⟨w.heap.size, 2, none⟩ = some (.slice AL t.links.length cl) ∧ wx.cell? ⟨ba, oa + i, none⟩ = some (.int .i64 (a : Int))) from fun wx hx => by
        obtain ⟨⟨i0, i1, i2⟩, _⟩ := (I.out.2.1.keep hx).three
        refine ⟨i0, i1, i2, ((I.out.2.2.tr hx).cell (p := ⟨ba, oa + i, none⟩) hba).trans (hca.trans ?_)⟩
        simp [ints, ha])
      subst ea
      have TOPK := Lib.hid (show ∀ wx, Ext wr wx → TopR wx t AO co AL cl from fun wx hx => (HT.out.1.keep I.out.2.2).keep hx)
      have iL : (i : Int) < (L : Int) := by omega
      have iz : (0 : Int) ≤ (i : Int) := by omega
      have aneg : ¬ ((a : Int) < 0) := by omega
      have anegb : decide ((a : Int) < 0) = false := decide_eq_false aneg
      have age : decide ((a : Int) ≥ 2 * (t.links.length : Int)) = false := decide_eq_false (by omega)
      have age2 : decide (2 * (t.links.length : Int) ≤ (a : Int)) = false := decide_eq_false (by omega)
      clear hca hdrop ha p1 p2 p3 htl hhead hkc
      have COST := Lib.hid (show ∀ wx, Ext wr wx → Calls Tryz.prog 9 #[.agg #[.int .i64 t.nodes, .slice AO t.over.length co, .slice AL t.links.length cl], .int .i64 (a : Int)] wx fun e w' => e = .returned (.int .i64 (costP t a : Nat)) ∧ Ext wx w' from fun wx hx => rCost_ok t AO co AL cl a wx (TOPK.out wx hx) HT.out.2 haL)
      have TAILC := Lib.hid (show ∀ wx, Ext wr wx → Calls Tryz.prog 36 #[.agg #[.int .i64 t.nodes, .slice AO t.over.length co, .slice AL t.links.length cl], .int .i64 (a : Int)] wx fun e w' => e = .returned (.int .i64 (u : Int)) ∧ Ext wx w' from fun wx hx => by
        have h1 := rTail_ok t AO co AL cl a wx (TOPK.out wx hx) HT.out.2 haL
        rw [HTL.out] at h1
        exact h1)
      generalize costP t a = ca at *
      generalize kcost t (x.take i) = kc at *
      have XD := Lib.hid (show Ext wr wr.drew from (Ext.refl wr).drewN 1)
      obtain ⟨i0, i1, i2, i3⟩ := KEEP.out _ XD.out
      go_upto_region 9 with fail
      go_cut [41] (fun sl wx => sl = .bool false ∧ Hid (Ext wr wx))
      case first =>
        go_region_held3 (fun w' => w'.cell? ⟨w.heap.size, 0, none⟩ = some (.int .i64 t.nodes) ∧ w'.cell? ⟨w.heap.size, 1, none⟩ = some (.slice AO t.over.length co) ∧ w'.cell? ⟨w.heap.size, 2, none⟩ = some (.slice AL t.links.length cl) ∧ w'.cell? ⟨ba, oa + i, none⟩ = some (.int .i64 (a : Int)))
          (first | with_reducible exact ⟨i0, i1, i2, i3⟩ | fail)
          (first
            | (go_at_call 7
               with_reducible refine (rArcs_ok t AO co AL cl _ (TOPK.out _ (by with_reducible exact XD.out)) HT.out.2).mono ?_
               rintro e w8 ⟨rfl, x8⟩
               have E8 := Lib.hid (XD.out.tr x8)
               obtain ⟨i0, i1, i2, i3⟩ := KEEP.out _ E8.out
               clear x8)
            | fail)
        all_goals
          go_wp2
          go_meet
          exact ⟨rfl, E8⟩
      case rest =>
        obtain ⟨rfl, E2⟩ := hcut
        have XD := Lib.hid (show Ext wr wc.drew from E2.out.tr ((Ext.refl wc).drewN 1))
        obtain ⟨i0, i1, i2, i3⟩ := KEEP.out _ XD.out
        go_upto_region 11 with fail
        go_cut [58] (fun sl wx => sl = .bool false ∧ Hid (Ext wr wx))
        case first =>
          clear i0 i1 i2 i3
          obtain ⟨k0, k1, k2, k3⟩ := KEEP.out _ E2.out
          have lw : w.heap.size < wc.heap.size := (I.out.2.1.keep E2.out).lt
          have la : ba < wc.heap.size := Nat.lt_trans hba lw
          have q0 := XW.cell _ _ _ lw k0
          have q1 := XW.cell _ _ _ lw k1
          have q2 := XW.cell _ _ _ lw k2
          have q3 := XW.cell _ _ _ la k3
          clear k0 k1 k2 k3 XD
          by_cases hz : i = 0
          · have z1 : ¬ ((i : Int) > 0) := by omega
            have z2 : decide ((i : Int) > 0) = false := decide_eq_false z1
            have z3 : decide (0 < i) = false := decide_eq_false (by omega)
            clear hz
            refine wp_region_ext (by kernel_rfl) (by kernel_rfl) ?_
            repeat (go_big_quiet_step ((go_at_call 36; exact Calls.ext_of (TAILC.out _ (E2.out.tr (XW.ext _))))))
            refine wpQuiet_nil ?_
            rintro _ ⟨x, rfl⟩
            go_wp2
            go_meet
            exact ⟨rfl, Lib.hid (E2.out.tr x.ext)⟩
          · have z1 : ((i : Int) > 0) := by omega
            have z2 : decide ((i : Int) > 0) = true := decide_eq_true z1
            have z4 : 0 < i := by omega
            have z5 : decide (0 < i) = true := decide_eq_true z4
            have OVF := Lib.hid (show ∀ wx, Ext wr wx → Calls Tryz.prog 37 #[.agg #[.int .i64 t.nodes, .slice AO t.over.length co, .slice AL t.links.length cl], .int .i64 (u : Int)] wx fun e w' => e = .returned (.bool false) ∧ Ext wx w' from fun wx hx => by
              have h1 := rOver_ok t AO co AL cl u wx (TOPK.out wx hx) HT.out.2
              rw [HP.out.1.resolve_left hz] at h1
              exact h1)
            clear hz
            refine wp_region_ext (by kernel_rfl) (by kernel_rfl) ?_
            repeat (go_big_quiet_step ((first | (go_at_call 36; exact Calls.ext_of (TAILC.out _ (E2.out.tr (XW.ext _)))) | (go_at_call 37; exact Calls.ext_of (OVF.out _ (E2.out.tr (XW.ext _)))))))
            refine wpQuiet_nil ?_
            rintro _ ⟨x, rfl⟩
            go_wp2
            go_meet
            exact ⟨rfl, Lib.hid (E2.out.tr x.ext)⟩
        case rest =>
          obtain ⟨rfl, E3⟩ := hcut
          clear XD i0 i1 i2 i3
          have XD := Lib.hid (show Ext wr wc.drew from E3.out.tr ((Ext.refl wc).drewN 1))
          obtain ⟨i0, i1, i2, i3⟩ := KEEP.out _ XD.out
          have hw1 : IntKind.i64.wrap ((kc : Int) + (ca : Int)) = (kc : Int) + (ca : Int) := IntWalk.i64_in _ (by omega)
          go_upto_region 13 with fail
          go_cut [9] (fun sl wx => sl = .int .i64 ((kc : Int) + (ca : Int)) ∧ Hid (Ext wr wx))
          case first =>
            go_region_held3 (fun w' => w'.cell? ⟨w.heap.size, 0, none⟩ = some (.int .i64 t.nodes) ∧ w'.cell? ⟨w.heap.size, 1, none⟩ = some (.slice AO t.over.length co) ∧ w'.cell? ⟨w.heap.size, 2, none⟩ = some (.slice AL t.links.length cl) ∧ w'.cell? ⟨ba, oa + i, none⟩ = some (.int .i64 (a : Int)))
              (first | with_reducible exact ⟨i0, i1, i2, i3⟩ | fail)
              (first
                | (go_at_call 9
                   with_reducible refine (COST.out _ (by with_reducible exact XD.out)).mono ?_
                   rintro e w8 ⟨rfl, x8⟩
                   have E8 := Lib.hid (XD.out.tr x8)
                   obtain ⟨i0, i1, i2, i3⟩ := KEEP.out _ E8.out
                   clear x8)
                | fail)
            all_goals
              go_wp2
              go_meet
              exact ⟨rfl, E8⟩
          case rest =>
            obtain ⟨rfl, E4⟩ := hcut
            clear XD i0 i1 i2 i3 hw1
            have XD := Lib.hid (show Ext wr wc.drew from E4.out.tr ((Ext.refl wc).drewN 1))
            obtain ⟨i0, i1, i2, i3⟩ := KEEP.out _ XD.out
            go_upto_region 14 with fail
            go_region_held3 (fun w' => w'.cell? ⟨w.heap.size, 0, none⟩ = some (.int .i64 t.nodes) ∧ w'.cell? ⟨w.heap.size, 1, none⟩ = some (.slice AO t.over.length co) ∧ w'.cell? ⟨w.heap.size, 2, none⟩ = some (.slice AL t.links.length cl) ∧ w'.cell? ⟨ba, oa + i, none⟩ = some (.int .i64 (a : Int)))
              (first | with_reducible exact ⟨i0, i1, i2, i3⟩ | fail)
              (first
                | (go_at_call 38
                   with_reducible refine (rHead_ok t AO co AL cl a _ (TOPK.out _ (by with_reducible exact XD.out)) HT.out.2 haL).mono ?_
                   rintro e w8 ⟨rfl, x8⟩
                   rw [HHD.out]
                   have E8 := Lib.hid (XD.out.tr x8)
                   obtain ⟨i0, i1, i2, i3⟩ := KEEP.out _ E8.out
                   clear x8)
                | fail)
            all_goals
              have I9 := Lib.hid (show PO t hh (decide (i + 1 = 0)) (x.drop (i + 1)) d ∧ Blk w8 w.heap.size 25 #[.int .i64 t.nodes, .slice AO t.over.length co, .slice AL t.links.length cl] ∧ Ext w w8 from
                ⟨by rw [show decide (i + 1 = 0) = false from decide_eq_false (by omega)]; exact HP.out.2, I.out.2.1.keep E8.out, I.out.2.2.tr E8.out⟩)
              clear I
              go_wp2
              go_roundg (L - (i + 1))
              case measure => omega
              case rel => exact ⟨i + 1, hh, rfl, by omega, by go_num, rfl, by rw [HKC.out]; go_num, I9⟩
    · obtain rfl : i = L := by omega
      have hlt : ¬ ((i : Int) < (i : Int)) := by omega
      have hlt0 : ¬ (i < i) := Nat.lt_irrefl i
      have h1 := I.out.1
      rw [List.drop_of_length_le (by rw [HL.out]; exact Nat.le_refl _)] at h1
      have h2 : x.take i = x := List.take_of_length_le (by rw [HL.out]; exact Nat.le_refl _)
      have HU := Lib.hid (show u = d from h1)
      rw [h2]
      clear h1 h2
      go_wp2
      go_ret3
      exact ⟨by rw [HU.out]; rfl, I.out.2.2⟩
end Go.Proofs.YtjmkcckbbgpkeaaGreatDoor
