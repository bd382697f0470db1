/- graph.Cost, slices.Grow and slices.Concat at []int. -/
import Derived.Test.YtjmkcckbbgpkeaaGreatDoorKpR
import Derived.Lib.AppendZerosOnto
set_option linter.unusedVariables false
set_option linter.unusedSimpArgs false

namespace Go.Proofs.YtjmkcckbbgpkeaaGreatDoor
open Go.RowKit
theorem costP_at {t : Tp} {a : Nat} {l : Lk} (hl : t.links[a / 2]? = some l) (h0 : 0 ≤ l.c0 ∧ 0 ≤ l.c1) : ((costP t a : Nat) : Int) = if a % 2 = 0 then l.c0 else l.c1 := by
  unfold costP
  rw [hl]
  simp only []
  split <;> omega
theorem cost_nn {t : Tp} (hv : validP t = true) {i : Nat} {l : Lk} (hl : t.links[i]? = some l) : 0 ≤ l.c0 ∧ 0 ≤ l.c1 := by
  unfold validP at hv
  rw [Bool.and_eq_true, List.all_eq_true] at hv
  have hok := hv.2 l (List.mem_of_getElem? hl)
  unfold Lk.ok inB at hok
  simp at hok
  omega
set_option maxHeartbeats 1000000 in
theorem gCost_any (t : Tp) (AO : Option Addr) (co : Nat) (AL : Option Addr) (cl : Nat) (a : Nat) (w : World) (ht : TopR w t AO co AL cl) (hv : validP t = true) (ha : a / 2 < t.links.length) :
    Calls Tryz.prog 62 #[.agg #[.int .i64 t.nodes, .slice AO t.over.length co, .slice AL t.links.length cl], .int .i64 a] w fun e w' => e = .returned (.int .i64 (costP t a : Nat)) ∧ Ext w w' := by
  have hl := ht.ll
  have hcl := ht.cl
  obtain ⟨l, hl'⟩ : ∃ l, t.links[a / 2]? = some l := ⟨_, List.getElem?_eq_getElem ha⟩
  obtain ⟨b, o, rfl, hb, c0, c1, c2, c3, _⟩ := ht.link hl'
  rw [costP_at hl' (cost_nn hv hl')]
  clear ht hl' hv
  by_cases h : a % 2 = 0
  · rw [if_pos h]
    have h' : ((a : Int) % 2) = 0 := by omega
    clear h
    go_enter Tryz.func62, Tryz.ntmps62
    go_wp2
    go_ret
    exact ⟨rfl, (Ext.refl w).alloc _⟩
  · rw [if_neg h]
    have h' : ((a : Int) % 2) = 1 := by omega
    clear h
    go_enter Tryz.func62, Tryz.ntmps62
    go_wp2
    go_ret
    exact ⟨rfl, (Ext.refl w).alloc _⟩
set_option maxRecDepth 100000 in
set_option maxHeartbeats 4000000 in
theorem growNil_ok (n : Nat) (w : World) (hn : n ≤ 2000000) :
    Calls Tryz.prog 87 #[.slice none 0 0, .int .i64 (n : Int)] w fun e w' => ∃ v, e = .returned v ∧ w'.ownsRow w.heap.size 3 1 v 0 [] ∧ Ext w w' := by
  have h1 : ¬ ((n : Int) < 0) := by omega
  by_cases hz : n = 0
  · subst hz
    go_enter Tryz.func87, Tryz.ntmps87
    go_wp2
    go_ret
    exact ⟨_, rfl, ⟨rfl, .inl ⟨rfl, rfl⟩⟩, Ext.refl _⟩
  · obtain ⟨ti, hi, hz0, hz1, hz2⟩ := info_parts Tryz.info3
    have h4 : (n : Int) > 0 := by omega
    have hrz : ∀ ty, (Builtin.append_ #[41, 3] ty #[.slice none 0 0, .int .i64 (n : Int)]).run Tryz.prog w = .ok (.slice (some ⟨w.heap.size, 0, none⟩) n (grownCap w n 0 3)) (w.drew.alloc (.cells (([] : List Value).toArray ++ Builtin.zeroCells (Value.int .i64 0).cells n ++ Builtin.zeroCells (Value.int .i64 0).cells (grownCap w n 0 3 - n)) 3)) := fun ty => by
      have h := Lib.run_append_grow_zeros (P := Tryz.prog) w 41 3 ty 3 ti (.int .i64 0) .i64 .i64 Tryz.underlying41 Tryz.underlying3 hi hz0 none 0 0 [] (run_firstCells_none _ _ 0 0 0) n (by omega) (by omega) (by omega) (by omega) (by rw [hz2]; omega) (by rw [hz2, Nat.zero_add]; exact growslice_fits (by omega) (by omega))
      rw [Nat.zero_add] at h
      exact h
    have hGn : n ≤ grownCap w n 0 3 := grownCap_ge w _ _ _
    have hGm := grownCap_le_maxLen w n 0 3 (by unfold maxLen; omega)
    have FIN := Lib.hid (show (w.drew.alloc (.cells (([] : List Value).toArray ++ Builtin.zeroCells (Value.int .i64 0).cells n ++ Builtin.zeroCells (Value.int .i64 0).cells (grownCap w n 0 3 - n)) 3)).ownsRow w.heap.size 3 1 (.slice (some ⟨w.heap.size, 0, none⟩) 0 (grownCap w n 0 3)) 0 [] ∧ Ext w (w.drew.alloc (.cells (([] : List Value).toArray ++ Builtin.zeroCells (Value.int .i64 0).cells n ++ Builtin.zeroCells (Value.int .i64 0).cells (grownCap w n 0 3 - n)) 3)) from
      ⟨World.ownsRow_made w.drew _ _ (Nat.le_refl _) hGm (by simp [Builtin.zeroCells, Value.cells]; omega), ((Ext.refl w).drewN 1).alloc _⟩)
    obtain ⟨G, hG⟩ : ∃ G, G = grownCap w n 0 3 := ⟨_, rfl⟩
    rw [← hG] at hrz hGn hGm FIN
    obtain ⟨W', hW'⟩ : ∃ W', W' = w.drew.alloc (.cells (([] : List Value).toArray ++ Builtin.zeroCells (Value.int .i64 0).cells n ++ Builtin.zeroCells (Value.int .i64 0).cells (G - n)) 3) := ⟨_, rfl⟩
    rw [← hW'] at hrz FIN
    clear hW'
    have hG63 : G ≤ 9223372036854775807 := by unfold maxLen at hGm; omega
    clear hG hi hz0 hz1 hz2 hGm
    go_enter Tryz.func87, Tryz.ntmps87
    go_wp2_with (at_builtin; refine Lib.wpList_append_run _ rfl _ _ _ _ rfl _ _ rfl rfl _ _ (hrz _) ?_)
    all_goals
      go_ret
      exact ⟨_, rfl, FIN.out.1, FIN.out.2⟩
def rowV (r : Option Addr × List Nat × Nat) : Value := .slice r.1 r.2.1.length r.2.2
def catS (rs : List (Option Addr × List Nat × Nat)) : Nat := (rs.map fun r => r.2.1.length).sum
def catL (rs : List (Option Addr × List Nat × Nat)) : List Nat := (rs.map fun r => r.2.1).flatten
theorem catS_step {rs : List (Option Addr × List Nat × Nat)} {k : Nat} {r : Option Addr × List Nat × Nat} (h : rs[k]? = some r) : catS (rs.take (k + 1)) = catS (rs.take k) + r.2.1.length := by
  unfold catS; rw [List.take_add_one, h]; simp
theorem catL_step {rs : List (Option Addr × List Nat × Nat)} {k : Nat} {r : Option Addr × List Nat × Nat} (h : rs[k]? = some r) : catL (rs.take (k + 1)) = catL (rs.take k) ++ r.2.1 := by
  unfold catL; rw [List.take_add_one, h]; simp
theorem catL_len (rs : List (Option Addr × List Nat × Nat)) : (catL rs).length = catS rs := by
  unfold catL catS; rw [List.length_flatten, List.map_map]; rfl
theorem catS_le (rs : List (Option Addr × List Nat × Nat)) (k : Nat) : catS (rs.take k) ≤ catS rs := by
  have h : catS rs = catS (rs.take k) + catS (rs.drop k) := by
    unfold catS
    conv => lhs; rw [← List.take_append_drop k rs]
    rw [List.map_append, List.sum_append]
  omega
theorem ints_app (a b : List Nat) : ints (a ++ b) = ints a ++ ints b := by unfold ints; rw [List.map_append]
set_option maxRecDepth 100000 in
set_option maxHeartbeats 4000000 in
theorem concat_ok (rs : List (Option Addr × List Nat × Nat)) (m b : Nat) (w : World) (hm : rs.length = m) (hb : Blk w b 41 (rs.map rowV).toArray) (hr : ∀ r ∈ rs, RdT w 3 r.1 (ints r.2.1)) (hn : m ≤ 1000) (hs : catS rs ≤ 1000000) :
    Calls Tryz.prog 61 #[.slice (some ⟨b, 0, none⟩) m m] w fun e w' => ∃ v, e = .returned v ∧ w'.ownsRow w.heap.size 3 1 v (catL rs).length (ints (catL rs)) ∧ Ext w w' := by
  obtain ⟨ti, hi, hz0, hz1, hz2⟩ := info_parts Tryz.info3
  have HB := Lib.hid hb
  have HR := Lib.hid hr
  have HM := Lib.hid hm
  have HS := Lib.hid hs
  have hbw := hb.lt
  clear hb hr hm hs
  go_enter Tryz.func61, Tryz.ntmps61
  go_wp2
  go_loopg [3, 5, 11] m (fun j st _ it wr => ∃ (k : Nat), m - k = j ∧ k ≤ m ∧ it = .int .i64 (k : Int) ∧ st = .int .i64 (catS (rs.take k) : Nat) ∧ w = wr)
  case atStart => exact ⟨0, rfl, Nat.zero_le _, rfl, rfl, rfl⟩
  case round =>
    obtain ⟨k, rfl, hk, rfl, rfl, rfl⟩ := hrel
    by_cases hkm : k < m
    · obtain ⟨r, hr⟩ : ∃ r, rs[k]? = some r := ⟨_, List.getElem?_eq_getElem (by rw [HM.out]; exact hkm)⟩
      have hst := catS_step hr
      have h1 := catS_le rs (k + 1)
      have h2 := HS.out
      have iN : (k : Int) < (m : Int) := by omega
      have c0 : w.cell? ⟨b, k, none⟩ = some (.slice r.1 r.2.1.length r.2.2) := by
        rw [HB.out.cell]
        simp [hr, rowV]
      rw [hst] at h1
      have HST := Lib.hid hst
      generalize catS (rs.take k) = S at *
      clear hst hr
      go_wp2
      go_roundg (m - (k + 1))
      case measure => omega
      case rel => exact ⟨k + 1, rfl, by omega, by go_num, by rw [HST.out]; go_num, rfl⟩
    · obtain rfl : k = m := by omega
      have hlt : ¬ (k : Int) < (k : Int) := by omega
      have htk : rs.take k = rs := List.take_of_length_le (by rw [HM.out]; exact Nat.le_refl _)
      rw [htk]
      obtain ⟨S, hS⟩ : ∃ S, S = catS rs := ⟨_, rfl⟩
      have HS2 := Lib.hid hS
      have HTK := Lib.hid htk
      rw [← hS]
      clear hS htk
      go_wp2_with fail
      refine (growNil_ok S _ (by rw [HS2.out]; have := HS.out; omega)).mono ?_
      rintro e w1 ⟨v1, rfl, o1, x1⟩
      have O1 := Lib.hid o1
      have X1 := Lib.hid x1
      clear o1 x1
      go_wp2
      go_loopg [6, 8, 27] k (fun j ot _ it wx => ∃ (i : Nat) (v : Value), k - i = j ∧ i ≤ k ∧ it = .int .i64 (i : Int) ∧ v = ot ∧ Hid (wx.ownsRow w.heap.size 3 1 v (catL (rs.take i)).length (ints (catL (rs.take i)))) ∧ Hid (Ext w wx))
      case atStart => exact ⟨0, v1, rfl, Nat.zero_le _, rfl, rfl, O1, X1⟩
      case round =>
        obtain ⟨i, v, rfl, hik, rfl, rfl, OI, XI⟩ := hrel
        by_cases hi2 : i < k
        · obtain ⟨r, hr⟩ : ∃ r, rs[i]? = some r := ⟨_, List.getElem?_eq_getElem (by rw [HM.out]; exact hi2)⟩
          have HST := Lib.hid (catL_step hr)
          have hlen : (catL (rs.take i)).length + r.2.1.length ≤ 1000000 := by
            have h1 := catS_le rs (i + 1)
            have h2 := HS.out
            have h3 := catS_step hr
            rw [catL_len]
            omega
          have iN : (i : Int) < (k : Int) := by omega
          have c0 : wr.cell? ⟨b, i, none⟩ = some (.slice r.1 r.2.1.length r.2.2) := by
            rw [XI.out.cell (p := ⟨b, i, none⟩) hbw, HB.out.cell]
            simp [hr, rowV]
          have hrd := (HR.out r (List.mem_of_getElem? hr)).keep XI.out
          obtain ⟨A, x, c⟩ := r
          simp only at hlen c0 hrd HST
          have HRD := Lib.hid hrd
          clear hr hrd
          go_wp2_with (at_builtin; go_must (refine wpList_append_rd _ rfl (.tmp 31) (.tmp 32) 41 rfl w.heap.size 3 ti (.int .i64 0) 8 Tryz.underlying41 hi hz0 hz1 hz2 rfl v (catL (rs.take i)).length (ints (catL (rs.take i))) rfl ?c0 A x.length c (ints x) rfl ?c1 ?c2 ?c3 (ints_one _) ?c4 ?c5 ?c6 ?_))
          case c0 => exact OI.out
          case c1 => exact (ints_length _).symm
          case c2 => exact HRD.out.rd
          case c3 =>
            intro hA
            by_cases hx : x.length = 0
            · exact .inr hx
            · exfalso
              obtain ⟨b9, o9, cs9, fr9, e9, _⟩ := HRD.out (fun e => hx (by have := congrArg List.length e; simpa [ints] using this))
              rw [hA] at e9
              cases e9
          case c4 => unfold maxLen; omega
          case c5 => omega
          case c6 => exact XI.out.size
          intro v2 w2 own2 grow2 _
          have X2 := Lib.hid (show Ext w w2 from Below.grown XI.out grow2 XI.out.size (fun q hq => (OI.out.lt q hq).1))
          have O2 := Lib.hid (show w2.ownsRow w.heap.size 3 1 v2 (catL (rs.take (i + 1))).length (ints (catL (rs.take (i + 1)))) from by
            rw [HST.out, ints_app, List.length_append]
            exact own2)
          clear own2 grow2
          go_wp2
          go_roundg (k - (i + 1))
          case measure => omega
          case rel => exact ⟨i + 1, v2, rfl, by omega, by go_num, rfl, O2, X2⟩
        · obtain rfl : i = k := by omega
          have hlt : ¬ (i : Int) < (i : Int) := by omega
          have O3 := OI.out
          rw [HTK.out] at O3
          have FIN := Lib.hid O3
          clear O3
          go_wp2
          go_ret
          exact ⟨v, rfl, FIN.out, XI.out⟩
end Go.Proofs.YtjmkcckbbgpkeaaGreatDoor
