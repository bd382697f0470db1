/- pricing.Simple's first closure: is the end still in reach? -/
/- The pruned search of pricing.Simple, as a plain function: it finds what the reference finds, up to the limit. -/
/- The memory of pricing.Simple's search: what the closures share, and what changes. -/
import Derived.Test.YtekiomanidimnaaGreatDoorMD
import Derived.Test.YtekiomanidimnaaGreatDoorShelf
import Derived.Deep.LoopGhost
set_option linter.unusedVariables false
set_option linter.unusedSimpArgs false

namespace Go.Proofs.YtekiomanidimnaaGreatDoor
open Go.RowKit
theorem cloneB_ok (gs : Nat) (l : List Bool) (w : World) (hb : Blk w gs 4 (bools l).toArray) (hl : l.length ≤ 1000) :
    Calls Tryz.prog 53 #[.slice (some ⟨gs, 0, none⟩) l.length l.length] w fun e w' => ∃ (g c : Nat) (rest : List Value), e = .returned (.slice (some ⟨g, 0, none⟩) l.length c) ∧ l.length ≤ c ∧ w.heap.size ≤ g ∧ Blk w' g 4 (bools l ++ rest).toArray ∧ Ext w w' := by
  obtain ⟨ti, hi, hz0, hz1, hz2⟩ := info_parts Tryz.info4
  refine (Tryz.slices_Clone_f53 ti (.bool false) 1 1 hi hz0 hz1 hz2 rfl (by decide) (fun w => by simp [Go.sizeOf, typeInfo, hi, hz1]) gs 0 l.length l.length (bools l) w (by simp [bools]) (by unfold maxLen; omega) (by omega) ?_ ?_).mono ?_
  · intro j u hj
    rw [Nat.zero_add]
    exact (hb.cell j).trans (by simpa using hj)
  · intro u hu
    simp only [bools, List.mem_map] at hu
    obtain ⟨_, _, rfl⟩ := hu
    rfl
  · rintro e w' ⟨v', rfl, hown, hne, hbel⟩
    rcases hown.2 with ⟨h3, _⟩ | ⟨g, cap, cur, h3, h4, h5, h6, h7, h8, h9⟩
    · exact absurd h3 hne
    · refine ⟨g, cap, cur.toList.drop l.length, congrArg _ h3, h6, h4, ?_, hbel⟩
      have e : (bools l ++ cur.toList.drop l.length).toArray = cur := by
        apply Array.ext'
        rw [Nat.mul_one] at h9
        rw [← h9]
        simp
      rw [e]
      exact h5
/-- One arc of the search in breadth. -/
def bfsArc (t : Tp) (down : List Bool) (d : Nat) (s : List Bool × List Nat) (a : Nat) : List Bool × List Nat :=
  if !(s.1[(headP t a).toNat]?.getD false) && usableP t down a d then (s.1.set (headP t a).toNat true, s.2 ++ [(headP t a).toNat]) else s
def bfs (t : Tp) (down : List Bool) (d : Nat) : Nat → List Bool → List Nat → List Bool
  | 0, seen, _ => seen
  | _ + 1, seen, [] => seen
  | f + 1, seen, m :: q => if seen[d]?.getD false then seen else bfs t down d f ((leavP t m).foldl (bfsArc t down d) (seen, q)).1 ((leavP t m).foldl (bfsArc t down d) (seen, q)).2
def leftP (t : Tp) (down : List Bool) (d : Nat) (vis : List Bool) (n : Nat) : Bool := (bfs t down d (unset (vis.set n true) + 1) (vis.set n true) [n])[d]?.getD false
theorem bfsArc_measure (t : Tp) (down : List Bool) (d : Nat) (s : List Bool × List Nat) (a : Nat) (h : (headP t a).toNat < s.1.length) :
    unset (bfsArc t down d s a).1 + (bfsArc t down d s a).2.length = unset s.1 + s.2.length ∧ (bfsArc t down d s a).1.length = s.1.length := by
  unfold bfsArc
  split
  · rename_i hc
    simp only [Bool.and_eq_true, Bool.not_eq_true'] at hc
    have : s.1[(headP t a).toNat]? = some false := by
      rw [List.getElem?_eq_getElem h] at hc ⊢
      simpa using hc.1
    have := unset_set this
    refine ⟨?_, by simp⟩
    simp only [List.length_append, List.length_singleton]
    omega
  · exact ⟨rfl, rfl⟩
theorem bfsFold_measure (t : Tp) (down : List Bool) (d : Nat) (l : List Nat) (s : List Bool × List Nat) (h : ∀ a ∈ l, (headP t a).toNat < s.1.length) :
    unset (l.foldl (bfsArc t down d) s).1 + (l.foldl (bfsArc t down d) s).2.length = unset s.1 + s.2.length ∧ (l.foldl (bfsArc t down d) s).1.length = s.1.length := by
  induction l generalizing s with
  | nil => exact ⟨rfl, rfl⟩
  | cons a l ih =>
    have h1 := bfsArc_measure t down d s a (h a (by simp))
    have h2 := ih (bfsArc t down d s a) (fun b hb => by rw [h1.2]; exact h b (by simp [hb]))
    rw [List.foldl_cons]
    exact ⟨h2.1.trans h1.1, h2.2.trans h1.2⟩
theorem bfsFold_mem (t : Tp) (down : List Bool) (d N : Nat) (l : List Nat) (s : List Bool × List Nat) (h : ∀ a ∈ l, (headP t a).toNat < N) (hs : ∀ x ∈ s.2, x < N) : ∀ x ∈ (l.foldl (bfsArc t down d) s).2, x < N := by
  induction l generalizing s with
  | nil => exact hs
  | cons a l ih =>
    rw [List.foldl_cons]
    refine ih _ (fun b hb => h b (by simp [hb])) ?_
    unfold bfsArc
    split
    · intro x hx
      simp only [List.mem_append, List.mem_singleton] at hx
      rcases hx with hx | rfl
      · exact hs x hx
      · exact h a (by simp)
    · exact hs
/-- What the closures capture. -/
structure Env (w : World) (t : Tp) (AO : Option Addr) (co : Nat) (AL : Option Addr) (cl : Nat) (AD : Option Addr) (cd : Nat) (down : List Bool) (d N gv gs gd gl gll gt gw : Nat) (vis : List Bool) : Prop where
  top : TopR w t AO co AL cl
  dn : Rd w AD (bools down)
  vv : Blk w gv 22 #[.slice (some ⟨gs, 0, none⟩) N N]
  row : Blk w gs 4 (bools vis).toArray
  dd : Blk w gd 3 #[.int .i64 d]
  lv : Blk w gl 31 #[.slice (some ⟨gll, 0, none⟩) N N]
  ll : LL w gll N (leavP t)
  tt : Blk w gt 25 #[.int .i64 t.nodes, .slice AO t.over.length co, .slice AL t.links.length cl]
  ww : Blk w gw 22 #[.slice AD down.length cd]
theorem Env.keep {w w' : World} {t : Tp} {AO : Option Addr} {co : Nat} {AL : Option Addr} {cl : Nat} {AD : Option Addr} {cd : Nat} {down : List Bool} {d N gv gs gd gl gll gt gw : Nat} {vis : List Bool} (h : Env w t AO co AL cl AD cd down d N gv gs gd gl gll gt gw vis) (hx : Ext w w') : Env w' t AO co AL cl AD cd down d N gv gs gd gl gll gt gw vis :=
  ⟨h.top.keep hx, h.dn.keep hx, h.vv.keep hx, h.row.keep hx, h.dd.keep hx, h.lv.keep hx, h.ll.keep hx, h.tt.keep hx, h.ww.keep hx⟩
theorem unset_le (l : List Bool) : unset l ≤ l.length := List.count_le_length
theorem bools_set (l : List Bool) (rest : List Value) (k : Nat) (hk : k < l.length) (b : Bool) : (bools l ++ rest).toArray.setIfInBounds k (.bool b) = (bools (l.set k b) ++ rest).toArray := by
  apply Array.ext'
  rw [Array.toList_setIfInBounds]
  simp only [bools, List.map_set]
  rw [List.set_append_left _ _ (by simpa using hk)]
theorem bools_get (l : List Bool) (rest : List Value) (k : Nat) (hk : k < l.length) : (bools l ++ rest).toArray[k]? = some (.bool (l[k]?.getD false)) := by
  simp [bools, List.getElem?_append, hk]
set_option maxRecDepth 100000 in
set_option maxHeartbeats 8000000 in
theorem left_ok (t : Tp) (AO : Option Addr) (co : Nat) (AL : Option Addr) (cl : Nat) (AD : Option Addr) (cd : Nat) (down : List Bool) (n d N gv gs gd gl gll gt gw : Nat) (vis : List Bool) (w : World) (henv : Env w t AO co AL cl AD cd down d N gv gs gd gl gll gt gw vis) (hv : validP t = true) (hf : fitsP t down = true)
    (hcd : down.length ≤ 281474976710656) (hdc : down.length ≤ cd) (hN : t.nodes = (N : Int)) (hvl : vis.length = N) (hn : n < N) (hd : d < N) :
    Calls Tryz.prog 52 #[.int .i64 n, .pointer (some ⟨gv, 0, none⟩), .pointer (some ⟨gd, 0, none⟩), .pointer (some ⟨gl, 0, none⟩), .pointer (some ⟨gt, 0, none⟩), .pointer (some ⟨gw, 0, none⟩)] w fun e w' => e = .returned (.bool (leftP t down d vis n)) ∧ Ext w w' := by
  have hN2 : N ≤ 64 := by
    have := hv
    unfold validP headOk inB at this
    simp at this
    omega
  subst hvl
  have h3 := henv.top.ll
  have h4 := henv.top.cl
  have henv0 := henv
  have c0 := henv.vv.one.1
  have hL : leftP t down d vis n = (bfs t down d (unset (vis.set n true) + 1) (vis.set n true) [n])[d]?.getD false := rfl
  generalize leftP t down d vis n = R at *
  have HR := Lib.hid (hL)
  have ENV := Lib.hid (henv)
  have HV := Lib.hid (hv)
  have HFT := Lib.hid (hf)
  have HN := Lib.hid (hN)
  clear hL henv hv hf hN henv0
  obtain ⟨ti, hi, hz0, hz1, hz2⟩ := info_parts Tryz.info3
  go_enter Tryz.func52, Tryz.ntmps52
  go_wp2_with fail
  refine (cloneB_ok gs vis _ ENV.out.row (by omega)).mono ?_
  rintro e w1 ⟨g, c, rest, rfl, hc, hg, hb, hx1⟩
  have s0 := (hb.cell n).trans (bools_get vis rest n hn)
  have s1 := hb.frozen n
  have E1 := Lib.hid hx1
  have B1 := Lib.hid hb
  clear hx1 hb c0
  go_wp2
  go_loopg [9, 10, 12, 13] (unset (vis.set n true) + 1) (fun k q _ _ _ wr => ∃ (seen : List Bool) (ql : List Nat), k = unset seen + ql.length ∧ seen.length = vis.length ∧ k ≤ vis.length + 1 ∧ (∀ x ∈ ql, x < vis.length) ∧ Que wr w.heap.size 3 q (ints ql) ∧ Blk wr g 4 (bools seen ++ rest).toArray ∧ Ext w wr ∧
    (bfs t down d k seen ql)[d]?.getD false = R)
  case atStart =>
    refine ⟨vis.set n true, [n], rfl, by simp, (by have := unset_le (vis.set n true); simp at this; omega), by simp; omega, ?_, ?_, ?_, HR.out.symm⟩
    · refine ⟨w1.heap.size, 0, 1, #[.int .i64 (n : Int)], rfl, E1.out.size, ?_, by simp [ints], by simp, fun i hi => ?_⟩
      · exact (show Blk _ _ _ _ from Blk.new' _ _ _ (by simp [World.setCell]))
      · simp [ints] at hi ⊢
    · rw [← bools_set vis rest n hn]
      exact (B1.out.set_ n _).alloc _
    · exact (Ext.set_ E1.out (p := ⟨g, n, none⟩) hg _).alloc _
  case round =>
    obtain ⟨seen, ql, rfl, hsl, hql, hqm, hque, hblk, hx, hres⟩ := hrel
    have hdl : d < seen.length := by omega
    have d0 := (ENV.out.dd.keep hx).one.1
    have sd := (hblk.cell d).trans (bools_get seen rest d hdl)
    have EX := Lib.hid hx
    have BK := Lib.hid hblk
    have HSL := Lib.hid hsl
    have QU := Lib.hid hque
    have RES := Lib.hid hres
    have QM := Lib.hid hqm
    have HQL := Lib.hid hql
    obtain ⟨g9, o9, cp9, cur9, rfl, z1, _, z3, _, _⟩ := hque
    rw [ints_length] at z3 QU ⊢
    clear hx hblk hsl hres hqm hql E1 B1
    cases ql with
    | nil =>
      have hr : R = seen[d]?.getD false := by
        rw [← RES.out]
        cases (unset seen + ([] : List Nat).length) <;> rfl
      generalize seen[d]?.getD false = x at *
      subst hr
      go_wp2
      go_ret
      exact ⟨rfl, EX.out⟩
    | cons m ql =>
      cases hsd : seen[d]?.getD false
      case true =>
        rw [hsd] at sd
        have hr : R = true := by
          rw [← RES.out, List.length_cons, ← Nat.add_assoc, bfs, if_pos hsd]; exact hsd
        subst hr
        rw [List.length_cons] at z3 ⊢
        go_wp2
        go_ret
        exact ⟨rfl, EX.out⟩
      case false =>
        rw [hsd] at sd
        have hmN : m < vis.length := QM.out m (by simp)
        have q0 := QU.out.cell (i := 0) (by simp [ints])
        have q0' : (ints (m :: ql))[0]? = some (.int .i64 (m : Int)) := rfl
        rw [q0', Nat.add_zero] at q0
        have l0 := (ENV.out.lv.keep EX.out).one.1
        obtain ⟨V, v1, v2⟩ := ENV.out.ll
        have l1 := ((v1.keep EX.out).cell m).trans (range_map_get _ V m hmN)
        obtain ⟨AR, cr, v3, hcr, hrr⟩ := v2 m hmN
        rw [v3] at l1
        have hmN' : (m : Int) < (vis.length : Int) := by omega
        have hlen := leavTo_len t (2 * t.links.length) m
        change (leavP t m).length ≤ _ at hlen
        have RR := Lib.hid hrr
        have POP := Lib.hid (Que.pop (x := .int .i64 (m : Int)) (xs := ints ql) QU.out)
        clear v1 v2 v3 V hrr q0'
        rw [List.length_cons] at z3 ⊢
        generalize hAL : (leavP t m).length = L at *
        have HAL := Lib.hid hAL
        clear hAL
        have HQ := Lib.hid (show cp9 = 1 → ql = [] from fun e => List.eq_nil_of_length_eq_zero (by omega))
        go_upto_region 6 with fail
        go_cut [9] (fun q wx => Que wx w.heap.size 3 q (ints ql) ∧ wx = wr)
        case first =>
          by_cases hc1 : cp9 = 1
          · have hq0 := HQ.out hc1
            subst hc1
            subst hq0
            go_wp2
            go_meet
            refine ⟨?_, rfl⟩
            obtain ⟨g', o', c', cur', e0, e1, e2, e3, e4, e5⟩ := QU.out
            injection e0 with y1 y2 y3
            injection y1 with y1
            injection y1 with y4 y5
            subst y4 y5 y3
            exact ⟨_, _, 0, cur', rfl, e1, e2, Nat.le_refl _, by omega, fun i hi => by simp [ints] at hi⟩
          · have hc2 : 1 < cp9 := by omega
            go_wp2
            go_meet
            refine ⟨?_, rfl⟩
            have := POP.out
            rw [ints_length] at this
            exact this
        case rest =>
          obtain ⟨hq6, rfl⟩ := hcut
          have Q6 := Lib.hid hq6
          obtain ⟨g6, o6, cp6, cur6, rfl, y1, _, y3, _, _⟩ := hq6
          rw [ints_length] at y3 Q6 ⊢
          clear POP QU q0 HQ
          go_wp2
          have hhd : ∀ a ∈ leavP t m, (headP t a).toNat < vis.length := fun a ha => by
            obtain ⟨h, h1, h2⟩ := headP_ok HV.out (leavP_lt ha)
            rw [HN.out] at h2
            omega
          have HHD := Lib.hid hhd
          clear hhd
          go_loopw [9, 12, 13, 41] (fun q _ _ it wi => ∃ k : Nat, k ≤ L ∧ it = .int .i64 k ∧ Que wi w.heap.size 3 q (ints (((leavP t m).take k).foldl (bfsArc t down d) (seen, ql)).2) ∧ Blk wi g 4 (bools (((leavP t m).take k).foldl (bfsArc t down d) (seen, ql)).1 ++ rest).toArray ∧ Ext w wi) (fun _ _ _ i _ => L - (intOf i).toNat)
          case atStart => exact ⟨0, Nat.zero_le _, rfl, Q6.out, BK.out, EX.out⟩
          case round =>
            obtain ⟨k, hk, rfl, hq, hb, hx⟩ := hrel
            have FM := Lib.hid (bfsFold_measure t down d ((leavP t m).take k) (seen, ql) (fun a ha => by rw [show (seen, ql).1.length = vis.length from HSL.out]; exact HHD.out a (List.mem_of_mem_take ha)))
            generalize hS : ((leavP t m).take k).foldl (bfsArc t down d) (seen, ql) = S at *
            have HS := Lib.hid hS
            obtain ⟨S1, S2⟩ := S
            have EX2 := Lib.hid hx
            have BK2 := Lib.hid hb
            have QU2 := Lib.hid hq
            clear hS hq hb hx EX BK Q6
            by_cases hkl : k < L
            · obtain ⟨a, ha⟩ : ∃ a, (leavP t m)[k]? = some a := ⟨_, List.getElem?_eq_getElem (by rw [HAL.out]; exact hkl)⟩
              have ha2 : a < 2 * t.links.length := leavP_lt (List.mem_of_getElem? ha)
              obtain ⟨h, hh, hhn⟩ := headP_ok HV.out ha2
              rw [HN.out] at hhn
              have hS1 : S1.length = vis.length := FM.out.2.trans HSL.out
              have hhl : h < S1.length := by omega
              obtain ⟨b, o, rfl, hbl, hbc⟩ := (RR.out.keep EX2.out).rd.ints_ (k := k) (by rw [HAL.out]; exact hkl)
              rw [ha, Option.getD_some] at hbc
              have STEP := Lib.hid (show ((leavP t m).take (k + 1)).foldl (bfsArc t down d) (seen, ql) = if !(S1[h]?.getD false) && usableP t down a d then (S1.set h true, S2 ++ [h]) else (S1, S2) by
                rw [List.take_add_one, ha, List.foldl_append, HS.out]
                simp only [Option.toList_some, List.foldl_cons, List.foldl_nil]
                unfold bfsArc
                rw [hh, Int.toNat_natCast])
              have HA := Lib.hid ha
              have HH := Lib.hid hh
              have HS1 := Lib.hid hS1
              clear ha hh hS1
              have hba := ENV.out.tt.keep EX2.out
              obtain ⟨⟨i0, i1, i2⟩, g0, g1, g2⟩ := hba.three
              go_wp2_with fail
              refine (gHead_any t AO co AL cl a _ (ENV.out.top.keep EX2.out) (by omega)).mono ?_
              rintro e w2 ⟨rfl, hx2⟩
              rw [HH.out]
              have BK3 := Lib.hid (BK2.out.keep hx2)
              have QU3 := Lib.hid (QU2.out.keep hx2)
              have EX3 := Lib.hid (EX2.out.tr hx2)
              clear BK2 QU2 EX2 hx2 hba i0 i1 i2 g0 g1 g2
              have sh := (BK3.out.cell h).trans (bools_get S1 rest h hhl)
              have sf := BK3.out.frozen h
              have hhl' : (h : Int) < (vis.length : Int) := by omega
              cases hsh : S1[h]?.getD false
              case true =>
                rw [hsh] at sh STEP
                go_wp2
                go_roundw
                case rel => exact ⟨k + 1, by omega, by go_num, by rw [STEP.out]; exact QU3.out, by rw [STEP.out]; exact BK3.out, EX3.out⟩
                case measure => simp [intOf]; omega
              case false =>
                rw [hsh] at sh STEP
                have hba := ENV.out.tt.keep EX3.out
                obtain ⟨⟨i0, i1, i2⟩, g0, g1, g2⟩ := hba.three
                have d1 := (ENV.out.dd.keep EX3.out).one.1
                have e1 := (ENV.out.ww.keep EX3.out).one.1
                have hov : t.over = [] ∨ headP t a < t.over.length := by
                  have := HV.out
                  unfold validP headOk at this
                  simp at this
                  rw [HH.out]
                  have hN9 := HN.out
                  rcases this.1.2 with e | e
                  · exact .inl e
                  · right; omega
                have hdw : down = [] ∨ a < down.length := by
                  have := HFT.out
                  unfold fitsP at this
                  simp at this
                  rcases this with e | e
                  · exact .inl e
                  · right; omega
                have HOV := Lib.hid hov
                have HDW := Lib.hid hdw
                clear hov hdw
                go_wp2_with fail
                refine (usable_any t AO co AL cl AD cd down a d _ (ENV.out.top.keep EX3.out) (by omega) (ENV.out.dn.keep EX3.out) hdc hcd HDW.out (by rw [HH.out]; omega) HOV.out).mono ?_
                rintro e w3 ⟨rfl, hx3⟩
                have BK4 := Lib.hid (BK3.out.keep hx3)
                have QU4 := Lib.hid (QU3.out.keep hx3)
                have EX4 := Lib.hid (EX3.out.tr hx3)
                clear BK3 QU3 EX3 hx3 hba i0 i1 i2 g0 g1 g2 d1 e1 sh sf
                have sh := (BK4.out.cell h).trans (bools_get S1 rest h hhl)
                have sf := BK4.out.frozen h
                cases hus : usableP t down a d
                case false =>
                  rw [hus] at STEP
                  go_wp2
                  go_roundw
                  case rel => exact ⟨k + 1, by omega, by go_num, by rw [STEP.out]; exact QU4.out, by rw [STEP.out]; exact BK4.out, EX4.out⟩
                  case measure => simp [intOf]; omega
                case true =>
                  rw [hus] at STEP
                  have BK5 := Lib.hid (show Blk (w3.setCell ⟨g, h, none⟩ (.bool true)) g 4 (bools (S1.set h true) ++ rest).toArray by
                    rw [← bools_set S1 rest h hhl]; exact BK4.out.set_ h _)
                  have QU5 := Lib.hid (QU4.out.far (p := ⟨g, h, none⟩) BK4.out (by decide) (.bool true))
                  have EX5 := Lib.hid (Ext.set_ EX4.out (p := ⟨g, h, none⟩) hg (.bool true))
                  have hS2 : S2.length ≤ 1000 := by
                    have h1 := FM.out.1
                    have h2 := HQL.out
                    simp at h1 h2
                    omega
                  clear BK4 QU4 EX4
                  go_wp2_with (at_builtin; go_must (refine wpList_append_que _ rfl (.tmp 63) (.tmp 65) 39 rfl w.heap.size 3 ti (.int .i64 0) 8 Tryz.underlying39 hi hz0 hz1 hz2 rfl u9 (ints S2) rfl ?c0 ⟨w3.heap.size, 0, none⟩ (.int .i64 (h : Int)) rfl ?c1 rfl rfl ?c3 ?c4 ?c5 ?_))
                  case c0 => exact QU5.out.keep ((Ext.refl _).alloc _)
                  case c1 => exact ((show Blk _ _ _ _ from Blk.new' (w3.setCell ⟨g, h, none⟩ (.bool true)) 3 #[.int .i64 (h : Int)] (by simp [World.setCell])).cell 0).trans rfl
                  case c3 => rw [ints_length]; unfold maxLen; omega
                  case c4 => rw [ints_length]; omega
                  case c5 => have := EX5.out.size; simp at this ⊢; omega
                  intro v' w5 hq5 hg5
                  have EX6 := Lib.hid (Below.grown (EX5.out.alloc (.cells #[.int .i64 (h : Int)] 3)) hg5 (EX5.out.alloc _).size (fun k hk => (QU5.out.lt k hk).1))
                  have hne : some g ≠ u9.ownBlock := by
                    obtain ⟨g', off', cap', cur', e0, _, e2, _⟩ := QU5.out
                    intro e
                    rw [e0] at e
                    simp [Value.ownBlock] at e
                    subst e
                    have h2 := BK5.out
                    unfold Blk at h2
                    rw [e2] at h2
                    injection h2 with h2
                    injection h2 with _ h2
                    revert h2; decide
                  have BK6 := Lib.hid (show Blk w5 g 4 (bools (S1.set h true) ++ rest).toArray from (hg5.block g (BK5.out.alloc (.cells #[.int .i64 (h : Int)] 3)).lt hne).trans (BK5.out.alloc _))
                  have QU6 := Lib.hid (show Que w5 w.heap.size 3 v' (ints (S2 ++ [h])) by rw [ints_snoc]; exact hq5)
                  clear hq5 hg5 hne BK5 QU5 EX5 sh sf
                  go_wp2
                  go_roundw
                  case rel => exact ⟨k + 1, by omega, by go_num, by rw [STEP.out]; exact QU6.out, by rw [STEP.out]; exact BK6.out, EX6.out⟩
                  case measure => simp [intOf]; omega
            · have hkL : k = L := by omega
              subst hkL
              have hS' : (leavP t m).foldl (bfsArc t down d) (seen, ql) = (S1, S2) := by
                have := HS.out
                rw [List.take_of_length_le (by rw [HAL.out]; exact Nat.le_refl _)] at this
                exact this
              have R2 := Lib.hid (show (bfs t down d (unset seen + ql.length) S1 S2)[d]?.getD false = R by
                rw [← RES.out, List.length_cons, ← Nat.add_assoc, bfs, if_neg (by simpa using hsd), hS'])
              have MEM := Lib.hid (show ∀ x ∈ S2, x < vis.length by
                have := bfsFold_mem t down d vis.length (leavP t m) (seen, ql) HHD.out (fun x hx => QM.out x (by simp only [List.mem_cons]; exact .inr hx))
                rw [hS'] at this
                exact this)
              have HF := Lib.hid (show unset S1 + S2.length = unset seen + ql.length from FM.out.1)
              have HS1 := Lib.hid (show S1.length = vis.length from FM.out.2.trans HSL.out)
              go_wp2
              go_roundg (unset seen + ql.length)
              case measure => simp
              case rel => exact ⟨S1, S2, HF.out.symm, HS1.out, (by have := HQL.out; simp at this; omega), MEM.out, QU2.out, BK2.out, EX2.out, R2.out⟩
end Go.Proofs.YtekiomanidimnaaGreatDoor


namespace Go.Proofs.YtekiomanidimnaaGreatDoor
open Go.RowKit
/-- The search of pricing.Simple. -/
def srchP (t : Tp) (down : List Bool) (d most : Nat) : Nat → List Nat → Nat → List Bool → List (List Nat) → List (List Nat)
  | 0, _, _, _, ps => ps
  | f + 1, path, n, vis, ps => if n = d then ps ++ [path] else
    (leavP t n).foldl (fun ps a => if decide (most < ps.length) || (vis.set n true)[(headP t a).toNat]?.getD false || !usableP t down a d || !leftP t down d (vis.set n true) (headP t a).toNat then ps
      else srchP t down d most f (path ++ [a]) (headP t a).toNat (vis.set n true) ps) ps
def on (l : List Bool) (x : Nat) : Prop := l[x]?.getD false = true
theorem on_set {l : List Bool} {k x : Nat} (h : on l x) : on (l.set k true) x := by
  unfold on at *
  rw [List.getElem?_set]
  split
  · rename_i e
    subst e
    split
    · rfl
    · rename_i h2
      rw [List.getElem?_eq_none (by omega)] at h
      cases h
  · exact h
theorem on_set_self {l : List Bool} {k : Nat} (h : k < l.length) : on (l.set k true) k := by
  unfold on
  simp [h]
theorem on_of_set {l : List Bool} {k x : Nat} (h : on (l.set k true) x) : x = k ∨ on l x := by
  unfold on at *
  rw [List.getElem?_set] at h
  split at h
  · rename_i e
    exact .inl e.symm
  · exact .inr h
/-- What the search in breadth keeps. -/
def bfsInv (t : Tp) (down : List Bool) (d : Nat) (vis seen : List Bool) (q : List Nat) : Prop :=
  (∀ x, on vis x → on seen x) ∧ ∀ m, on seen m → on vis m ∨ m ∈ q ∨ ∀ a ∈ leavP t m, usableP t down a d = true → on seen (headP t a).toNat
theorem bfsFold_inv (t : Tp) (down : List Bool) (d : Nat) (l : List Nat) (s : List Bool × List Nat) (h : ∀ a ∈ l, (headP t a).toNat < s.1.length) :
    (∀ x, on s.1 x → on (l.foldl (bfsArc t down d) s).1 x) ∧ (∀ x ∈ s.2, x ∈ (l.foldl (bfsArc t down d) s).2) ∧ (∀ x, on (l.foldl (bfsArc t down d) s).1 x → on s.1 x ∨ x ∈ (l.foldl (bfsArc t down d) s).2) ∧
      ∀ a ∈ l, usableP t down a d = true → on (l.foldl (bfsArc t down d) s).1 (headP t a).toNat := by
  induction l generalizing s with
  | nil => exact ⟨fun _ h => h, fun _ h => h, fun _ h => .inl h, fun _ h => by cases h⟩
  | cons a l ih =>
    have h1 := bfsArc_measure t down d s a (h a (by simp))
    obtain ⟨i1, i2, i3, i4⟩ := ih (bfsArc t down d s a) (fun b hb => by rw [h1.2]; exact h b (by simp [hb]))
    rw [List.foldl_cons]
    have hh := h a (by simp)
    have j1 : ∀ x, on s.1 x → on (bfsArc t down d s a).1 x := fun x hx => by
      unfold bfsArc
      split
      · exact on_set hx
      · exact hx
    have j2 : ∀ x ∈ s.2, x ∈ (bfsArc t down d s a).2 := fun x hx => by
      unfold bfsArc
      split
      · exact List.mem_append_left _ hx
      · exact hx
    have j3 : ∀ x, on (bfsArc t down d s a).1 x → on s.1 x ∨ x ∈ (bfsArc t down d s a).2 := fun x hx => by
      unfold bfsArc at hx ⊢
      split
      · rename_i hc
        rw [if_pos hc] at hx
        rcases on_of_set hx with e | e
        · right; simp [e]
        · exact .inl e
      · rename_i hc
        rw [if_neg hc] at hx
        exact .inl hx
    have j4 : usableP t down a d = true → on (bfsArc t down d s a).1 (headP t a).toNat := fun hu => by
      unfold bfsArc
      rw [hu, Bool.and_true]
      split
      · exact on_set_self hh
      · rename_i hc
        unfold on
        simpa using hc
    refine ⟨fun x hx => i1 x (j1 x hx), fun x hx => i2 x (j2 x hx), fun x hx => ?_, fun b hb hu => ?_⟩
    · rcases i3 x hx with e | e
      · rcases j3 x e with e | e
        · exact .inl e
        · exact .inr (i2 x e)
      · exact .inr e
    · rcases List.mem_cons.1 hb with rfl | hb
      · exact i1 _ (j4 hu)
      · exact i4 b hb hu
theorem bfs_closed (t : Tp) (down : List Bool) (d : Nat) (vis : List Bool) : ∀ (k : Nat) (seen : List Bool) (q : List Nat), (∀ m a, a ∈ leavP t m → (headP t a).toNat < seen.length) → unset seen + q.length ≤ k → bfsInv t down d vis seen q →
    (bfs t down d k seen q)[d]?.getD false = false →
    ∃ S : List Bool, (∀ x, on vis x → on S x) ∧ (∀ x, on seen x → on S x) ∧ ¬ on S d ∧ ∀ m, on S m → on vis m ∨ ∀ a ∈ leavP t m, usableP t down a d = true → on S (headP t a).toNat := by
  intro k
  have base : ∀ (seen : List Bool), bfsInv t down d vis seen [] → seen[d]?.getD false = false →
      ∃ S : List Bool, (∀ x, on vis x → on S x) ∧ (∀ x, on seen x → on S x) ∧ ¬ on S d ∧ ∀ m, on S m → on vis m ∨ ∀ a ∈ leavP t m, usableP t down a d = true → on S (headP t a).toNat := by
    intro seen hi hr
    refine ⟨seen, hi.1, fun _ h => h, by unfold on; rw [hr]; decide, fun m hm => ?_⟩
    rcases hi.2 m hm with h | h | h
    · exact .inl h
    · cases h
    · exact .inr h
  induction k with
  | zero =>
    intro seen q hl hk hi hr
    have : q = [] := List.eq_nil_of_length_eq_zero (by omega)
    subst this
    exact base seen hi hr
  | succ k ih =>
    intro seen q hl hk hi hr
    cases q with
    | nil => exact base seen hi hr
    | cons m q =>
      rw [bfs] at hr
      split at hr
      · rename_i hc
        rw [hc] at hr
        cases hr
      · have hm := bfsFold_measure t down d (leavP t m) (seen, q) (fun a ha => hl m a ha)
        obtain ⟨i1, i2, i3, i4⟩ := bfsFold_inv t down d (leavP t m) (seen, q) (fun a ha => hl m a ha)
        generalize (leavP t m).foldl (bfsArc t down d) (seen, q) = S at *
        have hinv : bfsInv t down d vis S.1 S.2 := ⟨fun x hx => i1 x (hi.1 x hx), fun x hx => by
          rcases i3 x hx with e | e
          · rcases hi.2 x e with e | e | e
            · exact .inl e
            · rcases List.mem_cons.1 e with rfl | e
              · exact .inr (.inr i4)
              · exact .inr (.inl (i2 x e))
            · exact .inr (.inr fun a ha hu => i1 _ (e a ha hu))
          · exact .inr (.inl e)⟩
        obtain ⟨S', k1, k2, k3, k4⟩ := ih S.1 S.2 (fun m a ha => by rw [hm.2]; exact hl m a ha) (by have := hm.1; simp at this hk; omega) hinv hr
        exact ⟨S', k1, fun x hx => k2 x (i1 x hx), k3, k4⟩
theorem ext_over {t : Tp} {down : List Bool} {d : Nat} (f : Nat) (path : List Nat) (n : Nat) (seen : List Bool) (hp : 0 < path.length) (hn : n ≠ d) (ho : overP t n = true) : extP t down d f path n seen = [] := by
  cases f with
  | zero => rfl
  | succ f => rw [extP, if_neg hn, if_pos ⟨hp, ho⟩]
/-- An arc that is not down and not usable leads nowhere. -/
theorem ext_unusable {t : Tp} {down : List Bool} {d a h : Nat} (hh : headP t a = (h : Int)) (hd : downP down a = false) (hu : usableP t down a d = false) (f : Nat) (path : List Nat) (seen : List Bool) (hp : 0 < path.length) :
    extP t down d f path h seen = [] := by
  unfold usableP at hu
  rw [hd, hh] at hu
  simp at hu
  exact ext_over f path h seen hp (by omega) hu.2
theorem ext_none {t : Tp} (hv : validP t = true) (down : List Bool) (d : Nat) (vis S : List Bool) (hd : ¬ on S d) (hc : ∀ m, on S m → on vis m ∨ ∀ a ∈ leavP t m, usableP t down a d = true → on S (headP t a).toNat) :
    ∀ (f : Nat) (path : List Nat) (m : Nat) (seen : List Bool), 0 < path.length → on S m → ¬ on vis m → (∀ x, on vis x → on seen x) → extP t down d f path m seen = [] := by
  intro f
  induction f with
  | zero => intro path m seen _ _ _ _; rfl
  | succ f ih =>
    intro path m seen hp hm hvm hs
    rw [extP, if_neg (by rintro rfl; exact hd hm)]
    split
    · rfl
    · rw [List.flatMap_eq_nil_iff]
      intro a ha
      obtain ⟨h, hh, _⟩ := headP_ok hv (leavP_lt ha)
      split
      · rfl
      · rename_i hn
        simp only [Bool.or_eq_true, not_or, Bool.not_eq_true] at hn
        cases hu : usableP t down a d
        case false =>
          have := ext_unusable hh hn.1 hu f (path ++ [a]) (seen.set h true) (by simp)
          rw [hh, Int.toNat_natCast]
          exact this
        case true =>
          rcases hc m hm with e | e
          · exact absurd e hvm
          · refine ih _ _ _ (by simp) (e a ha hu) (fun e2 => ?_) (fun x hx => on_set (hs x hx))
            have := hs _ e2
            unfold on at this
            rw [hn.2] at this
            cases this
theorem left_none {t : Tp} (hv : validP t = true) (down : List Bool) (d : Nat) (vis : List Bool) (hN : t.nodes = (vis.length : Int)) (h : Nat) (hh : h < vis.length) (hvh : ¬ on vis h) (hl : leftP t down d vis h = false) (f : Nat) (path : List Nat) (seen : List Bool)
    (hp : 0 < path.length) (hs : ∀ x, on vis x → on seen x) : extP t down d f path h seen = [] := by
  unfold leftP at hl
  obtain ⟨S, _, k2, k3, k4⟩ := bfs_closed t down d vis _ _ _ (fun m a ha => by
    obtain ⟨x, hx, hx2⟩ := headP_ok hv (leavP_lt ha)
    rw [hx, List.length_set]; omega) (by simp) ⟨fun x hx => on_set hx, fun m hm => by
      rcases on_of_set hm with e | e
      · exact .inr (.inl (by simp [e]))
      · exact .inl e⟩ hl
  exact ext_none hv down d vis S k3 k4 f path h seen hp (k2 h (on_set_self hh)) hvh hs
theorem fold_take (most : Nat) (G : Nat → List (List Nat)) (g : List (List Nat) → Nat → List (List Nat)) (l : List Nat) (h : ∀ ps, ∀ a ∈ l, g ps a = ps ++ (G a).take (most + 1 - ps.length)) (ps : List (List Nat)) :
    l.foldl g ps = ps ++ (l.flatMap G).take (most + 1 - ps.length) := by
  induction l generalizing ps with
  | nil => simp
  | cons a l ih =>
    rw [List.foldl_cons, h ps a (by simp), ih (fun ps b hb => h ps b (by simp [hb])), List.flatMap_cons, List.take_append, List.append_assoc]
    congr 3
    simp only [List.length_append, List.length_take]
    omega
theorem srch_eq {t : Tp} (hv : validP t = true) (down : List Bool) (d most N : Nat) (hN : t.nodes = (N : Int)) : ∀ (f : Nat) (path : List Nat) (n : Nat) (vis : List Bool) (ps : List (List Nat)), vis.length = N → ps.length ≤ most → (path = [] ∨ n = d ∨ overP t n = false) →
    srchP t down d most f path n vis ps = ps ++ (extP t down d f path n (vis.set n true)).take (most + 1 - ps.length) := by
  intro f
  induction f with
  | zero => intro path n vis ps _ _ _; simp [srchP, extP]
  | succ f ih =>
    intro path n vis ps hl hp ho
    rw [srchP, extP]
    by_cases hnd : n = d
    · rw [if_pos hnd, if_pos hnd, List.take_of_length_le (by simp; omega)]
    · rw [if_neg hnd, if_neg hnd, if_neg (by
        rintro ⟨h1, h2⟩
        rcases ho with e | e | e
        · rw [e] at h1; cases h1
        · exact hnd e
        · rw [h2] at e; cases e)]
      refine fold_take most _ _ _ (fun qs a ha => ?_) ps
      obtain ⟨h, hh, hlt⟩ := headP_ok hv (leavP_lt ha)
      have hhl : h < (vis.set n true).length := by rw [List.length_set]; omega
      rw [hh, Int.toNat_natCast]
      split
      · rename_i hc
        simp only [Bool.or_eq_true, decide_eq_true_eq, Bool.not_eq_true'] at hc
        rcases hc with ((hc | hc) | hc) | hc
        · rw [show most + 1 - qs.length = 0 by omega]; simp
        · rw [hc]; simp
        · split
          · simp
          · rename_i hn
            simp only [Bool.or_eq_true, not_or, Bool.not_eq_true] at hn
            rw [ext_unusable hh hn.1 hc _ _ _ (by simp)]
            simp
        · split
          · simp
          · rename_i hn
            simp only [Bool.or_eq_true, not_or, Bool.not_eq_true] at hn
            rw [left_none hv down d (vis.set n true) (by rw [List.length_set]; omega) h hhl (by unfold on; rw [hn.2]; decide) hc _ _ _ (by simp) (fun x hx => on_set hx)]
            simp
      · rename_i hc
        simp only [Bool.or_eq_true, not_or, decide_eq_true_eq, Bool.not_eq_true', Bool.not_eq_true, Bool.not_eq_false] at hc
        obtain ⟨⟨⟨c1, c2⟩, c3⟩, c4⟩ := hc
        rw [ih _ _ _ _ (by rw [List.length_set]; exact hl) (by omega) ?_, if_neg]
        · rw [c2]
          simp
          unfold usableP at c3
          simp at c3
          exact c3.1
        · unfold usableP at c3
          rw [hh] at c3
          simp at c3
          rcases c3.2 with e | e
          · exact .inr (.inl (by omega))
          · exact .inr (.inr e)
theorem srch_len {t : Tp} (hv : validP t = true) (down : List Bool) (d most N : Nat) (hN : t.nodes = (N : Int)) (f : Nat) (path : List Nat) (n : Nat) (vis : List Bool) (ps : List (List Nat)) (hl : vis.length = N) (hp : ps.length ≤ most) (ho : path = [] ∨ n = d ∨ overP t n = false) :
    (srchP t down d most f path n vis ps).length ≤ most + 1 := by
  rw [srch_eq hv down d most N hN f path n vis ps hl hp ho]
  simp only [List.length_append, List.length_take]
  omega
end Go.Proofs.YtekiomanidimnaaGreatDoor


namespace Go.Proofs.YtekiomanidimnaaGreatDoor
open Go.RowKit
/-- A list of paths that the call made; no path lies in block x. -/
def PathsA (w : World) (B : Nat) (v : Value) (ps : List (List Nat)) (x : Option Nat) : Prop :=
  ∃ cells : List Value, cells.length = ps.length ∧ w.ownsRow B 39 1 v ps.length cells ∧
    ∀ (i : Nat) (p : List Nat), ps[i]? = some p → ∃ (A : Option Addr) (c : Nat), cells[i]? = some (.slice A p.length c) ∧ p.length ≤ c ∧ RdT w 3 A (ints p) ∧ (p ≠ [] → ∀ a, A = some a → some a.block ≠ x)
theorem PathsA.paths {w : World} {B : Nat} {v : Value} {ps : List (List Nat)} {x : Option Nat} (h : PathsA w B v ps x) : Paths w B v ps := by
  obtain ⟨cells, h1, h2, h3⟩ := h
  refine ⟨cells, h1, h2, fun i p hp => ?_⟩
  obtain ⟨A, c, k1, k2, k3, _⟩ := h3 i p hp
  exact ⟨A, c, k1, k2, k3⟩
theorem PathsA.nil (w : World) (B : Nat) (x : Option Nat) : PathsA w B (.slice none 0 0) [] x := ⟨[], rfl, World.ownsRow_nil _ _ _ _, fun i p h => by simp at h⟩
theorem ints_ne {p : List Nat} (h : ints p ≠ []) : p ≠ [] := by rintro rfl; exact h rfl
theorem RdT.grown {w w' : World} {t : TypeId} {A : Option Addr} {xs : List Value} {row : Option Nat} (h : RdT w t A xs) (hg : w.grownBy w' row) (hne : xs ≠ [] → ∀ a, A = some a → some a.block ≠ row) : RdT w' t A xs := fun hx => by
  obtain ⟨b, o, cs, fr, e, hb, hc⟩ := h hx
  exact ⟨b, o, cs, fr, e, (hg.block b (lt_of_get hb) (hne hx _ e)).trans hb, hc⟩
/-- Another block turns, which is no row of numbers. -/
theorem PathsA.kept {w w' : World} {B : Nat} {v : Value} {ps : List (List Nat)} {x row : Option Nat} (h : PathsA w B v ps x) (hg : w.grownBy w' row) (hv : v.ownBlock = none ∨ v.ownBlock ≠ row)
    (hr : ∀ k, row = some k → ∀ cs fr, w.heap[k]? ≠ some (.cells cs 3 fr)) : PathsA w' B v ps x := by
  obtain ⟨cells, h1, h2, h3⟩ := h
  refine ⟨cells, h1, h2.kept hg hv, fun i p hp => ?_⟩
  obtain ⟨A, c, k1, k2, k3, k4⟩ := h3 i p hp
  refine ⟨A, c, k1, k2, k3.grown hg (fun hx a ha e2 => ?_), k4⟩
  obtain ⟨b, o, cs, fr, e3, hb, _⟩ := k3 hx
  rw [ha] at e3
  injection e3 with e3
  subst e3
  exact hr _ e2.symm cs fr hb
/-- The block in which no path lies turns, or another one is taken for it. -/
theorem PathsA.app {w w' : World} {B : Nat} {v : Value} {ps : List (List Nat)} {x y : Option Nat} (h : PathsA w B v ps x) (hg : w.grownBy w' x) (hv : v.ownBlock = none ∨ v.ownBlock ≠ x) (hy : y = x ∨ y = some w.heap.size) : PathsA w' B v ps y := by
  obtain ⟨cells, h1, h2, h3⟩ := h
  refine ⟨cells, h1, h2.kept hg hv, fun i p hp => ?_⟩
  obtain ⟨A, c, k1, k2, k3, k4⟩ := h3 i p hp
  refine ⟨A, c, k1, k2, k3.grown hg (fun hx => k4 (ints_ne hx)), fun hne a ha => ?_⟩
  rcases hy with rfl | rfl
  · exact k4 hne a ha
  · intro e2
    obtain ⟨b, o, cs, fr, e3, hb, _⟩ := k3 (fun e => hne (by simpa [ints] using e))
    rw [ha] at e3
    injection e3 with e3
    subst e3
    injection e2 with e2
    have := lt_of_get hb
    simp only at e2
    omega
theorem PathsA.push {w w1 : World} {B : Nat} {ov v' : Value} {ps : List (List Nat)} {x : Option Nat} {p : List Nat} {A : Option Addr} {c : Nat} {cells : List Value} (h1 : cells.length = ps.length) (h2 : w.ownsRow B 39 1 ov ps.length cells)
    (h3 : ∀ (i : Nat) (q : List Nat), ps[i]? = some q → ∃ (A : Option Addr) (c : Nat), cells[i]? = some (.slice A q.length c) ∧ q.length ≤ c ∧ RdT w 3 A (ints q) ∧ (q ≠ [] → ∀ a, A = some a → some a.block ≠ x))
    (hp : RdT w 3 A (ints p)) (hc : p.length ≤ c) (hx : p ≠ [] → ∀ a, A = some a → some a.block ≠ x) (hown : w1.ownsRow B 39 1 v' (ps.length + 1) (cells ++ [.slice A p.length c])) (hg : w.grownBy w1 ov.ownBlock) :
    PathsA w1 B v' (ps ++ [p]) x := by
  have hk : Keep39 w w1 := Keep39.grown hg (fun k hk => Lib.ownsRow_kind h2 k hk)
  refine ⟨cells ++ [.slice A p.length c], by simp [h1], by simpa using hown, fun i q hq => ?_⟩
  by_cases hi : i < ps.length
  · rw [List.getElem?_append_left hi] at hq
    obtain ⟨A', c', k1, k2, k3, k4⟩ := h3 i q hq
    exact ⟨A', c', by rw [List.getElem?_append_left (by omega)]; exact k1, k2, hk.rdT (by decide) k3, k4⟩
  · have hi2 : i = ps.length := by
      have := (List.getElem?_eq_some_iff.1 hq).1
      simp at this
      omega
    subst hi2
    simp at hq
    subst hq
    exact ⟨A, c, by rw [← h1]; simp, hc, hk.rdT (by decide) hp, hx⟩
/-- What does not change while pricing.Simple searches. -/
structure Stat (w0 wR : World) (t : Tp) (AO : Option Addr) (co : Nat) (AL : Option Addr) (cl : Nat) (AD : Option Addr) (cd : Nat) (down : List Bool) (d most N gv gs gd gl gll gt gw gm gf : Nat) : Prop where
  x0 : Ext w0 wR
  top : TopR w0 t AO co AL cl
  dn : Rd w0 AD (bools down)
  g0 : w0.heap.size ≤ gs
  gsR : ∃ l : List Bool, Blk wR gs 4 (bools l).toArray
  vv : Blk wR gv 22 #[.slice (some ⟨gs, 0, none⟩) N N]
  dd : Blk wR gd 3 #[.int .i64 d]
  lv : Blk wR gl 31 #[.slice (some ⟨gll, 0, none⟩) N N]
  ll : LL wR gll N (leavP t)
  tt : Blk wR gt 25 #[.int .i64 t.nodes, .slice AO t.over.length co, .slice AL t.links.length cl]
  ww : Blk wR gw 22 #[.slice AD down.length cd]
  mm : Blk wR gm 3 #[.int .i64 most]
  ff : Blk wR gf 93 #[.func (.func 52) #[] #[.pointer (some ⟨gv, 0, none⟩), .pointer (some ⟨gd, 0, none⟩), .pointer (some ⟨gl, 0, none⟩), .pointer (some ⟨gt, 0, none⟩), .pointer (some ⟨gw, 0, none⟩)]]
/-- The search's own state: what is visited, the paths that were found, the path that leads here. -/
structure SState (w0 wR : World) (gs : Nat) (clo : Value) (w : World) (vis : List Bool) (ps : List (List Nat)) (path : List Nat) (pv qv : Value) : Prop where
  ext : Ext w0 w
  size : wR.heap.size + 3 ≤ w.heap.size
  fr : ∀ k, k < wR.heap.size → k ≠ gs → w.heap[k]? = wR.heap[k]?
  row : Blk w gs 4 (bools vis).toArray
  pc : Blk w wR.heap.size 31 #[pv]
  qc : Blk w (wR.heap.size + 1) 39 #[qv]
  sr : Blk w (wR.heap.size + 2) 94 #[clo]
  pp : PathsA w (wR.heap.size + 3) pv ps qv.ownBlock
  qq : w.ownsRow (wR.heap.size + 3) 3 1 qv path.length (ints path)
section
variable {w0 wR w w' : World} {gs : Nat} {clo : Value} {vis : List Bool} {ps : List (List Nat)} {path : List Nat} {pv qv : Value}
theorem grown_ext (hx : Ext w w') : w.grownBy w' none := ⟨hx.os, hx.tape, hx.output, hx.size, fun k hk _ => hx.block k hk⟩
theorem own_none (v : Value) : v.ownBlock = none ∨ v.ownBlock ≠ none := Classical.em _
theorem SState.keep (h : SState w0 wR gs clo w vis ps path pv qv) (hx : Ext w w') : SState w0 wR gs clo w' vis ps path pv qv :=
  ⟨h.ext.tr hx, Nat.le_trans h.size hx.size, fun k hk hne => (hx.block k (by have := h.size; omega)).trans (h.fr k hk hne), h.row.keep hx, h.pc.keep hx, h.qc.keep hx, h.sr.keep hx,
    h.pp.kept (grown_ext hx) (own_none _) (fun k hk => by cases hk), h.qq.kept (grown_ext hx) (own_none _)⟩
theorem SState.blk (h : SState w0 wR gs clo w vis ps path pv qv) (hg : ∃ l : List Bool, Blk wR gs 4 (bools l).toArray) {g : Nat} {ty : TypeId} {cs : Array Value} (hb : Blk wR g ty cs) (hne : ty ≠ 4) : Blk w g ty cs := by
  obtain ⟨l, hl⟩ := hg
  exact (h.fr g hb.lt (hb.ne_ hl hne)).trans hb
theorem SState.rdT (h : SState w0 wR gs clo w vis ps path pv qv) (hg : ∃ l : List Bool, Blk wR gs 4 (bools l).toArray) {A : Option Addr} {ty : TypeId} {xs : List Value} (hb : RdT wR ty A xs) (hne : ty ≠ 4) : RdT w ty A xs := fun hx => by
  obtain ⟨l, hl⟩ := hg
  obtain ⟨b, o, cs, fr, e, hb, hc⟩ := hb hx
  refine ⟨b, o, cs, fr, e, (h.fr b (lt_of_get hb) ?_).trans hb, hc⟩
  rintro rfl
  unfold Blk at hl
  rw [hl] at hb
  injection hb with hb
  injection hb with _ ht
  exact hne ht.symm
theorem SState.ll (h : SState w0 wR gs clo w vis ps path pv qv) (hg : ∃ l : List Bool, Blk wR gs 4 (bools l).toArray) {gll N : Nat} {X : Nat → List Nat} (hl : LL wR gll N X) : LL w gll N X := by
  obtain ⟨V, h1, h2⟩ := hl
  refine ⟨V, h.blk hg h1 (by decide), fun i hi => ?_⟩
  obtain ⟨A, c, h3, h4, h5⟩ := h2 i hi
  exact ⟨A, c, h3, h4, h.rdT hg h5 (by decide)⟩
theorem SState.env {t : Tp} {AO : Option Addr} {co : Nat} {AL : Option Addr} {cl : Nat} {AD : Option Addr} {cd : Nat} {down : List Bool} {d most N gv gd gl gll gt gw gm gf : Nat} (h : SState w0 wR gs clo w vis ps path pv qv) (s : Stat w0 wR t AO co AL cl AD cd down d most N gv gs gd gl gll gt gw gm gf) :
    Env w t AO co AL cl AD cd down d N gv gs gd gl gll gt gw vis :=
  ⟨s.top.keep h.ext, s.dn.keep h.ext, h.blk s.gsR s.vv (by decide), h.row, h.blk s.gsR s.dd (by decide), h.blk s.gsR s.lv (by decide), h.ll s.gsR s.ll, h.blk s.gsR s.tt (by decide), h.blk s.gsR s.ww (by decide)⟩
theorem grown_set (w : World) (g k : Nat) (u : Value) : w.grownBy (w.setCell ⟨g, k, none⟩ u) (some g) :=
  ⟨rfl, rfl, rfl, by simp [World.setCell], fun i _ hne => Below.heap_setCell w ⟨g, k, none⟩ u i (fun e => hne (by rw [e]))⟩
theorem blk_not {g : Nat} {ty : TypeId} {cs : Array Value} (h : Blk w g ty cs) (hne : ty ≠ 3) : ∀ k, some g = some k → ∀ cs fr, w.heap[k]? ≠ some (.cells cs 3 fr) := by
  rintro k e cs' fr h2
  injection e with e
  subst e
  unfold Blk at h
  rw [h] at h2
  injection h2 with h2
  injection h2 with _ h2
  exact hne h2
theorem own_ne {B n g : Nat} {e : TypeId} {v : Value} {xs : List Value} (h : w.ownsRow B e 1 v n xs) (hg : g < B) : v.ownBlock = none ∨ v.ownBlock ≠ some g := by
  right
  intro e
  have := (h.lt g e).1
  omega
theorem own_type {B n m C : Nat} {e e' : TypeId} {v v' : Value} {xs ys : List Value} (h : w.ownsRow B e 1 v n xs) (h' : w.ownsRow C e' 1 v' m ys) (hne : e ≠ e') : v.ownBlock = none ∨ v.ownBlock ≠ v'.ownBlock := by
  by_cases hn : v.ownBlock = none
  · exact .inl hn
  · right
    intro heq
    obtain ⟨k, hk⟩ := Option.ne_none_iff_exists'.1 hn
    obtain ⟨c1, f1, e1⟩ := Lib.ownsRow_kind h k hk
    obtain ⟨c2, f2, e2⟩ := Lib.ownsRow_kind h' k (heq ▸ hk)
    rw [e1] at e2
    injection e2 with e2
    injection e2 with _ e2
    exact hne e2
/-- A flag is set or taken back. -/
theorem SState.flag (h : SState w0 wR gs clo w vis ps path pv qv) (g0 : w0.heap.size ≤ gs) (gR : gs < wR.heap.size) {k : Nat} (hk : k < vis.length) (b : Bool) : SState w0 wR gs clo (w.setCell ⟨gs, k, none⟩ (.bool b)) (vis.set k b) ps path pv qv := by
  have hg := grown_set w gs k (.bool b)
  obtain ⟨cells, h1, h2, h3⟩ := h.pp
  refine ⟨Ext.set_ h.ext (p := ⟨gs, k, none⟩) g0 _, Nat.le_trans h.size hg.size, fun i hi hne => (hg.block i (by have := h.size; omega) (fun e => hne (by injection e))).trans (h.fr i hi hne), ?_,
    (h.pc.far (p := ⟨gs, k, none⟩) (by simp only; omega) _), (h.qc.far (p := ⟨gs, k, none⟩) (by simp only; omega) _), (h.sr.far (p := ⟨gs, k, none⟩) (by simp only; omega) _),
    h.pp.kept hg (own_ne h2 (by omega)) (blk_not h.row (by decide)), h.qq.kept hg (own_ne h.qq (by omega))⟩
  have e := bools_set vis [] k hk b
  rw [List.append_nil, List.append_nil] at e
  rw [← e]
  exact h.row.set_ k _
/-- An arc is appended to the path. -/
theorem SState.step {w2 : World} {a : Nat} {qv' : Value} (h : SState w0 wR gs clo w vis ps path pv qv) (x0 : Ext w0 wR) (hg : w.grownBy w2 qv.ownBlock) (hown : w2.ownsRow (wR.heap.size + 3) 3 1 qv' (path.length + 1) (ints path ++ [.int .i64 (a : Int)]))
    (hy : qv'.ownBlock = qv.ownBlock ∨ qv'.ownBlock = some w.heap.size) (gR : gs < wR.heap.size) : SState w0 wR gs clo (w2.setCell ⟨wR.heap.size + 1, 0, none⟩ qv') vis ps (path ++ [a]) pv qv' := by
  obtain ⟨cells, h1, h2, h3⟩ := h.pp
  have ne : ∀ k, k < wR.heap.size + 3 → some k ≠ qv.ownBlock := fun k hk e => by
    have := (h.qq.lt k e.symm).1
    omega
  have hs := h.size
  have hx := x0.size
  have hg2 := grown_set w2 (wR.heap.size + 1) 0 qv'
  have hb2 : Ext w0 w2 := Below.grown h.ext hg h.ext.size (fun k hk => by have := (h.qq.lt k hk).1; omega)
  have hp2 := h.pp.app hg (own_type h2 h.qq (by decide)) hy
  have hq2 : Blk w2 (wR.heap.size + 1) 39 #[qv] := (hg.block _ (by omega) (ne _ (by omega))).trans h.qc
  obtain ⟨cells2, j1, j2, j3⟩ := hp2
  refine ⟨Ext.set_ hb2 (p := ⟨wR.heap.size + 1, 0, none⟩) (by simp only; omega) _, Nat.le_trans (Nat.le_trans hs hg.size) hg2.size, fun i hi hne => (hg2.block i (by have := hg.size; omega) (fun e => by injection e with e; omega)).trans ((hg.block i (by omega) (ne i (by omega))).trans (h.fr i hi hne)),
    Blk.far (p := ⟨wR.heap.size + 1, 0, none⟩) (show Blk w2 gs _ _ from (hg.block gs (by omega) (ne _ (by omega))).trans h.row) (by simp only; omega) _,
    Blk.far (p := ⟨wR.heap.size + 1, 0, none⟩) (show Blk w2 wR.heap.size _ _ from (hg.block _ (by omega) (ne _ (by omega))).trans h.pc) (by simp only; omega) _,
    hq2.set_ 0 qv',
    Blk.far (p := ⟨wR.heap.size + 1, 0, none⟩) (show Blk w2 (wR.heap.size + 2) _ _ from (hg.block _ (by omega) (ne _ (by omega))).trans h.sr) (by simp only; omega) _,
    PathsA.kept ⟨cells2, j1, j2, j3⟩ hg2 (own_ne j2 (by omega)) (blk_not hq2 (by decide)), ?_⟩
  have := hown.kept hg2 (own_ne hown (by omega))
  rw [List.length_append, ints_snoc]
  exact this
/-- The last arc is taken back. -/
theorem SState.back {a g cap : Nat} (h : SState w0 wR gs clo w vis ps (path ++ [a]) pv (.slice (some ⟨g, 0, none⟩) (path.length + 1) cap)) (x0 : Ext w0 wR) (gR : gs < wR.heap.size) :
    SState w0 wR gs clo (w.setCell ⟨wR.heap.size + 1, 0, none⟩ (.slice (some ⟨g, 0, none⟩) path.length cap)) vis ps path pv (.slice (some ⟨g, 0, none⟩) path.length cap) := by
  obtain ⟨cells, h1, h2, h3⟩ := h.pp
  have hs := h.size
  have hx := x0.size
  have hg2 := grown_set w (wR.heap.size + 1) 0 (.slice (some ⟨g, 0, none⟩) path.length cap)
  have hq : w.ownsRow (wR.heap.size + 3) 3 1 (.slice (some ⟨g, 0, none⟩) path.length cap) path.length (ints path) := by
    obtain ⟨k1, k2⟩ := h.qq
    rcases k2 with ⟨e, _⟩ | ⟨g', cap', cur, e, q1, q2, q3, q4, q5, q6⟩
    · cases e
    · injection e with e1 e2 e3
      injection e1 with e1
      injection e1 with e1
      subst e1 e3
      refine ⟨by simp [ints], .inr ⟨g, cap, cur, rfl, q1, q2, by simp at q3; omega, q4, q5, ?_⟩⟩
      have e1 : (cur.toList.take ((path ++ [a]).length * 1)).take path.length = cur.toList.take path.length := by rw [List.take_take, Nat.min_eq_left (by simp)]
      have e2 : (ints (path ++ [a])).take path.length = ints path := by rw [ints_snoc, List.take_append_of_le_length (by simp [ints]), List.take_of_length_le (by simp [ints])]
      rw [Nat.mul_one, ← e1, q6, e2]
  refine ⟨Ext.set_ h.ext (p := ⟨wR.heap.size + 1, 0, none⟩) (by simp only; omega) _, Nat.le_trans hs hg2.size, fun i hi hne => (hg2.block i (by omega) (fun e => by injection e with e; omega)).trans (h.fr i hi hne),
    Blk.far (p := ⟨wR.heap.size + 1, 0, none⟩) h.row (by simp only; omega) _, Blk.far (p := ⟨wR.heap.size + 1, 0, none⟩) h.pc (by simp only; omega) _, h.qc.set_ 0 _, Blk.far (p := ⟨wR.heap.size + 1, 0, none⟩) h.sr (by simp only; omega) _,
    h.pp.kept hg2 (own_ne h2 (by omega)) (blk_not h.qc (by decide)), hq.kept hg2 (own_ne hq (by omega))⟩
/-- A path is appended to the paths. -/
theorem SState.found {w2 : World} {pv' : Value} {A : Option Addr} {c : Nat} {cells : List Value} (h : SState w0 wR gs clo w vis ps path pv qv) (x0 : Ext w0 wR) (gR : gs < wR.heap.size) (h1 : cells.length = ps.length) (h2 : w.ownsRow (wR.heap.size + 3) 39 1 pv ps.length cells)
    (h3 : ∀ (i : Nat) (q : List Nat), ps[i]? = some q → ∃ (A : Option Addr) (c : Nat), cells[i]? = some (.slice A q.length c) ∧ q.length ≤ c ∧ RdT w 3 A (ints q) ∧ (q ≠ [] → ∀ a, A = some a → some a.block ≠ qv.ownBlock))
    (hp : RdT w 3 A (ints path)) (hc : path.length ≤ c) (hne : path ≠ [] → ∀ a, A = some a → some a.block ≠ qv.ownBlock)
    (hg : w.grownBy w2 pv.ownBlock) (hown : w2.ownsRow (wR.heap.size + 3) 39 1 pv' (ps.length + 1) (cells ++ [.slice A path.length c])) :
    SState w0 wR gs clo (w2.setCell ⟨wR.heap.size, 0, none⟩ pv') vis (ps ++ [path]) path pv' qv := by
  have ne : ∀ k, k < wR.heap.size + 3 → some k ≠ pv.ownBlock := fun k hk e => by
    have := (h2.lt k e.symm).1
    omega
  have hs := h.size
  have hx := x0.size
  have hg2 := grown_set w2 wR.heap.size 0 pv'
  have hb2 : Ext w0 w2 := Below.grown h.ext hg h.ext.size (fun k hk => by have := (h2.lt k hk).1; omega)
  have hp2 := PathsA.push (x := qv.ownBlock) h1 h2 h3 hp hc hne hown hg
  have hq2 : Blk w2 wR.heap.size 31 #[pv] := (hg.block _ (by omega) (ne _ (by omega))).trans h.pc
  have hqq := h.qq.kept hg (own_type h.qq h2 (by decide))
  exact ⟨Ext.set_ hb2 (p := ⟨wR.heap.size, 0, none⟩) (by simp only; omega) _, Nat.le_trans (Nat.le_trans hs hg.size) hg2.size, fun i hi hne => (hg2.block i (by have := hg.size; omega) (fun e => by injection e with e; omega)).trans ((hg.block i (by omega) (ne i (by omega))).trans (h.fr i hi hne)),
    Blk.far (p := ⟨wR.heap.size, 0, none⟩) (show Blk w2 gs _ _ from (hg.block gs (by omega) (ne _ (by omega))).trans h.row) (by simp only; omega) _,
    hq2.set_ 0 pv',
    Blk.far (p := ⟨wR.heap.size, 0, none⟩) (show Blk w2 (wR.heap.size + 1) _ _ from (hg.block _ (by omega) (ne _ (by omega))).trans h.qc) (by simp only; omega) _,
    Blk.far (p := ⟨wR.heap.size, 0, none⟩) (show Blk w2 (wR.heap.size + 2) _ _ from (hg.block _ (by omega) (ne _ (by omega))).trans h.sr) (by simp only; omega) _,
    PathsA.kept hp2 hg2 (own_ne hown (by omega)) (blk_not hq2 (by decide)), hqq.kept hg2 (own_ne hqq (by omega))⟩
end
end Go.Proofs.YtekiomanidimnaaGreatDoor
