/- pricing.Simple's second closure: the search. -/
/- pricing.Simple's second closure: the search, whole. -/
/- pricing.Simple. -/
import Derived.Test.YtekiomanidimnaaGreatDoorME
import Derived.Deep.RegionHeld3
import Derived.Laws.EntriesVeiled
set_option linter.unusedVariables false
set_option linter.unusedSimpArgs false

namespace Go.Proofs.YtekiomanidimnaaGreatDoor
open Go.RowKit
theorem cloneI_ok (B : Nat) (qv : Value) (path : List Nat) (w : World) (hq : w.ownsRow B 3 1 qv path.length (ints path)) (hl : path.length ≤ 1000) :
    Calls Tryz.prog 57 #[qv] w fun e w' => ∃ (A : Option Addr) (c : Nat), e = .returned (.slice A path.length c) ∧ path.length ≤ c ∧ RdT w' 3 A (ints path) ∧ (path ≠ [] → ∀ a, A = some a → w.heap.size ≤ a.block) ∧ Ext w w' := by
  obtain ⟨ti, hi, hz0, hz1, hz2⟩ := info_parts Tryz.info3
  have hq0 := hq
  rcases hq.2 with ⟨rfl, h0⟩ | ⟨g, cap, cur, rfl, k1, k2, k3, k4, k5, k6⟩
  · have hp : path = [] := List.eq_nil_of_length_eq_zero h0
    subst hp
    refine (Tryz.slices_Clone_nil_f57 0 0 w).mono ?_
    rintro e w' ⟨rfl, rfl⟩
    exact ⟨none, 0, rfl, Nat.le_refl _, RdT.nil _ _ _, fun h => absurd rfl h, Ext.refl _⟩
  · refine (Tryz.slices_Clone_f57 ti (.int .i64 0) 1 8 hi hz0 hz1 hz2 rfl (by decide) (fun w => by simp [Go.sizeOf, typeInfo, hi, hz1]) g 0 path.length cap (ints path) w (by simp [ints]) (by unfold maxLen; omega) (by omega) ?_ (ints_one _)).mono ?_
    · intro j u hj
      rw [Nat.zero_add, hq0.cellAt j (by have := (List.getElem?_eq_some_iff.1 hj).1; rw [ints_length] at this; omega)]
      exact hj
    · rintro e w' ⟨v', rfl, hown, hne, hbel⟩
      obtain ⟨A, c, rfl, h1, h2⟩ := ownsRow_rdT (l := path) hown rfl
      refine ⟨A, c, rfl, h1, h2, fun _ a ha => ?_, hbel⟩
      subst ha
      obtain ⟨g', cap', hv, h3, _⟩ : ∃ g' cap', (Value.slice (some a) path.length c) = .slice (some ⟨g', 0, none⟩) path.length cap' ∧ w.heap.size ≤ g' ∧ True := by
        rcases hown.2 with ⟨e, _⟩ | ⟨g', cap', _, e, h4, _⟩
        · cases e
        · exact ⟨g', cap', e, h4, trivial⟩
      injection hv with hv
      injection hv with hv
      subst hv
      exact h3
/-- What the search's closure captures. -/
@[reducible] def srchClo (R gd gv gl gt gm gw gf : Nat) : Value :=
  .func (.func 56) #[] #[.pointer (some ⟨gd, 0, none⟩), .pointer (some ⟨R, 0, none⟩), .pointer (some ⟨R + 1, 0, none⟩), .pointer (some ⟨gv, 0, none⟩), .pointer (some ⟨gl, 0, none⟩), .pointer (some ⟨gt, 0, none⟩), .pointer (some ⟨gm, 0, none⟩), .pointer (some ⟨gw, 0, none⟩), .pointer (some ⟨gf, 0, none⟩), .pointer (some ⟨R + 2, 0, none⟩)]
/-- What one arc does to the paths. -/
def srchG (t : Tp) (down : List Bool) (d most f : Nat) (path : List Nat) (vis : List Bool) (ps : List (List Nat)) (a : Nat) : List (List Nat) :=
  if decide (most < ps.length) || vis[(headP t a).toNat]?.getD false || !usableP t down a d || !leftP t down d vis (headP t a).toNat then ps
      else srchP t down d most f (path ++ [a]) (headP t a).toNat vis ps
set_option maxRecDepth 100000 in
set_option maxHeartbeats 8000000 in
theorem search_end (t : Tp) (AO : Option Addr) (co : Nat) (AL : Option Addr) (cl : Nat) (AD : Option Addr) (cd : Nat) (down : List Bool) (d most N gv gs gd gl gll gt gw gm gf : Nat) (w0 wR : World) (hs : Stat w0 wR t AO co AL cl AD cd down d most N gv gs gd gl gll gt gw gm gf) (hm : most ≤ 1000)
    (path : List Nat) (vis : List Bool) (ps : List (List Nat)) (pv qv : Value) (w : World) (hpl : path.length ≤ 1000) (hps : ps.length ≤ most) (hst : SState w0 wR gs (srchClo wR.heap.size gd gv gl gt gm gw gf) w vis ps path pv qv) :
    Calls Tryz.prog 56 #[.int .i64 d, .pointer (some ⟨gd, 0, none⟩), .pointer (some ⟨wR.heap.size, 0, none⟩), .pointer (some ⟨wR.heap.size + 1, 0, none⟩), .pointer (some ⟨gv, 0, none⟩), .pointer (some ⟨gl, 0, none⟩), .pointer (some ⟨gt, 0, none⟩), .pointer (some ⟨gm, 0, none⟩), .pointer (some ⟨gw, 0, none⟩), .pointer (some ⟨gf, 0, none⟩), .pointer (some ⟨wR.heap.size + 2, 0, none⟩)] w fun e w' =>
      e = .returned (.tuple #[]) ∧ ∃ pv' qv', SState w0 wR gs (srchClo wR.heap.size gd gv gl gt gm gw gf) w' vis (ps ++ [path]) path pv' qv' := by
  have gR : gs < wR.heap.size := by obtain ⟨l, hl⟩ := hs.gsR; exact hl.lt
  have cd0 := (hst.blk hs.gsR hs.dd (by decide)).one.1
  have hb : ((d : Int) == (d : Int)) = true := by simp
  have hz := hst.size
  obtain ⟨c1, f1⟩ := hst.pc.one
  have c2 := hst.qc.one.1
  obtain ⟨ti2, hi2, hy0, hy1, hy2⟩ := info_parts Tryz.info39
  have SS := Lib.hid (hs)
  have ST := Lib.hid (hst)
  clear hs hst
  generalize hR : wR.heap.size = R at *
  have HR := Lib.hid (hR)
  clear hR
  go_enter Tryz.func56, Tryz.ntmps56
  go_wp2
  have W0 := Lib.hid (show Ext w w.drew from (Ext.refl w).drewN 1)
  go_region_law
    (first
      | (rw [if_pos (by rfl)]
         refine wp_append_rd _ (.tmp 18) (.tmp 21) 31 (by rfl) (R + 3) 39 ti2 (.slice none 0 0) 24 Tryz.underlying31 hi2 hy0 hy1 hy2 rfl pv ps.length cells (by rfl) (by have := PO.out; rw [HR.out] at this; exact this) (some ⟨w1.heap.size, 0, none⟩) 1 1 [.slice A path.length c] (by rfl) rfl (Rd.new _ _ _ rfl rfl) (fun h => by cases h) (fun u hu => by simp at hu; subst hu; rfl) (by unfold maxLen; omega) (by omega) (by have := SA.out.size; rw [HR.out] at this; simp at this ⊢; omega) ?_
         intro v5 w5 hown5 hgrow5 _
         obtain ⟨g5, c5, rfl⟩ : ∃ g5 c5, v5 = .slice (some ⟨g5, 0, none⟩) (ps.length + 1) c5 := by
           rcases hown5.2 with ⟨_, hq⟩ | ⟨g5, c5, _, hq, _⟩
           · omega
           · exact ⟨g5, c5, hq⟩
         have FIN := Lib.hid (SA.out.found SS.out.x0 (by rw [HR.out]; exact gR) PC.out PO.out PR.out HRD.out hc HNE.out hgrow5 (by rw [HR.out]; exact hown5))
         have hne5 : some R ≠ pv.ownBlock := fun e => by
           have := (PO.out.lt R e.symm).1
           rw [HR.out] at this
           omega
         have hne6 : some (R + 1) ≠ pv.ownBlock := fun e => by
           have := (PO.out.lt (R + 1) e.symm).1
           rw [HR.out] at this
           omega
         have hB := (hgrow5.block R (by have := SA.out.size; rw [HR.out] at this; omega) hne5).trans (show Blk _ R _ _ by have := SA.out.pc; rw [HR.out] at this; exact this)
         have hB2 := (hgrow5.block (R + 1) (by have := SA.out.size; rw [HR.out] at this; omega) hne6).trans (show Blk _ (R + 1) _ _ by have := SA.out.qc; rw [HR.out] at this; exact this)
         obtain ⟨c1, f1⟩ := (show Blk w5 R 31 #[pv] from hB).one
         have c2 := (show Blk w5 (R + 1) 39 #[qv] from hB2).one.1
         clear hne5 hne6 hB hB2 hown5 hgrow5)
      | (rw [if_pos (by rfl)]
         go_simp
         refine (cloneI_ok (R + 3) qv path _ (by have := ST.out.qq; rw [HR.out] at this; exact this) hpl).mono ?_
         rintro e w1 ⟨A, c, rfl, hc, hr, hne, hx1⟩
         have SX := Lib.hid (ST.out.keep (W0.out.tr hx1))
         have SA := Lib.hid (SX.out.keep ((Ext.refl w1).alloc (.cells #[.slice A path.length c] 39)))
         have HNE := Lib.hid (show path ≠ [] → ∀ a, A = some a → some a.block ≠ qv.ownBlock from fun h a ha e => by
           have h1 := hne h a ha
           have h2 := (ST.out.qq.lt _ e.symm).2
           simp at h1
           omega)
         have HRD := Lib.hid (hr.keep ((Ext.refl w1).alloc (.cells #[.slice A path.length c] 39)))
         obtain ⟨cells, pc, pown, prd⟩ := SA.out.pp
         have PC := Lib.hid pc
         have PO := Lib.hid pown
         have PR := Lib.hid prd
         obtain ⟨c1, f1⟩ := SX.out.pc.one
         have c2 := SX.out.qc.one.1
         rw [HR.out] at c1 f1 c2
         have hz1 := SX.out.size
         rw [HR.out] at hz1
         have hz2 : R < w1.heap.size := by omega
         clear hx1 pc pown prd hr hne))
  all_goals
    go_wp2
    refine bodyPost_ret (results_none rfl _ _ _) rfl ?_
    have FF := FIN.out
    rw [HR.out] at FF
    exact ⟨rfl, _, _, FF⟩
end Go.Proofs.YtekiomanidimnaaGreatDoor


namespace Go.Proofs.YtekiomanidimnaaGreatDoor
open Go.RowKit
theorem set_back {l : List Bool} {k : Nat} (h : l[k]? = some false) : (l.set k true).set k false = l := by
  obtain ⟨hk, he⟩ := List.getElem?_eq_some_iff.1 h
  rw [List.set_set]
  apply List.ext_getElem?
  intro i
  rw [List.getElem?_set]
  split
  · rename_i e; subst e; simp [hk, he]
  · rfl
theorem srchP_succ (t : Tp) (down : List Bool) (d most f : Nat) (path : List Nat) (n : Nat) (vis : List Bool) (ps : List (List Nat)) (h : n ≠ d) : srchP t down d most (f + 1) path n vis ps = (leavP t n).foldl (srchG t down d most f path (vis.set n true)) ps := by
  rw [srchP, if_neg h]; rfl
theorem PathsA.form {w : World} {B : Nat} {v : Value} {ps : List (List Nat)} {x : Option Nat} (h : PathsA w B v ps x) : ∃ A c, v = .slice A ps.length c := h.paths.form
theorem own_form {w : World} {B n : Nat} {e : TypeId} {v : Value} {xs : List Value} (h : w.ownsRow B e 1 v (n + 1) xs) : ∃ g cap, v = .slice (some ⟨g, 0, none⟩) (n + 1) cap ∧ n + 1 ≤ cap := by
  rcases h.2 with ⟨_, h2⟩ | ⟨g, cap, _, h2, _, _, h3, _⟩
  · omega
  · exact ⟨g, cap, h2, h3⟩
theorem own_form' {w : World} {B n : Nat} {e : TypeId} {v : Value} {xs : List Value} (h : w.ownsRow B e 1 v n xs) : ∃ A cap, v = .slice A n cap := by
  rcases h.2 with ⟨h1, h2⟩ | ⟨g, cap, _, h2, _⟩
  · exact ⟨none, 0, by rw [h1, h2]⟩
  · exact ⟨_, cap, h2⟩
set_option maxRecDepth 100000 in
set_option maxHeartbeats 8000000 in
theorem search_ok (t : Tp) (AO : Option Addr) (co : Nat) (AL : Option Addr) (cl : Nat) (AD : Option Addr) (cd : Nat) (down : List Bool) (d most N gv gs gd gl gll gt gw gm gf : Nat) (w0 wR : World) (hs : Stat w0 wR t AO co AL cl AD cd down d most N gv gs gd gl gll gt gw gm gf) (hm : most ≤ 1000)
    (hv : validP t = true) (hf : fitsP t down = true) (hcd : down.length ≤ 281474976710656) (hdc : down.length ≤ cd) (hN : t.nodes = (N : Int)) (hd : d < N) (f : Nat) :
    ∀ (path : List Nat) (n : Nat) (vis : List Bool) (ps : List (List Nat)) (pv qv : Value) (w : World), unset vis = f → vis.length = N → vis[n]? = some false → path.length + f ≤ 1000 → ps.length ≤ most → SState w0 wR gs (srchClo wR.heap.size gd gv gl gt gm gw gf) w vis ps path pv qv →
    Calls Tryz.prog 56 #[.int .i64 n, .pointer (some ⟨gd, 0, none⟩), .pointer (some ⟨wR.heap.size, 0, none⟩), .pointer (some ⟨wR.heap.size + 1, 0, none⟩), .pointer (some ⟨gv, 0, none⟩), .pointer (some ⟨gl, 0, none⟩), .pointer (some ⟨gt, 0, none⟩), .pointer (some ⟨gm, 0, none⟩), .pointer (some ⟨gw, 0, none⟩), .pointer (some ⟨gf, 0, none⟩), .pointer (some ⟨wR.heap.size + 2, 0, none⟩)] w fun e w' =>
      e = .returned (.tuple #[]) ∧ ∃ pv' qv', SState w0 wR gs (srchClo wR.heap.size gd gv gl gt gm gw gf) w' vis (srchP t down d most f path n vis ps) path pv' qv' := by
  induction f with
  | zero => intro path n vis ps pv qv w hu _ hvn; have := unset_set hvn; omega
  | succ f ih =>
  intro path n vis ps pv qv w hu hvl hvn hpl hps hst
  by_cases hnd : n = d
  · subst hnd
    have := search_end t AO co AL cl AD cd down n most N gv gs gd gl gll gt gw gm gf w0 wR hs hm path vis ps pv qv w (by omega) hps hst
    rw [show srchP t down n most (f + 1) path n vis ps = ps ++ [path] by rw [srchP, if_pos rfl]]
    exact this
  rw [srchP_succ t down d most f path n vis ps hnd]
  have hN2 : N ≤ 64 := by
    have := hv
    unfold validP headOk inB at this
    simp at this
    omega
  have h3 := hs.top.ll
  have h4 := hs.top.cl
  have hnl := (List.getElem?_eq_some_iff.1 hvn).1
  subst hvl
  have hu2 : unset (vis.set n true) = f := by have := unset_set hvn; omega
  have gR : gs < wR.heap.size := by obtain ⟨l, hl⟩ := hs.gsR; exact hl.lt
  have cd0 := (hst.blk hs.gsR hs.dd (by decide)).one.1
  have hb : ((n : Int) == (d : Int)) = false := beq_eq_false_iff_ne.2 (by omega)
  have hz := hst.size
  obtain ⟨ti, hi, hz0, hz1, hz2⟩ := info_parts Tryz.info3
  have cv := (hst.blk hs.gsR hs.vv (by decide)).one.1
  have cr : w.cell? ⟨gs, n, none⟩ = some (.bool false) := by
    have e0 := bools_get vis [] n hnl
    rw [List.append_nil, hvn] at e0
    exact (hst.row.cell n).trans e0
  have fr := hst.row.frozen n
  have hnl' : (n : Int) < (vis.length : Int) := by omega
  have ST1 := Lib.hid (hst.flag hs.g0 gR hnl true)
  have SS := Lib.hid (hs)
  have HV := Lib.hid (hv)
  have HFT := Lib.hid (hf)
  have HN := Lib.hid (hN)
  have HVN := Lib.hid (hvn)
  have HU := Lib.hid (hu2)
  have IH := Lib.hid (ih)
  clear hs hst hv hf hN hvn hu hu2 ih hnd
  generalize hR : wR.heap.size = R at *
  have HR := Lib.hid (hR)
  clear hR
  go_enter Tryz.func56, Tryz.ntmps56
  go_upto_region 2 with fail
  go_cut [] (fun wx => SState w0 wR gs (srchClo R gd gv gl gt gm gw gf) wx (vis.set n true) ps path pv qv)
  case first =>
    go_wp2
    go_meet
    exact ST1.out
  case rest =>
    have ST2 := Lib.hid hcut
    clear hcut ST1 cv cr fr cd0
    have cl0 := (ST2.out.blk SS.out.gsR SS.out.lv (by decide)).one.1
    obtain ⟨V, v1, v2⟩ := SS.out.ll
    have cl1 := ((ST2.out.blk SS.out.gsR v1 (by decide)).cell n).trans (range_map_get _ V n hnl)
    obtain ⟨AR, cr, v3, hcr, hrr⟩ := v2 n hnl
    rw [v3] at cl1
    have hlen := leavTo_len t (2 * t.links.length) n
    change (leavP t n).length ≤ _ at hlen
    have RR := Lib.hid hrr
    clear v1 v2 v3 V hrr
    generalize hL : (leavP t n).length = L at *
    have HL := Lib.hid (hL)
    clear hL
    go_wp2
    have V1L := Lib.hid (show (vis.set n true).length = vis.length by simp)
    generalize hV1 : vis.set n true = vis1 at *
    have HV1 := Lib.hid (hV1)
    clear hV1
    go_loopw [13, 14, 31] (fun _ _ it wr => ∃ (k : Nat) (pv qv : Value), k ≤ L ∧ it = .int .i64 k ∧ SState w0 wR gs (srchClo R gd gv gl gt gm gw gf) wr vis1 (((leavP t n).take k).foldl (srchG t down d most f path vis1) ps) path pv qv) (fun _ _ i _ => L - (intOf i).toNat)
    case atStart => exact ⟨0, pv, qv, Nat.zero_le _, rfl, ST2.out⟩
    case round =>
      clear ST2 cl0 cl1 pv qv
      obtain ⟨k, pv, qv, hk, rfl, hst⟩ := hrel
      generalize hQ : ((leavP t n).take k).foldl (srchG t down d most f path vis1) ps = qs at *
      have HQ := Lib.hid (hQ)
      clear hQ
      have hzr := hst.size
      rw [HR.out] at hzr
      by_cases hkl : k < L
      · obtain ⟨a, ha⟩ : ∃ a, (leavP t n)[k]? = some a := ⟨_, List.getElem?_eq_getElem (by rw [HL.out]; exact hkl)⟩
        have ha2 : a < 2 * t.links.length := leavP_lt (List.mem_of_getElem? ha)
        obtain ⟨h, hh, hhn⟩ := headP_ok HV.out ha2
        rw [HN.out] at hhn
        have hhl : h < vis1.length := by have := V1L.out; omega
        obtain ⟨b, o, rfl, hbl, hbc⟩ := (hst.rdT SS.out.gsR RR.out (by decide)).rd.ints_ (k := k) (by rw [HL.out]; exact hkl)
        rw [ha, Option.getD_some] at hbc
        have STEP := Lib.hid (show ((leavP t n).take (k + 1)).foldl (srchG t down d most f path vis1) ps = if decide (most < qs.length) || vis1[h]?.getD false || !usableP t down a d || !leftP t down d vis1 h then qs else srchP t down d most f (path ++ [a]) h vis1 qs by
          rw [List.take_add_one, ha, List.foldl_append, HQ.out]
          simp only [Option.toList_some, List.foldl_cons, List.foldl_nil]
          unfold srchG
          rw [hh, Int.toNat_natCast])
        have HH := Lib.hid (hh)
        obtain ⟨AP, cp, rfl⟩ := hst.pp.form
        have ct := hst.blk SS.out.gsR SS.out.tt (by decide)
        obtain ⟨⟨i0, i1, i2⟩, g0, g1, g2⟩ := ct.three
        have ST := Lib.hid (hst)
        clear ha hh hst ct HQ
        go_wp2_with fail
        refine (gHead_any t AO co AL cl a _ (SS.out.top.keep ST.out.ext) (by omega)).mono ?_
        rintro e w2 ⟨rfl, hx2⟩
        rw [HH.out]
        have ST3 := Lib.hid (ST.out.keep hx2)
        clear hx2 ST i0 i1 i2 g0 g1 g2 hbc
        have cp0 := ST3.out.pc.one.1
        rw [HR.out] at cp0
        have cm := (ST3.out.blk SS.out.gsR SS.out.mm (by decide)).one.1
        by_cases hmo : most < qs.length
        · have hS := STEP.out
          rw [show decide (most < qs.length) = true from decide_eq_true hmo] at hS
          simp only [Bool.true_or, if_true] at hS
          have HS := Lib.hid (hS)
          clear hS STEP
          go_wp2
          go_roundw
          case rel => exact ⟨k + 1, _, _, by omega, by go_num, by rw [HS.out]; exact ST3.out⟩
          case measure => simp [intOf]; omega
        · have hmo' : qs.length ≤ most := by omega
          have cv := (ST3.out.blk SS.out.gsR SS.out.vv (by decide)).one.1
          have cr := (ST3.out.row.cell h).trans (show (bools vis1).toArray[h]? = some (.bool (vis1[h]?.getD false)) by have e0 := bools_get vis1 [] h hhl; rw [List.append_nil] at e0; exact e0)
          have hhl' : (h : Int) < (vis.length : Int) := by have := V1L.out; omega
          cases hvh : vis1[h]?.getD false
          case true =>
            rw [hvh] at cr
            have hS := STEP.out
            rw [hvh] at hS
            simp only [Bool.true_or, Bool.or_true, if_true] at hS
            have HS := Lib.hid (hS)
            clear hS STEP hvh
            go_wp2
            go_roundw
            case rel => exact ⟨k + 1, _, _, by omega, by go_num, by rw [HS.out]; exact ST3.out⟩
            case measure => simp [intOf]; omega
          case false =>
            rw [hvh] at cr
            have ct := ST3.out.blk SS.out.gsR SS.out.tt (by decide)
            obtain ⟨⟨i0, i1, i2⟩, g0, g1, g2⟩ := ct.three
            have cw := (ST3.out.blk SS.out.gsR SS.out.ww (by decide)).one.1
            have cd1 := (ST3.out.blk SS.out.gsR SS.out.dd (by decide)).one.1
            have HVH := Lib.hid hvh
            clear hvh ct
            have hov : t.over = [] ∨ headP t a < t.over.length := by
              have := HV.out
              unfold validP headOk at this
              simp at this
              rw [HH.out]
              have hN9 := HN.out
              rcases this.1.2 with e | e
              · exact .inl e
              · right; omega
            have hdw : down = [] ∨ a < down.length := by
              have := HFT.out
              unfold fitsP at this
              simp at this
              rcases this with e | e
              · exact .inl e
              · right; omega
            have HOV := Lib.hid hov
            have HDW := Lib.hid hdw
            clear hov hdw
            go_wp2_with fail
            refine (usable_any t AO co AL cl AD cd down a d _ (SS.out.top.keep ST3.out.ext) (by omega) (SS.out.dn.keep ST3.out.ext) hdc hcd HDW.out (by rw [HH.out]; omega) HOV.out).mono ?_
            rintro e w3 ⟨rfl, hx3⟩
            have ST4 := Lib.hid (ST3.out.keep hx3)
            clear hx3 ST3 i0 i1 i2 g0 g1 g2 cw cd1 cv cr cp0 cm HOV HDW
            cases hus : usableP t down a d
            case false =>
              have hS := STEP.out
              rw [hus] at hS
              simp only [Bool.not_false, Bool.true_or, Bool.or_true, if_true] at hS
              have HS := Lib.hid (hS)
              clear hS STEP hus
              go_wp2
              go_roundw
              case rel => exact ⟨k + 1, _, _, by omega, by go_num, by rw [HS.out]; exact ST4.out⟩
              case measure => simp [intOf]; omega
            case true =>
              have HUS := Lib.hid hus
              clear hus
              have cf := (ST4.out.blk SS.out.gsR SS.out.ff (by decide)).one.1
              go_wp2_with fail
              refine (left_ok t AO co AL cl AD cd down h d vis.length gv gs gd gl gll gt gw vis1 _ (ST4.out.env SS.out) HV.out HFT.out hcd hdc HN.out V1L.out (by omega) hd).mono ?_
              rintro e w4 ⟨rfl, hx4⟩
              have ST5 := Lib.hid (ST4.out.keep hx4)
              clear hx4 ST4 cf
              cases hlf : leftP t down d vis1 h
              case false =>
                have hS := STEP.out
                rw [hlf] at hS
                simp only [Bool.not_false, Bool.or_true, if_true] at hS
                have HS := Lib.hid (hS)
                clear hS STEP hlf
                go_wp2
                go_roundw
                case rel => exact ⟨k + 1, _, _, by omega, by go_num, by rw [HS.out]; exact ST5.out⟩
                case measure => simp [intOf]; omega
              case true =>
                have hS := STEP.out
                rw [hlf, HVH.out, HUS.out, show decide (most < qs.length) = false from decide_eq_false hmo] at hS
                simp only [Bool.not_true, Bool.or_false, Bool.false_eq_true, if_false] at hS
                have HS := Lib.hid (hS)
                clear hS STEP hlf
                obtain ⟨AQ, cq, rfl⟩ := own_form' ST5.out.qq
                have hq0 := ST5.out.qc.one
                rw [HR.out] at hq0
                obtain ⟨cq0, fq0⟩ := hq0
                have SA := Lib.hid (ST5.out.keep ((Ext.refl w4).alloc (.cells #[.int .i64 (a : Int)] 3)))
                have hown := SA.out.qq
                rw [HR.out] at hown
                have OWN := Lib.hid (hown)
                clear hown
                go_wp2_with (at_builtin; go_must (refine wpList_append_rd _ rfl (.tmp 62) (.tmp 64) 39 rfl (R + 3) 3 ti (.int .i64 0) 8 Tryz.underlying39 hi hz0 hz1 hz2 rfl (.slice AQ path.length cq) path.length (ints path) rfl ?c0 (some ⟨w4.heap.size, 0, none⟩) 1 1 [.int .i64 (a : Int)] rfl rfl ?c1 ?c2 ?c3 ?c4 ?c5 ?c6 ?_))
                case c0 => exact OWN.out
                case c1 => exact Rd.new _ _ _ rfl rfl
                case c2 => intro h; cases h
                case c3 => intro u hu; simp at hu; subst hu; rfl
                case c4 => unfold maxLen; omega
                case c5 => omega
                case c6 => have := SA.out.size; rw [HR.out] at this; simp at this ⊢; omega
                intro v5 w5 hown5 hgrow5 hat5
                obtain ⟨g5, c5, rfl, hc5⟩ := own_form hown5
                have ST6 := Lib.hid (SA.out.step SS.out.x0 hgrow5 (by rw [HR.out]; exact hown5) (by simp at hat5 ⊢; exact hat5) (by rw [HR.out]; exact gR))
                have hne6 : some (R + 1) ≠ (Value.slice AQ path.length cq).ownBlock := fun e => by
                  have := (OWN.out.lt (R + 1) e.symm).1
                  omega
                have hB2 := (hgrow5.block (R + 1) (by have := SA.out.size; rw [HR.out] at this; omega) hne6).trans (show Blk _ (R + 1) _ _ by have := SA.out.qc; rw [HR.out] at this; exact this)
                obtain ⟨cq1, fq1⟩ := (show Blk w5 (R + 1) 39 #[.slice AQ path.length cq] from hB2).one
                have hsr := ST6.out.sr.one.1
                rw [HR.out] at hsr ST6
                clear hown5 hgrow5 hat5 hne6 hB2 OWN SA ST5 cq0 fq0
                have hvh2 : vis1[h]? = some false := by
                  have := HVH.out
                  rw [List.getElem?_eq_getElem hhl] at this ⊢
                  simpa using this
                have HVH2 := Lib.hid hvh2
                clear hvh2
                go_wp2_with fail
                have hcall := IH.out (path ++ [a]) h vis1 qs (.slice AP qs.length cp) (.slice (some ⟨g5, 0, none⟩) (path.length + 1) c5) _ (by have := HU.out; omega) V1L.out HVH2.out (by rw [List.length_append, List.length_singleton]; omega) hmo' ST6.out
                refine hcall.mono ?_
                rintro e w6 ⟨rfl, pv', qv', hst6⟩
                obtain ⟨g6, c6, rfl, hc6⟩ := own_form (n := path.length) (show World.ownsRow w6 (wR.heap.size + 3) 3 1 qv' (path.length + 1) (ints (path ++ [a])) by have := hst6.qq; rw [List.length_append, List.length_singleton] at this; exact this)
                have hq6 := hst6.qc.one
                rw [HR.out] at hq6
                obtain ⟨cq6, fq6⟩ := hq6
                have ST7 := Lib.hid (hst6.back SS.out.x0 (by rw [HR.out]; exact gR))
                rw [HR.out] at ST7
                clear hst6 hcall ST6 cq1 fq1 hsr HVH2
                go_wp2
                go_roundw
                case rel => exact ⟨k + 1, _, _, by omega, by go_num, by rw [HS.out]; exact ST7.out⟩
                case measure => simp [intOf]; omega
      · have hkL : k = L := by omega
        subst hkL
        have HQ2 := Lib.hid (show (leavP t n).foldl (srchG t down d most f path vis1) ps = qs by
          rw [← HQ.out, List.take_of_length_le (by rw [HL.out]; exact Nat.le_refl _)])
        have cv := (hst.blk SS.out.gsR SS.out.vv (by decide)).one.1
        have hnl1 : n < vis1.length := by have := V1L.out; omega
        obtain ⟨cr0, fr0⟩ : (∃ bb, wr.cell? ⟨gs, n, none⟩ = some (.bool bb)) ∧ wr.frozen? ⟨gs, n, none⟩ = false := by
          have e0 := bools_get vis1 [] n hnl1
          rw [List.append_nil] at e0
          exact ⟨⟨_, (hst.row.cell n).trans e0⟩, hst.row.frozen n⟩
        obtain ⟨bb, cr0⟩ := cr0
        have hfl := hst.flag SS.out.g0 (by rw [HR.out]; exact gR) hnl1 false
        rw [← HV1.out, set_back HVN.out] at hfl
        have ST := Lib.hid (hfl)
        clear hfl hst HQ
        go_wp2
        go_end0
        exact ⟨rfl, pv, qv, by rw [HV1.out, HQ2.out]; exact ST.out⟩
end Go.Proofs.YtekiomanidimnaaGreatDoor


namespace Go.Proofs.YtekiomanidimnaaGreatDoor
open Go.RowKit
/-- The parameters' boxes. -/
structure SBox (wx : World) (W : Nat) (t : Tp) (AO : Option Addr) (co : Nat) (AL : Option Addr) (cl : Nat) (AD : Option Addr) (cd : Nat) (down : List Bool) (d most : Int) : Prop where
  tt : Blk wx W 25 #[.int .i64 t.nodes, .slice AO t.over.length co, .slice AL t.links.length cl]
  ww : Blk wx (W + 1) 22 #[.slice AD down.length cd]
  dd : Blk wx (W + 1 + 1) 3 #[.int .i64 d]
  mm : Blk wx (W + 1 + 1 + 1) 3 #[.int .i64 most]
theorem SBox.keep {w w' : World} {W : Nat} {t : Tp} {AO : Option Addr} {co : Nat} {AL : Option Addr} {cl : Nat} {AD : Option Addr} {cd : Nat} {down : List Bool} {d most : Int} (h : SBox w W t AO co AL cl AD cd down d most) (hx : Ext w w') : SBox w' W t AO co AL cl AD cd down d most :=
  ⟨h.tt.keep hx, h.ww.keep hx, h.dd.keep hx, h.mm.keep hx⟩
theorem bools_replicate (N : Nat) : madeCells #[.bool false] N = (bools (List.replicate N false)).toArray := by
  apply Array.ext'
  rw [toList_madeCells_one]
  simp [bools]
theorem search_start (t : Tp) (AO : Option Addr) (co : Nat) (AL : Option Addr) (cl : Nat) (AD : Option Addr) (cd : Nat) (down : List Bool) (n d most N gll : Nat) (w w1 : World) (hT : TopR w t AO co AL cl) (hdn : Rd w AD (bools down)) (hx : Ext w w1) (hbx : SBox w1 w.heap.size t AO co AL cl AD cd down d most) (hll : LL w1 gll N (leavP t)) (hm : most ≤ 1000)
    (hv : validP t = true) (hf : fitsP t down = true) (hcd : down.length ≤ 281474976710656) (hdc : down.length ≤ cd) (hN : t.nodes = (N : Int)) (hN2 : N ≤ 64) (hd : d < N) (hn : n < N) :
    Calls Tryz.prog 56 #[.int .i64 n, .pointer (some ⟨w.heap.size + 1 + 1, 0, none⟩), .pointer (some ⟨w1.heap.size + 1 + 1 + 1 + 1, 0, none⟩), .pointer (some ⟨w1.heap.size + 1 + 1 + 1 + 1 + 1, 0, none⟩), .pointer (some ⟨w1.heap.size + 1 + 1, 0, none⟩), .pointer (some ⟨w1.heap.size, 0, none⟩), .pointer (some ⟨w.heap.size, 0, none⟩), .pointer (some ⟨w.heap.size + 1 + 1 + 1, 0, none⟩), .pointer (some ⟨w.heap.size + 1, 0, none⟩), .pointer (some ⟨w1.heap.size + 1 + 1 + 1, 0, none⟩), .pointer (some ⟨w1.heap.size + 1 + 1 + 1 + 1 + 1 + 1, 0, none⟩)]
      (((((((w1.alloc (.cells #[.slice (some ⟨gll, 0, none⟩) N N] 31)).alloc (.cells (madeCells #[.bool false] N) 4)).alloc (.cells #[.slice (some ⟨w1.heap.size + 1, 0, none⟩) N N] 22)).alloc
        (.cells #[.func (.func 52) #[] #[.pointer (some ⟨w1.heap.size + 1 + 1, 0, none⟩), .pointer (some ⟨w.heap.size + 1 + 1, 0, none⟩), .pointer (some ⟨w1.heap.size, 0, none⟩), .pointer (some ⟨w.heap.size, 0, none⟩), .pointer (some ⟨w.heap.size + 1, 0, none⟩)]] 93)).alloc
        (.cells #[.slice none 0 0] 31)).alloc (.cells #[.slice none 0 0] 39)).alloc
        (.cells #[srchClo (w1.heap.size + 1 + 1 + 1 + 1) (w.heap.size + 1 + 1) (w1.heap.size + 1 + 1) w1.heap.size w.heap.size (w.heap.size + 1 + 1 + 1) (w.heap.size + 1) (w1.heap.size + 1 + 1 + 1)] 94)) fun e w' =>
      e = .returned (.tuple #[]) ∧ ∃ pv, Blk w' (w1.heap.size + 1 + 1 + 1 + 1) 31 #[pv] ∧ Paths w' w.heap.size pv (srchP t down d most N [] n (List.replicate N false) []) ∧ Blk w' (w.heap.size + 1 + 1 + 1) 3 #[.int .i64 most] ∧ Ext w w' := by
  generalize hA : w1.alloc (.cells #[.slice (some ⟨gll, 0, none⟩) N N] 31) = wA
  have sA : wA.heap.size = w1.heap.size + 1 := by rw [← hA]; simp
  have xA : Ext w1 wA := by rw [← hA]; exact (Ext.refl _).alloc _
  have bA : Blk wA w1.heap.size 31 #[.slice (some ⟨gll, 0, none⟩) N N] := by rw [← hA]; exact Blk.new _ _ _
  rw [bools_replicate]
  generalize hB : wA.alloc (.cells (bools (List.replicate N false)).toArray 4) = wB
  have sB : wB.heap.size = w1.heap.size + 1 + 1 := by rw [← hB]; simp [sA]
  have xB : Ext wA wB := by rw [← hB]; exact (Ext.refl _).alloc _
  have bB : Blk wB (w1.heap.size + 1) 4 (bools (List.replicate N false)).toArray := by rw [← hB, ← sA]; exact Blk.new _ _ _
  generalize hC : wB.alloc (.cells #[.slice (some ⟨w1.heap.size + 1, 0, none⟩) N N] 22) = wC
  have sC : wC.heap.size = w1.heap.size + 1 + 1 + 1 := by rw [← hC]; simp [sB]
  have xC : Ext wB wC := by rw [← hC]; exact (Ext.refl _).alloc _
  have bC : Blk wC (w1.heap.size + 1 + 1) 22 #[.slice (some ⟨w1.heap.size + 1, 0, none⟩) N N] := by rw [← hC, ← sB]; exact Blk.new _ _ _
  generalize hD : wC.alloc (.cells #[.func (.func 52) #[] #[.pointer (some ⟨w1.heap.size + 1 + 1, 0, none⟩), .pointer (some ⟨w.heap.size + 1 + 1, 0, none⟩), .pointer (some ⟨w1.heap.size, 0, none⟩), .pointer (some ⟨w.heap.size, 0, none⟩), .pointer (some ⟨w.heap.size + 1, 0, none⟩)]] 93) = wD
  have sD : wD.heap.size = w1.heap.size + 1 + 1 + 1 + 1 := by rw [← hD]; simp [sC]
  have xD : Ext wC wD := by rw [← hD]; exact (Ext.refl _).alloc _
  have bD : Blk wD (w1.heap.size + 1 + 1 + 1) 93 #[.func (.func 52) #[] #[.pointer (some ⟨w1.heap.size + 1 + 1, 0, none⟩), .pointer (some ⟨w.heap.size + 1 + 1, 0, none⟩), .pointer (some ⟨w1.heap.size, 0, none⟩), .pointer (some ⟨w.heap.size, 0, none⟩), .pointer (some ⟨w.heap.size + 1, 0, none⟩)]] := by rw [← hD, ← sC]; exact Blk.new _ _ _
  have x1D : Ext w1 wD := ((xA.tr xB).tr xC).tr xD
  have hst : Stat w wD t AO co AL cl AD cd down d most N (w1.heap.size + 1 + 1) (w1.heap.size + 1) (w.heap.size + 1 + 1) w1.heap.size gll w.heap.size (w.heap.size + 1) (w.heap.size + 1 + 1 + 1) (w1.heap.size + 1 + 1 + 1) :=
    ⟨hx.tr x1D, hT, hdn, (by have := hx.size; omega), ⟨_, bB.keep (xC.tr xD)⟩, bC.keep xD, (hbx.keep x1D).dd, bA.keep ((xB.tr xC).tr xD), hll.keep x1D, (hbx.keep x1D).tt, (hbx.keep x1D).ww, (hbx.keep x1D).mm, bD⟩
  obtain ⟨c1, c2, c3, c4⟩ := boxes3 wD #[.slice none 0 0] 31 #[.slice none 0 0] 39 #[srchClo (w1.heap.size + 1 + 1 + 1 + 1) (w.heap.size + 1 + 1) (w1.heap.size + 1 + 1) w1.heap.size w.heap.size (w.heap.size + 1 + 1 + 1) (w.heap.size + 1) (w1.heap.size + 1 + 1 + 1)] 94
  generalize hE : ((wD.alloc (.cells #[.slice none 0 0] 31)).alloc (.cells #[.slice none 0 0] 39)).alloc (.cells #[srchClo (w1.heap.size + 1 + 1 + 1 + 1) (w.heap.size + 1 + 1) (w1.heap.size + 1 + 1) w1.heap.size w.heap.size (w.heap.size + 1 + 1 + 1) (w.heap.size + 1) (w1.heap.size + 1 + 1 + 1)] 94) = wE at *
  have sE : wE.heap.size = wD.heap.size + 3 := by rw [← hE]; simp
  have hss : SState w wD (w1.heap.size + 1) (srchClo wD.heap.size (w.heap.size + 1 + 1) (w1.heap.size + 1 + 1) w1.heap.size w.heap.size (w.heap.size + 1 + 1 + 1) (w.heap.size + 1) (w1.heap.size + 1 + 1 + 1)) wE (List.replicate N false) [] [] (.slice none 0 0) (.slice none 0 0) :=
    ⟨(hx.tr x1D).tr c4, by omega, fun k hk _ => c4.block k hk, bB.keep ((xC.tr xD).tr c4), c1, c2, by rw [sD]; rw [sD] at c3; exact c3, PathsA.nil _ _ _, World.ownsRow_nil _ _ _ _⟩
  have := search_ok t AO co AL cl AD cd down d most N (w1.heap.size + 1 + 1) (w1.heap.size + 1) (w.heap.size + 1 + 1) w1.heap.size gll w.heap.size (w.heap.size + 1) (w.heap.size + 1 + 1 + 1) (w1.heap.size + 1 + 1 + 1) w wD hst hm hv hf hcd hdc hN hd N [] n (List.replicate N false) [] (.slice none 0 0) (.slice none 0 0) wE (unset_replicate N) (by simp) (by simp [hn]) (by simp; omega) (Nat.zero_le _) hss
  rw [sD] at this
  refine this.mono ?_
  rintro e w' ⟨rfl, pv', qv', h⟩
  refine ⟨rfl, pv', by rw [← sD]; exact h.pc, ?_, h.blk hst.gsR hst.mm (by decide), h.ext⟩
  obtain ⟨cells, z1, z2, z3⟩ := h.pp.paths.ex
  exact ⟨cells, z1, z2.mono (by have := (hx.tr x1D).size; omega), z3⟩
set_option maxRecDepth 100000 in
set_option maxHeartbeats 8000000 in
theorem pSimple_ok (t : Tp) (AO : Option Addr) (co : Nat) (AL : Option Addr) (cl : Nat) (AD : Option Addr) (cd : Nat) (down : List Bool) (s d most : Int) (w : World) (ht : TopR w t AO co AL cl) (hdn : Rd w AD (bools down)) (hcd : down.length ≤ 281474976710656) (hdc : down.length ≤ cd) :
    Calls Tryz.prog 16 #[.agg #[.int .i64 t.nodes, .slice AO t.over.length co, .slice AL t.links.length cl], .slice AD down.length cd, .int .i64 s, .int .i64 d, .int .i64 most] w fun e w' => ∃ v, e = .returned (.tuple #[v, .int .i64 (refSim t down s d most).2]) ∧ Paths w' w.heap.size v (refSim t down s d most).1 ∧ Ext w w' := by
  have HT := Lib.hid (ht)
  have HDN := Lib.hid (hdn)
  have h3 := ht.ll
  have h4 := ht.cl
  clear ht hdn
  generalize hR : refSim t down s d most = R
  have HR := Lib.hid (hR)
  clear hR
  obtain ⟨b0, b1, b2, b3, e0⟩ := boxes4 w #[.int .i64 t.nodes, .slice AO t.over.length co, .slice AL t.links.length cl] 25 #[.slice AD down.length cd] 22 #[.int .i64 d] 3 #[.int .i64 most] 3
  have BX := Lib.hid (SBox.mk b0 b1 b2 b3)
  obtain ⟨⟨i0, i1, i2⟩, g0, g1, g2⟩ := b0.three
  clear b0 b1 b2 b3
  go_enter Tryz.func16, Tryz.ntmps16
  go_upto_region 1 with fail
  go_cut [34] (fun s wx => s = .bool (simBad1 t down most) ∧ SBox wx w.heap.size t AO co AL cl AD cd down d most ∧ Ext w wx)
  case first =>
    go_wp2_with fail
    refine (tValid_any t AO co AL cl _ (HT.out.keep e0)).mono ?_
    rintro e w1 ⟨rfl, hx1⟩
    have BX1 := Lib.hid (BX.out.keep hx1)
    have hba := BX1.out.tt
    obtain ⟨⟨i0, i1, i2⟩, g0, g1, g2⟩ := hba.three
    have cw := BX1.out.ww.one.1
    have E1 := Lib.hid (e0.tr hx1)
    clear hx1
    cases hv : validP t
    case false =>
      go_wp2
      go_meet
      exact ⟨by simp [simBad1, hv], BX1.out, E1.out⟩
    case true =>
      have HV := Lib.hid (hv)
      go_wp2_with fail
      refine (gFits_any t AO co AL cl AD cd down _ (HT.out.keep E1.out)).mono ?_
      rintro e w2 ⟨rfl, hx2⟩
      have BX2 := Lib.hid (BX1.out.keep hx2)
      have E2 := Lib.hid (E1.out.tr hx2)
      have cm := BX2.out.mm.one.1
      clear hx2
      cases hf : fitsP t down
      case false =>
        go_wp2
        go_meet
        exact ⟨by simp [simBad1, hf], BX2.out, E2.out⟩
      case true =>
        by_cases hm : most < 0
        · go_wp2
          go_meet
          exact ⟨by simp [simBad1, hm], BX2.out, E2.out⟩
        · by_cases hm2 : most > 1000
          · go_wp2
            go_meet
            exact ⟨by simp [simBad1, hm2], BX2.out, E2.out⟩
          · go_wp2
            go_meet
            exact ⟨by simp [simBad1, hm, hm2, hf, HV.out], BX2.out, E2.out⟩
  case rest =>
    obtain ⟨rfl, hbx, hx⟩ := hcut
    clear i0 i1 i2 g0 g1 g2 e0 BX
    have EX := Lib.hid (hx)
    have BX := Lib.hid (hbx)
    have hba := hbx.tt
    obtain ⟨⟨i0, i1, i2⟩, g0, g1, g2⟩ := hba.three
    have cd0 := hbx.dd.one.1
    clear hx hbx hba
    cases hb1 : simBad1 t down most
    case true =>
      have hr : R = ([], 1) := by rw [← HR.out]; unfold refSim; rw [hb1]; rfl
      subst hr
      go_wp2
      exact bodyPost_ret (v := .tuple #[.slice none 0 0, .int .i64 1]) (by simp [results, Tryz.results16, go_sem]) rfl (⟨_, rfl, Paths.nil _ _, EX.out⟩)
    case false =>
      have HB1 := Lib.hid (hb1)
      clear hb1
      have hbad : simBad2 t s d = !(ndB t.nodes s && ndB t.nodes d) := by
        unfold simBad2 ndB
        rw [Bool.eq_iff_iff]
        simp
        omega
      have HBAD := Lib.hid (hbad)
      clear hbad
      go_upto_region 3 with fail
      go_cut [44] (fun x wx => x = .bool (simBad2 t s d) ∧ SBox wx w.heap.size t AO co AL cl AD cd down d most ∧ Ext w wx)
      case first =>
        go_wp2_with fail
        refine (gNode_b t AO co AL cl s _).mono ?_
        rintro e w1 ⟨rfl, hx1⟩
        have BX1 := Lib.hid (BX.out.keep hx1)
        have hba := BX1.out.tt
        obtain ⟨⟨i0, i1, i2⟩, g0, g1, g2⟩ := hba.three
        have cd0 := BX1.out.dd.one.1
        have E1 := Lib.hid (EX.out.tr hx1)
        clear hx1 hba
        cases hn1 : ndB t.nodes s
        case false =>
          go_wp2
          go_meet
          exact ⟨by rw [HBAD.out, hn1]; rfl, BX1.out, E1.out⟩
        case true =>
          have HN1 := Lib.hid (hn1)
          clear hn1
          go_wp2_with fail
          refine (gNode_b t AO co AL cl d _).mono ?_
          rintro e w2 ⟨rfl, hx2⟩
          have BX2 := Lib.hid (BX1.out.keep hx2)
          have E2 := Lib.hid (E1.out.tr hx2)
          clear hx2
          go_wp2
          go_meet
          exact ⟨by rw [HBAD.out, HN1.out]; simp, BX2.out, E2.out⟩
      case rest =>
        obtain ⟨rfl, hbx, hx⟩ := hcut
        clear i0 i1 i2 g0 g1 g2 BX EX cd0
        have EX := Lib.hid (hx)
        have BX := Lib.hid (hbx)
        have hba := hbx.tt
        obtain ⟨⟨i0, i1, i2⟩, g0, g1, g2⟩ := hba.three
        clear hx hbx hba
        cases hb2 : simBad2 t s d
        case true =>
          have hr : R = ([], 2) := by rw [← HR.out]; unfold refSim; rw [HB1.out, hb2]; rfl
          subst hr
          go_wp2
          exact bodyPost_ret (v := .tuple #[.slice none 0 0, .int .i64 2]) (by simp [results, Tryz.results16, go_sem]) rfl (⟨_, rfl, Paths.nil _ _, EX.out⟩)
        case false =>
          have hv : validP t = true ∧ fitsP t down = true ∧ 0 ≤ most ∧ most ≤ 1000 := by
            have := HB1.out
            unfold simBad1 at this
            simp at this
            exact ⟨this.1.1.1, this.1.1.2, this.1.2, this.2⟩
          have hsd : 0 ≤ s ∧ s < t.nodes ∧ 0 ≤ d ∧ d < t.nodes := by
            unfold simBad2 at hb2
            simp at hb2
            omega
          have hr : R = if ((simP t down s.toNat d.toNat).length : Int) > most then ([], 6) else (simP t down s.toNat d.toNat, 0) := by rw [← HR.out]; unfold refSim; rw [HB1.out, hb2]; rfl
          obtain ⟨n, rfl⟩ : ∃ n : Nat, s = (n : Int) := ⟨s.toNat, by omega⟩
          obtain ⟨k, rfl⟩ : ∃ k : Nat, d = (k : Int) := ⟨d.toNat, by omega⟩
          obtain ⟨mo, rfl⟩ : ∃ mo : Nat, most = (mo : Int) := ⟨most.toNat, by omega⟩
          rw [Int.toNat_natCast, Int.toNat_natCast] at hr
          have HR2 := Lib.hid (hr)
          have HV := Lib.hid (hv)
          have SD := Lib.hid (hsd)
          clear hr hv hsd hb2 HR
          go_wp2_with fail
          refine (leaving_any t AO co AL cl _ (HT.out.keep EX.out) HV.out.1).mono ?_
          rintro e w1 ⟨gll, N, hN, rfl, hll, hx1⟩
          have BX1 := Lib.hid (BX.out.keep hx1)
          have E1 := Lib.hid (EX.out.tr hx1)
          have LLH := Lib.hid (hll)
          clear hx1 hll i0 i1 i2 g0 g1 g2 BX EX
          have hN64 : N ≤ 64 := by
            have := HV.out.1
            unfold validP headOk inB at this
            simp at this
            omega
          have hmk := run_make_row' (P := Tryz.prog) 22 4 (.bool false) 1 Tryz.underlying22 Tryz.info4 rfl .i64 .i64 N (by omega) (by omega)
          have hba := BX1.out.tt
          rw [hN] at hba
          obtain ⟨⟨i0, i1, i2⟩, g0, g1, g2⟩ := hba.three
          have HN := Lib.hid (hN)
          have hlt := BX1.out.mm.lt
          have hlt0 := BX1.out.tt.lt
          have hlt1 := BX1.out.ww.lt
          have hlt2 := BX1.out.dd.lt
          clear hN hba
          have hlk : n < N ∧ k < N := by have := SD.out; have h9 := HN.out; omega
          go_wp2_with fail
          refine (search_start t AO co AL cl AD cd down n k mo N gll w w1 HT.out HDN.out E1.out BX1.out LLH.out (by have := HV.out.2.2.2; omega) HV.out.1 HV.out.2.1 hcd hdc HN.out hN64 hlk.2 hlk.1).mono ?_
          rintro e w2 ⟨rfl, pv, hpc, hpp, hmm, hx2⟩
          have hsr := srch_eq HV.out.1 down k mo N HN.out N [] n (List.replicate N false) [] (by simp) (Nat.zero_le _) (.inl rfl)
          rw [List.nil_append, List.length_nil, Nat.sub_zero] at hsr
          have hsim : simP t down n k = extP t down k N [] n ((List.replicate N false).set n true) := by unfold simP; rw [HN.out]; rfl
          rw [← hsim] at hsr
          have SIM := Lib.hid (hsr)
          have PP := Lib.hid (hpp)
          have E2 := Lib.hid (hx2)
          obtain ⟨A, c, rfl⟩ := hpp.form
          have cp := hpc.one.1
          have cm := hmm.one.1
          clear hsr hsim hpp hx2 hpc hmm i0 i1 i2 g0 g1 g2 hmk hlk hlt hlt0 hlt1 hlt2 BX1 LLH E1
          generalize hQ : srchP t down k mo N [] n (List.replicate N false) [] = Q at *
          clear hQ
          by_cases hl : mo < Q.length
          · have hr : R = ([], 6) := by
              rw [HR2.out, if_pos]
              have := SIM.out
              rw [this, List.length_take] at hl
              omega
            subst hr
            generalize Q.length = L at *
            go_wp2
            exact bodyPost_ret (v := .tuple #[.slice none 0 0, .int .i64 6]) (by simp [results, Tryz.results16, go_sem]) rfl (⟨_, rfl, Paths.nil _ _, E2.out⟩)
          · have hqs : Q = simP t down n k := by
              have := SIM.out
              rw [this, List.length_take] at hl
              rw [this, List.take_of_length_le (by omega)]
            have hr : R = (Q, 0) := by
              rw [HR2.out, if_neg (by rw [← hqs]; omega), hqs]
            subst hr
            clear hqs SIM HR2
            generalize hL : Q.length = L at *
            go_wp2
            exact bodyPost_ret (v := .tuple #[.slice A L c, .int .i64 0]) (by simp [results, Tryz.results16, go_sem]) rfl (⟨_, rfl, PP.out, E2.out⟩)
end Go.Proofs.YtekiomanidimnaaGreatDoor
