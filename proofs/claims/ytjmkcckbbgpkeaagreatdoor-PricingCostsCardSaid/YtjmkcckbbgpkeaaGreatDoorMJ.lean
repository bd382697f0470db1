/- pricing.Cheapest: the walk. -/
import Derived.Test.YtjmkcckbbgpkeaaGreatDoorMI
import Derived.Deep.RegionHeld3
set_option linter.unusedVariables false
set_option linter.unusedSimpArgs false

namespace Go.Proofs.YtjmkcckbbgpkeaaGreatDoor
open Go.RowKit
def bad1 (t : Tp) (down : List Bool) (ps : List Rat) : Bool := !validP t || !fitsP t down || !pricedP t ps
/-- What Cheapest returns: a path and an error. -/
def chP (t : Tp) (down : List Bool) (ps : List Rat) (s d : Int) : List Nat × Int :=
  if bad1 t down ps then ([], 1) else if simBad2 t s d then ([], 2) else match cheapP t down ps s.toNat d.toNat with
    | none => ([], 11)
    | some l => (l, 0)
def ChPost (w : World) (ps : List Rat) (r : List Nat × Int) (e : Ending) (w' : World) : Prop :=
  ∃ (A : Option Addr) (c : Nat) (neg : Bool) (A1 : Option Addr) (n1 c1 : Nat) (A2 : Option Addr) (n2 c2 : Nat), e = .returned (.tuple #[.slice A r.1.length c, .agg #[.bool neg, .slice A1 n1 c1, .slice A2 n2 c2], .int .i64 r.2]) ∧ r.1.length ≤ c ∧ RdT w' 3 A (ints r.1) ∧ RatR w' neg A1 n1 c1 A2 n2 c2 (prQ ps r.1) ∧ Ext w w'
set_option maxRecDepth 100000 in
set_option maxHeartbeats 8000000 in
theorem cheapest_ok (t : Tp) (AO : Option Addr) (co : Nat) (AL : Option Addr) (cl : Nat) (AD : Option Addr) (cd : Nat) (down : List Bool) (PP : Option Addr) (cp : Nat) (ps : List Rat) (P : Nat) (s d : Int) (w : World) (ht : TopR w t AO co AL cl) (hdn : Rd w AD (bools down)) (hcd : down.length ≤ 281474976710656) (hdc : down.length ≤ cd) (hps : QL w PP ps) (hpl : ps.length ≤ 1000000) (hP : 1 ≤ P) (hP2 : P ≤ 1000000) (hsz : ∀ q ∈ ps, SzQ q P) :
    Calls Tryz.prog 10 #[.agg #[.int .i64 t.nodes, .slice AO t.over.length co, .slice AL t.links.length cl], .slice AD down.length cd, .slice PP ps.length cp, .int .i64 s, .int .i64 d] w (ChPost w ps (chP t down ps s d)) := by
  have HT := Lib.hid (ht)
  have HDN := Lib.hid (hdn)
  have HPS := Lib.hid (hps)
  have HSZ := Lib.hid (hsz)
  have h3 := ht.ll
  have h4 := ht.cl
  clear ht hdn hps hsz
  generalize hR : chP t down ps s d = R
  have HR := Lib.hid (hR)
  clear hR
  obtain ⟨b0, b1, e0⟩ := boxes2 w #[.int .i64 t.nodes, .slice AO t.over.length co, .slice AL t.links.length cl] 25 #[.bool false, .slice none 0 0, .slice none 0 0] 38
  obtain ⟨⟨i0, i1, i2⟩, g0, g1, g2⟩ := b0.three
  have BB := Lib.hid (And.intro b0 b1)
  clear b0 b1
  go_enter Tryz.func10, Tryz.ntmps10
  go_upto_region 1 with fail
  go_cut [35] (fun s wx => s = .bool (bad1 t down ps) ∧ Blk wx w.heap.size 25 #[.int .i64 t.nodes, .slice AO t.over.length co, .slice AL t.links.length cl] ∧ Blk wx (w.heap.size + 1) 38 #[.bool false, .slice none 0 0, .slice none 0 0] ∧ Ext w wx)
  case first =>
    go_wp2_with fail
    refine (tValid_any t AO co AL cl _ (HT.out.keep e0)).mono ?_
    rintro e w1 ⟨rfl, hx1⟩
    have hba := BB.out.1.keep hx1
    have hbb := BB.out.2.keep hx1
    obtain ⟨⟨i0, i1, i2⟩, g0, g1, g2⟩ := hba.three
    have E1 := Lib.hid (e0.tr hx1)
    clear hx1
    cases hv : validP t
    case false =>
      go_wp2
      go_meet
      exact ⟨by simp [bad1, hv], hba, hbb, E1.out⟩
    case true =>
      have HV := Lib.hid (hv)
      go_wp2_with fail
      refine (gFits_any t AO co AL cl AD cd down _ (HT.out.keep E1.out)).mono ?_
      rintro e w2 ⟨rfl, hx2⟩
      have hba := hba.keep hx2
      have hbb := hbb.keep hx2
      obtain ⟨⟨i0, i1, i2⟩, g0, g1, g2⟩ := hba.three
      have E2 := Lib.hid (E1.out.tr hx2)
      clear hx2
      cases hf : fitsP t down
      case false =>
        go_wp2
        go_meet
        exact ⟨by simp [bad1, hf], hba, hbb, E2.out⟩
      case true =>
        have HF := Lib.hid (hf)
        go_wp2_with fail
        refine (priced_any t AO co AL cl PP cp ps _ (HT.out.keep E2.out) (HPS.out.keep E2.out) hpl).mono ?_
        rintro e w3 ⟨rfl, hx3⟩
        have hba := hba.keep hx3
        have hbb := hbb.keep hx3
        have E3 := Lib.hid (E2.out.tr hx3)
        clear hx3
        go_wp2
        go_meet
        exact ⟨by simp [bad1, HV.out, HF.out], hba, hbb, E3.out⟩
  case rest =>
    obtain ⟨rfl, hba, hbb, hx⟩ := hcut
    clear i0 i1 i2 g0 g1 g2 e0 BB
    have EX := Lib.hid (hx)
    obtain ⟨⟨i0, i1, i2⟩, g0, g1, g2⟩ := hba.three
    obtain ⟨⟨j0, j1, j2⟩, k0, k1, k2⟩ := hbb.three
    cases hb1 : bad1 t down ps
    case true =>
      have hr : R = ([], 1) := by rw [← HR.out]; unfold chP; rw [hb1]; rfl
      subst hr
      go_wp2
      have hb9 := ((hbb.set_ 0 (.bool false)).set_ 1 (.slice none 0 0)).set_ 2 (.slice none 0 0)
      exact bodyPost_ret (v := .tuple #[.slice none 0 0, .agg #[.bool false, .slice none 0 0, .slice none 0 0], .int .i64 1]) (by simp [results, Tryz.results10, go_sem, hb9.cell]) rfl
        ⟨none, 0, false, none, 0, 0, none, 0, 0, rfl, Nat.le_refl _, RdT.nil _ _ _, ratR_zero _, ((EX.out.set_ (by first | (simp; omega) | simp) _).set_ (by first | (simp; omega) | simp) _).set_ (by first | (simp; omega) | simp) _⟩
    case false =>
      have HB1 := Lib.hid (hb1)
      clear hb1
      have hbad : simBad2 t s d = !(ndB t.nodes s && ndB t.nodes d) := by
        unfold simBad2 ndB
        rw [Bool.eq_iff_iff]
        simp
        omega
      have HBAD := Lib.hid (hbad)
      have BBR := Lib.hid hbb
      clear hbad hbb
      go_upto_region 3 with fail
      go_cut [46] (fun x wx => x = .bool (simBad2 t s d) ∧ Blk wx w.heap.size 25 #[.int .i64 t.nodes, .slice AO t.over.length co, .slice AL t.links.length cl] ∧ Blk wx (w.heap.size + 1) 38 #[.bool false, .slice none 0 0, .slice none 0 0] ∧ Ext w wx)
      case first =>
        go_wp2_with fail
        refine (gNode_b t AO co AL cl s _).mono ?_
        rintro e w1 ⟨rfl, hx1⟩
        have hba := hba.keep hx1
        have BR1 := Lib.hid (BBR.out.keep hx1)
        obtain ⟨⟨i0, i1, i2⟩, g0, g1, g2⟩ := hba.three
        have E1 := Lib.hid (EX.out.tr hx1)
        clear hx1
        cases hn1 : ndB t.nodes s
        case false =>
          go_wp2
          go_meet
          exact ⟨by rw [HBAD.out, hn1]; rfl, hba, BR1.out, E1.out⟩
        case true =>
          have HN1 := Lib.hid (hn1)
          clear hn1
          go_wp2_with fail
          refine (gNode_b t AO co AL cl d _).mono ?_
          rintro e w2 ⟨rfl, hx2⟩
          have hba := hba.keep hx2
          have BR2 := Lib.hid (BR1.out.keep hx2)
          have E2 := Lib.hid (E1.out.tr hx2)
          clear hx2
          go_wp2
          go_meet
          exact ⟨by rw [HBAD.out, HN1.out]; simp, hba, BR2.out, E2.out⟩
      case rest =>
        obtain ⟨rfl, hba, hbb, hx⟩ := hcut
        clear i0 i1 i2 g0 g1 g2 j0 j1 j2 k0 k1 k2 EX BBR
        have EX := Lib.hid (hx)
        obtain ⟨⟨i0, i1, i2⟩, g0, g1, g2⟩ := hba.three
        obtain ⟨⟨j0, j1, j2⟩, k0, k1, k2⟩ := hbb.three
        clear hx
        cases hb2 : simBad2 t s d
        case true =>
          have hr : R = ([], 2) := by rw [← HR.out]; unfold chP; rw [HB1.out, hb2]; rfl
          subst hr
          go_wp2
          have hb9 := ((hbb.set_ 0 (.bool false)).set_ 1 (.slice none 0 0)).set_ 2 (.slice none 0 0)
          exact bodyPost_ret (v := .tuple #[.slice none 0 0, .agg #[.bool false, .slice none 0 0, .slice none 0 0], .int .i64 2]) (by simp [results, Tryz.results10, go_sem, hb9.cell]) rfl
            ⟨none, 0, false, none, 0, 0, none, 0, 0, rfl, Nat.le_refl _, RdT.nil _ _ _, ratR_zero _, ((EX.out.set_ (by first | (simp; omega) | simp) _).set_ (by first | (simp; omega) | simp) _).set_ (by first | (simp; omega) | simp) _⟩
        case false =>
          have hv : validP t = true ∧ fitsP t down = true ∧ pricedP t ps = true := by
            have := HB1.out
            unfold bad1 at this
            simp at this
            exact ⟨this.1.1, this.1.2, this.2⟩
          have hsd : 0 ≤ s ∧ s < t.nodes ∧ 0 ≤ d ∧ d < t.nodes := by
            unfold simBad2 at hb2
            simp at hb2
            omega
          have hr : R = match cheapP t down ps s.toNat d.toNat with
            | none => ([], 11)
            | some l => (l, 0) := by rw [← HR.out]; unfold chP; rw [HB1.out, hb2]; rfl
          obtain ⟨n, rfl⟩ : ∃ n : Nat, s = (n : Int) := ⟨s.toNat, by omega⟩
          obtain ⟨m, rfl⟩ : ∃ m : Nat, d = (m : Int) := ⟨d.toNat, by omega⟩
          rw [Int.toNat_natCast, Int.toNat_natCast] at hr
          have HR2 := Lib.hid (hr)
          have HV := Lib.hid (hv)
          have SD := Lib.hid (hsd)
          have BBR := Lib.hid hbb
          clear hr hv hsd hb2 HR hbb
          go_wp2_with fail
          refine (leaving_any t AO co AL cl _ (HT.out.keep EX.out) HV.out.1).mono ?_
          rintro e w1 ⟨gll, N, hN, rfl, hll, hx1⟩
          have hba := hba.keep hx1
          have BR1 := Lib.hid (BBR.out.keep hx1)
          have E1 := Lib.hid (EX.out.tr hx1)
          have LLH := Lib.hid (hll)
          clear hx1 hll i0 i1 i2 g0 g1 g2 j0 j1 j2 k0 k1 k2 BBR EX
          have hN64 : N ≤ 64 := by
            have := HV.out.1
            unfold validP headOk inB at this
            simp at this
            omega
          have hmk := run_make_labels N (by omega)
          have BA1 := Lib.hid hba
          rw [hN] at hba
          obtain ⟨⟨i0, i1, i2⟩, g0, g1, g2⟩ := hba.three
          have hnN : n < N ∧ m < N := by have := SD.out; omega
          have hlt0 := BA1.out.lt
          have hlt1 := BR1.out.lt
          have HN := Lib.hid (hN)
          clear hN hba
          obtain ⟨hnN, hmN⟩ := hnN
          have hnN' : (n : Int) < (N : Int) := by omega
          have hcz : (madeCells #[.bool false, .bool false, .bool false, .slice none 0 0, .slice none 0 0, .slice none 0 0] (N * 6))[n * 6]? = some (.bool false) := by
            have hall : ∀ cs ∈ List.replicate N zeroCells, cs.length = 6 := fun cs h => by rw [List.eq_of_mem_replicate h]; rfl
            rw [made_flatten, List.getElem?_toArray]
            have h1 := flatten_get _ hall n 0 (by rw [List.length_replicate]; exact hnN) (by omega)
            rw [Nat.add_zero, List.getElem?_replicate, if_pos hnN, Option.getD_some] at h1
            rw [h1]; rfl
          have hFU : undone (initP N n) ≤ N := by have := undone_le (initP N n); simp [initP] at this ⊢; omega
          have LM := Lib.hid (labels_made w1 ps N n hnN)
          have CH0 := Lib.hid (show ChSt w (w1.alloc (.cells ((madeCells #[.bool false, .bool false, .bool false, .slice none 0 0, .slice none 0 0, .slice none 0 0] (N * 6)).setIfInBounds (n * 6) (.bool true)) 68)) t AO co AL cl ps w1.heap.size gll N (initP N n) from
            ⟨BA1.out.alloc _, BR1.out.alloc _, LM.out, by simp [initP], fun l hl => by
              have hu := undone_le (initP N n)
              have : l.arcs = [] := by
                unfold initP at hl
                rcases List.mem_or_eq_of_mem_set hl with h | h
                · rw [List.eq_of_mem_replicate h]
                · rw [h]
              rw [this]; simpa using hu, LLH.out.keep ((Ext.refl w1).alloc _), by omega, E1.out.alloc _⟩)
          have hcheap : cheapP t down ps n m = dijP t down ps m (N + 1) (initP N n) := by unfold cheapP; rw [HN.out]; rfl
          rw [hcheap] at HR2
          clear hcheap
          go_wp2
          clear hmk hcz i0 i1 i2 g0 g1 g2 BA1 BR1 LM LLH E1 hlt0 hlt1
          generalize hDR : dijP t down ps m (N + 1) (initP N n) = DR at *
          have CH1 := Lib.hid hDR
          clear hDR
          generalize w1.heap.size = g at *
          generalize w1.alloc (.cells ((madeCells #[.bool false, .bool false, .bool false, .slice none 0 0, .slice none 0 0, .slice none 0 0] (N * 6)).setIfInBounds (n * 6) (.bool true)) 68) = w2 at *
          go_loopg [15, 16, 18, 19, 20] N (fun k _ _ _ _ _ wr => ∃ (f : Nat) (ls : List Lb), f = k ∧ undone ls ≤ f ∧ ChSt w wr t AO co AL cl ps g gll N ls ∧ dijP t down ps m (f + 1) ls = DR)
          case atStart => exact ⟨N, initP N n, rfl, hFU, CH0.out, CH1.out⟩
          case round =>
            clear CH0 CH1 hFU
            obtain ⟨f, ls, rfl, hfu, hst, hdij⟩ := hrel
            have hfirst := first_any g ps ls wr hst.lab (SzL_of hP hP2 HSZ.out hst.ok hst.len hN64) (by rw [hst.len]; omega)
            rw [hst.len] at hfirst
            have FIRST := Lib.hid hfirst
            have hfr := firstTo_range ps ls ls.length
            have hff := first_fresh ps ls ls.length
            change firstP ps ls = -1 ∨ _ at hfr
            change 0 ≤ firstP ps ls → ∃ l, ls[(firstP ps ls).toNat]? = some l ∧ _ at hff
            rw [dijP] at hdij
            have ST := Lib.hid hst
            have DIJ := Lib.hid hdij
            have FF := Lib.hid hff
            clear hfirst hst hdij hff
            go_wp2_with fail
            refine FIRST.out.mono ?_
            rintro e w3 ⟨rfl, hx3⟩
            have ST3 := Lib.hid (ST.out.keep hx3)
            clear hx3 ST FIRST
            generalize firstP ps ls = q at *
            by_cases hq : q < 0
            · have hr : R = ([], 11) := by
                rw [HR2.out, ← DIJ.out, if_pos hq]
              subst hr
              have hqd : decide (q < 0) = true := decide_eq_true hq
              have hbb := ST3.out.rr
              have EX := Lib.hid ST3.out.ext
              obtain ⟨⟨j0, j1, j2⟩, k0, k1, k2⟩ := hbb.three
              go_wp2
              have hb9 := ((hbb.set_ 0 (.bool false)).set_ 1 (.slice none 0 0)).set_ 2 (.slice none 0 0)
              exact bodyPost_ret (v := .tuple #[.slice none 0 0, .agg #[.bool false, .slice none 0 0, .slice none 0 0], .int .i64 11]) (by simp [results, Tryz.results10, go_sem, hb9.cell]) rfl
                ⟨none, 0, false, none, 0, 0, none, 0, 0, rfl, Nat.le_refl _, RdT.nil _ _ _, ratR_zero _, ((EX.out.set_ (by first | (simp; omega) | simp) _).set_ (by first | (simp; omega) | simp) _).set_ (by first | (simp; omega) | simp) _⟩
            · have hqd : decide (q < 0) = false := decide_eq_false hq
              rcases hfr with hfr | hfr
              · omega
              obtain ⟨v, rfl⟩ : ∃ v : Nat, q = (v : Int) := ⟨q.toNat, by omega⟩
              obtain ⟨lv, hlv, hkn, hdn0⟩ := FF.out (by omega)
              rw [Int.toNat_natCast] at hlv
              have hvl : v < ls.length := (List.getElem?_eq_some_iff.1 hlv).1
              have hvN : v < N := by have := ST3.out.len; omega
              have hvN' : (v : Int) < (N : Int) := by omega
              have hdj := DIJ.out
              rw [if_neg hq, Int.toNat_natCast] at hdj
              have DIJ2 := Lib.hid hdj
              have HLV := Lib.hid hlv
              have HKD := Lib.hid (And.intro hkn hdn0)
              obtain ⟨neg, A, n1, c1, A', n1', c1', AX, cx, ⟨i0, i1, i2, i3, i4, i5⟩, hRat, hcx, hAX⟩ := ST3.out.lab.at_ hlv
              rw [hkn] at i0
              rw [hdn0] at i1
              clear hdj DIJ FF hlv hkn hdn0 hfr hq
              by_cases hvm : v = m
              · subst hvm
                have hbe : ((v : Int) == (v : Int)) = true := by simp
                have hbb := ST3.out.rr
                have hRR : R = (lv.arcs, 0) := by
                  rw [HR2.out, ← DIJ2.out, if_pos rfl]
                  unfold arcsOf
                  rw [HLV.out]
                  rfl
                subst hRR
                obtain ⟨⟨j0, j1, j2⟩, k0, k1, k2⟩ := hbb.three
                have hne : g ≠ w.heap.size + 1 := by have := ST3.out.gg; omega
                have hgl := ST3.out.lab.lt
                have RT := Lib.hid hRat
                have XX := Lib.hid hAX
                have HBB := Lib.hid hbb
                clear hRat hAX hbb
                go_wp2
                go_region
                go_wp2
                have q0 : Blk w3 (w.heap.size + 1) 38 _ := HBB.out
                have q1 := q0.set_ 0 (.bool neg)
                have q2 := q1.set_ 1 (.slice A n1 c1)
                have hb9 := q2.set_ 2 (.slice A' n1' c1')
                have x0 : RdT w3 3 AX (ints lv.arcs) := XX.out
                have r0 : RatR w3 neg A n1 c1 A' n1' c1' (prQ ps lv.arcs) := RT.out
                have EX := ST3.out.ext
                refine bodyPost_ret (v := .tuple #[.slice AX lv.arcs.length cx, .agg #[.bool neg, .slice A n1 c1, .slice A' n1' c1'], .int .i64 0]) (by simp [results, Tryz.results10, go_sem, hb9.cell]) rfl
                  ⟨AX, cx, neg, A, n1, c1, A', n1', c1', rfl, hcx, ?_, ?_, ?_⟩
                · exact ((x0.set_ (p := ⟨w.heap.size + 1, 0, none⟩) q0 (by decide) _).set_ (p := ⟨w.heap.size + 1, 1, none⟩) q1 (by decide) _).set_ (p := ⟨w.heap.size + 1, 2, none⟩) q2 (by decide) _
                · exact ((r0.set_ (p := ⟨w.heap.size + 1, 0, none⟩) q0 (by decide) _).set_ (p := ⟨w.heap.size + 1, 1, none⟩) q1 (by decide) _).set_ (p := ⟨w.heap.size + 1, 2, none⟩) q2 (by decide) _
                · exact (((EX.set_ (by first | (simp; omega) | simp) _).set_ (by first | (simp; omega) | simp) _).set_ (by first | (simp; omega) | simp) _).drewN 1
              · have hbe : ((v : Int) == (m : Int)) = false := beq_eq_false_iff_ne.2 (by omega)
                have hund := undone_mark HLV.out HKD.out.2
                have hml : (markP ls v).length = N := by unfold markP; rw [HLV.out, List.length_set]; exact ST3.out.len
                have hok : lenOk (markP ls v) := fun l hl => by
                  have h1 : l.arcs.length + undone ls ≤ ls.length := by
                    unfold markP at hl
                    rw [HLV.out] at hl
                    rcases List.mem_or_eq_of_mem_set hl with h | h
                    · exact ST3.out.ok l h
                    · rw [h]; exact ST3.out.ok lv (List.mem_of_getElem? HLV.out)
                  have := ST3.out.len
                  omega
                have ST4 := Lib.hid (ST3.out.turn (grown_set w3 g (v * 6 + 1) (.bool true)) (ST3.out.lab.mark HLV.out) hml hok)
                have hfz : w3.frozen? ⟨g, v * 6 + 1, none⟩ = false := by
                  obtain ⟨css, _, _, h9, _⟩ := ST3.out.lab
                  exact h9.frozen _
                have hdj := DIJ2.out
                rw [if_neg (by omega)] at hdj
                have DIJ3 := Lib.hid hdj
                have AV := Lib.hid (show ∃ l, (markP ls v)[v]? = some l ∧ l.done = true ∧ l.arcs.length + undone (markP ls v) < N by
                  refine ⟨⟨lv.known, true, lv.arcs⟩, ?_, rfl, ?_⟩
                  · unfold markP; rw [HLV.out, List.getElem?_set_self hvl]
                  · have h1 := ST3.out.ok lv (List.mem_of_getElem? HLV.out)
                    have h2 := ST3.out.len
                    simp only []
                    omega)
                have HUN := Lib.hid hund
                clear hund hml hok hdj DIJ2 hRat hAX HR2 i0 i2 i3 i4 i5 hcx HKD
                go_upto_region 14 with fail
                go_cut [] (fun wx => ChSt w wx t AO co AL cl ps g gll N (markP ls v))
                case first =>
                  go_wp2
                  go_meet
                  exact ST4.out
                case rest =>
                  clear ST4 ST3 hfz i1 HLV hqd
                  obtain ⟨V, v1, v2⟩ := hcut.ll
                  have cl1 := (v1.cell v).trans (range_map_get _ V v hvN)
                  obtain ⟨AR, cr, v3, hcr, hrr⟩ := v2 v hvN
                  rw [v3] at cl1
                  have hlen := leavTo_len t (2 * t.links.length) v
                  change (leavP t v).length ≤ _ at hlen
                  have ST5 := Lib.hid hcut
                  have RR0 := Lib.hid hrr
                  clear v1 v2 v3 V hrr hcut
                  generalize hL : (leavP t v).length = L at *
                  have HL := Lib.hid (hL)
                  clear hL
                  generalize hM : markP ls v = ls0 at *
                  have HM := Lib.hid hM
                  clear hM
                  go_wp2
                  go_loopg [18, 19, 20, 84] L (fun k _ _ _ it wr => ∃ j : Nat, L - j = k ∧ j ≤ L ∧ it = .int .i64 j ∧ RdT wr 3 AR (ints (leavP t v)) ∧ ChSt w wr t AO co AL cl ps g gll N (((leavP t v).take j).foldl (relaxP t down ps m v) ls0) ∧ undone (((leavP t v).take j).foldl (relaxP t down ps m v) ls0) = undone ls0 ∧ ∃ l, (((leavP t v).take j).foldl (relaxP t down ps m v) ls0)[v]? = some l ∧ l.done = true ∧ l.arcs.length + undone ls0 < N)
                  case atStart => exact ⟨0, rfl, Nat.zero_le _, rfl, RR0.out, ST5.out, rfl, AV.out⟩
                  case round =>
                    clear ST5 AV cl1 RR0
                    obtain ⟨j, rfl, hj, rfl, hrr, hst, hun, hav⟩ := hrel
                    generalize hQ : ((leavP t v).take j).foldl (relaxP t down ps m v) ls0 = lq at *
                    have HQ := Lib.hid (hQ)
                    have HUQ := Lib.hid (hun)
                    clear hQ hun
                    obtain ⟨la, hla, hdn, hal⟩ := hav
                    have HLA := Lib.hid hla
                    have HDN2 := Lib.hid hdn
                    clear hla hdn
                    by_cases hjl : j < L
                    · obtain ⟨a, ha⟩ : ∃ a, (leavP t v)[j]? = some a := ⟨_, List.getElem?_eq_getElem (by rw [HL.out]; exact hjl)⟩
                      have ha2 : a < 2 * t.links.length := leavP_lt (List.mem_of_getElem? ha)
                      obtain ⟨h, hh, hhn⟩ := headP_ok HV.out.1 ha2
                      rw [HN.out] at hhn
                      have hpa : a < ps.length := by
                        have := HV.out.2.2
                        unfold pricedP at this
                        simp at this
                        omega
                      obtain ⟨b, o, rfl, hbl, hbc⟩ := hrr.rd.ints_ (k := j) (by rw [HL.out]; exact hjl)
                      rw [ha, Option.getD_some] at hbc
                      have hct := hst.tt
                      obtain ⟨⟨i0, i1, i2⟩, g'0, g'1, g'2⟩ := hct.three
                      have STEP := Lib.hid (show ((leavP t v).take (j + 1)).foldl (relaxP t down ps m v) ls0 = relaxP t down ps m v lq a by
                        rw [List.take_add_one, ha, List.foldl_append, HQ.out]; rfl)
                      have ST6 := Lib.hid hst
                      have RR6 := Lib.hid hrr
                      have HH := Lib.hid (hh)
                      clear ha hst hrr hh hct HQ
                      go_wp2_with fail
                      refine (gHead_any t AO co AL cl a _ (HT.out.keep ST6.out.ext) (by omega)).mono ?_
                      rintro e w6 ⟨rfl, hx6⟩
                      rw [HH.out]
                      have ST7 := Lib.hid (ST6.out.keep hx6)
                      have RR7 := Lib.hid (RR6.out.keep hx6)
                      clear hx6 ST6 RR6 i0 i1 i2 g'0 g'1 g'2 hbc
                      have hhq : h < lq.length := by have := ST7.out.len; omega
                      have hhN : (h : Int) < (N : Int) := by omega
                      obtain ⟨lh, hlh⟩ : ∃ lh, lq[h]? = some lh := ⟨_, List.getElem?_eq_getElem hhq⟩
                      obtain ⟨neg2, A2, n2, c2, A2', n2', c2', AX2, cx2, ⟨y0, y1, y2, y3, y4, y5⟩, hRat2, hcx2, hAX2⟩ := ST7.out.lab.at_ hlh
                      have STEP2 := Lib.hid (show relaxP t down ps m v lq a = if lh.done || !usableP t down a m then lq else if !lh.known || befP ps (arcsOf lq v ++ [a]) lh.arcs then lq.set h ⟨true, false, arcsOf lq v ++ [a]⟩ else lq by
                        unfold relaxP
                        rw [HH.out, Int.toNat_natCast, hlh])
                      have HLH := Lib.hid hlh
                      clear hlh
                      cases hld : lh.done
                      case true =>
                        rw [hld] at y1
                        have hS := STEP2.out
                        rw [hld] at hS
                        simp only [Bool.true_or, if_true] at hS
                        have HS := Lib.hid (STEP.out.trans hS)
                        have ALV := Lib.hid (show ∃ l, lq[v]? = some l ∧ l.done = true ∧ l.arcs.length + undone ls0 < N from ⟨la, HLA.out, HDN2.out, hal⟩)
                        clear hS STEP STEP2 hld
                        go_wp2
                        go_roundg (L - (j + 1))
                        case measure => omega
                        case rel => exact ⟨j + 1, rfl, by omega, by go_num, RR7.out, by rw [HS.out]; exact ST7.out, by rw [HS.out]; exact HUQ.out, by rw [HS.out]; exact ALV.out⟩
                      case false =>
                        rw [hld] at y1
                        have hct := ST7.out.tt
                        obtain ⟨⟨i0, i1, i2⟩, g'0, g'1, g'2⟩ := hct.three
                        have hov : t.over = [] ∨ headP t a < t.over.length := by
                          have := HV.out.1
                          unfold validP headOk at this
                          simp at this
                          rw [HH.out]
                          have hN9 := HN.out
                          rcases this.1.2 with e | e
                          · exact .inl e
                          · right; omega
                        have hdw : down = [] ∨ a < down.length := by
                          have := HV.out.2.1
                          unfold fitsP at this
                          simp at this
                          rcases this with e | e
                          · exact .inl e
                          · right; omega
                        have HOV := Lib.hid hov
                        have HDW := Lib.hid hdw
                        have HLD := Lib.hid hld
                        clear hov hdw hct hld
                        go_wp2_with fail
                        refine (usable_any t AO co AL cl AD cd down a m _ (HT.out.keep ST7.out.ext) (by omega) (HDN.out.keep ST7.out.ext) hdc hcd HDW.out (by rw [HH.out]; omega) HOV.out).mono ?_
                        rintro e w7 ⟨rfl, hx7⟩
                        have ST8 := Lib.hid (ST7.out.keep hx7)
                        have RR8 := Lib.hid (RR7.out.keep hx7)
                        have RAT2 := Lib.hid (hRat2.keep hx7)
                        have RX2 := Lib.hid (hAX2.keep hx7)
                        clear hx7 ST7 RR7 i0 i1 i2 g'0 g'1 g'2 HOV HDW y0 y1 y2 y3 y4 y5 hRat2 hAX2
                        cases hus : usableP t down a m
                        case false =>
                          have hS := STEP2.out
                          rw [hus] at hS
                          simp only [Bool.not_false, Bool.or_true, if_true] at hS
                          have HS := Lib.hid (STEP.out.trans hS)
                          have ALV := Lib.hid (show ∃ l, lq[v]? = some l ∧ l.done = true ∧ l.arcs.length + undone ls0 < N from ⟨la, HLA.out, HDN2.out, hal⟩)
                          clear hS STEP STEP2 hus
                          go_wp2
                          go_roundg (L - (j + 1))
                          case measure => omega
                          case rel => exact ⟨j + 1, rfl, by omega, by go_num, RR8.out, by rw [HS.out]; exact ST8.out, by rw [HS.out]; exact HUQ.out, by rw [HS.out]; exact ALV.out⟩
                        case true =>
                          have hS := STEP2.out
                          rw [hus, HLD.out] at hS
                          simp only [Bool.not_true, Bool.or_false, Bool.false_eq_true, if_false] at hS
                          have HS := Lib.hid (STEP.out.trans hS)
                          have STEPQ := Lib.hid STEP.out
                          clear hS STEP STEP2 hus
                          go_upto_region 20 with fail
                          obtain ⟨negv, Av, nv, cv, Av', nv', cv', AXv, cxv, ⟨c0W, c1W, c2W, c3W, c4W, c5W⟩, hRv, hcxv, hXv⟩ := ST8.out.lab.at_ HLA.out
                          obtain ⟨qa, hqa⟩ : ∃ qa, ps[a]? = some qa := ⟨_, List.getElem?_eq_getElem hpa⟩
                          obtain ⟨bp, op, negp, Ap, np, cpp, Ap', np', cp', rfl, hbp, p0W, p1W, p2W, hRp⟩ := (HPS.out.keep ST8.out.ext).at_ hqa
                          have HQA := Lib.hid (show ps[a]?.getD 0 = qa by rw [hqa]; rfl)
                          have hgW := ST8.out.lab.lt
                          have hszv : SzQ (prQ ps la.arcs) 134217728 := (SzQ.pr hP HSZ.out la.arcs).mono (by
                            have h2 : la.arcs.length * (P + 1) ≤ 64 * 1000001 := Nat.mul_le_mul (by omega) (by omega)
                            omega)
                          have hlv := hRv.lens hszv
                          have hlp := hRp.lens ((HSZ.out qa (List.mem_of_getElem? hqa)).mono (show P ≤ 134217728 by omega))
                          have RTv := Lib.hid hRv
                          have RTp := Lib.hid hRp
                          have RXv := Lib.hid hXv
                          have hal2 : la.arcs.length ≤ 64 := by omega
                          obtain ⟨ti, hi, hz0, hz1, hz2⟩ := info_parts Tryz.info3
                          have HAL := Lib.hid hal
                          clear hqa hRv hRp hXv hszv c0W c1W
                          obtain ⟨W, hWW⟩ : ∃ W, W = w7 := ⟨_, rfl⟩
                          have ST8 := Lib.hid (hWW ▸ ST8.out)
                          subst hWW
                          go_cut [20] (NextPost W ps (la.arcs ++ [a]))
                          case first =>
                            have c2 := c2W
                            have c3 := c3W
                            have c4 := c4W
                            have c5 := c5W
                            have p0 := p0W
                            have p1 := p1W
                            have p2 := p2W
                            have hv0 : (0 : Int) ≤ (a : Int) := by omega
                            have hv1 : (a : Int) < (ps.length : Int) := by omega
                            --REGION20
                            have EW0 := Lib.hid (show Ext W W.drew from ((Ext.refl W)).drewN 1)
                            have EWB := Lib.hid (show Ext W (W.alloc (.cells #[.int .i64 (a : Int)] 3)).drew from ((Ext.refl W).alloc _).drewN 1)
                            have EWL := Lib.hid (show Ext W (W.alloc (.cells #[.bool false, .bool false, .bool false, .slice none 0 0, .slice none 0 0, .slice none 0 0] 68)).drew from ((Ext.refl W).alloc _).drewN 1)
                            have EWBL := Lib.hid (show Ext W ((W.alloc (.cells #[.int .i64 (a : Int)] 3)).alloc (.cells #[.bool false, .bool false, .bool false, .slice none 0 0, .slice none 0 0, .slice none 0 0] 68)).drew from (((Ext.refl W).alloc _).alloc _).drewN 1)
                            have EWLB := Lib.hid (show Ext W ((W.alloc (.cells #[.bool false, .bool false, .bool false, .slice none 0 0, .slice none 0 0, .slice none 0 0] 68)).alloc (.cells #[.int .i64 (a : Int)] 3)).drew from (((Ext.refl W).alloc _).alloc _).drewN 1)
                            go_region_held3 (fun w' => w'.cell? ⟨g, v * 6 + 2, none⟩ = some (.bool negv) ∧ w'.cell? ⟨g, v * 6 + 3, none⟩ = some (.slice Av nv cv) ∧ w'.cell? ⟨g, v * 6 + 4, none⟩ = some (.slice Av' nv' cv') ∧ w'.cell? ⟨g, v * 6 + 5, none⟩ = some (.slice AXv la.arcs.length cxv) ∧ w'.cell? ⟨bp, op + a * 3, none⟩ = some (.bool negp) ∧ w'.cell? ⟨bp, op + a * 3 + 1, none⟩ = some (.slice Ap np cpp) ∧ w'.cell? ⟨bp, op + a * 3 + 2, none⟩ = some (.slice Ap' np' cp'))
                            (first | with_reducible exact ⟨c2, c3, c4, c5, p0, p1, p2⟩ | with_reducible exact ⟨cell_alloc_of c2 _, cell_alloc_of c3 _, cell_alloc_of c4 _, cell_alloc_of c5 _, cell_alloc_of p0 _, cell_alloc_of p1 _, cell_alloc_of p2 _⟩ | with_reducible exact ⟨cell_alloc_of (cell_alloc_of c2 _) _, cell_alloc_of (cell_alloc_of c3 _) _, cell_alloc_of (cell_alloc_of c4 _) _, cell_alloc_of (cell_alloc_of c5 _) _, cell_alloc_of (cell_alloc_of p0 _) _, cell_alloc_of (cell_alloc_of p1 _) _, cell_alloc_of (cell_alloc_of p2 _) _⟩ | with_reducible exact ⟨cell_drew c2, cell_drew c3, cell_drew c4, cell_drew c5, cell_drew p0, cell_drew p1, cell_drew p2⟩ | with_reducible exact ⟨cell_drew (cell_alloc_of c2 _), cell_drew (cell_alloc_of c3 _), cell_drew (cell_alloc_of c4 _), cell_drew (cell_alloc_of c5 _), cell_drew (cell_alloc_of p0 _), cell_drew (cell_alloc_of p1 _), cell_drew (cell_alloc_of p2 _)⟩ | with_reducible exact ⟨cell_drew (cell_alloc_of (cell_alloc_of c2 _) _), cell_drew (cell_alloc_of (cell_alloc_of c3 _) _), cell_drew (cell_alloc_of (cell_alloc_of c4 _) _), cell_drew (cell_alloc_of (cell_alloc_of c5 _) _), cell_drew (cell_alloc_of (cell_alloc_of p0 _) _), cell_drew (cell_alloc_of (cell_alloc_of p1 _) _), cell_drew (cell_alloc_of (cell_alloc_of p2 _) _)⟩ | with_reducible exact ⟨(cell_set_of (cell_set_of (cell_set_of (cell_set_of (cell_set_of (cell_set_of c2 (Nat.ne_of_lt (Nat.lt_of_lt_of_le hgW hgl))) (Nat.ne_of_lt (Nat.lt_of_lt_of_le hgW hgl))) (Nat.ne_of_lt (Nat.lt_of_lt_of_le hgW hgl))) (Nat.ne_of_lt (Nat.lt_of_lt_of_le hgW hgl))) (Nat.ne_of_lt (Nat.lt_of_lt_of_le hgW hgl))) (Nat.ne_of_lt (Nat.lt_of_lt_of_le hgW hgl))), (cell_set_of (cell_set_of (cell_set_of (cell_set_of (cell_set_of (cell_set_of c3 (Nat.ne_of_lt (Nat.lt_of_lt_of_le hgW hgl))) (Nat.ne_of_lt (Nat.lt_of_lt_of_le hgW hgl))) (Nat.ne_of_lt (Nat.lt_of_lt_of_le hgW hgl))) (Nat.ne_of_lt (Nat.lt_of_lt_of_le hgW hgl))) (Nat.ne_of_lt (Nat.lt_of_lt_of_le hgW hgl))) (Nat.ne_of_lt (Nat.lt_of_lt_of_le hgW hgl))), (cell_set_of (cell_set_of (cell_set_of (cell_set_of (cell_set_of (cell_set_of c4 (Nat.ne_of_lt (Nat.lt_of_lt_of_le hgW hgl))) (Nat.ne_of_lt (Nat.lt_of_lt_of_le hgW hgl))) (Nat.ne_of_lt (Nat.lt_of_lt_of_le hgW hgl))) (Nat.ne_of_lt (Nat.lt_of_lt_of_le hgW hgl))) (Nat.ne_of_lt (Nat.lt_of_lt_of_le hgW hgl))) (Nat.ne_of_lt (Nat.lt_of_lt_of_le hgW hgl))), (cell_set_of (cell_set_of (cell_set_of (cell_set_of (cell_set_of (cell_set_of c5 (Nat.ne_of_lt (Nat.lt_of_lt_of_le hgW hgl))) (Nat.ne_of_lt (Nat.lt_of_lt_of_le hgW hgl))) (Nat.ne_of_lt (Nat.lt_of_lt_of_le hgW hgl))) (Nat.ne_of_lt (Nat.lt_of_lt_of_le hgW hgl))) (Nat.ne_of_lt (Nat.lt_of_lt_of_le hgW hgl))) (Nat.ne_of_lt (Nat.lt_of_lt_of_le hgW hgl))), (cell_set_of (cell_set_of (cell_set_of (cell_set_of (cell_set_of (cell_set_of p0 (Nat.ne_of_lt (Nat.lt_of_lt_of_le hbp hgl))) (Nat.ne_of_lt (Nat.lt_of_lt_of_le hbp hgl))) (Nat.ne_of_lt (Nat.lt_of_lt_of_le hbp hgl))) (Nat.ne_of_lt (Nat.lt_of_lt_of_le hbp hgl))) (Nat.ne_of_lt (Nat.lt_of_lt_of_le hbp hgl))) (Nat.ne_of_lt (Nat.lt_of_lt_of_le hbp hgl))), (cell_set_of (cell_set_of (cell_set_of (cell_set_of (cell_set_of (cell_set_of p1 (Nat.ne_of_lt (Nat.lt_of_lt_of_le hbp hgl))) (Nat.ne_of_lt (Nat.lt_of_lt_of_le hbp hgl))) (Nat.ne_of_lt (Nat.lt_of_lt_of_le hbp hgl))) (Nat.ne_of_lt (Nat.lt_of_lt_of_le hbp hgl))) (Nat.ne_of_lt (Nat.lt_of_lt_of_le hbp hgl))) (Nat.ne_of_lt (Nat.lt_of_lt_of_le hbp hgl))), (cell_set_of (cell_set_of (cell_set_of (cell_set_of (cell_set_of (cell_set_of p2 (Nat.ne_of_lt (Nat.lt_of_lt_of_le hbp hgl))) (Nat.ne_of_lt (Nat.lt_of_lt_of_le hbp hgl))) (Nat.ne_of_lt (Nat.lt_of_lt_of_le hbp hgl))) (Nat.ne_of_lt (Nat.lt_of_lt_of_le hbp hgl))) (Nat.ne_of_lt (Nat.lt_of_lt_of_le hbp hgl))) (Nat.ne_of_lt (Nat.lt_of_lt_of_le hbp hgl)))⟩ | fail "none")
                            (first
                            | (rw [if_pos (by rfl)]
                               refine wp_append_rd _ (.tmp 117) (.tmp 119) 41 (by rfl) W.heap.size 3 ti (.int .i64 0) 8 Tryz.underlying41 hi hz0 hz1 hz2 rfl v6 la.arcs.length (ints la.arcs) (by rfl) (by with_reducible exact O6.out.kept (grown_ext ((Ext.refl w6c))) (own_none _)) (some ⟨W.heap.size, 0, none⟩) 1 1 [.int .i64 (a : Int)] (by rfl) rfl (by with_reducible exact rd_src (SB.out.keep ((Ext.refl w6c)))) (fun h => by cases h) (fun u hu => by simp at hu; subst hu; rfl) (by unfold maxLen; omega) (by omega) (by with_reducible exact (X6.out.tr ((Ext.refl w6c))).size) ?_
                               intro v8 w8 hown8 hgrow8 _
                               obtain ⟨g8, c8, rfl, hc8⟩ := own_form hown8
                               have hkd : ∀ k, v6.ownBlock = some k → ∃ cs fr, (w6c).heap[k]? = some (.cells cs 3 fr) := fun k hk => Lib.ownsRow_kind (O6.out.kept (grown_ext ((Ext.refl w6c))) (own_none _)) k hk
                               have X8 := Lib.hid (show Ext W w8 from Below.grown (X6.out.tr ((Ext.refl w6c))) hgrow8 (X6.out.tr ((Ext.refl w6c))).size (fun k hk => (O6.out.lt k hk).1))
                               have R8 := Lib.hid ((R6.out.keep ((Ext.refl w6c))).grownK hgrow8 hkd (by decide))
                               have hr8 := own_rd8 hown8
                               have hl8 : (la.arcs ++ [a]).length = la.arcs.length + 1 := by simp
                               have FINA := Lib.hid (next_new (W := W) (ps := ps) (arcs := la.arcs ++ [a]) (k := la.arcs.length + 1) (cx := c8) hl8 R8.out (by rw [hl8]; exact hc8) hr8 X8.out)
                               first
                                 | (have SL8 := Lib.hid (Blk.grownK (SL.out.keep ((Ext.refl w6c))) hgrow8 hkd (by decide))
                                    have hgl := HGL.out
                                    have FINS := Lib.hid (next_set (W := W) (ps := ps) (arcs := la.arcs ++ [a]) (k := la.arcs.length + 1) (cx := c8) hl8 SL8.out R8.out (by rw [hl8]; exact hc8) hr8 hgl X8.out)
                                    have l0 := SL8.out.cell 0
                                    have lf0 := SL8.out.frozen 0
                                    have l1 := SL8.out.cell 1
                                    have lf1 := SL8.out.frozen 1
                                    have l2 := SL8.out.cell 2
                                    have lf2 := SL8.out.frozen 2
                                    have l3 := SL8.out.cell 3
                                    have lf3 := SL8.out.frozen 3
                                    have l4 := SL8.out.cell 4
                                    have lf4 := SL8.out.frozen 4
                                    have l5 := SL8.out.cell 5
                                    have lf5 := SL8.out.frozen 5)
                                 | skip
                               have c2 := (X8.out.cell (p := ⟨g, v * 6 + 2, none⟩) hgW).trans c2W
                               have c3 := (X8.out.cell (p := ⟨g, v * 6 + 3, none⟩) hgW).trans c3W
                               have c4 := (X8.out.cell (p := ⟨g, v * 6 + 4, none⟩) hgW).trans c4W
                               have c5 := (X8.out.cell (p := ⟨g, v * 6 + 5, none⟩) hgW).trans c5W
                               have p0 := (X8.out.cell (p := ⟨bp, op + a * 3, none⟩) hbp).trans p0W
                               have p1 := (X8.out.cell (p := ⟨bp, op + a * 3 + 1, none⟩) hbp).trans p1W
                               have p2 := (X8.out.cell (p := ⟨bp, op + a * 3 + 2, none⟩) hbp).trans p2W
                               clear hown8 hgrow8 hkd hr8)
                            | (rw [if_pos (by rfl)]
                               refine wp_append_rd _ (.tmp 117) (.tmp 119) 41 (by rfl) W.heap.size 3 ti (.int .i64 0) 8 Tryz.underlying41 hi hz0 hz1 hz2 rfl v6 la.arcs.length (ints la.arcs) (by rfl) (by with_reducible exact O6.out.kept (grown_ext ((Ext.refl w6c))) (own_none _)) (some ⟨W.heap.size + 1, 0, none⟩) 1 1 [.int .i64 (a : Int)] (by rfl) rfl (by with_reducible exact rd_src (SB.out.keep ((Ext.refl w6c)))) (fun h => by cases h) (fun u hu => by simp at hu; subst hu; rfl) (by unfold maxLen; omega) (by omega) (by with_reducible exact (X6.out.tr ((Ext.refl w6c))).size) ?_
                               intro v8 w8 hown8 hgrow8 _
                               obtain ⟨g8, c8, rfl, hc8⟩ := own_form hown8
                               have hkd : ∀ k, v6.ownBlock = some k → ∃ cs fr, (w6c).heap[k]? = some (.cells cs 3 fr) := fun k hk => Lib.ownsRow_kind (O6.out.kept (grown_ext ((Ext.refl w6c))) (own_none _)) k hk
                               have X8 := Lib.hid (show Ext W w8 from Below.grown (X6.out.tr ((Ext.refl w6c))) hgrow8 (X6.out.tr ((Ext.refl w6c))).size (fun k hk => (O6.out.lt k hk).1))
                               have R8 := Lib.hid ((R6.out.keep ((Ext.refl w6c))).grownK hgrow8 hkd (by decide))
                               have hr8 := own_rd8 hown8
                               have hl8 : (la.arcs ++ [a]).length = la.arcs.length + 1 := by simp
                               have FINA := Lib.hid (next_new (W := W) (ps := ps) (arcs := la.arcs ++ [a]) (k := la.arcs.length + 1) (cx := c8) hl8 R8.out (by rw [hl8]; exact hc8) hr8 X8.out)
                               first
                                 | (have SL8 := Lib.hid (Blk.grownK (SL.out.keep ((Ext.refl w6c))) hgrow8 hkd (by decide))
                                    have hgl := HGL.out
                                    have FINS := Lib.hid (next_set (W := W) (ps := ps) (arcs := la.arcs ++ [a]) (k := la.arcs.length + 1) (cx := c8) hl8 SL8.out R8.out (by rw [hl8]; exact hc8) hr8 hgl X8.out)
                                    have l0 := SL8.out.cell 0
                                    have lf0 := SL8.out.frozen 0
                                    have l1 := SL8.out.cell 1
                                    have lf1 := SL8.out.frozen 1
                                    have l2 := SL8.out.cell 2
                                    have lf2 := SL8.out.frozen 2
                                    have l3 := SL8.out.cell 3
                                    have lf3 := SL8.out.frozen 3
                                    have l4 := SL8.out.cell 4
                                    have lf4 := SL8.out.frozen 4
                                    have l5 := SL8.out.cell 5
                                    have lf5 := SL8.out.frozen 5)
                                 | skip
                               have c2 := (X8.out.cell (p := ⟨g, v * 6 + 2, none⟩) hgW).trans c2W
                               have c3 := (X8.out.cell (p := ⟨g, v * 6 + 3, none⟩) hgW).trans c3W
                               have c4 := (X8.out.cell (p := ⟨g, v * 6 + 4, none⟩) hgW).trans c4W
                               have c5 := (X8.out.cell (p := ⟨g, v * 6 + 5, none⟩) hgW).trans c5W
                               have p0 := (X8.out.cell (p := ⟨bp, op + a * 3, none⟩) hbp).trans p0W
                               have p1 := (X8.out.cell (p := ⟨bp, op + a * 3 + 1, none⟩) hbp).trans p1W
                               have p2 := (X8.out.cell (p := ⟨bp, op + a * 3 + 2, none⟩) hbp).trans p2W
                               clear hown8 hgrow8 hkd hr8)
                            | (rw [if_pos (by rfl)]
                               refine wp_append_rd _ (.tmp 117) (.tmp 119) 41 (by rfl) W.heap.size 3 ti (.int .i64 0) 8 Tryz.underlying41 hi hz0 hz1 hz2 rfl v6 la.arcs.length (ints la.arcs) (by rfl) (by with_reducible exact O6.out.kept (grown_ext ((Ext.refl w6c))) (own_none _)) (some ⟨w5.heap.size, 0, none⟩) 1 1 [.int .i64 (a : Int)] (by rfl) rfl (by with_reducible exact rd_src (SB.out.keep ((Ext.refl w6c)))) (fun h => by cases h) (fun u hu => by simp at hu; subst hu; rfl) (by unfold maxLen; omega) (by omega) (by with_reducible exact (X6.out.tr ((Ext.refl w6c))).size) ?_
                               intro v8 w8 hown8 hgrow8 _
                               obtain ⟨g8, c8, rfl, hc8⟩ := own_form hown8
                               have hkd : ∀ k, v6.ownBlock = some k → ∃ cs fr, (w6c).heap[k]? = some (.cells cs 3 fr) := fun k hk => Lib.ownsRow_kind (O6.out.kept (grown_ext ((Ext.refl w6c))) (own_none _)) k hk
                               have X8 := Lib.hid (show Ext W w8 from Below.grown (X6.out.tr ((Ext.refl w6c))) hgrow8 (X6.out.tr ((Ext.refl w6c))).size (fun k hk => (O6.out.lt k hk).1))
                               have R8 := Lib.hid ((R6.out.keep ((Ext.refl w6c))).grownK hgrow8 hkd (by decide))
                               have hr8 := own_rd8 hown8
                               have hl8 : (la.arcs ++ [a]).length = la.arcs.length + 1 := by simp
                               have FINA := Lib.hid (next_new (W := W) (ps := ps) (arcs := la.arcs ++ [a]) (k := la.arcs.length + 1) (cx := c8) hl8 R8.out (by rw [hl8]; exact hc8) hr8 X8.out)
                               first
                                 | (have SL8 := Lib.hid (Blk.grownK (SL.out.keep ((Ext.refl w6c))) hgrow8 hkd (by decide))
                                    have hgl := HGL.out
                                    have FINS := Lib.hid (next_set (W := W) (ps := ps) (arcs := la.arcs ++ [a]) (k := la.arcs.length + 1) (cx := c8) hl8 SL8.out R8.out (by rw [hl8]; exact hc8) hr8 hgl X8.out)
                                    have l0 := SL8.out.cell 0
                                    have lf0 := SL8.out.frozen 0
                                    have l1 := SL8.out.cell 1
                                    have lf1 := SL8.out.frozen 1
                                    have l2 := SL8.out.cell 2
                                    have lf2 := SL8.out.frozen 2
                                    have l3 := SL8.out.cell 3
                                    have lf3 := SL8.out.frozen 3
                                    have l4 := SL8.out.cell 4
                                    have lf4 := SL8.out.frozen 4
                                    have l5 := SL8.out.cell 5
                                    have lf5 := SL8.out.frozen 5)
                                 | skip
                               have c2 := (X8.out.cell (p := ⟨g, v * 6 + 2, none⟩) hgW).trans c2W
                               have c3 := (X8.out.cell (p := ⟨g, v * 6 + 3, none⟩) hgW).trans c3W
                               have c4 := (X8.out.cell (p := ⟨g, v * 6 + 4, none⟩) hgW).trans c4W
                               have c5 := (X8.out.cell (p := ⟨g, v * 6 + 5, none⟩) hgW).trans c5W
                               have p0 := (X8.out.cell (p := ⟨bp, op + a * 3, none⟩) hbp).trans p0W
                               have p1 := (X8.out.cell (p := ⟨bp, op + a * 3 + 1, none⟩) hbp).trans p1W
                               have p2 := (X8.out.cell (p := ⟨bp, op + a * 3 + 2, none⟩) hbp).trans p2W
                               clear hown8 hgrow8 hkd hr8)
                            | (rw [if_pos (by rfl)]
                               refine wp_append_rd _ (.tmp 117) (.tmp 119) 41 (by rfl) W.heap.size 3 ti (.int .i64 0) 8 Tryz.underlying41 hi hz0 hz1 hz2 rfl v6 la.arcs.length (ints la.arcs) (by rfl) (by with_reducible exact O6.out.kept (grown_ext ((Ext.refl w6c))) (own_none _)) (some ⟨w5.heap.size + 1, 0, none⟩) 1 1 [.int .i64 (a : Int)] (by rfl) rfl (by with_reducible exact rd_src (SB.out.keep ((Ext.refl w6c)))) (fun h => by cases h) (fun u hu => by simp at hu; subst hu; rfl) (by unfold maxLen; omega) (by omega) (by with_reducible exact (X6.out.tr ((Ext.refl w6c))).size) ?_
                               intro v8 w8 hown8 hgrow8 _
                               obtain ⟨g8, c8, rfl, hc8⟩ := own_form hown8
                               have hkd : ∀ k, v6.ownBlock = some k → ∃ cs fr, (w6c).heap[k]? = some (.cells cs 3 fr) := fun k hk => Lib.ownsRow_kind (O6.out.kept (grown_ext ((Ext.refl w6c))) (own_none _)) k hk
                               have X8 := Lib.hid (show Ext W w8 from Below.grown (X6.out.tr ((Ext.refl w6c))) hgrow8 (X6.out.tr ((Ext.refl w6c))).size (fun k hk => (O6.out.lt k hk).1))
                               have R8 := Lib.hid ((R6.out.keep ((Ext.refl w6c))).grownK hgrow8 hkd (by decide))
                               have hr8 := own_rd8 hown8
                               have hl8 : (la.arcs ++ [a]).length = la.arcs.length + 1 := by simp
                               have FINA := Lib.hid (next_new (W := W) (ps := ps) (arcs := la.arcs ++ [a]) (k := la.arcs.length + 1) (cx := c8) hl8 R8.out (by rw [hl8]; exact hc8) hr8 X8.out)
                               first
                                 | (have SL8 := Lib.hid (Blk.grownK (SL.out.keep ((Ext.refl w6c))) hgrow8 hkd (by decide))
                                    have hgl := HGL.out
                                    have FINS := Lib.hid (next_set (W := W) (ps := ps) (arcs := la.arcs ++ [a]) (k := la.arcs.length + 1) (cx := c8) hl8 SL8.out R8.out (by rw [hl8]; exact hc8) hr8 hgl X8.out)
                                    have l0 := SL8.out.cell 0
                                    have lf0 := SL8.out.frozen 0
                                    have l1 := SL8.out.cell 1
                                    have lf1 := SL8.out.frozen 1
                                    have l2 := SL8.out.cell 2
                                    have lf2 := SL8.out.frozen 2
                                    have l3 := SL8.out.cell 3
                                    have lf3 := SL8.out.frozen 3
                                    have l4 := SL8.out.cell 4
                                    have lf4 := SL8.out.frozen 4
                                    have l5 := SL8.out.cell 5
                                    have lf5 := SL8.out.frozen 5)
                                 | skip
                               have c2 := (X8.out.cell (p := ⟨g, v * 6 + 2, none⟩) hgW).trans c2W
                               have c3 := (X8.out.cell (p := ⟨g, v * 6 + 3, none⟩) hgW).trans c3W
                               have c4 := (X8.out.cell (p := ⟨g, v * 6 + 4, none⟩) hgW).trans c4W
                               have c5 := (X8.out.cell (p := ⟨g, v * 6 + 5, none⟩) hgW).trans c5W
                               have p0 := (X8.out.cell (p := ⟨bp, op + a * 3, none⟩) hbp).trans p0W
                               have p1 := (X8.out.cell (p := ⟨bp, op + a * 3 + 1, none⟩) hbp).trans p1W
                               have p2 := (X8.out.cell (p := ⟨bp, op + a * 3 + 2, none⟩) hbp).trans p2W
                               clear hown8 hgrow8 hkd hr8)
                            | (rw [if_pos (by rfl)]
                               refine wp_append_rd _ (.tmp 117) (.tmp 119) 41 (by rfl) W.heap.size 3 ti (.int .i64 0) 8 Tryz.underlying41 hi hz0 hz1 hz2 rfl v6 la.arcs.length (ints la.arcs) (by rfl) (by with_reducible exact O6.out.kept (grown_ext ((Ext.refl w6c).alloc (.cells #[.int .i64 (a : Int)] 3))) (own_none _)) (some ⟨w6c.heap.size, 0, none⟩) 1 1 [.int .i64 (a : Int)] (by rfl) rfl (by with_reducible exact rd_src (show Blk (w6c.alloc (.cells #[.int .i64 (a : Int)] 3)) (w6c.heap.size) 3 #[.int .i64 (a : Int)] from Blk.new w6c 3 #[.int .i64 (a : Int)])) (fun h => by cases h) (fun u hu => by simp at hu; subst hu; rfl) (by unfold maxLen; omega) (by omega) (by with_reducible exact (X6.out.tr ((Ext.refl w6c).alloc (.cells #[.int .i64 (a : Int)] 3))).size) ?_
                               intro v8 w8 hown8 hgrow8 _
                               obtain ⟨g8, c8, rfl, hc8⟩ := own_form hown8
                               have hkd : ∀ k, v6.ownBlock = some k → ∃ cs fr, ((w6c.alloc (.cells #[.int .i64 (a : Int)] 3))).heap[k]? = some (.cells cs 3 fr) := fun k hk => Lib.ownsRow_kind (O6.out.kept (grown_ext ((Ext.refl w6c).alloc (.cells #[.int .i64 (a : Int)] 3))) (own_none _)) k hk
                               have X8 := Lib.hid (show Ext W w8 from Below.grown (X6.out.tr ((Ext.refl w6c).alloc (.cells #[.int .i64 (a : Int)] 3))) hgrow8 (X6.out.tr ((Ext.refl w6c).alloc (.cells #[.int .i64 (a : Int)] 3))).size (fun k hk => (O6.out.lt k hk).1))
                               have R8 := Lib.hid ((R6.out.keep ((Ext.refl w6c).alloc (.cells #[.int .i64 (a : Int)] 3))).grownK hgrow8 hkd (by decide))
                               have hr8 := own_rd8 hown8
                               have hl8 : (la.arcs ++ [a]).length = la.arcs.length + 1 := by simp
                               have FINA := Lib.hid (next_new (W := W) (ps := ps) (arcs := la.arcs ++ [a]) (k := la.arcs.length + 1) (cx := c8) hl8 R8.out (by rw [hl8]; exact hc8) hr8 X8.out)
                               first
                                 | (have SL8 := Lib.hid (Blk.grownK (SL.out.keep ((Ext.refl w6c).alloc (.cells #[.int .i64 (a : Int)] 3))) hgrow8 hkd (by decide))
                                    have hgl := HGL.out
                                    have FINS := Lib.hid (next_set (W := W) (ps := ps) (arcs := la.arcs ++ [a]) (k := la.arcs.length + 1) (cx := c8) hl8 SL8.out R8.out (by rw [hl8]; exact hc8) hr8 hgl X8.out)
                                    have l0 := SL8.out.cell 0
                                    have lf0 := SL8.out.frozen 0
                                    have l1 := SL8.out.cell 1
                                    have lf1 := SL8.out.frozen 1
                                    have l2 := SL8.out.cell 2
                                    have lf2 := SL8.out.frozen 2
                                    have l3 := SL8.out.cell 3
                                    have lf3 := SL8.out.frozen 3
                                    have l4 := SL8.out.cell 4
                                    have lf4 := SL8.out.frozen 4
                                    have l5 := SL8.out.cell 5
                                    have lf5 := SL8.out.frozen 5)
                                 | skip
                               have c2 := (X8.out.cell (p := ⟨g, v * 6 + 2, none⟩) hgW).trans c2W
                               have c3 := (X8.out.cell (p := ⟨g, v * 6 + 3, none⟩) hgW).trans c3W
                               have c4 := (X8.out.cell (p := ⟨g, v * 6 + 4, none⟩) hgW).trans c4W
                               have c5 := (X8.out.cell (p := ⟨g, v * 6 + 5, none⟩) hgW).trans c5W
                               have p0 := (X8.out.cell (p := ⟨bp, op + a * 3, none⟩) hbp).trans p0W
                               have p1 := (X8.out.cell (p := ⟨bp, op + a * 3 + 1, none⟩) hbp).trans p1W
                               have p2 := (X8.out.cell (p := ⟨bp, op + a * 3 + 2, none⟩) hbp).trans p2W
                               clear hown8 hgrow8 hkd hr8)
                            | (rw [if_pos (by rfl)]
                               refine wp_append_rd _ (.tmp 117) (.tmp 119) 41 (by rfl) W.heap.size 3 ti (.int .i64 0) 8 Tryz.underlying41 hi hz0 hz1 hz2 rfl v6 la.arcs.length (ints la.arcs) (by rfl) (by with_reducible exact O6.out.kept (grown_ext ((Ext.refl w6c).alloc (.cells #[.bool false, .bool false, .bool false, .slice none 0 0, .slice none 0 0, .slice none 0 0] 68))) (own_none _)) (some ⟨W.heap.size, 0, none⟩) 1 1 [.int .i64 (a : Int)] (by rfl) rfl (by with_reducible exact rd_src (SB.out.keep ((Ext.refl w6c).alloc (.cells #[.bool false, .bool false, .bool false, .slice none 0 0, .slice none 0 0, .slice none 0 0] 68)))) (fun h => by cases h) (fun u hu => by simp at hu; subst hu; rfl) (by unfold maxLen; omega) (by omega) (by with_reducible exact (X6.out.tr ((Ext.refl w6c).alloc (.cells #[.bool false, .bool false, .bool false, .slice none 0 0, .slice none 0 0, .slice none 0 0] 68))).size) ?_
                               intro v8 w8 hown8 hgrow8 _
                               obtain ⟨g8, c8, rfl, hc8⟩ := own_form hown8
                               have hkd : ∀ k, v6.ownBlock = some k → ∃ cs fr, ((w6c.alloc (.cells #[.bool false, .bool false, .bool false, .slice none 0 0, .slice none 0 0, .slice none 0 0] 68))).heap[k]? = some (.cells cs 3 fr) := fun k hk => Lib.ownsRow_kind (O6.out.kept (grown_ext ((Ext.refl w6c).alloc (.cells #[.bool false, .bool false, .bool false, .slice none 0 0, .slice none 0 0, .slice none 0 0] 68))) (own_none _)) k hk
                               have X8 := Lib.hid (show Ext W w8 from Below.grown (X6.out.tr ((Ext.refl w6c).alloc (.cells #[.bool false, .bool false, .bool false, .slice none 0 0, .slice none 0 0, .slice none 0 0] 68))) hgrow8 (X6.out.tr ((Ext.refl w6c).alloc (.cells #[.bool false, .bool false, .bool false, .slice none 0 0, .slice none 0 0, .slice none 0 0] 68))).size (fun k hk => (O6.out.lt k hk).1))
                               have R8 := Lib.hid ((R6.out.keep ((Ext.refl w6c).alloc (.cells #[.bool false, .bool false, .bool false, .slice none 0 0, .slice none 0 0, .slice none 0 0] 68))).grownK hgrow8 hkd (by decide))
                               have hr8 := own_rd8 hown8
                               have hl8 : (la.arcs ++ [a]).length = la.arcs.length + 1 := by simp
                               have FINA := Lib.hid (next_new (W := W) (ps := ps) (arcs := la.arcs ++ [a]) (k := la.arcs.length + 1) (cx := c8) hl8 R8.out (by rw [hl8]; exact hc8) hr8 X8.out)
                               have SL8 := Lib.hid (Blk.grownK (show Blk (w6c.alloc (.cells #[.bool false, .bool false, .bool false, .slice none 0 0, .slice none 0 0, .slice none 0 0] 68)) (w6c.heap.size) 68 #[.bool false, .bool false, .bool false, .slice none 0 0, .slice none 0 0, .slice none 0 0] from Blk.new w6c 68 #[.bool false, .bool false, .bool false, .slice none 0 0, .slice none 0 0, .slice none 0 0]) hgrow8 hkd (by decide))
                               have hgl : W.heap.size ≤ w6c.heap.size := by have := X6.out.size; omega
                               have FINS := Lib.hid (next_set (W := W) (ps := ps) (arcs := la.arcs ++ [a]) (k := la.arcs.length + 1) (cx := c8) hl8 SL8.out R8.out (by rw [hl8]; exact hc8) hr8 hgl X8.out)
                               have l0 := SL8.out.cell 0
                               have l1 := SL8.out.cell 1
                               have l2 := SL8.out.cell 2
                               have l3 := SL8.out.cell 3
                               have l4 := SL8.out.cell 4
                               have l5 := SL8.out.cell 5
                               have lf0 := SL8.out.frozen 0
                               have lf1 := SL8.out.frozen 1
                               have lf2 := SL8.out.frozen 2
                               have lf3 := SL8.out.frozen 3
                               have lf4 := SL8.out.frozen 4
                               have lf5 := SL8.out.frozen 5
                               have c2 := (X8.out.cell (p := ⟨g, v * 6 + 2, none⟩) hgW).trans c2W
                               have c3 := (X8.out.cell (p := ⟨g, v * 6 + 3, none⟩) hgW).trans c3W
                               have c4 := (X8.out.cell (p := ⟨g, v * 6 + 4, none⟩) hgW).trans c4W
                               have c5 := (X8.out.cell (p := ⟨g, v * 6 + 5, none⟩) hgW).trans c5W
                               have p0 := (X8.out.cell (p := ⟨bp, op + a * 3, none⟩) hbp).trans p0W
                               have p1 := (X8.out.cell (p := ⟨bp, op + a * 3 + 1, none⟩) hbp).trans p1W
                               have p2 := (X8.out.cell (p := ⟨bp, op + a * 3 + 2, none⟩) hbp).trans p2W
                               clear hown8 hgrow8 hkd hr8)
                            | (rw [if_pos (by rfl)]
                               refine wp_append_rd _ (.tmp 117) (.tmp 119) 41 (by rfl) W.heap.size 3 ti (.int .i64 0) 8 Tryz.underlying41 hi hz0 hz1 hz2 rfl v6 la.arcs.length (ints la.arcs) (by rfl) (by with_reducible exact O6.out.kept (grown_ext ((Ext.refl w6c).alloc (.cells #[.bool false, .bool false, .bool false, .slice none 0 0, .slice none 0 0, .slice none 0 0] 68))) (own_none _)) (some ⟨W.heap.size + 1, 0, none⟩) 1 1 [.int .i64 (a : Int)] (by rfl) rfl (by with_reducible exact rd_src (SB.out.keep ((Ext.refl w6c).alloc (.cells #[.bool false, .bool false, .bool false, .slice none 0 0, .slice none 0 0, .slice none 0 0] 68)))) (fun h => by cases h) (fun u hu => by simp at hu; subst hu; rfl) (by unfold maxLen; omega) (by omega) (by with_reducible exact (X6.out.tr ((Ext.refl w6c).alloc (.cells #[.bool false, .bool false, .bool false, .slice none 0 0, .slice none 0 0, .slice none 0 0] 68))).size) ?_
                               intro v8 w8 hown8 hgrow8 _
                               obtain ⟨g8, c8, rfl, hc8⟩ := own_form hown8
                               have hkd : ∀ k, v6.ownBlock = some k → ∃ cs fr, ((w6c.alloc (.cells #[.bool false, .bool false, .bool false, .slice none 0 0, .slice none 0 0, .slice none 0 0] 68))).heap[k]? = some (.cells cs 3 fr) := fun k hk => Lib.ownsRow_kind (O6.out.kept (grown_ext ((Ext.refl w6c).alloc (.cells #[.bool false, .bool false, .bool false, .slice none 0 0, .slice none 0 0, .slice none 0 0] 68))) (own_none _)) k hk
                               have X8 := Lib.hid (show Ext W w8 from Below.grown (X6.out.tr ((Ext.refl w6c).alloc (.cells #[.bool false, .bool false, .bool false, .slice none 0 0, .slice none 0 0, .slice none 0 0] 68))) hgrow8 (X6.out.tr ((Ext.refl w6c).alloc (.cells #[.bool false, .bool false, .bool false, .slice none 0 0, .slice none 0 0, .slice none 0 0] 68))).size (fun k hk => (O6.out.lt k hk).1))
                               have R8 := Lib.hid ((R6.out.keep ((Ext.refl w6c).alloc (.cells #[.bool false, .bool false, .bool false, .slice none 0 0, .slice none 0 0, .slice none 0 0] 68))).grownK hgrow8 hkd (by decide))
                               have hr8 := own_rd8 hown8
                               have hl8 : (la.arcs ++ [a]).length = la.arcs.length + 1 := by simp
                               have FINA := Lib.hid (next_new (W := W) (ps := ps) (arcs := la.arcs ++ [a]) (k := la.arcs.length + 1) (cx := c8) hl8 R8.out (by rw [hl8]; exact hc8) hr8 X8.out)
                               have SL8 := Lib.hid (Blk.grownK (show Blk (w6c.alloc (.cells #[.bool false, .bool false, .bool false, .slice none 0 0, .slice none 0 0, .slice none 0 0] 68)) (w6c.heap.size) 68 #[.bool false, .bool false, .bool false, .slice none 0 0, .slice none 0 0, .slice none 0 0] from Blk.new w6c 68 #[.bool false, .bool false, .bool false, .slice none 0 0, .slice none 0 0, .slice none 0 0]) hgrow8 hkd (by decide))
                               have hgl : W.heap.size ≤ w6c.heap.size := by have := X6.out.size; omega
                               have FINS := Lib.hid (next_set (W := W) (ps := ps) (arcs := la.arcs ++ [a]) (k := la.arcs.length + 1) (cx := c8) hl8 SL8.out R8.out (by rw [hl8]; exact hc8) hr8 hgl X8.out)
                               have l0 := SL8.out.cell 0
                               have l1 := SL8.out.cell 1
                               have l2 := SL8.out.cell 2
                               have l3 := SL8.out.cell 3
                               have l4 := SL8.out.cell 4
                               have l5 := SL8.out.cell 5
                               have lf0 := SL8.out.frozen 0
                               have lf1 := SL8.out.frozen 1
                               have lf2 := SL8.out.frozen 2
                               have lf3 := SL8.out.frozen 3
                               have lf4 := SL8.out.frozen 4
                               have lf5 := SL8.out.frozen 5
                               have c2 := (X8.out.cell (p := ⟨g, v * 6 + 2, none⟩) hgW).trans c2W
                               have c3 := (X8.out.cell (p := ⟨g, v * 6 + 3, none⟩) hgW).trans c3W
                               have c4 := (X8.out.cell (p := ⟨g, v * 6 + 4, none⟩) hgW).trans c4W
                               have c5 := (X8.out.cell (p := ⟨g, v * 6 + 5, none⟩) hgW).trans c5W
                               have p0 := (X8.out.cell (p := ⟨bp, op + a * 3, none⟩) hbp).trans p0W
                               have p1 := (X8.out.cell (p := ⟨bp, op + a * 3 + 1, none⟩) hbp).trans p1W
                               have p2 := (X8.out.cell (p := ⟨bp, op + a * 3 + 2, none⟩) hbp).trans p2W
                               clear hown8 hgrow8 hkd hr8)
                            | (rw [if_pos (by rfl)]
                               refine wp_append_rd _ (.tmp 117) (.tmp 119) 41 (by rfl) W.heap.size 3 ti (.int .i64 0) 8 Tryz.underlying41 hi hz0 hz1 hz2 rfl v6 la.arcs.length (ints la.arcs) (by rfl) (by with_reducible exact O6.out.kept (grown_ext ((Ext.refl w6c).alloc (.cells #[.bool false, .bool false, .bool false, .slice none 0 0, .slice none 0 0, .slice none 0 0] 68))) (own_none _)) (some ⟨w5.heap.size, 0, none⟩) 1 1 [.int .i64 (a : Int)] (by rfl) rfl (by with_reducible exact rd_src (SB.out.keep ((Ext.refl w6c).alloc (.cells #[.bool false, .bool false, .bool false, .slice none 0 0, .slice none 0 0, .slice none 0 0] 68)))) (fun h => by cases h) (fun u hu => by simp at hu; subst hu; rfl) (by unfold maxLen; omega) (by omega) (by with_reducible exact (X6.out.tr ((Ext.refl w6c).alloc (.cells #[.bool false, .bool false, .bool false, .slice none 0 0, .slice none 0 0, .slice none 0 0] 68))).size) ?_
                               intro v8 w8 hown8 hgrow8 _
                               obtain ⟨g8, c8, rfl, hc8⟩ := own_form hown8
                               have hkd : ∀ k, v6.ownBlock = some k → ∃ cs fr, ((w6c.alloc (.cells #[.bool false, .bool false, .bool false, .slice none 0 0, .slice none 0 0, .slice none 0 0] 68))).heap[k]? = some (.cells cs 3 fr) := fun k hk => Lib.ownsRow_kind (O6.out.kept (grown_ext ((Ext.refl w6c).alloc (.cells #[.bool false, .bool false, .bool false, .slice none 0 0, .slice none 0 0, .slice none 0 0] 68))) (own_none _)) k hk
                               have X8 := Lib.hid (show Ext W w8 from Below.grown (X6.out.tr ((Ext.refl w6c).alloc (.cells #[.bool false, .bool false, .bool false, .slice none 0 0, .slice none 0 0, .slice none 0 0] 68))) hgrow8 (X6.out.tr ((Ext.refl w6c).alloc (.cells #[.bool false, .bool false, .bool false, .slice none 0 0, .slice none 0 0, .slice none 0 0] 68))).size (fun k hk => (O6.out.lt k hk).1))
                               have R8 := Lib.hid ((R6.out.keep ((Ext.refl w6c).alloc (.cells #[.bool false, .bool false, .bool false, .slice none 0 0, .slice none 0 0, .slice none 0 0] 68))).grownK hgrow8 hkd (by decide))
                               have hr8 := own_rd8 hown8
                               have hl8 : (la.arcs ++ [a]).length = la.arcs.length + 1 := by simp
                               have FINA := Lib.hid (next_new (W := W) (ps := ps) (arcs := la.arcs ++ [a]) (k := la.arcs.length + 1) (cx := c8) hl8 R8.out (by rw [hl8]; exact hc8) hr8 X8.out)
                               have SL8 := Lib.hid (Blk.grownK (show Blk (w6c.alloc (.cells #[.bool false, .bool false, .bool false, .slice none 0 0, .slice none 0 0, .slice none 0 0] 68)) (w6c.heap.size) 68 #[.bool false, .bool false, .bool false, .slice none 0 0, .slice none 0 0, .slice none 0 0] from Blk.new w6c 68 #[.bool false, .bool false, .bool false, .slice none 0 0, .slice none 0 0, .slice none 0 0]) hgrow8 hkd (by decide))
                               have hgl : W.heap.size ≤ w6c.heap.size := by have := X6.out.size; omega
                               have FINS := Lib.hid (next_set (W := W) (ps := ps) (arcs := la.arcs ++ [a]) (k := la.arcs.length + 1) (cx := c8) hl8 SL8.out R8.out (by rw [hl8]; exact hc8) hr8 hgl X8.out)
                               have l0 := SL8.out.cell 0
                               have l1 := SL8.out.cell 1
                               have l2 := SL8.out.cell 2
                               have l3 := SL8.out.cell 3
                               have l4 := SL8.out.cell 4
                               have l5 := SL8.out.cell 5
                               have lf0 := SL8.out.frozen 0
                               have lf1 := SL8.out.frozen 1
                               have lf2 := SL8.out.frozen 2
                               have lf3 := SL8.out.frozen 3
                               have lf4 := SL8.out.frozen 4
                               have lf5 := SL8.out.frozen 5
                               have c2 := (X8.out.cell (p := ⟨g, v * 6 + 2, none⟩) hgW).trans c2W
                               have c3 := (X8.out.cell (p := ⟨g, v * 6 + 3, none⟩) hgW).trans c3W
                               have c4 := (X8.out.cell (p := ⟨g, v * 6 + 4, none⟩) hgW).trans c4W
                               have c5 := (X8.out.cell (p := ⟨g, v * 6 + 5, none⟩) hgW).trans c5W
                               have p0 := (X8.out.cell (p := ⟨bp, op + a * 3, none⟩) hbp).trans p0W
                               have p1 := (X8.out.cell (p := ⟨bp, op + a * 3 + 1, none⟩) hbp).trans p1W
                               have p2 := (X8.out.cell (p := ⟨bp, op + a * 3 + 2, none⟩) hbp).trans p2W
                               clear hown8 hgrow8 hkd hr8)
                            | (rw [if_pos (by rfl)]
                               refine wp_append_rd _ (.tmp 117) (.tmp 119) 41 (by rfl) W.heap.size 3 ti (.int .i64 0) 8 Tryz.underlying41 hi hz0 hz1 hz2 rfl v6 la.arcs.length (ints la.arcs) (by rfl) (by with_reducible exact O6.out.kept (grown_ext ((Ext.refl w6c).alloc (.cells #[.bool false, .bool false, .bool false, .slice none 0 0, .slice none 0 0, .slice none 0 0] 68))) (own_none _)) (some ⟨w5.heap.size + 1, 0, none⟩) 1 1 [.int .i64 (a : Int)] (by rfl) rfl (by with_reducible exact rd_src (SB.out.keep ((Ext.refl w6c).alloc (.cells #[.bool false, .bool false, .bool false, .slice none 0 0, .slice none 0 0, .slice none 0 0] 68)))) (fun h => by cases h) (fun u hu => by simp at hu; subst hu; rfl) (by unfold maxLen; omega) (by omega) (by with_reducible exact (X6.out.tr ((Ext.refl w6c).alloc (.cells #[.bool false, .bool false, .bool false, .slice none 0 0, .slice none 0 0, .slice none 0 0] 68))).size) ?_
                               intro v8 w8 hown8 hgrow8 _
                               obtain ⟨g8, c8, rfl, hc8⟩ := own_form hown8
                               have hkd : ∀ k, v6.ownBlock = some k → ∃ cs fr, ((w6c.alloc (.cells #[.bool false, .bool false, .bool false, .slice none 0 0, .slice none 0 0, .slice none 0 0] 68))).heap[k]? = some (.cells cs 3 fr) := fun k hk => Lib.ownsRow_kind (O6.out.kept (grown_ext ((Ext.refl w6c).alloc (.cells #[.bool false, .bool false, .bool false, .slice none 0 0, .slice none 0 0, .slice none 0 0] 68))) (own_none _)) k hk
                               have X8 := Lib.hid (show Ext W w8 from Below.grown (X6.out.tr ((Ext.refl w6c).alloc (.cells #[.bool false, .bool false, .bool false, .slice none 0 0, .slice none 0 0, .slice none 0 0] 68))) hgrow8 (X6.out.tr ((Ext.refl w6c).alloc (.cells #[.bool false, .bool false, .bool false, .slice none 0 0, .slice none 0 0, .slice none 0 0] 68))).size (fun k hk => (O6.out.lt k hk).1))
                               have R8 := Lib.hid ((R6.out.keep ((Ext.refl w6c).alloc (.cells #[.bool false, .bool false, .bool false, .slice none 0 0, .slice none 0 0, .slice none 0 0] 68))).grownK hgrow8 hkd (by decide))
                               have hr8 := own_rd8 hown8
                               have hl8 : (la.arcs ++ [a]).length = la.arcs.length + 1 := by simp
                               have FINA := Lib.hid (next_new (W := W) (ps := ps) (arcs := la.arcs ++ [a]) (k := la.arcs.length + 1) (cx := c8) hl8 R8.out (by rw [hl8]; exact hc8) hr8 X8.out)
                               have SL8 := Lib.hid (Blk.grownK (show Blk (w6c.alloc (.cells #[.bool false, .bool false, .bool false, .slice none 0 0, .slice none 0 0, .slice none 0 0] 68)) (w6c.heap.size) 68 #[.bool false, .bool false, .bool false, .slice none 0 0, .slice none 0 0, .slice none 0 0] from Blk.new w6c 68 #[.bool false, .bool false, .bool false, .slice none 0 0, .slice none 0 0, .slice none 0 0]) hgrow8 hkd (by decide))
                               have hgl : W.heap.size ≤ w6c.heap.size := by have := X6.out.size; omega
                               have FINS := Lib.hid (next_set (W := W) (ps := ps) (arcs := la.arcs ++ [a]) (k := la.arcs.length + 1) (cx := c8) hl8 SL8.out R8.out (by rw [hl8]; exact hc8) hr8 hgl X8.out)
                               have l0 := SL8.out.cell 0
                               have l1 := SL8.out.cell 1
                               have l2 := SL8.out.cell 2
                               have l3 := SL8.out.cell 3
                               have l4 := SL8.out.cell 4
                               have l5 := SL8.out.cell 5
                               have lf0 := SL8.out.frozen 0
                               have lf1 := SL8.out.frozen 1
                               have lf2 := SL8.out.frozen 2
                               have lf3 := SL8.out.frozen 3
                               have lf4 := SL8.out.frozen 4
                               have lf5 := SL8.out.frozen 5
                               have c2 := (X8.out.cell (p := ⟨g, v * 6 + 2, none⟩) hgW).trans c2W
                               have c3 := (X8.out.cell (p := ⟨g, v * 6 + 3, none⟩) hgW).trans c3W
                               have c4 := (X8.out.cell (p := ⟨g, v * 6 + 4, none⟩) hgW).trans c4W
                               have c5 := (X8.out.cell (p := ⟨g, v * 6 + 5, none⟩) hgW).trans c5W
                               have p0 := (X8.out.cell (p := ⟨bp, op + a * 3, none⟩) hbp).trans p0W
                               have p1 := (X8.out.cell (p := ⟨bp, op + a * 3 + 1, none⟩) hbp).trans p1W
                               have p2 := (X8.out.cell (p := ⟨bp, op + a * 3 + 2, none⟩) hbp).trans p2W
                               clear hown8 hgrow8 hkd hr8)
                            | (rw [if_pos (by rfl)]
                               refine wp_append_rd _ (.tmp 117) (.tmp 119) 41 (by rfl) W.heap.size 3 ti (.int .i64 0) 8 Tryz.underlying41 hi hz0 hz1 hz2 rfl v6 la.arcs.length (ints la.arcs) (by rfl) (by with_reducible exact O6.out.kept (grown_ext (((Ext.refl w6c).alloc (.cells #[.int .i64 (a : Int)] 3)).alloc (.cells #[.bool false, .bool false, .bool false, .slice none 0 0, .slice none 0 0, .slice none 0 0] 68))) (own_none _)) (some ⟨w6c.heap.size, 0, none⟩) 1 1 [.int .i64 (a : Int)] (by rfl) rfl (by with_reducible exact rd_src (show Blk ((w6c.alloc (.cells #[.int .i64 (a : Int)] 3)).alloc (.cells #[.bool false, .bool false, .bool false, .slice none 0 0, .slice none 0 0, .slice none 0 0] 68)) (w6c.heap.size) 3 #[.int .i64 (a : Int)] from (Blk.new w6c 3 #[.int .i64 (a : Int)]).alloc (.cells #[.bool false, .bool false, .bool false, .slice none 0 0, .slice none 0 0, .slice none 0 0] 68))) (fun h => by cases h) (fun u hu => by simp at hu; subst hu; rfl) (by unfold maxLen; omega) (by omega) (by with_reducible exact (X6.out.tr (((Ext.refl w6c).alloc (.cells #[.int .i64 (a : Int)] 3)).alloc (.cells #[.bool false, .bool false, .bool false, .slice none 0 0, .slice none 0 0, .slice none 0 0] 68))).size) ?_
                               intro v8 w8 hown8 hgrow8 _
                               obtain ⟨g8, c8, rfl, hc8⟩ := own_form hown8
                               have hkd : ∀ k, v6.ownBlock = some k → ∃ cs fr, (((w6c.alloc (.cells #[.int .i64 (a : Int)] 3)).alloc (.cells #[.bool false, .bool false, .bool false, .slice none 0 0, .slice none 0 0, .slice none 0 0] 68))).heap[k]? = some (.cells cs 3 fr) := fun k hk => Lib.ownsRow_kind (O6.out.kept (grown_ext (((Ext.refl w6c).alloc (.cells #[.int .i64 (a : Int)] 3)).alloc (.cells #[.bool false, .bool false, .bool false, .slice none 0 0, .slice none 0 0, .slice none 0 0] 68))) (own_none _)) k hk
                               have X8 := Lib.hid (show Ext W w8 from Below.grown (X6.out.tr (((Ext.refl w6c).alloc (.cells #[.int .i64 (a : Int)] 3)).alloc (.cells #[.bool false, .bool false, .bool false, .slice none 0 0, .slice none 0 0, .slice none 0 0] 68))) hgrow8 (X6.out.tr (((Ext.refl w6c).alloc (.cells #[.int .i64 (a : Int)] 3)).alloc (.cells #[.bool false, .bool false, .bool false, .slice none 0 0, .slice none 0 0, .slice none 0 0] 68))).size (fun k hk => (O6.out.lt k hk).1))
                               have R8 := Lib.hid ((R6.out.keep (((Ext.refl w6c).alloc (.cells #[.int .i64 (a : Int)] 3)).alloc (.cells #[.bool false, .bool false, .bool false, .slice none 0 0, .slice none 0 0, .slice none 0 0] 68))).grownK hgrow8 hkd (by decide))
                               have hr8 := own_rd8 hown8
                               have hl8 : (la.arcs ++ [a]).length = la.arcs.length + 1 := by simp
                               have FINA := Lib.hid (next_new (W := W) (ps := ps) (arcs := la.arcs ++ [a]) (k := la.arcs.length + 1) (cx := c8) hl8 R8.out (by rw [hl8]; exact hc8) hr8 X8.out)
                               have SL8 := Lib.hid (Blk.grownK (show Blk ((w6c.alloc (.cells #[.int .i64 (a : Int)] 3)).alloc (.cells #[.bool false, .bool false, .bool false, .slice none 0 0, .slice none 0 0, .slice none 0 0] 68)) (w6c.heap.size + 1) 68 #[.bool false, .bool false, .bool false, .slice none 0 0, .slice none 0 0, .slice none 0 0] from Blk.new' (g := w6c.heap.size + 1) (w6c.alloc (.cells #[.int .i64 (a : Int)] 3)) 68 #[.bool false, .bool false, .bool false, .slice none 0 0, .slice none 0 0, .slice none 0 0] (by simp)) hgrow8 hkd (by decide))
                               have hgl : W.heap.size ≤ w6c.heap.size + 1 := by have := X6.out.size; omega
                               have FINS := Lib.hid (next_set (W := W) (ps := ps) (arcs := la.arcs ++ [a]) (k := la.arcs.length + 1) (cx := c8) hl8 SL8.out R8.out (by rw [hl8]; exact hc8) hr8 hgl X8.out)
                               have l0 := SL8.out.cell 0
                               have l1 := SL8.out.cell 1
                               have l2 := SL8.out.cell 2
                               have l3 := SL8.out.cell 3
                               have l4 := SL8.out.cell 4
                               have l5 := SL8.out.cell 5
                               have lf0 := SL8.out.frozen 0
                               have lf1 := SL8.out.frozen 1
                               have lf2 := SL8.out.frozen 2
                               have lf3 := SL8.out.frozen 3
                               have lf4 := SL8.out.frozen 4
                               have lf5 := SL8.out.frozen 5
                               have c2 := (X8.out.cell (p := ⟨g, v * 6 + 2, none⟩) hgW).trans c2W
                               have c3 := (X8.out.cell (p := ⟨g, v * 6 + 3, none⟩) hgW).trans c3W
                               have c4 := (X8.out.cell (p := ⟨g, v * 6 + 4, none⟩) hgW).trans c4W
                               have c5 := (X8.out.cell (p := ⟨g, v * 6 + 5, none⟩) hgW).trans c5W
                               have p0 := (X8.out.cell (p := ⟨bp, op + a * 3, none⟩) hbp).trans p0W
                               have p1 := (X8.out.cell (p := ⟨bp, op + a * 3 + 1, none⟩) hbp).trans p1W
                               have p2 := (X8.out.cell (p := ⟨bp, op + a * 3 + 2, none⟩) hbp).trans p2W
                               clear hown8 hgrow8 hkd hr8)
                            | (rw [if_pos (by rfl)]
                               refine wp_append_rd _ (.tmp 117) (.tmp 119) 41 (by rfl) W.heap.size 3 ti (.int .i64 0) 8 Tryz.underlying41 hi hz0 hz1 hz2 rfl v6 la.arcs.length (ints la.arcs) (by rfl) (by with_reducible exact O6.out.kept (grown_ext (((Ext.refl w6c).alloc (.cells #[.bool false, .bool false, .bool false, .slice none 0 0, .slice none 0 0, .slice none 0 0] 68)).alloc (.cells #[.int .i64 (a : Int)] 3))) (own_none _)) (some ⟨w6c.heap.size + 1, 0, none⟩) 1 1 [.int .i64 (a : Int)] (by rfl) rfl (by with_reducible exact rd_src (show Blk ((w6c.alloc (.cells #[.bool false, .bool false, .bool false, .slice none 0 0, .slice none 0 0, .slice none 0 0] 68)).alloc (.cells #[.int .i64 (a : Int)] 3)) (w6c.heap.size + 1) 3 #[.int .i64 (a : Int)] from Blk.new' (g := w6c.heap.size + 1) (w6c.alloc (.cells #[.bool false, .bool false, .bool false, .slice none 0 0, .slice none 0 0, .slice none 0 0] 68)) 3 #[.int .i64 (a : Int)] (by simp))) (fun h => by cases h) (fun u hu => by simp at hu; subst hu; rfl) (by unfold maxLen; omega) (by omega) (by with_reducible exact (X6.out.tr (((Ext.refl w6c).alloc (.cells #[.bool false, .bool false, .bool false, .slice none 0 0, .slice none 0 0, .slice none 0 0] 68)).alloc (.cells #[.int .i64 (a : Int)] 3))).size) ?_
                               intro v8 w8 hown8 hgrow8 _
                               obtain ⟨g8, c8, rfl, hc8⟩ := own_form hown8
                               have hkd : ∀ k, v6.ownBlock = some k → ∃ cs fr, (((w6c.alloc (.cells #[.bool false, .bool false, .bool false, .slice none 0 0, .slice none 0 0, .slice none 0 0] 68)).alloc (.cells #[.int .i64 (a : Int)] 3))).heap[k]? = some (.cells cs 3 fr) := fun k hk => Lib.ownsRow_kind (O6.out.kept (grown_ext (((Ext.refl w6c).alloc (.cells #[.bool false, .bool false, .bool false, .slice none 0 0, .slice none 0 0, .slice none 0 0] 68)).alloc (.cells #[.int .i64 (a : Int)] 3))) (own_none _)) k hk
                               have X8 := Lib.hid (show Ext W w8 from Below.grown (X6.out.tr (((Ext.refl w6c).alloc (.cells #[.bool false, .bool false, .bool false, .slice none 0 0, .slice none 0 0, .slice none 0 0] 68)).alloc (.cells #[.int .i64 (a : Int)] 3))) hgrow8 (X6.out.tr (((Ext.refl w6c).alloc (.cells #[.bool false, .bool false, .bool false, .slice none 0 0, .slice none 0 0, .slice none 0 0] 68)).alloc (.cells #[.int .i64 (a : Int)] 3))).size (fun k hk => (O6.out.lt k hk).1))
                               have R8 := Lib.hid ((R6.out.keep (((Ext.refl w6c).alloc (.cells #[.bool false, .bool false, .bool false, .slice none 0 0, .slice none 0 0, .slice none 0 0] 68)).alloc (.cells #[.int .i64 (a : Int)] 3))).grownK hgrow8 hkd (by decide))
                               have hr8 := own_rd8 hown8
                               have hl8 : (la.arcs ++ [a]).length = la.arcs.length + 1 := by simp
                               have FINA := Lib.hid (next_new (W := W) (ps := ps) (arcs := la.arcs ++ [a]) (k := la.arcs.length + 1) (cx := c8) hl8 R8.out (by rw [hl8]; exact hc8) hr8 X8.out)
                               have SL8 := Lib.hid (Blk.grownK (show Blk ((w6c.alloc (.cells #[.bool false, .bool false, .bool false, .slice none 0 0, .slice none 0 0, .slice none 0 0] 68)).alloc (.cells #[.int .i64 (a : Int)] 3)) (w6c.heap.size) 68 #[.bool false, .bool false, .bool false, .slice none 0 0, .slice none 0 0, .slice none 0 0] from (Blk.new w6c 68 #[.bool false, .bool false, .bool false, .slice none 0 0, .slice none 0 0, .slice none 0 0]).alloc (.cells #[.int .i64 (a : Int)] 3)) hgrow8 hkd (by decide))
                               have hgl : W.heap.size ≤ w6c.heap.size := by have := X6.out.size; omega
                               have FINS := Lib.hid (next_set (W := W) (ps := ps) (arcs := la.arcs ++ [a]) (k := la.arcs.length + 1) (cx := c8) hl8 SL8.out R8.out (by rw [hl8]; exact hc8) hr8 hgl X8.out)
                               have l0 := SL8.out.cell 0
                               have l1 := SL8.out.cell 1
                               have l2 := SL8.out.cell 2
                               have l3 := SL8.out.cell 3
                               have l4 := SL8.out.cell 4
                               have l5 := SL8.out.cell 5
                               have lf0 := SL8.out.frozen 0
                               have lf1 := SL8.out.frozen 1
                               have lf2 := SL8.out.frozen 2
                               have lf3 := SL8.out.frozen 3
                               have lf4 := SL8.out.frozen 4
                               have lf5 := SL8.out.frozen 5
                               have c2 := (X8.out.cell (p := ⟨g, v * 6 + 2, none⟩) hgW).trans c2W
                               have c3 := (X8.out.cell (p := ⟨g, v * 6 + 3, none⟩) hgW).trans c3W
                               have c4 := (X8.out.cell (p := ⟨g, v * 6 + 4, none⟩) hgW).trans c4W
                               have c5 := (X8.out.cell (p := ⟨g, v * 6 + 5, none⟩) hgW).trans c5W
                               have p0 := (X8.out.cell (p := ⟨bp, op + a * 3, none⟩) hbp).trans p0W
                               have p1 := (X8.out.cell (p := ⟨bp, op + a * 3 + 1, none⟩) hbp).trans p1W
                               have p2 := (X8.out.cell (p := ⟨bp, op + a * 3 + 2, none⟩) hbp).trans p2W
                               clear hown8 hgrow8 hkd hr8)
                            | (go_at_call 29
                               refine (cloneO_ok AXv cxv la.arcs _ (by with_reducible exact RXv.out.keep (X5.out.tr ((Ext.refl w5)))) (by omega)).mono ?_
                               rintro e w6c ⟨v6, rfl, hown6, hx6⟩
                               have E6 := Lib.hid (Ext.tr ((Ext.refl w5)) hx6)
                               have X6 := Lib.hid (X5.out.tr E6.out)
                               have R6 := Lib.hid (R5.out.keep E6.out)
                               have O6 := Lib.hid (show w6c.ownsRow W.heap.size 3 1 v6 la.arcs.length (ints la.arcs) from hown6.mono (X5.out.tr ((Ext.refl w5))).size)
                               first | (have SB := Lib.hid (SB.out.keep E6.out)) | skip
                               first | (have SL := Lib.hid (SL.out.keep E6.out)) | skip
                               have c2 := (X6.out.cell (p := ⟨g, v * 6 + 2, none⟩) hgW).trans c2W
                               have c3 := (X6.out.cell (p := ⟨g, v * 6 + 3, none⟩) hgW).trans c3W
                               have c4 := (X6.out.cell (p := ⟨g, v * 6 + 4, none⟩) hgW).trans c4W
                               have c5 := (X6.out.cell (p := ⟨g, v * 6 + 5, none⟩) hgW).trans c5W
                               have p0 := (X6.out.cell (p := ⟨bp, op + a * 3, none⟩) hbp).trans p0W
                               have p1 := (X6.out.cell (p := ⟨bp, op + a * 3 + 1, none⟩) hbp).trans p1W
                               have p2 := (X6.out.cell (p := ⟨bp, op + a * 3 + 2, none⟩) hbp).trans p2W
                               clear hown6 hx6)
                            | (go_at_call 29
                               refine (cloneO_ok AXv cxv la.arcs _ (by with_reducible exact RXv.out.keep (X5.out.tr ((Ext.refl w5).alloc (.cells #[.int .i64 (a : Int)] 3)))) (by omega)).mono ?_
                               rintro e w6c ⟨v6, rfl, hown6, hx6⟩
                               have E6 := Lib.hid (Ext.tr ((Ext.refl w5).alloc (.cells #[.int .i64 (a : Int)] 3)) hx6)
                               have X6 := Lib.hid (X5.out.tr E6.out)
                               have R6 := Lib.hid (R5.out.keep E6.out)
                               have O6 := Lib.hid (show w6c.ownsRow W.heap.size 3 1 v6 la.arcs.length (ints la.arcs) from hown6.mono (X5.out.tr ((Ext.refl w5).alloc (.cells #[.int .i64 (a : Int)] 3))).size)
                               have SB := Lib.hid (Blk.keep (show Blk (w5.alloc (.cells #[.int .i64 (a : Int)] 3)) (w5.heap.size) 3 #[.int .i64 (a : Int)] from Blk.new w5 3 #[.int .i64 (a : Int)]) hx6)
                               first | (have SL := Lib.hid (SL.out.keep E6.out)) | skip
                               have c2 := (X6.out.cell (p := ⟨g, v * 6 + 2, none⟩) hgW).trans c2W
                               have c3 := (X6.out.cell (p := ⟨g, v * 6 + 3, none⟩) hgW).trans c3W
                               have c4 := (X6.out.cell (p := ⟨g, v * 6 + 4, none⟩) hgW).trans c4W
                               have c5 := (X6.out.cell (p := ⟨g, v * 6 + 5, none⟩) hgW).trans c5W
                               have p0 := (X6.out.cell (p := ⟨bp, op + a * 3, none⟩) hbp).trans p0W
                               have p1 := (X6.out.cell (p := ⟨bp, op + a * 3 + 1, none⟩) hbp).trans p1W
                               have p2 := (X6.out.cell (p := ⟨bp, op + a * 3 + 2, none⟩) hbp).trans p2W
                               clear hown6 hx6)
                            | (go_at_call 29
                               refine (cloneO_ok AXv cxv la.arcs _ (by with_reducible exact RXv.out.keep (X5.out.tr ((Ext.refl w5).alloc (.cells #[.bool false, .bool false, .bool false, .slice none 0 0, .slice none 0 0, .slice none 0 0] 68)))) (by omega)).mono ?_
                               rintro e w6c ⟨v6, rfl, hown6, hx6⟩
                               have E6 := Lib.hid (Ext.tr ((Ext.refl w5).alloc (.cells #[.bool false, .bool false, .bool false, .slice none 0 0, .slice none 0 0, .slice none 0 0] 68)) hx6)
                               have X6 := Lib.hid (X5.out.tr E6.out)
                               have R6 := Lib.hid (R5.out.keep E6.out)
                               have O6 := Lib.hid (show w6c.ownsRow W.heap.size 3 1 v6 la.arcs.length (ints la.arcs) from hown6.mono (X5.out.tr ((Ext.refl w5).alloc (.cells #[.bool false, .bool false, .bool false, .slice none 0 0, .slice none 0 0, .slice none 0 0] 68))).size)
                               first | (have SB := Lib.hid (SB.out.keep E6.out)) | skip
                               have SL := Lib.hid (Blk.keep (show Blk (w5.alloc (.cells #[.bool false, .bool false, .bool false, .slice none 0 0, .slice none 0 0, .slice none 0 0] 68)) (w5.heap.size) 68 #[.bool false, .bool false, .bool false, .slice none 0 0, .slice none 0 0, .slice none 0 0] from Blk.new w5 68 #[.bool false, .bool false, .bool false, .slice none 0 0, .slice none 0 0, .slice none 0 0]) hx6)
                               have HGL := Lib.hid (show W.heap.size ≤ w5.heap.size by have := X5.out.size; omega)
                               have c2 := (X6.out.cell (p := ⟨g, v * 6 + 2, none⟩) hgW).trans c2W
                               have c3 := (X6.out.cell (p := ⟨g, v * 6 + 3, none⟩) hgW).trans c3W
                               have c4 := (X6.out.cell (p := ⟨g, v * 6 + 4, none⟩) hgW).trans c4W
                               have c5 := (X6.out.cell (p := ⟨g, v * 6 + 5, none⟩) hgW).trans c5W
                               have p0 := (X6.out.cell (p := ⟨bp, op + a * 3, none⟩) hbp).trans p0W
                               have p1 := (X6.out.cell (p := ⟨bp, op + a * 3 + 1, none⟩) hbp).trans p1W
                               have p2 := (X6.out.cell (p := ⟨bp, op + a * 3 + 2, none⟩) hbp).trans p2W
                               clear hown6 hx6)
                            | (go_at_call 29
                               refine (cloneO_ok AXv cxv la.arcs _ (by with_reducible exact RXv.out.keep (X5.out.tr (((Ext.refl w5).alloc (.cells #[.int .i64 (a : Int)] 3)).alloc (.cells #[.bool false, .bool false, .bool false, .slice none 0 0, .slice none 0 0, .slice none 0 0] 68)))) (by omega)).mono ?_
                               rintro e w6c ⟨v6, rfl, hown6, hx6⟩
                               have E6 := Lib.hid (Ext.tr (((Ext.refl w5).alloc (.cells #[.int .i64 (a : Int)] 3)).alloc (.cells #[.bool false, .bool false, .bool false, .slice none 0 0, .slice none 0 0, .slice none 0 0] 68)) hx6)
                               have X6 := Lib.hid (X5.out.tr E6.out)
                               have R6 := Lib.hid (R5.out.keep E6.out)
                               have O6 := Lib.hid (show w6c.ownsRow W.heap.size 3 1 v6 la.arcs.length (ints la.arcs) from hown6.mono (X5.out.tr (((Ext.refl w5).alloc (.cells #[.int .i64 (a : Int)] 3)).alloc (.cells #[.bool false, .bool false, .bool false, .slice none 0 0, .slice none 0 0, .slice none 0 0] 68))).size)
                               have SB := Lib.hid (Blk.keep (show Blk ((w5.alloc (.cells #[.int .i64 (a : Int)] 3)).alloc (.cells #[.bool false, .bool false, .bool false, .slice none 0 0, .slice none 0 0, .slice none 0 0] 68)) (w5.heap.size) 3 #[.int .i64 (a : Int)] from (Blk.new w5 3 #[.int .i64 (a : Int)]).alloc (.cells #[.bool false, .bool false, .bool false, .slice none 0 0, .slice none 0 0, .slice none 0 0] 68)) hx6)
                               have SL := Lib.hid (Blk.keep (show Blk ((w5.alloc (.cells #[.int .i64 (a : Int)] 3)).alloc (.cells #[.bool false, .bool false, .bool false, .slice none 0 0, .slice none 0 0, .slice none 0 0] 68)) (w5.heap.size + 1) 68 #[.bool false, .bool false, .bool false, .slice none 0 0, .slice none 0 0, .slice none 0 0] from Blk.new' (g := w5.heap.size + 1) (w5.alloc (.cells #[.int .i64 (a : Int)] 3)) 68 #[.bool false, .bool false, .bool false, .slice none 0 0, .slice none 0 0, .slice none 0 0] (by simp)) hx6)
                               have HGL := Lib.hid (show W.heap.size ≤ w5.heap.size + 1 by have := X5.out.size; omega)
                               have c2 := (X6.out.cell (p := ⟨g, v * 6 + 2, none⟩) hgW).trans c2W
                               have c3 := (X6.out.cell (p := ⟨g, v * 6 + 3, none⟩) hgW).trans c3W
                               have c4 := (X6.out.cell (p := ⟨g, v * 6 + 4, none⟩) hgW).trans c4W
                               have c5 := (X6.out.cell (p := ⟨g, v * 6 + 5, none⟩) hgW).trans c5W
                               have p0 := (X6.out.cell (p := ⟨bp, op + a * 3, none⟩) hbp).trans p0W
                               have p1 := (X6.out.cell (p := ⟨bp, op + a * 3 + 1, none⟩) hbp).trans p1W
                               have p2 := (X6.out.cell (p := ⟨bp, op + a * 3 + 2, none⟩) hbp).trans p2W
                               clear hown6 hx6)
                            | (go_at_call 29
                               refine (cloneO_ok AXv cxv la.arcs _ (by with_reducible exact RXv.out.keep (X5.out.tr (((Ext.refl w5).alloc (.cells #[.bool false, .bool false, .bool false, .slice none 0 0, .slice none 0 0, .slice none 0 0] 68)).alloc (.cells #[.int .i64 (a : Int)] 3)))) (by omega)).mono ?_
                               rintro e w6c ⟨v6, rfl, hown6, hx6⟩
                               have E6 := Lib.hid (Ext.tr (((Ext.refl w5).alloc (.cells #[.bool false, .bool false, .bool false, .slice none 0 0, .slice none 0 0, .slice none 0 0] 68)).alloc (.cells #[.int .i64 (a : Int)] 3)) hx6)
                               have X6 := Lib.hid (X5.out.tr E6.out)
                               have R6 := Lib.hid (R5.out.keep E6.out)
                               have O6 := Lib.hid (show w6c.ownsRow W.heap.size 3 1 v6 la.arcs.length (ints la.arcs) from hown6.mono (X5.out.tr (((Ext.refl w5).alloc (.cells #[.bool false, .bool false, .bool false, .slice none 0 0, .slice none 0 0, .slice none 0 0] 68)).alloc (.cells #[.int .i64 (a : Int)] 3))).size)
                               have SB := Lib.hid (Blk.keep (show Blk ((w5.alloc (.cells #[.bool false, .bool false, .bool false, .slice none 0 0, .slice none 0 0, .slice none 0 0] 68)).alloc (.cells #[.int .i64 (a : Int)] 3)) (w5.heap.size + 1) 3 #[.int .i64 (a : Int)] from Blk.new' (g := w5.heap.size + 1) (w5.alloc (.cells #[.bool false, .bool false, .bool false, .slice none 0 0, .slice none 0 0, .slice none 0 0] 68)) 3 #[.int .i64 (a : Int)] (by simp)) hx6)
                               have SL := Lib.hid (Blk.keep (show Blk ((w5.alloc (.cells #[.bool false, .bool false, .bool false, .slice none 0 0, .slice none 0 0, .slice none 0 0] 68)).alloc (.cells #[.int .i64 (a : Int)] 3)) (w5.heap.size) 68 #[.bool false, .bool false, .bool false, .slice none 0 0, .slice none 0 0, .slice none 0 0] from (Blk.new w5 68 #[.bool false, .bool false, .bool false, .slice none 0 0, .slice none 0 0, .slice none 0 0]).alloc (.cells #[.int .i64 (a : Int)] 3)) hx6)
                               have HGL := Lib.hid (show W.heap.size ≤ w5.heap.size by have := X5.out.size; omega)
                               have c2 := (X6.out.cell (p := ⟨g, v * 6 + 2, none⟩) hgW).trans c2W
                               have c3 := (X6.out.cell (p := ⟨g, v * 6 + 3, none⟩) hgW).trans c3W
                               have c4 := (X6.out.cell (p := ⟨g, v * 6 + 4, none⟩) hgW).trans c4W
                               have c5 := (X6.out.cell (p := ⟨g, v * 6 + 5, none⟩) hgW).trans c5W
                               have p0 := (X6.out.cell (p := ⟨bp, op + a * 3, none⟩) hbp).trans p0W
                               have p1 := (X6.out.cell (p := ⟨bp, op + a * 3 + 1, none⟩) hbp).trans p1W
                               have p2 := (X6.out.cell (p := ⟨bp, op + a * 3 + 2, none⟩) hbp).trans p2W
                               clear hown6 hx6)
                            | (go_at_call 28
                               refine (ratAdd_any negv negp Av nv cv Av' nv' cv' Ap np cpp Ap' np' cp' (prQ ps la.arcs) qa _ (by with_reducible exact RTv.out.keep (EW0.out)) (by with_reducible exact RTp.out.keep (EW0.out)) hlv.1 hlv.2 hlp.1 hlp.2 (reducedAt_all (Nat.mul_ne_zero (Rat.den_nz _) (Rat.den_nz _)))).mono ?_
                               rintro e w5 ⟨neg5, A5, n5, c5, A5', n5', c5', rfl, hR5, hx5⟩
                               have X5 := Lib.hid (Ext.tr (EW0.out) hx5)
                               have R5 := Lib.hid (show RatR w5 neg5 A5 n5 c5 A5' n5' c5' (prQ ps (la.arcs ++ [a])) by rw [prQ_snoc, HQA.out]; exact hR5)
                               have c2 := (X5.out.cell (p := ⟨g, v * 6 + 2, none⟩) hgW).trans c2W
                               have c3 := (X5.out.cell (p := ⟨g, v * 6 + 3, none⟩) hgW).trans c3W
                               have c4 := (X5.out.cell (p := ⟨g, v * 6 + 4, none⟩) hgW).trans c4W
                               have c5 := (X5.out.cell (p := ⟨g, v * 6 + 5, none⟩) hgW).trans c5W
                               have p0 := (X5.out.cell (p := ⟨bp, op + a * 3, none⟩) hbp).trans p0W
                               have p1 := (X5.out.cell (p := ⟨bp, op + a * 3 + 1, none⟩) hbp).trans p1W
                               have p2 := (X5.out.cell (p := ⟨bp, op + a * 3 + 2, none⟩) hbp).trans p2W
                               clear hx5 hR5)
                            | (go_at_call 28
                               refine (ratAdd_any negv negp Av nv cv Av' nv' cv' Ap np cpp Ap' np' cp' (prQ ps la.arcs) qa _ (by with_reducible exact RTv.out.keep (EWB.out)) (by with_reducible exact RTp.out.keep (EWB.out)) hlv.1 hlv.2 hlp.1 hlp.2 (reducedAt_all (Nat.mul_ne_zero (Rat.den_nz _) (Rat.den_nz _)))).mono ?_
                               rintro e w5 ⟨neg5, A5, n5, c5, A5', n5', c5', rfl, hR5, hx5⟩
                               have X5 := Lib.hid (Ext.tr (EWB.out) hx5)
                               have R5 := Lib.hid (show RatR w5 neg5 A5 n5 c5 A5' n5' c5' (prQ ps (la.arcs ++ [a])) by rw [prQ_snoc, HQA.out]; exact hR5)
                               have SB := Lib.hid (Blk.keep (show Blk (W.alloc (.cells #[.int .i64 (a : Int)] 3)).drew (W.heap.size) 3 #[.int .i64 (a : Int)] from Blk.new W 3 #[.int .i64 (a : Int)]) hx5)
                               have c2 := (X5.out.cell (p := ⟨g, v * 6 + 2, none⟩) hgW).trans c2W
                               have c3 := (X5.out.cell (p := ⟨g, v * 6 + 3, none⟩) hgW).trans c3W
                               have c4 := (X5.out.cell (p := ⟨g, v * 6 + 4, none⟩) hgW).trans c4W
                               have c5 := (X5.out.cell (p := ⟨g, v * 6 + 5, none⟩) hgW).trans c5W
                               have p0 := (X5.out.cell (p := ⟨bp, op + a * 3, none⟩) hbp).trans p0W
                               have p1 := (X5.out.cell (p := ⟨bp, op + a * 3 + 1, none⟩) hbp).trans p1W
                               have p2 := (X5.out.cell (p := ⟨bp, op + a * 3 + 2, none⟩) hbp).trans p2W
                               clear hx5 hR5)
                            | (go_at_call 28
                               refine (ratAdd_any negv negp Av nv cv Av' nv' cv' Ap np cpp Ap' np' cp' (prQ ps la.arcs) qa _ (by with_reducible exact RTv.out.keep (EWL.out)) (by with_reducible exact RTp.out.keep (EWL.out)) hlv.1 hlv.2 hlp.1 hlp.2 (reducedAt_all (Nat.mul_ne_zero (Rat.den_nz _) (Rat.den_nz _)))).mono ?_
                               rintro e w5 ⟨neg5, A5, n5, c5, A5', n5', c5', rfl, hR5, hx5⟩
                               have X5 := Lib.hid (Ext.tr (EWL.out) hx5)
                               have R5 := Lib.hid (show RatR w5 neg5 A5 n5 c5 A5' n5' c5' (prQ ps (la.arcs ++ [a])) by rw [prQ_snoc, HQA.out]; exact hR5)
                               have SL := Lib.hid (Blk.keep (show Blk (W.alloc (.cells #[.bool false, .bool false, .bool false, .slice none 0 0, .slice none 0 0, .slice none 0 0] 68)).drew (W.heap.size) 68 #[.bool false, .bool false, .bool false, .slice none 0 0, .slice none 0 0, .slice none 0 0] from Blk.new W 68 #[.bool false, .bool false, .bool false, .slice none 0 0, .slice none 0 0, .slice none 0 0]) hx5)
                               have HGL := Lib.hid (show W.heap.size ≤ W.heap.size by omega)
                               have c2 := (X5.out.cell (p := ⟨g, v * 6 + 2, none⟩) hgW).trans c2W
                               have c3 := (X5.out.cell (p := ⟨g, v * 6 + 3, none⟩) hgW).trans c3W
                               have c4 := (X5.out.cell (p := ⟨g, v * 6 + 4, none⟩) hgW).trans c4W
                               have c5 := (X5.out.cell (p := ⟨g, v * 6 + 5, none⟩) hgW).trans c5W
                               have p0 := (X5.out.cell (p := ⟨bp, op + a * 3, none⟩) hbp).trans p0W
                               have p1 := (X5.out.cell (p := ⟨bp, op + a * 3 + 1, none⟩) hbp).trans p1W
                               have p2 := (X5.out.cell (p := ⟨bp, op + a * 3 + 2, none⟩) hbp).trans p2W
                               clear hx5 hR5)
                            | (go_at_call 28
                               refine (ratAdd_any negv negp Av nv cv Av' nv' cv' Ap np cpp Ap' np' cp' (prQ ps la.arcs) qa _ (by with_reducible exact RTv.out.keep (EWBL.out)) (by with_reducible exact RTp.out.keep (EWBL.out)) hlv.1 hlv.2 hlp.1 hlp.2 (reducedAt_all (Nat.mul_ne_zero (Rat.den_nz _) (Rat.den_nz _)))).mono ?_
                               rintro e w5 ⟨neg5, A5, n5, c5, A5', n5', c5', rfl, hR5, hx5⟩
                               have X5 := Lib.hid (Ext.tr (EWBL.out) hx5)
                               have R5 := Lib.hid (show RatR w5 neg5 A5 n5 c5 A5' n5' c5' (prQ ps (la.arcs ++ [a])) by rw [prQ_snoc, HQA.out]; exact hR5)
                               have SB := Lib.hid (Blk.keep (show Blk ((W.alloc (.cells #[.int .i64 (a : Int)] 3)).alloc (.cells #[.bool false, .bool false, .bool false, .slice none 0 0, .slice none 0 0, .slice none 0 0] 68)).drew (W.heap.size) 3 #[.int .i64 (a : Int)] from (Blk.new W 3 #[.int .i64 (a : Int)]).alloc (.cells #[.bool false, .bool false, .bool false, .slice none 0 0, .slice none 0 0, .slice none 0 0] 68)) hx5)
                               have SL := Lib.hid (Blk.keep (show Blk ((W.alloc (.cells #[.int .i64 (a : Int)] 3)).alloc (.cells #[.bool false, .bool false, .bool false, .slice none 0 0, .slice none 0 0, .slice none 0 0] 68)).drew (W.heap.size + 1) 68 #[.bool false, .bool false, .bool false, .slice none 0 0, .slice none 0 0, .slice none 0 0] from Blk.new' (g := W.heap.size + 1) (W.alloc (.cells #[.int .i64 (a : Int)] 3)) 68 #[.bool false, .bool false, .bool false, .slice none 0 0, .slice none 0 0, .slice none 0 0] (by simp)) hx5)
                               have HGL := Lib.hid (show W.heap.size ≤ W.heap.size + 1 by omega)
                               have c2 := (X5.out.cell (p := ⟨g, v * 6 + 2, none⟩) hgW).trans c2W
                               have c3 := (X5.out.cell (p := ⟨g, v * 6 + 3, none⟩) hgW).trans c3W
                               have c4 := (X5.out.cell (p := ⟨g, v * 6 + 4, none⟩) hgW).trans c4W
                               have c5 := (X5.out.cell (p := ⟨g, v * 6 + 5, none⟩) hgW).trans c5W
                               have p0 := (X5.out.cell (p := ⟨bp, op + a * 3, none⟩) hbp).trans p0W
                               have p1 := (X5.out.cell (p := ⟨bp, op + a * 3 + 1, none⟩) hbp).trans p1W
                               have p2 := (X5.out.cell (p := ⟨bp, op + a * 3 + 2, none⟩) hbp).trans p2W
                               clear hx5 hR5)
                            | (go_at_call 28
                               refine (ratAdd_any negv negp Av nv cv Av' nv' cv' Ap np cpp Ap' np' cp' (prQ ps la.arcs) qa _ (by with_reducible exact RTv.out.keep (EWLB.out)) (by with_reducible exact RTp.out.keep (EWLB.out)) hlv.1 hlv.2 hlp.1 hlp.2 (reducedAt_all (Nat.mul_ne_zero (Rat.den_nz _) (Rat.den_nz _)))).mono ?_
                               rintro e w5 ⟨neg5, A5, n5, c5, A5', n5', c5', rfl, hR5, hx5⟩
                               have X5 := Lib.hid (Ext.tr (EWLB.out) hx5)
                               have R5 := Lib.hid (show RatR w5 neg5 A5 n5 c5 A5' n5' c5' (prQ ps (la.arcs ++ [a])) by rw [prQ_snoc, HQA.out]; exact hR5)
                               have SB := Lib.hid (Blk.keep (show Blk ((W.alloc (.cells #[.bool false, .bool false, .bool false, .slice none 0 0, .slice none 0 0, .slice none 0 0] 68)).alloc (.cells #[.int .i64 (a : Int)] 3)).drew (W.heap.size + 1) 3 #[.int .i64 (a : Int)] from Blk.new' (g := W.heap.size + 1) (W.alloc (.cells #[.bool false, .bool false, .bool false, .slice none 0 0, .slice none 0 0, .slice none 0 0] 68)) 3 #[.int .i64 (a : Int)] (by simp)) hx5)
                               have SL := Lib.hid (Blk.keep (show Blk ((W.alloc (.cells #[.bool false, .bool false, .bool false, .slice none 0 0, .slice none 0 0, .slice none 0 0] 68)).alloc (.cells #[.int .i64 (a : Int)] 3)).drew (W.heap.size) 68 #[.bool false, .bool false, .bool false, .slice none 0 0, .slice none 0 0, .slice none 0 0] from (Blk.new W 68 #[.bool false, .bool false, .bool false, .slice none 0 0, .slice none 0 0, .slice none 0 0]).alloc (.cells #[.int .i64 (a : Int)] 3)) hx5)
                               have HGL := Lib.hid (show W.heap.size ≤ W.heap.size by omega)
                               have c2 := (X5.out.cell (p := ⟨g, v * 6 + 2, none⟩) hgW).trans c2W
                               have c3 := (X5.out.cell (p := ⟨g, v * 6 + 3, none⟩) hgW).trans c3W
                               have c4 := (X5.out.cell (p := ⟨g, v * 6 + 4, none⟩) hgW).trans c4W
                               have c5 := (X5.out.cell (p := ⟨g, v * 6 + 5, none⟩) hgW).trans c5W
                               have p0 := (X5.out.cell (p := ⟨bp, op + a * 3, none⟩) hbp).trans p0W
                               have p1 := (X5.out.cell (p := ⟨bp, op + a * 3 + 1, none⟩) hbp).trans p1W
                               have p2 := (X5.out.cell (p := ⟨bp, op + a * 3 + 2, none⟩) hbp).trans p2W
                               clear hx5 hR5)
                            | fail "no arm")
                            --END20
                            all_goals
                              go_wp2
                              go_meet
                              first | exact FINA.out | exact FINS.out
                          case rest =>
                            generalize hnx : la.arcs ++ [a] = nx at *
                            have HNX := Lib.hid hnx
                            have hnl : nx.length ≤ 65 := by rw [← hnx]; simp; omega
                            clear hnx
                            obtain ⟨gl, neg9, A9, n9, c9, A9', n9', c9', AX9, cx9, rfl, bl, r9, hcx9, x9, hgl, hx9⟩ := hcut
                            have ST9 := Lib.hid (ST8.out.keep hx9)
                            have RR9 := Lib.hid (RR8.out.keep hx9)
                            have BL9 := Lib.hid bl
                            have R9 := Lib.hid r9
                            have X9 := Lib.hid x9
                            have hglg : gl ≠ g := by omega
                            obtain ⟨neg3, A3, n3, c3, A3', n3', c3', AX3, cx3, ⟨y0, y1, y2, y3, y4, y5⟩, hR3, hcx3, hX3⟩ := ST9.out.lab.at_ HLH.out
                            have R3 := Lib.hid hR3
                            have X3 := Lib.hid hX3
                            have hgl9 := ST9.out.lab.lt
                            have HAO := Lib.hid (show arcsOf lq v = la.arcs by unfold arcsOf; rw [HLA.out]; rfl)
                            have hszn : SzQ (prQ ps nx) 268435456 := (SzQ.pr hP HSZ.out nx).mono (by
                              have h2 : nx.length * (P + 1) ≤ 65 * 1000001 := Nat.mul_le_mul (by omega) (by omega)
                              omega)
                            have hszh := SzL_of hP hP2 HSZ.out ST9.out.ok ST9.out.len hN64 lh (List.mem_of_getElem? HLH.out)
                            have hl9 := r9.lens hszn
                            have hl3 := hR3.lens hszh.1
                            have hlh2 := hszh.2
                            clear bl r9 x9 hR3 hX3 hx9 hszn hszh ST8 RR8 RAT2 RX2 c2W c3W c4W c5W p0W p1W p2W RTv RTp RXv hgW hbp
                            go_upto_region 21 with fail
                            go_cut [136] (fun s wx => s = .bool (!lh.known || befP ps nx lh.arcs) ∧ Ext wc wx)
                            case first =>
                              obtain ⟨lk, ld, larcs⟩ := lh
                              simp only [] at y0 y5 hcx3 hlh2
                              have z0 := XW.cell _ _ _ hgl9 y0
                              cases lk
                              case false =>
                                refine wp_region_ext (by kernel_rfl) (by kernel_rfl) ?_
                                repeat (go_big_quiet_step (fail))
                                refine wpQuiet_nil ?_
                                rintro _ ⟨x, rfl⟩
                                go_wp2
                                go_meet
                                exact ⟨rfl, x.ext⟩
                              case true =>
                                have z1 := XW.cell _ _ _ hgl9 y1
                                have z2 := XW.cell _ _ _ hgl9 y2
                                have z3 := XW.cell _ _ _ hgl9 y3
                                have z4 := XW.cell _ _ _ hgl9 y4
                                have z5 := XW.cell _ _ _ hgl9 y5
                                have u0 := XW.cell _ _ _ BL9.out.lt (BL9.out.cell 0)
                                have u1 := XW.cell _ _ _ BL9.out.lt (BL9.out.cell 1)
                                have u2 := XW.cell _ _ _ BL9.out.lt (BL9.out.cell 2)
                                have u3 := XW.cell _ _ _ BL9.out.lt (BL9.out.cell 3)
                                have u4 := XW.cell _ _ _ BL9.out.lt (BL9.out.cell 4)
                                have u5 := XW.cell _ _ _ BL9.out.lt (BL9.out.cell 5)
                                have hh0 : (0 : Int) ≤ (h : Int) := by omega
                                refine wp_region_ext (by kernel_rfl) (by kernel_rfl) ?_
                                repeat (go_big_quiet_step ((go_at_call 30; exact Calls.ext_of (compare_any _ _ neg9 _ _ neg3 A9 n9 c9 A9' n9' c9' A3 n3 c3 A3' n3' c3' AX9 AX3 cx9 cx3 (prQ ps nx) (prQ ps larcs) nx larcs _ (R9.out.keep (XW.ext _)) (R3.out.keep (XW.ext _)) hl9.1 hl9.2 hl3.1 hl3.2 (X9.out.rd.keep (XW.ext _)) (X3.out.rd.keep (XW.ext _)) (by omega) (by omega)))))
                                refine wpQuiet_nil ?_
                                rintro _ ⟨x, rfl⟩
                                go_wp2
                                go_meet
                                exact ⟨rfl, x.ext⟩
                            case rest =>
                              obtain ⟨rfl, hxA⟩ := hcut
                              have STA := Lib.hid (ST9.out.keep hxA)
                              have RRA := Lib.hid (RR9.out.keep hxA)
                              have BLA := Lib.hid (BL9.out.keep hxA)
                              have LBA := Lib.hid (show LbR _ ps [.bool true, .bool false, .bool neg9, .slice A9 n9 c9, .slice A9' n9' c9', .slice AX9 nx.length cx9] ⟨true, false, nx⟩ from ⟨neg9, A9, n9, c9, A9', n9', c9', AX9, cx9, rfl, R9.out.keep hxA, hcx9, X9.out.keep hxA⟩)
                              have hS9 := HS.out
                              rw [HAO.out, HNX.out] at hS9
                              have HUA := Lib.hid (show undone (((leavP t v).take (j + 1)).foldl (relaxP t down ps m v) ls0) = undone ls0 by rw [STEPQ.out, undone_relax]; exact HUQ.out)
                              clear hxA ST9 RR9 BL9 R9 X9 R3 X3 y0 y1 y2 y3 y4 y5 HS HAO
                              cases hcnd : (!lh.known || befP ps nx lh.arcs)
                              case false =>
                                have HS := Lib.hid (show ((leavP t v).take (j + 1)).foldl (relaxP t down ps m v) ls0 = lq by rw [hS9, hcnd]; rfl)
                                have ALV := Lib.hid (show ∃ l, lq[v]? = some l ∧ l.done = true ∧ l.arcs.length + undone ls0 < N from ⟨la, HLA.out, HDN2.out, HAL.out⟩)
                                clear hS9 hcnd
                                go_wp2
                                go_roundg (L - (j + 1))
                                case measure => omega
                                case rel => exact ⟨j + 1, rfl, by omega, by go_num, RRA.out, by rw [HS.out]; exact STA.out, HUA.out, by rw [HS.out]; exact ALV.out⟩
                              case true =>
                                have HS := Lib.hid (show ((leavP t v).take (j + 1)).foldl (relaxP t down ps m v) ls0 = lq.set h ⟨true, false, nx⟩ by rw [hS9, hcnd]; rfl)
                                obtain ⟨neg4, A4, n4, c4, A4', n4', c4', AX4, cx4, ⟨y0, y1, y2, y3, y4, y5⟩, _, _, _⟩ := STA.out.lab.at_ HLH.out
                                obtain ⟨css, _, _, hlb, _⟩ := STA.out.lab
                                have f0 := hlb.frozen (h * 6)
                                have f1 := hlb.frozen (h * 6 + 1)
                                have f2 := hlb.frozen (h * 6 + 2)
                                have f3 := hlb.frozen (h * 6 + 3)
                                have f4 := hlb.frozen (h * 6 + 4)
                                have f5 := hlb.frozen (h * 6 + 5)
                                have l0 := BLA.out.cell 0
                                have l1 := BLA.out.cell 1
                                have l2 := BLA.out.cell 2
                                have l3 := BLA.out.cell 3
                                have l4 := BLA.out.cell 4
                                have l5 := BLA.out.cell 5
                                simp only [List.getElem?_toArray, List.getElem?_cons_zero, List.getElem?_cons_succ] at l0 l1 l2 l3 l4 l5
                                have HLB := Lib.hid hlb
                                have hhv : h ≠ v := by
                                  rintro rfl
                                  have e1 := HLA.out
                                  rw [HLH.out] at e1
                                  injection e1 with e1
                                  have e2 := HDN2.out
                                  rw [← e1, HLD.out] at e2
                                  cases e2
                                have hnxl : nx.length = la.arcs.length + 1 := by rw [← HNX.out]; simp
                                have hund2 := undone_set (l := ⟨true, false, nx⟩) HLH.out HLD.out rfl
                                have hok2 : lenOk (lq.set h ⟨true, false, nx⟩) := fun l hl => by
                                  rw [hund2, List.length_set, STA.out.len]
                                  rcases List.mem_or_eq_of_mem_set hl with h9 | h9
                                  · have := STA.out.ok l h9
                                    rw [STA.out.len] at this
                                    exact this
                                  · rw [h9]
                                    have h1 := HAL.out
                                    have h2 := HUQ.out
                                    simp only []
                                    omega
                                have HOK := Lib.hid hok2
                                have ALV := Lib.hid (show ∃ l, (lq.set h ⟨true, false, nx⟩)[v]? = some l ∧ l.done = true ∧ l.arcs.length + undone ls0 < N from ⟨la, by rw [List.getElem?_set_ne hhv]; exact HLA.out, HDN2.out, HAL.out⟩)
                                have PUT := Lib.hid (STA.out.lab.put hhq LBA.out)
                                have HLN := Lib.hid (show (lq.set h ⟨true, false, nx⟩).length = N by rw [List.length_set]; exact STA.out.len)
                                clear hS9 hcnd hlb hnxl hund2 hok2
                                go_wp2
                                go_roundg (L - (j + 1))
                                case measure => omega
                                case rel => exact ⟨j + 1, rfl, by omega, by go_num, RRA.out.other (put_grown _ _ _ _ _ _ _ _ _) HLB.out (by decide), by rw [HS.out]; exact STA.out.turn (put_grown _ _ _ _ _ _ _ _ _) PUT.out HLN.out HOK.out, HUA.out, by rw [HS.out]; exact ALV.out⟩
                    · have hjL : j = L := by omega
                      subst hjL
                      have hfin : dijP t down ps m f lq = DR := by
                        have h1 := DIJ3.out
                        have h2 := HQ.out
                        rw [List.take_of_length_le (by rw [HL.out]; exact Nat.le_refl _)] at h2
                        rw [← h1, ← h2]
                      have hf1 : 1 ≤ f := by
                        have := HUN.out
                        omega
                      have HFIN := Lib.hid (show undone lq ≤ f - 1 ∧ dijP t down ps m (f - 1 + 1) lq = DR by
                        refine ⟨?_, by rw [Nat.sub_add_cancel hf1]; exact hfin⟩
                        have h1 := HUN.out
                        have h2 := HUQ.out
                        omega)
                      have ST9 := Lib.hid hst
                      clear hfin hst hrr
                      go_wp2
                      go_roundg (f - 1)
                      case measure => omega
                      case rel => exact ⟨f - 1, lq, rfl, HFIN.out.1, ST9.out, HFIN.out.2⟩
end Go.Proofs.YtjmkcckbbgpkeaaGreatDoor
