/- pricing.Dist: the walk. -/
import Derived.Test.YtekiomanidimnaaGreatDoorMM
import Derived.Test.YtekiomanidimnaaGreatDoorCnC
set_option linter.unusedVariables false
set_option linter.unusedSimpArgs false

namespace Go.Proofs.YtekiomanidimnaaGreatDoor
open Go.RowKit
/-- What Dist returns: prices, flags and an error. -/
def diP (t : Tp) (down : List Bool) (ps : List Rat) (d : Int) : List Rat × List Bool × Int :=
  if bad1 t down ps then ([], [], 1) else if !ndB t.nodes d then ([], [], 2) else
    ((List.range t.nodes.toNat).map (fun v : Nat => prQ ps (chP t down ps (v : Int) d).1), (List.range t.nodes.toNat).map (fun v : Nat => decide ((chP t down ps (v : Int) d).2 = 0)), 0)
theorem chP_cheap {t : Tp} {down : List Bool} {ps : List Rat} {v d : Nat} (hb : bad1 t down ps = false) (hv : v < t.nodes.toNat) (hd : d < t.nodes.toNat) : (chP t down ps (v : Int) (d : Int)).1 = (cheapP t down ps v d).getD [] ∧ decide ((chP t down ps (v : Int) (d : Int)).2 = 0) = (cheapP t down ps v d).isSome := by
  have hb2 : simBad2 t (v : Int) (d : Int) = false := by unfold simBad2; simp; omega
  unfold chP
  rw [hb, hb2]
  simp only [Bool.false_eq_true, if_false, Int.toNat_natCast]
  cases cheapP t down ps v d <;> simp
theorem diP_ok {t : Tp} {down : List Bool} {ps : List Rat} {N d : Nat} (hN : t.nodes = (N : Int)) (hb : bad1 t down ps = false) (hd : d < N) :
    diP t down ps (d : Int) = (priL ps (distP t down ps d (N + 1) (initP N d)), (distP t down ps d (N + 1) (initP N d)).map Lb.known, 0) := by
  have hn : ndB t.nodes (d : Int) = true := by unfold ndB; rw [hN]; simp; omega
  have hNN : t.nodes.toNat = N := by omega
  have hh : validP t = true ∧ pricedP t ps = true := by
    have := hb
    unfold bad1 at this
    simp at this
    exact ⟨this.1.1, this.2⟩
  obtain ⟨h1, h2⟩ := dist_ref (down := down) hh.1 hh.2 (show d < t.nodes.toNat by omega)
  unfold diP
  rw [hb, hn]
  rw [hNN] at h1 h2
  rw [hNN]
  simp only [Bool.false_eq_true, if_false, Bool.not_true]
  congr 1
  · apply List.ext_getElem?
    intro i
    unfold priL
    rw [List.getElem?_map, List.getElem?_map]
    by_cases hi : i < N
    · obtain ⟨l, hl⟩ : ∃ l, (distP t down ps d (N + 1) (initP N d))[i]? = some l := ⟨_, List.getElem?_eq_getElem (by omega)⟩
      rw [hl, List.getElem?_range hi]
      simp only [Option.map_some]
      rw [(h2 i l hl).2, (chP_cheap hb (show i < t.nodes.toNat by omega) (show d < t.nodes.toNat by omega)).1]
    · rw [List.getElem?_eq_none (by simp; omega), List.getElem?_eq_none (by omega)]
      rfl
  · congr 1
    apply List.ext_getElem?
    intro i
    rw [List.getElem?_map, List.getElem?_map]
    by_cases hi : i < N
    · obtain ⟨l, hl⟩ : ∃ l, (distP t down ps d (N + 1) (initP N d))[i]? = some l := ⟨_, List.getElem?_eq_getElem (by omega)⟩
      rw [hl, List.getElem?_range hi]
      simp only [Option.map_some]
      rw [(h2 i l hl).1, (chP_cheap hb (show i < t.nodes.toNat by omega) (show d < t.nodes.toNat by omega)).2]
    · rw [List.getElem?_eq_none (by simp; omega), List.getElem?_eq_none (by omega)]
      rfl
def DiPost (w : World) (r : List Rat × List Bool × Int) (e : Ending) (w' : World) : Prop :=
  (r.2.2 ≠ 0 ∧ e = .returned (.tuple #[.slice none 0 0, .slice none 0 0, .int .i64 r.2.2]) ∧ r.1 = [] ∧ r.2.1 = [] ∧ Ext w w') ∨
  (r.2.2 = 0 ∧ ∃ (gd gk : Nat), e = .returned (.tuple #[.slice (some ⟨gd, 0, none⟩) r.1.length r.1.length, .slice (some ⟨gk, 0, none⟩) r.1.length r.1.length, .int .i64 0]) ∧ r.2.1.length = r.1.length ∧ QB w' gd r.1 ∧ Blk w' gk 4 (bools r.2.1).toArray ∧ w.heap.size < gd ∧ Ext w w')
theorem init_maps (ps : List Rat) (N d : Nat) : priL ps (initP N d) = List.replicate N 0 ∧ (initP N d).map Lb.known = (List.replicate N false).set d true ∧ (initP N d).map Lb.done = List.replicate N false := by
  unfold initP priL
  simp only [List.map_set, List.map_replicate]
  refine ⟨?_, trivial, ?_⟩
  · apply List.ext_getElem?
    intro i
    by_cases e : d = i
    · subst e
      rw [List.getElem?_set]
      split
      · split
        · rename_i h; rw [List.getElem?_replicate, if_pos (by simpa using h)]; rfl
        · rename_i h; rw [List.getElem?_replicate, if_neg (by simpa using h)]
      · rename_i h; exact absurd rfl h
    · rw [List.getElem?_set_ne e]; rfl
  · apply List.ext_getElem?
    intro i
    by_cases e : d = i
    · subst e
      rw [List.getElem?_set]
      split
      · split
        · rename_i h; rw [List.getElem?_replicate, if_pos (by simpa using h)]
        · rename_i h; rw [List.getElem?_replicate, if_neg (by simpa using h)]
      · rename_i h; exact absurd rfl h
    · rw [List.getElem?_set_ne e]
theorem use_args {t : Tp} {down : List Bool} (hv : validP t = true) (hf : fitsP t down = true) {a : Nat} (ha : a < 2 * t.links.length) : a / 2 < t.links.length ∧ (down = [] ∨ a < down.length) ∧ 0 ≤ headP t a ∧ (t.over = [] ∨ headP t a < t.over.length) := by
  obtain ⟨h, hh, hh2⟩ := headP_ok hv ha
  refine ⟨by omega, ?_, by omega, ?_⟩
  · unfold fitsP at hf
    rcases of_decide_eq_true hf with h | h
    · exact .inl (List.length_eq_zero_iff.1 h)
    · right; omega
  · unfold validP headOk at hv
    simp at hv
    rcases hv.1.2 with h | h
    · exact .inl h
    · right; omega
set_option maxRecDepth 100000 in
set_option maxHeartbeats 8000000 in
theorem dist_ok (t : Tp) (AO : Option Addr) (co : Nat) (AL : Option Addr) (cl : Nat) (AD : Option Addr) (cd : Nat) (down : List Bool) (PP : Option Addr) (n cp : Nat) (ps : List Rat) (hn : ps.length = n) (d : Int) (w : World) (ht : TopR w t AO co AL cl) (hdn : Rd w AD (bools down)) (hcd : down.length ≤ 281474976710656) (hdc : down.length ≤ cd) (hps : QL w PP ps) (hpl : n ≤ 1000000) (hsz : ∀ q ∈ ps, SzQ q 1) :
    Calls Tryz.prog 32 #[.agg #[.int .i64 t.nodes, .slice AO t.over.length co, .slice AL t.links.length cl], .slice AD down.length cd, .slice PP n cp, .int .i64 d] w (DiPost w (diP t down ps d)) := by
  have HT := Lib.hid (ht)
  have HDN := Lib.hid (hdn)
  have HPS := Lib.hid (hps)
  have HSZ := Lib.hid (hsz)
  have HNN := Lib.hid (hn)
  have h3 := ht.ll
  have h4 := ht.cl
  clear ht hdn hps hsz hn
  generalize hR : diP t down ps d = R
  have HR := Lib.hid (hR)
  clear hR
  obtain ⟨b0, e0⟩ := boxes1 w #[.int .i64 t.nodes, .slice AO t.over.length co, .slice AL t.links.length cl] 25
  obtain ⟨⟨i0, i1, i2⟩, g0, g1, g2⟩ := b0.three
  have BB := Lib.hid (b0)
  clear b0
  go_enter Tryz.func32, Tryz.ntmps32
  go_upto_region 1 with fail
  go_cut [35] (fun s wx => s = .bool (bad1 t down ps) ∧ Blk wx w.heap.size 25 #[.int .i64 t.nodes, .slice AO t.over.length co, .slice AL t.links.length cl] ∧ Ext w wx)
  case first =>
    go_wp2_with fail
    refine (tValid_any t AO co AL cl _ (HT.out.keep e0)).mono ?_
    rintro e w1 ⟨rfl, hx1⟩
    have hba := BB.out.keep hx1
    obtain ⟨⟨i0, i1, i2⟩, g0, g1, g2⟩ := hba.three
    have E1 := Lib.hid (e0.tr hx1)
    clear hx1
    cases hv : validP t
    case false =>
      go_wp2
      go_meet
      exact ⟨by simp [bad1, hv], hba, E1.out⟩
    case true =>
      have KV := Lib.hid (hv)
      go_wp2_with fail
      refine (gFits_any t AO co AL cl AD cd down _ (HT.out.keep E1.out)).mono ?_
      rintro e w2 ⟨rfl, hx2⟩
      have hba := hba.keep hx2
      obtain ⟨⟨i0, i1, i2⟩, g0, g1, g2⟩ := hba.three
      have E2 := Lib.hid (E1.out.tr hx2)
      clear hx2
      cases hf : fitsP t down
      case false =>
        go_wp2
        go_meet
        exact ⟨by simp [bad1, hf], hba, E2.out⟩
      case true =>
        have HF := Lib.hid (hf)
        go_wp2_with fail
        refine (priced_n t AO co AL cl PP n cp ps HNN.out _ (HT.out.keep E2.out) (HPS.out.keep E2.out) hpl).mono ?_
        rintro e w3 ⟨rfl, hx3⟩
        have hba := hba.keep hx3
        have E3 := Lib.hid (E2.out.tr hx3)
        clear hx3
        go_wp2
        go_meet
        exact ⟨by simp [bad1, KV.out, HF.out], hba, E3.out⟩
  case rest =>
    obtain ⟨rfl, hba, hx⟩ := hcut
    clear i0 i1 i2 g0 g1 g2 e0 BB
    have EX := Lib.hid (hx)
    have BB := Lib.hid (hba)
    obtain ⟨⟨i0, i1, i2⟩, g0, g1, g2⟩ := hba.three
    clear hx hba
    cases hb : bad1 t down ps
    case true =>
      have HB := Lib.hid (show R = ([], [], 1) from by rw [← HR.out]; unfold diP; rw [hb]; rfl)
      obtain rfl := HB.out
      clear hb
      go_wp2
      exact bodyPost_ret (v := .tuple #[.slice none 0 0, .slice none 0 0, .int .i64 1]) (by simp [results, Tryz.results32, go_sem]) rfl (.inl ⟨by decide, rfl, rfl, rfl, EX.out⟩)
    case false =>
      have HB1 := Lib.hid (hb)
      clear hb
      go_wp2_with fail
      refine (gNode_b t AO co AL cl d _).mono ?_
      rintro e w1 ⟨rfl, hx1⟩
      have B1 := Lib.hid (BB.out.keep hx1)
      have E1 := Lib.hid (EX.out.tr hx1)
      clear hx1 i0 i1 i2 g0 g1 g2 BB EX
      cases hnd : ndB t.nodes d
      case false =>
        have HB := Lib.hid (show R = ([], [], 2) from by rw [← HR.out]; unfold diP; rw [HB1.out, hnd]; rfl)
        obtain rfl := HB.out
        clear hnd
        go_wp2
        exact bodyPost_ret (v := .tuple #[.slice none 0 0, .slice none 0 0, .int .i64 2]) (by simp [results, Tryz.results32, go_sem]) rfl (.inl ⟨by decide, rfl, rfl, rfl, E1.out⟩)
      case true =>
        have hsd : 0 ≤ d ∧ d < t.nodes := by
          unfold ndB at hnd
          simpa using hnd
        obtain ⟨D, rfl⟩ : ∃ D : Nat, d = (D : Int) := ⟨d.toNat, by omega⟩
        have SD := Lib.hid (hsd)
        have HV := Lib.hid (bad1_false HB1.out)
        clear hnd hsd
        obtain ⟨⟨i0, i1, i2⟩, _⟩ := B1.out.three
        go_wp2_with fail
        refine (entering_any t AO co AL cl _ (HT.out.keep E1.out) HV.out.1).mono ?_
        rintro e w2 ⟨gll, N, hN, rfl, hll, hx2⟩
        have hN64 : N ≤ 64 := by
          have := valid_nodes HV.out.1
          omega
        have hDN : D < N := by have := SD.out; omega
        have hDN' : (D : Int) < (N : Int) := by omega
        have hr := HR.out.symm.trans (diP_ok hN HB1.out hDN)
        have HR2 := Lib.hid (hr)
        have hba := B1.out.keep hx2
        rw [hN] at hba
        have B2 := Lib.hid (hba)
        have E2 := Lib.hid (E1.out.tr hx2)
        have LLH := Lib.hid (hll)
        have HN := Lib.hid (hN)
        clear hr hN hba hll hx2 i0 i1 i2 B1 E1 HR
        obtain ⟨⟨i0, i1, i2⟩, _⟩ := B2.out.three
        have hmr := run_make_rats N (by omega)
        have hmk := run_make_row' (P := Tryz.prog) 22 4 (.bool false) 1 Tryz.underlying22 Tryz.info4 rfl .i64 .i64 N (by omega) (by omega)
        have hcs : (madeCells #[.bool false] N)[D]? = some (.bool false) := by
          rw [← Array.getElem?_toList, toList_madeCells_one]; simp [hDN]
        have hlt := B2.out.lt
        obtain ⟨m1, m2, m3⟩ := init_maps ps N D
        have hFU : undone (initP N D) ≤ N := by have := undone_le (initP N D); simp [initP] at this ⊢; omega
        have DS0 := Lib.hid (show DSt w (((w2.alloc (.cells (madeCells #[.bool false, .slice none 0 0, .slice none 0 0] (N * 3)) 44)).alloc (.cells ((madeCells #[.bool false] N).setIfInBounds D (.bool true)) 4)).alloc (.cells (madeCells #[.bool false] N) 4)) t AO co AL cl ps w2.heap.size (w2.heap.size + 1) (w2.heap.size + 1 + 1) gll N (initP N D) from by
          have x1 := (Ext.refl w2).alloc (.cells (madeCells #[.bool false, .slice none 0 0, .slice none 0 0] (N * 3)) 44)
          have x2 := (Ext.refl (w2.alloc (.cells (madeCells #[.bool false, .slice none 0 0, .slice none 0 0] (N * 3)) 44))).alloc (.cells ((madeCells #[.bool false] N).setIfInBounds D (.bool true)) 4)
          have x3 := (Ext.refl ((w2.alloc (.cells (madeCells #[.bool false, .slice none 0 0, .slice none 0 0] (N * 3)) 44)).alloc (.cells ((madeCells #[.bool false] N).setIfInBounds D (.bool true)) 4))).alloc (.cells (madeCells #[.bool false] N) 4)
          have xx := (x1.tr x2).tr x3
          refine ⟨B2.out.keep xx, ?_, ?_, ?_, by simp [initP], ?_, LLH.out.keep xx, ⟨by omega, by omega, by omega, by omega⟩, E2.out.tr xx⟩
          · rw [m1]; exact (QB.made w2 N).keep (x2.tr x3)
          · rw [m2, ← bools_setA, ← bools_replicate]
            exact (Blk.new' _ _ _ (by simp)).keep x3
          · rw [m3, ← bools_replicate]
            exact Blk.new' _ _ _ (by simp)
          · intro l hl
            have hu := undone_le (initP N D)
            have : l.arcs = [] := by
              unfold initP at hl
              rcases List.mem_or_eq_of_mem_set hl with h | h
              · rw [List.eq_of_mem_replicate h]
              · rw [h]
            rw [this]; simpa using hu)
        generalize hDR : distP t down ps D (N + 1) (initP N D) = DR at *
        have DS1 := Lib.hid hDR
        clear hDR m1 m2 m3
        have TAIL := Lib.hid (show ∀ (W : World) (a : Nat), Ext w W → a / 2 < t.links.length → Calls Tryz.prog 79 #[.agg #[.int .i64 (N : Int), .slice AO t.over.length co, .slice AL t.links.length cl], .int .i64 a] W fun e w' => e = .returned (.int .i64 (tailP t a)) ∧ Ext W w' from fun W a hW ha => by
          have := gTail_any t AO co AL cl a W (HT.out.keep hW) ha; rw [HN.out] at this; exact this)
        have USE := Lib.hid (show ∀ (W : World) (a : Nat), Ext w W → a < 2 * t.links.length → Calls Tryz.prog 55 #[.agg #[.int .i64 (N : Int), .slice AO t.over.length co, .slice AL t.links.length cl], .slice AD down.length cd, .int .i64 a, .int .i64 (D : Int)] W fun e w' => e = .returned (.bool (usableP t down a D)) ∧ Ext W w' from fun W a hW ha => by
          obtain ⟨u1, u2, u3, u4⟩ := use_args HV.out.1 HV.out.2.1 ha
          have := usable_any t AO co AL cl AD cd down a (D : Int) W (HT.out.keep hW) u1 (HDN.out.keep hW) hdc hcd u2 u3 u4; rw [HN.out] at this; exact this)
        go_wp2
        clear hmk hmr hcs i0 i1 i2 B2 LLH E2 hlt
        generalize (((w2.alloc (.cells (madeCells #[.bool false, .slice none 0 0, .slice none 0 0] (N * 3)) 44)).alloc (.cells ((madeCells #[.bool false] N).setIfInBounds D (.bool true)) 4)).alloc (.cells (madeCells #[.bool false] N) 4)) = w3 at *
        generalize hgd : w2.heap.size = gd at *
        generalize hgk : gd + 1 = gk at *
        generalize hgn : gk + 1 = gn at *
        clear hgd hgk hgn
        go_loopg [15, 16, 18, 19, 20] N (fun k _ _ _ _ _ wr => ∃ (f : Nat) (ls : List Lb), f = k ∧ undone ls ≤ f ∧ DSt w wr t AO co AL cl ps gd gk gn gll N ls ∧ distP t down ps D (f + 1) ls = DR)
        case atStart => exact ⟨N, initP N D, rfl, hFU, DS0.out, DS1.out⟩
        case round =>
          clear DS0 DS1 hFU
          obtain ⟨f, ls, rfl, hfu, hst, hdis⟩ := hrel
          have SZL := Lib.hid (SzL_of (P := 1) (by decide) (by decide) HSZ.out hst.ok hst.len hN64)
          have ST := Lib.hid (hst)
          have DIS := Lib.hid (hdis)
          have FU := Lib.hid (hfu)
          have hlen := hst.len
          have HL := Lib.hid (hlen)
          obtain ⟨⟨i0, i1, i2⟩, _⟩ := hst.tt.three
          clear hst hdis hfu hlen
          go_wp2
          go_loopg [15, 16, 56] N (fun j bt _ it wx => ∃ k : Nat, N - k = j ∧ k ≤ N ∧ it = .int .i64 k ∧ bt = .int .i64 (dfirstTo ps ls k) ∧ Hid (DSt w wx t AO co AL cl ps gd gk gn gll N ls))
          case atStart => exact ⟨0, rfl, Nat.zero_le _, rfl, rfl, ST⟩
          case round =>
            obtain ⟨k, rfl, hk, rfl, rfl, STX⟩ := hrel
            clear ST i0 i1 i2
            have hfr := dfirstTo_range ps ls k
            have HST := Lib.hid (show dfirstTo ps ls (k + 1) = match ls[k]? with
              | none => dfirstTo ps ls k
              | some l => if l.known && !l.done && (decide (dfirstTo ps ls k < 0) || decide (cmpQ (prQ ps l.arcs) (prQ ps (arcsOf ls (dfirstTo ps ls k).toNat)) < 0)) then (k : Int) else dfirstTo ps ls k from rfl)
            generalize hbb : dfirstTo ps ls k = b at *
            have HBB := Lib.hid hbb
            clear hbb
            by_cases hkl : k < N
            · obtain ⟨lb, hlb⟩ : ∃ lb, ls[k]? = some lb := ⟨_, List.getElem?_eq_getElem (by rw [HL.out]; exact hkl)⟩
              have hst := HST.out
              rw [hlb] at hst
              have HST2 := Lib.hid hst
              have SZB := Lib.hid (SZL.out lb (List.mem_of_getElem? hlb))
              obtain ⟨neg, A, n1, c1, A', n1', c1', ⟨q0, q1, q2⟩, _, hR⟩ := STX.out.di.at_ (i := k) (q := prQ ps lb.arcs) (by unfold priL; rw [List.getElem?_map, hlb]; rfl)
              have R1 := Lib.hid hR
              have hck := (STX.out.kk.cell k).trans (bools_getA _ k lb.known (by rw [List.getElem?_map, hlb]; rfl))
              have hcn := (STX.out.nn.cell k).trans (bools_getA _ k lb.done (by rw [List.getElem?_map, hlb]; rfl))
              have HLB := Lib.hid hlb
              clear hst hR hlb HST
              obtain ⟨kn, dn, arcs⟩ := lb
              simp only [] at hck hcn
              go_upto_region 14 with fail
              have gkl := STX.out.kk.lt
              have gnl := STX.out.nn.lt
              have gdl := STX.out.di.lt
              have y0 := XW.cell _ _ _ gkl hck
              have y1 := XW.cell _ _ _ gnl hcn
              have kN : (k : Int) < (N : Int) := by omega
              clear hck hcn
              go_cut [85] (fun s wy => s = .bool (kn && !dn && (decide (b < 0) || decide (cmpQ (prQ ps arcs) (prQ ps (arcsOf ls b.toNat)) < 0))) ∧ Hid (DSt w wy t AO co AL cl ps gd gk gn gll N ls))
              case first =>
                cases kn
                case false =>
                  refine wp_region_ext (by kernel_rfl) (by kernel_rfl) ?_
                  repeat (go_big_quiet_step (fail))
                  refine wpQuiet_nil ?_
                  rintro _ ⟨x, rfl⟩
                  go_wp2
                  go_meet
                  exact ⟨rfl, Lib.hid (STX.out.keep x.ext)⟩
                case true =>
                  cases dn
                  case true =>
                    refine wp_region_ext (by kernel_rfl) (by kernel_rfl) ?_
                    repeat (go_big_quiet_step (fail))
                    refine wpQuiet_nil ?_
                    rintro _ ⟨x, rfl⟩
                    go_wp2
                    go_meet
                    exact ⟨rfl, Lib.hid (STX.out.keep x.ext)⟩
                  case false =>
                    rcases hfr with hb | ⟨hb0, hbk, hbl⟩
                    · subst hb
                      have hbd : decide ((-1 : Int) < 0) = true := rfl
                      refine wp_region_ext (by kernel_rfl) (by kernel_rfl) ?_
                      repeat (go_big_quiet_step (fail))
                      refine wpQuiet_nil ?_
                      rintro _ ⟨x, rfl⟩
                      go_wp2
                      go_meet
                      exact ⟨rfl, Lib.hid (STX.out.keep x.ext)⟩
                    · obtain ⟨m, rfl⟩ : ∃ m : Nat, b = (m : Int) := ⟨b.toNat, by omega⟩
                      rw [Int.toNat_natCast] at hbk hbl
                      obtain ⟨lm, hlm⟩ : ∃ lm, ls[m]? = some lm := ⟨_, List.getElem?_eq_getElem hbl⟩
                      have SZM := Lib.hid (SZL.out lm (List.mem_of_getElem? hlm))
                      have HV2 := Lib.hid (show arcsOf ls m = lm.arcs by unfold arcsOf; rw [hlm]; rfl)
                      obtain ⟨neg2, A2, n2, c2, A2', n2', c2', ⟨p0, p1, p2⟩, _, hR2⟩ := STX.out.di.at_ (i := m) (q := prQ ps lm.arcs) (by unfold priL; rw [List.getElem?_map, hlm]; rfl)
                      have z0 := XW.cell _ _ _ gdl q0
                      have z1 := XW.cell _ _ _ gdl q1
                      have z2 := XW.cell _ _ _ gdl q2
                      have z3 := XW.cell _ _ _ gdl p0
                      have z4 := XW.cell _ _ _ gdl p1
                      have z5 := XW.cell _ _ _ gdl p2
                      have R2 := Lib.hid hR2
                      have hml : (m : Int) < (N : Int) := by have := HL.out; omega
                      have hm0 : (0 : Int) ≤ (m : Int) := by omega
                      have hbd : decide ((m : Int) < 0) = false := by simp
                      have hl1 := R1.out.lens SZB.out.1
                      have hl2 := R2.out.lens SZM.out.1
                      clear hlm hR2 p0 p1 p2 q0 q1 q2
                      refine wp_region_ext (by kernel_rfl) (by kernel_rfl) ?_
                      repeat (go_big_quiet_step ((go_at_call 27; exact Calls.ext_of (ratCmp_any neg neg2 A n1 c1 A' n1' c1' A2 n2 c2 A2' n2' c2' (prQ ps arcs) (prQ ps lm.arcs) _ (R1.out.keep (XW.ext _)) (R2.out.keep (XW.ext _)) hl1.1 hl1.2 hl2.1 hl2.2))))
                      refine wpQuiet_nil ?_
                      rintro _ ⟨x, rfl⟩
                      go_wp2
                      go_meet
                      refine ⟨?_, Lib.hid (STX.out.keep x.ext)⟩
                      rw [Int.toNat_natCast, HV2.out]
                      simp
                      intro h9
                      omega
              case rest =>
                obtain ⟨rfl, EX2⟩ := hcut
                clear y0 y1
                have hst := HST2.out
                simp only [] at hst
                generalize (kn && !dn && (decide (b < 0) || decide (cmpQ (prQ ps arcs) (prQ ps (arcsOf ls b.toNat)) < 0))) = cond at *
                cases cond
                case false =>
                  have HS := Lib.hid (show dfirstTo ps ls (k + 1) = b by rw [hst]; rfl)
                  clear hst HST2
                  go_wp2
                  go_roundg (N - (k + 1))
                  case measure => omega
                  case rel => exact ⟨k + 1, rfl, by omega, by go_num, by rw [HS.out], EX2⟩
                case true =>
                  have HS := Lib.hid (show dfirstTo ps ls (k + 1) = (k : Int) by rw [hst]; rfl)
                  clear hst HST2
                  go_wp2
                  go_roundg (N - (k + 1))
                  case measure => omega
                  case rel => exact ⟨k + 1, rfl, by omega, by go_num, by rw [HS.out], EX2⟩
            · obtain rfl : k = N := by omega
              have HBP := Lib.hid (show dfirstP ps ls = b by unfold dfirstP; rw [HL.out]; exact HBB.out)
              clear HST
              by_cases hb : b < 0
              · have HDR := Lib.hid (show ls = DR by
                  have := DIS.out
                  unfold distP at this
                  rw [HBP.out, if_pos hb] at this
                  exact this)
                obtain rfl := HDR.out
                obtain rfl := HR2.out
                have hpl2 : (priL ps ls).length = k := by unfold priL; rw [List.length_map]; exact HL.out
                have hkl2 : (ls.map Lb.known).length = k := by rw [List.length_map]; exact HL.out
                go_wp2
                exact bodyPost_ret (v := .tuple #[.slice (some ⟨gd, 0, none⟩) k k, .slice (some ⟨gk, 0, none⟩) k k, .int .i64 0]) (by simp [results, Tryz.results32, go_sem]) rfl (.inr ⟨rfl, gd, gk, by rw [hpl2], by rw [hpl2]; exact hkl2, STX.out.di, STX.out.kk, STX.out.gg.1, STX.out.ext⟩)
              · obtain ⟨v, rfl⟩ : ∃ v : Nat, b = (v : Int) := ⟨b.toNat, by omega⟩
                have hvfr := dfirst_fresh ps ls ls.length (show 0 ≤ dfirstP ps ls by rw [HBP.out]; omega)
                rw [show dfirstTo ps ls ls.length = dfirstP ps ls from rfl, HBP.out, Int.toNat_natCast] at hvfr
                obtain ⟨lv, hlv, hkn, hdn0⟩ := hvfr
                have hvl : v < ls.length := (List.getElem?_eq_some_iff.1 hlv).1
                have hvN : v < k := by have := HL.out; omega
                have hvN' : (v : Int) < (k : Int) := by omega
                have hdj := DIS.out
                unfold distP at hdj
                rw [HBP.out, if_neg hb, Int.toNat_natCast] at hdj
                have DIS2 := Lib.hid hdj
                have hund := undone_mark hlv hdn0
                have HUN := Lib.hid hund
                have STM := Lib.hid (STX.out.mark hlv hdn0)
                have AV := Lib.hid (show ∃ l, (markP ls v)[v]? = some l ∧ l.done = true ∧ l.arcs.length + undone (markP ls v) < k from by
                  refine ⟨⟨lv.known, true, lv.arcs⟩, ?_, rfl, ?_⟩
                  · unfold markP; rw [hlv, List.getElem?_set_self hvl]
                  · have h1 := STX.out.ok lv (List.mem_of_getElem? hlv)
                    have h2 := HL.out
                    simp only []
                    omega)
                have hcv := (STX.out.nn.cell v).trans (bools_getA _ v lv.done (by rw [List.getElem?_map, hlv]; rfl))
                have hfz := STX.out.nn.frozen v
                have hbd : decide ((v : Int) < 0) = false := by simp
                clear hdj hund DIS HBP HBB hfr hlv hkn hb
                go_upto_region 19 with fail
                go_cut [] (fun wx => DSt w wx t AO co AL cl ps gd gk gn gll k (markP ls v))
                case first =>
                  go_wp2
                  go_meet
                  exact STM.out
                case rest =>
                  clear STM STX hcv hfz
                  obtain ⟨V, v1, v2⟩ := hcut.ll
                  have cl1 := (v1.cell v).trans (range_map_get _ V v hvN)
                  obtain ⟨AR, cr, v3, hcr, hrr⟩ := v2 v hvN
                  rw [v3] at cl1
                  have hlen := entTo_len t (2 * t.links.length) v
                  change (entP t v).length ≤ _ at hlen
                  have ST5 := Lib.hid hcut
                  have RR0 := Lib.hid hrr
                  clear v1 v2 v3 V hrr hcut
                  generalize hL : (entP t v).length = L at *
                  have HLE := Lib.hid hL
                  clear hL
                  generalize hM : markP ls v = ls0 at *
                  have HM := Lib.hid hM
                  clear hM
                  go_wp2
                  go_loopg [18, 19, 20, 100] L (fun i _ _ _ it wx => ∃ j : Nat, L - j = i ∧ j ≤ L ∧ it = .int .i64 j ∧ Hid (RdT wx 3 AR (ints (entP t v))) ∧ Hid (DSt w wx t AO co AL cl ps gd gk gn gll k (((entP t v).take j).foldl (drelaxP t down ps D v) ls0)) ∧ Hid (undone (((entP t v).take j).foldl (drelaxP t down ps D v) ls0) = undone ls0) ∧ Hid (∃ l, (((entP t v).take j).foldl (drelaxP t down ps D v) ls0)[v]? = some l ∧ l.done = true ∧ l.arcs.length + undone ls0 < k))
                  case atStart => exact ⟨0, rfl, Nat.zero_le _, rfl, RR0, ST5, Lib.hid rfl, AV⟩
                  case round =>
                    clear ST5 AV cl1 RR0
                    obtain ⟨j, rfl, hj, rfl, RR6, ST6, HUQ, AV6⟩ := hrel
                    generalize hQ : ((entP t v).take j).foldl (drelaxP t down ps D v) ls0 = lq at *
                    have HQ := Lib.hid hQ
                    clear hQ
                    by_cases hjl : j < L
                    · obtain ⟨a, ha⟩ : ∃ a, (entP t v)[j]? = some a := ⟨_, List.getElem?_eq_getElem (by rw [HLE.out]; exact hjl)⟩
                      obtain ⟨_, _, _, _, ha2⟩ := ent_mem HV.out.1 (List.mem_of_getElem? ha)
                      obtain ⟨h, hh, hhn⟩ := tailP_ok HV.out.1 ha2
                      rw [HN.out] at hhn
                      have hpa : a < ps.length := by have := HV.out.2.2; omega
                      obtain ⟨b, o, rfl, hbl, hbc⟩ := RR6.out.rd.ints_ (k := j) (by rw [HLE.out]; exact hjl)
                      rw [ha, Option.getD_some] at hbc
                      obtain ⟨⟨i0, i1, i2⟩, _⟩ := ST6.out.tt.three
                      have STEP := Lib.hid (show ((entP t v).take (j + 1)).foldl (drelaxP t down ps D v) ls0 = drelaxP t down ps D v lq a by
                        rw [List.take_add_one, ha, List.foldl_append, HQ.out]; rfl)
                      have HH := Lib.hid hh
                      clear ha hh HQ
                      go_wp2_with fail
                      refine (TAIL.out _ a ST6.out.ext (by omega)).mono ?_
                      rintro e w6 ⟨rfl, hx6⟩
                      rw [HH.out]
                      have ST7 := Lib.hid (ST6.out.keep hx6)
                      have RR7 := Lib.hid (RR6.out.keep hx6)
                      clear hx6 ST6 RR6 i0 i1 i2 hbc
                      have hhq : h < lq.length := by have := ST7.out.len; omega
                      have hhN : (h : Int) < (k : Int) := by omega
                      obtain ⟨lh, hlh⟩ : ∃ lh, lq[h]? = some lh := ⟨_, List.getElem?_eq_getElem hhq⟩
                      have hcn := (ST7.out.nn.cell h).trans (bools_getA _ h lh.done (by rw [List.getElem?_map, hlh]; rfl))
                      have STEP2 := Lib.hid (show drelaxP t down ps D v lq a = if lh.done || !usableP t down a D then lq else if !lh.known || decide (cmpQ (prQ ps (a :: arcsOf lq v)) (prQ ps lh.arcs) < 0) then lq.set h ⟨true, false, a :: arcsOf lq v⟩ else lq by
                        unfold drelaxP
                        rw [HH.out, Int.toNat_natCast, hlh])
                      have HLH := Lib.hid hlh
                      clear hlh
                      cases hld : lh.done
                      case true =>
                        rw [hld] at hcn
                        have hS := STEP2.out
                        rw [hld] at hS
                        simp only [Bool.true_or, if_true] at hS
                        have HS := Lib.hid (STEP.out.trans hS)
                        clear hS STEP STEP2 hld
                        go_wp2
                        go_roundg (L - (j + 1))
                        case measure => omega
                        case rel => exact ⟨j + 1, rfl, by omega, by go_num, RR7, by rw [HS.out]; exact ST7, by rw [HS.out]; exact HUQ, by rw [HS.out]; exact AV6⟩
                      case false =>
                        rw [hld] at hcn
                        obtain ⟨⟨i0, i1, i2⟩, _⟩ := ST7.out.tt.three
                        go_wp2_with fail
                        refine (USE.out _ a ST7.out.ext ha2).mono ?_
                        rintro e w7 ⟨rfl, hx7⟩
                        have ST8 := Lib.hid (ST7.out.keep hx7)
                        have RR8 := Lib.hid (RR7.out.keep hx7)
                        clear hx7 ST7 RR7 i0 i1 i2 hcn
                        cases hus : usableP t down a D
                        case false =>
                          have hS := STEP2.out
                          rw [hus] at hS
                          simp only [Bool.not_false, Bool.or_true, if_true] at hS
                          have HS := Lib.hid (STEP.out.trans hS)
                          clear hS STEP STEP2 hus
                          go_wp2
                          go_roundg (L - (j + 1))
                          case measure => omega
                          case rel => exact ⟨j + 1, rfl, by omega, by go_num, RR8, by rw [HS.out]; exact ST8, by rw [HS.out]; exact HUQ, by rw [HS.out]; exact AV6⟩
                        case true =>
                          have hS := STEP2.out
                          rw [hus, hld] at hS
                          simp only [Bool.not_true, Bool.or_false, Bool.false_eq_true, if_false] at hS
                          have HS := Lib.hid (STEP.out.trans hS)
                          have HLD := Lib.hid hld
                          clear hS STEP STEP2 hus hld
                          have hla6 := AV6.out
                          obtain ⟨la, hla, hld9, hal⟩ := hla6
                          have HAO := Lib.hid (show arcsOf lq v = la.arcs by unfold arcsOf; rw [hla]; rfl)
                          rw [HAO.out] at HS
                          obtain ⟨qa, hqa⟩ : ∃ q, ps[a]? = some q := ⟨_, List.getElem?_eq_getElem hpa⟩
                          have PC := Lib.hid (show prQ ps (a :: la.arcs) = prQ ps la.arcs + qa by rw [prQ_cons, hqa]; rfl)
                          have SZX := Lib.hid (show SzQ (prQ ps (a :: la.arcs)) 1000 from (SzQ.pr (P := 1) (by decide) HSZ.out (a :: la.arcs)).mono (by simp only [List.length_cons]; omega))
                          have SZA := Lib.hid (show SzQ (prQ ps la.arcs) 1000 from (SzQ.pr (P := 1) (by decide) HSZ.out la.arcs).mono (by omega))
                          have SZH := Lib.hid ((SzL_of (P := 1) (by decide) (by decide) HSZ.out ST8.out.ok ST8.out.len (by omega)) lh (List.mem_of_getElem? HLH.out))
                          have sq := HSZ.out qa (List.mem_of_getElem? hqa)
                          obtain ⟨bq, oq, nx, X1, m1, f1, X2, m2, f2, hPP, hbq, y0', y1', y2', hQ'⟩ := HPS.out.at_ hqa
                          subst hPP
                          have HBQ := Lib.hid (And.intro hbq (And.intro y0' (And.intro y1' y2')))
                          have HRQ := Lib.hid hQ'
                          have lx := hQ'.lens sq
                          have HLA := Lib.hid hla
                          have hlad := (show (priL ps lq)[v]? = some (prQ ps la.arcs) by unfold priL; rw [List.getElem?_map, hla]; rfl)
                          have HAL := Lib.hid (show (a :: la.arcs).length + undone lq ≤ k from by rw [HUQ.out, List.length_cons]; omega)
                          obtain ⟨nv, V1, s1, u1, V2, s2, u2, ⟨x0, x1, x2⟩, _, hRv⟩ := ST8.out.di.at_ hlad
                          have RV := Lib.hid hRv
                          have lv2 := hRv.lens SZA.out
                          have CV := Lib.hid (And.intro ST8.out.di.lt (And.intro x0 (And.intro x1 x2)))
                          clear hqa sq y0' y1' y2' hQ' hla hlad hRv x0 x1 x2 hbq hld9
                          have hal2 : a < n := by have := HNN.out; omega
                          have hal3 : (a : Int) < (n : Int) := by omega
                          go_upto_region 25 with fail
                          go_cut [20] (fun s wx => ∃ (g : Nat) (n6 : Bool) (A6 : Option Addr) (l6 c6 : Nat) (A6' : Option Addr) (l6' c6' : Nat), s = .pointer (some ⟨g, 0, none⟩) ∧ Hid (Blk wx g 44 #[.bool n6, .slice A6 l6 c6, .slice A6' l6' c6']) ∧ Hid (RatR wx n6 A6 l6 c6 A6' l6' c6' (prQ ps (a :: la.arcs))) ∧ Hid (Ext w7 wx))
                          case first =>
                            have XD := Lib.hid (show Ext w7 w7.drew from (Ext.refl w7).drewN 1)
                            have XA := Lib.hid (show Ext w7 (w7.alloc (.cells #[.bool false, .slice none 0 0, .slice none 0 0] 44)).drew from ((Ext.refl w7).alloc _).drewN 1)
                            have BN := Lib.hid (show Blk (w7.alloc (.cells #[.bool false, .slice none 0 0, .slice none 0 0] 44)).drew w7.heap.size 44 #[.bool false, .slice none 0 0, .slice none 0 0] from Blk.new w7 _ _)
                            have KEEP := Lib.hid (show ∀ wx, Ext w7 wx → (wx.cell? ⟨gd, v * 3, none⟩ = some (.bool nv) ∧ wx.cell? ⟨gd, v * 3 + 1, none⟩ = some (.slice V1 s1 u1) ∧ wx.cell? ⟨gd, v * 3 + 2, none⟩ = some (.slice V2 s2 u2) ∧ wx.cell? ⟨bq, oq + a * 3, none⟩ = some (.bool nx) ∧ wx.cell? ⟨bq, oq + a * 3 + 1, none⟩ = some (.slice X1 m1 f1) ∧ wx.cell? ⟨bq, oq + a * 3 + 2, none⟩ = some (.slice X2 m2 f2)) from fun wx hx =>
                              ⟨(hx.cell (p := ⟨gd, v * 3, none⟩) CV.out.1).trans CV.out.2.1, (hx.cell (p := ⟨gd, v * 3 + 1, none⟩) CV.out.1).trans CV.out.2.2.1, (hx.cell (p := ⟨gd, v * 3 + 2, none⟩) CV.out.1).trans CV.out.2.2.2, ((ST8.out.ext.tr hx).cell (p := ⟨bq, oq + a * 3, none⟩) HBQ.out.1).trans HBQ.out.2.1, ((ST8.out.ext.tr hx).cell (p := ⟨bq, oq + a * 3 + 1, none⟩) HBQ.out.1).trans HBQ.out.2.2.1, ((ST8.out.ext.tr hx).cell (p := ⟨bq, oq + a * 3 + 2, none⟩) HBQ.out.1).trans HBQ.out.2.2.2⟩)
                            have g7d : gd < w7.heap.size := CV.out.1
                            have g7q : bq < w7.heap.size := Nat.lt_of_lt_of_le HBQ.out.1 ST8.out.ext.size
                            obtain ⟨i0, i1, i2, j0, j1, j2⟩ := KEEP.out _ XD.out
                            obtain ⟨y0, y1, y2, z0, z1, z2⟩ := KEEP.out _ XA.out
                            go_wp2
                            go_region_held3 (fun w' => w'.cell? ⟨gd, v * 3, none⟩ = some (.bool nv) ∧ w'.cell? ⟨gd, v * 3 + 1, none⟩ = some (.slice V1 s1 u1) ∧ w'.cell? ⟨gd, v * 3 + 2, none⟩ = some (.slice V2 s2 u2) ∧ w'.cell? ⟨bq, oq + a * 3, none⟩ = some (.bool nx) ∧ w'.cell? ⟨bq, oq + a * 3 + 1, none⟩ = some (.slice X1 m1 f1) ∧ w'.cell? ⟨bq, oq + a * 3 + 2, none⟩ = some (.slice X2 m2 f2))
                              (first | with_reducible exact ⟨i0, i1, i2, j0, j1, j2⟩ | with_reducible exact ⟨y0, y1, y2, z0, z1, z2⟩ | with_reducible exact ⟨cell_alloc_of i0 _, cell_alloc_of i1 _, cell_alloc_of i2 _, cell_alloc_of j0 _, cell_alloc_of j1 _, cell_alloc_of j2 _⟩ | with_reducible exact ⟨cell_set_of (cell_set_of (cell_set_of i0 fT) fT) fT, cell_set_of (cell_set_of (cell_set_of i1 fT) fT) fT, cell_set_of (cell_set_of (cell_set_of i2 fT) fT) fT, cell_set_of (cell_set_of (cell_set_of j0 fP) fP) fP, cell_set_of (cell_set_of (cell_set_of j1 fP) fP) fP, cell_set_of (cell_set_of (cell_set_of j2 fP) fP) fP⟩ | exact ⟨cell_set_of (cell_set_of (cell_set_of i0 fT) fT) fT, cell_set_of (cell_set_of (cell_set_of i1 fT) fT) fT, cell_set_of (cell_set_of (cell_set_of i2 fT) fT) fT, cell_set_of (cell_set_of (cell_set_of j0 fP) fP) fP, cell_set_of (cell_set_of (cell_set_of j1 fP) fP) fP, cell_set_of (cell_set_of (cell_set_of j2 fP) fP) fP⟩ | fail)
                              (first
                                | (go_at_call 63
                                   first
                                   | (with_reducible refine (ratAdd_any nv nx V1 s1 u1 V2 s2 u2 X1 m1 f1 X2 m2 f2 (prQ ps la.arcs) qa _ (RV.out.keep (by with_reducible exact XD.out)) (HRQ.out.keep (by with_reducible exact ST8.out.ext.tr XD.out)) (by omega) (by omega) (by omega) (by omega) (reducedAt_all (Nat.mul_ne_zero (Rat.den_nz _) (Rat.den_nz _)))).mono ?_
                                      rintro e w8 ⟨n8, A8, l8, c8, A8', l8', c8', rfl, h8, x8⟩
                                      have E8 := Lib.hid (XD.out.tr x8))
                                   | (with_reducible refine (ratAdd_any nv nx V1 s1 u1 V2 s2 u2 X1 m1 f1 X2 m2 f2 (prQ ps la.arcs) qa _ (RV.out.keep (by with_reducible exact XA.out)) (HRQ.out.keep (by with_reducible exact ST8.out.ext.tr XA.out)) (by omega) (by omega) (by omega) (by omega) (reducedAt_all (Nat.mul_ne_zero (Rat.den_nz _) (Rat.den_nz _)))).mono ?_
                                      rintro e w8 ⟨n8, A8, l8, c8, A8', l8', c8', rfl, h8, x8⟩
                                      have E8 := Lib.hid (XA.out.tr x8)
                                      have BM := Lib.hid (BN.out.keep x8)
                                      obtain ⟨⟨v0, v1, v2⟩, r0, r1, r2⟩ := BM.out.three
                                      have gg : w7.heap.size ≤ w7.heap.size := Nat.le_refl _
                                      have fT : gd ≠ w7.heap.size := Nat.ne_of_lt g7d
                                      have fP : bq ≠ w7.heap.size := Nat.ne_of_lt g7q)
                                   rw [← PC.out] at h8
                                   have R8 := Lib.hid h8
                                   obtain ⟨i0, i1, i2, j0, j1, j2⟩ := KEEP.out _ E8.out
                                   clear x8 h8)
                                | fail)
                            all_goals
                              go_wp2
                              go_meet
                              first
                              | (obtain ⟨q1, q2⟩ := rat_set3 (w := w7) R8.out BM.out gg E8.out
                                 exact ⟨_, n8, A8, l8, c8, A8', l8', c8', rfl, Lib.hid (((BM.out.set_ 0 _).set_ 1 _).set_ 2 _), Lib.hid q1, Lib.hid q2⟩)
                              | (have xb := (Ext.refl w8).alloc (.cells #[.bool n8, .slice A8 l8 c8, .slice A8' l8' c8'] 44)
                                 exact ⟨w8.heap.size, n8, A8, l8, c8, A8', l8', c8', rfl, Lib.hid (Blk.new w8 _ _), Lib.hid (R8.out.keep xb), Lib.hid (E8.out.tr xb)⟩)
                          case rest =>
                            obtain ⟨g, n6, A6, l6, c6, A6', l6', c6', rfl, B6, R6, E6⟩ := hcut
                            have ST9 := Lib.hid (ST8.out.keep E6.out)
                            have RR9 := Lib.hid (RR8.out.keep E6.out)
                            clear ST8 RR8 E6 CV RV HBQ HRQ
                            have hlh := HLH.out
                            obtain ⟨nh, H1, p1, t1, H2, p2, t2, ⟨x0, x1, x2⟩, _, hRh⟩ := ST9.out.di.at_ (i := h) (q := prQ ps lh.arcs) (by unfold priL; rw [List.getElem?_map, hlh]; rfl)
                            have hck := (ST9.out.kk.cell h).trans (bools_getA _ h lh.known (by rw [List.getElem?_map, hlh]; rfl))
                            have RH := Lib.hid hRh
                            have hl1 := R6.out.lens (SZX.out.mono (show 1000 ≤ 268435456 by decide))
                            have hl2 := RH.out.lens SZH.out.1
                            have y0 := XW.cell _ _ _ ST9.out.kk.lt hck
                            have z0 := XW.cell _ _ _ ST9.out.di.lt x0
                            have z1 := XW.cell _ _ _ ST9.out.di.lt x1
                            have z2 := XW.cell _ _ _ ST9.out.di.lt x2
                            have z3 := XW.cell _ _ _ B6.out.lt (B6.out.cell 0)
                            have z4 := XW.cell _ _ _ B6.out.lt (B6.out.cell 1)
                            have z5 := XW.cell _ _ _ B6.out.lt (B6.out.cell 2)
                            clear hlh hRh hck x0 x1 x2
                            go_upto_region 26 with fail
                            go_cut [141] (fun s wy => s = .bool (!lh.known || decide (cmpQ (prQ ps (a :: la.arcs)) (prQ ps lh.arcs) < 0)) ∧ Hid (DSt w wy t AO co AL cl ps gd gk gn gll k lq) ∧ Hid (RdT wy 3 (some ⟨b, o, none⟩) (ints (entP t v))) ∧ Hid (Blk wy g 44 #[.bool n6, .slice A6 l6 c6, .slice A6' l6' c6']) ∧ Hid (RatR wy n6 A6 l6 c6 A6' l6' c6' (prQ ps (a :: la.arcs))))
                            case first =>
                              cases hkn : lh.known
                              case false =>
                                rw [hkn] at y0
                                refine wp_region_ext (by kernel_rfl) (by kernel_rfl) ?_
                                repeat (go_big_quiet_step (fail))
                                refine wpQuiet_nil ?_
                                rintro _ ⟨x, rfl⟩
                                go_wp2
                                go_meet
                                exact ⟨by rw [hkn]; rfl, Lib.hid (ST9.out.keep x.ext), Lib.hid (RR9.out.keep x.ext), Lib.hid (B6.out.keep x.ext), Lib.hid (R6.out.keep x.ext)⟩
                              case true =>
                                rw [hkn] at y0
                                refine wp_region_ext (by kernel_rfl) (by kernel_rfl) ?_
                                repeat (go_big_quiet_step ((go_at_call 27; exact Calls.ext_of (ratCmp_any n6 nh A6 l6 c6 A6' l6' c6' H1 p1 t1 H2 p2 t2 (prQ ps (a :: la.arcs)) (prQ ps lh.arcs) _ (R6.out.keep (XW.ext _)) (RH.out.keep (XW.ext _)) hl1.1 hl1.2 hl2.1 hl2.2))))
                                refine wpQuiet_nil ?_
                                rintro _ ⟨x, rfl⟩
                                go_wp2
                                go_meet
                                exact ⟨by rw [hkn]; rfl, Lib.hid (ST9.out.keep x.ext), Lib.hid (RR9.out.keep x.ext), Lib.hid (B6.out.keep x.ext), Lib.hid (R6.out.keep x.ext)⟩
                            case rest =>
                              obtain ⟨rfl, STA, RRA, BA, RA⟩ := hcut
                              clear y0 z0 z1 z2 z3 z4 z5 ST9 RR9 B6 R6 RH
                              have hS := HS.out
                              generalize (!lh.known || decide (cmpQ (prQ ps (a :: la.arcs)) (prQ ps lh.arcs) < 0)) = cond at *
                              cases cond
                              case false =>
                                simp only [Bool.false_eq_true, if_false] at hS
                                have HS2 := Lib.hid hS
                                clear hS HS
                                go_wp2
                                go_roundg (L - (j + 1))
                                case measure => omega
                                case rel => exact ⟨j + 1, rfl, by omega, by go_num, RRA, by rw [HS2.out]; exact STA, by rw [HS2.out]; exact HUQ, by rw [HS2.out]; exact AV6⟩
                              case true =>
                                simp only [if_true] at hS
                                have HS2 := Lib.hid hS
                                have hlh := HLH.out
                                have STB := Lib.hid (STA.out.put hlh HLD.out HAL.out RA.out)
                                have hvh : v ≠ h := by
                                  intro e
                                  subst e
                                  have h1 := AV6.out
                                  obtain ⟨l, e1, e2, _⟩ := h1
                                  rw [hlh] at e1
                                  injection e1 with e1
                                  rw [← e1, HLD.out] at e2
                                  cases e2
                                have AVB := Lib.hid (show ∃ l, (lq.set h ⟨true, false, a :: la.arcs⟩)[v]? = some l ∧ l.done = true ∧ l.arcs.length + undone ls0 < k from by
                                  have h1 := AV6.out
                                  obtain ⟨l, e1, e2, e3⟩ := h1
                                  exact ⟨l, by rw [List.getElem?_set_ne (fun e => hvh e.symm)]; exact e1, e2, e3⟩)
                                have HUB := Lib.hid (show undone (lq.set h ⟨true, false, a :: la.arcs⟩) = undone ls0 from (undone_set hlh HLD.out rfl).trans HUQ.out)
                                obtain ⟨cdd, hcdd⟩ := STA.out.di.blk
                                have hkd : gk ≠ gd := STA.out.kk.ne_ hcdd (by decide)
                                have RRB := Lib.hid ((((RRA.out.set_ (p := ⟨gd, h * 3, none⟩) hcdd (by decide) (.bool n6)).set_ (p := ⟨gd, h * 3 + 1, none⟩) (hcdd.set_ (h * 3) _) (by decide) (.slice A6 l6 c6)).set_ (p := ⟨gd, h * 3 + 2, none⟩) ((hcdd.set_ (h * 3) _).set_ (h * 3 + 1) _) (by decide) (.slice A6' l6' c6')).set_ (p := ⟨gk, h, none⟩) (((STA.out.kk.far (p := ⟨gd, h * 3, none⟩) hkd _).far (p := ⟨gd, h * 3 + 1, none⟩) hkd _).far (p := ⟨gd, h * 3 + 2, none⟩) hkd _) (by decide) (.bool true))
                                obtain ⟨nh, H1, p1, t1, H2, p2, t2, ⟨x0, x1, x2⟩, ⟨z0, z1, z2⟩, _⟩ := STA.out.di.at_ (i := h) (q := prQ ps lh.arcs) (by unfold priL; rw [List.getElem?_map, hlh]; rfl)
                                have hck := (STA.out.kk.cell h).trans (bools_getA _ h lh.known (by rw [List.getElem?_map, hlh]; rfl))
                                have hfk := STA.out.kk.frozen h
                                obtain ⟨⟨y0, y1, y2⟩, _⟩ := BA.out.three
                                have hgk : gk ≠ gd := hkd
                                clear hS HS hlh hcdd
                                go_wp2
                                go_roundg (L - (j + 1))
                                case measure => omega
                                case rel => exact ⟨j + 1, rfl, by omega, by go_num, RRB, by rw [HS2.out]; exact STB, by rw [HS2.out]; exact HUB, by rw [HS2.out]; exact AVB⟩
                    · obtain rfl : j = L := by omega
                      have hfull : (entP t v).take j = entP t v := List.take_of_length_le (by rw [HLE.out]; exact Nat.le_refl _)
                      have hq := HQ.out
                      rw [hfull] at hq
                      have hd2 := DIS2.out
                      rw [hq] at hd2
                      have hf1 : 1 ≤ f := by have h1 := FU.out; have h2 := HUN.out; omega
                      obtain ⟨f', rfl⟩ : ∃ f', f = f' + 1 := ⟨f - 1, by omega⟩
                      have DISN := Lib.hid hd2
                      have UN := Lib.hid (show undone lq ≤ f' by have h1 := FU.out; have h2 := HUN.out; have h3 := HUQ.out; omega)
                      clear hd2 hq hfull hf1
                      go_wp2
                      go_roundg f'
                      case measure => omega
                      case rel => exact ⟨f', lq, rfl, UN.out, ST6.out, DISN.out⟩
end Go.Proofs.YtekiomanidimnaaGreatDoor
