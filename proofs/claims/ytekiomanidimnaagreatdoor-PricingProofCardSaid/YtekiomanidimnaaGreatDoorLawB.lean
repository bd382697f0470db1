/- waypointlaw42.PricingScale: the walk: it returns true. -/
import Derived.Test.YtekiomanidimnaaGreatDoorLawA
import Derived.Test.YtekiomanidimnaaGreatDoorNums
import Derived.Test.YtekiomanidimnaaGreatDoorMul
import Derived.Test.YtekiomanidimnaaGreatDoorScaleP
import Derived.Test.YtekiomanidimnaaGreatDoorChLen
set_option linter.unusedVariables false
set_option linter.unusedSimpArgs false

namespace Go.Proofs.YtekiomanidimnaaGreatDoor
open Go.RowKit
theorem wp_push3 {o : Oper} {a : Act} {K : Act → World → Prop} {Q : Exit → Act → World → Prop} (w W : World) (t e : TypeId) (s x : Operand)
    (ho : o.op = .call { callee := .builtin .append, args := #[s, x], argTypes := #[t, t] })
    (ht : Tryz.prog.underlying t = some (.slice e)) (hinfo : (Tryz.prog.info? e).map (fun i => (i.zero, i.size, i.bytes)) = some (some (.agg #[.bool false, .slice none 0 0, .slice none 0 0]), 3, 56))
    (B : Nat) (v : Value) (n : Nat) (xs : List Value) (hs : a.eval s = v) (hown : W.ownsRow B e 3 v n xs) (u0 u1 u2 : Value) (h0 : u0.oneCell' = true) (h1 : u1.oneCell' = true) (h2 : u2.oneCell' = true) (g : Nat) (hx : a.eval x = .slice (some ⟨g, 0, none⟩) 1 1)
    (hblk : Blk W g e #[u0, u1, u2]) (hl : n ≤ 1000000000) (hB : B ≤ W.heap.size)
    (h : ∀ v' w', w'.ownsRow B e 3 v' (n + 1) (xs ++ [u0, u1, u2]) → W.grownBy w' v.ownBlock → (∃ A c, v' = .slice A (n + 1) c) → K (a.put o.dst v') w') : o.wp Tryz.prog a W K Q := by
  obtain ⟨ti, hi, hz0, hz1, hz2⟩ := info_parts hinfo
  obtain ⟨v', w', hrun, k1, k2, k3, k4⟩ := run_append_own_at (P := Tryz.prog) W B t o.type e ti _ 3 56 ht hi hz0 hz1 hz2 rfl (by decide) v n xs hown ⟨g, 0, none⟩ 1 1 [u0, u1, u2] rfl (fun j u hj => by
      rw [addr_add, Nat.zero_add]
      exact (hblk.cell j).trans (by simpa using hj)) (fun u hu => by
      simp only [List.mem_cons, List.not_mem_nil, or_false] at hu
      rcases hu with rfl | rfl | rfl
      · exact h0
      · exact h1
      · exact h2) (by unfold maxLen; omega) (by omega) hB
  unfold Oper.wp execOp
  simp only [ho, resolve, invoke, builtin, Sem.run_bind, Sem.run_pure, Result.andThen_ok, List.map_toArray, List.map_cons, List.map_nil, hs, hx, hrun]
  refine h v' w' k1 k2 ?_
  rcases k1.2 with ⟨_, e2⟩ | ⟨g', cap, _, e1, _⟩
  · omega
  · exact ⟨_, cap, e1⟩
theorem frQ_sm {x : Fr} (h : x.wf) : SmQ (frQ x) := by
  obtain ⟨⟨h1, h2⟩, h3, h4⟩ := h
  have hd : frD x ≠ 0 := by unfold frD; split <;> omega
  have hdb : (frD x).natAbs ≤ 128 := by unfold frD; split <;> omega
  unfold SmQ frQ ofQ
  rw [mkQ_abs _ (by omega), mkQ_den _ (by omega)]
  have h5 := Nat.div_le_self x.num.natAbs (x.num.natAbs.gcd (frD x).natAbs)
  have h6 := Nat.div_le_self (frD x).natAbs (x.num.natAbs.gcd (frD x).natAbs)
  omega
theorem SmQ.sz {q : Rat} (h : SmQ q) : SzQ q 1 := by
  have : B32 ^ 1 = 4294967296 := by decide
  unfold SzQ
  rw [this]
  have := h.1
  have := h.2
  omega
theorem SmQ.mul {a b : Rat} (ha : SmQ a) (hb : SmQ b) : SzQ (a * b) 2 := by
  have hd : a.den * b.den ≠ 0 := Nat.mul_ne_zero a.den_nz b.den_nz
  unfold SzQ
  rw [mul_mkQ, mkQ_abs _ hd, mkQ_den _ hd, B32_sq]
  have h1 := Nat.div_le_self (a.num.natAbs * b.num.natAbs) ((a.num.natAbs * b.num.natAbs).gcd (a.den * b.den))
  have h2 := Nat.div_le_self (a.den * b.den) ((a.num.natAbs * b.num.natAbs).gcd (a.den * b.den))
  have h3 : a.num.natAbs * b.num.natAbs ≤ 1000000000 * 1000000000 := Nat.mul_le_mul (Nat.le_of_lt ha.1) (Nat.le_of_lt hb.1)
  have h4 : a.den * b.den ≤ 1000000000 * 1000000000 := Nat.mul_le_mul (Nat.le_of_lt ha.2) (Nat.le_of_lt hb.2)
  omega
theorem cmpQ_self (q : Rat) : cmpQ q q = 0 := by
  unfold cmpQ
  rw [if_neg Rat.lt_irrefl, if_pos rfl]
theorem ofQ_pos {y0 y1 : Nat} (h0 : y0 ≤ 255) (h1 : y1 ≤ 255) : 0 < ofQ (1 + (y0 : Int)) (1 + (y1 : Int)) ∧ SmQ (ofQ (1 + (y0 : Int)) (1 + (y1 : Int))) := by
  have ha : (1 + (y0 : Int)).natAbs = 1 + y0 := by omega
  have hb : (1 + (y1 : Int)).natAbs = 1 + y1 := by omega
  have hd : (1 + y1) ≠ 0 := by omega
  unfold ofQ
  rw [ha, hb, show decide (1 + (y0 : Int) < 0) = false from by simp; omega, show decide (1 + (y1 : Int) < 0) = false from by simp; omega]
  constructor
  · have h2 := mkQ_abs (false != false) (n := 1 + y0) hd
    have h3 := mkQ_neg (false != false) (n := 1 + y0) hd
    have hg : 0 < (1 + y0).gcd (1 + y1) := Nat.gcd_pos_of_pos_right _ (by omega)
    have h4 : 0 < (1 + y0) / (1 + y0).gcd (1 + y1) := Nat.div_pos (Nat.le_of_dvd (by omega) (Nat.gcd_dvd_left _ _)) hg
    have h5 : ¬ (mkQ (false != false) (1 + y0) (1 + y1)).num < 0 := by
      intro h; rw [decide_eq_true h] at h3; cases h3
    have h6 : 0 ≤ mkQ (false != false) (1 + y0) (1 + y1) := Rat.num_nonneg.1 (by omega)
    rcases Rat.le_iff_lt_or_eq.1 h6 with h7 | h7
    · exact h7
    · rw [← h7] at h2; simp at h2; omega
  · unfold SmQ
    rw [mkQ_abs _ hd, mkQ_den _ hd]
    have h5 := Nat.div_le_self (1 + y0) ((1 + y0).gcd (1 + y1))
    have h6 := Nat.div_le_self (1 + y1) ((1 + y0).gcd (1 + y1))
    omega
set_option maxRecDepth 100000 in
set_option maxHeartbeats 4000000 in
theorem scale_law (t : Tp) (AO : Option Addr) (co : Nat) (AL : Option Addr) (cl : Nat) (AD : Option Addr) (down : List Bool) (cd : Nat) (AF : Option Addr) (fr : List Fr) (cf : Nat) (s d : Int) (y0 y1 : Nat) (hy0 : y0 ≤ 255) (hy1 : y1 ≤ 255) (w : World) (h : ArgR w t AO co AL cl AD down cd AF fr cf s d) (hT : Tab w) :
    Calls Tryz.prog 5 #[.agg #[.int .i64 t.nodes, .slice AO t.over.length co, .slice AL t.links.length cl], .agg #[.slice AD down.length cd, .slice AF fr.length cf, .int .i64 s, .int .i64 d], .agg #[.int .u8 (y0 : Int), .int .u8 (y1 : Int)]] w fun e w' => e = .returned (.bool true) ∧ Ext w w' := by
  obtain ⟨b0, b1, b2, e0⟩ := boxes3 w #[.int .i64 t.nodes, .slice AO t.over.length co, .slice AL t.links.length cl] 25 #[.slice AD down.length cd, .slice AF fr.length cf, .int .i64 s, .int .i64 d] 28 #[.int .u8 (y0 : Int), .int .u8 (y1 : Int)] 56
  have H := Lib.hid (h.keep e0)
  have HT := Lib.hid (hT.keep e0)
  have E0 := Lib.hid (e0)
  have BB := Lib.hid (And.intro b0 (And.intro b1 b2))
  clear h hT e0 b0 b1 b2
  go_enter Tryz.func5, Tryz.ntmps5
  go_wp2_with fail
  refine (awake_ok _ HT.out).mono ?_
  rintro e w1 ⟨rfl, x1⟩
  have BB1 := Lib.hid (And.intro (BB.out.1.keep x1) (And.intro (BB.out.2.1.keep x1) (BB.out.2.2.keep x1)))
  have H1 := Lib.hid (H.out.keep x1)
  have E1 := Lib.hid (E0.out.tr x1)
  clear x1 BB H E0
  obtain ⟨⟨i0, i1, i2⟩, _⟩ := BB1.out.1.three
  have j0 := BB1.out.2.1.cell 0
  have j1 := BB1.out.2.1.cell 1
  have j2 := BB1.out.2.1.cell 2
  have j3 := BB1.out.2.1.cell 3
  simp at j0 j1 j2 j3
  go_wp2_with fail
  refine (small_ok t AO co AL cl AD down.length cd AF fr.length cf s d _ (fun h1 h2 => H1.out.top h1 h2)).mono ?_
  rintro e w2 ⟨rfl, x2⟩
  have BB2 := Lib.hid (And.intro (BB1.out.1.keep x2) (And.intro (BB1.out.2.1.keep x2) (BB1.out.2.2.keep x2)))
  have H2 := Lib.hid (H1.out.keep x2)
  have E2 := Lib.hid (E1.out.tr x2)
  clear x2 BB1 H1 E1 i0 i1 i2 j0 j1 j2 j3
  cases hs : smallP t down.length fr.length
  case false =>
    go_wp2
    go_ret
    exact ⟨rfl, E2.out⟩
  case true =>
    obtain ⟨⟨⟨⟨g1, g2⟩, g3⟩, g4⟩, g5⟩ : (((t.links.length ≤ 11 ∧ t.over.length ≤ 20) ∧ down.length ≤ 40) ∧ fr.length ≤ 40) ∧ (validP t = false ∨ t.nodes ≤ 8) := by simpa [smallP] using hs
    clear g5 hs
    have k0 := BB2.out.2.2.cell 0
    have k1 := BB2.out.2.2.cell 1
    simp at k0 k1
    go_wp2_with fail
    refine (ratOf_any (1 + (y0 : Int)) (1 + (y1 : Int)) _ (by omega) (by omega) (by omega) (by omega) (by omega)).mono ?_
    rintro e w3 ⟨nf, AN, nn, cn, AM, nm, cm, rfl, hf, x3⟩
    have xb := (Ext.refl w3).alloc (.cells #[.bool nf, .slice AN nn cn, .slice AM nm cm] 44)
    have X3 := Lib.hid (x3.tr xb)
    have BB3 := Lib.hid (And.intro (BB2.out.1.keep X3.out) (And.intro (BB2.out.2.1.keep X3.out) (Blk.new w3 44 #[.bool nf, .slice AN nn cn, .slice AM nm cm])))
    have H3 := Lib.hid (H2.out.keep X3.out)
    have E3 := Lib.hid (E2.out.tr X3.out)
    have F3 := Lib.hid (hf.keep xb)
    clear x3 xb hf BB2 H2 E2 k0 k1 X3
    have j1 := BB3.out.2.1.cell 1
    simp at j1
    go_wp2_with fail
    refine (frOf_ok AF fr.length cf fr rfl _ H3.out.frs H3.out.fwf (by omega)).mono ?_
    rintro e w4 ⟨A4, c4, rfl, hc4, hq4, x4⟩
    have BB4 := Lib.hid (And.intro (BB3.out.1.keep x4) (And.intro (BB3.out.2.1.keep x4) (BB3.out.2.2.keep x4)))
    have H4 := Lib.hid (H3.out.keep x4)
    have E4 := Lib.hid (E3.out.tr x4)
    have F4 := Lib.hid (F3.out.keep x4)
    have Q4 := Lib.hid hq4
    clear x4 hq4 BB3 H3 E3 F3 j1
    go_wp2_with fail
    refine (numbers_ok A4 fr.length c4 (fr.map frQ) (by simp) _ Q4.out (fun q hq => by
      obtain ⟨x, hx, rfl⟩ := List.mem_map.1 hq
      exact frQ_sm (H4.out.fwf x hx)) (by omega)).mono ?_
    rintro e w5 ⟨A5, c5, rfl, hc5, hq5, x5⟩
    have BB5 := Lib.hid (And.intro (BB4.out.1.keep x5) (And.intro (BB4.out.2.1.keep x5) (BB4.out.2.2.keep x5)))
    have H5 := Lib.hid (H4.out.keep x5)
    have E5 := Lib.hid (E4.out.tr x5)
    have F5 := Lib.hid (F4.out.keep x5)
    have Q5 := Lib.hid hq5
    clear x5 hq5 BB4 H4 E4 F4 Q4
    obtain ⟨ps, hps⟩ : ∃ ps, ps = fr.map frQ := ⟨_, rfl⟩
    have hpl : ps.length = fr.length := by rw [hps]; simp
    have PSZ := Lib.hid (show ∀ q ∈ ps, SmQ q from fun q hq => by
      rw [hps] at hq
      obtain ⟨x, hx, rfl⟩ := List.mem_map.1 hq
      exact frQ_sm (H5.out.fwf x hx))
    rw [← hps] at Q5
    clear hps
    generalize hL : fr.length = L at *
    obtain ⟨F, hF⟩ : ∃ F, F = ofQ (1 + (y0 : Int)) (1 + (y1 : Int)) := ⟨_, rfl⟩
    rw [← hF] at F5
    have FP := Lib.hid (show 0 < F ∧ SmQ F from by rw [hF]; exact ofQ_pos hy0 hy1)
    clear hF
    obtain ⟨lf1, lf2⟩ := F5.out.lens FP.out.2.sz
    go_wp2
    go_loopg [10, 11] L (fun m ot it wr => ∃ (i : Nat) (A : Option Addr) (c : Nat), L - i = m ∧ i ≤ L ∧ it = .int .i64 i ∧ ot = .slice A i c ∧ Hid (OQ QR 44 wr w5.heap.size (.slice A i c) (scaleL F (ps.take i))) ∧ Hid (Ext w5 wr))
    case atStart => exact ⟨0, none, 0, rfl, Nat.zero_le _, rfl, rfl, Lib.hid (by rw [List.take_zero]; exact OQ.nil), Lib.hid (Ext.refl _)⟩
    case round =>
      obtain ⟨i, A, c, rfl, hin, rfl, rfl, OQ1, EX⟩ := hrel
      by_cases hi : i < L
      · obtain ⟨x, hx⟩ : ∃ x, ps[i]? = some x := ⟨_, List.getElem?_eq_getElem (by omega)⟩
        have sm := PSZ.out x (List.mem_of_getElem? hx)
        have EX' : Hid (Ext w5 wr.drew) := EX.out.drewN 1
        obtain ⟨b, o, nx, X1, m1, d1, X2, m2, d2, hA5, hb, i0', i1', i2', hQ'⟩ := Q5.out.at_ hx
        subst hA5
        have hQ := hQ'.keep EX'.out
        have IC := Lib.hid (And.intro i0' (And.intro i1' i2'))
        have i0 := (EX'.out.cell (p := ⟨b, o + i * 3, none⟩) hb).trans i0'
        have i1 := (EX'.out.cell (p := ⟨b, o + i * 3 + 1, none⟩) hb).trans i1'
        have i2 := (EX'.out.cell (p := ⟨b, o + i * 3 + 2, none⟩) hb).trans i2'
        clear i0' i1' i2' hQ'
        obtain ⟨lx1, lx2⟩ := hQ.lens sm.sz
        have BF := Lib.hid (BB5.out.2.2.keep EX'.out)
        obtain ⟨⟨k0, k1, k2⟩, _⟩ := BF.out.three
        have TK := Lib.hid (show scaleL F (ps.take (i + 1)) = scaleL F (ps.take i) ++ [x * F] by unfold scaleL; rw [List.take_add_one, hx]; simp)
        have hlt : (scaleL F (ps.take i)).length = i := by unfold scaleL; rw [List.length_map, List.length_take]; omega
        obtain ⟨css, q1, q2, q3, q4⟩ := OQ1.out
        rw [hlt] at q1 q3
        have OW := Lib.hid (And.intro q1 (And.intro q2 (And.intro q3 q4)))
        have HQ := Lib.hid (And.intro hQ (F5.out.keep EX'.out))
        have XD := Lib.hid (show Ext wr wr.drew from (Ext.refl wr).drewN 1)
        clear hx q1 q2 q3 q4 OQ1 hQ sm
        go_wp2
        go_region_held3 (fun w' => w'.cell? ⟨b, o + i * 3, none⟩ = some (.bool nx) ∧ w'.cell? ⟨b, o + i * 3 + 1, none⟩ = some (.slice X1 m1 d1) ∧ w'.cell? ⟨b, o + i * 3 + 2, none⟩ = some (.slice X2 m2 d2) ∧ w'.cell? ⟨w3.heap.size, 0, none⟩ = some (.bool nf) ∧ w'.cell? ⟨w3.heap.size, 1, none⟩ = some (.slice AN nn cn) ∧ w'.cell? ⟨w3.heap.size, 2, none⟩ = some (.slice AM nm cm))
          (first | with_reducible exact ⟨i0, i1, i2, k0, k1, k2⟩ | with_reducible exact ⟨cell_alloc_of i0 _, cell_alloc_of i1 _, cell_alloc_of i2 _, cell_alloc_of k0 _, cell_alloc_of k1 _, cell_alloc_of k2 _⟩ | fail)
          (first
            | (go_at_call 26
               refine (ratMul_any nx nf X1 m1 d1 X2 m2 d2 AN nn cn AM nm cm x F _ HQ.out.1 HQ.out.2 (by omega) (by omega) (by omega) (by omega)).mono ?_
               rintro e w6 ⟨n6, A6, l6, c6, A6', l6', c6', rfl, h6, x6⟩
               have X6 := Lib.hid x6
               have E6 := Lib.hid (EX'.out.tr x6)
               have i0 := (E6.out.cell (p := ⟨b, o + i * 3, none⟩) hb).trans IC.out.1
               have i1 := (E6.out.cell (p := ⟨b, o + i * 3 + 1, none⟩) hb).trans IC.out.2.1
               have i2 := (E6.out.cell (p := ⟨b, o + i * 3 + 2, none⟩) hb).trans IC.out.2.2
               obtain ⟨⟨k0, k1, k2⟩, _⟩ := (BF.out.keep x6).three
               have OW6 := Lib.hid (OW.out.2.2.1.kept (grown_ext (XD.out.tr x6)) (own_none _))
               have R6 := Lib.hid h6
               clear x6 h6)
            | (rw [if_pos (by rfl)]
               refine wp_push3 w6 (w6.alloc (.cells #[.bool n6, .slice A6 l6 c6, .slice A6' l6' c6'] 44)) 47 44 (.tmp 46) (.tmp 53) (by rfl) Tryz.underlying47 Tryz.info44 w5.heap.size (.slice A i c) i css.flatten (by rfl) (OW6.out.alloc _) _ _ _ rfl rfl rfl w6.heap.size (by rfl) (Blk.new w6 _ _) (by omega) (Nat.le_trans E6.out.size (by simp)) ?_
               intro v7 w7 own7 grow7 hform
               have E7 := Lib.hid (show Ext w5 w7 from Below.grown (E6.out.alloc (.cells #[.bool n6, .slice A6 l6 c6, .slice A6' l6' c6'] 44)) grow7 (Nat.le_trans E6.out.size (by simp)) (fun k hk => (OW6.out.lt k hk).1))
               have i0 := (E7.out.cell (p := ⟨b, o + i * 3, none⟩) hb).trans IC.out.1
               have i1 := (E7.out.cell (p := ⟨b, o + i * 3 + 1, none⟩) hb).trans IC.out.2.1
               have i2 := (E7.out.cell (p := ⟨b, o + i * 3 + 2, none⟩) hb).trans IC.out.2.2
               obtain ⟨⟨k0, k1, k2⟩, _⟩ := (BB5.out.2.2.keep E7.out).three
               obtain ⟨A7, c7, rfl⟩ := hform)
            | fail)
        have x6a := (Ext.refl w6).alloc (.cells #[.bool n6, .slice A6 l6 c6, .slice A6' l6' c6'] 44)
        have hoh := own_heap (OW6.out.alloc (.cells #[.bool n6, .slice A6 l6 c6, .slice A6' l6' c6'] 44))
        have OQ7 := Lib.hid (show OQ QR 44 w7 w5.heap.size (.slice A7 (i + 1) c7) (scaleL F (ps.take (i + 1))) from by
          rw [TK.out]
          refine OQ.push (w' := w7) (by rw [hlt]; exact OW.out.1) OW.out.2.1 rfl (fun j q hq => ?_) ?_ (by rw [hlt]; exact own7)
          · obtain ⟨cs, z1, z2⟩ := OW.out.2.2.2 j q hq
            exact ⟨cs, z1, (((z2.keep XD.out).keep X6.out).keep x6a).grownK grow7 hoh (by decide)⟩
          · exact QR.grownK ⟨n6, A6, l6, c6, A6', l6', c6', rfl, R6.out.keep x6a⟩ grow7 hoh (by decide))
        clear own7 grow7 x6a hoh
        go_wp2
        go_roundg (L - (i + 1))
        case measure => omega
        case rel => exact ⟨i + 1, A7, c7, rfl, by omega, by go_num, rfl, OQ7, E7⟩
      · obtain rfl : i = L := by omega
        have hq := OQ1.out
        rw [List.take_of_length_le (by omega)] at hq
        obtain ⟨A9, c9, e9, hc9, hq9⟩ := hq.list
        have hsl : (scaleL F ps).length = i := by unfold scaleL; rw [List.length_map]; exact hpl
        rw [hsl] at e9 hc9
        injection e9 with e1 e2 e3
        subst e1 e3
        have SQ := Lib.hid (show QL wr A (scaleL F ps) from hq9)
        have SZ2 := Lib.hid (show ∀ q ∈ scaleL F ps, SzQ q 2 from fun q hq => by
          unfold scaleL at hq
          obtain ⟨x, hx, rfl⟩ := List.mem_map.1 hq
          exact (PSZ.out x hx).mul FP.out.2)
        have BB6 := Lib.hid (And.intro (BB5.out.1.keep EX.out) (And.intro (BB5.out.2.1.keep EX.out) (BB5.out.2.2.keep EX.out)))
        have H6 := Lib.hid (H5.out.keep EX.out)
        have E6 := Lib.hid (E5.out.tr EX.out)
        have F6 := Lib.hid (F5.out.keep EX.out)
        have Q6 := Lib.hid (Q5.out.keep EX.out)
        clear hq9 hq OQ1 e2
        obtain ⟨⟨i0, i1, i2⟩, _⟩ := BB6.out.1.three
        have j0 := BB6.out.2.1.cell 0
        have j2 := BB6.out.2.1.cell 2
        have j3 := BB6.out.2.1.cell 3
        simp at j0 j2 j3
        go_wp2_with fail
        refine (cheapest_ok' t AO co AL cl AD cd down A5 i c5 ps hpl 1 s d _ (H6.out.top g1 g2) H6.out.dn (by omega) H6.out.ld Q6.out (by omega) (by decide) (by decide) (fun q hq => (PSZ.out q hq).sz)).mono ?_
        rintro e w7 ⟨A7, c7, n7, B7, k7, d7, B7', k7', d7', rfl, hc7, hr7, hp7, x7⟩
        have hrl := ch_len t down ps s d g1
        have CS := Lib.hid (chP_scale FP.out.1 t down ps s d)
        generalize hR : chP t down ps s d = R at *
        obtain ⟨r, ec⟩ := R
        simp only at hc7 hr7 hp7 hrl
        have xb := (Ext.refl w7).alloc (.cells #[.bool n7, .slice B7 k7 d7, .slice B7' k7' d7'] 44)
        have X7 := Lib.hid (x7.tr xb)
        have BB7 := Lib.hid (And.intro (BB6.out.1.keep X7.out) (And.intro (BB6.out.2.1.keep X7.out) (And.intro (BB6.out.2.2.keep X7.out) (Blk.new w7 44 #[.bool n7, .slice B7 k7 d7, .slice B7' k7' d7']))))
        have H7 := Lib.hid (H6.out.keep X7.out)
        have E7 := Lib.hid (E6.out.tr X7.out)
        have F7 := Lib.hid (F6.out.keep X7.out)
        have SQ7 := Lib.hid (SQ.out.keep X7.out)
        have R7 := Lib.hid (And.intro hc7 (And.intro (hr7.keep xb) (hp7.keep xb)))
        clear x7 xb X7 hc7 hr7 hp7 BB6 H6 E6 F6 SQ Q6 i0 i1 i2 j0 j2 j3 hR
        obtain ⟨⟨i0, i1, i2⟩, _⟩ := BB7.out.1.three
        have j0 := BB7.out.2.1.cell 0
        have j2 := BB7.out.2.1.cell 2
        have j3 := BB7.out.2.1.cell 3
        simp at j0 j2 j3
        have hch := cheapest_ok' t AO co AL cl AD cd down A i c (scaleL F ps) hsl 2 s d _ (H7.out.top g1 g2) H7.out.dn (by omega) H7.out.ld SQ7.out (by omega) (by decide) (by decide) SZ2.out
        rw [CS.out] at hch
        have HCH := Lib.hid hch
        clear hch
        go_wp2_with fail
        refine (HCH.out).mono ?_
        rintro e w8 ⟨A8, c8, n8, B8, k8, d8, B8', k8', d8', rfl, hc8, hr8, hp8, x8⟩
        simp only at hc8 hr8 hp8
        have xb := (Ext.refl w8).alloc (.cells #[.bool n8, .slice B8 k8 d8, .slice B8' k8' d8'] 44)
        have X8 := Lib.hid (x8.tr xb)
        have BB8 := Lib.hid (And.intro (BB7.out.2.2.1.keep X8.out) (And.intro (BB7.out.2.2.2.keep X8.out) (Blk.new w8 44 #[.bool n8, .slice B8 k8 d8, .slice B8' k8' d8'])))
        have E8 := Lib.hid (E7.out.tr X8.out)
        have F8 := Lib.hid (F7.out.keep X8.out)
        have R8 := Lib.hid (And.intro (And.intro R7.out.1 (And.intro (R7.out.2.1.keep X8.out) (R7.out.2.2.keep X8.out))) (And.intro hc8 (And.intro (hr8.keep xb) (hp8.keep xb))))
        clear x8 xb X8 hc8 hr8 hp8 BB7 H7 E7 F7 SQ7 R7 i0 i1 i2 j0 j2 j3 HCH
        have hec : ((ec : Int) == ec) = true := by simp
        have hpr := prQ_scale F ps r
        have ZP := (SzQ.pr (P := 1) (by decide) (fun q hq => (PSZ.out q hq).sz) r)
        obtain ⟨lp1, lp2⟩ := R8.out.1.2.2.lens ZP
        have zs := (SzQ.pr (P := 2) (by decide) SZ2.out r)
        obtain ⟨ls1, ls2⟩ := R8.out.2.2.2.lens zs
        have HPR := Lib.hid hpr
        have ZS := Lib.hid zs
        clear hpr ZP zs
        go_upto_region 14 with fail
        generalize w8.alloc (.cells #[.bool n8, .slice B8 k8 d8, .slice B8' k8' d8'] 44) = W8 at *
        have XD := Lib.hid (show Ext W8 W8.drew from (Ext.refl W8).drewN 1)
        have G8 := Lib.hid (And.intro (BB8.out.1.keep XD.out) (And.intro (BB8.out.2.1.keep XD.out) (BB8.out.2.2.keep XD.out)))
        have T8 := Lib.hid (And.intro (And.intro (R8.out.1.2.1.keep XD.out) (R8.out.1.2.2.keep XD.out)) (And.intro (R8.out.2.2.1.keep XD.out) (R8.out.2.2.2.keep XD.out)))
        have V8 := Lib.hid (And.intro (E8.out.tr XD.out) (F8.out.keep XD.out))
        have L8 := Lib.hid (And.intro R8.out.1.1 R8.out.2.1)
        obtain ⟨⟨i0, i1, i2⟩, _⟩ := G8.out.1.three
        obtain ⟨⟨j0, j1, j2⟩, _⟩ := G8.out.2.1.three
        obtain ⟨⟨k0, k1, k2⟩, _⟩ := G8.out.2.2.three
        clear BB8 R8 E8 F8 XD
        go_region_held3 (fun w' => w'.cell? ⟨w3.heap.size, 0, none⟩ = some (.bool nf) ∧ w'.cell? ⟨w3.heap.size, 1, none⟩ = some (.slice AN nn cn) ∧ w'.cell? ⟨w3.heap.size, 2, none⟩ = some (.slice AM nm cm) ∧ w'.cell? ⟨w7.heap.size, 0, none⟩ = some (.bool n7) ∧ w'.cell? ⟨w7.heap.size, 1, none⟩ = some (.slice B7 k7 d7) ∧ w'.cell? ⟨w7.heap.size, 2, none⟩ = some (.slice B7' k7' d7') ∧ w'.cell? ⟨w8.heap.size, 0, none⟩ = some (.bool n8) ∧ w'.cell? ⟨w8.heap.size, 1, none⟩ = some (.slice B8 k8 d8) ∧ w'.cell? ⟨w8.heap.size, 2, none⟩ = some (.slice B8' k8' d8'))
          (first | with_reducible exact ⟨i0, i1, i2, j0, j1, j2, k0, k1, k2⟩ | fail)
          (first
            | (go_at_call 23
               refine (sameInts_ok A7 A8 c7 c8 r r _ T8.out.1.1.rd T8.out.2.1.rd L8.out.1 L8.out.2 (by omega) (by omega)).mono ?_
               rintro e w9 ⟨rfl, x9⟩
               rw [show decide (r = r) = true from by simp]
               have G9 := Lib.hid (And.intro (G8.out.1.keep x9) (And.intro (G8.out.2.1.keep x9) (G8.out.2.2.keep x9)))
               have T9 := Lib.hid (And.intro (And.intro (T8.out.1.1.keep x9) (T8.out.1.2.keep x9)) (And.intro (T8.out.2.1.keep x9) (T8.out.2.2.keep x9)))
               have V9 := Lib.hid (And.intro (V8.out.1.tr x9) (V8.out.2.keep x9))
               obtain ⟨⟨i0, i1, i2⟩, _⟩ := G9.out.1.three
               obtain ⟨⟨j0, j1, j2⟩, _⟩ := G9.out.2.1.three
               obtain ⟨⟨k0, k1, k2⟩, _⟩ := G9.out.2.2.three)
            | (go_at_call 26
               refine (ratMul_any n7 nf B7 k7 d7 B7' k7' d7' AN nn cn AM nm cm (prQ ps r) F _ T9.out.1.2 V9.out.2 (by omega) (by omega) (by omega) (by omega)).mono ?_
               rintro e w10 ⟨n10, B10, k10, d10, B10', k10', d10', rfl, h10, x10⟩
               have M10 := Lib.hid h10
               have G10 := Lib.hid (And.intro (G9.out.1.keep x10) (And.intro (G9.out.2.1.keep x10) (G9.out.2.2.keep x10)))
               have T10 := Lib.hid (And.intro (And.intro (T9.out.1.1.keep x10) (T9.out.1.2.keep x10)) (And.intro (T9.out.2.1.keep x10) (T9.out.2.2.keep x10)))
               have V10 := Lib.hid (And.intro (V9.out.1.tr x10) (V9.out.2.keep x10))
               obtain ⟨⟨i0, i1, i2⟩, _⟩ := G10.out.1.three
               obtain ⟨⟨j0, j1, j2⟩, _⟩ := G10.out.2.1.three
               obtain ⟨⟨k0, k1, k2⟩, _⟩ := G10.out.2.2.three)
            | (go_at_call 27
               have hm10 := M10.out
               rw [← HPR.out] at hm10
               have hl10 := hm10.lens ZS.out
               refine (ratCmp_any n10 n8 B10 k10 d10 B10' k10' d10' B8 k8 d8 B8' k8' d8' _ _ _ hm10 T10.out.2.2 (by omega) (by omega) (by omega) (by omega)).mono ?_
               rintro e w11 ⟨rfl, x11⟩
               rw [show cmpQ (prQ (scaleL F ps) r) (prQ (scaleL F ps) r) = 0 from cmpQ_self _]
               have G11 := Lib.hid (And.intro (G10.out.1.keep x11) (And.intro (G10.out.2.1.keep x11) (G10.out.2.2.keep x11)))
               have T11 := Lib.hid (And.intro (And.intro (T10.out.1.1.keep x11) (T10.out.1.2.keep x11)) (And.intro (T10.out.2.1.keep x11) (T10.out.2.2.keep x11)))
               have V11 := Lib.hid (And.intro (V10.out.1.tr x11) (V10.out.2.keep x11))
               obtain ⟨⟨i0, i1, i2⟩, _⟩ := G11.out.1.three
               obtain ⟨⟨j0, j1, j2⟩, _⟩ := G11.out.2.1.three
               obtain ⟨⟨k0, k1, k2⟩, _⟩ := G11.out.2.2.three)
            | fail)
        go_wp2
        go_ret
        exact ⟨rfl, V11.out.1⟩
end Go.Proofs.YtekiomanidimnaaGreatDoor
