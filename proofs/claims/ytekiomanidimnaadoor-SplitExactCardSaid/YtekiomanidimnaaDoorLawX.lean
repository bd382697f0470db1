/- waypointlaw46.SplitExact: the walk: it returns true. -/
import Derived.Test.YtekiomanidimnaaDoorExaP
import Derived.Test.YtekiomanidimnaaDoorAwS
import Derived.Test.YtekiomanidimnaaDoorMV
set_option linter.unusedVariables false
set_option linter.unusedSimpArgs false

namespace Go.Proofs.YtekiomanidimnaaDoor
open Go.RowKit
def u8s (l : List Nat) : List Value := l.map fun x : Nat => Value.int .u8 (x : Int)
theorem Rd.u8 {w : World} {A : Option Addr} {l : List Nat} (h : Rd w A (u8s l)) {k x : Nat} (hx : l[k]? = some x) : ∃ b o : Nat, A = some ⟨b, o, none⟩ ∧ b < w.heap.size ∧ w.cell? ⟨b, o + k, none⟩ = some (.int .u8 (x : Int)) := by
  have hk := (List.getElem?_eq_some_iff.1 hx).1
  obtain ⟨b, o, e, hb, hc⟩ := h.at_ (i := k) (by unfold u8s; simpa using hk)
  refine ⟨b, o, e, hb, ?_⟩
  rw [hc k (by unfold u8s; simpa using hk)]
  unfold u8s
  rw [List.getElem?_map, hx]; rfl
theorem wp_pushI {o : Oper} {a : Act} {K : Act → World → Prop} {Q : Exit → Act → World → Prop} (W : World) (s x : Operand)
    (ho : o.op = .call { callee := .builtin .append, args := #[s, x], argTypes := #[34, 34] })
    (B : Nat) (v : Value) (n : Nat) (xs : List Value) (hs : a.eval s = v) (hown : W.ownsRow B 3 1 v n xs) (m : Nat) (g : Nat) (hx : a.eval x = .slice (some ⟨g, 0, none⟩) 1 1)
    (hblk : Blk W g 3 #[.int .i64 (m : Int)]) (hl : n ≤ 1000000000) (hB : B ≤ W.heap.size)
    (h : ∀ v' w', w'.ownsRow B 3 1 v' (n + 1) (xs ++ [.int .i64 (m : Int)]) → W.grownBy w' v.ownBlock → (∃ A c, v' = .slice A (n + 1) c) → K (a.put o.dst v') w') : o.wp Tryd.prog a W K Q := by
  obtain ⟨ti, hi, hz0, hz1, hz2⟩ := info_parts Tryd.info3
  obtain ⟨v', w', hrun, k1, k2, k3, k4⟩ := run_append_own_at (P := Tryd.prog) W B 34 o.type 3 ti _ 1 8 Tryd.underlying34 hi hz0 hz1 hz2 rfl (by decide) v n xs hown ⟨g, 0, none⟩ 1 1 [.int .i64 (m : Int)] rfl (fun j u hj => by
      rw [addr_add, Nat.zero_add]
      exact (hblk.cell j).trans (by simpa using hj)) (fun u hu => by
      simp only [List.mem_cons, List.not_mem_nil, or_false] at hu
      subst hu
      rfl) (by unfold maxLen; omega) (by omega) hB
  unfold Oper.wp execOp
  simp only [ho, resolve, invoke, builtin, Sem.run_bind, Sem.run_pure, Result.andThen_ok, List.map_toArray, List.map_cons, List.map_nil, hs, hx, hrun]
  refine h v' w' k1 k2 ?_
  rcases k1.2 with ⟨_, e2⟩ | ⟨g', cap, _, e1, _⟩
  · omega
  · exact ⟨_, cap, e1⟩
theorem own_apartX {w : World} {B1 B2 s1 s2 n1 n2 : Nat} {e1 e2 : TypeId} {v1 v2 : Value} {xs1 xs2 : List Value} (h1 : w.ownsRow B1 e1 s1 v1 n1 xs1) (h2 : w.ownsRow B2 e2 s2 v2 n2 xs2) (hne : e1 ≠ e2) : v1.ownBlock = none ∨ v1.ownBlock ≠ v2.ownBlock := by
  cases hk : v1.ownBlock with
  | none => exact .inl rfl
  | some k =>
    right
    intro e
    obtain ⟨c1, f1, g1⟩ := own_heap h1 k hk
    obtain ⟨c2, f2, g2⟩ := own_heap h2 k e.symm
    rw [g1] at g2
    injection g2 with g2
    injection g2 with _ g2
    exact hne g2
/-- Both rows of SplitExact, under way. -/
structure ExT (wB wr : World) (vs vw : Value) (F : Rat) (ws : List Nat) (i : Nat) : Prop where
  oq : OQ QR 29 wr wB.heap.size vs (timesL F (ws.take i))
  oi : wr.ownsRow wB.heap.size 3 1 vw i (ints (ws.take i))
  ext : Ext wB wr
theorem ExT.keep {wB wr w' : World} {vs vw : Value} {F : Rat} {ws : List Nat} {i : Nat} (h : ExT wB wr vs vw F ws i) (hx : Ext wr w') : ExT wB w' vs vw F ws i :=
  ⟨h.oq.keep (fun _ _ _ _ k hx => QR.keep k hx) hx, h.oi.kept (grown_ext hx) (own_none _), h.ext.tr hx⟩
/-- A number is appended. -/
theorem ExT.pushQ {wB W w' : World} {A : Option Addr} {c : Nat} {vs' vw : Value} {F : Rat} {ws : List Nat} {i x : Nat} {n : Bool} {A6 : Option Addr} {l6 c6 : Nat} {A6' : Option Addr} {l6' c6' : Nat} {css : List (List Value)}
    (hi : i ≤ ws.length) (hx : ws[i]? = some x) (h1 : css.length = i) (h2 : ∀ cs ∈ css, cs.length = 3) (h4 : ∀ (j : Nat) (q : Rat), (timesL F (ws.take i))[j]? = some q → ∃ cs, css[j]? = some cs ∧ QR W cs q)
    (hown : W.ownsRow wB.heap.size 29 3 (.slice A i c) i css.flatten) (hoi : W.ownsRow wB.heap.size 3 1 vw i (ints (ws.take i))) (hext : Ext wB W) (hr : RatR W n A6 l6 c6 A6' l6' c6' (F * ((x : Int) : Rat)))
    (own' : w'.ownsRow wB.heap.size 29 3 vs' (i + 1) (css.flatten ++ [.bool n, .slice A6 l6 c6, .slice A6' l6' c6'])) (grow : W.grownBy w' (Value.slice A i c).ownBlock) :
    OQ QR 29 w' wB.heap.size vs' (timesL F (ws.take (i + 1))) ∧ w'.ownsRow wB.heap.size 3 1 vw i (ints (ws.take i)) ∧ Ext wB w' := by
  have hoh := own_heap hown
  have TK : timesL F (ws.take (i + 1)) = timesL F (ws.take i) ++ [F * ((x : Int) : Rat)] := by unfold timesL; rw [List.take_add_one, hx]; simp
  have hlt : (timesL F (ws.take i)).length = i := by rw [timesL_len, List.length_take]; omega
  refine ⟨?_, hoi.kept grow (own_apartX hoi hown (by decide)), Below.grown hext grow hext.size (fun k hk => (hown.lt k hk).1)⟩
  rw [TK]
  refine OQ.push (w' := w') (by rw [hlt]; exact h1) h2 rfl (fun j q hq => ?_) ?_ (by rw [hlt]; exact own')
  · obtain ⟨cs, z1, z2⟩ := h4 j q hq
    exact ⟨cs, z1, z2.grownK grow hoh (by decide)⟩
  · exact QR.grownK ⟨n, A6, l6, c6, A6', l6', c6', rfl, hr⟩ grow hoh (by decide)
/-- A weight is appended. -/
theorem ExT.pushW {wB W w' : World} {A2 : Option Addr} {c2 : Nat} {vs vw' : Value} {F : Rat} {ws : List Nat} {i x : Nat} (hx : ws[i]? = some x) (hoq : OQ QR 29 W wB.heap.size vs (timesL F (ws.take (i + 1)))) (hown : W.ownsRow wB.heap.size 3 1 (.slice A2 i c2) i (ints (ws.take i))) (hext : Ext wB W)
    (own' : w'.ownsRow wB.heap.size 3 1 vw' (i + 1) (ints (ws.take i) ++ [.int .i64 (x : Int)])) (grow : W.grownBy w' (Value.slice A2 i c2).ownBlock) : ExT wB w' vs vw' F ws (i + 1) := by
  have hoh := own_heap hown
  obtain ⟨css, q1, q2, q3, q4⟩ := hoq
  refine ⟨⟨css, q1, q2, q3.kept grow (own_apartX q3 hown (by decide)), fun j q hq => ?_⟩, ?_, Below.grown hext grow hext.size (fun k hk => (hown.lt k hk).1)⟩
  · obtain ⟨cs, z1, z2⟩ := q4 j q hq
    exact ⟨cs, z1, z2.grownK grow hoh (by decide)⟩
  · have : ints (ws.take (i + 1)) = ints (ws.take i) ++ [.int .i64 (x : Int)] := by
      rw [List.take_add_one, hx]; simp [ints]
    rw [this]; exact own'
theorem own_rdTX {w : World} {B n c s : Nat} {e : TypeId} {A : Option Addr} {xs : List Value} (h : w.ownsRow B e s (.slice A n c) n xs) (hs : 0 < s) : RdT w e A xs ∧ n ≤ c := by
  have hl := h.1
  rcases h.2 with ⟨h3, h4⟩ | ⟨g', cap, cur, h3, h4, h5, h6, h7, h8, h9⟩
  · have : xs = [] := List.eq_nil_of_length_eq_zero (by rw [hl, h4, Nat.zero_mul])
    subst this
    exact ⟨RdT.nil _ _ _, by omega⟩
  · injection h3 with e1 e2 e3
    refine ⟨fun _ => ⟨g', 0, cur, (0, 0), e1, h5, fun i hi => ?_⟩, by omega⟩
    rw [Nat.zero_add, ← h9, List.getElem?_take, if_pos (by omega)]
    simp
set_option maxRecDepth 100000 in
set_option maxHeartbeats 8000000 in
theorem exact_law (AW : Option Addr) (n cw : Nat) (ws : List Nat) (hn : ws.length = n) (hb : ∀ x ∈ ws, x ≤ 255) (y0 y1 : Nat) (hy0 : y0 ≤ 255) (hy1 : y1 ≤ 255) (w : World) (hr : Rd w AW (u8s ws)) (hT : Tab w) :
    Calls Tryd.prog 3 #[.slice AW n cw, .agg #[.int .u8 (y0 : Int), .int .u8 (y1 : Int)]] w fun e w' => e = .returned (.bool true) ∧ Ext w w' := by
  obtain ⟨b0, e0⟩ := boxes1 w #[.int .u8 (y0 : Int), .int .u8 (y1 : Int)] 23
  have HR := Lib.hid (hr.keep e0)
  have HT := Lib.hid (hT.keep e0)
  have HN := Lib.hid (hn)
  have HB := Lib.hid (hb)
  have E0 := Lib.hid (e0)
  have BB := Lib.hid (b0)
  clear hr hT e0 b0 hn hb
  go_enter Tryd.func3, Tryd.ntmps3
  go_wp2_with fail
  refine (lawake_ok _ HT.out).mono ?_
  rintro e w1 ⟨rfl, x1⟩
  have BB1 := Lib.hid (BB.out.keep x1)
  have X1 := Lib.hid x1
  have E1 := Lib.hid (E0.out.tr x1)
  clear x1 BB E0
  by_cases h1 : n ≤ 64
  case neg =>
    have d1 : decide ((n : Int) > 64) = true := by simp; omega
    go_wp2
    go_ret
    exact ⟨rfl, E1.out⟩
  case pos =>
    have d1 : decide ((n : Int) > 64) = false := by simp; omega
    have k0 := BB1.out.cell 0
    have k1 := BB1.out.cell 1
    simp at k0 k1
    go_wp2_with fail
    refine (ratOf_any (1 + (y0 : Int)) (1 + (y1 : Int)) _ (by omega) (by omega) (by omega) (by omega) (by omega)).mono ?_
    rintro e w3 ⟨nf, AN, nn, cn, AM, nm, cm, rfl, hf, x3⟩
    have xb := (Ext.refl w3).alloc (.cells #[.bool nf, .slice AN nn cn, .slice AM nm cm] 29)
    have X3 := Lib.hid ((X1.out.tr x3).tr xb)
    have B3 := Lib.hid (Blk.new w3 29 #[.bool nf, .slice AN nn cn, .slice AM nm cm])
    have F3 := Lib.hid (hf.keep xb)
    have E3 := Lib.hid ((E1.out.tr x3).tr xb)
    clear x3 xb hf BB1 E1 k0 k1 X1
    obtain ⟨F, hF⟩ : ∃ F, F = ofQ (1 + (y0 : Int)) (1 + (y1 : Int)) := ⟨_, rfl⟩
    rw [← hF] at F3
    have FP := Lib.hid (show 0 < F ∧ SmQ F from by rw [hF]; exact ofQ_pos hy0 hy1)
    clear hF
    obtain ⟨lf1, lf2⟩ := F3.out.lens FP.out.2.sz
    go_wp2
    generalize w3.alloc (.cells #[.bool nf, .slice AN nn cn, .slice AM nm cm] 29) = wB at *
    generalize w3.heap.size = g3 at *
    go_loopg [7, 8, 9, 10] n (fun m st wt ut it wr => ∃ (i : Nat) (A : Option Addr) (c : Nat) (A2 : Option Addr) (c2 : Nat), n - i = m ∧ i ≤ n ∧ it = .int .i64 i ∧ st = .slice A i c ∧ wt = .slice A2 i c2 ∧ ut = .int .i64 (nsum (ws.take i) : Nat) ∧ Hid (ExT wB wr (.slice A i c) (.slice A2 i c2) F ws i))
    case atStart => exact ⟨0, none, 0, none, 0, rfl, Nat.zero_le _, rfl, rfl, rfl, rfl, Lib.hid ⟨by rw [List.take_zero]; exact OQ.nil, by rw [List.take_zero]; exact World.ownsRow_nil _ _ _ _, Ext.refl _⟩⟩
    case round =>
      obtain ⟨i, A, c, A2, c2, rfl, hin, rfl, rfl, rfl, rfl, L⟩ := hrel
      have hbd := nsum_bound (ws.take i) (fun x hx => HB.out x (List.mem_of_mem_take hx))
      rw [List.length_take] at hbd
      have hb2 : nsum (ws.take i) ≤ 16320 := by omega
      clear hbd
      by_cases hi : i < n
      · obtain ⟨x, hx⟩ : ∃ x, ws[i]? = some x := ⟨_, List.getElem?_eq_getElem (by rw [HN.out]; exact hi)⟩
        have hx5 : x ≤ 255 := HB.out x (List.mem_of_getElem? hx)
        obtain ⟨bp, op, hAW, hbp, hcp⟩ := HR.out.u8 hx
        subst hAW
        have iN : (i : Int) < (n : Int) := by omega
        have hwu : IntKind.i64.wrap (x : Int) = (x : Int) := IntWalk.i64_in _ (by omega)
        have SN := Lib.hid (nsum_next ws i x hx)
        have HX := Lib.hid hx
        have K12 := Lib.hid (show ∀ W, Ext wB W → (W.cell? ⟨g3, 0, none⟩ = some (.bool nf) ∧ W.cell? ⟨g3, 1, none⟩ = some (.slice AN nn cn) ∧ W.cell? ⟨g3, 2, none⟩ = some (.slice AM nm cm) ∧ W.cell? ⟨bp, op + i, none⟩ = some (.int .u8 (x : Int))) from fun W hW => by
          obtain ⟨⟨z0, z1, z2⟩, _⟩ := (B3.out.keep hW).three
          exact ⟨z0, z1, z2, ((X3.out.tr hW).cell (p := ⟨bp, op + i, none⟩) hbp).trans hcp⟩)
        have FR := Lib.hid (F3.out.keep L.out.ext)
        have hle : i ≤ ws.length := by rw [HN.out]; omega
        have HLE := Lib.hid hle
        obtain ⟨css, q1, q2, q3, q4⟩ := L.out.oq
        have hlt : (timesL F (ws.take i)).length = i := by rw [timesL_len, List.length_take]; omega
        rw [hlt] at q1 q3
        have OW := Lib.hid (And.intro q1 (And.intro q2 (And.intro q3 q4)))
        have OI := Lib.hid L.out.oi
        have EXT := Lib.hid L.out.ext
        have hBr : wB.heap.size ≤ wr.heap.size := EXT.out.size
        clear q1 q2 q3 q4 hx hcp hbp hle hlt L
        generalize nsum (ws.take i) = tot at *
        go_upto_region 12 with fail
        go_cut [7, 8] (fun s s2 wx => ∃ (A7 : Option Addr) (c7 : Nat) (A8 : Option Addr) (c8 : Nat), s = .slice A7 (i + 1) c7 ∧ s2 = .slice A8 (i + 1) c8 ∧ Hid (ExT wB wx (.slice A7 (i + 1) c7) (.slice A8 (i + 1) c8) F ws (i + 1)) ∧ Hid (Ext wB wx))
        case first =>
          have XD := Lib.hid (show Ext wr wr.drew from (Ext.refl wr).drewN 1)
          have XA := Lib.hid (show Ext wr (wr.alloc (.cells #[.int .i64 (x : Int)] 3)).drew from ((Ext.refl wr).alloc _).drewN 1)
          have BN := Lib.hid (show Blk (wr.alloc (.cells #[.int .i64 (x : Int)] 3)).drew wr.heap.size 3 #[.int .i64 (x : Int)] from Blk.new wr _ _)
          obtain ⟨i0, i1, i2, i3⟩ := K12.out _ (EXT.out.tr XD.out)
          obtain ⟨y0', y1', y2', y3'⟩ := K12.out _ (EXT.out.tr XA.out)
          go_wp2
          go_region_held3 (fun w' => w'.cell? ⟨g3, 0, none⟩ = some (.bool nf) ∧ w'.cell? ⟨g3, 1, none⟩ = some (.slice AN nn cn) ∧ w'.cell? ⟨g3, 2, none⟩ = some (.slice AM nm cm) ∧ w'.cell? ⟨bp, op + i, none⟩ = some (.int .u8 (x : Int)))
            (first | with_reducible exact ⟨i0, i1, i2, i3⟩ | with_reducible exact ⟨y0', y1', y2', y3'⟩ | with_reducible exact ⟨cell_alloc_of i0 _, cell_alloc_of i1 _, cell_alloc_of i2 _, cell_alloc_of i3 _⟩ | with_reducible exact ⟨cell_alloc_of (cell_alloc_of i0 _) _, cell_alloc_of (cell_alloc_of i1 _) _, cell_alloc_of (cell_alloc_of i2 _) _, cell_alloc_of (cell_alloc_of i3 _) _⟩ | fail)
            (first
            | (go_at_call 7
               with_reducible refine (ratInt_any (x : Int) _ (by omega) (by omega)).mono ?_
               rintro e w6 ⟨n6, A6, l6, c6, A6', l6', c6', rfl, h6, x6⟩
               rw [int_mkQ] at h6
               obtain ⟨s1, s2⟩ := h6.lens (show SzQ ((x : Int) : Rat) 1 by
                 rw [← int_mkQ]
                 refine SzQ.mkQ_ (by decide) ?_ (by decide)
                 rw [Nat.pow_one, B32_eq, Int.natAbs_natCast]; omega)
               first
               | (have E6 := Lib.hid (show Ext wr w6 by with_reducible exact XD.out.tr x6))
               | (have E6 := Lib.hid (show Ext wr w6 by with_reducible exact XA.out.tr x6)
                  have BM := Lib.hid (BN.out.keep x6))
               have R6 := Lib.hid h6
               obtain ⟨i0, i1, i2, i3⟩ := K12.out _ (EXT.out.tr E6.out)
               clear x6 h6)
            | (go_at_call 6
               first
               | (with_reducible refine (ratMul_any nf n6 AN nn cn AM nm cm A6 l6 c6 A6' l6' c6' F ((x : Int) : Rat) _ (FR.out.keep (by with_reducible exact E6.out)) R6.out (by omega) (by omega) (by omega) (by omega)).mono ?_
                  rintro e w7 ⟨n7, A7, l7, c7, A7', l7', c7', rfl, h7, x7⟩
                  have E7 := Lib.hid (E6.out.tr x7)
                  first
                  | (have BM := Lib.hid (BM.out.keep x7))
                  | skip)
               | (have xz := (Ext.refl w6).alloc (.cells #[.int .i64 (x : Int)] 3)
                  with_reducible refine (ratMul_any nf n6 AN nn cn AM nm cm A6 l6 c6 A6' l6' c6' F ((x : Int) : Rat) _ (FR.out.keep (by with_reducible exact E6.out.tr xz)) (R6.out.keep xz) (by omega) (by omega) (by omega) (by omega)).mono ?_
                  rintro e w7 ⟨n7, A7, l7, c7, A7', l7', c7', rfl, h7, x7⟩
                  have E7 := Lib.hid ((E6.out.tr xz).tr x7)
                  have BM := Lib.hid ((Blk.new w6 3 #[.int .i64 (x : Int)]).keep x7)
                  clear xz)
               have R7 := Lib.hid h7
               obtain ⟨i0, i1, i2, i3⟩ := K12.out _ (EXT.out.tr E7.out)
               have OI7 := Lib.hid (OI.out.kept (grown_ext E7.out) (own_none _))
               have OQ7 := Lib.hid (OW.out.2.2.1.kept (grown_ext E7.out) (own_none _))
               have EL7 := Lib.hid (show ∀ (j : Nat) (q : Rat), (timesL F (ws.take i))[j]? = some q → ∃ cs, css[j]? = some cs ∧ QR w7 cs q from fun j q hq => by
                 obtain ⟨cs, z1, z2⟩ := OW.out.2.2.2 j q hq
                 exact ⟨cs, z1, z2.keep E7.out⟩)
               have EB7 := Lib.hid (EXT.out.tr E7.out)
               clear x7 h7)
            | (rw [if_pos (by rfl)]
               first
               | (refine wp_push3 w7 (w7.alloc (.cells #[.bool n7, .slice A7 l7 c7, .slice A7' l7' c7'] 29)) 33 29 (.tmp 36) (.tmp 45) (by rfl) Tryd.underlying33 Tryd.info44 wB.heap.size (.slice A i c) i css.flatten (by rfl) (by with_reducible exact OQ7.out.alloc _) _ _ _ rfl rfl rfl (w7.heap.size) (by rfl) (by with_reducible exact Blk.new w7 _ _) (by omega) (Nat.le_trans EB7.out.size (by simp <;> omega)) ?_
                  intro v8 w8 own8 grow8 hform
                  obtain ⟨A8, c8, rfl⟩ := hform
                  have xz := (Ext.refl w7).alloc (.cells #[.bool n7, .slice A7 l7 c7, .slice A7' l7' c7'] 29)
                  have PQ := Lib.hid (ExT.pushQ HLE.out HX.out OW.out.1 OW.out.2.1 (fun j q hq => by
                    obtain ⟨cs, z1, z2⟩ := EL7.out j q hq
                    exact ⟨cs, z1, z2.keep xz⟩) (OQ7.out.kept (grown_ext xz) (own_none _)) (OI7.out.kept (grown_ext xz) (own_none _)) (EB7.out.tr xz) (R7.out.keep xz) own8 grow8)
                  have hoh8 := own_heap (OQ7.out.kept (grown_ext xz) (own_none _))
                  first
                  | (have BM := Lib.hid ((BM.out.keep xz).grownK grow8 hoh8 (by decide)))
                  | skip
                  obtain ⟨i0, i1, i2, i3⟩ := K12.out _ PQ.out.2.2
                  clear xz hoh8 own8 grow8)
               | (refine wp_push3 w7 ((w7.alloc (.cells #[.int .i64 (x : Int)] 3)).alloc (.cells #[.bool n7, .slice A7 l7 c7, .slice A7' l7' c7'] 29)) 33 29 (.tmp 36) (.tmp 45) (by rfl) Tryd.underlying33 Tryd.info44 wB.heap.size (.slice A i c) i css.flatten (by rfl) (by with_reducible exact (OQ7.out.alloc _).alloc _) _ _ _ rfl rfl rfl (w7.heap.size + 1) (by rfl) (by with_reducible exact Blk.new' (w7.alloc (.cells #[.int .i64 (x : Int)] 3)) _ _ (by simp)) (by omega) (Nat.le_trans EB7.out.size (by simp <;> omega)) ?_
                  intro v8 w8 own8 grow8 hform
                  obtain ⟨A8, c8, rfl⟩ := hform
                  have xz := ((Ext.refl w7).alloc (.cells #[.int .i64 (x : Int)] 3)).alloc (.cells #[.bool n7, .slice A7 l7 c7, .slice A7' l7' c7'] 29)
                  have PQ := Lib.hid (ExT.pushQ HLE.out HX.out OW.out.1 OW.out.2.1 (fun j q hq => by
                    obtain ⟨cs, z1, z2⟩ := EL7.out j q hq
                    exact ⟨cs, z1, z2.keep xz⟩) (OQ7.out.kept (grown_ext xz) (own_none _)) (OI7.out.kept (grown_ext xz) (own_none _)) (EB7.out.tr xz) (R7.out.keep xz) own8 grow8)
                  have hoh8 := own_heap (OQ7.out.kept (grown_ext xz) (own_none _))
                  have BM := Lib.hid (((Blk.new w7 3 #[.int .i64 (x : Int)]).alloc (.cells #[.bool n7, .slice A7 l7 c7, .slice A7' l7' c7'] 29)).grownK grow8 hoh8 (by decide))
                  obtain ⟨i0, i1, i2, i3⟩ := K12.out _ PQ.out.2.2
                  clear xz hoh8 own8 grow8)
               | (refine wp_push3 w7 ((w7.alloc (.cells #[.bool n7, .slice A7 l7 c7, .slice A7' l7' c7'] 29)).alloc (.cells #[.int .i64 (x : Int)] 3)) 33 29 (.tmp 36) (.tmp 45) (by rfl) Tryd.underlying33 Tryd.info44 wB.heap.size (.slice A i c) i css.flatten (by rfl) (by with_reducible exact (OQ7.out.alloc _).alloc _) _ _ _ rfl rfl rfl (w7.heap.size) (by rfl) (by with_reducible exact (Blk.new w7 _ _).alloc _) (by omega) (Nat.le_trans EB7.out.size (by simp <;> omega)) ?_
                  intro v8 w8 own8 grow8 hform
                  obtain ⟨A8, c8, rfl⟩ := hform
                  have xz := ((Ext.refl w7).alloc (.cells #[.bool n7, .slice A7 l7 c7, .slice A7' l7' c7'] 29)).alloc (.cells #[.int .i64 (x : Int)] 3)
                  have PQ := Lib.hid (ExT.pushQ HLE.out HX.out OW.out.1 OW.out.2.1 (fun j q hq => by
                    obtain ⟨cs, z1, z2⟩ := EL7.out j q hq
                    exact ⟨cs, z1, z2.keep xz⟩) (OQ7.out.kept (grown_ext xz) (own_none _)) (OI7.out.kept (grown_ext xz) (own_none _)) (EB7.out.tr xz) (R7.out.keep xz) own8 grow8)
                  have hoh8 := own_heap (OQ7.out.kept (grown_ext xz) (own_none _))
                  have BM := Lib.hid ((show Blk ((w7.alloc (.cells #[.bool n7, .slice A7 l7 c7, .slice A7' l7' c7'] 29)).alloc (.cells #[.int .i64 (x : Int)] 3)) (w7.heap.size + 1) 3 #[.int .i64 (x : Int)] from Blk.new' (w7.alloc (.cells #[.bool n7, .slice A7 l7 c7, .slice A7' l7' c7'] 29)) _ _ (by simp)).grownK grow8 hoh8 (by decide))
                  obtain ⟨i0, i1, i2, i3⟩ := K12.out _ PQ.out.2.2
                  clear xz hoh8 own8 grow8)
               | fail)
            | (rw [if_pos (by rfl)]
               first
               | (refine wp_pushI (w8) (.tmp 47) (.tmp 53) (by rfl) wB.heap.size (.slice A2 i c2) i (ints (ws.take i)) (by rfl) (by with_reducible exact PQ.out.2.1) x (wr.heap.size) (by rfl) (by with_reducible exact BM.out) (by omega) (Nat.le_trans PQ.out.2.2.size (by simp <;> omega)) ?_
                  intro v9 w9 own9 grow9 hform
                  obtain ⟨A9, c9, rfl⟩ := hform
                  have PW := Lib.hid (ExT.pushW HX.out PQ.out.1 PQ.out.2.1 PQ.out.2.2 own9 grow9)
                  obtain ⟨i0, i1, i2, i3⟩ := K12.out _ PW.out.ext
                  clear own9 grow9)
               | (refine wp_pushI (w8) (.tmp 47) (.tmp 53) (by rfl) wB.heap.size (.slice A2 i c2) i (ints (ws.take i)) (by rfl) (by with_reducible exact PQ.out.2.1) x (w6.heap.size) (by rfl) (by with_reducible exact BM.out) (by omega) (Nat.le_trans PQ.out.2.2.size (by simp <;> omega)) ?_
                  intro v9 w9 own9 grow9 hform
                  obtain ⟨A9, c9, rfl⟩ := hform
                  have PW := Lib.hid (ExT.pushW HX.out PQ.out.1 PQ.out.2.1 PQ.out.2.2 own9 grow9)
                  obtain ⟨i0, i1, i2, i3⟩ := K12.out _ PW.out.ext
                  clear own9 grow9)
               | (refine wp_pushI (w8) (.tmp 47) (.tmp 53) (by rfl) wB.heap.size (.slice A2 i c2) i (ints (ws.take i)) (by rfl) (by with_reducible exact PQ.out.2.1) x (w7.heap.size) (by rfl) (by with_reducible exact BM.out) (by omega) (Nat.le_trans PQ.out.2.2.size (by simp <;> omega)) ?_
                  intro v9 w9 own9 grow9 hform
                  obtain ⟨A9, c9, rfl⟩ := hform
                  have PW := Lib.hid (ExT.pushW HX.out PQ.out.1 PQ.out.2.1 PQ.out.2.2 own9 grow9)
                  obtain ⟨i0, i1, i2, i3⟩ := K12.out _ PW.out.ext
                  clear own9 grow9)
               | (refine wp_pushI (w8) (.tmp 47) (.tmp 53) (by rfl) wB.heap.size (.slice A2 i c2) i (ints (ws.take i)) (by rfl) (by with_reducible exact PQ.out.2.1) x (w7.heap.size + 1) (by rfl) (by with_reducible exact BM.out) (by omega) (Nat.le_trans PQ.out.2.2.size (by simp <;> omega)) ?_
                  intro v9 w9 own9 grow9 hform
                  obtain ⟨A9, c9, rfl⟩ := hform
                  have PW := Lib.hid (ExT.pushW HX.out PQ.out.1 PQ.out.2.1 PQ.out.2.2 own9 grow9)
                  obtain ⟨i0, i1, i2, i3⟩ := K12.out _ PW.out.ext
                  clear own9 grow9)
               | (refine wp_pushI (w8.alloc (.cells #[.int .i64 (x : Int)] 3)) (.tmp 47) (.tmp 53) (by rfl) wB.heap.size (.slice A2 i c2) i (ints (ws.take i)) (by rfl) (by with_reducible exact (PQ.out.2.1.alloc (.cells #[.int .i64 (x : Int)] 3))) x (w8.heap.size) (by rfl) (by with_reducible exact Blk.new w8 _ _) (by omega) (Nat.le_trans PQ.out.2.2.size (by simp <;> omega)) ?_
                  intro v9 w9 own9 grow9 hform
                  obtain ⟨A9, c9, rfl⟩ := hform
                  have PW := Lib.hid (ExT.pushW HX.out (PQ.out.1.keep (fun _ _ _ _ k hx => QR.keep k hx) ((Ext.refl w8).alloc (.cells #[.int .i64 (x : Int)] 3))) (PQ.out.2.1.alloc (.cells #[.int .i64 (x : Int)] 3)) (PQ.out.2.2.alloc (.cells #[.int .i64 (x : Int)] 3)) own9 grow9)
                  obtain ⟨i0, i1, i2, i3⟩ := K12.out _ PW.out.ext
                  clear own9 grow9)
               | fail)
            | fail)
          all_goals
            go_wp2
            go_meet
            exact ⟨A8, c8, A9, c9, rfl, rfl, PW, Lib.hid PW.out.ext⟩
        case rest =>
          obtain ⟨A7, c7, A8, c8, rfl, rfl, L2, E2⟩ := hcut
          obtain ⟨_, _, _, i3⟩ := K12.out _ E2.out
          clear K12 OW OI EXT FR
          go_wp2
          go_roundg (n - (i + 1))
          case measure => omega
          case rel => exact ⟨i + 1, A7, c7, A8, c8, rfl, by omega, by go_num, rfl, rfl, by rw [SN.out]; go_num, L2⟩
      · obtain rfl : i = n := by omega
        have hlt : ¬ (i : Int) < (i : Int) := by omega
        have htk : ws.take i = ws := List.take_of_length_le (by rw [HN.out]; omega)
        obtain ⟨A9, c9, e9, hc9, hq9⟩ := L.out.oq.list
        have hoi := own_rdTX L.out.oi (by decide)
        have hext := L.out.ext
        rw [htk] at hq9 hoi hb2 e9 hc9 ⊢
        rw [timesL_len, HN.out] at e9 hc9
        injection e9 with e1 e2 e3
        subst e1 e3
        have HQ := Lib.hid (show QL wr A (timesL F ws) from hq9)
        have HI := Lib.hid hoi
        have EE := Lib.hid (E3.out.tr hext)
        have TZ := Lib.hid (show ∀ q ∈ timesL F ws, SzQ q 100 from fun q hq => by
          unfold timesL at hq
          obtain ⟨x, hx, rfl⟩ := List.mem_map.1 hq
          have hx5 := HB.out x hx
          have : SzQ ((x : Int) : Rat) 1 := by
            rw [← int_mkQ]
            refine SzQ.mkQ_ (by decide) ?_ (by decide)
            rw [Nat.pow_one, B32_eq, Int.natAbs_natCast]; omega
          exact (FP.out.2.sz.mul this).mono (by decide))
        have HER := Lib.hid (exact_round FP.out.1 (ws := ws) (by rw [HN.out]; omega) HB.out)
        have hrd := round_ok A i c (timesL F ws) (by rw [timesL_len]; exact HN.out) (by omega) ((nsum ws : Nat) : Int) wr HQ.out TZ.out
        rw [HER.out] at hrd
        clear hq9 hoi hext htk L e2 HER
        by_cases h0 : 0 < nsum ws
        · rw [if_pos h0] at hrd
          have HRD := Lib.hid hrd
          clear hrd
          have hz : (((nsum ws : Nat) : Int) == 0) = false := beq_eq_false_iff_ne.2 (by omega)
          generalize nsum ws = tot at *
          go_wp2_with fail
          refine (HRD.out).mono ?_
          rintro e w4 ⟨V, cv, rfl, hcv, hv, x4⟩
          have hcv : ws.length ≤ cv := hcv
          have hss := sameInts_ok V A2 cv c2 ws ws w4 hv.rd (HI.out.1.keep x4).rd hcv (by rw [HN.out]; exact HI.out.2) (by rw [HN.out]; omega) (by rw [HN.out]; omega)
          rw [show decide (ws = ws) = true by simp, HN.out] at hss
          have HSS := Lib.hid hss
          have E4 := Lib.hid (EE.out.tr x4)
          clear hv x4 hss HRD hcv
          simp only [HN.out]
          go_wp2_with fail
          refine (HSS.out).mono ?_
          rintro e w5 ⟨rfl, x5⟩
          have E5 := Lib.hid (E4.out.tr x5)
          clear x5
          go_wp2
          go_ret
          exact ⟨rfl, E5.out⟩
        · rw [if_neg h0] at hrd
          have HRD := Lib.hid hrd
          clear hrd
          have hz : nsum ws = 0 := by omega
          rw [hz] at HRD ⊢
          clear hz h0 hb2
          go_wp2_with fail
          refine (HRD.out).mono ?_
          rintro e w4 ⟨V, cv, rfl, hcv, hv, x4⟩
          have E4 := Lib.hid (EE.out.tr x4)
          clear hv x4 hcv HRD
          go_wp2
          go_ret
          exact ⟨rfl, E4.out⟩
end Go.Proofs.YtekiomanidimnaaDoor
