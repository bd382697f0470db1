/- waypointref42.Dist: the prices of the cheapest paths from all nodes. -/
import Derived.Test.YtekiomanidimnaaGreatDoorDisW
import Derived.Test.YtekiomanidimnaaGreatDoorChR
import Derived.Test.YtekiomanidimnaaGreatDoorFrOf
set_option linter.unusedVariables false
set_option linter.unusedSimpArgs false

namespace Go.Proofs.YtekiomanidimnaaGreatDoor
open Go.RowKit
theorem own_sep {w : World} {B1 B2 s1 s2 n1 n2 : Nat} {e1 e2 : TypeId} {v1 v2 : Value} {xs1 xs2 : List Value} (h1 : w.ownsRow B1 e1 s1 v1 n1 xs1) (h2 : w.ownsRow B2 e2 s2 v2 n2 xs2) (hne : e1 ≠ e2) : v1.ownBlock = none ∨ v1.ownBlock ≠ v2.ownBlock := by
  cases hk : v1.ownBlock with
  | none => exact .inl rfl
  | some k =>
    right
    intro e
    obtain ⟨c1, f1, g1⟩ := own_heap h1 k hk
    obtain ⟨c2, f2, g2⟩ := own_heap h2 k e.symm
    rw [g1] at g2
    injection g2 with g2
    injection g2 with _ g2
    exact hne g2
theorem own_rd1 {w : World} {B n : Nat} {e : TypeId} {v : Value} {xs : List Value} (h : w.ownsRow B e 1 v n xs) : ∃ (A : Option Addr) (c : Nat), v = .slice A n c ∧ n ≤ c ∧ Rd w A xs := by
  have hl := h.1
  rcases h.2 with ⟨h3, h4⟩ | ⟨g', cap, cur, h3, h4, h5, h6, h7, h8, h9⟩
  · have : xs = [] := List.eq_nil_of_length_eq_zero (by omega)
    subst this
    exact ⟨none, 0, by rw [h4]; exact h3, by omega, Rd.nil _ _⟩
  · refine ⟨some ⟨g', 0, none⟩, cap, h3, h6, fun _ => ⟨g', 0, rfl, lt_of_get h5, fun i hi => ?_⟩⟩
    rw [cell_of_row w g' (0 + i) cur e (0, 0) h5, Nat.zero_add, ← h9, List.getElem?_take, if_pos (by omega)]
    simp
theorem wpList_push1 {ops : Array Oper} {rest : List Oper} {o : Oper} {a : Act} {Q : Exit → Act → World → Prop} (w : World) (t e : TypeId) (hgd : o.guard = none) (s x : Operand)
    (ho : o.op = .call { callee := .builtin .append, args := #[s, x], argTypes := #[t, t] })
    (ht : Tryz.prog.underlying t = some (.slice e)) (hinfo : (Tryz.prog.info? e).map (fun i => (i.zero, i.size, i.bytes)) = some (some (.bool false), 1, 1))
    (B : Nat) (v : Value) (n : Nat) (xs : List Value) (hs : a.eval s = v) (hown : w.ownsRow B e 1 v n xs) (u0 : Value) (h0 : u0.oneCell' = true) (hx : a.eval x = .slice (some ⟨w.heap.size, 0, none⟩) 1 1)
    (hl : n ≤ 1000000000) (hB : B ≤ w.heap.size)
    (h : ∀ v' w', w'.ownsRow B e 1 v' (n + 1) (xs ++ [u0]) → (w.alloc (.cells #[u0] e)).grownBy w' v.ownBlock → (∃ A c, v' = .slice A (n + 1) c) → wpList Tryz.prog ops Q rest (a.put o.dst v') w') : wpList Tryz.prog ops Q (o :: rest) a (w.alloc (.cells #[u0] e)) := by
  obtain ⟨ti, hi, hz0, hz1, hz2⟩ := info_parts hinfo
  refine wpList_append_own_at _ hgd s x t ho B e ti _ 1 1 ht hi hz0 hz1 hz2 rfl (by decide) v n xs hs (hown.alloc _) ⟨w.heap.size, 0, none⟩ 1 1 [u0] hx rfl ?_ ?_ ?_ ?_ ?_ ?_
  · intro j u hj
    rw [addr_add, Nat.zero_add]
    exact ((Blk.new w _ _).cell j).trans (by simpa using hj)
  · intro u hu
    simp only [List.mem_cons, List.not_mem_nil, or_false] at hu
    subst hu
    exact h0
  · unfold maxLen; omega
  · omega
  · simp; omega
  · intro v' w' k1 k2 _ _
    refine h v' w' k1 k2 ?_
    rcases k1.2 with ⟨_, e2⟩ | ⟨g, cap, _, e1, _⟩
    · omega
    · exact ⟨_, cap, e1⟩
def RDiPost (w : World) (r : List Rat × List Bool × Int) (e : Ending) (w' : World) : Prop :=
  ∃ (A : Option Addr) (c : Nat) (A2 : Option Addr) (c2 : Nat), e = .returned (.tuple #[.slice A r.1.length c, .slice A2 r.2.1.length c2, .int .i64 r.2.2]) ∧ QLg RQC w' A r.1 ∧ Rd w' A2 (bools r.2.1) ∧ Ext w w'
theorem qlg_nil (w : World) (A : Option Addr) : QLg RQC w A [] := ⟨[], rfl, (fun _ h => by cases h), Rd.nil _ _, fun i q h => by simp at h⟩
set_option maxRecDepth 100000 in
set_option maxHeartbeats 8000000 in
theorem rDist_ok (t : Tp) (AO : Option Addr) (co : Nat) (AL : Option Addr) (cl : Nat) (AD : Option Addr) (cd : Nat) (down : List Bool) (PP : Option Addr) (n cp : Nat) (ps : List Rat) (hn : ps.length = n) (d : Int) (w : World) (ht : TopR w t AO co AL cl) (hdn : Rd w AD (bools down)) (hdl : down.length ≤ 600) (hq : QLg RQC w PP ps) (hps : ∀ q ∈ ps, SmQ q) (hl : n ≤ 1000)
    (hb : validP t = true → (2 * t.links.length + 1) ^ t.nodes.toNat ≤ 2 ^ 42) (h8 : validP t = true → t.nodes ≤ 40) :
    Calls Tryz.prog 33 #[.agg #[.int .i64 t.nodes, .slice AO t.over.length co, .slice AL t.links.length cl], .slice AD down.length cd, .slice PP n cp, .int .i64 d] w (RDiPost w (diP t down ps d)) := by
  have HT := Lib.hid (ht)
  have HDN := Lib.hid (hdn)
  have HQ := Lib.hid (hq)
  have HP := Lib.hid (hps)
  have HN := Lib.hid (hn)
  have HB := Lib.hid (hb)
  have H8 := Lib.hid (h8)
  have h3 := ht.ll
  have h4 := ht.cl
  clear ht hdn hq hps hn hb h8
  generalize hR : diP t down ps d = R
  have HR := Lib.hid (hR)
  clear hR
  obtain ⟨b0, e0⟩ := boxes1 w #[.int .i64 t.nodes, .slice AO t.over.length co, .slice AL t.links.length cl] 25
  obtain ⟨⟨i0, i1, i2⟩, _⟩ := b0.three
  have BB := Lib.hid (b0)
  have E0 := Lib.hid (e0)
  clear b0 e0
  go_enter Tryz.func33, Tryz.ntmps33
  go_wp2_with fail
  refine (rFits_ok t AO co AL cl AD cd down PP n cp ps HN.out _ (HT.out.keep E0.out) (HQ.out.keep E0.out) (by omega)).mono ?_
  rintro e w1 ⟨rfl, x1⟩
  have B1 := Lib.hid (BB.out.keep x1)
  have E1 := Lib.hid (E0.out.tr x1)
  clear x1 BB E0 i0 i1 i2
  cases hb1 : bad1 t down ps
  case true =>
    have HB2 := Lib.hid (show R = ([], [], 1) from by rw [← HR.out]; unfold diP; rw [hb1]; rfl)
    obtain rfl := HB2.out
    clear hb1
    go_wp2
    exact bodyPost_ret (v := .tuple #[.slice none 0 0, .slice none 0 0, .int .i64 1]) (by simp [results, Tryz.results33, go_sem]) rfl (⟨none, 0, none, 0, rfl, qlg_nil _ _, Rd.nil _ _, E1.out⟩)
  case false =>
    have HB1 := Lib.hid (hb1)
    clear hb1
    obtain ⟨⟨i0, i1, i2⟩, _⟩ := B1.out.three
    go_upto_region 3 with fail
    go_cut [23] (fun x wx => x = .bool (!ndB t.nodes d) ∧ Hid (Blk wx w.heap.size 25 #[.int .i64 t.nodes, .slice AO t.over.length co, .slice AL t.links.length cl]) ∧ Hid (Ext w wx))
    case first =>
      by_cases k3 : d < 0
      · go_wp2
        go_meet
        exact ⟨by unfold ndB; rw [decide_eq_false (by omega)]; rfl, B1, E1⟩
      · by_cases k4 : d ≥ t.nodes
        · go_wp2
          go_meet
          exact ⟨by unfold ndB; rw [decide_eq_false (by omega)]; rfl, B1, E1⟩
        · go_wp2
          go_meet
          exact ⟨by unfold ndB; rw [decide_eq_true (by omega)]; rfl, B1, E1⟩
    case rest =>
      obtain ⟨rfl, B2, E2⟩ := hcut
      clear i0 i1 i2 B1 E1
      cases hnd : ndB t.nodes d
      case false =>
        have HB2 := Lib.hid (show R = ([], [], 2) from by rw [← HR.out]; unfold diP; rw [HB1.out, hnd]; rfl)
        obtain rfl := HB2.out
        clear hnd
        go_wp2
        exact bodyPost_ret (v := .tuple #[.slice none 0 0, .slice none 0 0, .int .i64 2]) (by simp [results, Tryz.results33, go_sem]) rfl (⟨none, 0, none, 0, rfl, qlg_nil _ _, Rd.nil _ _, E2.out⟩)
      case true =>
        have HR2 := Lib.hid (show R = ((List.range t.nodes.toNat).map (fun v : Nat => prQ ps (chP t down ps (v : Int) d).1), (List.range t.nodes.toNat).map (fun v : Nat => decide ((chP t down ps (v : Int) d).2 = 0)), 0) from by rw [← HR.out]; unfold diP; rw [HB1.out, hnd]; rfl)
        have HV := Lib.hid (bad1_false HB1.out)
        have hvn := valid_nodes HV.out.1
        obtain ⟨N, hN⟩ : ∃ N : Nat, t.nodes = (N : Int) := ⟨t.nodes.toNat, by omega⟩
        have hNN : t.nodes.toNat = N := by omega
        rw [hNN] at HR2
        have hN64 : N ≤ 64 := by omega
        have hlt := B2.out.lt
        have HNE := Lib.hid (hN)
        clear hnd HR hvn hNN hN
        go_wp2
        go_loopg [11, 12, 13, 14, 15, 16] N (fun j ot kt it _ _ _ wr => ∃ (i : Nat) (A : Option Addr) (c : Nat) (A2 : Option Addr) (c2 : Nat), N - i = j ∧ i ≤ N ∧ it = .int .i64 i ∧ ot = .slice A i c ∧ kt = .slice A2 i c2 ∧ Hid (OQ RQC 51 wr (w.heap.size + 1) (.slice A i c) ((List.range i).map (fun v : Nat => prQ ps (chP t down ps (v : Int) d).1))) ∧ Hid (wr.ownsRow (w.heap.size + 1) 4 1 (.slice A2 i c2) i (bools ((List.range i).map (fun v : Nat => decide ((chP t down ps (v : Int) d).2 = 0))))) ∧ Hid (Blk wr w.heap.size 25 #[.int .i64 t.nodes, .slice AO t.over.length co, .slice AL t.links.length cl]) ∧ Hid (Ext w wr))
        case atStart => exact ⟨0, none, 0, none, 0, rfl, Nat.zero_le _, rfl, rfl, rfl, Lib.hid OQ.nil, Lib.hid (World.ownsRow_nil _ _ _ _), B2, E2⟩
        case round =>
          obtain ⟨i, A, c, A2, c2, rfl, hi, rfl, rfl, rfl, OQ1, OK1, BY, EY⟩ := hrel
          clear B2 E2
          obtain ⟨⟨i0, i1, i2⟩, _⟩ := BY.out.three
          by_cases hil : i < N
          · have hdi : decide ((i : Int) < t.nodes) = true := by rw [HNE.out]; simp; omega
            go_wp2_with fail
            with_reducible refine (rCheap_ok t AO co AL cl AD cd down PP n cp ps HN.out (i : Int) d _ (HT.out.keep EY.out) (HDN.out.keep EY.out) hdl (HQ.out.keep EY.out) HP.out hl HB.out H8.out).mono ?_
            rintro e w4 ⟨A4, c4, n4, B4, k4, d4, B4', k4', d4', rfl, hc4, hr4, hp4, x4⟩
            have XB := Lib.hid ((Ext.refl w4).alloc (.cells #[.bool n4, .slice B4 k4 d4, .slice B4' k4' d4'] 51))
            have BX := Lib.hid (Blk.new w4 51 #[.bool n4, .slice B4 k4 d4, .slice B4' k4' d4'])
            have E4 := Lib.hid ((EY.out.tr x4).tr XB.out)
            have R4 := Lib.hid (hp4.keep XB.out)
            have X4 := Lib.hid (x4.tr XB.out)
            obtain ⟨css, q1, q2, q3, q4⟩ := OQ1.out.keep RQC.keep X4.out
            have hml : ((List.range i).map (fun v : Nat => prQ ps (chP t down ps (v : Int) d).1)).length = i := by simp
            rw [hml] at q1 q3
            have OW := Lib.hid (And.intro q1 (And.intro q2 (And.intro q3 q4)))
            have OK4 := Lib.hid (OK1.out.kept (grown_ext X4.out) (own_none _))
            have BT4 := Lib.hid (BY.out.keep X4.out)
            have TK := Lib.hid (show (List.range (i + 1)).map (fun v : Nat => prQ ps (chP t down ps (v : Int) d).1) = (List.range i).map (fun v : Nat => prQ ps (chP t down ps (v : Int) d).1) ++ [prQ ps (chP t down ps (i : Int) d).1] by rw [List.range_succ]; simp)
            have TB := Lib.hid (show bools ((List.range (i + 1)).map (fun v : Nat => decide ((chP t down ps (v : Int) d).2 = 0))) = bools ((List.range i).map (fun v : Nat => decide ((chP t down ps (v : Int) d).2 = 0))) ++ [.bool (decide ((chP t down ps (i : Int) d).2 = 0))] by rw [List.range_succ]; simp [bools])
            obtain ⟨⟨y0, y1, y2⟩, _⟩ := BX.out.three
            generalize hQN : (List.range (i + 1)).map (fun v : Nat => prQ ps (chP t down ps (v : Int) d).1) = QN at *
            have HQN := Lib.hid (hQN)
            clear hQN
            generalize hKN : bools ((List.range (i + 1)).map (fun v : Nat => decide ((chP t down ps (v : Int) d).2 = 0))) = KN at *
            have HKN := Lib.hid (hKN)
            clear hKN
            generalize (List.range i).map (fun v : Nat => prQ ps (chP t down ps (v : Int) d).1) = QO at *
            generalize bools ((List.range i).map (fun v : Nat => decide ((chP t down ps (v : Int) d).2 = 0))) = KO at *
            generalize hch : chP t down ps (i : Int) d = CH at hc4 hr4 hp4 R4 TK TB ⊢
            obtain ⟨rp, ec⟩ := CH
            simp only at hc4 hr4 hp4 R4 TK TB
            clear hc4 hr4 hp4 x4 q1 q2 q3 q4 OQ1 OK1 BY EY i0 i1 i2 hch
            have hsz := E4.out.size
            have hsz4 : w.heap.size + 1 ≤ (w4.alloc (.cells #[.bool n4, .slice B4 k4 d4, .slice B4' k4' d4'] 51)).heap.size := by have := BT4.out.lt; omega
            go_upto_region 11 with fail
            generalize hW5 : w4.alloc (.cells #[.bool n4, .slice B4 k4 d4, .slice B4' k4' d4'] 51) = w5 at *
            clear hW5
            go_wp2_with (at_builtin; go_must (refine wpList_push3 w5 37 51 rfl (.tmp 48) (.tmp 50) rfl Tryz.underlying37 Tryz.info51 (w.heap.size + 1) (.slice A i c) i css.flatten rfl OW.out.2.2.1 _ _ _ rfl rfl rfl rfl ?c0 ?c1 ?_))
            case c0 => omega
            case c1 => exact hsz4
            intro v6 w6 own6 grow6 A7 c7 e7
            subst e7
            have x6 := (Ext.refl w5).alloc (.cells #[.bool n4, .slice B4 k4 d4, .slice B4' k4' d4'] 51)
            have hoh := own_heap (OW.out.2.2.1.alloc (.cells #[.bool n4, .slice B4 k4 d4, .slice B4' k4' d4'] 51))
            have OK6 := Lib.hid ((OK4.out.kept (grown_ext x6) (own_none _)).kept grow6 (own_sep (OK4.out.kept (grown_ext x6) (own_none _)) (OW.out.2.2.1.alloc (.cells #[.bool n4, .slice B4 k4 d4, .slice B4' k4' d4'] 51)) (by decide)))
            have OQ6 := Lib.hid (show OQ RQC 51 w6 (w.heap.size + 1) (.slice A7 (i + 1) c7) QN from by
              rw [TK.out]
              refine OQ.push (w' := w6) (by rw [hml]; exact OW.out.1) OW.out.2.1 rfl (fun j q hq => ?_) ?_ (by rw [hml]; exact own6)
              · obtain ⟨cs, z1, z2⟩ := OW.out.2.2.2 j q hq
                exact ⟨cs, z1, (RQC.keep _ _ _ _ z2 x6).grownK grow6 hoh (by decide)⟩
              · exact RQC.grownK ⟨n4, B4, k4, d4, B4', k4', d4', rfl, R4.out.keep x6⟩ grow6 hoh (by decide))
            have E6 := Lib.hid (show Ext w w6 from Below.grown (E4.out.tr x6) grow6 (by simp; omega) (fun k hk => by have := (OW.out.2.2.1.lt k hk).1; omega))
            have BT6 := Lib.hid (show Blk w6 w.heap.size 25 #[.int .i64 t.nodes, .slice AO t.over.length co, .slice AL t.links.length cl] from (grow6.block w.heap.size (BT4.out.keep x6).lt (fun e => by have := (OW.out.2.2.1.lt _ e.symm).1; omega)).trans (BT4.out.keep x6))
            have hsz6 : w.heap.size + 1 ≤ w6.heap.size := by have := BT6.out.lt; omega
            have hnl : QN.length = i + 1 := by rw [TK.out, List.length_append, hml]; rfl
            clear own6 grow6 x6 hoh y0 y1 y2 BT4 E4 OW OK4 R4 X4 XB BX hsz hsz4 TK
            go_wp2_with (at_builtin; go_must (refine wpList_push1 w6 22 4 rfl (.tmp 52) (.tmp 55) rfl Tryz.underlying22 Tryz.info4 (w.heap.size + 1) (.slice A2 i c2) i KO rfl OK6.out _ rfl rfl ?d0 ?d1 ?_))
            case d0 => omega
            case d1 => exact hsz6
            intro v8 w8 own8 grow8 A9 c9 e9
            subst e9
            have hbe : (ec == 0) = decide (ec = 0) := by by_cases h : ec = 0 <;> simp [h]
            have OK8 := Lib.hid (show w8.ownsRow (w.heap.size + 1) 4 1 (.slice A9 (i + 1) c9) (i + 1) KN from by rw [TB.out, ← hbe]; exact own8)
            have x8 := (Ext.refl w6).alloc (.cells #[.bool (ec == 0)] 4)
            have hoh := own_heap (OK6.out.alloc (.cells #[.bool (ec == 0)] 4))
            obtain ⟨css8, q1, q2, q3, q4⟩ := OQ6.out
            have OQ8 := Lib.hid (show OQ RQC 51 w8 (w.heap.size + 1) (.slice A7 (i + 1) c7) QN from
              ⟨css8, q1, q2, (q3.alloc _).kept grow8 (own_sep (q3.alloc (.cells #[.bool (ec == 0)] 4)) (OK6.out.alloc (.cells #[.bool (ec == 0)] 4)) (by decide)), fun j q hq => by
                obtain ⟨cs, z1, z2⟩ := q4 j q hq
                exact ⟨cs, z1, (RQC.keep _ _ _ _ z2 x8).grownK grow8 hoh (by decide)⟩⟩)
            have E8 := Lib.hid (show Ext w w8 from Below.grown (E6.out.tr x8) grow8 (by simp; omega) (fun k hk => by have := (OK6.out.lt k hk).1; omega))
            have BT8 := Lib.hid (show Blk w8 w.heap.size 25 #[.int .i64 t.nodes, .slice AO t.over.length co, .slice AL t.links.length cl] from (grow8.block w.heap.size (BT6.out.keep x8).lt (fun e => by have := (OK6.out.lt _ e.symm).1; omega)).trans (BT6.out.keep x8))
            clear own8 grow8 x8 hoh q1 q2 q3 q4 OQ6 OK6 BT6 E6 hbe TB
            go_wp2
            go_roundg (N - (i + 1))
            case measure => omega
            case rel => exact ⟨i + 1, A7, c7, A9, c9, rfl, by omega, by go_num, rfl, rfl, Lib.hid (by rw [HQN.out]; exact OQ8.out), Lib.hid (by rw [HKN.out]; exact OK8.out), BT8, E8⟩
          · obtain rfl : i = N := by omega
            have hdi : decide ((i : Int) < t.nodes) = false := by rw [HNE.out]; simp
            obtain ⟨A9, c9, e9, hc9, hq9⟩ := OQ1.out.list
            obtain ⟨A8, c8, e8, hc8, hk8⟩ := own_rd1 OK1.out
            have hml : ((List.range i).map (fun v : Nat => prQ ps (chP t down ps (v : Int) d).1)).length = i := by simp
            have hkl : ((List.range i).map (fun v : Nat => decide ((chP t down ps (v : Int) d).2 = 0))).length = i := by simp
            rw [hml] at e9
            injection e9 with e1 e2 e3
            injection e8 with e4 e5 e6
            subst e1 e3 e4 e6
            have F := Lib.hid (And.intro hq9 hk8)
            obtain rfl := HR2.out
            clear hq9 hk8 e2 e5 hc9 hc8 OQ1 OK1
            go_wp2
            exact bodyPost_ret (v := .tuple #[.slice A i c, .slice A2 i c2, .int .i64 0]) (by simp [results, Tryz.results33, go_sem]) rfl (⟨A, c, A2, c2, by rw [hml, hkl], F.out.1, F.out.2, EY.out⟩)
end Go.Proofs.YtekiomanidimnaaGreatDoor
