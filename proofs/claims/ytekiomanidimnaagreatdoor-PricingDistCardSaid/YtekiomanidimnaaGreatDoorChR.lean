/- waypointref42.Cheapest: the first one of all loopless paths. -/
import Derived.Test.YtekiomanidimnaaGreatDoorLess
import Derived.Test.YtekiomanidimnaaGreatDoorCnB
set_option linter.unusedVariables false
set_option linter.unusedSimpArgs false

namespace Go.Proofs.YtekiomanidimnaaGreatDoor
open Go.RowKit
theorem Paths.atT {w : World} {B : Nat} {A : Option Addr} {n c : Nat} {ps : List (List Nat)} (h : Paths w B (.slice A n c) ps) {i : Nat} {p : List Nat} (hp : ps[i]? = some p) :
    ∃ (b o : Nat) (A' : Option Addr) (c' : Nat), A = some ⟨b, o, none⟩ ∧ b < w.heap.size ∧ w.cell? ⟨b, o + i, none⟩ = some (.slice A' p.length c') ∧ p.length ≤ c' ∧ RdT w 3 A' (ints p) := by
  obtain ⟨cells, h1, h2, h3⟩ := h.ex
  have hlt := (List.getElem?_eq_some_iff.1 hp).1
  obtain ⟨A', c', j1, j2, j3⟩ := h3 i p hp
  rcases h2.2 with ⟨k1, k2⟩ | ⟨g', cap, cur, k3, k4, k5, k6, k7, k8, k9⟩
  · omega
  · injection k3 with e1 e2 e3
    refine ⟨g', 0, A', c', e1, lt_of_get k5, ?_, j2, j3⟩
    have e : w.cell? ⟨g', 0 + i, none⟩ = cur[i]? := by unfold World.cell?; simp [k5]
    rw [e, ← j1, ← k9, List.getElem?_take, if_pos (by omega)]; simp
/-- The first one among the first k. -/
def bestTo (ps : List Rat) (all : List (List Nat)) (k : Nat) : List Nat := match all.take k with
  | [] => []
  | x :: l => minL ps x l
theorem bestTo_step {ps : List Rat} {all : List (List Nat)} {k : Nat} {p : List Nat} (hk : 1 ≤ k) (hp : all[k]? = some p) : bestTo ps all (k + 1) = if befP ps p (bestTo ps all k) then p else bestTo ps all k := by
  obtain ⟨j, rfl⟩ : ∃ j, k = j + 1 := ⟨k - 1, by omega⟩
  cases all with
  | nil => simp at hp
  | cons x l =>
    rw [List.getElem?_cons_succ] at hp
    unfold bestTo
    rw [List.take_succ_cons, List.take_succ_cons]
    simp only []
    rw [List.take_add_one, hp]
    unfold minL
    rw [List.foldl_append]
    rfl
theorem bestTo_all {ps : List Rat} {all : List (List Nat)} {x : List Nat} {l : List (List Nat)} (h : all = x :: l) : bestTo ps all all.length = minL ps x l := by
  unfold bestTo
  rw [List.take_of_length_le (Nat.le_refl _), h]
theorem bestTo_mem {ps : List Rat} {all : List (List Nat)} {k : Nat} (hk : 1 ≤ k) (ha : all ≠ []) : bestTo ps all k ∈ all := by
  obtain ⟨j, rfl⟩ : ∃ j, k = j + 1 := ⟨k - 1, by omega⟩
  cases all with
  | nil => exact absurd rfl ha
  | cons x l =>
    unfold bestTo
    rw [List.take_succ_cons]
    simp only []
    rcases (minL_low ps (l.take j) x).1 with h | h
    · rw [h]; simp
    · exact List.mem_cons_of_mem _ (List.mem_of_mem_take h)
theorem FW.arcs {t : Tp} {down : List Bool} {d : Nat} : ∀ (p : List Nat) {u v : Nat}, FW t down d u p v → ∀ a ∈ p, a < 2 * t.links.length
  | [], _, _, _, a, h => by simp at h
  | b :: p, u, v, hw, a, h => by
    rcases List.mem_cons.1 h with rfl | h
    · have := hw.1
      unfold leavP leavTo at this
      rw [List.mem_filter, List.mem_range] at this
      exact this.1
    · exact FW.arcs p hw.2.2 a h
theorem sim_arcs {t : Tp} {down : List Bool} {s d : Nat} (hv : validP t = true) {p : List Nat} (h : p ∈ simP t down s d) : (∀ a ∈ p, a < 2 * t.links.length) ∧ p.length < t.nodes.toNat := by
  refine ⟨FW.arcs p (ext_walk hv _ [] s _ p rfl h), ?_⟩
  have := extP_plen t down d t.nodes.toNat [] s _ p h
  simpa using this
theorem chP_ref {t : Tp} {down : List Bool} {ps : List Rat} {s d : Int} (hb1 : bad1 t down ps = false) (hb2 : simBad2 t s d = false) : chP t down ps s d = match refCh ps (simP t down s.toNat d.toNat) with
    | none => ([], 11)
    | some l => (l, 0) := by
  unfold chP
  rw [hb1, hb2]
  have hh : validP t = true ∧ pricedP t ps = true := by
    unfold bad1 at hb1
    simp at hb1
    exact ⟨hb1.1.1, hb1.2⟩
  have hs : s.toNat < t.nodes.toNat := by
    unfold simBad2 at hb2
    simp at hb2
    omega
  rw [cheap_ref hh.1 hh.2 hs]
  rfl
def RChPost (w : World) (ps : List Rat) (r : List Nat × Int) (e : Ending) (w' : World) : Prop :=
  ∃ (A : Option Addr) (c : Nat) (neg : Bool) (A1 : Option Addr) (n1 c1 : Nat) (A2 : Option Addr) (n2 c2 : Nat), e = .returned (.tuple #[.slice A r.1.length c, .agg #[.bool neg, .slice A1 n1 c1, .slice A2 n2 c2], .int .i64 r.2]) ∧ r.1.length ≤ c ∧ RdT w' 3 A (ints r.1) ∧ RQR w' neg A1 n1 c1 A2 n2 c2 (prQ ps r.1) ∧ Ext w w'
set_option maxRecDepth 100000 in
set_option maxHeartbeats 8000000 in
theorem rCheap_ok (t : Tp) (AO : Option Addr) (co : Nat) (AL : Option Addr) (cl : Nat) (AD : Option Addr) (cd : Nat) (down : List Bool) (PP : Option Addr) (n cp : Nat) (ps : List Rat) (hn : ps.length = n) (s d : Int) (w : World) (ht : TopR w t AO co AL cl) (hdn : Rd w AD (bools down)) (hdl : down.length ≤ 600) (hq : QLg RQC w PP ps) (hps : ∀ q ∈ ps, SmQ q) (hl : n ≤ 1000)
    (hb : validP t = true → (2 * t.links.length + 1) ^ t.nodes.toNat ≤ 2 ^ 42) (h8 : validP t = true → t.nodes ≤ 40) :
    Calls Tryz.prog 22 #[.agg #[.int .i64 t.nodes, .slice AO t.over.length co, .slice AL t.links.length cl], .slice AD down.length cd, .slice PP n cp, .int .i64 s, .int .i64 d] w (RChPost w ps (chP t down ps s d)) := by
  have HT := Lib.hid (ht)
  have HDN := Lib.hid (hdn)
  have HQ := Lib.hid (hq)
  have HP := Lib.hid (hps)
  have HN := Lib.hid (hn)
  have HB := Lib.hid (hb)
  have H8 := Lib.hid (h8)
  have h3 := ht.ll
  have h4 := ht.cl
  clear ht hdn hq hps hn hb h8
  generalize hR : chP t down ps s d = R
  have HR := Lib.hid (hR)
  clear hR
  obtain ⟨b0, b1, e0⟩ := boxes2 w #[.int .i64 t.nodes, .slice AO t.over.length co, .slice AL t.links.length cl] 25 #[.bool false, .slice none 0 0, .slice none 0 0] 51
  obtain ⟨⟨i0, i1, i2⟩, _⟩ := b0.three
  have BB := Lib.hid (And.intro b0 b1)
  have E0 := Lib.hid (e0)
  clear b0 b1 e0
  go_enter Tryz.func22, Tryz.ntmps22
  go_wp2_with fail
  refine (rFits_ok t AO co AL cl AD cd down PP n cp ps HN.out _ (HT.out.keep E0.out) (HQ.out.keep E0.out) (by omega)).mono ?_
  rintro e w1 ⟨rfl, x1⟩
  have B1 := Lib.hid (And.intro (BB.out.1.keep x1) (BB.out.2.keep x1))
  have E1 := Lib.hid (E0.out.tr x1)
  clear x1 BB E0 i0 i1 i2
  cases hb1 : bad1 t down ps
  case true =>
    have hr : R = ([], 1) := by rw [← HR.out]; unfold chP; rw [hb1]; rfl
    obtain ⟨⟨p0, p1, p2⟩, f0, f1, f2⟩ := B1.out.2.three
    obtain ⟨r1, r2⟩ := rq_set3 (w := w) (rqR_zero w1) B1.out.2 (by omega) E1.out
    have q3 := ((B1.out.2.set_ 0 (.bool false)).set_ 1 (.slice none 0 0)).set_ 2 (.slice none 0 0)
    have RF := Lib.hid (And.intro q3 (And.intro r1 r2))
    subst hr
    clear q3 r1 r2 hb1
    go_wp2
    exact bodyPost_ret (v := .tuple #[.slice none 0 0, .agg #[.bool false, .slice none 0 0, .slice none 0 0], .int .i64 1]) (by simp [results, Tryz.results22, go_sem, RF.out.1.cell]) rfl ⟨none, 0, false, none, 0, 0, none, 0, 0, rfl, Nat.le_refl _, RdT.nil _ _ _, RF.out.2.1, RF.out.2.2⟩
  case false =>
    have HB1 := Lib.hid (hb1)
    clear hb1
    obtain ⟨⟨i0, i1, i2⟩, _⟩ := B1.out.1.three
    go_upto_region 3 with fail
    go_cut [25] (fun x wx => x = .bool (simBad2 t s d) ∧ Hid (Blk wx w.heap.size 25 #[.int .i64 t.nodes, .slice AO t.over.length co, .slice AL t.links.length cl] ∧ Blk wx (w.heap.size + 1) 51 #[.bool false, .slice none 0 0, .slice none 0 0]) ∧ Hid (Ext w wx))
    case first =>
      by_cases k1 : s < 0
      · go_wp2
        go_meet
        exact ⟨by simp [simBad2, k1], B1, E1⟩
      · by_cases k2 : s ≥ t.nodes
        · go_wp2
          go_meet
          exact ⟨by simp [simBad2, k2], B1, E1⟩
        · by_cases k3 : d < 0
          · go_wp2
            go_meet
            exact ⟨by simp [simBad2, k3], B1, E1⟩
          · by_cases k4 : d ≥ t.nodes
            · go_wp2
              go_meet
              exact ⟨by simp [simBad2, k4], B1, E1⟩
            · go_wp2
              go_meet
              exact ⟨by simp [simBad2, k1, k3]; omega, B1, E1⟩
    case rest =>
      obtain ⟨rfl, B2, E2⟩ := hcut
      clear i0 i1 i2 B1 E1
      cases hb2 : simBad2 t s d
      case true =>
        have hr : R = ([], 2) := by rw [← HR.out]; unfold chP; rw [HB1.out, hb2]; rfl
        obtain ⟨⟨p0, p1, p2⟩, f0, f1, f2⟩ := B2.out.2.three
        obtain ⟨r1, r2⟩ := rq_set3 (w := w) (rqR_zero _) B2.out.2 (by omega) E2.out
        have q3 := ((B2.out.2.set_ 0 (.bool false)).set_ 1 (.slice none 0 0)).set_ 2 (.slice none 0 0)
        have RF := Lib.hid (And.intro q3 (And.intro r1 r2))
        subst hr
        clear q3 r1 r2 hb2
        go_wp2
        exact bodyPost_ret (v := .tuple #[.slice none 0 0, .agg #[.bool false, .slice none 0 0, .slice none 0 0], .int .i64 2]) (by simp [results, Tryz.results22, go_sem, RF.out.1.cell]) rfl ⟨none, 0, false, none, 0, 0, none, 0, 0, rfl, Nat.le_refl _, RdT.nil _ _ _, RF.out.2.1, RF.out.2.2⟩
      case false =>
        have hr := HR.out.symm.trans (chP_ref HB1.out hb2)
        have hv := bad1_false HB1.out
        have hsd : 0 ≤ s ∧ s < t.nodes ∧ 0 ≤ d ∧ d < t.nodes := by
          unfold simBad2 at hb2
          simp at hb2
          omega
        obtain ⟨S, rfl⟩ : ∃ S : Nat, s = (S : Int) := ⟨s.toNat, by omega⟩
        obtain ⟨D, rfl⟩ : ∃ D : Nat, d = (D : Int) := ⟨d.toNat, by omega⟩
        rw [Int.toNat_natCast, Int.toNat_natCast] at hr
        have HV := Lib.hid (hv)
        have SD := Lib.hid (hsd)
        have HR2 := Lib.hid (hr)
        clear hr hv hsd hb2 HR
        obtain ⟨⟨i0, i1, i2⟩, _⟩ := B2.out.1.three
        go_wp2_with fail
        refine (rSimple_ok t AO co AL cl AD cd down S D _ (HT.out.keep E2.out) HV.out.1 (HDN.out.keep E2.out) hdl SD.out.2.1 SD.out.2.2.2 (HB.out HV.out.1)).mono ?_
        rintro e w3 ⟨v, rfl, p3, x3⟩
        obtain ⟨A, c, rfl⟩ := p3.form
        have hlt : (simP t down S D).length ≤ 4398046511104 := Nat.le_trans (extP_len _ _ _ _ _ _ _) (HB.out HV.out.1)
        have SA := Lib.hid (show ∀ p ∈ simP t down S D, (∀ a ∈ p, a < n) ∧ p.length ≤ 40 from fun p hp => by
          obtain ⟨z1, z2⟩ := sim_arcs HV.out.1 hp
          refine ⟨fun a ha => ?_, ?_⟩
          · have := z1 a ha
            have h5 := HV.out.2.2
            have h6 := HN.out
            omega
          · have := H8.out HV.out.1
            omega)
        have B3 := Lib.hid (And.intro (B2.out.1.keep x3) (B2.out.2.keep x3))
        have E3 := Lib.hid (E2.out.tr x3)
        generalize hall : simP t down S D = all at *
        have P3 := Lib.hid (p3)
        clear p3 x3 B2 E2 i0 i1 i2 hall HB H8
        cases hal : all with
        | nil =>
          subst hal
          have hr : R = ([], 11) := HR2.out
          obtain ⟨⟨p0, p1, p2⟩, f0, f1, f2⟩ := B3.out.2.three
          obtain ⟨r1, r2⟩ := rq_set3 (w := w) (rqR_zero _) B3.out.2 (by omega) E3.out
          have q3 := ((B3.out.2.set_ 0 (.bool false)).set_ 1 (.slice none 0 0)).set_ 2 (.slice none 0 0)
          have RF := Lib.hid (And.intro q3 (And.intro r1 r2))
          subst hr
          clear q3 r1 r2 HR2
          go_wp2
          exact bodyPost_ret (v := .tuple #[.slice none 0 0, .agg #[.bool false, .slice none 0 0, .slice none 0 0], .int .i64 11]) (by simp [results, Tryz.results22, go_sem, RF.out.1.cell]) rfl ⟨none, 0, false, none, 0, 0, none, 0, 0, rfl, Nat.le_refl _, RdT.nil _ _ _, RF.out.2.1, RF.out.2.2⟩
        | cons x0 l0 =>
          have hr : R = (bestTo ps all all.length, 0) := by
            rw [bestTo_all hal]
            have := HR2.out
            rw [hal] at this
            exact this
          have hx0 : all[0]? = some x0 := by rw [hal]; rfl
          have hb1 : bestTo ps all 1 = x0 := by rw [hal]; rfl
          have hpos : 1 ≤ all.length := by rw [hal]; simp
          have hne : all ≠ [] := by rw [hal]; simp
          have NE := Lib.hid (hne)
          have HR3 := Lib.hid (hr)
          rw [← hal] at *
          clear hal hr HR2 hne
          obtain ⟨bb, oo, A0, c0, rfl, hbb, hc0, hlc0, hrd0⟩ := P3.out.atT hx0
          rw [← hb1] at hrd0 hlc0 hc0
          have RD0 := Lib.hid (hrd0)
          clear hb1 hrd0 hx0
          rw [Nat.add_zero] at hc0
          generalize hL : all.length = L at *
          have HL := Lib.hid (hL)
          clear hL
          have hL0 : ((L : Int) == 0) = false := beq_eq_false_iff_ne.2 (by omega)
          go_wp2
          go_loopg [14, 15] (L - 1) (fun j bt it wr => ∃ (k : Nat) (AB : Option Addr) (cb : Nat), L - k = j ∧ 1 ≤ k ∧ k ≤ L ∧ it = .int .i64 k ∧ bt = .slice AB (bestTo ps all k).length cb ∧ (bestTo ps all k).length ≤ cb ∧ Hid (RdT wr 3 AB (ints (bestTo ps all k))) ∧ Hid (Blk wr w.heap.size 25 #[.int .i64 t.nodes, .slice AO t.over.length co, .slice AL t.links.length cl] ∧ Blk wr (w.heap.size + 1) 51 #[.bool false, .slice none 0 0, .slice none 0 0]) ∧ Hid (Ext w3 wr) ∧ Hid (Ext w wr))
          case atStart => exact ⟨1, A0, c0, rfl, Nat.le_refl _, hpos, rfl, rfl, hlc0, RD0, B3, Lib.hid (Ext.refl _), E3⟩
          case round =>
            obtain ⟨k, AB, cb, rfl, hk1, hk, rfl, rfl, hcb, RB, BY, E3Y, EY⟩ := hrel
            clear B3 E3 RD0 hc0 hlc0 hbb
            by_cases hkl : k < L
            · obtain ⟨p, hp⟩ : ∃ p, all[k]? = some p := ⟨_, List.getElem?_eq_getElem (by rw [HL.out]; exact hkl)⟩
              obtain ⟨bb', oo', AP, ca, hAA, hbb, hcp, hlp, hrp⟩ := P3.out.atT hp
              injection hAA with hAA
              injection hAA with hA1 hA2
              subst hA1 hA2
              have kx := (E3Y.out.cell (p := ⟨bb, oo + k, none⟩) hbb).trans hcp
              have HS := Lib.hid (bestTo_step (ps := ps) hk1 hp)
              have SP := Lib.hid (SA.out p (List.mem_of_getElem? hp))
              have SB := Lib.hid (SA.out (bestTo ps all k) (bestTo_mem hk1 NE.out))
              have RP := Lib.hid (hrp.keep E3Y.out)
              clear hp hcp hrp
              generalize hbk : bestTo ps all k = B at *
              generalize hpl : p.length = pl at *
              generalize hbl : B.length = bl at *
              have HPL := Lib.hid (hpl)
              have HBL := Lib.hid (hbl)
              clear hpl hbl
              go_wp2_with fail
              refine (rless_ok PP n cp ps HN.out AP pl ca p HPL.out AB bl cb B HBL.out _ (HQ.out.keep EY.out) HP.out RP.out.rd RB.out.rd SP.out.1 SB.out.1 SP.out.2 SB.out.2 hl).mono ?_
              rintro e w4 ⟨rfl, x4⟩
              have E4 := Lib.hid (EY.out.tr x4)
              have E34 := Lib.hid (E3Y.out.tr x4)
              have B4 := Lib.hid (And.intro (BY.out.1.keep x4) (BY.out.2.keep x4))
              have R4 := Lib.hid (And.intro (RP.out.keep x4) (RB.out.keep x4))
              have kx4 := (x4.cell (p := ⟨bb, oo + k, none⟩) (show bb < wr.heap.size from Nat.lt_of_lt_of_le hbb E3Y.out.size)).trans kx
              clear x4 EY E3Y BY RP RB kx
              cases hbf : befP ps p B
              case true =>
                have HN2 := Lib.hid (show bestTo ps all (k + 1) = p by rw [HS.out, hbf]; rfl)
                clear hbf
                go_wp2
                go_roundg (L - (k + 1))
                case measure => omega
                case rel => exact ⟨k + 1, AP, ca, rfl, by omega, by omega, by go_num, by rw [HN2.out, HPL.out], by rw [HN2.out, HPL.out]; exact hlp, Lib.hid (by rw [HN2.out]; exact R4.out.1), B4, E34, E4⟩
              case false =>
                have HN2 := Lib.hid (show bestTo ps all (k + 1) = B by rw [HS.out, hbf]; rfl)
                clear hbf
                go_wp2
                go_roundg (L - (k + 1))
                case measure => omega
                case rel => exact ⟨k + 1, AB, cb, rfl, by omega, by omega, by go_num, by rw [HN2.out, HBL.out], by rw [HN2.out, HBL.out]; exact hcb, Lib.hid (by rw [HN2.out]; exact R4.out.2), B4, E34, E4⟩
            · obtain rfl : k = L := by omega
              have SB := Lib.hid (SA.out (bestTo ps all k) (bestTo_mem hk1 NE.out))
              obtain rfl := HR3.out
              clear HR3
              generalize hbk : bestTo ps all k = B at *
              have hbl' : ∃ bl, B.length = bl := ⟨_, rfl⟩
              obtain ⟨bl, hbl⟩ := hbl'
              have HBL := Lib.hid (hbl)
              rw [hbl] at hcb
              rw [hbl]
              clear hbl hbk
              go_wp2_with fail
              refine (rpriceN_ok PP n cp ps HN.out AB bl cb B HBL.out _ (HQ.out.keep EY.out) HP.out RB.out.rd SB.out.1 (by rw [← HBL.out]; exact SB.out.2) hl).mono ?_
              rintro e w4 ⟨nb, B4, k4, d4, B4', k4', d4', rfl, r4, x4⟩
              have xb := (Ext.refl w4).alloc (.cells #[.bool nb, .slice B4 k4 d4, .slice B4' k4' d4'] 51)
              have E4 := Lib.hid ((EY.out.tr x4).tr xb)
              have RR4 := Lib.hid (And.intro (r4.keep xb) ((RB.out.keep x4).keep xb))
              have BB4 := Lib.hid (And.intro ((BY.out.2.keep x4).keep xb) (Blk.new w4 51 #[.bool nb, .slice B4 k4 d4, .slice B4' k4' d4']))
              clear r4 x4 xb EY BY RB E3Y
              obtain ⟨⟨i0, i1, i2⟩, _⟩ := BB4.out.2.three
              obtain ⟨⟨p0, p1, p2⟩, f0, f1, f2⟩ := BB4.out.1.three
              obtain ⟨r1, r2⟩ := rq_set3 (w := w) RR4.out.1 BB4.out.1 (by omega) E4.out
              have q3 := ((BB4.out.1.set_ 0 (.bool nb)).set_ 1 (.slice B4 k4 d4)).set_ 2 (.slice B4' k4' d4')
              have q4 := RR4.out.2.other (set3_grown _ (w.heap.size + 1) (.bool nb) (.slice B4 k4 d4) (.slice B4' k4' d4')) BB4.out.1 (by decide)
              have RF := Lib.hid (And.intro q3 (And.intro r1 (And.intro r2 q4)))
              clear q3 r1 r2 q4
              go_wp2
              go_region
              go_wp2
              have hb9 := RF.out.1
              refine bodyPost_ret (v := .tuple #[.slice AB bl cb, .agg #[.bool nb, .slice B4 k4 d4, .slice B4' k4' d4'], .int .i64 0]) (by simp [results, Tryz.results22, go_sem, hb9.cell]) rfl ⟨AB, cb, nb, B4, k4, d4, B4', k4', d4', by rw [HBL.out], by rw [HBL.out]; exact hcb, ?_, ?_, ?_⟩
              · exact RF.out.2.2.2
              · exact RF.out.2.1
              · exact RF.out.2.2.1.drewN 1
end Go.Proofs.YtekiomanidimnaaGreatDoor
