/- waypointlaw42.PricingConsistent: the walk: it returns true. -/
import Derived.Test.YtekiomanidimnaaGreatDoorCnC
set_option linter.unusedVariables false
set_option linter.unusedSimpArgs false

namespace Go.Proofs.YtekiomanidimnaaGreatDoor
open Go.RowKit
set_option maxRecDepth 100000 in
set_option maxHeartbeats 8000000 in
theorem cons_law (t : Tp) (AO : Option Addr) (co : Nat) (AL : Option Addr) (cl : Nat) (AD : Option Addr) (down : List Bool) (cd : Nat) (AF : Option Addr) (fr : List Fr) (cf : Nat) (s d : Int) (AP : Option Addr) (n cp : Nat) (fp : List Fr) (hn : fp.length = n) (w : World) (h : ArgR w t AO co AL cl AD down cd AF fr cf s d) (hT : Tab w) (hp : Rd w AP (fp.flatMap Fr.cells)) (hpw : ∀ x ∈ fp, x.wf) :
    Calls Tryz.prog 7 #[.agg #[.int .i64 t.nodes, .slice AO t.over.length co, .slice AL t.links.length cl], .agg #[.slice AD down.length cd, .slice AF fr.length cf, .int .i64 s, .int .i64 d], .slice AP n cp] w fun e w' => e = .returned (.bool true) ∧ Ext w w' := by
  obtain ⟨b0, b1, e0⟩ := boxes2 w #[.int .i64 t.nodes, .slice AO t.over.length co, .slice AL t.links.length cl] 25 #[.slice AD down.length cd, .slice AF fr.length cf, .int .i64 s, .int .i64 d] 28
  have H := Lib.hid (h.keep e0)
  have HT := Lib.hid (hT.keep e0)
  have HP := Lib.hid (hp)
  have HPW := Lib.hid (hpw)
  have HN := Lib.hid (hn)
  have E0 := Lib.hid (e0)
  have BB := Lib.hid (And.intro b0 b1)
  clear h hT e0 b0 b1 hp hpw hn
  go_enter Tryz.func7, Tryz.ntmps7
  go_wp2_with fail
  refine (awake_ok _ HT.out).mono ?_
  rintro e w1 ⟨rfl, x1⟩
  have BB1 := Lib.hid (And.intro (BB.out.1.keep x1) (BB.out.2.keep x1))
  have H1 := Lib.hid (H.out.keep x1)
  have E1 := Lib.hid (E0.out.tr x1)
  clear x1 BB H E0
  obtain ⟨⟨i0, i1, i2⟩, _⟩ := BB1.out.1.three
  have j0 := BB1.out.2.cell 0
  have j1 := BB1.out.2.cell 1
  have j2 := BB1.out.2.cell 2
  have j3 := BB1.out.2.cell 3
  simp at j0 j1 j2 j3
  go_wp2_with fail
  refine (small_ok t AO co AL cl AD down.length cd AF fr.length cf s d _ (fun h1 h2 => H1.out.top h1 h2)).mono ?_
  rintro e w2 ⟨rfl, x2⟩
  have BB2 := Lib.hid (And.intro (BB1.out.1.keep x2) (BB1.out.2.keep x2))
  have H2 := Lib.hid (H1.out.keep x2)
  have E2 := Lib.hid (E1.out.tr x2)
  clear x2 BB1 H1 E1 i0 i1 i2 j0 j1 j2 j3
  cases hs : smallP t down.length fr.length
  case false =>
    go_wp2
    go_ret
    exact ⟨rfl, E2.out⟩
  case true =>
    obtain ⟨⟨⟨⟨g1, g2⟩, g3⟩, g4⟩, g5⟩ : (((t.links.length ≤ 11 ∧ t.over.length ≤ 20) ∧ down.length ≤ 40) ∧ fr.length ≤ 40) ∧ (validP t = false ∨ t.nodes ≤ 8) := by simpa [smallP] using hs
    clear g5 hs
    by_cases hn20 : n ≤ 20
    case neg =>
      have d1 : decide ((n : Int) > 20) = true := by simp; omega
      go_wp2
      go_ret
      exact ⟨rfl, E2.out⟩
    case pos =>
      have d1 : decide ((n : Int) > 20) = false := by simp; omega
      have j1 := BB2.out.2.cell 1
      simp at j1
      obtain ⟨ps, hps⟩ : ∃ ps, ps = fr.map frQ := ⟨_, rfl⟩
      obtain ⟨pot, hpot⟩ : ∃ pot, pot = fp.map frQ := ⟨_, rfl⟩
      have HPL := Lib.hid (show ps.length = fr.length by rw [hps, List.length_map])
      have HVL := Lib.hid (show pot.length = n by rw [hpot, List.length_map]; exact HN.out)
      have PSZ := Lib.hid (show ∀ q ∈ ps, SmQ q from fun q hq => by
        rw [hps] at hq
        obtain ⟨x, hx, rfl⟩ := List.mem_map.1 hq
        exact frQ_sm (H2.out.fwf x hx))
      have VSZ := Lib.hid (show ∀ q ∈ pot, SmQ q from fun q hq => by
        rw [hpot] at hq
        obtain ⟨x, hx, rfl⟩ := List.mem_map.1 hq
        exact frQ_sm (HPW.out x hx))
      have HPS := Lib.hid hps
      have HPOT := Lib.hid hpot
      clear hps hpot
      go_wp2_with fail
      refine (frOf_ok AF fr.length cf fr rfl _ H2.out.frs H2.out.fwf (by omega)).mono ?_
      rintro e w4 ⟨A4, c4, rfl, hc4, hq4, x4⟩
      rw [← HPS.out] at hq4
      have BB4 := Lib.hid (And.intro (BB2.out.1.keep x4) (BB2.out.2.keep x4))
      have H4 := Lib.hid (H2.out.keep x4)
      have E4 := Lib.hid (E2.out.tr x4)
      have Q4 := Lib.hid hq4
      clear x4 hq4 BB2 H2 E2 j1 HPS
      go_wp2_with fail
      refine (frOf_ok AP n cp fp HN.out _ (HP.out.keep E4.out) HPW.out (by omega)).mono ?_
      rintro e w5 ⟨A5, c5, rfl, hc5, hq5, x5⟩
      rw [← HPOT.out] at hq5
      have XD := (Ext.refl w5).drewN 1
      have BB5 := Lib.hid (show Blk w5.drew _ _ _ ∧ Blk w5.drew _ _ _ from And.intro ((BB4.out.1.keep x5).keep XD) ((BB4.out.2.keep x5).keep XD))
      have H5 := Lib.hid (show ArgR w5.drew t AO co AL cl AD down cd AF fr cf s d from (H4.out.keep x5).keep XD)
      have E5 := Lib.hid (show Ext w w5.drew from (E4.out.tr x5).tr XD)
      have Q5 := Lib.hid (show QLg RQC w5.drew A4 ps ∧ QLg RQC w5.drew A5 pot from And.intro ((Q4.out.keep x5).keep XD) (hq5.keep XD))
      clear x5 hq5 BB4 H4 E4 Q4 XD HPOT
      generalize hL : fr.length = L at *
      have i0 : w5.drew.cell? ⟨w.heap.size, 0, none⟩ = some (.int .i64 t.nodes) := BB5.out.1.cell 0
      have i1 : w5.drew.cell? ⟨w.heap.size, 1, none⟩ = some (.slice AO t.over.length co) := BB5.out.1.cell 1
      have i2 : w5.drew.cell? ⟨w.heap.size, 2, none⟩ = some (.slice AL t.links.length cl) := BB5.out.1.cell 2
      have j0 : w5.drew.cell? ⟨w.heap.size + 1, 0, none⟩ = some (.slice AD down.length cd) := BB5.out.2.cell 0
      have j3 : w5.drew.cell? ⟨w.heap.size + 1, 3, none⟩ = some (.int .i64 d) := BB5.out.2.cell 3
      generalize hCC : consP t down ps pot d = CC
      have HCC := Lib.hid (hCC)
      clear hCC
      go_wp2
      go_region_held3 (fun w' => w'.cell? ⟨w.heap.size, 0, none⟩ = some (.int .i64 t.nodes) ∧ w'.cell? ⟨w.heap.size, 1, none⟩ = some (.slice AO t.over.length co) ∧ w'.cell? ⟨w.heap.size, 2, none⟩ = some (.slice AL t.links.length cl) ∧ w'.cell? ⟨w.heap.size + 1, 0, none⟩ = some (.slice AD down.length cd) ∧ w'.cell? ⟨w.heap.size + 1, 3, none⟩ = some (.int .i64 d))
        (first | with_reducible exact ⟨i0, i1, i2, j0, j3⟩ | fail)
        (first
          | (go_at_call 21
             first
             | (with_reducible refine (numbers_ok A4 L c4 ps HPL.out _ (by with_reducible exact Q5.out.1) PSZ.out (by omega)).mono ?_
                rintro e w6 ⟨A6, c6, rfl, hc6, hq6, x6⟩
                have BB6 := Lib.hid (And.intro (BB5.out.1.keep x6) (BB5.out.2.keep x6))
                have H6 := Lib.hid (H5.out.keep x6)
                have E6 := Lib.hid (E5.out.tr x6)
                have Q6 := Lib.hid (And.intro (Q5.out.1.keep x6) (And.intro (Q5.out.2.keep x6) hq6))
                obtain ⟨⟨i0, i1, i2⟩, _⟩ := BB6.out.1.three
                have j0 : w6.cell? ⟨w.heap.size + 1, 0, none⟩ = some (.slice AD down.length cd) := BB6.out.2.cell 0
                have j3 : w6.cell? ⟨w.heap.size + 1, 3, none⟩ = some (.int .i64 d) := BB6.out.2.cell 3
                clear hq6 x6)
             | (with_reducible refine (numbers_ok A5 n c5 pot HVL.out _ (by with_reducible exact Q6.out.2.1) VSZ.out (by omega)).mono ?_
                rintro e w7 ⟨A7, c7, rfl, hc7, hq7, x7⟩
                have BB7 := Lib.hid (And.intro (BB6.out.1.keep x7) (BB6.out.2.keep x7))
                have H7 := Lib.hid (H6.out.keep x7)
                have E7 := Lib.hid (E6.out.tr x7)
                have Q7 := Lib.hid (And.intro (Q6.out.1.keep x7) (And.intro (Q6.out.2.1.keep x7) (And.intro (Q6.out.2.2.keep x7) hq7)))
                obtain ⟨⟨i0, i1, i2⟩, _⟩ := BB7.out.1.three
                have j0 : w7.cell? ⟨w.heap.size + 1, 0, none⟩ = some (.slice AD down.length cd) := BB7.out.2.cell 0
                have j3 : w7.cell? ⟨w.heap.size + 1, 3, none⟩ = some (.int .i64 d) := BB7.out.2.cell 3
                clear hq7 x7))
          | (go_at_call 30
             refine (cons_ok t AO co AL cl AD cd down A6 L c6 ps HPL.out A7 n c7 pot HVL.out d _ (H7.out.top g1 g2) H7.out.dn (by omega) H7.out.ld Q7.out.2.2.1 PSZ.out Q7.out.2.2.2 VSZ.out (by omega) (by omega)).mono ?_
             rintro e w8 ⟨rfl, x8⟩
             rw [HCC.out]
             have BB8 := Lib.hid (And.intro (BB7.out.1.keep x8) (BB7.out.2.keep x8))
             have H8 := Lib.hid (H7.out.keep x8)
             have E8 := Lib.hid (E7.out.tr x8)
             have Q8 := Lib.hid (And.intro (Q7.out.1.keep x8) (Q7.out.2.1.keep x8))
             obtain ⟨⟨i0, i1, i2⟩, _⟩ := BB8.out.1.three
             have j0 : w8.cell? ⟨w.heap.size + 1, 0, none⟩ = some (.slice AD down.length cd) := BB8.out.2.cell 0
             have j3 : w8.cell? ⟨w.heap.size + 1, 3, none⟩ = some (.int .i64 d) := BB8.out.2.cell 3
             clear x8)
          | (go_at_call 31
             refine (rCons_ok t AO co AL cl AD cd down A4 L c4 ps HPL.out A5 n c5 pot HVL.out d _ (H8.out.top g1 g2) H8.out.dn Q8.out.1 PSZ.out Q8.out.2 VSZ.out (by omega) (by omega)).mono ?_
             rintro e w9 ⟨rfl, x9⟩
             rw [HCC.out]
             have BB9 := Lib.hid (And.intro (BB8.out.1.keep x9) (BB8.out.2.keep x9))
             have E9 := Lib.hid (E8.out.tr x9)
             obtain ⟨⟨i0, i1, i2⟩, _⟩ := BB9.out.1.three
             have j0 : w9.cell? ⟨w.heap.size + 1, 0, none⟩ = some (.slice AD down.length cd) := BB9.out.2.cell 0
             have j3 : w9.cell? ⟨w.heap.size + 1, 3, none⟩ = some (.int .i64 d) := BB9.out.2.cell 3
             clear x9)
          | fail)
      have hee : (CC == CC) = true := by simp
      go_wp2
      go_ret
      exact ⟨by simp, E9.out⟩
end Go.Proofs.YtekiomanidimnaaGreatDoor
