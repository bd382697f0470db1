/- waypointlaw42.PricingSimple: the walk: it returns true. -/
import Derived.Test.YtekiomanidimnaaGreatDoorML
set_option linter.unusedVariables false
set_option linter.unusedSimpArgs false

namespace Go.Proofs.YtekiomanidimnaaGreatDoor
open Go.RowKit
theorem pow_small {L N : Nat} (h1 : L ≤ 11) (h2 : N ≤ 8) : (2 * L + 1) ^ N ≤ 2 ^ 42 := by
  exact Nat.le_trans (Nat.pow_le_pow_left (show 2 * L + 1 ≤ 23 by omega) N) (Nat.le_trans (Nat.pow_le_pow_right (by decide) h2) (by decide))
theorem extP_plen (t : Tp) (down : List Bool) (d : Nat) : ∀ (f : Nat) (path : List Nat) (n : Nat) (seen : List Bool), ∀ p ∈ extP t down d f path n seen, p.length < path.length + f
  | 0, path, n, seen, p, hp => by simp [extP] at hp
  | f + 1, path, n, seen, p, hp => by
    unfold extP at hp
    split at hp
    · simp at hp; subst hp; omega
    · split at hp
      · simp at hp
      · obtain ⟨a, _, h⟩ := List.mem_flatMap.1 hp
        split at h
        · simp at h
        · have := extP_plen t down d f _ _ _ p h
          simp at this
          omega
theorem refSim_sz (t : Tp) (down : List Bool) (s d most : Int) (hn : t.nodes ≤ 64) : (refSim t down s d most).1.length ≤ 1000 ∧ ∀ p ∈ (refSim t down s d most).1, p.length ≤ 1000 := by
  unfold refSim
  split
  · simp
  · rename_i hb
    split
    · simp
    · split
      · simp
      · rename_i hl
        simp only
        have hm : most ≤ 1000 := by
          simp [simBad1] at hb
          omega
        refine ⟨by omega, fun p hp => ?_⟩
        have := extP_plen t down _ _ _ _ _ p hp
        simp at this
        omega
theorem valid_nodes {t : Tp} (h : validP t = true) : 1 ≤ t.nodes ∧ t.nodes ≤ 64 := by
  unfold validP headOk inB at h
  simp at h
  exact h.1.1.1
/-- The arguments t and q as they lie in memory. -/
structure ArgR (w : World) (t : Tp) (AO : Option Addr) (co : Nat) (AL : Option Addr) (cl : Nat) (AD : Option Addr) (down : List Bool) (cd : Nat) (AF : Option Addr) (fr : List Fr) (cf : Nat) (s d : Int) : Prop where
  nodes : i64 t.nodes
  lo : t.over.length ≤ co
  ll : t.links.length ≤ cl
  over : Rd w AO (bools t.over)
  links : Rd w AL (t.links.flatMap Lk.cells)
  wf : ∀ l ∈ t.links, l.wf
  ld : down.length ≤ cd
  dn : Rd w AD (bools down)
  lf : fr.length ≤ cf
  frs : Rd w AF (fr.flatMap Fr.cells)
  fwf : ∀ x ∈ fr, x.wf
  is : i64 s
  id_ : i64 d
theorem ArgR.top {w : World} {t : Tp} {AO : Option Addr} {co : Nat} {AL : Option Addr} {cl : Nat} {AD : Option Addr} {down : List Bool} {cd : Nat} {AF : Option Addr} {fr : List Fr} {cf : Nat} {s d : Int} (h : ArgR w t AO co AL cl AD down cd AF fr cf s d)
    (h1 : t.links.length ≤ 11) (h2 : t.over.length ≤ 20) : TopR w t AO co AL cl := ⟨h.nodes, h.lo, h.ll, by omega, by omega, h.over, h.links, h.wf⟩
theorem ArgR.keep {w w' : World} {t : Tp} {AO : Option Addr} {co : Nat} {AL : Option Addr} {cl : Nat} {AD : Option Addr} {down : List Bool} {cd : Nat} {AF : Option Addr} {fr : List Fr} {cf : Nat} {s d : Int} (h : ArgR w t AO co AL cl AD down cd AF fr cf s d) (hx : Ext w w') : ArgR w' t AO co AL cl AD down cd AF fr cf s d :=
  ⟨h.nodes, h.lo, h.ll, h.over.keep hx, h.links.keep hx, h.wf, h.ld, h.dn.keep hx, h.lf, h.frs.keep hx, h.fwf, h.is, h.id_⟩
set_option maxRecDepth 100000 in
set_option maxHeartbeats 4000000 in
theorem simple_law (t : Tp) (AO : Option Addr) (co : Nat) (AL : Option Addr) (cl : Nat) (AD : Option Addr) (down : List Bool) (cd : Nat) (AF : Option Addr) (fr : List Fr) (cf : Nat) (s d most : Int) (w : World) (h : ArgR w t AO co AL cl AD down cd AF fr cf s d) (hT : Tab w) :
    Calls Tryz.prog 3 #[.agg #[.int .i64 t.nodes, .slice AO t.over.length co, .slice AL t.links.length cl], .agg #[.slice AD down.length cd, .slice AF fr.length cf, .int .i64 s, .int .i64 d], .int .i64 most] w fun e w' => e = .returned (.bool true) ∧ Ext w w' := by
  obtain ⟨b0, b1, e0⟩ := boxes2 w #[.int .i64 t.nodes, .slice AO t.over.length co, .slice AL t.links.length cl] 25 #[.slice AD down.length cd, .slice AF fr.length cf, .int .i64 s, .int .i64 d] 28
  have H := Lib.hid (h.keep e0)
  have HT := Lib.hid (hT.keep e0)
  have E0 := Lib.hid (e0)
  have BB := Lib.hid (And.intro b0 b1)
  clear h hT e0 b0 b1
  go_enter Tryz.func3, Tryz.ntmps3
  go_wp2_with fail
  refine (awake_ok _ HT.out).mono ?_
  rintro e w1 ⟨rfl, x1⟩
  have BB1 := Lib.hid (And.intro (BB.out.1.keep x1) (BB.out.2.keep x1))
  have H1 := Lib.hid (H.out.keep x1)
  have E1 := Lib.hid (E0.out.tr x1)
  clear x1 BB H E0
  obtain ⟨⟨i0, i1, i2⟩, _⟩ := BB1.out.1.three
  have j0 := BB1.out.2.cell 0
  have j1 := BB1.out.2.cell 1
  have j2 := BB1.out.2.cell 2
  have j3 := BB1.out.2.cell 3
  simp at j0 j1 j2 j3
  go_wp2_with fail
  refine (small_ok t AO co AL cl AD down.length cd AF fr.length cf s d _ (fun h1 h2 => H1.out.top h1 h2)).mono ?_
  rintro e w2 ⟨rfl, x2⟩
  have BB2 := Lib.hid (And.intro (BB1.out.1.keep x2) (BB1.out.2.keep x2))
  have H2 := Lib.hid (H1.out.keep x2)
  have E2 := Lib.hid (E1.out.tr x2)
  clear x2 BB1 H1 E1 i0 i1 i2 j0 j1 j2 j3
  cases hs : smallP t down.length fr.length
  case false =>
    go_wp2
    go_ret
    exact ⟨rfl, E2.out⟩
  case true =>
    obtain ⟨⟨⟨⟨g1, g2⟩, g3⟩, g4⟩, g5⟩ : (((t.links.length ≤ 11 ∧ t.over.length ≤ 20) ∧ down.length ≤ 40) ∧ fr.length ≤ 40) ∧ (validP t = false ∨ t.nodes ≤ 8) := by simpa [smallP] using hs
    obtain ⟨⟨i0, i1, i2⟩, _⟩ := BB2.out.1.three
    have j0 := BB2.out.2.cell 0
    have j2 := BB2.out.2.cell 2
    have j3 := BB2.out.2.cell 3
    simp at j0 j2 j3
    have TOP := Lib.hid (H2.out.top g1 g2)
    have G5 := Lib.hid g5
    clear g5 hs
    go_wp2_with fail
    refine (pSimple_ok t AO co AL cl AD cd down s d most _ TOP.out H2.out.dn (by omega) H2.out.ld).mono ?_
    rintro e w3 ⟨v3, rfl, p3, x3⟩
    have BB3 := Lib.hid (And.intro (BB2.out.1.keep x3) (BB2.out.2.keep x3))
    have H3 := Lib.hid (H2.out.keep x3)
    have E3 := Lib.hid (E2.out.tr x3)
    have T3 := Lib.hid (TOP.out.keep x3)
    have P3 := Lib.hid p3.rdP
    clear x3 BB2 H2 E2 TOP i0 i1 i2 j0 j2 j3 p3
    obtain ⟨⟨i0, i1, i2⟩, _⟩ := BB3.out.1.three
    have j0 := BB3.out.2.cell 0
    have j2 := BB3.out.2.cell 2
    have j3 := BB3.out.2.cell 3
    simp at j0 j2 j3
    have HB := Lib.hid (show validP t = true → (2 * t.links.length + 1) ^ t.nodes.toNat ≤ 2 ^ 42 from fun hv => pow_small g1 (by
      rcases G5.out with h | h
      · rw [hv] at h; cases h
      · omega))
    go_wp2_with fail
    refine (r42Simple_ok t AO co AL cl AD cd down s d most _ T3.out H3.out.dn (by omega) HB.out).mono ?_
    rintro e w4 ⟨v4, rfl, p4, x4⟩
    have P4 := Lib.hid p4.rdP
    have P3 := Lib.hid (P3.out.keep x4)
    have E4 := Lib.hid (E3.out.tr x4)
    clear x4 BB3 H3 E3 T3 i0 i1 i2 j0 j2 j3 p4
    have SZ := Lib.hid (show (refSim t down s d most).1.length ≤ 1000 ∧ ∀ p ∈ (refSim t down s d most).1, p.length ≤ 1000 from by
      by_cases hv : validP t = true
      · exact refSim_sz t down s d most (valid_nodes hv).2
      · have : refSim t down s d most = ([], 1) := by
          unfold refSim simBad1
          simp only [Bool.not_eq_true] at hv
          rw [hv]
          rfl
        rw [this]
        simp)
    generalize refSim t down s d most = R at *
    obtain ⟨l, x⟩ := R
    have hxx : ((x : Int) == x) = true := by simp
    go_wp2_with fail
    refine (same_ok v3 v4 l l _ P3.out P4.out (Nat.le_trans SZ.out.1 (by decide)) (Nat.le_trans SZ.out.1 (by decide)) SZ.out.2 SZ.out.2).mono ?_
    rintro e w5 ⟨rfl, x5⟩
    have E5 := Lib.hid (E4.out.tr x5)
    rw [show decide (l = l) = true from by simp]
    clear x5
    go_wp2
    go_ret
    exact ⟨rfl, E5.out⟩
end Go.Proofs.YtekiomanidimnaaGreatDoor
