/- waypointlaw42.PricingSimple: the walk: it returns true. -/
import Derived.Test.YtjmkcckbbgpkeaaGreatDoorML
import Derived.Test.YtjmkcckbbgpkeaaGreatDoorOpen
set_option linter.unusedVariables false
set_option linter.unusedSimpArgs false

namespace Go.Proofs.YtjmkcckbbgpkeaaGreatDoor
open Go.RowKit
theorem pow_small {L N : Nat} (h1 : L ≤ 11) (h2 : N ≤ 8) : (2 * L + 1) ^ N ≤ 2 ^ 42 := by
  exact Nat.le_trans (Nat.pow_le_pow_left (show 2 * L + 1 ≤ 23 by omega) N) (Nat.le_trans (Nat.pow_le_pow_right (by decide) h2) (by decide))
theorem extP_plen (t : Tp) (down : List Bool) (d : Nat) : ∀ (f : Nat) (path : List Nat) (n : Nat) (seen : List Bool), ∀ p ∈ extP t down d f path n seen, p.length < path.length + f
  | 0, path, n, seen, p, hp => by simp [extP] at hp
  | f + 1, path, n, seen, p, hp => by
    unfold extP at hp
    split at hp
    · simp at hp; subst hp; omega
    · split at hp
      · simp at hp
      · obtain ⟨a, _, h⟩ := List.mem_flatMap.1 hp
        split at h
        · simp at h
        · have := extP_plen t down d f _ _ _ p h
          simp at this
          omega
theorem refSim_sz (t : Tp) (down : List Bool) (s d most : Int) (hn : t.nodes ≤ 64) : (refSim t down s d most).1.length ≤ 1000 ∧ ∀ p ∈ (refSim t down s d most).1, p.length ≤ 1000 := by
  unfold refSim
  split
  · simp
  · rename_i hb
    split
    · simp
    · split
      · simp
      · rename_i hl
        simp only
        have hm : most ≤ 1000 := by
          simp [simBad1] at hb
          omega
        refine ⟨by omega, fun p hp => ?_⟩
        have := extP_plen t down _ _ _ _ _ p hp
        simp at this
        omega
theorem valid_nodes {t : Tp} (h : validP t = true) : 1 ≤ t.nodes ∧ t.nodes ≤ 64 := by
  unfold validP headOk inB at h
  simp at h
  exact h.1.1.1
/-- The arguments t and q as they lie in memory. -/
structure ArgR (w : World) (t : Tp) (AO : Option Addr) (co : Nat) (AL : Option Addr) (cl : Nat) (AD : Option Addr) (down : List Bool) (cd : Nat) (AF : Option Addr) (fr : List Fr) (cf : Nat) (s d : Int) : Prop where
  nodes : i64 t.nodes
  lo : t.over.length ≤ co
  ll : t.links.length ≤ cl
  over : Rd w AO (bools t.over)
  links : Rd w AL (t.links.flatMap Lk.cells)
  wf : ∀ l ∈ t.links, l.wf
  ld : down.length ≤ cd
  dn : Rd w AD (bools down)
  lf : fr.length ≤ cf
  frs : Rd w AF (fr.flatMap Fr.cells)
  fwf : ∀ x ∈ fr, x.wf
  is : i64 s
  id_ : i64 d
theorem ArgR.top {w : World} {t : Tp} {AO : Option Addr} {co : Nat} {AL : Option Addr} {cl : Nat} {AD : Option Addr} {down : List Bool} {cd : Nat} {AF : Option Addr} {fr : List Fr} {cf : Nat} {s d : Int} (h : ArgR w t AO co AL cl AD down cd AF fr cf s d)
    (h1 : t.links.length ≤ 11) (h2 : t.over.length ≤ 20) : TopR w t AO co AL cl := ⟨h.nodes, h.lo, h.ll, by omega, by omega, h.over, h.links, h.wf⟩
theorem ArgR.keep {w w' : World} {t : Tp} {AO : Option Addr} {co : Nat} {AL : Option Addr} {cl : Nat} {AD : Option Addr} {down : List Bool} {cd : Nat} {AF : Option Addr} {fr : List Fr} {cf : Nat} {s d : Int} (h : ArgR w t AO co AL cl AD down cd AF fr cf s d) (hx : Ext w w') : ArgR w' t AO co AL cl AD down cd AF fr cf s d :=
  ⟨h.nodes, h.lo, h.ll, h.over.keep hx, h.links.keep hx, h.wf, h.ld, h.dn.keep hx, h.lf, h.frs.keep hx, h.fwf, h.is, h.id_⟩
end Go.Proofs.YtjmkcckbbgpkeaaGreatDoor
