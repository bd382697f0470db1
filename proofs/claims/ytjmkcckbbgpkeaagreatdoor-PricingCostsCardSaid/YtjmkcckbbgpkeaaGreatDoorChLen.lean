/- The cheapest path is short (plain); contracts of Cheapest with a length given apart. -/
import Derived.Test.YtjmkcckbbgpkeaaGreatDoorMJ
import Derived.Test.YtjmkcckbbgpkeaaGreatDoorLawA
set_option linter.unusedVariables false
set_option linter.unusedSimpArgs false

namespace Go.Proofs.YtjmkcckbbgpkeaaGreatDoor
open Go.RowKit
def bdL (ls : List Lb) (K : Nat) : Prop := ∀ l ∈ ls, l.arcs.length ≤ K
theorem arcsOf_bd {ls : List Lb} {K : Nat} (h : bdL ls K) (n : Nat) : (arcsOf ls n).length ≤ K := by
  unfold arcsOf
  cases hl : ls[n]? with
  | none => simp
  | some l => exact h l (List.mem_of_getElem? hl)
theorem relax_bd {t : Tp} {down : List Bool} {ps : List Rat} {d n a K : Nat} {ls : List Lb} (h : bdL ls K) : bdL (relaxP t down ps d n ls a) (K + 1) := by
  have hK : bdL ls (K + 1) := fun l hl => Nat.le_succ_of_le (h l hl)
  unfold relaxP
  split
  · exact hK
  · split
    · exact hK
    · split
      · intro l hl
        rcases List.mem_or_eq_of_mem_set hl with h1 | h1
        · exact hK l h1
        · subst h1
          have := arcsOf_bd h n
          simp
          omega
      · exact hK
theorem fold_bd {t : Tp} {down : List Bool} {ps : List Rat} {d n : Nat} : ∀ (al : List Nat) (ls : List Lb) (K : Nat), bdL ls K → bdL (al.foldl (relaxP t down ps d n) ls) (K + al.length)
  | [], _, _, h => h
  | a :: al, ls, K, h => by
    have := fold_bd (t := t) (down := down) (ps := ps) (d := d) (n := n) al _ (K + 1) (relax_bd (t := t) (down := down) (ps := ps) (d := d) (n := n) (a := a) h)
    rw [List.foldl_cons, List.length_cons]
    rw [show K + (al.length + 1) = K + 1 + al.length by omega]
    exact this
theorem mark_bd {ls : List Lb} {n K : Nat} (h : bdL ls K) : bdL (markP ls n) K := by
  unfold markP
  split
  · exact h
  · rename_i l hl
    intro x hx
    rcases List.mem_or_eq_of_mem_set hx with h1 | h1
    · exact h x h1
    · subst h1; exact h l (List.mem_of_getElem? hl)
theorem leav_bd (t : Tp) (n : Nat) : (leavP t n).length ≤ 2 * t.links.length := by
  unfold leavP leavTo
  exact Nat.le_trans (List.length_filter_le _ _) (by simp)
theorem dij_bd {t : Tp} {down : List Bool} {ps : List Rat} {d : Nat} : ∀ (f : Nat) (ls : List Lb) (K : Nat), bdL ls K → ∀ p, dijP t down ps d f ls = some p → p.length ≤ K + f * (2 * t.links.length)
  | 0, _, _, _, p, hp => by simp [dijP] at hp
  | f + 1, ls, K, h, p, hp => by
    unfold dijP at hp
    split at hp
    · cases hp
    · split at hp
      · injection hp with hp
        rw [← hp]
        exact Nat.le_trans (arcsOf_bd h _) (by omega)
      · have := dij_bd f _ _ (fold_bd (leavP t (firstP ps ls).toNat) _ K (mark_bd h)) p hp
        have h2 := leav_bd t (firstP ps ls).toNat
        rw [Nat.add_mul, Nat.one_mul]
        omega
theorem ch_len (t : Tp) (down : List Bool) (ps : List Rat) (s d : Int) (hl : t.links.length ≤ 11) : (chP t down ps s d).1.length ≤ 2000 := by
  unfold chP
  split
  · simp
  · rename_i hb
    split
    · simp
    · split
      · simp
      · rename_i p hp
        have hv : validP t = true := by
          unfold bad1 at hb
          cases h : validP t
          · rw [h] at hb; simp at hb
          · rfl
        have hn := valid_nodes hv
        have h0 : bdL (initP t.nodes.toNat s.toNat) 0 := by
          intro l hl
          unfold initP at hl
          rcases List.mem_or_eq_of_mem_set hl with h1 | h1
          · rw [List.eq_of_mem_replicate h1]; simp
          · rw [h1]; simp
        have := dij_bd _ _ 0 h0 p hp
        have h2 : (t.nodes.toNat + 1) * (2 * t.links.length) ≤ 65 * 22 := Nat.mul_le_mul (by omega) (by omega)
        simp only
        omega
theorem cheapest_ok' (t : Tp) (AO : Option Addr) (co : Nat) (AL : Option Addr) (cl : Nat) (AD : Option Addr) (cd : Nat) (down : List Bool) (PP : Option Addr) (np cp : Nat) (ps : List Rat) (hnp : ps.length = np) (P : Nat) (s d : Int) (w : World) (ht : TopR w t AO co AL cl) (hdn : Rd w AD (bools down)) (hcd : down.length ≤ 281474976710656) (hdc : down.length ≤ cd) (hps : QL w PP ps) (hpl : np ≤ 1000000) (hP : 1 ≤ P) (hP2 : P ≤ 1000000) (hsz : ∀ q ∈ ps, SzQ q P) :
    Calls Tryz.prog 10 #[.agg #[.int .i64 t.nodes, .slice AO t.over.length co, .slice AL t.links.length cl], .slice AD down.length cd, .slice PP np cp, .int .i64 s, .int .i64 d] w (ChPost w ps (chP t down ps s d)) := by
  subst hnp
  exact cheapest_ok t AO co AL cl AD cd down PP cp ps P s d w ht hdn hcd hdc hps hpl hP hP2 hsz
end Go.Proofs.YtjmkcckbbgpkeaaGreatDoor
