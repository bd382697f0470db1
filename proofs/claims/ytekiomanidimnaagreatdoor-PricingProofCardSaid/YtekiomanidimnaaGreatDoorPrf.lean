/- The prices of Dist, with a great number where there is no path, are consistent, and no loopless path is cheaper (plain). -/
import Derived.Test.YtekiomanidimnaaGreatDoorDisW
import Derived.Test.YtekiomanidimnaaGreatDoorCnE
set_option linter.unusedVariables false
set_option linter.unusedSimpArgs false

set_option linter.unusedVariables false
set_option linter.unusedSimpArgs false
namespace Go.Proofs.YtekiomanidimnaaGreatDoor
open Go.RowKit
/-- The potentials, of which the first i have been looked at. -/
def potTo (rq : List Rat) (rk : List Bool) : Nat → List Rat
  | 0 => rq
  | i + 1 => if rk[i]?.getD false then potTo rq rk i else (potTo rq rk i).set i 100000
theorem potTo_len (rq : List Rat) (rk : List Bool) : ∀ i, (potTo rq rk i).length = rq.length
  | 0 => rfl
  | i + 1 => by
    unfold potTo
    split
    · exact potTo_len rq rk i
    · rw [List.length_set]; exact potTo_len rq rk i
theorem potTo_get (rq : List Rat) (rk : List Bool) : ∀ (i v : Nat) (q : Rat), rq[v]? = some q → (potTo rq rk i)[v]? = some (if v < i ∧ rk[v]?.getD false = false then 100000 else q)
  | 0, v, q, h => by simp [potTo, h]
  | i + 1, v, q, h => by
    have ih := potTo_get rq rk i v q h
    have hv := (List.getElem?_eq_some_iff.1 h).1
    unfold potTo
    by_cases e : v = i
    · subst e
      cases hk : rk[v]?.getD false
      · simp only [Bool.false_eq_true, if_false]
        rw [List.getElem?_set_self (by rw [potTo_len]; exact hv)]
        simp
      · simp only [if_true]
        rw [ih]
        simp
    · split
      · rw [ih]
        by_cases h2 : v < i
        · simp [h2, show v < i + 1 by omega]
        · simp [h2, show ¬ v < i + 1 by omega]
      · rw [List.getElem?_set_ne (fun h => e h.symm), ih]
        by_cases h2 : v < i
        · simp [h2, show v < i + 1 by omega]
        · simp [h2, show ¬ v < i + 1 by omega]
theorem cheap_spec {t : Tp} {down : List Bool} {ps : List Rat} {v d : Nat} (hv : validP t = true) (hp : pricedP t ps = true) (hs : v < t.nodes.toNat) : match cheapP t down ps v d with
    | none => ∀ p, ¬ FW t down d v p d
    | some p => FW t down d v p d ∧ (∀ q, FW t down d v q d → prQ ps p ≤ prQ ps q) ∧ p.length < t.nodes.toNat := by
  have hq := pos_of_priced hp
  have h := dij_min (down := down) (s := v) (d := d) hv hq (t.nodes.toNat + 1) (initP t.nodes.toNat v) (init_di hs) (by
    have := undone_le (initP t.nodes.toNat v)
    have h2 : (initP t.nodes.toNat v).length = t.nodes.toNat := by unfold initP; simp
    omega)
  have hr := cheap_ref (down := down) (d := d) hv hp hs
  unfold cheapP at hr ⊢
  cases hc : dijP t down ps d (t.nodes.toNat + 1) (initP t.nodes.toNat v) with
  | none => rw [hc] at h; exact h
  | some p =>
    rw [hc] at h hr
    refine ⟨h.1, fun q hw => ?_, ?_⟩
    · rcases (leL_iff ps p q).1 (h.2 q hw) with h4 | h4
      · rw [h4]; exact Rat.le_refl
      · rcases (bef_iff ps p q).1 h4 with h5 | ⟨h5, _⟩
        · exact Rat.le_of_lt h5
        · rw [h5]; exact Rat.le_refl
    · have hm : p ∈ simP t down v d := by
        cases hl : simP t down v d with
        | nil => rw [hl] at hr; cases hr
        | cons x l =>
          rw [hl] at hr
          unfold refCh at hr
          injection hr with hr
          rw [hr]
          rcases (minL_low ps l x).1 with h6 | h6
          · rw [h6]; simp
          · exact List.mem_cons_of_mem _ h6
      have := extP_plen t down d t.nodes.toNat [] v _ p hm
      simpa using this
/-- The potential of a node. -/
def potV (t : Tp) (down : List Bool) (ps : List Rat) (d v : Nat) : Rat := if (cheapP t down ps v d).isSome then prQ ps ((cheapP t down ps v d).getD []) else 100000
theorem prQ_bound {ps : List Rat} (h : ∀ a : Nat, ps[a]?.getD 0 ≤ 128) : ∀ p : List Nat, prQ ps p ≤ 128 * (p.length : Int)
  | [] => by simp [prQ]
  | a :: p => by
    rw [prQ_cons]
    have ih := prQ_bound h p
    have h1 := h a
    have e : (128 : Rat) * (((a :: p).length : Nat) : Int) = 128 * ((p.length : Nat) : Int) + 128 := by
      rw [List.length_cons, Int.natCast_add]
      simp only [Rat.intCast_add, Rat.mul_add]
      rw [show (128 : Rat) * (((1 : Nat) : Int) : Rat) = 128 by decide +kernel]
    rw [e]
    exact Rat.le_trans (Rat.add_le_add_right.2 ih) (Rat.add_le_add_left.2 h1)
theorem potV_low {t : Tp} {down : List Bool} {ps : List Rat} {d v : Nat} (hv : validP t = true) (hp : pricedP t ps = true) (hs : v < t.nodes.toNat) {p : List Nat} (hw : FW t down d v p d) : potV t down ps d v ≤ prQ ps p := by
  have h := cheap_spec (down := down) (d := d) hv hp hs
  unfold potV
  cases hc : cheapP t down ps v d with
  | none => rw [hc] at h; exact absurd hw (h p)
  | some q =>
    rw [hc] at h
    exact h.2.1 p hw
theorem potV_great {t : Tp} {down : List Bool} {ps : List Rat} {d v : Nat} (hv : validP t = true) (hp : pricedP t ps = true) (hs : v < t.nodes.toNat) (hb : ∀ a : Nat, ps[a]?.getD 0 ≤ 128) (h8 : t.nodes ≤ 8) : potV t down ps d v ≤ 100000 := by
  have h := cheap_spec (down := down) (d := d) hv hp hs
  unfold potV
  cases hc : cheapP t down ps v d with
  | none => exact Rat.le_refl
  | some q =>
    rw [hc] at h
    have h1 := prQ_bound hb q
    have h2 : q.length ≤ 7 := by have := h.2.2; omega
    refine Rat.le_trans h1 ?_
    have h3 : (128 : Rat) * ((q.length : Nat) : Int) ≤ 128 * ((7 : Nat) : Int) := Rat.mul_le_mul_of_nonneg_left (Rat.intCast_le_intCast.2 (by omega)) (by decide)
    exact Rat.le_trans h3 (by decide +kernel)
theorem pot_arc {t : Tp} {down : List Bool} {ps : List Rat} {d a : Nat} (hv : validP t = true) (hp : pricedP t ps = true) (hb : ∀ a : Nat, ps[a]?.getD 0 ≤ 128) (h8 : t.nodes ≤ 8) (ha : a < 2 * t.links.length) (hus : usableP t down a d = true) :
    potV t down ps d (tailP t a).toNat ≤ ps[a]?.getD 0 + potV t down ps d (headP t a).toNat := by
  obtain ⟨u, hu, hu2⟩ := tailP_ok hv ha
  obtain ⟨h, hh, hh2⟩ := headP_ok hv ha
  rw [hu, hh, Int.toNat_natCast, Int.toNat_natCast]
  have hpos := pos_of_priced hp
  have hm : a ∈ leavP t u := by
    unfold leavP leavTo
    rw [List.mem_filter, List.mem_range]
    exact ⟨ha, by simp [hu]⟩
  have hhN : h < t.nodes.toNat := by omega
  have huN : u < t.nodes.toNat := by omega
  have hs := cheap_spec (down := down) (d := d) hv hp hhN
  cases hc : cheapP t down ps h d with
  | none =>
    have e : potV t down ps d h = 100000 := by unfold potV; rw [hc]; rfl
    rw [e]
    have h1 := potV_great (down := down) (d := d) hv hp huN hb h8
    have h2 := Rat.add_le_add_right (c := 100000) |>.2 (hpos a)
    rw [Rat.zero_add] at h2
    exact Rat.le_trans h1 h2
  | some p =>
    rw [hc] at hs
    have e : potV t down ps d h = prQ ps p := by unfold potV; rw [hc]; rfl
    rw [e]
    have hw : FW t down d u (a :: p) d := ⟨hm, hus, by rw [hh, Int.toNat_natCast]; exact hs.1⟩
    have := potV_low hv hp huN hw
    rw [prQ_cons, Rat.add_comm] at this
    exact this
theorem potV_end {t : Tp} {down : List Bool} {ps : List Rat} {d : Nat} (hv : validP t = true) (hp : pricedP t ps = true) (hd : d < t.nodes.toNat) : potV t down ps d d = 0 := by
  have hpos := pos_of_priced hp
  have h1 := potV_low (down := down) hv hp hd (show FW t down d d [] d from rfl)
  have h := cheap_spec (down := down) (d := d) hv hp hd
  refine Rat.le_antisymm h1 ?_
  unfold potV
  cases hc : cheapP t down ps d d with
  | none => rw [hc] at h; exact absurd (show FW t down d d [] d from rfl) (h [])
  | some q => exact prQ_pos hpos q
/-- The potentials of the statement. -/
theorem pot_at {t : Tp} {down : List Bool} {ps : List Rat} {N d : Nat} (hN : t.nodes = (N : Int)) (hb : bad1 t down ps = false) (hd : d < N) : (diP t down ps (d : Int)).1.length = N ∧ (diP t down ps (d : Int)).2.1.length = N ∧ ∀ v, v < N → (potTo (diP t down ps (d : Int)).1 (diP t down ps (d : Int)).2.1 N)[v]? = some (potV t down ps d v) := by
  have hn : ndB t.nodes (d : Int) = true := by unfold ndB; rw [hN]; simp; omega
  have hNN : t.nodes.toNat = N := by omega
  have e : diP t down ps (d : Int) = ((List.range N).map (fun v : Nat => prQ ps (chP t down ps (v : Int) d).1), (List.range N).map (fun v : Nat => decide ((chP t down ps (v : Int) d).2 = 0)), 0) := by
    unfold diP
    rw [hb, hn, hNN]
    rfl
  rw [e]
  refine ⟨by simp, by simp, fun v hv => ?_⟩
  obtain ⟨c1, c2⟩ := chP_cheap (d := d) hb (show v < t.nodes.toNat by omega) (show d < t.nodes.toNat by omega)
  have h1 : ((List.range N).map (fun v : Nat => prQ ps (chP t down ps (v : Int) d).1))[v]? = some (prQ ps ((cheapP t down ps v d).getD [])) := by
    rw [List.getElem?_map, List.getElem?_range hv, Option.map_some, c1]
  have h2 : ((List.range N).map (fun v : Nat => decide ((chP t down ps (v : Int) d).2 = 0)))[v]? = some (cheapP t down ps v d).isSome := by
    rw [List.getElem?_map, List.getElem?_range hv, Option.map_some, c2]
  simp only []
  rw [potTo_get _ _ N v _ h1, h2, Option.getD_some]
  unfold potV
  cases cheapP t down ps v d <;> simp [hv]
theorem cmpQ_gt {a b : Rat} : cmpQ a b > 0 ↔ b < a := by
  unfold cmpQ
  split
  · rename_i h
    simp only [gt_iff_lt]
    exact ⟨fun x => by omega, fun x => absurd (rat_lt_trans h x) Rat.lt_irrefl⟩
  · rename_i h
    split
    · rename_i h2; subst h2; simp [Rat.lt_irrefl]
    · rename_i h2
      simp only [gt_iff_lt]
      refine ⟨fun _ => ?_, fun _ => by decide⟩
      rcases rat_tri a b with x | x | x
      · exact absurd x h
      · exact absurd x h2
      · exact x
theorem cons_true {t : Tp} {down : List Bool} {ps pot : List Rat} {N d : Nat} (hN : t.nodes = (N : Int)) (hb : bad1 t down ps = false) (hd : d < N) (hq : ∀ a : Nat, ps[a]?.getD 0 ≤ 128) (h8 : t.nodes ≤ 8) (hl : pot.length = N) (hpot : ∀ v, v < N → pot[v]? = some (potV t down ps d v)) : consP t down ps pot (d : Int) = true := by
  have hh : validP t = true ∧ pricedP t ps = true := by
    have := hb
    unfold bad1 at this
    simp at this
    exact ⟨this.1.1, this.2⟩
  have hpl := (bad1_false hb).2.2
  have hA : ∀ v : Nat, v < N → potA pot (v : Int) = potV t down ps d v := fun v hv => by
    unfold potA; rw [Int.toNat_natCast, hpot v hv]; rfl
  unfold consP
  rw [hb]
  simp only [Bool.not_false, Bool.true_and, Bool.and_eq_true]
  refine ⟨?_, ?_⟩
  · unfold consG
    rw [hA d hd, potV_end hh.1 hh.2 (by omega)]
    simp [hl, hN]
    exact ⟨by omega, by decide⟩
  · rw [List.all_eq_true]
    intro a ha
    rw [List.mem_range, hpl] at ha
    unfold consA
    cases hus : usableP t down a (d : Int)
    · rfl
    · obtain ⟨u, hu, hu2⟩ := tailP_ok hh.1 ha
      obtain ⟨h, hh', hh2⟩ := headP_ok hh.1 ha
      have := pot_arc hh.1 hh.2 hq h8 ha hus
      rw [hu, hh', Int.toNat_natCast, Int.toNat_natCast] at this
      rw [hu, hh', hA u (by omega), hA h (by omega)]
      simp only [Bool.not_true, Bool.false_or, Bool.not_eq_true', decide_eq_false_iff_not, cmpQ_gt]
      exact Rat.not_lt.2 this
theorem sim_low {t : Tp} {down : List Bool} {ps : List Rat} {v d : Nat} (hb : bad1 t down ps = false) (hs : v < t.nodes.toNat) {p : List Nat} (h : p ∈ simP t down v d) : ¬ cmpQ (prQ ps p) (potV t down ps d v) < 0 := by
  have hh : validP t = true ∧ pricedP t ps = true := by
    have := hb
    unfold bad1 at this
    simp at this
    exact ⟨this.1.1, this.2⟩
  have := potV_low hh.1 hh.2 hs (ext_walk hh.1 _ [] v _ p rfl h)
  rw [cmpQ_lt]
  exact Rat.not_lt.2 this
theorem frQ_le {x : Fr} (h : x.wf) : frQ x ≤ 128 := by
  obtain ⟨⟨h1, h2⟩, h3, h4⟩ := h
  have hd : frD x ≠ 0 := by unfold frD; split <;> omega
  have hb : (frQ x).num.natAbs ≤ 128 := by
    unfold frQ ofQ
    rw [mkQ_abs _ (by omega)]
    have h5 := Nat.div_le_self x.num.natAbs (x.num.natAbs.gcd (frD x).natAbs)
    omega
  rw [Rat.le_iff]
  have hden : 1 ≤ (frQ x).den := Rat.den_pos _
  have e1 : (128 : Rat).num = 128 := rfl
  have e2 : (128 : Rat).den = 1 := rfl
  rw [e1, e2]
  have h6 : (frQ x).num ≤ 128 := by omega
  have h7 : (128 : Int) ≤ 128 * ((frQ x).den : Int) := by omega
  omega
theorem Paths.at3 {w : World} {B : Nat} {A : Option Addr} {n c : Nat} {ps : List (List Nat)} (h : Paths w B (.slice A n c) ps) {i : Nat} {p : List Nat} (hp : ps[i]? = some p) :
    ∃ (b o : Nat) (A' : Option Addr) (c' : Nat), A = some ⟨b, o, none⟩ ∧ b < w.heap.size ∧ w.cell? ⟨b, o + i, none⟩ = some (.slice A' p.length c') ∧ p.length ≤ c' ∧ RdT w 3 A' (ints p) := by
  obtain ⟨cells, h1, h2, h3⟩ := h.ex
  have hlt := (List.getElem?_eq_some_iff.1 hp).1
  obtain ⟨A', c', j1, j2, j3⟩ := h3 i p hp
  rcases h2.2 with ⟨k1, k2⟩ | ⟨g', cap, cur, k3, k4, k5, k6, k7, k8, k9⟩
  · omega
  · injection k3 with e1 e2 e3
    refine ⟨g', 0, A', c', e1, lt_of_get k5, ?_, j2, j3⟩
    have e : w.cell? ⟨g', 0 + i, none⟩ = cur[i]? := by unfold World.cell?; simp [k5]
    rw [e, ← j1, ← k9, List.getElem?_take, if_pos (by omega)]; simp
theorem ints_iintsG (x : List Nat) : ints x = iints (x.map fun a : Nat => (a : Int)) := by unfold ints iints; rw [List.map_map]; rfl
theorem priceP_natG {ps : List Rat} {n : Nat} (hn : ps.length = n) {x : List Nat} (h : ∀ a ∈ x, a < n) : priceP ps (x.map fun a : Nat => (a : Int)) = (prQ ps x, 0) := by
  have hg : goodP ps.length (x.map fun a : Nat => (a : Int)) = true := by
    unfold goodP
    rw [List.all_map, List.all_eq_true]
    intro a ha
    have := h a ha
    rw [hn]
    simp
    omega
  unfold priceP prI
  rw [if_pos hg, List.map_map]
  have : (Int.toNat ∘ fun a : Nat => (a : Int)) = id := by funext a; simp
  rw [this, List.map_id]
theorem priceN_ok (PP : Option Addr) (n cp : Nat) (ps : List Rat) (hn : ps.length = n) (AP : Option Addr) (m ca : Nat) (x : List Nat) (hm : x.length = m) (w : World) (hq : QL w PP ps) (hps : ∀ q ∈ ps, SmQ q) (hr : Rd w AP (ints x)) (hx : ∀ a ∈ x, a < n) (hm40 : m ≤ 40) (hn40 : n ≤ 1000) :
    Calls Tryz.prog 28 #[.slice PP n cp, .slice AP m ca] w (PricePost w (prQ ps x, 0)) := by
  have := price_ok PP n cp ps hn AP m ca (x.map fun a : Nat => (a : Int)) (by rw [List.length_map]; exact hm) w hq hps (by rw [← ints_iintsG]; exact hr) hm40 hn40
  rw [priceP_natG hn hx] at this
  exact this
end Go.Proofs.YtekiomanidimnaaGreatDoor
