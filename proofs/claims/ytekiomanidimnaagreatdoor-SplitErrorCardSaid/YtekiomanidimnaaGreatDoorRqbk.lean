/- Made rows of rational numbers of waypointref02 in memory. -/
import Derived.Test.YtekiomanidimnaaGreatDoorMW
import Derived.Test.YtekiomanidimnaaGreatDoorMU
set_option linter.unusedVariables false
set_option linter.unusedSimpArgs false

namespace Go.Proofs.YtekiomanidimnaaGreatDoor
open Go.RowKit
theorem RQC.other {w w' : World} {cs : List Value} {q : Rat} {g : Nat} {t' : TypeId} {cs' : Array Value} (h : RQC w cs q) (hg : w.grownBy w' (some g)) (hb : Blk w g t' cs') (hne : 3 ≠ t') : RQC w' cs q := by
  obtain ⟨neg, A, n, c, A', n', c', e, h1⟩ := h
  exact ⟨neg, A, n, c, A', n', c', e, h1.other hg hb hne⟩
/-- A made row of rational numbers. -/
def RQB (w : World) (g : Nat) (qs : List Rat) : Prop :=
  ∃ css : List (List Value), css.length = qs.length ∧ (∀ cs ∈ css, cs.length = 3) ∧ Blk w g 51 css.flatten.toArray ∧ ∀ (i : Nat) (q : Rat), qs[i]? = some q → ∃ cs, css[i]? = some cs ∧ RQC w cs q
theorem RQB.keep {w w' : World} {g : Nat} {qs : List Rat} (h : RQB w g qs) (hx : Ext w w') : RQB w' g qs := by
  obtain ⟨css, h1, h2, h3, h4⟩ := h
  refine ⟨css, h1, h2, h3.keep hx, fun i q hl => ?_⟩
  obtain ⟨cs, k1, k2⟩ := h4 i q hl
  exact ⟨cs, k1, RQC.keep _ _ _ _ k2 hx⟩
theorem RQB.lt {w : World} {g : Nat} {qs : List Rat} (h : RQB w g qs) : g < w.heap.size := by
  obtain ⟨css, _, _, h3, _⟩ := h
  exact h3.lt
theorem RQB.blk {w : World} {g : Nat} {qs : List Rat} (h : RQB w g qs) : ∃ cs, Blk w g 51 cs := by
  obtain ⟨css, _, _, h3, _⟩ := h
  exact ⟨_, h3⟩
theorem RQB.at_ {w : World} {g : Nat} {qs : List Rat} (h : RQB w g qs) {i : Nat} {q : Rat} (hl : qs[i]? = some q) :
    ∃ (neg : Bool) (A : Option Addr) (n c : Nat) (A' : Option Addr) (n' c' : Nat),
      (w.cell? ⟨g, i * 3, none⟩ = some (.bool neg) ∧ w.cell? ⟨g, i * 3 + 1, none⟩ = some (.slice A n c) ∧ w.cell? ⟨g, i * 3 + 2, none⟩ = some (.slice A' n' c')) ∧
      (w.frozen? ⟨g, i * 3, none⟩ = false ∧ w.frozen? ⟨g, i * 3 + 1, none⟩ = false ∧ w.frozen? ⟨g, i * 3 + 2, none⟩ = false) ∧ RQR w neg A n c A' n' c' q := by
  obtain ⟨css, h1, h2, h3, h4⟩ := h
  obtain ⟨cs, k1, neg, A, n, c, A', n', c', rfl, k2⟩ := h4 i q hl
  have hi := (List.getElem?_eq_some_iff.1 hl).1
  have key : ∀ k, k < 3 → w.cell? ⟨g, i * 3 + k, none⟩ = ([.bool neg, .slice A n c, .slice A' n' c'] : List Value)[k]? := fun k hk => by
    rw [h3.cell, List.getElem?_toArray, flatten_get css h2 i k (by omega) hk, k1]; rfl
  exact ⟨neg, A, n, c, A', n', c', ⟨key 0 (by omega), key 1 (by omega), key 2 (by omega)⟩, ⟨h3.frozen _, h3.frozen _, h3.frozen _⟩, k2⟩
theorem RQB.other {w w' : World} {g g' : Nat} {qs : List Rat} {t' : TypeId} {cs' : Array Value} (h : RQB w g qs) (hg : w.grownBy w' (some g')) (hb : Blk w g' t' cs') (hne : 3 ≠ t') (hgg : g ≠ g') : RQB w' g qs := by
  obtain ⟨css, h1, h2, h3, h4⟩ := h
  refine ⟨css, h1, h2, (hg.block g h3.lt (fun e => hgg (by injection e))).trans h3, fun i q hq => ?_⟩
  obtain ⟨cs, k1, k2⟩ := h4 i q hq
  exact ⟨cs, k1, k2.other hg hb hne⟩
theorem RQB.put {w : World} {g m : Nat} {qs : List Rat} {q : Rat} {neg : Bool} {A : Option Addr} {n c : Nat} {A' : Option Addr} {n' c' : Nat} (h : RQB w g qs) (hm : m < qs.length) (hl : RQR w neg A n c A' n' c' q) :
    RQB (((w.setCell ⟨g, m * 3, none⟩ (.bool neg)).setCell ⟨g, m * 3 + 1, none⟩ (.slice A n c)).setCell ⟨g, m * 3 + 2, none⟩ (.slice A' n' c')) g (qs.set m q) := by
  obtain ⟨css, h1, h2, h3, h4⟩ := h
  have g2 := ((grown_set w g (m * 3) (.bool neg)).trans (grown_set _ g (m * 3 + 1) (.slice A n c))).trans (grown_set _ g (m * 3 + 2) (.slice A' n' c'))
  have hml : m < css.length := by omega
  obtain ⟨cs, hcs⟩ : ∃ cs, css[m]? = some cs := ⟨_, List.getElem?_eq_getElem hml⟩
  have hc3 : cs.length = 3 := h2 cs (List.mem_of_getElem? hcs)
  have e0 : css = css.set m cs := by
    apply List.ext_getElem?
    intro i
    by_cases e : m = i
    · subst e; rw [List.getElem?_set_self hml]; exact hcs
    · rw [List.getElem?_set_ne e]
  have b := ((h3.set_ (m * 3 + 0) (.bool neg)).set_ (m * 3 + 1) (.slice A n c)).set_ (m * 3 + 2) (.slice A' n' c')
  rw [List.setIfInBounds_toArray, List.setIfInBounds_toArray, List.setIfInBounds_toArray, e0, st_gen css h2 m hml cs 0 _ hc3 (by omega), st_gen css h2 m hml _ 1 _ (by simp [hc3]) (by omega), st_gen css h2 m hml _ 2 _ (by simp [hc3]) (by omega)] at b
  have e3 : ((cs.set 0 (.bool neg)).set 1 (.slice A n c)).set 2 (.slice A' n' c') = [.bool neg, .slice A n c, .slice A' n' c'] := by
    rcases cs with _ | ⟨a0, _ | ⟨a1, _ | ⟨a2, _ | ⟨a3, r⟩⟩⟩⟩
    all_goals first | (simp at hc3; done) | rfl
  rw [e3] at b
  refine ⟨css.set m [.bool neg, .slice A n c, .slice A' n' c'], by simp [h1], fun c hcc => ?_, b, fun i p hi => ?_⟩
  · rcases List.mem_or_eq_of_mem_set hcc with h | h
    · exact h2 c h
    · rw [h]; rfl
  · by_cases e : m = i
    · subst e
      rw [List.getElem?_set_self hm] at hi
      injection hi with hi
      subst hi
      exact ⟨_, List.getElem?_set_self hml, neg, A, n, c, A', n', c', rfl, hl.other g2 h3 (by decide)⟩
    · rw [List.getElem?_set_ne e] at hi
      obtain ⟨cs', k1, k2⟩ := h4 i p hi
      exact ⟨cs', by rw [List.getElem?_set_ne e]; exact k1, k2.other g2 h3 (by decide)⟩
theorem RQB.ql {w : World} {g : Nat} {qs : List Rat} (h : RQB w g qs) : QLg RQC w (some ⟨g, 0, none⟩) qs := by
  obtain ⟨css, h1, h2, h3, h4⟩ := h
  exact ⟨css, h1, h2, (RdT.of_blk h3 rfl).rd, h4⟩
theorem run_make_rqs (n : Nat) (hn : n ≤ 1000) (w : World) :
    (Instr.makeSlice 37 (.int .i64 (n : Int)) (.int .i64 (n : Int))).run Tryz.prog w = .ok (.slice (some ⟨w.heap.size, 0, none⟩) n n) (w.alloc (.cells (madeCells #[.bool false, .slice none 0 0, .slice none 0 0] (n * 3)) 51)) := by
  obtain ⟨i, hi, hz, hs, hb⟩ := info_parts Tryz.info51
  have h63 : (i.bytes : Int) * (n : Int) ≤ 281474976710656 := by rw [hb]; omega
  have hr := run_make (P := Tryz.prog) w 37 51 i _ Tryz.underlying37 hi hz .i64 .i64 n n (by omega) (by omega) h63 (by omega)
  simp only [Int.toNat_natCast] at hr
  rw [hs] at hr
  exact hr
theorem RQB.made (w : World) (N : Nat) : RQB (w.alloc (.cells (madeCells #[.bool false, .slice none 0 0, .slice none 0 0] (N * 3)) 51)) w.heap.size (List.replicate N 0) := by
  refine ⟨List.replicate N [.bool false, .slice none 0 0, .slice none 0 0], by simp, fun cs h => by rw [List.eq_of_mem_replicate h]; rfl, ?_, fun i q hq => ?_⟩
  · rw [made_flatten3]; exact Blk.new _ _ _
  · rw [List.getElem?_replicate] at hq
    split at hq
    · rename_i hi
      injection hq with hq
      subst hq
      exact ⟨_, by rw [List.getElem?_replicate, if_pos hi], false, none, 0, 0, none, 0, 0, rfl, rqR_nil _⟩
    · cases hq
end Go.Proofs.YtekiomanidimnaaGreatDoor
