/- pricing.Simple's first closure: is the end still in reach? -/
/- The pruned search of pricing.Simple, as a plain function: it finds what the reference finds, up to the limit. -/
/- The memory of pricing.Simple's search: what the closures share, and what changes. -/
import Derived.Test.YtjmkcckbbgpkeaaGreatDoorMD
import Derived.Test.YtjmkcckbbgpkeaaGreatDoorShelf
import Derived.Deep.LoopGhost
set_option linter.unusedVariables false
set_option linter.unusedSimpArgs false

namespace Go.Proofs.YtjmkcckbbgpkeaaGreatDoor
open Go.RowKit
/-- One arc of the search in breadth. -/
def bfsArc (t : Tp) (down : List Bool) (d : Nat) (s : List Bool × List Nat) (a : Nat) : List Bool × List Nat :=
  if !(s.1[(headP t a).toNat]?.getD false) && usableP t down a d then (s.1.set (headP t a).toNat true, s.2 ++ [(headP t a).toNat]) else s
def bfs (t : Tp) (down : List Bool) (d : Nat) : Nat → List Bool → List Nat → List Bool
  | 0, seen, _ => seen
  | _ + 1, seen, [] => seen
  | f + 1, seen, m :: q => if seen[d]?.getD false then seen else bfs t down d f ((leavP t m).foldl (bfsArc t down d) (seen, q)).1 ((leavP t m).foldl (bfsArc t down d) (seen, q)).2
def leftP (t : Tp) (down : List Bool) (d : Nat) (vis : List Bool) (n : Nat) : Bool := (bfs t down d (unset (vis.set n true) + 1) (vis.set n true) [n])[d]?.getD false
theorem bfsArc_measure (t : Tp) (down : List Bool) (d : Nat) (s : List Bool × List Nat) (a : Nat) (h : (headP t a).toNat < s.1.length) :
    unset (bfsArc t down d s a).1 + (bfsArc t down d s a).2.length = unset s.1 + s.2.length ∧ (bfsArc t down d s a).1.length = s.1.length := by
  unfold bfsArc
  split
  · rename_i hc
    simp only [Bool.and_eq_true, Bool.not_eq_true'] at hc
    have : s.1[(headP t a).toNat]? = some false := by
      rw [List.getElem?_eq_getElem h] at hc ⊢
      simpa using hc.1
    have := unset_set this
    refine ⟨?_, by simp⟩
    simp only [List.length_append, List.length_singleton]
    omega
  · exact ⟨rfl, rfl⟩
theorem bfsFold_measure (t : Tp) (down : List Bool) (d : Nat) (l : List Nat) (s : List Bool × List Nat) (h : ∀ a ∈ l, (headP t a).toNat < s.1.length) :
    unset (l.foldl (bfsArc t down d) s).1 + (l.foldl (bfsArc t down d) s).2.length = unset s.1 + s.2.length ∧ (l.foldl (bfsArc t down d) s).1.length = s.1.length := by
  induction l generalizing s with
  | nil => exact ⟨rfl, rfl⟩
  | cons a l ih =>
    have h1 := bfsArc_measure t down d s a (h a (by simp))
    have h2 := ih (bfsArc t down d s a) (fun b hb => by rw [h1.2]; exact h b (by simp [hb]))
    rw [List.foldl_cons]
    exact ⟨h2.1.trans h1.1, h2.2.trans h1.2⟩
theorem bfsFold_mem (t : Tp) (down : List Bool) (d N : Nat) (l : List Nat) (s : List Bool × List Nat) (h : ∀ a ∈ l, (headP t a).toNat < N) (hs : ∀ x ∈ s.2, x < N) : ∀ x ∈ (l.foldl (bfsArc t down d) s).2, x < N := by
  induction l generalizing s with
  | nil => exact hs
  | cons a l ih =>
    rw [List.foldl_cons]
    refine ih _ (fun b hb => h b (by simp [hb])) ?_
    unfold bfsArc
    split
    · intro x hx
      simp only [List.mem_append, List.mem_singleton] at hx
      rcases hx with hx | rfl
      · exact hs x hx
      · exact h a (by simp)
    · exact hs
/-- What the closures capture. -/
structure Env (w : World) (t : Tp) (AO : Option Addr) (co : Nat) (AL : Option Addr) (cl : Nat) (AD : Option Addr) (cd : Nat) (down : List Bool) (d N gv gs gd gl gll gt gw : Nat) (vis : List Bool) : Prop where
  top : TopR w t AO co AL cl
  dn : Rd w AD (bools down)
  vv : Blk w gv 22 #[.slice (some ⟨gs, 0, none⟩) N N]
  row : Blk w gs 4 (bools vis).toArray
  dd : Blk w gd 3 #[.int .i64 d]
  lv : Blk w gl 45 #[.slice (some ⟨gll, 0, none⟩) N N]
  ll : LL w gll N (leavP t)
  tt : Blk w gt 25 #[.int .i64 t.nodes, .slice AO t.over.length co, .slice AL t.links.length cl]
  ww : Blk w gw 22 #[.slice AD down.length cd]
theorem Env.keep {w w' : World} {t : Tp} {AO : Option Addr} {co : Nat} {AL : Option Addr} {cl : Nat} {AD : Option Addr} {cd : Nat} {down : List Bool} {d N gv gs gd gl gll gt gw : Nat} {vis : List Bool} (h : Env w t AO co AL cl AD cd down d N gv gs gd gl gll gt gw vis) (hx : Ext w w') : Env w' t AO co AL cl AD cd down d N gv gs gd gl gll gt gw vis :=
  ⟨h.top.keep hx, h.dn.keep hx, h.vv.keep hx, h.row.keep hx, h.dd.keep hx, h.lv.keep hx, h.ll.keep hx, h.tt.keep hx, h.ww.keep hx⟩
theorem unset_le (l : List Bool) : unset l ≤ l.length := List.count_le_length
theorem bools_set (l : List Bool) (rest : List Value) (k : Nat) (hk : k < l.length) (b : Bool) : (bools l ++ rest).toArray.setIfInBounds k (.bool b) = (bools (l.set k b) ++ rest).toArray := by
  apply Array.ext'
  rw [Array.toList_setIfInBounds]
  simp only [bools, List.map_set]
  rw [List.set_append_left _ _ (by simpa using hk)]
theorem bools_get (l : List Bool) (rest : List Value) (k : Nat) (hk : k < l.length) : (bools l ++ rest).toArray[k]? = some (.bool (l[k]?.getD false)) := by
  simp [bools, List.getElem?_append, hk]
end Go.Proofs.YtjmkcckbbgpkeaaGreatDoor


namespace Go.Proofs.YtjmkcckbbgpkeaaGreatDoor
open Go.RowKit
/-- The search of pricing.Simple. -/
def srchP (t : Tp) (down : List Bool) (d most : Nat) : Nat → List Nat → Nat → List Bool → List (List Nat) → List (List Nat)
  | 0, _, _, _, ps => ps
  | f + 1, path, n, vis, ps => if n = d then ps ++ [path] else
    (leavP t n).foldl (fun ps a => if decide (most < ps.length) || (vis.set n true)[(headP t a).toNat]?.getD false || !usableP t down a d || !leftP t down d (vis.set n true) (headP t a).toNat then ps
      else srchP t down d most f (path ++ [a]) (headP t a).toNat (vis.set n true) ps) ps
def on (l : List Bool) (x : Nat) : Prop := l[x]?.getD false = true
theorem on_set {l : List Bool} {k x : Nat} (h : on l x) : on (l.set k true) x := by
  unfold on at *
  rw [List.getElem?_set]
  split
  · rename_i e
    subst e
    split
    · rfl
    · rename_i h2
      rw [List.getElem?_eq_none (by omega)] at h
      cases h
  · exact h
theorem on_set_self {l : List Bool} {k : Nat} (h : k < l.length) : on (l.set k true) k := by
  unfold on
  simp [h]
theorem on_of_set {l : List Bool} {k x : Nat} (h : on (l.set k true) x) : x = k ∨ on l x := by
  unfold on at *
  rw [List.getElem?_set] at h
  split at h
  · rename_i e
    exact .inl e.symm
  · exact .inr h
/-- What the search in breadth keeps. -/
def bfsInv (t : Tp) (down : List Bool) (d : Nat) (vis seen : List Bool) (q : List Nat) : Prop :=
  (∀ x, on vis x → on seen x) ∧ ∀ m, on seen m → on vis m ∨ m ∈ q ∨ ∀ a ∈ leavP t m, usableP t down a d = true → on seen (headP t a).toNat
theorem bfsFold_inv (t : Tp) (down : List Bool) (d : Nat) (l : List Nat) (s : List Bool × List Nat) (h : ∀ a ∈ l, (headP t a).toNat < s.1.length) :
    (∀ x, on s.1 x → on (l.foldl (bfsArc t down d) s).1 x) ∧ (∀ x ∈ s.2, x ∈ (l.foldl (bfsArc t down d) s).2) ∧ (∀ x, on (l.foldl (bfsArc t down d) s).1 x → on s.1 x ∨ x ∈ (l.foldl (bfsArc t down d) s).2) ∧
      ∀ a ∈ l, usableP t down a d = true → on (l.foldl (bfsArc t down d) s).1 (headP t a).toNat := by
  induction l generalizing s with
  | nil => exact ⟨fun _ h => h, fun _ h => h, fun _ h => .inl h, fun _ h => by cases h⟩
  | cons a l ih =>
    have h1 := bfsArc_measure t down d s a (h a (by simp))
    obtain ⟨i1, i2, i3, i4⟩ := ih (bfsArc t down d s a) (fun b hb => by rw [h1.2]; exact h b (by simp [hb]))
    rw [List.foldl_cons]
    have hh := h a (by simp)
    have j1 : ∀ x, on s.1 x → on (bfsArc t down d s a).1 x := fun x hx => by
      unfold bfsArc
      split
      · exact on_set hx
      · exact hx
    have j2 : ∀ x ∈ s.2, x ∈ (bfsArc t down d s a).2 := fun x hx => by
      unfold bfsArc
      split
      · exact List.mem_append_left _ hx
      · exact hx
    have j3 : ∀ x, on (bfsArc t down d s a).1 x → on s.1 x ∨ x ∈ (bfsArc t down d s a).2 := fun x hx => by
      unfold bfsArc at hx ⊢
      split
      · rename_i hc
        rw [if_pos hc] at hx
        rcases on_of_set hx with e | e
        · right; simp [e]
        · exact .inl e
      · rename_i hc
        rw [if_neg hc] at hx
        exact .inl hx
    have j4 : usableP t down a d = true → on (bfsArc t down d s a).1 (headP t a).toNat := fun hu => by
      unfold bfsArc
      rw [hu, Bool.and_true]
      split
      · exact on_set_self hh
      · rename_i hc
        unfold on
        simpa using hc
    refine ⟨fun x hx => i1 x (j1 x hx), fun x hx => i2 x (j2 x hx), fun x hx => ?_, fun b hb hu => ?_⟩
    · rcases i3 x hx with e | e
      · rcases j3 x e with e | e
        · exact .inl e
        · exact .inr (i2 x e)
      · exact .inr e
    · rcases List.mem_cons.1 hb with rfl | hb
      · exact i1 _ (j4 hu)
      · exact i4 b hb hu
theorem bfs_closed (t : Tp) (down : List Bool) (d : Nat) (vis : List Bool) : ∀ (k : Nat) (seen : List Bool) (q : List Nat), (∀ m a, a ∈ leavP t m → (headP t a).toNat < seen.length) → unset seen + q.length ≤ k → bfsInv t down d vis seen q →
    (bfs t down d k seen q)[d]?.getD false = false →
    ∃ S : List Bool, (∀ x, on vis x → on S x) ∧ (∀ x, on seen x → on S x) ∧ ¬ on S d ∧ ∀ m, on S m → on vis m ∨ ∀ a ∈ leavP t m, usableP t down a d = true → on S (headP t a).toNat := by
  intro k
  have base : ∀ (seen : List Bool), bfsInv t down d vis seen [] → seen[d]?.getD false = false →
      ∃ S : List Bool, (∀ x, on vis x → on S x) ∧ (∀ x, on seen x → on S x) ∧ ¬ on S d ∧ ∀ m, on S m → on vis m ∨ ∀ a ∈ leavP t m, usableP t down a d = true → on S (headP t a).toNat := by
    intro seen hi hr
    refine ⟨seen, hi.1, fun _ h => h, by unfold on; rw [hr]; decide, fun m hm => ?_⟩
    rcases hi.2 m hm with h | h | h
    · exact .inl h
    · cases h
    · exact .inr h
  induction k with
  | zero =>
    intro seen q hl hk hi hr
    have : q = [] := List.eq_nil_of_length_eq_zero (by omega)
    subst this
    exact base seen hi hr
  | succ k ih =>
    intro seen q hl hk hi hr
    cases q with
    | nil => exact base seen hi hr
    | cons m q =>
      rw [bfs] at hr
      split at hr
      · rename_i hc
        rw [hc] at hr
        cases hr
      · have hm := bfsFold_measure t down d (leavP t m) (seen, q) (fun a ha => hl m a ha)
        obtain ⟨i1, i2, i3, i4⟩ := bfsFold_inv t down d (leavP t m) (seen, q) (fun a ha => hl m a ha)
        generalize (leavP t m).foldl (bfsArc t down d) (seen, q) = S at *
        have hinv : bfsInv t down d vis S.1 S.2 := ⟨fun x hx => i1 x (hi.1 x hx), fun x hx => by
          rcases i3 x hx with e | e
          · rcases hi.2 x e with e | e | e
            · exact .inl e
            · rcases List.mem_cons.1 e with rfl | e
              · exact .inr (.inr i4)
              · exact .inr (.inl (i2 x e))
            · exact .inr (.inr fun a ha hu => i1 _ (e a ha hu))
          · exact .inr (.inl e)⟩
        obtain ⟨S', k1, k2, k3, k4⟩ := ih S.1 S.2 (fun m a ha => by rw [hm.2]; exact hl m a ha) (by have := hm.1; simp at this hk; omega) hinv hr
        exact ⟨S', k1, fun x hx => k2 x (i1 x hx), k3, k4⟩
theorem ext_over {t : Tp} {down : List Bool} {d : Nat} (f : Nat) (path : List Nat) (n : Nat) (seen : List Bool) (hp : 0 < path.length) (hn : n ≠ d) (ho : overP t n = true) : extP t down d f path n seen = [] := by
  cases f with
  | zero => rfl
  | succ f => rw [extP, if_neg hn, if_pos ⟨hp, ho⟩]
/-- An arc that is not down and not usable leads nowhere. -/
theorem ext_unusable {t : Tp} {down : List Bool} {d a h : Nat} (hh : headP t a = (h : Int)) (hd : downP down a = false) (hu : usableP t down a d = false) (f : Nat) (path : List Nat) (seen : List Bool) (hp : 0 < path.length) :
    extP t down d f path h seen = [] := by
  unfold usableP at hu
  rw [hd, hh] at hu
  simp at hu
  exact ext_over f path h seen hp (by omega) hu.2
theorem ext_none {t : Tp} (hv : validP t = true) (down : List Bool) (d : Nat) (vis S : List Bool) (hd : ¬ on S d) (hc : ∀ m, on S m → on vis m ∨ ∀ a ∈ leavP t m, usableP t down a d = true → on S (headP t a).toNat) :
    ∀ (f : Nat) (path : List Nat) (m : Nat) (seen : List Bool), 0 < path.length → on S m → ¬ on vis m → (∀ x, on vis x → on seen x) → extP t down d f path m seen = [] := by
  intro f
  induction f with
  | zero => intro path m seen _ _ _ _; rfl
  | succ f ih =>
    intro path m seen hp hm hvm hs
    rw [extP, if_neg (by rintro rfl; exact hd hm)]
    split
    · rfl
    · rw [List.flatMap_eq_nil_iff]
      intro a ha
      obtain ⟨h, hh, _⟩ := headP_ok hv (leavP_lt ha)
      split
      · rfl
      · rename_i hn
        simp only [Bool.or_eq_true, not_or, Bool.not_eq_true] at hn
        cases hu : usableP t down a d
        case false =>
          have := ext_unusable hh hn.1 hu f (path ++ [a]) (seen.set h true) (by simp)
          rw [hh, Int.toNat_natCast]
          exact this
        case true =>
          rcases hc m hm with e | e
          · exact absurd e hvm
          · refine ih _ _ _ (by simp) (e a ha hu) (fun e2 => ?_) (fun x hx => on_set (hs x hx))
            have := hs _ e2
            unfold on at this
            rw [hn.2] at this
            cases this
theorem left_none {t : Tp} (hv : validP t = true) (down : List Bool) (d : Nat) (vis : List Bool) (hN : t.nodes = (vis.length : Int)) (h : Nat) (hh : h < vis.length) (hvh : ¬ on vis h) (hl : leftP t down d vis h = false) (f : Nat) (path : List Nat) (seen : List Bool)
    (hp : 0 < path.length) (hs : ∀ x, on vis x → on seen x) : extP t down d f path h seen = [] := by
  unfold leftP at hl
  obtain ⟨S, _, k2, k3, k4⟩ := bfs_closed t down d vis _ _ _ (fun m a ha => by
    obtain ⟨x, hx, hx2⟩ := headP_ok hv (leavP_lt ha)
    rw [hx, List.length_set]; omega) (by simp) ⟨fun x hx => on_set hx, fun m hm => by
      rcases on_of_set hm with e | e
      · exact .inr (.inl (by simp [e]))
      · exact .inl e⟩ hl
  exact ext_none hv down d vis S k3 k4 f path h seen hp (k2 h (on_set_self hh)) hvh hs
theorem fold_take (most : Nat) (G : Nat → List (List Nat)) (g : List (List Nat) → Nat → List (List Nat)) (l : List Nat) (h : ∀ ps, ∀ a ∈ l, g ps a = ps ++ (G a).take (most + 1 - ps.length)) (ps : List (List Nat)) :
    l.foldl g ps = ps ++ (l.flatMap G).take (most + 1 - ps.length) := by
  induction l generalizing ps with
  | nil => simp
  | cons a l ih =>
    rw [List.foldl_cons, h ps a (by simp), ih (fun ps b hb => h ps b (by simp [hb])), List.flatMap_cons, List.take_append, List.append_assoc]
    congr 3
    simp only [List.length_append, List.length_take]
    omega
theorem srch_eq {t : Tp} (hv : validP t = true) (down : List Bool) (d most N : Nat) (hN : t.nodes = (N : Int)) : ∀ (f : Nat) (path : List Nat) (n : Nat) (vis : List Bool) (ps : List (List Nat)), vis.length = N → ps.length ≤ most → (path = [] ∨ n = d ∨ overP t n = false) →
    srchP t down d most f path n vis ps = ps ++ (extP t down d f path n (vis.set n true)).take (most + 1 - ps.length) := by
  intro f
  induction f with
  | zero => intro path n vis ps _ _ _; simp [srchP, extP]
  | succ f ih =>
    intro path n vis ps hl hp ho
    rw [srchP, extP]
    by_cases hnd : n = d
    · rw [if_pos hnd, if_pos hnd, List.take_of_length_le (by simp; omega)]
    · rw [if_neg hnd, if_neg hnd, if_neg (by
        rintro ⟨h1, h2⟩
        rcases ho with e | e | e
        · rw [e] at h1; cases h1
        · exact hnd e
        · rw [h2] at e; cases e)]
      refine fold_take most _ _ _ (fun qs a ha => ?_) ps
      obtain ⟨h, hh, hlt⟩ := headP_ok hv (leavP_lt ha)
      have hhl : h < (vis.set n true).length := by rw [List.length_set]; omega
      rw [hh, Int.toNat_natCast]
      split
      · rename_i hc
        simp only [Bool.or_eq_true, decide_eq_true_eq, Bool.not_eq_true'] at hc
        rcases hc with ((hc | hc) | hc) | hc
        · rw [show most + 1 - qs.length = 0 by omega]; simp
        · rw [hc]; simp
        · split
          · simp
          · rename_i hn
            simp only [Bool.or_eq_true, not_or, Bool.not_eq_true] at hn
            rw [ext_unusable hh hn.1 hc _ _ _ (by simp)]
            simp
        · split
          · simp
          · rename_i hn
            simp only [Bool.or_eq_true, not_or, Bool.not_eq_true] at hn
            rw [left_none hv down d (vis.set n true) (by rw [List.length_set]; omega) h hhl (by unfold on; rw [hn.2]; decide) hc _ _ _ (by simp) (fun x hx => on_set hx)]
            simp
      · rename_i hc
        simp only [Bool.or_eq_true, not_or, decide_eq_true_eq, Bool.not_eq_true', Bool.not_eq_true, Bool.not_eq_false] at hc
        obtain ⟨⟨⟨c1, c2⟩, c3⟩, c4⟩ := hc
        rw [ih _ _ _ _ (by rw [List.length_set]; exact hl) (by omega) ?_, if_neg]
        · rw [c2]
          simp
          unfold usableP at c3
          simp at c3
          exact c3.1
        · unfold usableP at c3
          rw [hh] at c3
          simp at c3
          rcases c3.2 with e | e
          · exact .inr (.inl (by omega))
          · exact .inr (.inr e)
theorem srch_len {t : Tp} (hv : validP t = true) (down : List Bool) (d most N : Nat) (hN : t.nodes = (N : Int)) (f : Nat) (path : List Nat) (n : Nat) (vis : List Bool) (ps : List (List Nat)) (hl : vis.length = N) (hp : ps.length ≤ most) (ho : path = [] ∨ n = d ∨ overP t n = false) :
    (srchP t down d most f path n vis ps).length ≤ most + 1 := by
  rw [srch_eq hv down d most N hN f path n vis ps hl hp ho]
  simp only [List.length_append, List.length_take]
  omega
end Go.Proofs.YtjmkcckbbgpkeaaGreatDoor


namespace Go.Proofs.YtjmkcckbbgpkeaaGreatDoor
open Go.RowKit
/-- A list of paths that the call made; no path lies in block x. -/
def PathsA (w : World) (B : Nat) (v : Value) (ps : List (List Nat)) (x : Option Nat) : Prop :=
  ∃ cells : List Value, cells.length = ps.length ∧ w.ownsRow B 41 1 v ps.length cells ∧
    ∀ (i : Nat) (p : List Nat), ps[i]? = some p → ∃ (A : Option Addr) (c : Nat), cells[i]? = some (.slice A p.length c) ∧ p.length ≤ c ∧ RdT w 3 A (ints p) ∧ (p ≠ [] → ∀ a, A = some a → some a.block ≠ x)
theorem PathsA.paths {w : World} {B : Nat} {v : Value} {ps : List (List Nat)} {x : Option Nat} (h : PathsA w B v ps x) : Paths w B v ps := by
  obtain ⟨cells, h1, h2, h3⟩ := h
  refine ⟨cells, h1, h2, fun i p hp => ?_⟩
  obtain ⟨A, c, k1, k2, k3, _⟩ := h3 i p hp
  exact ⟨A, c, k1, k2, k3⟩
theorem PathsA.nil (w : World) (B : Nat) (x : Option Nat) : PathsA w B (.slice none 0 0) [] x := ⟨[], rfl, World.ownsRow_nil _ _ _ _, fun i p h => by simp at h⟩
theorem ints_ne {p : List Nat} (h : ints p ≠ []) : p ≠ [] := by rintro rfl; exact h rfl
theorem RdT.grown {w w' : World} {t : TypeId} {A : Option Addr} {xs : List Value} {row : Option Nat} (h : RdT w t A xs) (hg : w.grownBy w' row) (hne : xs ≠ [] → ∀ a, A = some a → some a.block ≠ row) : RdT w' t A xs := fun hx => by
  obtain ⟨b, o, cs, fr, e, hb, hc⟩ := h hx
  exact ⟨b, o, cs, fr, e, (hg.block b (lt_of_get hb) (hne hx _ e)).trans hb, hc⟩
/-- Another block turns, which is no row of numbers. -/
theorem PathsA.kept {w w' : World} {B : Nat} {v : Value} {ps : List (List Nat)} {x row : Option Nat} (h : PathsA w B v ps x) (hg : w.grownBy w' row) (hv : v.ownBlock = none ∨ v.ownBlock ≠ row)
    (hr : ∀ k, row = some k → ∀ cs fr, w.heap[k]? ≠ some (.cells cs 3 fr)) : PathsA w' B v ps x := by
  obtain ⟨cells, h1, h2, h3⟩ := h
  refine ⟨cells, h1, h2.kept hg hv, fun i p hp => ?_⟩
  obtain ⟨A, c, k1, k2, k3, k4⟩ := h3 i p hp
  refine ⟨A, c, k1, k2, k3.grown hg (fun hx a ha e2 => ?_), k4⟩
  obtain ⟨b, o, cs, fr, e3, hb, _⟩ := k3 hx
  rw [ha] at e3
  injection e3 with e3
  subst e3
  exact hr _ e2.symm cs fr hb
/-- The block in which no path lies turns, or another one is taken for it. -/
theorem PathsA.app {w w' : World} {B : Nat} {v : Value} {ps : List (List Nat)} {x y : Option Nat} (h : PathsA w B v ps x) (hg : w.grownBy w' x) (hv : v.ownBlock = none ∨ v.ownBlock ≠ x) (hy : y = x ∨ y = some w.heap.size) : PathsA w' B v ps y := by
  obtain ⟨cells, h1, h2, h3⟩ := h
  refine ⟨cells, h1, h2.kept hg hv, fun i p hp => ?_⟩
  obtain ⟨A, c, k1, k2, k3, k4⟩ := h3 i p hp
  refine ⟨A, c, k1, k2, k3.grown hg (fun hx => k4 (ints_ne hx)), fun hne a ha => ?_⟩
  rcases hy with rfl | rfl
  · exact k4 hne a ha
  · intro e2
    obtain ⟨b, o, cs, fr, e3, hb, _⟩ := k3 (fun e => hne (by simpa [ints] using e))
    rw [ha] at e3
    injection e3 with e3
    subst e3
    injection e2 with e2
    have := lt_of_get hb
    simp only at e2
    omega
theorem PathsA.push {w w1 : World} {B : Nat} {ov v' : Value} {ps : List (List Nat)} {x : Option Nat} {p : List Nat} {A : Option Addr} {c : Nat} {cells : List Value} (h1 : cells.length = ps.length) (h2 : w.ownsRow B 41 1 ov ps.length cells)
    (h3 : ∀ (i : Nat) (q : List Nat), ps[i]? = some q → ∃ (A : Option Addr) (c : Nat), cells[i]? = some (.slice A q.length c) ∧ q.length ≤ c ∧ RdT w 3 A (ints q) ∧ (q ≠ [] → ∀ a, A = some a → some a.block ≠ x))
    (hp : RdT w 3 A (ints p)) (hc : p.length ≤ c) (hx : p ≠ [] → ∀ a, A = some a → some a.block ≠ x) (hown : w1.ownsRow B 41 1 v' (ps.length + 1) (cells ++ [.slice A p.length c])) (hg : w.grownBy w1 ov.ownBlock) :
    PathsA w1 B v' (ps ++ [p]) x := by
  have hk : Keep39 w w1 := Keep39.grown hg (fun k hk => Lib.ownsRow_kind h2 k hk)
  refine ⟨cells ++ [.slice A p.length c], by simp [h1], by simpa using hown, fun i q hq => ?_⟩
  by_cases hi : i < ps.length
  · rw [List.getElem?_append_left hi] at hq
    obtain ⟨A', c', k1, k2, k3, k4⟩ := h3 i q hq
    exact ⟨A', c', by rw [List.getElem?_append_left (by omega)]; exact k1, k2, hk.rdT (by decide) k3, k4⟩
  · have hi2 : i = ps.length := by
      have := (List.getElem?_eq_some_iff.1 hq).1
      simp at this
      omega
    subst hi2
    simp at hq
    subst hq
    exact ⟨A, c, by rw [← h1]; simp, hc, hk.rdT (by decide) hp, hx⟩
/-- The search's own state: what is visited, the paths that were found, the path that leads here. -/
structure SState (w0 wR : World) (gs : Nat) (clo : Value) (w : World) (vis : List Bool) (ps : List (List Nat)) (path : List Nat) (pv qv : Value) : Prop where
  ext : Ext w0 w
  size : wR.heap.size + 3 ≤ w.heap.size
  fr : ∀ k, k < wR.heap.size → k ≠ gs → w.heap[k]? = wR.heap[k]?
  row : Blk w gs 4 (bools vis).toArray
  pc : Blk w wR.heap.size 45 #[pv]
  qc : Blk w (wR.heap.size + 1) 41 #[qv]
  sr : Blk w (wR.heap.size + 2) 166 #[clo]
  pp : PathsA w (wR.heap.size + 3) pv ps qv.ownBlock
  qq : w.ownsRow (wR.heap.size + 3) 3 1 qv path.length (ints path)
section
variable {w0 wR w w' : World} {gs : Nat} {clo : Value} {vis : List Bool} {ps : List (List Nat)} {path : List Nat} {pv qv : Value}
theorem grown_ext (hx : Ext w w') : w.grownBy w' none := ⟨hx.os, hx.tape, hx.output, hx.size, fun k hk _ => hx.block k hk⟩
theorem own_none (v : Value) : v.ownBlock = none ∨ v.ownBlock ≠ none := Classical.em _
theorem SState.keep (h : SState w0 wR gs clo w vis ps path pv qv) (hx : Ext w w') : SState w0 wR gs clo w' vis ps path pv qv :=
  ⟨h.ext.tr hx, Nat.le_trans h.size hx.size, fun k hk hne => (hx.block k (by have := h.size; omega)).trans (h.fr k hk hne), h.row.keep hx, h.pc.keep hx, h.qc.keep hx, h.sr.keep hx,
    h.pp.kept (grown_ext hx) (own_none _) (fun k hk => by cases hk), h.qq.kept (grown_ext hx) (own_none _)⟩
theorem SState.blk (h : SState w0 wR gs clo w vis ps path pv qv) (hg : ∃ l : List Bool, Blk wR gs 4 (bools l).toArray) {g : Nat} {ty : TypeId} {cs : Array Value} (hb : Blk wR g ty cs) (hne : ty ≠ 4) : Blk w g ty cs := by
  obtain ⟨l, hl⟩ := hg
  exact (h.fr g hb.lt (hb.ne_ hl hne)).trans hb
theorem SState.rdT (h : SState w0 wR gs clo w vis ps path pv qv) (hg : ∃ l : List Bool, Blk wR gs 4 (bools l).toArray) {A : Option Addr} {ty : TypeId} {xs : List Value} (hb : RdT wR ty A xs) (hne : ty ≠ 4) : RdT w ty A xs := fun hx => by
  obtain ⟨l, hl⟩ := hg
  obtain ⟨b, o, cs, fr, e, hb, hc⟩ := hb hx
  refine ⟨b, o, cs, fr, e, (h.fr b (lt_of_get hb) ?_).trans hb, hc⟩
  rintro rfl
  unfold Blk at hl
  rw [hl] at hb
  injection hb with hb
  injection hb with _ ht
  exact hne ht.symm
theorem SState.ll (h : SState w0 wR gs clo w vis ps path pv qv) (hg : ∃ l : List Bool, Blk wR gs 4 (bools l).toArray) {gll N : Nat} {X : Nat → List Nat} (hl : LL wR gll N X) : LL w gll N X := by
  obtain ⟨V, h1, h2⟩ := hl
  refine ⟨V, h.blk hg h1 (by decide), fun i hi => ?_⟩
  obtain ⟨A, c, h3, h4, h5⟩ := h2 i hi
  exact ⟨A, c, h3, h4, h.rdT hg h5 (by decide)⟩
theorem grown_set (w : World) (g k : Nat) (u : Value) : w.grownBy (w.setCell ⟨g, k, none⟩ u) (some g) :=
  ⟨rfl, rfl, rfl, by simp [World.setCell], fun i _ hne => Below.heap_setCell w ⟨g, k, none⟩ u i (fun e => hne (by rw [e]))⟩
theorem blk_not {g : Nat} {ty : TypeId} {cs : Array Value} (h : Blk w g ty cs) (hne : ty ≠ 3) : ∀ k, some g = some k → ∀ cs fr, w.heap[k]? ≠ some (.cells cs 3 fr) := by
  rintro k e cs' fr h2
  injection e with e
  subst e
  unfold Blk at h
  rw [h] at h2
  injection h2 with h2
  injection h2 with _ h2
  exact hne h2
theorem own_ne {B n g : Nat} {e : TypeId} {v : Value} {xs : List Value} (h : w.ownsRow B e 1 v n xs) (hg : g < B) : v.ownBlock = none ∨ v.ownBlock ≠ some g := by
  right
  intro e
  have := (h.lt g e).1
  omega
theorem own_type {B n m C : Nat} {e e' : TypeId} {v v' : Value} {xs ys : List Value} (h : w.ownsRow B e 1 v n xs) (h' : w.ownsRow C e' 1 v' m ys) (hne : e ≠ e') : v.ownBlock = none ∨ v.ownBlock ≠ v'.ownBlock := by
  by_cases hn : v.ownBlock = none
  · exact .inl hn
  · right
    intro heq
    obtain ⟨k, hk⟩ := Option.ne_none_iff_exists'.1 hn
    obtain ⟨c1, f1, e1⟩ := Lib.ownsRow_kind h k hk
    obtain ⟨c2, f2, e2⟩ := Lib.ownsRow_kind h' k (heq ▸ hk)
    rw [e1] at e2
    injection e2 with e2
    injection e2 with _ e2
    exact hne e2
/-- A flag is set or taken back. -/
theorem SState.flag (h : SState w0 wR gs clo w vis ps path pv qv) (g0 : w0.heap.size ≤ gs) (gR : gs < wR.heap.size) {k : Nat} (hk : k < vis.length) (b : Bool) : SState w0 wR gs clo (w.setCell ⟨gs, k, none⟩ (.bool b)) (vis.set k b) ps path pv qv := by
  have hg := grown_set w gs k (.bool b)
  obtain ⟨cells, h1, h2, h3⟩ := h.pp
  refine ⟨Ext.set_ h.ext (p := ⟨gs, k, none⟩) g0 _, Nat.le_trans h.size hg.size, fun i hi hne => (hg.block i (by have := h.size; omega) (fun e => hne (by injection e))).trans (h.fr i hi hne), ?_,
    (h.pc.far (p := ⟨gs, k, none⟩) (by simp only; omega) _), (h.qc.far (p := ⟨gs, k, none⟩) (by simp only; omega) _), (h.sr.far (p := ⟨gs, k, none⟩) (by simp only; omega) _),
    h.pp.kept hg (own_ne h2 (by omega)) (blk_not h.row (by decide)), h.qq.kept hg (own_ne h.qq (by omega))⟩
  have e := bools_set vis [] k hk b
  rw [List.append_nil, List.append_nil] at e
  rw [← e]
  exact h.row.set_ k _
/-- An arc is appended to the path. -/
theorem SState.step {w2 : World} {a : Nat} {qv' : Value} (h : SState w0 wR gs clo w vis ps path pv qv) (x0 : Ext w0 wR) (hg : w.grownBy w2 qv.ownBlock) (hown : w2.ownsRow (wR.heap.size + 3) 3 1 qv' (path.length + 1) (ints path ++ [.int .i64 (a : Int)]))
    (hy : qv'.ownBlock = qv.ownBlock ∨ qv'.ownBlock = some w.heap.size) (gR : gs < wR.heap.size) : SState w0 wR gs clo (w2.setCell ⟨wR.heap.size + 1, 0, none⟩ qv') vis ps (path ++ [a]) pv qv' := by
  obtain ⟨cells, h1, h2, h3⟩ := h.pp
  have ne : ∀ k, k < wR.heap.size + 3 → some k ≠ qv.ownBlock := fun k hk e => by
    have := (h.qq.lt k e.symm).1
    omega
  have hs := h.size
  have hx := x0.size
  have hg2 := grown_set w2 (wR.heap.size + 1) 0 qv'
  have hb2 : Ext w0 w2 := Below.grown h.ext hg h.ext.size (fun k hk => by have := (h.qq.lt k hk).1; omega)
  have hp2 := h.pp.app hg (own_type h2 h.qq (by decide)) hy
  have hq2 : Blk w2 (wR.heap.size + 1) 41 #[qv] := (hg.block _ (by omega) (ne _ (by omega))).trans h.qc
  obtain ⟨cells2, j1, j2, j3⟩ := hp2
  refine ⟨Ext.set_ hb2 (p := ⟨wR.heap.size + 1, 0, none⟩) (by simp only; omega) _, Nat.le_trans (Nat.le_trans hs hg.size) hg2.size, fun i hi hne => (hg2.block i (by have := hg.size; omega) (fun e => by injection e with e; omega)).trans ((hg.block i (by omega) (ne i (by omega))).trans (h.fr i hi hne)),
    Blk.far (p := ⟨wR.heap.size + 1, 0, none⟩) (show Blk w2 gs _ _ from (hg.block gs (by omega) (ne _ (by omega))).trans h.row) (by simp only; omega) _,
    Blk.far (p := ⟨wR.heap.size + 1, 0, none⟩) (show Blk w2 wR.heap.size _ _ from (hg.block _ (by omega) (ne _ (by omega))).trans h.pc) (by simp only; omega) _,
    hq2.set_ 0 qv',
    Blk.far (p := ⟨wR.heap.size + 1, 0, none⟩) (show Blk w2 (wR.heap.size + 2) _ _ from (hg.block _ (by omega) (ne _ (by omega))).trans h.sr) (by simp only; omega) _,
    PathsA.kept ⟨cells2, j1, j2, j3⟩ hg2 (own_ne j2 (by omega)) (blk_not hq2 (by decide)), ?_⟩
  have := hown.kept hg2 (own_ne hown (by omega))
  rw [List.length_append, ints_snoc]
  exact this
/-- The last arc is taken back. -/
theorem SState.back {a g cap : Nat} (h : SState w0 wR gs clo w vis ps (path ++ [a]) pv (.slice (some ⟨g, 0, none⟩) (path.length + 1) cap)) (x0 : Ext w0 wR) (gR : gs < wR.heap.size) :
    SState w0 wR gs clo (w.setCell ⟨wR.heap.size + 1, 0, none⟩ (.slice (some ⟨g, 0, none⟩) path.length cap)) vis ps path pv (.slice (some ⟨g, 0, none⟩) path.length cap) := by
  obtain ⟨cells, h1, h2, h3⟩ := h.pp
  have hs := h.size
  have hx := x0.size
  have hg2 := grown_set w (wR.heap.size + 1) 0 (.slice (some ⟨g, 0, none⟩) path.length cap)
  have hq : w.ownsRow (wR.heap.size + 3) 3 1 (.slice (some ⟨g, 0, none⟩) path.length cap) path.length (ints path) := by
    obtain ⟨k1, k2⟩ := h.qq
    rcases k2 with ⟨e, _⟩ | ⟨g', cap', cur, e, q1, q2, q3, q4, q5, q6⟩
    · cases e
    · injection e with e1 e2 e3
      injection e1 with e1
      injection e1 with e1
      subst e1 e3
      refine ⟨by simp [ints], .inr ⟨g, cap, cur, rfl, q1, q2, by simp at q3; omega, q4, q5, ?_⟩⟩
      have e1 : (cur.toList.take ((path ++ [a]).length * 1)).take path.length = cur.toList.take path.length := by rw [List.take_take, Nat.min_eq_left (by simp)]
      have e2 : (ints (path ++ [a])).take path.length = ints path := by rw [ints_snoc, List.take_append_of_le_length (by simp [ints]), List.take_of_length_le (by simp [ints])]
      rw [Nat.mul_one, ← e1, q6, e2]
  refine ⟨Ext.set_ h.ext (p := ⟨wR.heap.size + 1, 0, none⟩) (by simp only; omega) _, Nat.le_trans hs hg2.size, fun i hi hne => (hg2.block i (by omega) (fun e => by injection e with e; omega)).trans (h.fr i hi hne),
    Blk.far (p := ⟨wR.heap.size + 1, 0, none⟩) h.row (by simp only; omega) _, Blk.far (p := ⟨wR.heap.size + 1, 0, none⟩) h.pc (by simp only; omega) _, h.qc.set_ 0 _, Blk.far (p := ⟨wR.heap.size + 1, 0, none⟩) h.sr (by simp only; omega) _,
    h.pp.kept hg2 (own_ne h2 (by omega)) (blk_not h.qc (by decide)), hq.kept hg2 (own_ne hq (by omega))⟩
/-- A path is appended to the paths. -/
theorem SState.found {w2 : World} {pv' : Value} {A : Option Addr} {c : Nat} {cells : List Value} (h : SState w0 wR gs clo w vis ps path pv qv) (x0 : Ext w0 wR) (gR : gs < wR.heap.size) (h1 : cells.length = ps.length) (h2 : w.ownsRow (wR.heap.size + 3) 41 1 pv ps.length cells)
    (h3 : ∀ (i : Nat) (q : List Nat), ps[i]? = some q → ∃ (A : Option Addr) (c : Nat), cells[i]? = some (.slice A q.length c) ∧ q.length ≤ c ∧ RdT w 3 A (ints q) ∧ (q ≠ [] → ∀ a, A = some a → some a.block ≠ qv.ownBlock))
    (hp : RdT w 3 A (ints path)) (hc : path.length ≤ c) (hne : path ≠ [] → ∀ a, A = some a → some a.block ≠ qv.ownBlock)
    (hg : w.grownBy w2 pv.ownBlock) (hown : w2.ownsRow (wR.heap.size + 3) 41 1 pv' (ps.length + 1) (cells ++ [.slice A path.length c])) :
    SState w0 wR gs clo (w2.setCell ⟨wR.heap.size, 0, none⟩ pv') vis (ps ++ [path]) path pv' qv := by
  have ne : ∀ k, k < wR.heap.size + 3 → some k ≠ pv.ownBlock := fun k hk e => by
    have := (h2.lt k e.symm).1
    omega
  have hs := h.size
  have hx := x0.size
  have hg2 := grown_set w2 wR.heap.size 0 pv'
  have hb2 : Ext w0 w2 := Below.grown h.ext hg h.ext.size (fun k hk => by have := (h2.lt k hk).1; omega)
  have hp2 := PathsA.push (x := qv.ownBlock) h1 h2 h3 hp hc hne hown hg
  have hq2 : Blk w2 wR.heap.size 45 #[pv] := (hg.block _ (by omega) (ne _ (by omega))).trans h.pc
  have hqq := h.qq.kept hg (own_type h.qq h2 (by decide))
  exact ⟨Ext.set_ hb2 (p := ⟨wR.heap.size, 0, none⟩) (by simp only; omega) _, Nat.le_trans (Nat.le_trans hs hg.size) hg2.size, fun i hi hne => (hg2.block i (by have := hg.size; omega) (fun e => by injection e with e; omega)).trans ((hg.block i (by omega) (ne i (by omega))).trans (h.fr i hi hne)),
    Blk.far (p := ⟨wR.heap.size, 0, none⟩) (show Blk w2 gs _ _ from (hg.block gs (by omega) (ne _ (by omega))).trans h.row) (by simp only; omega) _,
    hq2.set_ 0 pv',
    Blk.far (p := ⟨wR.heap.size, 0, none⟩) (show Blk w2 (wR.heap.size + 1) _ _ from (hg.block _ (by omega) (ne _ (by omega))).trans h.qc) (by simp only; omega) _,
    Blk.far (p := ⟨wR.heap.size, 0, none⟩) (show Blk w2 (wR.heap.size + 2) _ _ from (hg.block _ (by omega) (ne _ (by omega))).trans h.sr) (by simp only; omega) _,
    PathsA.kept hp2 hg2 (own_ne hown (by omega)) (blk_not hq2 (by decide)), hqq.kept hg2 (own_ne hqq (by omega))⟩
end
end Go.Proofs.YtjmkcckbbgpkeaaGreatDoor
