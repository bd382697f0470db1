/- Topologies in memory; topology.within, waypointref09.within, graph.Node, Arcs, Tail, Head, Over, Fits, Down: what each call returns. -/
/- graph.Over, Node, Arcs, Fits, Down, pricing.usable: what each call returns. -/
/- A region that draws its order, whose operations read what is there and whose calls make memory but return values that do not hang on it: one walk in the order of the text. -/
/- topology.Valid: what the call returns. -/
/- waypointref09.Valid: what the call returns. -/
/- graph.Leaving: for each node the arcs that begin there. -/
/- waypointref09.Arcs, Tail, Head, Overloaded, Out, waypointref14.Down, Mask: what each call returns, for a valid topology. -/
/- waypointref09.Out: the arcs that begin at a node, for a valid topology. -/
/- append onto a row of the call's own, the source a slice that reads as a list (nil, empty or not). -/
import Derived.Test.YtekiomanidimnaaDoorMB
import Derived.Deep.DeepCutAuto
import Derived.Maps.AppendAt
import Derived.Deep.AppendLies
set_option linter.unusedVariables false
set_option linter.unusedSimpArgs false

namespace Go.Proofs.YtekiomanidimnaaDoor
open Go.RowKit

/-- A link. -/
structure Lk where
  a : Int
  b : Int
  c0 : Int
  c1 : Int
  cap : Int
  delay : Int
  group : Int
/-- A topology. -/
structure Tp where
  nodes : Int
  over : List Bool
  links : List Lk
def Lk.cells (l : Lk) : List Value := [.int .i64 l.a, .int .i64 l.b, .int .i64 l.c0, .int .i64 l.c1, .int .i64 l.cap, .int .i64 l.delay, .int .i64 l.group]
def bools (l : List Bool) : List Value := l.map Value.bool
def i64 (x : Int) : Prop := -9223372036854775808 ≤ x ∧ x ≤ 9223372036854775807
def Lk.wf (l : Lk) : Prop := i64 l.a ∧ i64 l.b ∧ i64 l.c0 ∧ i64 l.c1 ∧ i64 l.cap ∧ i64 l.delay ∧ i64 l.group
/-- The topology's parts lie in memory. -/
structure TopR (w : World) (t : Tp) (AO : Option Addr) (co : Nat) (AL : Option Addr) (cl : Nat) : Prop where
  nodes : i64 t.nodes
  lo : t.over.length ≤ co
  ll : t.links.length ≤ cl
  co : t.over.length ≤ 281474976710656
  cl : t.links.length ≤ 281474976710656
  over : Rd w AO (bools t.over)
  links : Rd w AL (t.links.flatMap Lk.cells)
  wf : ∀ l ∈ t.links, l.wf
theorem TopR.keep {w w' : World} {t : Tp} {AO : Option Addr} {co : Nat} {AL : Option Addr} {cl : Nat} (h : TopR w t AO co AL cl) (hb : Ext w w') : TopR w' t AO co AL cl :=
  ⟨h.nodes, h.lo, h.ll, h.co, h.cl, h.over.keep hb, h.links.keep hb, h.wf⟩
theorem flatMap_cells (ls : List Lk) (i k : Nat) (hi : i < ls.length) (hk : k < 7) : (ls.flatMap Lk.cells)[i * 7 + k]? = (ls[i]).cells[k]? := by
  induction ls generalizing i with
  | nil => simp at hi
  | cons l ls ih =>
    cases i with
    | zero =>
      simp only [List.flatMap_cons, Nat.zero_mul, Nat.zero_add, List.getElem_cons_zero]
      rw [List.getElem?_append_left (by simp [Lk.cells]; omega)]
    | succ i =>
      simp only [List.flatMap_cons, List.getElem_cons_succ]
      rw [List.getElem?_append_right (by simp [Lk.cells]; omega), show (i + 1) * 7 + k - l.cells.length = i * 7 + k by simp [Lk.cells]; omega]
      exact ih i (by simpa using hi)
theorem flatMap_cells_length (ls : List Lk) : (ls.flatMap Lk.cells).length = ls.length * 7 := by
  induction ls with
  | nil => rfl
  | cons l ls ih => simp only [List.flatMap_cons, List.length_append, ih, List.length_cons]; simp [Lk.cells]; omega
theorem TopR.link {w : World} {t : Tp} {AO : Option Addr} {co : Nat} {AL : Option Addr} {cl : Nat} (h : TopR w t AO co AL cl) {i : Nat} {l : Lk} (hl : t.links[i]? = some l) :
    ∃ b o : Nat, AL = some ⟨b, o, none⟩ ∧ b < w.heap.size ∧ (w.cell? ⟨b, o + i * 7, none⟩ = some (.int .i64 l.a) ∧ w.cell? ⟨b, o + i * 7 + 1, none⟩ = some (.int .i64 l.b) ∧ w.cell? ⟨b, o + i * 7 + 2, none⟩ = some (.int .i64 l.c0) ∧
      w.cell? ⟨b, o + i * 7 + 3, none⟩ = some (.int .i64 l.c1) ∧ w.cell? ⟨b, o + i * 7 + 4, none⟩ = some (.int .i64 l.cap) ∧ w.cell? ⟨b, o + i * 7 + 5, none⟩ = some (.int .i64 l.delay) ∧ w.cell? ⟨b, o + i * 7 + 6, none⟩ = some (.int .i64 l.group)) := by
  obtain ⟨hi, he⟩ := List.getElem?_eq_some_iff.1 hl
  have hlen := flatMap_cells_length t.links
  obtain ⟨b, o, e, hlt, hc⟩ := h.links (by intro e; rw [e] at hlen; simp at hlen; omega)
  have hk : ∀ k, k < 7 → w.cell? ⟨b, o + i * 7 + k, none⟩ = l.cells[k]? := fun k hk => by
    rw [Nat.add_assoc, hc (i * 7 + k) (by rw [hlen]; omega), flatMap_cells t.links i k hi hk, he]
  exact ⟨b, o, e, hlt, hk 0 (by omega), hk 1 (by omega), hk 2 (by omega), hk 3 (by omega), hk 4 (by omega), hk 5 (by omega), hk 6 (by omega)⟩
/-- Where an arc begins. -/
def tailP (t : Tp) (a : Nat) : Int := match t.links[a / 2]? with
  | some l => if a % 2 = 0 then l.a else l.b
  | none => -1
/-- Where an arc ends. -/
def headP (t : Tp) (a : Nat) : Int := match t.links[a / 2]? with
  | some l => if a % 2 = 0 then l.b else l.a
  | none => -1
def overP (t : Tp) (n : Int) : Bool := t.over[n.toNat]?.getD false

theorem xor_one (a : Nat) : a ^^^ 1 = if a % 2 = 0 then a + 1 else a - 1 := by
  have h : (a ^^^ 1) / 2 = a / 2 := by rw [Nat.xor_div_two]; simp
  have h2 := @Nat.xor_mod_two_eq_one a 1
  split <;> omega
theorem bits_xor_one (a : Nat) (ha : a < 9223372036854775808) : bits BinOp.xor IntKind.i64 (a : Int) 1 = ((a ^^^ 1 : Nat) : Int) := by
  have hx : a ^^^ 1 < 2 ^ 63 := Nat.xor_lt_two_pow (by omega) (by omega)
  show IntKind.i64.wrap ((BitVec.ofInt 64 (a : Int) ^^^ BitVec.ofInt 64 (1 : Int)).toNat : Int) = _
  have e1 : (BitVec.ofInt 64 (a : Int)).toNat = a := by rw [BitVec.ofInt_natCast, BitVec.toNat_ofNat]; exact Nat.mod_eq_of_lt (by omega)
  have e2 : (BitVec.ofInt 64 (1 : Int)).toNat = 1 := by decide
  rw [BitVec.toNat_xor, e1, e2, IntKind.wrap_i64]
  omega
theorem head_tail (t : Tp) (a : Nat) : headP t a = tailP t (a ^^^ 1) := by
  unfold headP tailP
  have hx := xor_one a
  have h1 : (a ^^^ 1) / 2 = a / 2 := by rw [hx]; split <;> omega
  have h2 : (a ^^^ 1) % 2 = 0 ↔ ¬ a % 2 = 0 := by rw [hx]; split <;> omega
  rw [h1]
  cases t.links[a / 2]? with
  | none => rfl
  | some l =>
    by_cases h : a % 2 = 0
    · simp only [if_pos h]; rw [if_neg (fun e => h2.1 e h)]
    · simp only [if_neg h]; rw [if_pos (h2.2 h)]
end Go.Proofs.YtekiomanidimnaaDoor


namespace Go.Proofs.YtekiomanidimnaaDoor
open Go.RowKit

theorem Rd.bool {w : World} {A : Option Addr} {l : List Bool} (h : Rd w A (bools l)) {k : Nat} (hk : k < l.length) :
    ∃ b o : Nat, A = some ⟨b, o, none⟩ ∧ b < w.heap.size ∧ w.cell? ⟨b, o + k, none⟩ = some (.bool (l[k]?.getD false)) := by
  obtain ⟨b, o, e, hlt, hc⟩ := h.at_ (i := k) (by simpa [bools] using hk)
  refine ⟨b, o, e, hlt, (hc k (by simpa [bools] using hk)).trans ?_⟩
  simp [bools, hk]
def TopBox (t : Tp) (AO : Option Addr) (co : Nat) (AL : Option Addr) (cl : Nat) : Array Value := #[.int .i64 t.nodes, .slice AO t.over.length co, .slice AL t.links.length cl]

/-- Is the list a mask, or empty? -/
def fitsP (t : Tp) (down : List Bool) : Bool := decide (down.length = 0 ∨ down.length = 2 * t.links.length)
/-- Is an arc down? -/
def downP (down : List Bool) (a : Nat) : Bool := down[a]?.getD false
/-- Is an arc usable towards d? -/
def usableP (t : Tp) (down : List Bool) (a : Nat) (d : Int) : Bool := !downP down a && (headP t a == d || !overP t (headP t a))
end Go.Proofs.YtekiomanidimnaaDoor


namespace Go.Proofs.YtekiomanidimnaaDoor
open Go.RowKit
/-- The worlds that keep all that w has. -/
def XW (w : World) : Type := { W : World // Ext w W }
instance instNonemptyXW (w : World) : Nonempty (XW w) := ⟨⟨w, Ext.refl w⟩⟩
def XW.val {w : World} (x : XW w) : World := x.1
theorem XW.ext {w : World} (x : XW w) : Ext w x.val := x.2
theorem wp_region_ext {P : Program} {id : Nat} {Q : Exit → Act → World → Prop} {a : Act} {w : World} {l : List Oper} (hm : P.follows .mixedOrders = true) (hB : Region.lexB .any l.toArray = true)
    (h : wpQuiet P l.toArray (fun w' => ∃ x : XW w, w' = x.val) (fun a' => ∀ w', (∃ x : XW w, w' = x.val) → Q .normal a' w') l a) : (Code.region id l.toArray true).wp P Q a w :=
  wp_region_quiet (C := fun w' => ∃ x : XW w, w' = x.val) hm hB ⟨⟨w.drew, (Ext.refl w).drewN 1⟩, rfl⟩ (by simpa using h)
theorem Calls.ext_of {P : Program} {f : FuncId} {args : Array Value} {w : World} {x : XW w} {v : Value} (h : Calls P f args x.val fun e w' => e = .returned v ∧ Ext x.val w') :
    Calls P f args x.val fun e w'' => e = .returned v ∧ ∃ y : XW w, w'' = y.val :=
  h.mono fun _ w' ⟨he, hx⟩ => ⟨he, ⟨w', x.ext.tr hx⟩, rfl⟩
theorem Calls.ext_same {P : Program} {f : FuncId} {args : Array Value} {w : World} {x : XW w} {v : Value} (h : Calls P f args x.val fun e w' => e = .returned v ∧ x.val = w') :
    Calls P f args x.val fun e w'' => e = .returned v ∧ ∃ y : XW w, w'' = y.val :=
  h.mono fun _ _ ⟨he, hx⟩ => ⟨he, x, hx.symm⟩
theorem XW.cell {w : World} (b o : Nat) (v : Value) (hb : b < w.heap.size) (hc : w.cell? ⟨b, o, none⟩ = some v) : ∀ x : XW w, x.val.cell? ⟨b, o, none⟩ = some v := fun x => (x.ext.cell (p := ⟨b, o, none⟩) hb).trans hc
end Go.Proofs.YtekiomanidimnaaDoor


namespace Go.Proofs.YtekiomanidimnaaDoor
open Go.RowKit

def inB (n lo hi : Int) : Bool := decide (lo ≤ n ∧ n ≤ hi)
def ndB (N n : Int) : Bool := decide (0 ≤ n ∧ n < N)
/-- A link that a valid topology may have. -/
def Lk.ok (N : Int) (l : Lk) : Bool := !(l.a == l.b) && ndB N l.a && ndB N l.b && inB l.c0 1 65535 && inB l.c1 1 65535 && inB l.cap 0 1048576 && inB l.delay 1 65536 && inB l.group 0 64
def headOk (t : Tp) : Bool := inB t.nodes 1 64 && decide (t.links.length ≤ 256) && (decide (t.over.length = 0) || decide ((t.over.length : Int) = t.nodes))
def validP (t : Tp) : Bool := headOk t && t.links.all (Lk.ok t.nodes)

theorem all_false {ls : List Lk} {N : Int} {k : Nat} {l : Lk} (hl : ls[k]? = some l) (hb : l.ok N = false) : ls.all (Lk.ok N) = false := by
  obtain ⟨hk, he⟩ := List.getElem?_eq_some_iff.1 hl
  rw [List.all_eq_false]
  exact ⟨l, by rw [← he]; exact List.getElem_mem hk, by simp [hb]⟩
theorem all_true {ls : List Lk} {N : Int} (h : ∀ (j : Nat) (l : Lk), ls[j]? = some l → l.ok N = true) : ls.all (Lk.ok N) = true := by
  rw [List.all_eq_true]
  intro l hl
  obtain ⟨j, hj, rfl⟩ := List.mem_iff_getElem.1 hl
  exact h j _ (List.getElem?_eq_getElem hj)

end Go.Proofs.YtekiomanidimnaaDoor


namespace Go.Proofs.YtekiomanidimnaaDoor
open Go.RowKit
theorem inB_nd (N n : Int) : inB n 0 (N - 1) = ndB N n := by unfold inB ndB; rw [decide_eq_decide]; omega

end Go.Proofs.YtekiomanidimnaaDoor


namespace Go.Proofs.YtekiomanidimnaaDoor
open Go.RowKit
theorem Tryd.info39 : (Tryd.prog.info? 34).map (fun i => (i.zero, i.size, i.bytes)) = some (some (.slice none 0 0), 1, 24) := by kernel_rfl
theorem Tryd.info3 : (Tryd.prog.info? 3).map (fun i => (i.zero, i.size, i.bytes)) = some (some (.int .i64 0), 1, 8) := by kernel_rfl
/-- Natural numbers as cells. -/
def ints (l : List Nat) : List Value := l.map fun a : Nat => Value.int .i64 (a : Int)
theorem ints_length (l : List Nat) : (ints l).length = l.length := by simp [ints]
theorem ints_snoc (l : List Nat) (a : Nat) : ints (l ++ [a]) = ints l ++ [.int .i64 (a : Int)] := by simp [ints]
theorem ints_get (l : List Nat) (i : Nat) (h : i < l.length) : (ints l)[i]? = some (.int .i64 ((l[i]?.getD 0 : Nat) : Int)) := by simp [ints, h]
/-- N slices of numbers, which the call has made; no two share a block. -/
structure Fam (w : World) (g B N : Nat) (V : Nat → Value) (X : Nat → List Nat) : Prop where
  row : Blk w g 34 ((List.range N).map V).toArray
  own : ∀ i, i < N → w.ownsRow B 3 1 (V i) (X i).length (ints (X i))
  sep : ∀ i j, i < N → j < N → i ≠ j → (V i).ownBlock = none ∨ (V i).ownBlock ≠ (V j).ownBlock
theorem range_map_set (N : Nat) (V : Nat → Value) (n : Nat) (v : Value) (hn : n < N) : ((List.range N).map V).toArray.setIfInBounds n v = ((List.range N).map fun i => if i = n then v else V i).toArray := by
  apply Array.ext'
  simp only [List.setIfInBounds_toArray]
  apply List.ext_getElem?
  intro i
  by_cases h : i < N
  · by_cases e : i = n
    · subst e; simp [h]
    · rw [List.getElem?_set_ne (by omega)]; simp [h, e]
  · rw [List.getElem?_eq_none (by simp; omega), List.getElem?_eq_none (by simp; omega)]
theorem range_map_get (N : Nat) (V : Nat → Value) (n : Nat) (hn : n < N) : ((List.range N).map V).toArray[n]? = some (V n) := by simp [hn]
theorem Fam.far {w : World} {g B N : Nat} {V : Nat → Value} {X : Nat → List Nat} (h : Fam w g B N V X) : ∀ i, i < N → (V i).ownBlock ≠ some g := fun i hi => by
  have ho := h.own i hi
  intro e
  obtain ⟨_, h2⟩ := ho
  rcases h2 with ⟨h3, _⟩ | ⟨g', cap, cur, h3, _, h5, _⟩
  · rw [h3] at e; cases e
  · rw [h3] at e
    have : g' = g := by simpa [Value.ownBlock] using e
    subst this
    have hr := h.row
    unfold Blk at hr
    rw [h5] at hr
    injection hr with hr
    injection hr with _ ht
    revert ht; decide
theorem Fam.rowG {w w1 : World} {g B N n : Nat} {V : Nat → Value} {X : Nat → List Nat} (h : Fam w g B N V X) (hn : n < N) (hg : w.grownBy w1 (V n).ownBlock) : Blk w1 g 34 ((List.range N).map V).toArray :=
  (hg.block g h.row.lt (fun e => h.far n hn e.symm)).trans h.row
/-- One slice of the family is appended to. -/
theorem Fam.app {w w1 : World} {g B N n a : Nat} {V : Nat → Value} {X : Nat → List Nat} {v' : Value} (h : Fam w g B N V X) (hn : n < N)
    (hown : w1.ownsRow B 3 1 v' ((X n).length + 1) (ints (X n) ++ [.int .i64 (a : Int)])) (hg : w.grownBy w1 (V n).ownBlock) (hb : v'.ownBlock = (V n).ownBlock ∨ v'.ownBlock = some w.heap.size) :
    Fam (w1.setCell ⟨g, n, none⟩ v') g B N (fun i => if i = n then v' else V i) (fun i => if i = n then X n ++ [a] else X i) := by
  have hgn : ∀ i, i < N → (V i).ownBlock ≠ some g := fun i hi => by
    have ho := h.own i hi
    intro e
    obtain ⟨_, h2⟩ := ho
    rcases h2 with ⟨h3, _⟩ | ⟨g', cap, cur, h3, _, h5, _⟩
    · rw [h3] at e; cases e
    · rw [h3] at e
      have : g' = g := by simpa [Value.ownBlock] using e
      subst this
      have hr := h.row
      unfold Blk at hr
      rw [h5] at hr
      injection hr with hr
      injection hr with _ ht
      revert ht; decide
  have hrow1 : Blk w1 g 34 ((List.range N).map V).toArray := (hg.block g h.row.lt (fun e => hgn n hn e.symm)).trans h.row
  have hv'g : v'.ownBlock ≠ some g := by
    rcases hb with e | e
    · rw [e]; exact hgn n hn
    · rw [e]; intro e'; have := h.row.lt; injection e' with e'; omega
  have setOwn : ∀ (u : Value) (m : Nat) (ys : List Value), w1.ownsRow B 3 1 u m ys → u.ownBlock ≠ some g → (w1.setCell ⟨g, n, none⟩ v').ownsRow B 3 1 u m ys := fun u m ys ho hu => by
    refine ⟨ho.1, ?_⟩
    rcases ho.2 with h3 | ⟨g', cap, cur, h3, h4, h5, h6⟩
    · exact .inl h3
    · refine .inr ⟨g', cap, cur, h3, h4, (Below.heap_setCell w1 ⟨g, n, none⟩ v' g' ?_).trans h5, h6⟩
      rintro rfl
      exact hu (by rw [h3]; simp [Value.ownBlock])
  refine ⟨?_, ?_, ?_⟩
  · rw [← range_map_set N V n v' hn]; exact hrow1.set_ n v'
  · intro i hi
    by_cases e : i = n
    · subst e
      simp only [if_true]
      rw [List.length_append, ints_snoc]
      exact setOwn _ _ _ hown hv'g
    · simp only [if_neg e]
      refine setOwn _ _ _ ((h.own i hi).kept hg ?_) (hgn i hi)
      rcases h.sep i n hi hn e with h1 | h1
      · exact .inl h1
      · exact .inr h1
  · intro i j hi hj hij
    have hlt : ∀ k, k < N → (V k).ownBlock ≠ some w.heap.size := fun k hk e => by
      have := (h.own k hk).lt _ e; omega
    by_cases ei : i = n
    · subst ei
      simp only [if_true, if_neg (fun e : j = i => hij e.symm)]
      rcases hb with e | e
      · rw [e]; exact h.sep i j hi hj hij
      · rw [e]; right; exact fun e' => hlt j hj e'.symm
    · simp only [if_neg ei]
      by_cases ej : j = n
      · subst ej
        simp only [if_true]
        rcases hb with e | e
        · rw [e]; exact h.sep i j hi hj hij
        · rw [e]; right; exact hlt i hi
      · simp only [if_neg ej]; exact h.sep i j hi hj hij
theorem Fam.alloc {w : World} {g B N : Nat} {V : Nat → Value} {X : Nat → List Nat} (h : Fam w g B N V X) (o : Obj) : Fam (w.alloc o) g B N V X :=
  ⟨h.row.alloc o, fun i hi => (h.own i hi).alloc o, h.sep⟩
theorem Fam.keep {w w' : World} {g B N : Nat} {V : Nat → Value} {X : Nat → List Nat} (h : Fam w g B N V X) (hx : Ext w w') : Fam w' g B N V X :=
  ⟨h.row.keep hx, fun i hi => (h.own i hi).kept (row := none) ⟨hx.os, hx.tape, hx.output, hx.size, fun k hk _ => hx.block k hk⟩ (by
    by_cases e : (V i).ownBlock = none
    · exact .inl e
    · exact .inr e), h.sep⟩
/-- The arcs that begin at a node, below m. -/
def leavTo (t : Tp) (m n : Nat) : List Nat := (List.range m).filter fun a => tailP t a == (n : Int)
def leavP (t : Tp) (n : Nat) : List Nat := leavTo t (2 * t.links.length) n
theorem leavTo_succ (t : Tp) (m n : Nat) : leavTo t (m + 1) n = if tailP t m == (n : Int) then leavTo t m n ++ [m] else leavTo t m n := by
  unfold leavTo
  rw [List.range_succ, List.filter_append]
  by_cases h : tailP t m == (n : Int) <;> simp [h]
theorem leavTo_len (t : Tp) (m n : Nat) : (leavTo t m n).length ≤ m := by
  unfold leavTo
  exact Nat.le_trans (List.length_filter_le _ _) (by simp)
/-- The lists, to be read. -/
def LL (w : World) (g N : Nat) (X : Nat → List Nat) : Prop :=
  ∃ V : Nat → Value, Blk w g 34 ((List.range N).map V).toArray ∧ ∀ i, i < N → ∃ (A : Option Addr) (c : Nat), V i = .slice A (X i).length c ∧ (X i).length ≤ c ∧ RdT w 3 A (ints (X i))
theorem LL.keep {w w' : World} {g N : Nat} {X : Nat → List Nat} (h : LL w g N X) (hx : Ext w w') : LL w' g N X := by
  obtain ⟨V, h1, h2⟩ := h
  refine ⟨V, h1.keep hx, fun i hi => ?_⟩
  obtain ⟨A, c, h3, h4, h5⟩ := h2 i hi
  exact ⟨A, c, h3, h4, h5.keep hx⟩
theorem ownsRow_rdT {w : World} {B n : Nat} {v : Value} {l : List Nat} (h : w.ownsRow B 3 1 v n (ints l)) (hn : n = l.length) : ∃ (A : Option Addr) (c : Nat), v = .slice A l.length c ∧ l.length ≤ c ∧ RdT w 3 A (ints l) := by
  subst hn
  obtain ⟨h1, h2⟩ := h
  rcases h2 with ⟨h3, h4⟩ | ⟨g', cap, cur, h3, h4, h5, h6, h7, h8, h9⟩
  · have : l = [] := by simpa [ints] using h4
    subst this
    exact ⟨none, 0, h3, Nat.le_refl _, RdT.nil _ _ _⟩
  · refine ⟨some ⟨g', 0, none⟩, cap, h3, h6, fun _ => ⟨g', 0, cur, (0, 0), rfl, h5, fun i hi => ?_⟩⟩
    rw [← h9, List.getElem?_take, if_pos (by rw [ints_length] at hi; omega), Nat.zero_add]; simp
theorem Fam.ll {w : World} {g B N : Nat} {V : Nat → Value} {X : Nat → List Nat} (h : Fam w g B N V X) : LL w g N X :=
  ⟨V, h.row, fun i hi => ownsRow_rdT (h.own i hi) rfl⟩

end Go.Proofs.YtekiomanidimnaaDoor


namespace Go.Proofs.YtekiomanidimnaaDoor
open Go.RowKit

theorem head_tail' (t : Tp) (a : Nat) : headP t a = tailP t (a / 2 * 2 + 1 - a % 2) := by
  rw [head_tail]
  congr 1
  rw [xor_one]
  split <;> omega
end Go.Proofs.YtekiomanidimnaaDoor


namespace Go.Proofs.YtekiomanidimnaaDoor
open Go.RowKit

end Go.Proofs.YtekiomanidimnaaDoor


namespace Go.Proofs.YtekiomanidimnaaDoor
open Go.RowKit
section
variable {P : Program} (w : World)
theorem addr_add (b o j : Nat) : (⟨b, o, none⟩ : Addr).add j = ⟨b, o + j, none⟩ := by unfold Addr.add; split <;> simp_all
theorem run_append_rd (base : Nat) (t ty e : TypeId) (i : TypeInfo) (z : Value) (bytes : Nat) (ht : P.underlying t = some (.slice e)) (hi : P.info? e = some i) (hz : i.zero = some z)
    (hsize : i.size = 1) (hby : i.bytes = bytes) (hzs : z.cells.size = 1)
    (v : Value) (n : Nat) (xs : List Value) (hown : w.ownsRow base e 1 v n xs)
    (A : Option Addr) (m c : Nat) (news : List Value) (hm : m = news.length) (hr : Rd w A news) (hA : A = none → m = 0 ∧ c = 0 ∨ m = 0) (h1 : ∀ u ∈ news, u.oneCell' = true)
    (h63 : n + m ≤ maxLen) (hbytes : (n + m) * bytes ≤ 140737488355328) (hbase : base ≤ w.heap.size) :
    ∃ v' w', (Builtin.append_ #[t, t] ty #[v, .slice A m c]).run P w = .ok v' w' ∧ w'.ownsRow base e 1 v' (n + m) (xs ++ news) ∧ w.grownBy w' v.ownBlock ∧
      (v'.ownBlock = v.ownBlock ∨ v'.ownBlock = some w.heap.size) := by
  rcases A with _ | ad
  · have hm0 : m = 0 := by rcases hA rfl with h | h <;> omega
    subst hm0
    have hn : news = [] := List.eq_nil_of_length_eq_zero hm.symm
    subst hn
    refine ⟨v, w, ?_, by simpa using hown, World.grownBy.refl w _, .inl rfl⟩
    rcases hown.2 with ⟨rfl, rfl⟩ | ⟨g, cap, cur, rfl, _, _, hnc, _⟩
    · simp [Builtin.append_, run_underlying ht, sizeOf, typeInfo, hi, Builtin.lenOf, Builtin.firstCells]
    · simp [Builtin.append_, run_underlying ht, sizeOf, typeInfo, hi, Builtin.lenOf, Builtin.firstCells, hnc, storeCells]
  · have hcells : ∀ j u, news[j]? = some u → w.cell? (ad.add j) = some u := by
      intro j u hu
      have hj : j < news.length := (List.getElem?_eq_some_iff.1 hu).1
      obtain ⟨b, o, he, _, hc⟩ := hr.at_ hj
      injection he with he
      subst he
      rw [addr_add, hc j hj, hu]
    obtain ⟨v', w', hrun, h2, h3, _, h5⟩ := run_append_own_at (P := P) w base t ty e i z 1 bytes ht hi hz hsize hby hzs (by omega) v n xs hown ad m c news (by rw [hm, Nat.mul_one]) hcells h1 h63 hbytes hbase
    exact ⟨v', w', hrun, h2, h3, h5⟩
theorem wp_append_rd {o : Oper} {a : Act} {K : Act → World → Prop} {Q : Exit → Act → World → Prop} (s x : Operand) (t : TypeId)
    (ho : o.op = .call { callee := .builtin .append, args := #[s, x], argTypes := #[t, t] })
    (base : Nat) (e : TypeId) (i : TypeInfo) (z : Value) (bytes : Nat) (ht : P.underlying t = some (.slice e)) (hi : P.info? e = some i) (hz : i.zero = some z)
    (hsize : i.size = 1) (hby : i.bytes = bytes) (hzs : z.cells.size = 1)
    (v : Value) (n : Nat) (xs : List Value) (hs : a.eval s = v) (hown : w.ownsRow base e 1 v n xs)
    (A : Option Addr) (m c : Nat) (news : List Value) (hx : a.eval x = .slice A m c) (hm : m = news.length) (hr : Rd w A news) (hA : A = none → m = 0 ∧ c = 0 ∨ m = 0) (h1 : ∀ u ∈ news, u.oneCell' = true)
    (h63 : n + m ≤ maxLen) (hbytes : (n + m) * bytes ≤ 140737488355328) (hbase : base ≤ w.heap.size)
    (h : ∀ v' w', w'.ownsRow base e 1 v' (n + m) (xs ++ news) → w.grownBy w' v.ownBlock → (v'.ownBlock = v.ownBlock ∨ v'.ownBlock = some w.heap.size) → K (a.put o.dst v') w') : o.wp P a w K Q := by
  obtain ⟨v', w', hrun, h2, h3, h4⟩ := run_append_rd (P := P) w base t o.type e i z bytes ht hi hz hsize hby hzs v n xs hown A m c news hm hr hA h1 h63 hbytes hbase
  unfold Oper.wp execOp
  simp only [ho, resolve, invoke, builtin, Sem.run_bind, Sem.run_pure, Result.andThen_ok, List.map_toArray, List.map_cons, List.map_nil, hs, hx, hrun]
  exact h v' w' h2 h3 h4
theorem wpList_append_rd {ops : Array Oper} {rest : List Oper} {o : Oper} {a : Act} {Q : Exit → Act → World → Prop} (hgd : o.guard = none) (s x : Operand) (t : TypeId)
    (ho : o.op = .call { callee := .builtin .append, args := #[s, x], argTypes := #[t, t] })
    (base : Nat) (e : TypeId) (i : TypeInfo) (z : Value) (bytes : Nat) (ht : P.underlying t = some (.slice e)) (hi : P.info? e = some i) (hz : i.zero = some z)
    (hsize : i.size = 1) (hby : i.bytes = bytes) (hzs : z.cells.size = 1)
    (v : Value) (n : Nat) (xs : List Value) (hs : a.eval s = v) (hown : w.ownsRow base e 1 v n xs)
    (A : Option Addr) (m c : Nat) (news : List Value) (hx : a.eval x = .slice A m c) (hm : m = news.length) (hr : Rd w A news) (hA : A = none → m = 0 ∧ c = 0 ∨ m = 0) (h1 : ∀ u ∈ news, u.oneCell' = true)
    (h63 : n + m ≤ maxLen) (hbytes : (n + m) * bytes ≤ 140737488355328) (hbase : base ≤ w.heap.size)
    (h : ∀ v' w', w'.ownsRow base e 1 v' (n + m) (xs ++ news) → w.grownBy w' v.ownBlock → (v'.ownBlock = v.ownBlock ∨ v'.ownBlock = some w.heap.size) → wpList P ops Q rest (a.put o.dst v') w') : wpList P ops Q (o :: rest) a w :=
  wpList_plain hgd fun _ hK => wp_append_rd w s x t ho base e i z bytes ht hi hz hsize hby hzs v n xs hs hown A m c news hx hm hr hA h1 h63 hbytes hbase fun v' w' h2 h3 h4 => hK _ _ (h v' w' h2 h3 h4)
theorem step_append_rd {ops : Array Oper} {o : Oper} {a : Act} {K : Act → World → Prop} {Q : Exit → Act → World → Prop} {E : Prop} (hgd : o.guard = none) (s x : Operand) (t : TypeId)
    (ho : o.op = .call { callee := .builtin .append, args := #[s, x], argTypes := #[t, t] })
    (base : Nat) (e : TypeId) (i : TypeInfo) (z : Value) (bytes : Nat) (ht : P.underlying t = some (.slice e)) (hi : P.info? e = some i) (hz : i.zero = some z)
    (hsize : i.size = 1) (hby : i.bytes = bytes) (hzs : z.cells.size = 1)
    (v : Value) (n : Nat) (xs : List Value) (hs : a.eval s = v) (hown : w.ownsRow base e 1 v n xs)
    (A : Option Addr) (m c : Nat) (news : List Value) (hx : a.eval x = .slice A m c) (hm : m = news.length) (hr : Rd w A news) (hA : A = none → m = 0 ∧ c = 0 ∨ m = 0) (h1 : ∀ u ∈ news, u.oneCell' = true)
    (h63 : n + m ≤ maxLen) (hbytes : (n + m) * bytes ≤ 140737488355328) (hbase : base ≤ w.heap.size)
    (h : ∀ v' w', w'.ownsRow base e 1 v' (n + m) (xs ++ news) → w.grownBy w' v.ownBlock → (v'.ownBlock = v.ownBlock ∨ v'.ownBlock = some w.heap.size) → K (a.put o.dst v') w') :
    if Region.wanted o (yielded ops a.tmps) = true then Oper.wp P o a w K Q else E := by
  have hw : Region.wanted o (yielded ops a.tmps) = true := by simp [Region.wanted, hgd]
  rw [if_pos hw]
  exact wp_append_rd w s x t ho base e i z bytes ht hi hz hsize hby hzs v n xs hs hown A m c news hx hm hr hA h1 h63 hbytes hbase h
end
theorem ints_one (l : List Nat) : ∀ u ∈ ints l, u.oneCell' = true := by
  intro u hu
  simp only [ints, List.mem_map] at hu
  obtain ⟨_, _, rfl⟩ := hu
  rfl
/-- A list of paths that the call has made. -/
structure Paths (w : World) (B : Nat) (v : Value) (ps : List (List Nat)) : Prop where
  ex : ∃ cells : List Value, cells.length = ps.length ∧ w.ownsRow B 34 1 v ps.length cells ∧
    ∀ (i : Nat) (p : List Nat), ps[i]? = some p → ∃ (A : Option Addr) (c : Nat), cells[i]? = some (.slice A p.length c) ∧ p.length ≤ c ∧ RdT w 3 A (ints p)
theorem Paths.nil (w : World) (B : Nat) : Paths w B (.slice none 0 0) [] := ⟨[], rfl, World.ownsRow_nil _ _ _ _, fun i p h => by simp at h⟩
end Go.Proofs.YtekiomanidimnaaDoor
