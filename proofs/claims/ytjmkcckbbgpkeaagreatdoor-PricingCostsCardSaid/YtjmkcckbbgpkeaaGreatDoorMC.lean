/- Topologies in memory; topology.within, waypointref09.within, graph.Node, Arcs, Tail, Head, Over, Fits, Down: what each call returns. -/
/- graph.Over, Node, Arcs, Fits, Down, pricing.usable: what each call returns. -/
/- A region that draws its order, whose operations read what is there and whose calls make memory but return values that do not hang on it: one walk in the order of the text. -/
/- topology.Valid: what the call returns. -/
/- waypointref09.Valid: what the call returns. -/
/- graph.Leaving: for each node the arcs that begin there. -/
/- waypointref09.Arcs, Tail, Head, Overloaded, Out, waypointref14.Down, Mask: what each call returns, for a valid topology. -/
/- waypointref09.Out: the arcs that begin at a node, for a valid topology. -/
/- append onto a row of the call's own, the source a slice that reads as a list (nil, empty or not). -/
import Derived.Test.YtjmkcckbbgpkeaaGreatDoorMB
import Derived.Deep.DeepCutAuto
import Derived.Maps.AppendAt
import Derived.Deep.AppendLies
set_option linter.unusedVariables false
set_option linter.unusedSimpArgs false

namespace Go.Proofs.YtjmkcckbbgpkeaaGreatDoor
open Go.RowKit

/-- A link. -/
structure Lk where
  a : Int
  b : Int
  c0 : Int
  c1 : Int
  cap : Int
  delay : Int
  group : Int
/-- A topology. -/
structure Tp where
  nodes : Int
  over : List Bool
  links : List Lk
def Lk.cells (l : Lk) : List Value := [.int .i64 l.a, .int .i64 l.b, .int .i64 l.c0, .int .i64 l.c1, .int .i64 l.cap, .int .i64 l.delay, .int .i64 l.group]
def bools (l : List Bool) : List Value := l.map Value.bool
def i64 (x : Int) : Prop := -9223372036854775808 ≤ x ∧ x ≤ 9223372036854775807
def Lk.wf (l : Lk) : Prop := i64 l.a ∧ i64 l.b ∧ i64 l.c0 ∧ i64 l.c1 ∧ i64 l.cap ∧ i64 l.delay ∧ i64 l.group
/-- The topology's parts lie in memory. -/
structure TopR (w : World) (t : Tp) (AO : Option Addr) (co : Nat) (AL : Option Addr) (cl : Nat) : Prop where
  nodes : i64 t.nodes
  lo : t.over.length ≤ co
  ll : t.links.length ≤ cl
  co : t.over.length ≤ 281474976710656
  cl : t.links.length ≤ 281474976710656
  over : Rd w AO (bools t.over)
  links : Rd w AL (t.links.flatMap Lk.cells)
  wf : ∀ l ∈ t.links, l.wf
theorem TopR.keep {w w' : World} {t : Tp} {AO : Option Addr} {co : Nat} {AL : Option Addr} {cl : Nat} (h : TopR w t AO co AL cl) (hb : Ext w w') : TopR w' t AO co AL cl :=
  ⟨h.nodes, h.lo, h.ll, h.co, h.cl, h.over.keep hb, h.links.keep hb, h.wf⟩
theorem flatMap_cells (ls : List Lk) (i k : Nat) (hi : i < ls.length) (hk : k < 7) : (ls.flatMap Lk.cells)[i * 7 + k]? = (ls[i]).cells[k]? := by
  induction ls generalizing i with
  | nil => simp at hi
  | cons l ls ih =>
    cases i with
    | zero =>
      simp only [List.flatMap_cons, Nat.zero_mul, Nat.zero_add, List.getElem_cons_zero]
      rw [List.getElem?_append_left (by simp [Lk.cells]; omega)]
    | succ i =>
      simp only [List.flatMap_cons, List.getElem_cons_succ]
      rw [List.getElem?_append_right (by simp [Lk.cells]; omega), show (i + 1) * 7 + k - l.cells.length = i * 7 + k by simp [Lk.cells]; omega]
      exact ih i (by simpa using hi)
theorem flatMap_cells_length (ls : List Lk) : (ls.flatMap Lk.cells).length = ls.length * 7 := by
  induction ls with
  | nil => rfl
  | cons l ls ih => simp only [List.flatMap_cons, List.length_append, ih, List.length_cons]; simp [Lk.cells]; omega
theorem TopR.link {w : World} {t : Tp} {AO : Option Addr} {co : Nat} {AL : Option Addr} {cl : Nat} (h : TopR w t AO co AL cl) {i : Nat} {l : Lk} (hl : t.links[i]? = some l) :
    ∃ b o : Nat, AL = some ⟨b, o, none⟩ ∧ b < w.heap.size ∧ (w.cell? ⟨b, o + i * 7, none⟩ = some (.int .i64 l.a) ∧ w.cell? ⟨b, o + i * 7 + 1, none⟩ = some (.int .i64 l.b) ∧ w.cell? ⟨b, o + i * 7 + 2, none⟩ = some (.int .i64 l.c0) ∧
      w.cell? ⟨b, o + i * 7 + 3, none⟩ = some (.int .i64 l.c1) ∧ w.cell? ⟨b, o + i * 7 + 4, none⟩ = some (.int .i64 l.cap) ∧ w.cell? ⟨b, o + i * 7 + 5, none⟩ = some (.int .i64 l.delay) ∧ w.cell? ⟨b, o + i * 7 + 6, none⟩ = some (.int .i64 l.group)) := by
  obtain ⟨hi, he⟩ := List.getElem?_eq_some_iff.1 hl
  have hlen := flatMap_cells_length t.links
  obtain ⟨b, o, e, hlt, hc⟩ := h.links (by intro e; rw [e] at hlen; simp at hlen; omega)
  have hk : ∀ k, k < 7 → w.cell? ⟨b, o + i * 7 + k, none⟩ = l.cells[k]? := fun k hk => by
    rw [Nat.add_assoc, hc (i * 7 + k) (by rw [hlen]; omega), flatMap_cells t.links i k hi hk, he]
  exact ⟨b, o, e, hlt, hk 0 (by omega), hk 1 (by omega), hk 2 (by omega), hk 3 (by omega), hk 4 (by omega), hk 5 (by omega), hk 6 (by omega)⟩
/-- Where an arc begins. -/
def tailP (t : Tp) (a : Nat) : Int := match t.links[a / 2]? with
  | some l => if a % 2 = 0 then l.a else l.b
  | none => -1
/-- Where an arc ends. -/
def headP (t : Tp) (a : Nat) : Int := match t.links[a / 2]? with
  | some l => if a % 2 = 0 then l.b else l.a
  | none => -1
def overP (t : Tp) (n : Int) : Bool := t.over[n.toNat]?.getD false

set_option maxHeartbeats 1000000 in
theorem tWithin_any (n lo hi : Int) (w : World) :
    Calls Tryz.prog 46 #[.int .i64 n, .int .i64 lo, .int .i64 hi] w fun e w' => e = .returned (.bool (decide (lo ≤ n ∧ n ≤ hi))) ∧ w = w' := by
  have hd : decide (lo ≤ n ∧ n ≤ hi) = (decide (lo ≤ n) && decide (n ≤ hi)) := by simp
  rw [hd]
  have HD := Lib.hid (hd)
  clear hd
  by_cases h1 : lo ≤ n
  · have h1' : decide (lo ≤ n) = true := by simpa using h1
    rw [h1']
    go_enter Tryz.func46, Tryz.ntmps46
    go_wp2
    go_ret
    exact ⟨by simp, rfl⟩
  · have h1' : decide (lo ≤ n) = false := by simpa using h1
    rw [h1']
    go_enter Tryz.func46, Tryz.ntmps46
    go_wp2
    go_ret
    exact ⟨by simp, rfl⟩
set_option maxHeartbeats 1000000 in
theorem rWithin_any (n lo hi : Int) (w : World) :
    Calls Tryz.prog 17 #[.int .i64 n, .int .i64 lo, .int .i64 hi] w fun e w' => e = .returned (.bool (decide (lo ≤ n ∧ n ≤ hi))) ∧ w = w' := by
  have hd : decide (lo ≤ n ∧ n ≤ hi) = (decide (lo ≤ n) && decide (n ≤ hi)) := by simp
  rw [hd]
  have HD := Lib.hid (hd)
  clear hd
  by_cases h1 : lo ≤ n
  · have h1' : decide (lo ≤ n) = true := by simpa using h1
    rw [h1']
    go_enter Tryz.func17, Tryz.ntmps17
    go_wp2
    go_ret
    exact ⟨by simp, rfl⟩
  · have h1' : decide (lo ≤ n) = false := by simpa using h1
    rw [h1']
    go_enter Tryz.func17, Tryz.ntmps17
    go_wp2
    go_ret
    exact ⟨by simp, rfl⟩

set_option maxHeartbeats 1000000 in
theorem gTail_any (t : Tp) (AO : Option Addr) (co : Nat) (AL : Option Addr) (cl : Nat) (a : Nat) (w : World) (ht : TopR w t AO co AL cl) (ha : a / 2 < t.links.length) :
    Calls Tryz.prog 50 #[.agg #[.int .i64 t.nodes, .slice AO t.over.length co, .slice AL t.links.length cl], .int .i64 a] w fun e w' => e = .returned (.int .i64 (tailP t a)) ∧ Ext w w' := by
  have hl := ht.ll
  have hcl := ht.cl
  obtain ⟨l, hl'⟩ : ∃ l, t.links[a / 2]? = some l := ⟨_, List.getElem?_eq_getElem ha⟩
  obtain ⟨b, o, rfl, hb, c0, c1, _⟩ := ht.link hl'
  have hv : tailP t a = if a % 2 = 0 then l.a else l.b := by unfold tailP; rw [hl']
  rw [hv]
  clear ht hl' hv
  by_cases h : a % 2 = 0
  · rw [if_pos h]
    have h' : (((a : Int) % 2) == 0) = true := by simp; omega
    clear h
    go_enter Tryz.func50, Tryz.ntmps50
    go_wp2
    go_ret
    exact ⟨rfl, (Ext.refl w).alloc _⟩
  · rw [if_neg h]
    have h' : (((a : Int) % 2) == 0) = false := beq_eq_false_iff_ne.2 (by omega)
    clear h
    go_enter Tryz.func50, Tryz.ntmps50
    go_wp2
    go_ret
    exact ⟨rfl, (Ext.refl w).alloc _⟩

theorem xor_one (a : Nat) : a ^^^ 1 = if a % 2 = 0 then a + 1 else a - 1 := by
  have h : (a ^^^ 1) / 2 = a / 2 := by rw [Nat.xor_div_two]; simp
  have h2 := @Nat.xor_mod_two_eq_one a 1
  split <;> omega
theorem bits_xor_one (a : Nat) (ha : a < 9223372036854775808) : bits BinOp.xor IntKind.i64 (a : Int) 1 = ((a ^^^ 1 : Nat) : Int) := by
  have hx : a ^^^ 1 < 2 ^ 63 := Nat.xor_lt_two_pow (by omega) (by omega)
  show IntKind.i64.wrap ((BitVec.ofInt 64 (a : Int) ^^^ BitVec.ofInt 64 (1 : Int)).toNat : Int) = _
  have e1 : (BitVec.ofInt 64 (a : Int)).toNat = a := by rw [BitVec.ofInt_natCast, BitVec.toNat_ofNat]; exact Nat.mod_eq_of_lt (by omega)
  have e2 : (BitVec.ofInt 64 (1 : Int)).toNat = 1 := by decide
  rw [BitVec.toNat_xor, e1, e2, IntKind.wrap_i64]
  omega
theorem head_tail (t : Tp) (a : Nat) : headP t a = tailP t (a ^^^ 1) := by
  unfold headP tailP
  have hx := xor_one a
  have h1 : (a ^^^ 1) / 2 = a / 2 := by rw [hx]; split <;> omega
  have h2 : (a ^^^ 1) % 2 = 0 ↔ ¬ a % 2 = 0 := by rw [hx]; split <;> omega
  rw [h1]
  cases t.links[a / 2]? with
  | none => rfl
  | some l =>
    by_cases h : a % 2 = 0
    · simp only [if_pos h]; rw [if_neg (fun e => h2.1 e h)]
    · simp only [if_neg h]; rw [if_pos (h2.2 h)]
set_option maxHeartbeats 1000000 in
theorem gHead_any (t : Tp) (AO : Option Addr) (co : Nat) (AL : Option Addr) (cl : Nat) (a : Nat) (w : World) (ht : TopR w t AO co AL cl) (ha : a / 2 < t.links.length) :
    Calls Tryz.prog 26 #[.agg #[.int .i64 t.nodes, .slice AO t.over.length co, .slice AL t.links.length cl], .int .i64 a] w fun e w' => e = .returned (.int .i64 (headP t a)) ∧ Ext w w' := by
  have hl := ht.ll
  have hcl := ht.cl
  have hb := bits_xor_one a (by omega)
  have hx := xor_one a
  have ha' : (a ^^^ 1) / 2 < t.links.length := by rw [hx]; split <;> omega
  rw [head_tail]
  have HT := Lib.hid (ht)
  generalize a ^^^ 1 = a' at *
  clear hx ht
  obtain ⟨hba, e0⟩ := boxes1 w #[.int .i64 t.nodes, .slice AO t.over.length co, .slice AL t.links.length cl] 25
  go_enter Tryz.func26, Tryz.ntmps26
  go_wp2_with fail
  refine (gTail_any t AO co AL cl a' _ (HT.out.keep e0) ha').mono ?_
  rintro e w1 ⟨rfl, hx1⟩
  have HX := Lib.hid (e0.tr hx1)
  clear hx1 e0 hba
  go_wp2
  go_ret
  exact ⟨rfl, HX.out⟩

end Go.Proofs.YtjmkcckbbgpkeaaGreatDoor


namespace Go.Proofs.YtjmkcckbbgpkeaaGreatDoor
open Go.RowKit

theorem Rd.bool {w : World} {A : Option Addr} {l : List Bool} (h : Rd w A (bools l)) {k : Nat} (hk : k < l.length) :
    ∃ b o : Nat, A = some ⟨b, o, none⟩ ∧ b < w.heap.size ∧ w.cell? ⟨b, o + k, none⟩ = some (.bool (l[k]?.getD false)) := by
  obtain ⟨b, o, e, hlt, hc⟩ := h.at_ (i := k) (by simpa [bools] using hk)
  refine ⟨b, o, e, hlt, (hc k (by simpa [bools] using hk)).trans ?_⟩
  simp [bools, hk]
def TopBox (t : Tp) (AO : Option Addr) (co : Nat) (AL : Option Addr) (cl : Nat) : Array Value := #[.int .i64 t.nodes, .slice AO t.over.length co, .slice AL t.links.length cl]

set_option maxHeartbeats 1000000 in
theorem gOver_any (t : Tp) (AO : Option Addr) (co : Nat) (AL : Option Addr) (cl : Nat) (n : Int) (w : World) (ht : TopR w t AO co AL cl) (h0 : 0 ≤ n) (hn : t.over = [] ∨ n < t.over.length) :
    Calls Tryz.prog 52 #[.agg #[.int .i64 t.nodes, .slice AO t.over.length co, .slice AL t.links.length cl], .int .i64 n] w fun e w' => e = .returned (.bool (overP t n)) ∧ Ext w w' := by
  obtain ⟨N, rfl⟩ := Int.eq_ofNat_of_zero_le h0
  have hlo := ht.lo
  have hco := ht.co
  by_cases he : t.over.length = 0
  · have hv : overP t N = false := by unfold overP; rw [List.length_eq_zero_iff.1 he]; rfl
    rw [hv]
    have hz : (t.over.length : Int) = 0 := by omega
    rw [he]
    clear ht hn hv hz he
    go_enter Tryz.func52, Tryz.ntmps52
    go_wp2
    go_ret
    exact ⟨rfl, (Ext.refl w).alloc _⟩
  · have hN : N < t.over.length := by
      rcases hn with h | h
      · rw [h] at he; simp at he
      · omega
    obtain ⟨b, o, rfl, hb, hc⟩ := ht.over.bool hN
    have hv : overP t N = t.over[N]?.getD false := rfl
    rw [hv]
    generalize t.over[N]?.getD false = x at *
    have hpos : decide ((0 : Int) < (t.over.length : Int)) = true := by simp; omega
    have hpos' : 0 < t.over.length := by omega
    clear ht hn hv he
    go_enter Tryz.func52, Tryz.ntmps52
    go_wp2
    go_ret
    exact ⟨rfl, (Ext.refl w).alloc _⟩

set_option maxHeartbeats 1000000 in
theorem gNode_any (t : Tp) (AO : Option Addr) (co : Nat) (AL : Option Addr) (cl : Nat) (n : Int) (w : World) :
    Calls Tryz.prog 23 #[.agg #[.int .i64 t.nodes, .slice AO t.over.length co, .slice AL t.links.length cl], .int .i64 n] w fun e w' => e = .returned (.bool (decide (0 ≤ n ∧ n < t.nodes))) ∧ Ext w w' := by
  have hd : decide (0 ≤ n ∧ n < t.nodes) = (decide (0 ≤ n) && decide (n < t.nodes)) := by simp
  rw [hd]
  have HD := Lib.hid (hd)
  clear hd
  by_cases h1 : 0 ≤ n
  · have h1' : decide (0 ≤ n) = true := by simpa using h1
    rw [h1']
    go_enter Tryz.func23, Tryz.ntmps23
    go_wp2
    go_ret
    exact ⟨by simp, (Ext.refl w).alloc _⟩
  · have h1' : decide (0 ≤ n) = false := by simpa using h1
    rw [h1']
    go_enter Tryz.func23, Tryz.ntmps23
    go_wp2
    go_ret
    exact ⟨by simp, (Ext.refl w).alloc _⟩

set_option maxHeartbeats 1000000 in
theorem gArcs_any (t : Tp) (AO : Option Addr) (co : Nat) (AL : Option Addr) (cl : Nat) (w : World) (ht : TopR w t AO co AL cl) :
    Calls Tryz.prog 47 #[.agg #[.int .i64 t.nodes, .slice AO t.over.length co, .slice AL t.links.length cl]] w fun e w' => e = .returned (.int .i64 (2 * (t.links.length : Int))) ∧ Ext w w' := by
  have h1 := ht.ll
  have h2 := ht.cl
  clear ht
  go_enter Tryz.func47, Tryz.ntmps47
  go_wp2
  go_ret
  exact ⟨rfl, (Ext.refl w).alloc _⟩

/-- Is the list a mask, or empty? -/
def fitsP (t : Tp) (down : List Bool) : Bool := decide (down.length = 0 ∨ down.length = 2 * t.links.length)
set_option maxHeartbeats 1000000 in
theorem gFits_any (t : Tp) (AO : Option Addr) (co : Nat) (AL : Option Addr) (cl : Nat) (AD : Option Addr) (cd : Nat) (down : List Bool) (w : World) (ht : TopR w t AO co AL cl) :
    Calls Tryz.prog 21 #[.agg #[.int .i64 t.nodes, .slice AO t.over.length co, .slice AL t.links.length cl], .slice AD down.length cd] w fun e w' => e = .returned (.bool (fitsP t down)) ∧ Ext w w' := by
  have HT := Lib.hid (ht)
  have h1 := ht.ll
  have h2 := ht.cl
  clear ht
  obtain ⟨hba, e0⟩ := boxes1 w #[.int .i64 t.nodes, .slice AO t.over.length co, .slice AL t.links.length cl] 25
  by_cases h : down.length = 0
  · have hz : ((down.length : Int) == 0) = true := by rw [h]; rfl
    have hv : fitsP t down = true := by unfold fitsP; simp only [decide_eq_true_eq]; exact .inl h
    rw [hv]
    clear hv h
    go_enter Tryz.func21, Tryz.ntmps21
    go_wp2_with fail
    go_ret
    exact ⟨rfl, e0⟩
  · have hz : ((down.length : Int) == 0) = false := beq_eq_false_iff_ne.2 (by omega)
    have hv : ((down.length : Int) == 2 * (t.links.length : Int)) = fitsP t down := by
      unfold fitsP
      by_cases h' : down.length = 2 * t.links.length
      · rw [decide_eq_true (.inr h')]; simp; omega
      · rw [decide_eq_false (by omega)]; exact beq_eq_false_iff_ne.2 (by omega)
    generalize fitsP t down = v at *
    clear h
    go_enter Tryz.func21, Tryz.ntmps21
    go_wp2_with fail
    refine (gArcs_any t AO co AL cl _ (HT.out.keep e0)).mono ?_
    rintro e w1 ⟨rfl, hx1⟩
    have HX := Lib.hid (e0.tr hx1)
    clear hx1 e0 hba
    go_wp2
    go_ret
    exact ⟨rfl, HX.out⟩

/-- Is an arc down? -/
def downP (down : List Bool) (a : Nat) : Bool := down[a]?.getD false
set_option maxHeartbeats 1000000 in
theorem gDown_any (AD : Option Addr) (cd : Nat) (down : List Bool) (a : Nat) (w : World) (hd : Rd w AD (bools down)) (hc : down.length ≤ cd) (hcd : down.length ≤ 281474976710656) (ha : down = [] ∨ a < down.length) (hai : a ≤ 1125899906842624) :
    Calls Tryz.prog 51 #[.slice AD down.length cd, .int .i64 a] w fun e w' => e = .returned (.bool (downP down a)) ∧ w = w' := by
  by_cases he : down.length = 0
  · have hv : downP down a = false := by unfold downP; rw [List.length_eq_zero_iff.1 he]; rfl
    rw [hv]
    rw [he]
    clear hd ha hv he
    go_enter Tryz.func51, Tryz.ntmps51
    go_wp2
    go_ret
    exact ⟨rfl, rfl⟩
  · have hN : a < down.length := by
      rcases ha with h | h
      · rw [h] at he; simp at he
      · omega
    obtain ⟨b, o, rfl, hb, hcell⟩ := hd.bool hN
    have hv : downP down a = down[a]?.getD false := rfl
    rw [hv]
    generalize down[a]?.getD false = x at *
    have hpos' : 0 < down.length := by omega
    clear hd ha hv he
    go_enter Tryz.func51, Tryz.ntmps51
    go_wp2
    go_ret
    exact ⟨rfl, rfl⟩

/-- Is an arc usable towards d? -/
def usableP (t : Tp) (down : List Bool) (a : Nat) (d : Int) : Bool := !downP down a && (headP t a == d || !overP t (headP t a))
set_option maxHeartbeats 1000000 in
theorem usable_any (t : Tp) (AO : Option Addr) (co : Nat) (AL : Option Addr) (cl : Nat) (AD : Option Addr) (cd : Nat) (down : List Bool) (a : Nat) (d : Int) (w : World) (ht : TopR w t AO co AL cl) (ha : a / 2 < t.links.length)
    (hd : Rd w AD (bools down)) (hc : down.length ≤ cd) (hcd : down.length ≤ 281474976710656) (had : down = [] ∨ a < down.length) (hh : 0 ≤ headP t a) (hh' : t.over = [] ∨ headP t a < t.over.length) :
    Calls Tryz.prog 27 #[.agg #[.int .i64 t.nodes, .slice AO t.over.length co, .slice AL t.links.length cl], .slice AD down.length cd, .int .i64 a, .int .i64 d] w fun e w' => e = .returned (.bool (usableP t down a d)) ∧ Ext w w' := by
  have HT := Lib.hid (ht)
  have HD := Lib.hid (hd)
  have h1 := ht.ll
  have h2 := ht.cl
  have hai : a ≤ 562949953421313 := by omega
  obtain ⟨hba, e0⟩ := boxes1 w #[.int .i64 t.nodes, .slice AO t.over.length co, .slice AL t.links.length cl] 25
  have hcase : (downP down a = true ∧ usableP t down a d = false) ∨ (downP down a = false ∧ (headP t a == d) = true ∧ usableP t down a d = true) ∨ (downP down a = false ∧ (headP t a == d) = false ∧ usableP t down a d = !overP t (headP t a)) := by
    unfold usableP
    cases downP down a
    · cases headP t a == d
      · exact .inr (.inr ⟨rfl, rfl, rfl⟩)
      · exact .inr (.inl ⟨rfl, rfl, rfl⟩)
    · exact .inl ⟨rfl, rfl⟩
  clear ht hd
  rcases hcase with ⟨k1, k2⟩ | ⟨k1, k2, k3⟩ | ⟨k1, k2, k3⟩
  case inl =>
    rw [k2]
    have K1 := Lib.hid (k1)
    clear k1 k2
    go_enter Tryz.func27, Tryz.ntmps27
    go_wp2_with fail
    refine (gHead_any t AO co AL cl a _ (HT.out.keep e0) ha).mono ?_
    rintro e w1 ⟨rfl, hx1⟩
    have HX := Lib.hid (e0.tr hx1)
    clear hx1 e0 hba
    generalize headP t a = m at *
    go_wp2_with fail
    refine (gDown_any AD cd down a _ (HD.out.keep HX.out) hc hcd had (by omega)).mono ?_
    rintro e w2 ⟨rfl, rfl⟩
    rw [K1.out]
    go_wp2
    go_ret
    exact ⟨rfl, HX.out⟩
  case inr.inl =>
    rw [k3]
    have K1 := Lib.hid (k1)
    clear k1 k3
    go_enter Tryz.func27, Tryz.ntmps27
    go_wp2_with fail
    refine (gHead_any t AO co AL cl a _ (HT.out.keep e0) ha).mono ?_
    rintro e w1 ⟨rfl, hx1⟩
    have HX := Lib.hid (e0.tr hx1)
    clear hx1 e0 hba
    generalize headP t a = m at *
    go_wp2_with fail
    refine (gDown_any AD cd down a _ (HD.out.keep HX.out) hc hcd had (by omega)).mono ?_
    rintro e w2 ⟨rfl, rfl⟩
    rw [K1.out]
    go_wp2
    go_ret
    exact ⟨rfl, HX.out⟩
  case inr.inr =>
    rw [k3]
    have K1 := Lib.hid (k1)
    clear k1 k3
    go_enter Tryz.func27, Tryz.ntmps27
    go_wp2_with fail
    refine (gHead_any t AO co AL cl a _ (HT.out.keep e0) ha).mono ?_
    rintro e w1 ⟨rfl, hx1⟩
    have HX := Lib.hid (e0.tr hx1)
    have hba := hba.keep hx1
    obtain ⟨⟨i0, i1, i2⟩, g0, g1, g2⟩ := hba.three
    clear hx1 e0
    generalize hm : headP t a = m at *
    have HM := Lib.hid (hm)
    clear hm
    go_wp2_with fail
    refine (gDown_any AD cd down a _ (HD.out.keep HX.out) hc hcd had (by omega)).mono ?_
    rintro e w2 ⟨rfl, rfl⟩
    rw [K1.out]
    go_wp2_with fail
    refine (gOver_any t AO co AL cl m _ (HT.out.keep HX.out) hh hh').mono ?_
    rintro e w3 ⟨rfl, hx3⟩
    have HX3 := Lib.hid (HX.out.tr hx3)
    clear hx3
    go_wp2
    go_ret
    rw [HM.out]
    exact ⟨rfl, HX3.out⟩

end Go.Proofs.YtjmkcckbbgpkeaaGreatDoor


namespace Go.Proofs.YtjmkcckbbgpkeaaGreatDoor
open Go.RowKit
/-- The worlds that keep all that w has. -/
def XW (w : World) : Type := { W : World // Ext w W }
instance instNonemptyXW (w : World) : Nonempty (XW w) := ⟨⟨w, Ext.refl w⟩⟩
def XW.val {w : World} (x : XW w) : World := x.1
theorem XW.ext {w : World} (x : XW w) : Ext w x.val := x.2
theorem wp_region_ext {P : Program} {id : Nat} {Q : Exit → Act → World → Prop} {a : Act} {w : World} {l : List Oper} (hm : P.follows .mixedOrders = true) (hB : Region.lexB .any l.toArray = true)
    (h : wpQuiet P l.toArray (fun w' => ∃ x : XW w, w' = x.val) (fun a' => ∀ w', (∃ x : XW w, w' = x.val) → Q .normal a' w') l a) : (Code.region id l.toArray true).wp P Q a w :=
  wp_region_quiet (C := fun w' => ∃ x : XW w, w' = x.val) hm hB ⟨⟨w.drew, (Ext.refl w).drewN 1⟩, rfl⟩ (by simpa using h)
theorem Calls.ext_of {P : Program} {f : FuncId} {args : Array Value} {w : World} {x : XW w} {v : Value} (h : Calls P f args x.val fun e w' => e = .returned v ∧ Ext x.val w') :
    Calls P f args x.val fun e w'' => e = .returned v ∧ ∃ y : XW w, w'' = y.val :=
  h.mono fun _ w' ⟨he, hx⟩ => ⟨he, ⟨w', x.ext.tr hx⟩, rfl⟩
theorem Calls.ext_same {P : Program} {f : FuncId} {args : Array Value} {w : World} {x : XW w} {v : Value} (h : Calls P f args x.val fun e w' => e = .returned v ∧ x.val = w') :
    Calls P f args x.val fun e w'' => e = .returned v ∧ ∃ y : XW w, w'' = y.val :=
  h.mono fun _ _ ⟨he, hx⟩ => ⟨he, x, hx.symm⟩
theorem XW.cell {w : World} (b o : Nat) (v : Value) (hb : b < w.heap.size) (hc : w.cell? ⟨b, o, none⟩ = some v) : ∀ x : XW w, x.val.cell? ⟨b, o, none⟩ = some v := fun x => (x.ext.cell (p := ⟨b, o, none⟩) hb).trans hc
end Go.Proofs.YtjmkcckbbgpkeaaGreatDoor


namespace Go.Proofs.YtjmkcckbbgpkeaaGreatDoor
open Go.RowKit

def inB (n lo hi : Int) : Bool := decide (lo ≤ n ∧ n ≤ hi)
def ndB (N n : Int) : Bool := decide (0 ≤ n ∧ n < N)
theorem tWithin_b (n lo hi : Int) (w : World) : Calls Tryz.prog 46 #[.int .i64 n, .int .i64 lo, .int .i64 hi] w fun e w' => e = .returned (.bool (inB n lo hi)) ∧ w = w' := tWithin_any n lo hi w
theorem gNode_b (t : Tp) (AO : Option Addr) (co : Nat) (AL : Option Addr) (cl : Nat) (n : Int) (w : World) :
    Calls Tryz.prog 23 #[.agg #[.int .i64 t.nodes, .slice AO t.over.length co, .slice AL t.links.length cl], .int .i64 n] w fun e w' => e = .returned (.bool (ndB t.nodes n)) ∧ Ext w w' := gNode_any t AO co AL cl n w
/-- A link that a valid topology may have. -/
def Lk.ok (N : Int) (l : Lk) : Bool := !(l.a == l.b) && ndB N l.a && ndB N l.b && inB l.c0 1 65535 && inB l.c1 1 65535 && inB l.cap 0 1048576 && inB l.delay 1 65536 && inB l.group 0 64
def headOk (t : Tp) : Bool := inB t.nodes 1 64 && decide (t.links.length ≤ 256) && (decide (t.over.length = 0) || decide ((t.over.length : Int) = t.nodes))
def validP (t : Tp) : Bool := headOk t && t.links.all (Lk.ok t.nodes)

set_option maxHeartbeats 4000000 in
theorem tValid_head (t : Tp) (AO : Option Addr) (co : Nat) (AL : Option Addr) (cl : Nat) (w : World) (ht : TopR w t AO co AL cl) (hh : headOk t = false) :
    Calls Tryz.prog 20 #[.agg #[.int .i64 t.nodes, .slice AO t.over.length co, .slice AL t.links.length cl]] w fun e w' => e = .returned (.bool false) ∧ Ext w w' := by
  have h1 := ht.lo
  have h2 := ht.co
  have h3 := ht.ll
  have h4 := ht.cl
  clear ht
  unfold headOk at hh
  cases k1 : inB t.nodes 1 64
  · clear hh
    go_enter Tryz.func20, Tryz.ntmps20
    go_wp2_with (go_at_call 46; refine (tWithin_b _ _ _ _).mono ?_; rintro e w' ⟨rfl, rfl⟩)
    go_ret
    exact ⟨rfl, (Ext.refl w).alloc _⟩
  · by_cases k2 : t.links.length ≤ 256
    · have k3 : ((t.over.length : Int) != 0) = true ∧ ((t.over.length : Int) != t.nodes) = true := by
        rw [k1, decide_eq_true k2] at hh
        simp at hh
        simp
        exact hh
      obtain ⟨k3, k4⟩ := k3
      clear hh
      go_enter Tryz.func20, Tryz.ntmps20
      go_wp2_with (go_at_call 46; refine (tWithin_b _ _ _ _).mono ?_; rintro e w' ⟨rfl, rfl⟩)
      go_ret
      exact ⟨rfl, (Ext.refl w).alloc _⟩
    · have k2' : 256 < t.links.length := by omega
      clear hh
      go_enter Tryz.func20, Tryz.ntmps20
      go_wp2_with (go_at_call 46; refine (tWithin_b _ _ _ _).mono ?_; rintro e w' ⟨rfl, rfl⟩)
      go_ret
      exact ⟨rfl, (Ext.refl w).alloc _⟩

theorem all_false {ls : List Lk} {N : Int} {k : Nat} {l : Lk} (hl : ls[k]? = some l) (hb : l.ok N = false) : ls.all (Lk.ok N) = false := by
  obtain ⟨hk, he⟩ := List.getElem?_eq_some_iff.1 hl
  rw [List.all_eq_false]
  exact ⟨l, by rw [← he]; exact List.getElem_mem hk, by simp [hb]⟩
theorem all_true {ls : List Lk} {N : Int} (h : ∀ (j : Nat) (l : Lk), ls[j]? = some l → l.ok N = true) : ls.all (Lk.ok N) = true := by
  rw [List.all_eq_true]
  intro l hl
  obtain ⟨j, hj, rfl⟩ := List.mem_iff_getElem.1 hl
  exact h j _ (List.getElem?_eq_getElem hj)

set_option maxRecDepth 100000 in
set_option maxHeartbeats 8000000 in
theorem tValid_loop (t : Tp) (AO : Option Addr) (co : Nat) (AL : Option Addr) (cl : Nat) (w : World) (ht : TopR w t AO co AL cl) (hh : headOk t = true) :
    Calls Tryz.prog 20 #[.agg #[.int .i64 t.nodes, .slice AO t.over.length co, .slice AL t.links.length cl]] w fun e w' => e = .returned (.bool (t.links.all (Lk.ok t.nodes))) ∧ Ext w w' := by
  have HT := Lib.hid (ht)
  have h1 := ht.lo
  have h2 := ht.co
  have h3 := ht.ll
  have h4 := ht.cl
  clear ht
  obtain ⟨hba0, e0⟩ := boxes1 w #[.int .i64 t.nodes, .slice AO t.over.length co, .slice AL t.links.length cl] 25
  have BA := Lib.hid (hba0)
  have k1 : inB t.nodes 1 64 = true := by unfold headOk at hh; simp at hh; exact hh.1.1
  have k2 : t.links.length ≤ 256 := by unfold headOk at hh; simp at hh; exact hh.1.2
  have k3 : (((t.over.length : Int) != 0) = false) ∨ (((t.over.length : Int) != 0) = true ∧ ((t.over.length : Int) != t.nodes) = false) := by
    unfold headOk at hh; simp at hh
    by_cases h : t.over.length = 0
    · exact .inl (by simp; exact List.length_eq_zero_iff.1 h)
    · refine .inr ⟨bne_iff_ne.2 (by omega), ?_⟩
      have := hh.2
      simp
      rcases this with h' | h'
      · exact absurd (by rw [h']; rfl) h
      · exact h'
  clear hh hba0
  rcases k3 with k3 | ⟨k3, k4⟩
  all_goals
    go_enter Tryz.func20, Tryz.ntmps20
    go_wp2_with (go_at_call 46; refine (tWithin_b _ _ _ _).mono ?_; rintro e w' ⟨rfl, rfl⟩)
    go_loopw [30] (fun i wr => ∃ k : Nat, k ≤ t.links.length ∧ i = .int .i64 k ∧ Blk wr w.heap.size 25 #[.int .i64 t.nodes, .slice AO t.over.length co, .slice AL t.links.length cl] ∧ (∀ j l, j < k → t.links[j]? = some l → l.ok t.nodes = true) ∧ Ext w wr) (fun i _ => t.links.length - (intOf i).toNat)
    case atStart => exact ⟨0, Nat.zero_le _, rfl, BA.out, fun j l h => by omega, e0⟩
    case round =>
      obtain ⟨k, hk, rfl, hba, hall, hx⟩ := hrel
      have ALL := Lib.hid hall
      clear hall e0 BA
      by_cases hkl : k < t.links.length
      · obtain ⟨l, hl⟩ : ∃ l, t.links[k]? = some l := ⟨_, List.getElem?_eq_getElem hkl⟩
        have HL := Lib.hid hl
        have htr := HT.out.keep hx
        obtain ⟨b, o, rfl, hb, c0, c1, c2, c3, c4, c5, c6⟩ := htr.link hl
        have HX := Lib.hid hx
        obtain ⟨⟨i0, i1, i2⟩, _⟩ := hba.three
        clear hl htr hx
        go_upto_region 9 with fail
        go_cut [63] (fun s wx => s = .bool ((l.a == l.b) || !ndB t.nodes l.a || !ndB t.nodes l.b) ∧ Blk wx w.heap.size 25 #[.int .i64 t.nodes, .slice AO t.over.length co, .slice (some ⟨b, o, none⟩) t.links.length cl] ∧ Ext wr wx)
        case first =>
          have x0 := XW.cell _ _ _ hba.lt i0
          have x1 := XW.cell _ _ _ hba.lt i1
          have x2 := XW.cell _ _ _ hba.lt i2
          have y0 := XW.cell _ _ _ hb c0
          have y1 := XW.cell _ _ _ hb c1
          cases q1 : l.a == l.b
          · cases q2 : ndB t.nodes l.a
            · refine wp_region_ext (by kernel_rfl) (by kernel_rfl) ?_
              repeat (go_big_quiet_step ((go_at_call 23; exact Calls.ext_of (gNode_b t AO co (some ⟨b, o, none⟩) cl _ _))))
              refine wpQuiet_nil ?_
              rintro _ ⟨x, rfl⟩
              go_wp2
              go_meet
              exact ⟨by first | (rw [q1, q2, q3]; rfl) | (rw [q1, q2]; rfl) | (rw [q1]; rfl), hba.keep x.ext, x.ext⟩
            · cases q3 : ndB t.nodes l.b
              all_goals
                refine wp_region_ext (by kernel_rfl) (by kernel_rfl) ?_
                repeat (go_big_quiet_step ((go_at_call 23; exact Calls.ext_of (gNode_b t AO co (some ⟨b, o, none⟩) cl _ _))))
                refine wpQuiet_nil ?_
                rintro _ ⟨x, rfl⟩
                go_wp2
                go_meet
                exact ⟨by first | (rw [q1, q2, q3]; rfl) | (rw [q1, q2]; rfl) | (rw [q1]; rfl), hba.keep x.ext, x.ext⟩
          · refine wp_region_ext (by kernel_rfl) (by kernel_rfl) ?_
            repeat (go_big_quiet_step ((go_at_call 23; exact Calls.ext_of (gNode_b t AO co (some ⟨b, o, none⟩) cl _ _))))
            refine wpQuiet_nil ?_
            rintro _ ⟨x, rfl⟩
            go_wp2
            go_meet
            exact ⟨by first | (rw [q1, q2, q3]; rfl) | (rw [q1, q2]; rfl) | (rw [q1]; rfl), hba.keep x.ext, x.ext⟩
        case rest =>
          obtain ⟨rfl, hba2, hx2⟩ := hcut
          have HX2 := Lib.hid (HX.out.tr hx2)
          have c2 := (hx2.cell (p := ⟨b, o + k * 7 + 2, none⟩) hb).trans c2
          have c3 := (hx2.cell (p := ⟨b, o + k * 7 + 3, none⟩) hb).trans c3
          have c4 := (hx2.cell (p := ⟨b, o + k * 7 + 4, none⟩) hb).trans c4
          have c5 := (hx2.cell (p := ⟨b, o + k * 7 + 5, none⟩) hb).trans c5
          have c6 := (hx2.cell (p := ⟨b, o + k * 7 + 6, none⟩) hb).trans c6
          have hbad : ((l.a == l.b || !ndB t.nodes l.a || !ndB t.nodes l.b) = true ∧ l.ok t.nodes = false) ∨ ((l.a == l.b || !ndB t.nodes l.a || !ndB t.nodes l.b) = false ∧ ((inB l.c0 1 65535 = false ∧ l.ok t.nodes = false) ∨ (inB l.c0 1 65535 = true ∧ inB l.c1 1 65535 = false ∧ l.ok t.nodes = false) ∨
              (inB l.c0 1 65535 = true ∧ inB l.c1 1 65535 = true ∧ inB l.cap 0 1048576 = false ∧ l.ok t.nodes = false) ∨ (inB l.c0 1 65535 = true ∧ inB l.c1 1 65535 = true ∧ inB l.cap 0 1048576 = true ∧ inB l.delay 1 65536 = false ∧ l.ok t.nodes = false) ∨
              (inB l.c0 1 65535 = true ∧ inB l.c1 1 65535 = true ∧ inB l.cap 0 1048576 = true ∧ inB l.delay 1 65536 = true ∧ inB l.group 0 64 = l.ok t.nodes))) := by
            unfold Lk.ok
            cases l.a == l.b <;> cases ndB t.nodes l.a <;> cases ndB t.nodes l.b <;> cases inB l.c0 1 65535 <;> cases inB l.c1 1 65535 <;> cases inB l.cap 0 1048576 <;> cases inB l.delay 1 65536 <;> simp
          clear hba hx2 i0 i1 i2 c0 c1
          obtain ⟨⟨i0, i1, i2⟩, _⟩ := hba2.three
          generalize hB : (l.a == l.b || !ndB t.nodes l.a || !ndB t.nodes l.b) = bad at *
          clear hB
          rcases hbad with ⟨rfl, hf⟩ | ⟨rfl, ⟨d1, hf⟩ | ⟨d1, d2, hf⟩ | ⟨d1, d2, d3, hf⟩ | ⟨d1, d2, d3, d4, hf⟩ | ⟨d1, d2, d3, d4, d5⟩⟩
          case inr.inr.inr.inr.inr =>
            cases hg : inB l.group 0 64
            · have hf := all_false HL.out (d5.symm.trans hg)
              have HF := Lib.hid hf
              clear hf d5
              go_wp2_with (go_at_call 46; refine (tWithin_b _ _ _ _).mono ?_; rintro e w' ⟨rfl, rfl⟩)
              go_ret
              rw [HF.out]
              exact ⟨rfl, HX2.out⟩
            · have OK := Lib.hid (d5.symm.trans hg)
              clear d5
              go_wp2_with (go_at_call 46; refine (tWithin_b _ _ _ _).mono ?_; rintro e w' ⟨rfl, rfl⟩)
              go_roundw
              case rel => exact ⟨k + 1, by omega, by go_num, hba2, fun j l' hj hl' => by
                by_cases e : j = k
                · subst e; have := HL.out; rw [this] at hl'; injection hl' with hl'; subst hl'; exact OK.out
                · exact ALL.out j l' (by omega) hl', HX2.out⟩
              case measure => simp [intOf]; omega
          all_goals
            have hf := all_false HL.out hf
            have HF := Lib.hid hf
            clear hf
            go_wp2_with (go_at_call 46; refine (tWithin_b _ _ _ _).mono ?_; rintro e w' ⟨rfl, rfl⟩)
            go_ret
            rw [HF.out]
            exact ⟨rfl, HX2.out⟩
      · have hke : k = t.links.length := by omega
        subst hke
        have HF := Lib.hid (all_true (ls := t.links) (N := t.nodes) (fun j l hj => ALL.out j l (List.getElem?_eq_some_iff.1 hj).1 hj))
        go_wp2
        go_ret
        rw [HF.out]
        exact ⟨rfl, hx⟩

theorem tValid_any (t : Tp) (AO : Option Addr) (co : Nat) (AL : Option Addr) (cl : Nat) (w : World) (ht : TopR w t AO co AL cl) :
    Calls Tryz.prog 20 #[.agg #[.int .i64 t.nodes, .slice AO t.over.length co, .slice AL t.links.length cl]] w fun e w' => e = .returned (.bool (validP t)) ∧ Ext w w' := by
  unfold validP
  cases hh : headOk t
  · exact tValid_head t AO co AL cl w ht hh
  · rw [Bool.true_and]; exact tValid_loop t AO co AL cl w ht hh

end Go.Proofs.YtjmkcckbbgpkeaaGreatDoor


namespace Go.Proofs.YtjmkcckbbgpkeaaGreatDoor
open Go.RowKit
theorem rWithin_b (n lo hi : Int) (w : World) : Calls Tryz.prog 17 #[.int .i64 n, .int .i64 lo, .int .i64 hi] w fun e w' => e = .returned (.bool (inB n lo hi)) ∧ w = w' := rWithin_any n lo hi w
theorem inB_nd (N n : Int) : inB n 0 (N - 1) = ndB N n := by unfold inB ndB; rw [decide_eq_decide]; omega

set_option maxRecDepth 100000 in
set_option maxHeartbeats 8000000 in
theorem rValid_any (t : Tp) (AO : Option Addr) (co : Nat) (AL : Option Addr) (cl : Nat) (w : World) (ht : TopR w t AO co AL cl) :
    Calls Tryz.prog 6 #[.agg #[.int .i64 t.nodes, .slice AO t.over.length co, .slice AL t.links.length cl]] w fun e w' => e = .returned (.bool (validP t)) ∧ Ext w w' := by
  have HT := Lib.hid (ht)
  have h1 := ht.lo
  have h2 := ht.co
  have h3 := ht.ll
  have h4 := ht.cl
  have hnd := ht.nodes
  clear ht
  obtain ⟨hba0, e0⟩ := boxes1 w #[.int .i64 t.nodes, .slice AO t.over.length co, .slice AL t.links.length cl] 25
  have BA := Lib.hid (hba0)
  have hcase : (inB t.nodes 1 64 = false ∧ validP t = false) ∨ (inB t.nodes 1 64 = true ∧ ((((t.over.length : Int) != 0) = true ∧ ((t.over.length : Int) != t.nodes) = true ∧ validP t = false) ∨
      (((((t.over.length : Int) != 0) = true ∧ ((t.over.length : Int) != t.nodes) = false) ∨ ((t.over.length : Int) != 0) = false) ∧ ((decide (256 < t.links.length) = true ∧ validP t = false) ∨ (t.links.length ≤ 256 ∧ validP t = t.links.all (Lk.ok t.nodes)))))) := by
    unfold validP headOk
    cases inB t.nodes 1 64
    · exact .inl ⟨rfl, rfl⟩
    · refine .inr ⟨rfl, ?_⟩
      by_cases k1 : t.over.length = 0
      · have e1 : ((t.over.length : Int) != 0) = false := by rw [k1]; rfl
        refine .inr ⟨.inr e1, ?_⟩
        by_cases k2 : t.links.length ≤ 256
        · exact .inr ⟨k2, by rw [decide_eq_true k2, decide_eq_true k1]; rfl⟩
        · exact .inl ⟨by simp; omega, by rw [decide_eq_false k2]; rfl⟩
      · have e1 : ((t.over.length : Int) != 0) = true := bne_iff_ne.2 (by omega)
        by_cases k3 : (t.over.length : Int) = t.nodes
        · have e2 : ((t.over.length : Int) != t.nodes) = false := by rw [k3]; simp
          refine .inr ⟨.inl ⟨e1, e2⟩, ?_⟩
          by_cases k2 : t.links.length ≤ 256
          · exact .inr ⟨k2, by rw [decide_eq_true k2, decide_eq_false k1, decide_eq_true k3]; rfl⟩
          · exact .inl ⟨by simp; omega, by rw [decide_eq_false k2]; rfl⟩
        · exact .inl ⟨e1, bne_iff_ne.2 k3, by rw [decide_eq_false k1, decide_eq_false k3]; simp⟩
  generalize hV : validP t = V at *
  have HV := Lib.hid hV
  clear hba0 hV
  rcases hcase with ⟨k1, rfl⟩ | ⟨k1, ⟨k2, k3, rfl⟩ | ⟨hh, ⟨k4, rfl⟩ | ⟨k4, k5⟩⟩⟩
  · skip
    go_enter Tryz.func6, Tryz.ntmps6
    go_wp2_with (go_at_call 17; refine (rWithin_b _ _ _ _).mono ?_; rintro e w' ⟨rfl, rfl⟩)
    go_ret
    exact ⟨rfl, e0⟩
  · skip
    go_enter Tryz.func6, Tryz.ntmps6
    go_wp2_with (go_at_call 17; refine (rWithin_b _ _ _ _).mono ?_; rintro e w' ⟨rfl, rfl⟩)
    go_ret
    exact ⟨rfl, e0⟩
  · have k4' : 256 < t.links.length := by simpa using k4
    clear k4
    rcases hh with ⟨k2, k3⟩ | k2
    all_goals
      go_enter Tryz.func6, Tryz.ntmps6
      go_wp2_with (go_at_call 17; refine (rWithin_b _ _ _ _).mono ?_; rintro e w' ⟨rfl, rfl⟩)
      go_ret
      exact ⟨rfl, e0⟩
  · have K5 := Lib.hid k5
    clear k5 HV
    have hN : 1 ≤ t.nodes ∧ t.nodes ≤ 64 := of_decide_eq_true k1
    have hN1 := hN.1
    have hN2 := hN.2
    clear hN
    rcases hh with ⟨k2, k3⟩ | k2
    all_goals
      go_enter Tryz.func6, Tryz.ntmps6
      go_wp2_with (go_at_call 17; refine (rWithin_b _ _ _ _).mono ?_; rintro e w' ⟨rfl, rfl⟩)
      go_loopw [3] (fun i wr => ∃ k : Nat, k ≤ t.links.length ∧ i = .int .i64 k ∧ Blk wr w.heap.size 25 #[.int .i64 t.nodes, .slice AO t.over.length co, .slice AL t.links.length cl] ∧ (∀ j l, j < k → t.links[j]? = some l → l.ok t.nodes = true) ∧ Ext w wr) (fun i _ => t.links.length - (intOf i).toNat)
      case atStart => exact ⟨0, Nat.zero_le _, rfl, BA.out, fun j l h => by omega, e0⟩
      case round =>
        obtain ⟨k, hk, rfl, hba, hall, hx⟩ := hrel
        have ALL := Lib.hid hall
        clear hall e0 BA
        obtain ⟨⟨i0, i1, i2⟩, _⟩ := hba.three
        have hlt := hba.lt
        by_cases hkl : k < t.links.length
        · obtain ⟨l, hl⟩ : ∃ l, t.links[k]? = some l := ⟨_, List.getElem?_eq_getElem hkl⟩
          have HL := Lib.hid hl
          have htr := HT.out.keep hx
          obtain ⟨b, o, rfl, hb, c0, c1, c2, c3, c4, c5, c6⟩ := htr.link hl
          have HX := Lib.hid hx
          have hbad : (inB l.a 0 (t.nodes - 1) = false ∧ l.ok t.nodes = false) ∨ (inB l.a 0 (t.nodes - 1) = true ∧ inB l.b 0 (t.nodes - 1) = false ∧ l.ok t.nodes = false) ∨ (inB l.a 0 (t.nodes - 1) = true ∧ inB l.b 0 (t.nodes - 1) = true ∧ (l.a == l.b) = true ∧ l.ok t.nodes = false) ∨
              (inB l.a 0 (t.nodes - 1) = true ∧ inB l.b 0 (t.nodes - 1) = true ∧ (l.a == l.b) = false ∧ ((inB l.c0 1 65535 = false ∧ l.ok t.nodes = false) ∨ (inB l.c0 1 65535 = true ∧ inB l.c1 1 65535 = false ∧ l.ok t.nodes = false) ∨
              (inB l.c0 1 65535 = true ∧ inB l.c1 1 65535 = true ∧ inB l.cap 0 1048576 = false ∧ l.ok t.nodes = false) ∨ (inB l.c0 1 65535 = true ∧ inB l.c1 1 65535 = true ∧ inB l.cap 0 1048576 = true ∧ inB l.delay 1 65536 = false ∧ l.ok t.nodes = false) ∨
              (inB l.c0 1 65535 = true ∧ inB l.c1 1 65535 = true ∧ inB l.cap 0 1048576 = true ∧ inB l.delay 1 65536 = true ∧ inB l.group 0 64 = false ∧ l.ok t.nodes = false) ∨
              (inB l.c0 1 65535 = true ∧ inB l.c1 1 65535 = true ∧ inB l.cap 0 1048576 = true ∧ inB l.delay 1 65536 = true ∧ inB l.group 0 64 = true ∧ l.ok t.nodes = true))) := by
            rw [inB_nd, inB_nd]
            unfold Lk.ok
            cases l.a == l.b <;> cases ndB t.nodes l.a <;> cases ndB t.nodes l.b <;> cases inB l.c0 1 65535 <;> cases inB l.c1 1 65535 <;> cases inB l.cap 0 1048576 <;> cases inB l.delay 1 65536 <;> cases inB l.group 0 64 <;> simp
          clear hl htr hx
          rcases hbad with ⟨d1, hf⟩ | ⟨d1, d2, hf⟩ | ⟨d1, d2, d3, hf⟩ | ⟨d1, d2, d3, ⟨d4, hf⟩ | ⟨d4, d5, hf⟩ | ⟨d4, d5, d6, hf⟩ | ⟨d4, d5, d6, d7, hf⟩ | ⟨d4, d5, d6, d7, d8, hf⟩ | ⟨d4, d5, d6, d7, d8, hf⟩⟩
          case inr.inr.inr.inr.inr.inr.inr.inr =>
            have OK := Lib.hid hf
            clear hf
            go_wp2_with (go_at_call 17; refine (rWithin_b _ _ _ _).mono ?_; rintro e w' ⟨rfl, rfl⟩)
            go_roundw
            case rel => exact ⟨k + 1, by omega, by go_num, hba.alloc _, fun j l' hj hl' => by
              by_cases e : j = k
              · subst e; have := HL.out; rw [this] at hl'; injection hl' with hl'; subst hl'; exact OK.out
              · exact ALL.out j l' (by omega) hl', HX.out.alloc _⟩
            case measure => simp [intOf]; omega
          all_goals
            have hf := all_false HL.out hf
            have HF := Lib.hid hf
            clear hf
            go_wp2_with (go_at_call 17; refine (rWithin_b _ _ _ _).mono ?_; rintro e w' ⟨rfl, rfl⟩)
            go_ret
            rw [K5.out, HF.out]
            exact ⟨rfl, HX.out.alloc _⟩
        · have hke : k = t.links.length := by omega
          subst hke
          have HF := Lib.hid (all_true (ls := t.links) (N := t.nodes) (fun j l hj => ALL.out j l (List.getElem?_eq_some_iff.1 hj).1 hj))
          go_wp2
          go_ret
          rw [K5.out, HF.out]
          exact ⟨rfl, hx⟩

end Go.Proofs.YtjmkcckbbgpkeaaGreatDoor


namespace Go.Proofs.YtjmkcckbbgpkeaaGreatDoor
open Go.RowKit
theorem Tryz.info39 : (Tryz.prog.info? 41).map (fun i => (i.zero, i.size, i.bytes)) = some (some (.slice none 0 0), 1, 24) := by kernel_rfl
theorem Tryz.info3 : (Tryz.prog.info? 3).map (fun i => (i.zero, i.size, i.bytes)) = some (some (.int .i64 0), 1, 8) := by kernel_rfl
/-- Natural numbers as cells. -/
def ints (l : List Nat) : List Value := l.map fun a : Nat => Value.int .i64 (a : Int)
theorem ints_length (l : List Nat) : (ints l).length = l.length := by simp [ints]
theorem ints_snoc (l : List Nat) (a : Nat) : ints (l ++ [a]) = ints l ++ [.int .i64 (a : Int)] := by simp [ints]
theorem ints_get (l : List Nat) (i : Nat) (h : i < l.length) : (ints l)[i]? = some (.int .i64 ((l[i]?.getD 0 : Nat) : Int)) := by simp [ints, h]
/-- N slices of numbers, which the call has made; no two share a block. -/
structure Fam (w : World) (g B N : Nat) (V : Nat → Value) (X : Nat → List Nat) : Prop where
  row : Blk w g 41 ((List.range N).map V).toArray
  own : ∀ i, i < N → w.ownsRow B 3 1 (V i) (X i).length (ints (X i))
  sep : ∀ i j, i < N → j < N → i ≠ j → (V i).ownBlock = none ∨ (V i).ownBlock ≠ (V j).ownBlock
theorem range_map_set (N : Nat) (V : Nat → Value) (n : Nat) (v : Value) (hn : n < N) : ((List.range N).map V).toArray.setIfInBounds n v = ((List.range N).map fun i => if i = n then v else V i).toArray := by
  apply Array.ext'
  simp only [List.setIfInBounds_toArray]
  apply List.ext_getElem?
  intro i
  by_cases h : i < N
  · by_cases e : i = n
    · subst e; simp [h]
    · rw [List.getElem?_set_ne (by omega)]; simp [h, e]
  · rw [List.getElem?_eq_none (by simp; omega), List.getElem?_eq_none (by simp; omega)]
theorem range_map_get (N : Nat) (V : Nat → Value) (n : Nat) (hn : n < N) : ((List.range N).map V).toArray[n]? = some (V n) := by simp [hn]
theorem Fam.far {w : World} {g B N : Nat} {V : Nat → Value} {X : Nat → List Nat} (h : Fam w g B N V X) : ∀ i, i < N → (V i).ownBlock ≠ some g := fun i hi => by
  have ho := h.own i hi
  intro e
  obtain ⟨_, h2⟩ := ho
  rcases h2 with ⟨h3, _⟩ | ⟨g', cap, cur, h3, _, h5, _⟩
  · rw [h3] at e; cases e
  · rw [h3] at e
    have : g' = g := by simpa [Value.ownBlock] using e
    subst this
    have hr := h.row
    unfold Blk at hr
    rw [h5] at hr
    injection hr with hr
    injection hr with _ ht
    revert ht; decide
theorem Fam.rowG {w w1 : World} {g B N n : Nat} {V : Nat → Value} {X : Nat → List Nat} (h : Fam w g B N V X) (hn : n < N) (hg : w.grownBy w1 (V n).ownBlock) : Blk w1 g 41 ((List.range N).map V).toArray :=
  (hg.block g h.row.lt (fun e => h.far n hn e.symm)).trans h.row
/-- One slice of the family is appended to. -/
theorem Fam.app {w w1 : World} {g B N n a : Nat} {V : Nat → Value} {X : Nat → List Nat} {v' : Value} (h : Fam w g B N V X) (hn : n < N)
    (hown : w1.ownsRow B 3 1 v' ((X n).length + 1) (ints (X n) ++ [.int .i64 (a : Int)])) (hg : w.grownBy w1 (V n).ownBlock) (hb : v'.ownBlock = (V n).ownBlock ∨ v'.ownBlock = some w.heap.size) :
    Fam (w1.setCell ⟨g, n, none⟩ v') g B N (fun i => if i = n then v' else V i) (fun i => if i = n then X n ++ [a] else X i) := by
  have hgn : ∀ i, i < N → (V i).ownBlock ≠ some g := fun i hi => by
    have ho := h.own i hi
    intro e
    obtain ⟨_, h2⟩ := ho
    rcases h2 with ⟨h3, _⟩ | ⟨g', cap, cur, h3, _, h5, _⟩
    · rw [h3] at e; cases e
    · rw [h3] at e
      have : g' = g := by simpa [Value.ownBlock] using e
      subst this
      have hr := h.row
      unfold Blk at hr
      rw [h5] at hr
      injection hr with hr
      injection hr with _ ht
      revert ht; decide
  have hrow1 : Blk w1 g 41 ((List.range N).map V).toArray := (hg.block g h.row.lt (fun e => hgn n hn e.symm)).trans h.row
  have hv'g : v'.ownBlock ≠ some g := by
    rcases hb with e | e
    · rw [e]; exact hgn n hn
    · rw [e]; intro e'; have := h.row.lt; injection e' with e'; omega
  have setOwn : ∀ (u : Value) (m : Nat) (ys : List Value), w1.ownsRow B 3 1 u m ys → u.ownBlock ≠ some g → (w1.setCell ⟨g, n, none⟩ v').ownsRow B 3 1 u m ys := fun u m ys ho hu => by
    refine ⟨ho.1, ?_⟩
    rcases ho.2 with h3 | ⟨g', cap, cur, h3, h4, h5, h6⟩
    · exact .inl h3
    · refine .inr ⟨g', cap, cur, h3, h4, (Below.heap_setCell w1 ⟨g, n, none⟩ v' g' ?_).trans h5, h6⟩
      rintro rfl
      exact hu (by rw [h3]; simp [Value.ownBlock])
  refine ⟨?_, ?_, ?_⟩
  · rw [← range_map_set N V n v' hn]; exact hrow1.set_ n v'
  · intro i hi
    by_cases e : i = n
    · subst e
      simp only [if_true]
      rw [List.length_append, ints_snoc]
      exact setOwn _ _ _ hown hv'g
    · simp only [if_neg e]
      refine setOwn _ _ _ ((h.own i hi).kept hg ?_) (hgn i hi)
      rcases h.sep i n hi hn e with h1 | h1
      · exact .inl h1
      · exact .inr h1
  · intro i j hi hj hij
    have hlt : ∀ k, k < N → (V k).ownBlock ≠ some w.heap.size := fun k hk e => by
      have := (h.own k hk).lt _ e; omega
    by_cases ei : i = n
    · subst ei
      simp only [if_true, if_neg (fun e : j = i => hij e.symm)]
      rcases hb with e | e
      · rw [e]; exact h.sep i j hi hj hij
      · rw [e]; right; exact fun e' => hlt j hj e'.symm
    · simp only [if_neg ei]
      by_cases ej : j = n
      · subst ej
        simp only [if_true]
        rcases hb with e | e
        · rw [e]; exact h.sep i j hi hj hij
        · rw [e]; right; exact hlt i hi
      · simp only [if_neg ej]; exact h.sep i j hi hj hij
theorem Fam.alloc {w : World} {g B N : Nat} {V : Nat → Value} {X : Nat → List Nat} (h : Fam w g B N V X) (o : Obj) : Fam (w.alloc o) g B N V X :=
  ⟨h.row.alloc o, fun i hi => (h.own i hi).alloc o, h.sep⟩
theorem Fam.keep {w w' : World} {g B N : Nat} {V : Nat → Value} {X : Nat → List Nat} (h : Fam w g B N V X) (hx : Ext w w') : Fam w' g B N V X :=
  ⟨h.row.keep hx, fun i hi => (h.own i hi).kept (row := none) ⟨hx.os, hx.tape, hx.output, hx.size, fun k hk _ => hx.block k hk⟩ (by
    by_cases e : (V i).ownBlock = none
    · exact .inl e
    · exact .inr e), h.sep⟩
/-- The arcs that begin at a node, below m. -/
def leavTo (t : Tp) (m n : Nat) : List Nat := (List.range m).filter fun a => tailP t a == (n : Int)
def leavP (t : Tp) (n : Nat) : List Nat := leavTo t (2 * t.links.length) n
theorem leavTo_succ (t : Tp) (m n : Nat) : leavTo t (m + 1) n = if tailP t m == (n : Int) then leavTo t m n ++ [m] else leavTo t m n := by
  unfold leavTo
  rw [List.range_succ, List.filter_append]
  by_cases h : tailP t m == (n : Int) <;> simp [h]
theorem leavTo_len (t : Tp) (m n : Nat) : (leavTo t m n).length ≤ m := by
  unfold leavTo
  exact Nat.le_trans (List.length_filter_le _ _) (by simp)
/-- The lists, to be read. -/
def LL (w : World) (g N : Nat) (X : Nat → List Nat) : Prop :=
  ∃ V : Nat → Value, Blk w g 41 ((List.range N).map V).toArray ∧ ∀ i, i < N → ∃ (A : Option Addr) (c : Nat), V i = .slice A (X i).length c ∧ (X i).length ≤ c ∧ RdT w 3 A (ints (X i))
theorem LL.keep {w w' : World} {g N : Nat} {X : Nat → List Nat} (h : LL w g N X) (hx : Ext w w') : LL w' g N X := by
  obtain ⟨V, h1, h2⟩ := h
  refine ⟨V, h1.keep hx, fun i hi => ?_⟩
  obtain ⟨A, c, h3, h4, h5⟩ := h2 i hi
  exact ⟨A, c, h3, h4, h5.keep hx⟩
theorem ownsRow_rdT {w : World} {B n : Nat} {v : Value} {l : List Nat} (h : w.ownsRow B 3 1 v n (ints l)) (hn : n = l.length) : ∃ (A : Option Addr) (c : Nat), v = .slice A l.length c ∧ l.length ≤ c ∧ RdT w 3 A (ints l) := by
  subst hn
  obtain ⟨h1, h2⟩ := h
  rcases h2 with ⟨h3, h4⟩ | ⟨g', cap, cur, h3, h4, h5, h6, h7, h8, h9⟩
  · have : l = [] := by simpa [ints] using h4
    subst this
    exact ⟨none, 0, h3, Nat.le_refl _, RdT.nil _ _ _⟩
  · refine ⟨some ⟨g', 0, none⟩, cap, h3, h6, fun _ => ⟨g', 0, cur, (0, 0), rfl, h5, fun i hi => ?_⟩⟩
    rw [← h9, List.getElem?_take, if_pos (by rw [ints_length] at hi; omega), Nat.zero_add]; simp
theorem Fam.ll {w : World} {g B N : Nat} {V : Nat → Value} {X : Nat → List Nat} (h : Fam w g B N V X) : LL w g N X :=
  ⟨V, h.row, fun i hi => ownsRow_rdT (h.own i hi) rfl⟩

set_option maxRecDepth 100000 in
set_option maxHeartbeats 4000000 in
theorem leaving_any (t : Tp) (AO : Option Addr) (co : Nat) (AL : Option Addr) (cl : Nat) (w : World) (ht : TopR w t AO co AL cl) (hv : validP t = true) :
    Calls Tryz.prog 24 #[.agg #[.int .i64 t.nodes, .slice AO t.over.length co, .slice AL t.links.length cl]] w fun e w' => ∃ g N : Nat, t.nodes = (N : Int) ∧ e = .returned (.slice (some ⟨g, 0, none⟩) N N) ∧ LL w' g N (leavP t) ∧ Ext w w' := by
  have hN : ∃ N : Nat, t.nodes = (N : Int) ∧ 1 ≤ N ∧ N ≤ 64 ∧ t.links.length ≤ 256 := by
    unfold validP headOk inB at hv
    simp at hv
    exact ⟨t.nodes.toNat, by omega, by omega, by omega, by omega⟩
  have htl : ∀ a, a < 2 * t.links.length → ∃ n : Nat, tailP t a = (n : Int) ∧ (n : Int) < t.nodes := fun a ha => by
    unfold validP at hv
    rw [Bool.and_eq_true] at hv
    obtain ⟨l, hl⟩ : ∃ l, t.links[a / 2]? = some l := ⟨_, List.getElem?_eq_getElem (by omega)⟩
    have hlk := List.all_eq_true.1 hv.2 l (List.mem_of_getElem? hl)
    unfold Lk.ok ndB at hlk
    simp at hlk
    unfold tailP
    rw [hl]
    simp only []
    split
    · exact ⟨l.a.toNat, by omega, by omega⟩
    · exact ⟨l.b.toNat, by omega, by omega⟩
  obtain ⟨N, hN1, hN2, hN3, hN4⟩ := hN
  have HN := Lib.hid (hN1)
  have HT := Lib.hid (ht)
  have TL := Lib.hid (htl)
  have h3 := ht.ll
  have h4 := ht.cl
  clear ht hv htl
  obtain ⟨ti, hi, hz0, hz1, hz2⟩ := info_parts Tryz.info3
  obtain ⟨hba, e0⟩ := boxes1 w #[.int .i64 (N : Int), .slice AO t.over.length co, .slice AL t.links.length cl] 25
  have hmk := run_make_row' (P := Tryz.prog) 45 41 (.slice none 0 0) 24 Tryz.underlying45 Tryz.info39 rfl .i64 .i64 N (by omega) (by omega)
  have hargs : (Value.agg #[.int .i64 t.nodes, .slice AO t.over.length co, .slice AL t.links.length cl]) = .agg #[.int .i64 (N : Int), .slice AO t.over.length co, .slice AL t.links.length cl] := by rw [hN1]
  rw [hargs]
  clear hargs
  have hcall : ∀ (W : World), Ext w W → Calls Tryz.prog 47 #[.agg #[.int .i64 (N : Int), .slice AO t.over.length co, .slice AL t.links.length cl]] W fun e w' => e = .returned (.int .i64 (2 * (t.links.length : Int))) ∧ Ext W w' := fun W hW => by
    have := gArcs_any t AO co AL cl W (HT.out.keep hW); rw [hN1] at this; exact this
  have htail : ∀ (W : World) (a : Nat), Ext w W → a / 2 < t.links.length → Calls Tryz.prog 50 #[.agg #[.int .i64 (N : Int), .slice AO t.over.length co, .slice AL t.links.length cl], .int .i64 a] W fun e w' => e = .returned (.int .i64 (tailP t a)) ∧ Ext W w' := fun W a hW ha => by
    have := gTail_any t AO co AL cl a W (HT.out.keep hW) ha; rw [hN1] at this; exact this
  have CALL := Lib.hid (hcall)
  have TAIL := Lib.hid (htail)
  clear hcall htail hN1
  go_enter Tryz.func24, Tryz.ntmps24
  go_wp2_with fail
  refine (CALL.out _ (e0.alloc _)).mono ?_
  rintro e w1 ⟨rfl, hx1⟩
  have E1 := Lib.hid ((e0.alloc _).tr hx1)
  have hfam : Fam ((w.alloc (.cells #[.int .i64 (N : Int), .slice AO t.over.length co, .slice AL t.links.length cl] 25)).alloc (.cells (madeCells #[.slice none 0 0] N) 41)) (w.heap.size + 1) (w.heap.size + 2) N (fun _ => .slice none 0 0) (fun _ => []) := by
    refine ⟨?_, fun i hi => World.ownsRow_nil _ _ _ _, fun i j _ _ _ => .inl rfl⟩
    have e : ((List.range N).map fun _ => Value.slice none 0 0).toArray = madeCells #[.slice none 0 0] N := by
      apply Array.toList_inj.1
      rw [toList_madeCells_one]
      simp only [List.map_const', List.length_range]
    rw [e]
    exact Blk.new' _ _ _ (by simp)
  have hfam := hfam.keep hx1
  have hba := (hba.alloc (.cells (madeCells #[.slice none 0 0] N) 41)).keep hx1
  have z1 : w.heap.size + 2 ≤ w1.heap.size := by have := hx1.size; simp at this; omega
  clear hx1 e0 hmk CALL
  go_wp2
  go_loopw [11] (fun it wr => ∃ (m : Nat) (V : Nat → Value), m ≤ 2 * t.links.length ∧ it = .int .i64 m ∧ Fam wr (w.heap.size + 1) (w.heap.size + 2) N V (leavTo t m) ∧ Blk wr w.heap.size 25 #[.int .i64 (N : Int), .slice AO t.over.length co, .slice AL t.links.length cl] ∧ Ext w wr) (fun i _ => 2 * t.links.length - (intOf i).toNat)
  case atStart => exact ⟨0, _, Nat.zero_le _, rfl, hfam, hba, E1.out⟩
  case round =>
    clear hfam hba E1
    obtain ⟨m, V, hm, rfl, hfam, hba, hx⟩ := hrel
    obtain ⟨⟨i0, i1, i2⟩, g0, g1, g2⟩ := hba.three
    by_cases hml : m < 2 * t.links.length
    · obtain ⟨n, hn1, hn2⟩ := TL.out m hml
      rw [HN.out] at hn2
      have hn : n < N := by omega
      have TN := Lib.hid hn1
      have FAM := Lib.hid hfam
      have E := Lib.hid hx
      clear hn1 hn2 hfam hx
      go_wp2_with fail
      refine (TAIL.out _ m E.out (by omega)).mono ?_
      rintro e w2 ⟨rfl, hx2⟩
      rw [TN.out]
      have FAM2 := Lib.hid (FAM.out.keep hx2)
      have hba := hba.keep hx2
      have E2 := Lib.hid (E.out.tr hx2)
      have hsz : w.heap.size + 2 ≤ w2.heap.size := by have := FAM2.out.row.lt; omega
      have hcn : w2.cell? ⟨w.heap.size + 1, n, none⟩ = some (V n) := (FAM2.out.row.cell n).trans (range_map_get N V n hn)
      have hown := FAM2.out.own n hn
      have hlen := leavTo_len t m n
      have j1 : (n : Int) < (N : Int) := by omega
      obtain ⟨A, c, hV, _, _⟩ := ownsRow_rdT hown rfl
      rw [hV] at hcn hown
      have HV := Lib.hid hV
      have OWN := Lib.hid hown
      clear hV hown hx2
      generalize hL : (leavTo t m n).length = L at *
      have HL := Lib.hid hL
      clear hL
      go_wp2_with (at_builtin; go_must (refine wpList_append_own_at _ rfl (.tmp 22) (.tmp 24) 41 rfl (w.heap.size + 2) 3 ti (.int .i64 0) 1 8 Tryz.underlying41 hi hz0 hz1 hz2 rfl (by decide) (.slice A L c) L (ints (leavTo t m n)) rfl (OWN.out.alloc _) ⟨w2.heap.size, 0, none⟩ 1 1 [.int .i64 (m : Int)] rfl rfl ?c1 ?c2 ?c3 ?c4 ?c5 ?_))
      case c1 =>
        intro j u hj
        match j, hj with
        | 0, hj => simp at hj; subst hj; simp [Addr.add]
      case c2 => intro u hu; simp at hu; subst hu; rfl
      case c3 => unfold maxLen; omega
      case c4 => omega
      case c5 => simp; omega
      intro v' w3 hown' hgrow _ hat
      have FAM3 := Lib.hid (FAM2.out.alloc (.cells #[.int .i64 (m : Int)] 3))
      rw [← HV.out] at hgrow hat
      have hrow3 := FAM3.out.rowG hn hgrow
      have hc3 : w3.cell? ⟨w.heap.size + 1, n, none⟩ = some (V n) := (hrow3.cell n).trans (range_map_get N V n hn)
      have hf3 := hrow3.frozen n
      rw [HV.out] at hc3
      have hbel : Below w.heap.size w w3 := (E2.out.alloc (.cells #[.int .i64 (m : Int)] 3)).grown hgrow (by simp; omega) (fun k hk => by have := (FAM2.out.own n hn).lt k hk; omega)
      have hba3 : Blk w3 w.heap.size 25 #[.int .i64 (N : Int), .slice AO t.over.length co, .slice AL t.links.length cl] := (hgrow.block w.heap.size (by have := hba.lt; simp; omega) (fun e => by have := (FAM2.out.own n hn).lt _ e.symm; omega)).trans (hba.alloc _)
      have hsh : ∃ g' cap, v' = .slice (some ⟨g', 0, none⟩) (L + 1) cap := by
        rcases hown'.2 with ⟨_, h⟩ | ⟨g', cap, _, h, _⟩
        · omega
        · exact ⟨g', cap, h⟩
      obtain ⟨g', cap, hv'⟩ := hsh
      subst hv'
      have FAM4 := Lib.hid (FAM3.out.app (a := m) hn (by rw [HL.out]; exact hown') hgrow (by simpa using hat))
      have hX : (fun i => if i = n then leavTo t m n ++ [m] else leavTo t m i) = leavTo t (m + 1) := by
        funext i
        rw [leavTo_succ, TN.out]
        by_cases e : i = n
        · subst e; simp
        · rw [if_neg e, if_neg (by simp; omega)]
      rw [hX] at FAM4
      clear hX hgrow hat hown' hrow3 OWN FAM FAM2 FAM3 hba
      go_wp2
      go_roundw
      case rel => exact ⟨m + 1, _, by omega, by go_num, FAM4.out, hba3.far (by simp) _, Ext.set_ hbel (by simp) _⟩
      case measure => simp [intOf]; omega
    · have hme : m = 2 * t.links.length := by omega
      subst hme
      have LLf := Lib.hid hfam.ll
      have E := Lib.hid hx
      clear hfam hx
      go_wp2
      go_ret
      exact ⟨_, N, HN.out, rfl, LLf.out, E.out⟩

end Go.Proofs.YtjmkcckbbgpkeaaGreatDoor


namespace Go.Proofs.YtjmkcckbbgpkeaaGreatDoor
open Go.RowKit

set_option maxHeartbeats 2000000 in
theorem rArcs_ok (t : Tp) (AO : Option Addr) (co : Nat) (AL : Option Addr) (cl : Nat) (w : World) (ht : TopR w t AO co AL cl) (hv : validP t = true) :
    Calls Tryz.prog 7 #[.agg #[.int .i64 t.nodes, .slice AO t.over.length co, .slice AL t.links.length cl]] w fun e w' => e = .returned (.int .i64 (2 * (t.links.length : Int))) ∧ Ext w w' := by
  have HT := Lib.hid (ht)
  have HV := Lib.hid (hv)
  have h3 := ht.ll
  have h4 := ht.cl
  clear ht hv
  obtain ⟨hba, e0⟩ := boxes1 w #[.int .i64 t.nodes, .slice AO t.over.length co, .slice AL t.links.length cl] 25
  go_enter Tryz.func7, Tryz.ntmps7
  go_wp2_with fail
  refine (rValid_any t AO co AL cl _ (HT.out.keep e0)).mono ?_
  rintro e w1 ⟨rfl, hx1⟩
  rw [HV.out]
  have hba := hba.keep hx1
  obtain ⟨⟨i0, i1, i2⟩, g0, g1, g2⟩ := hba.three
  have HX := Lib.hid (e0.tr hx1)
  clear hx1 e0
  go_wp2
  go_ret
  exact ⟨rfl, HX.out⟩

set_option maxHeartbeats 2000000 in
theorem rTail_ok (t : Tp) (AO : Option Addr) (co : Nat) (AL : Option Addr) (cl : Nat) (a : Nat) (w : World) (ht : TopR w t AO co AL cl) (hv : validP t = true) (ha : a < 2 * t.links.length) :
    Calls Tryz.prog 36 #[.agg #[.int .i64 t.nodes, .slice AO t.over.length co, .slice AL t.links.length cl], .int .i64 a] w fun e w' => e = .returned (.int .i64 (tailP t a)) ∧ Ext w w' := by
  have HT := Lib.hid (ht)
  have HV := Lib.hid (hv)
  have h3 := ht.ll
  have h4 := ht.cl
  obtain ⟨l, hl⟩ : ∃ l, t.links[a / 2]? = some l := ⟨_, List.getElem?_eq_getElem (by omega)⟩
  have hval : tailP t a = if a % 2 = 0 then l.a else l.b := by unfold tailP; rw [hl]
  rw [hval]
  obtain ⟨b, o, rfl, hb, c0, c1, _⟩ := ht.link hl
  clear ht hv hval hl
  obtain ⟨hba, e0⟩ := boxes1 w #[.int .i64 t.nodes, .slice AO t.over.length co, .slice (some ⟨b, o, none⟩) t.links.length cl] 25
  by_cases h : a % 2 = 0
  · rw [if_pos h]
    have h' : (((a : Int) % 2) == 0) = true := by simp; omega
    clear h
    go_enter Tryz.func36, Tryz.ntmps36
    go_wp2_with fail
    refine (rArcs_ok t AO co (some ⟨b, o, none⟩) cl _ (HT.out.keep e0) HV.out).mono ?_
    rintro e w1 ⟨rfl, hx1⟩
    have hba := hba.keep hx1
    obtain ⟨⟨i0, i1, i2⟩, g0, g1, g2⟩ := hba.three
    have HX := Lib.hid (e0.tr hx1)
    have c0 := (HX.out.cell (p := ⟨b, o + a / 2 * 7, none⟩) hb).trans c0
    have c1 := (HX.out.cell (p := ⟨b, o + a / 2 * 7 + 1, none⟩) hb).trans c1
    clear hx1 e0
    go_wp2
    go_ret
    exact ⟨rfl, HX.out⟩
  · rw [if_neg h]
    have h' : (((a : Int) % 2) == 0) = false := beq_eq_false_iff_ne.2 (by omega)
    clear h
    go_enter Tryz.func36, Tryz.ntmps36
    go_wp2_with fail
    refine (rArcs_ok t AO co (some ⟨b, o, none⟩) cl _ (HT.out.keep e0) HV.out).mono ?_
    rintro e w1 ⟨rfl, hx1⟩
    have hba := hba.keep hx1
    obtain ⟨⟨i0, i1, i2⟩, g0, g1, g2⟩ := hba.three
    have HX := Lib.hid (e0.tr hx1)
    have c0 := (HX.out.cell (p := ⟨b, o + a / 2 * 7, none⟩) hb).trans c0
    have c1 := (HX.out.cell (p := ⟨b, o + a / 2 * 7 + 1, none⟩) hb).trans c1
    clear hx1 e0
    go_wp2
    go_ret
    exact ⟨rfl, HX.out⟩

theorem head_tail' (t : Tp) (a : Nat) : headP t a = tailP t (a / 2 * 2 + 1 - a % 2) := by
  rw [head_tail]
  congr 1
  rw [xor_one]
  split <;> omega
set_option maxHeartbeats 2000000 in
theorem rHead_ok (t : Tp) (AO : Option Addr) (co : Nat) (AL : Option Addr) (cl : Nat) (a : Nat) (w : World) (ht : TopR w t AO co AL cl) (hv : validP t = true) (ha : a < 2 * t.links.length) :
    Calls Tryz.prog 38 #[.agg #[.int .i64 t.nodes, .slice AO t.over.length co, .slice AL t.links.length cl], .int .i64 a] w fun e w' => e = .returned (.int .i64 (headP t a)) ∧ Ext w w' := by
  have HT := Lib.hid (ht)
  have HV := Lib.hid (hv)
  have h3 := ht.ll
  have h4 := ht.cl
  rw [head_tail']
  have ha' : a / 2 * 2 + 1 - a % 2 < 2 * t.links.length := by omega
  have e1 : (a : Int) / 2 * 2 + 1 - (a : Int) % 2 = ((a / 2 * 2 + 1 - a % 2 : Nat) : Int) := by omega
  have E1 := Lib.hid (e1)
  clear ht hv e1
  obtain ⟨hba, e0⟩ := boxes1 w #[.int .i64 t.nodes, .slice AO t.over.length co, .slice AL t.links.length cl] 25
  go_enter Tryz.func38, Tryz.ntmps38
  go_wp2_with fail
  refine (rArcs_ok t AO co AL cl _ (HT.out.keep e0) HV.out).mono ?_
  rintro e w1 ⟨rfl, hx1⟩
  have hba := hba.keep hx1
  obtain ⟨⟨i0, i1, i2⟩, g0, g1, g2⟩ := hba.three
  have HX := Lib.hid (e0.tr hx1)
  clear hx1 e0
  go_wp2_with fail
  rw [E1.out]
  refine (rTail_ok t AO co AL cl _ _ (HT.out.keep HX.out) HV.out ha').mono ?_
  rintro e w2 ⟨rfl, hx2⟩
  have HX2 := Lib.hid (HX.out.tr hx2)
  clear hx2
  go_wp2
  go_ret
  exact ⟨rfl, HX2.out⟩

set_option maxHeartbeats 2000000 in
theorem rOver_ok (t : Tp) (AO : Option Addr) (co : Nat) (AL : Option Addr) (cl : Nat) (n : Nat) (w : World) (ht : TopR w t AO co AL cl) (hv : validP t = true) :
    Calls Tryz.prog 37 #[.agg #[.int .i64 t.nodes, .slice AO t.over.length co, .slice AL t.links.length cl], .int .i64 n] w fun e w' => e = .returned (.bool (overP t n)) ∧ Ext w w' := by
  have HT := Lib.hid (ht)
  have HV := Lib.hid (hv)
  have h1 := ht.lo
  have h2 := ht.co
  obtain ⟨hba, e0⟩ := boxes1 w #[.int .i64 t.nodes, .slice AO t.over.length co, .slice AL t.links.length cl] 25
  by_cases hn : n < t.over.length
  · obtain ⟨b, o, rfl, hb, hc⟩ := ht.over.bool hn
    have hval : overP t n = t.over[n]?.getD false := rfl
    rw [hval]
    generalize t.over[n]?.getD false = x at *
    clear ht hv hval
    go_enter Tryz.func37, Tryz.ntmps37
    go_wp2_with fail
    refine (rValid_any t (some ⟨b, o, none⟩) co AL cl _ (HT.out.keep e0)).mono ?_
    rintro e w1 ⟨rfl, hx1⟩
    rw [HV.out]
    have hba := hba.keep hx1
    obtain ⟨⟨i0, i1, i2⟩, g0, g1, g2⟩ := hba.three
    have HX := Lib.hid (e0.tr hx1)
    have hc := (HX.out.cell (p := ⟨b, o + n, none⟩) hb).trans hc
    clear hx1 e0
    go_wp2
    go_ret
    exact ⟨rfl, HX.out⟩
  · have hval : overP t n = false := by unfold overP; rw [Int.toNat_natCast, List.getElem?_eq_none (by omega)]; rfl
    rw [hval]
    clear ht hv hval
    go_enter Tryz.func37, Tryz.ntmps37
    go_wp2_with fail
    refine (rValid_any t AO co AL cl _ (HT.out.keep e0)).mono ?_
    rintro e w1 ⟨rfl, hx1⟩
    rw [HV.out]
    have hba := hba.keep hx1
    obtain ⟨⟨i0, i1, i2⟩, g0, g1, g2⟩ := hba.three
    have HX := Lib.hid (e0.tr hx1)
    clear hx1 e0
    go_wp2
    go_ret
    exact ⟨rfl, HX.out⟩

end Go.Proofs.YtjmkcckbbgpkeaaGreatDoor


namespace Go.Proofs.YtjmkcckbbgpkeaaGreatDoor
open Go.RowKit

end Go.Proofs.YtjmkcckbbgpkeaaGreatDoor


namespace Go.Proofs.YtjmkcckbbgpkeaaGreatDoor
open Go.RowKit
section
variable {P : Program} (w : World)
theorem addr_add (b o j : Nat) : (⟨b, o, none⟩ : Addr).add j = ⟨b, o + j, none⟩ := by unfold Addr.add; split <;> simp_all
theorem run_append_rd (base : Nat) (t ty e : TypeId) (i : TypeInfo) (z : Value) (bytes : Nat) (ht : P.underlying t = some (.slice e)) (hi : P.info? e = some i) (hz : i.zero = some z)
    (hsize : i.size = 1) (hby : i.bytes = bytes) (hzs : z.cells.size = 1)
    (v : Value) (n : Nat) (xs : List Value) (hown : w.ownsRow base e 1 v n xs)
    (A : Option Addr) (m c : Nat) (news : List Value) (hm : m = news.length) (hr : Rd w A news) (hA : A = none → m = 0 ∧ c = 0 ∨ m = 0) (h1 : ∀ u ∈ news, u.oneCell' = true)
    (h63 : n + m ≤ maxLen) (hbytes : (n + m) * bytes ≤ 140737488355328) (hbase : base ≤ w.heap.size) :
    ∃ v' w', (Builtin.append_ #[t, t] ty #[v, .slice A m c]).run P w = .ok v' w' ∧ w'.ownsRow base e 1 v' (n + m) (xs ++ news) ∧ w.grownBy w' v.ownBlock ∧
      (v'.ownBlock = v.ownBlock ∨ v'.ownBlock = some w.heap.size) := by
  rcases A with _ | ad
  · have hm0 : m = 0 := by rcases hA rfl with h | h <;> omega
    subst hm0
    have hn : news = [] := List.eq_nil_of_length_eq_zero hm.symm
    subst hn
    refine ⟨v, w, ?_, by simpa using hown, World.grownBy.refl w _, .inl rfl⟩
    rcases hown.2 with ⟨rfl, rfl⟩ | ⟨g, cap, cur, rfl, _, _, hnc, _⟩
    · simp [Builtin.append_, run_underlying ht, sizeOf, typeInfo, hi, Builtin.lenOf, Builtin.firstCells]
    · simp [Builtin.append_, run_underlying ht, sizeOf, typeInfo, hi, Builtin.lenOf, Builtin.firstCells, hnc, storeCells]
  · have hcells : ∀ j u, news[j]? = some u → w.cell? (ad.add j) = some u := by
      intro j u hu
      have hj : j < news.length := (List.getElem?_eq_some_iff.1 hu).1
      obtain ⟨b, o, he, _, hc⟩ := hr.at_ hj
      injection he with he
      subst he
      rw [addr_add, hc j hj, hu]
    obtain ⟨v', w', hrun, h2, h3, _, h5⟩ := run_append_own_at (P := P) w base t ty e i z 1 bytes ht hi hz hsize hby hzs (by omega) v n xs hown ad m c news (by rw [hm, Nat.mul_one]) hcells h1 h63 hbytes hbase
    exact ⟨v', w', hrun, h2, h3, h5⟩
theorem wp_append_rd {o : Oper} {a : Act} {K : Act → World → Prop} {Q : Exit → Act → World → Prop} (s x : Operand) (t : TypeId)
    (ho : o.op = .call { callee := .builtin .append, args := #[s, x], argTypes := #[t, t] })
    (base : Nat) (e : TypeId) (i : TypeInfo) (z : Value) (bytes : Nat) (ht : P.underlying t = some (.slice e)) (hi : P.info? e = some i) (hz : i.zero = some z)
    (hsize : i.size = 1) (hby : i.bytes = bytes) (hzs : z.cells.size = 1)
    (v : Value) (n : Nat) (xs : List Value) (hs : a.eval s = v) (hown : w.ownsRow base e 1 v n xs)
    (A : Option Addr) (m c : Nat) (news : List Value) (hx : a.eval x = .slice A m c) (hm : m = news.length) (hr : Rd w A news) (hA : A = none → m = 0 ∧ c = 0 ∨ m = 0) (h1 : ∀ u ∈ news, u.oneCell' = true)
    (h63 : n + m ≤ maxLen) (hbytes : (n + m) * bytes ≤ 140737488355328) (hbase : base ≤ w.heap.size)
    (h : ∀ v' w', w'.ownsRow base e 1 v' (n + m) (xs ++ news) → w.grownBy w' v.ownBlock → (v'.ownBlock = v.ownBlock ∨ v'.ownBlock = some w.heap.size) → K (a.put o.dst v') w') : o.wp P a w K Q := by
  obtain ⟨v', w', hrun, h2, h3, h4⟩ := run_append_rd (P := P) w base t o.type e i z bytes ht hi hz hsize hby hzs v n xs hown A m c news hm hr hA h1 h63 hbytes hbase
  unfold Oper.wp execOp
  simp only [ho, resolve, invoke, builtin, Sem.run_bind, Sem.run_pure, Result.andThen_ok, List.map_toArray, List.map_cons, List.map_nil, hs, hx, hrun]
  exact h v' w' h2 h3 h4
theorem wpList_append_rd {ops : Array Oper} {rest : List Oper} {o : Oper} {a : Act} {Q : Exit → Act → World → Prop} (hgd : o.guard = none) (s x : Operand) (t : TypeId)
    (ho : o.op = .call { callee := .builtin .append, args := #[s, x], argTypes := #[t, t] })
    (base : Nat) (e : TypeId) (i : TypeInfo) (z : Value) (bytes : Nat) (ht : P.underlying t = some (.slice e)) (hi : P.info? e = some i) (hz : i.zero = some z)
    (hsize : i.size = 1) (hby : i.bytes = bytes) (hzs : z.cells.size = 1)
    (v : Value) (n : Nat) (xs : List Value) (hs : a.eval s = v) (hown : w.ownsRow base e 1 v n xs)
    (A : Option Addr) (m c : Nat) (news : List Value) (hx : a.eval x = .slice A m c) (hm : m = news.length) (hr : Rd w A news) (hA : A = none → m = 0 ∧ c = 0 ∨ m = 0) (h1 : ∀ u ∈ news, u.oneCell' = true)
    (h63 : n + m ≤ maxLen) (hbytes : (n + m) * bytes ≤ 140737488355328) (hbase : base ≤ w.heap.size)
    (h : ∀ v' w', w'.ownsRow base e 1 v' (n + m) (xs ++ news) → w.grownBy w' v.ownBlock → (v'.ownBlock = v.ownBlock ∨ v'.ownBlock = some w.heap.size) → wpList P ops Q rest (a.put o.dst v') w') : wpList P ops Q (o :: rest) a w :=
  wpList_plain hgd fun _ hK => wp_append_rd w s x t ho base e i z bytes ht hi hz hsize hby hzs v n xs hs hown A m c news hx hm hr hA h1 h63 hbytes hbase fun v' w' h2 h3 h4 => hK _ _ (h v' w' h2 h3 h4)
theorem step_append_rd {ops : Array Oper} {o : Oper} {a : Act} {K : Act → World → Prop} {Q : Exit → Act → World → Prop} {E : Prop} (hgd : o.guard = none) (s x : Operand) (t : TypeId)
    (ho : o.op = .call { callee := .builtin .append, args := #[s, x], argTypes := #[t, t] })
    (base : Nat) (e : TypeId) (i : TypeInfo) (z : Value) (bytes : Nat) (ht : P.underlying t = some (.slice e)) (hi : P.info? e = some i) (hz : i.zero = some z)
    (hsize : i.size = 1) (hby : i.bytes = bytes) (hzs : z.cells.size = 1)
    (v : Value) (n : Nat) (xs : List Value) (hs : a.eval s = v) (hown : w.ownsRow base e 1 v n xs)
    (A : Option Addr) (m c : Nat) (news : List Value) (hx : a.eval x = .slice A m c) (hm : m = news.length) (hr : Rd w A news) (hA : A = none → m = 0 ∧ c = 0 ∨ m = 0) (h1 : ∀ u ∈ news, u.oneCell' = true)
    (h63 : n + m ≤ maxLen) (hbytes : (n + m) * bytes ≤ 140737488355328) (hbase : base ≤ w.heap.size)
    (h : ∀ v' w', w'.ownsRow base e 1 v' (n + m) (xs ++ news) → w.grownBy w' v.ownBlock → (v'.ownBlock = v.ownBlock ∨ v'.ownBlock = some w.heap.size) → K (a.put o.dst v') w') :
    if Region.wanted o (yielded ops a.tmps) = true then Oper.wp P o a w K Q else E := by
  have hw : Region.wanted o (yielded ops a.tmps) = true := by simp [Region.wanted, hgd]
  rw [if_pos hw]
  exact wp_append_rd w s x t ho base e i z bytes ht hi hz hsize hby hzs v n xs hs hown A m c news hx hm hr hA h1 h63 hbytes hbase h
end
theorem ints_one (l : List Nat) : ∀ u ∈ ints l, u.oneCell' = true := by
  intro u hu
  simp only [ints, List.mem_map] at hu
  obtain ⟨_, _, rfl⟩ := hu
  rfl
/-- A list of paths that the call has made. -/
structure Paths (w : World) (B : Nat) (v : Value) (ps : List (List Nat)) : Prop where
  ex : ∃ cells : List Value, cells.length = ps.length ∧ w.ownsRow B 41 1 v ps.length cells ∧
    ∀ (i : Nat) (p : List Nat), ps[i]? = some p → ∃ (A : Option Addr) (c : Nat), cells[i]? = some (.slice A p.length c) ∧ p.length ≤ c ∧ RdT w 3 A (ints p)
theorem Paths.nil (w : World) (B : Nat) : Paths w B (.slice none 0 0) [] := ⟨[], rfl, World.ownsRow_nil _ _ _ _, fun i p h => by simp at h⟩
end Go.Proofs.YtjmkcckbbgpkeaaGreatDoor
