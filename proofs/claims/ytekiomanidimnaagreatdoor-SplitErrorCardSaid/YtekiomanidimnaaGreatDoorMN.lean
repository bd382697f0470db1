/- waypointref01: numbers in groups of six decimal digits, in memory; without, Of, Uint64. -/
/- waypointref01: carried, times, Uint64, Cmp. -/
/- waypointref01: Cmp, Uint64, fits. -/
/- Own rows of integers by an index function; waypointref01: Add, Sub. -/
/- waypointref01.Sub, where the difference is at least 0. -/
/- waypointref01.DivMod, for a divisor that is not 0. -/
/- waypointref01: GCD, Text. -/
import Derived.Test.YtekiomanidimnaaGreatDoorMD
import Derived.Test.YtekiomanidimnaaGreatDoorMH
import Derived.Laws.IdiomStrings
set_option linter.unusedVariables false
set_option linter.unusedSimpArgs false

namespace Go.Proofs.YtekiomanidimnaaGreatDoor
open Go.RowKit
def G6 : Nat := 1000000
theorem G6_eq : G6 = 1000000 := rfl
theorem G6_pos : 0 < G6 := by decide
theorem G6_gt : 1 < G6 := by decide
/-- The slice (A, n, c) holds the groups of N. -/
def GrpR (w : World) (A : Option Addr) (n c N : Nat) : Prop :=
  ∃ ds : List Nat, ds.length = n ∧ n ≤ c ∧ Dig.Canon G6 ds ∧ Dig.val G6 ds = N ∧ RdT w 3 A (ints ds)
theorem GrpR.keep {w w' : World} {A : Option Addr} {n c N : Nat} (h : GrpR w A n c N) (hb : Ext w w') : GrpR w' A n c N := by
  obtain ⟨ds, h1, h2, h3, h4, h5⟩ := h
  exact ⟨ds, h1, h2, h3, h4, h5.keep hb⟩
theorem GrpR.zero (w : World) (A : Option Addr) (c : Nat) : GrpR w A 0 c 0 := ⟨[], rfl, Nat.zero_le _, Dig.Canon.nil _, rfl, RdT.nil _ _ _⟩
theorem GrpR.eq_zero {w : World} {A : Option Addr} {n c N : Nat} (h : GrpR w A n c N) : n = 0 ↔ N = 0 := by
  obtain ⟨ds, rfl, _, h3, rfl, _⟩ := h
  constructor
  · intro h; rw [List.length_eq_zero_iff.1 h]; rfl
  · intro h; rw [h3.val_zero G6_pos h]; rfl
theorem GrpR.lenOf {w : World} {A : Option Addr} {n c N k : Nat} (h : GrpR w A n c N) (hN : N < G6 ^ k) : n ≤ k := by
  obtain ⟨ds, rfl, _, hcan, rfl, _⟩ := h
  exact hcan.len_le G6_gt hN
def GrpPost (w : World) (N : Nat) (e : Ending) (w' : World) : Prop :=
  ∃ (A : Option Addr) (n c : Nat), e = .returned (.slice A n c) ∧ GrpR w' A n c N ∧ Ext w w' ∧ ∀ ad, A = some ad → w.heap.size ≤ ad.block
theorem append_types {P : Program} {w : World} {t t2 ty e e2 : TypeId} (ht : P.underlying t = some (.slice e)) (ht2 : P.underlying t2 = some (.slice e2)) {i : TypeInfo} (hi : P.info? e = some i) (v x : Value) : (Builtin.append_ #[t, t2] ty #[v, x]).run P w = (Builtin.append_ #[t, t] ty #[v, x]).run P w := by
  unfold Builtin.append_
  cases v <;> simp [run_underlying ht, run_underlying ht2, sizeOf, typeInfo, hi]
section
variable {P : Program} (w : World)
theorem wpList_append_rd2 {ops : Array Oper} {rest : List Oper} {o : Oper} {a : Act} {Q : Exit → Act → World → Prop} (hgd : o.guard = none) (s x : Operand) (t t2 : TypeId)
    (ho : o.op = .call { callee := .builtin .append, args := #[s, x], argTypes := #[t, t2] })
    (base : Nat) (e : TypeId) (i : TypeInfo) (z : Value) (bytes : Nat) (e2 : TypeId) (ht2 : P.underlying t2 = some (.slice e2)) (ht : P.underlying t = some (.slice e)) (hi : P.info? e = some i) (hz : i.zero = some z)
    (hsize : i.size = 1) (hby : i.bytes = bytes) (hzs : z.cells.size = 1)
    (v : Value) (n : Nat) (xs : List Value) (hs : a.eval s = v) (hown : w.ownsRow base e 1 v n xs)
    (A : Option Addr) (m c : Nat) (news : List Value) (hx : a.eval x = .slice A m c) (hm : m = news.length) (hr : Rd w A news) (hA : A = none → m = 0 ∧ c = 0 ∨ m = 0) (h1 : ∀ u ∈ news, u.oneCell' = true)
    (h63 : n + m ≤ maxLen) (hbytes : (n + m) * bytes ≤ 140737488355328) (hbase : base ≤ w.heap.size)
    (h : ∀ v' w', w'.ownsRow base e 1 v' (n + m) (xs ++ news) → w.grownBy w' v.ownBlock → (v'.ownBlock = v.ownBlock ∨ v'.ownBlock = some w.heap.size) → wpList P ops Q rest (a.put o.dst v') w') : wpList P ops Q (o :: rest) a w :=
  wpList_plain hgd fun _ hK => by
    obtain ⟨v', w', hrun, h2, h3, h4⟩ := run_append_rd (P := P) w base t o.type e i z bytes ht hi hz hsize hby hzs v n xs hown A m c news hm hr hA h1 h63 hbytes hbase
    unfold Oper.wp execOp
    simp only [ho, resolve, invoke, builtin, Sem.run_bind, Sem.run_pure, Result.andThen_ok, List.map_toArray, List.map_cons, List.map_nil, hs, hx, append_types ht ht2 hi, hrun]
    exact hK _ _ (h v' w' h2 h3 h4)
end
theorem Rd.ints {w : World} {A : Option Addr} {ds : List Nat} (h : Rd w A (ints ds)) {k : Nat} (hk : k < ds.length) :
    ∃ b o : Nat, A = some ⟨b, o, none⟩ ∧ b < w.heap.size ∧ ∀ i, i < ds.length → w.cell? ⟨b, o + i, none⟩ = some (.int .i64 ((ds[i]?.getD 0 : Nat) : Int)) := by
  obtain ⟨b, o, e, hlt, hc⟩ := h.at_ (i := k) (by rw [ints_length]; exact hk)
  refine ⟨b, o, e, hlt, fun i hi => (hc i (by rw [ints_length]; exact hi)).trans ?_⟩
  simp [Go.Proofs.YtekiomanidimnaaGreatDoor.ints, hi]
theorem GrpR.of_take {w : World} {A : Option Addr} {ds : List Nat} {k c : Nat} (hr : RdT w 3 A (ints (ds.take k))) (hk : k ≤ ds.length) (hz : ∀ j, k ≤ j → j < ds.length → ds[j]?.getD 0 = 0)
    (ht : 0 < k → ds[k - 1]?.getD 0 ≠ 0) (hlt : ∀ d ∈ ds, d < G6) (hkc : k ≤ c) : GrpR w A k c (Dig.val G6 ds) := by
  refine ⟨ds.take k, by rw [List.length_take]; omega, hkc, ⟨fun d hd => hlt d (List.mem_of_mem_take hd), ?_⟩, ?_, hr⟩
  · intro h
    by_cases h0 : k = 0
    · subst h0; simp at h
    · rw [List.getLast?_eq_getElem?, List.length_take, Nat.min_eq_left hk, List.getElem?_take, if_pos (by omega)] at h
      exact ht (by omega) (by rw [h]; rfl)
  · rw [← Dig.trim_val, ← Dig.trim_val G6 ds, Dig.trim_take ds k hk (fun j h1 h2 => hz j h1 h2)]
theorem ints_take (ds : List Nat) (k : Nat) : ints (ds.take k) = (ints ds).take k := by simp [ints]
set_option maxRecDepth 100000 in
set_option maxHeartbeats 2000000 in
theorem without_ok (A : Option Addr) (c : Nat) (ds : List Nat) (w : World) (hr : Rd w A (ints ds)) (hc : ds.length ≤ c) (hlt : ∀ d ∈ ds, d < G6) (hl : ds.length ≤ 1073741824) :
    Calls Tryz.prog 160 #[.slice A ds.length c] w (GrpPost w (Dig.val G6 ds)) := by
  obtain ⟨ti, hi, hz0, hz1, hz2⟩ := info_parts Tryz.info3
  have HR := Lib.hid (hr)
  have HL := Lib.hid (hlt)
  clear hr hlt
  go_enter Tryz.func160, Tryz.ntmps160
  go_wp2
  go_loopg [0] ds.length (fun m it wr => ∃ k, k = m ∧ k ≤ ds.length ∧ it = .slice A k c ∧ (∀ j, k ≤ j → j < ds.length → ds[j]?.getD 0 = 0) ∧ wr = w)
  case atStart => exact ⟨_, rfl, Nat.le_refl _, rfl, fun j h1 h2 => by omega, rfl⟩
  case round =>
    obtain ⟨k, rfl, hk, rfl, hz, rfl⟩ := hrel
    have HZ := Lib.hid (hz)
    have HK := Lib.hid (hk)
    have HA := Lib.hid (show A = none → k = 0 from fun h => by
      rcases Nat.eq_zero_or_pos k with h0 | h0
      · exact h0
      · obtain ⟨b, o, e, _⟩ := HR.out.ints (k := 0) (by omega)
        rw [h] at e; cases e)
    clear hz
    by_cases h0 : k = 0
    · subst h0
      have NZ := Lib.hid (show 0 < 0 → ds[0 - 1]?.getD 0 ≠ 0 from fun h => by omega)
      go_wp2_with (at_builtin; go_must (refine wpList_append_rd2 _ rfl (.tmp 20) (.tmp 21) 49 39 rfl wr.heap.size 3 ti (.int .i64 0) 8 3 Tryz.underlying39 Tryz.underlying49 hi hz0 hz1 hz2 rfl (.slice (some ⟨wr.heap.size, 0, none⟩) 0 0) 0 [] rfl ?c0 A 0 c (ints (ds.take 0)) rfl ?c1 ?c2 ?c3 (ints_one _) ?c4 ?c5 ?c6 ?_))
      case c0 => exact ownsRow_fresh wr wr.heap.size 3 (Nat.le_refl _)
      case c1 => rfl
      case c2 => exact Rd.nil _ _
      intro v3 w3 hown3 hgrow3 _
      have e3 : Ext wr w3 := Below.grown ((Ext.refl wr).alloc (.cells #[] 3)) hgrow3 (by simp) (fun k hk => by simp [Value.ownBlock] at hk; omega)
      obtain ⟨A3, c3, rfl, hc3, hr3⟩ := ownsRow_rdT (l := ds.take 0) hown3 (by rw [List.length_take]; omega)
      have hlk : (ds.take 0).length = 0 := by rw [List.length_take]; omega
      rw [hlk] at hc3 ⊢
      have F := Lib.hid (GrpR.of_take hr3 HK.out HZ.out NZ.out HL.out hc3)
      have E3 := Lib.hid e3
      have FR := Lib.hid (show ∀ ad, A3 = some ad → wr.heap.size ≤ ad.block from fun ad h => (hown3.lt ad.block (by rw [h]; rfl)).1)
      clear hown3 hgrow3 e3 hr3
      go_wp2
      go_ret
      exact ⟨_, _, _, rfl, F.out, E3.out, FR.out⟩
    · obtain ⟨b, o, rfl, hb, hcell⟩ := HR.out.ints (k := k - 1) (by omega)
      have hck := hcell (k - 1) (by omega)
      clear hcell
      obtain ⟨d, hd⟩ : ∃ d, d = ds[k - 1]?.getD 0 := ⟨_, rfl⟩
      rw [← hd] at hck
      have HD := Lib.hid (hd)
      clear hd
      by_cases hd : d = 0
      · subst hd
        go_wp2
        go_roundg (k - 1)
        case measure => omega
        case rel => exact ⟨_, rfl, by omega, by go_num, fun j h1 h2 => by
          by_cases e : j = k - 1
          · subst e; exact HD.out.symm
          · exact HZ.out j (by omega) h2, rfl⟩
      · have hd' : ((d : Int) == 0) = false := beq_eq_false_iff_ne.2 (by omega)
        have NZ := Lib.hid (show 0 < k → ds[k - 1]?.getD 0 ≠ 0 from fun _ => by rw [← HD.out]; exact hd)
        go_wp2_with (at_builtin; go_must (refine wpList_append_rd2 _ rfl (.tmp 20) (.tmp 21) 49 39 rfl wr.heap.size 3 ti (.int .i64 0) 8 3 Tryz.underlying39 Tryz.underlying49 hi hz0 hz1 hz2 rfl (.slice (some ⟨wr.heap.size, 0, none⟩) 0 0) 0 [] rfl ?d0 (some ⟨b, o, none⟩) k c (ints (ds.take k)) rfl ?d1 ?d2 ?d3 (ints_one _) ?d4 ?d5 ?d6 ?_))
        case d0 => exact ownsRow_fresh wr wr.heap.size 3 (Nat.le_refl _)
        case d1 => rw [ints_length, List.length_take]; omega
        case d2 => rw [ints_take]; exact (HR.out.take k).keep ((Ext.refl _).alloc _)
        case d3 => exact fun h => .inr (HA.out h)
        case d4 => unfold maxLen; omega
        case d5 => omega
        case d6 => simp
        intro v3 w3 hown3 hgrow3 _
        have e3 : Ext wr w3 := Below.grown ((Ext.refl wr).alloc (.cells #[] 3)) hgrow3 (by simp) (fun k hk => by simp [Value.ownBlock] at hk; omega)
        obtain ⟨A3, c3, rfl, hc3, hr3⟩ := ownsRow_rdT (l := ds.take k) hown3 (by rw [List.length_take]; omega)
        have hlk : (ds.take k).length = k := by rw [List.length_take]; omega
        rw [hlk] at hc3 ⊢
        have F := Lib.hid (GrpR.of_take hr3 HK.out HZ.out NZ.out HL.out hc3)
        have E3 := Lib.hid e3
        have FR := Lib.hid (show ∀ ad, A3 = some ad → wr.heap.size ≤ ad.block from fun ad h => (hown3.lt ad.block (by rw [h]; rfl)).1)
        clear hown3 hgrow3 e3 hr3
        go_wp2
        go_ret
        exact ⟨_, _, _, rfl, F.out, E3.out, FR.out⟩
theorem Ext.tr' {a b c : World} (h : Ext a b) (k : Below a.heap.size b c) : Ext a c := h.trans k
/-- An own row of natural numbers. -/
def OI (w : World) (B : Nat) (v : Value) (l : List Nat) : Prop := w.ownsRow B 3 1 v l.length (ints l)
theorem OI.nil (w : World) (B : Nat) : OI w B (.slice none 0 0) [] := World.ownsRow_nil _ _ _ _
theorem OI.keep {w w' : World} {B : Nat} {v : Value} {l : List Nat} (h : OI w B v l) (hx : Ext w w') : OI w' B v l :=
  World.ownsRow.kept (row := none) h ⟨hx.os, hx.tape, hx.output, hx.size, fun k hk _ => hx.block k hk⟩ (by
    by_cases e : v.ownBlock = none
    · exact .inl e
    · exact .inr e)
theorem OI.rdT {w : World} {B : Nat} {v : Value} {l : List Nat} (h : OI w B v l) : ∃ (A : Option Addr) (c : Nat), v = .slice A l.length c ∧ l.length ≤ c ∧ RdT w 3 A (ints l) := ownsRow_rdT h rfl
theorem wpList_push {ops : Array Oper} {rest : List Oper} {o : Oper} {a : Act} {Q : Exit → Act → World → Prop} (w : World) (hgd : o.guard = none) (s x : Operand)
    (ho : o.op = .call { callee := .builtin .append, args := #[s, x], argTypes := #[39, 39] })
    (B : Nat) (v : Value) (l : List Nat) (hs : a.eval s = v) (hown : OI w B v l) (u : Value) (n : Nat) (hu : u = .int .i64 (n : Int)) (hx : a.eval x = .slice (some ⟨w.heap.size, 0, none⟩) 1 1)
    (hl : l.length ≤ 4398046511104) (hB : B ≤ w.heap.size)
    (h : ∀ v' w', OI w' B v' (l ++ [n]) → Below B w w' → (∃ A c, v' = .slice A (l.length + 1) c) → wpList Tryz.prog ops Q rest (a.put o.dst v') w') : wpList Tryz.prog ops Q (o :: rest) a (w.alloc (.cells #[u] 3)) := by
  obtain ⟨ti, hi, hz0, hz1, hz2⟩ := info_parts Tryz.info3
  subst hu
  refine wpList_append_rd _ hgd s x 39 ho B 3 ti (.int .i64 0) 8 Tryz.underlying39 hi hz0 hz1 hz2 rfl v l.length (ints l) hs (OI.keep hown ((Ext.refl w).alloc _)) (some ⟨w.heap.size, 0, none⟩) 1 1 [.int .i64 (n : Int)] hx rfl (Rd.new w _ _ rfl rfl) (by intro h; cases h) (by intro u hu; simp at hu; subst hu; rfl) (by unfold maxLen; omega) (by omega) (by simp; omega) ?_
  intro v' w' h1 h2 h3
  have hown2 : OI w' B v' (l ++ [n]) := by
    unfold OI
    rw [List.length_append, ints_snoc]
    exact h1
  obtain ⟨A, c, e, _⟩ := hown2.rdT
  refine h v' w' hown2 ?_ ⟨A, c, by rw [e, List.length_append]; rfl⟩
  exact Below.grown (Below.alloc (Below.refl B w) hB _) h2 (by simp; omega) (fun k hk => (hown.lt k hk).1)
set_option maxRecDepth 100000 in
set_option maxHeartbeats 2000000 in
theorem refOf_ok (N : Nat) (w : World) (hN : N < 18446744073709551616) :
    Calls Tryz.prog 144 #[.int .u64 N] w (GrpPost w N) := by
  go_enter Tryz.func144, Tryz.ntmps144
  go_wp2
  go_loopg [0, 3] N (fun m nt ot wr => ∃ (k : Nat) (ds : List Nat) (A : Option Addr) (c : Nat), k = m ∧ nt = .int .u64 k ∧ ot = .slice A ds.length c ∧ OI wr w.heap.size ot ds ∧ (∀ d ∈ ds, d < G6) ∧ N = Dig.val G6 ds + G6 ^ ds.length * k ∧ ds.length ≤ 4 ∧ Ext w wr ∧ k ≤ N)
  case atStart => exact ⟨_, [], none, 0, rfl, rfl, rfl, OI.nil _ _, (fun _ h => by cases h), (by simp [Dig.val]), (by simp), Ext.refl _, Nat.le_refl _⟩
  case round =>
    obtain ⟨k, ds, A, c, rfl, rfl, rfl, hown, hlt, hval, hlen, hx, hkN⟩ := hrel
    have OW := Lib.hid (hown)
    have HL := Lib.hid (hlt)
    have HV := Lib.hid (hval)
    have EX := Lib.hid (hx)
    clear hown hlt hval hx
    by_cases h0 : k = 0
    · subst h0
      obtain ⟨A', c', e, hc, hr⟩ := OW.out.rdT
      injection e with e1 e2 e3
      subst e1 e3
      have R := Lib.hid (hr.rd)
      clear hr
      go_wp2_with fail
      refine (without_ok A c ds _ R.out hc HL.out (by omega)).mono ?_
      rintro e w1 ⟨A1, n1, c1, rfl, hR, hx1, fr⟩
      have hv : Dig.val G6 ds = N := by have := HV.out; rw [Nat.mul_zero, Nat.add_zero] at this; exact this.symm
      rw [hv] at hR
      have F := Lib.hid (And.intro hR (And.intro (EX.out.tr hx1) (fun ad h => Nat.le_trans EX.out.size (fr ad h))))
      clear hR hx1 hv fr
      go_wp2
      go_ret
      exact ⟨_, _, _, rfl, F.out.1, F.out.2.1, F.out.2.2⟩
    · have hgt : decide ((k : Int) > 0) = true := by simp; omega
      have hlen4 : ds.length ≤ 3 := by
        rcases Nat.lt_or_ge ds.length 4 with h | h
        · omega
        · have hv := HV.out
          have : G6 ^ 4 ≤ G6 ^ ds.length := Nat.pow_le_pow_right G6_pos h
          have h4 : G6 ^ 4 = 1000000000000000000000000 := by decide
          have : G6 ^ ds.length * 1 ≤ G6 ^ ds.length * k := Nat.mul_le_mul_left _ (by omega)
          omega
      go_wp2_with (at_builtin; go_must (refine wpList_push wr rfl (.tmp 6) (.tmp 10) rfl w.heap.size (.slice A ds.length c) ds rfl OW.out _ (k % 1000000) ?c0 rfl ?c1 ?c2 ?_))
      case c0 => go_num
      case c1 => omega
      case c2 => exact EX.out.size
      intro v2 w2 hown2 hb2 A2 c2 e2
      subst e2
      have hd := Nat.div_add_mod k 1000000
      have hm := Nat.mod_lt k (show 1000000 > 0 by decide)
      have OW2 := Lib.hid hown2
      have EX2 := Lib.hid (EX.out.tr' hb2)
      have V2 := Lib.hid (show N = Dig.val G6 (ds ++ [k % 1000000]) + G6 ^ (ds ++ [k % 1000000]).length * (k / 1000000) by
        rw [Dig.val_snoc, List.length_append, Nat.pow_add, HV.out, Nat.add_assoc, Nat.mul_assoc, ← Nat.mul_add]
        congr 1
        congr 1
        simp only [List.length_singleton, Nat.pow_one, G6_eq]
        omega)
      have L2 := Lib.hid (show ∀ d ∈ ds ++ [k % 1000000], d < G6 from fun d hd => by
        rcases List.mem_append.1 hd with h | h
        · exact HL.out d h
        · simp at h; subst h; exact hm)
      clear hown2 hb2
      go_wp2
      go_roundg (k / 1000000)
      case measure => omega
      case rel => exact ⟨_, ds ++ [k % 1000000], A2, c2, rfl, by go_num, by rw [List.length_append]; rfl, OW2.out, L2.out, V2.out, by rw [List.length_append]; simp; omega, EX2.out, by omega⟩
end Go.Proofs.YtekiomanidimnaaGreatDoor


namespace Go.Proofs.YtekiomanidimnaaGreatDoor
open Go.RowKit
theorem val_take_next (xs : List Nat) (i : Nat) : Dig.val G6 (xs.take (i + 1)) = Dig.val G6 (xs.take i) + G6 ^ i * xs[i]?.getD 0 := by
  rcases Nat.lt_or_ge i xs.length with h | h
  · rw [Dig.val_take_succ' _ _ _ h]; simp [List.getD]
  · rw [List.take_of_length_le (by omega), List.take_of_length_le h, List.getElem?_eq_none h]; simp
theorem step_val {V D C x P : Nat} (h : V = D + P * C) : V + P * x = (D + P * ((C + x) % 1000000)) + P * G6 * ((C + x) / 1000000) := by
  have := Nat.div_add_mod (C + x) 1000000
  rw [h, G6_eq, Nat.mul_assoc, Nat.add_assoc, Nat.add_assoc, ← Nat.mul_add, ← Nat.mul_add]
  congr 2
  omega
theorem without_ok' (A : Option Addr) (n c : Nat) (ds : List Nat) (hn : ds.length = n) (w : World) (hr : Rd w A (ints ds)) (hc : n ≤ c) (hlt : ∀ d ∈ ds, d < G6) (hl : n ≤ 1073741824) :
    Calls Tryz.prog 160 #[.slice A n c] w (GrpPost w (Dig.val G6 ds)) := by
  subst hn
  exact without_ok A c ds w hr hc hlt hl
/-- How far the carry has gone. -/
def carSt (n i C : Nat) : Prop := (i ≤ n ∧ C ≤ 5000000000000) ∨ (i = n + 1 ∧ C ≤ 5000000) ∨ (i = n + 2 ∧ C ≤ 5) ∨ (i = n + 3 ∧ C = 0)
set_option maxRecDepth 100000 in
set_option maxHeartbeats 4000000 in
theorem carried_ok (A : Option Addr) (c : Nat) (xs : List Nat) (w : World) (hr : Rd w A (ints xs)) (hc : xs.length ≤ c) (hlt : ∀ d ∈ xs, d ≤ 4000000000000000000) (hl : xs.length ≤ 100000000) :
    Calls Tryz.prog 159 #[.slice A xs.length c] w (GrpPost w (Dig.val G6 xs)) := by
  have HR := Lib.hid (hr)
  have HX := Lib.hid (hlt)
  clear hr hlt
  go_enter Tryz.func159, Tryz.ntmps159
  go_wp2
  go_loopg [3, 4, 5] (xs.length + 3) (fun m ot ct it wr => ∃ (i C : Nat) (ds : List Nat) (A : Option Addr) (c : Nat), xs.length + 3 - i = m ∧ it = .int .i64 i ∧ ct = .int .i64 C ∧ ot = .slice A ds.length c ∧ OI wr w.heap.size ot ds ∧ (∀ d ∈ ds, d < G6) ∧ ds.length = i ∧ Dig.val G6 (xs.take i) = Dig.val G6 ds + G6 ^ i * C ∧ carSt xs.length i C ∧ Ext w wr)
  case atStart => exact ⟨0, 0, [], none, 0, rfl, rfl, rfl, rfl, OI.nil _ _, (fun _ h => by cases h), rfl, by simp [Dig.val], by unfold carSt; omega, Ext.refl _⟩
  case round =>
    obtain ⟨i, C, ds, A', c', rfl, rfl, rfl, rfl, hown, hlt, hlen, hval, hst, hx⟩ := hrel
    have OW := Lib.hid (hown)
    have HL := Lib.hid (hlt)
    have HV := Lib.hid (hval)
    have EX := Lib.hid (hx)
    have ST := Lib.hid (hst)
    clear hown hlt hval hx hst
    by_cases h0 : i < xs.length
    · obtain ⟨b, o, rfl, hb, hcell⟩ := HR.out.ints (k := i) h0
      obtain ⟨x, hxi⟩ : ∃ x, x = xs[i]?.getD 0 := ⟨_, rfl⟩
      have hxb : x ≤ 4000000000000000000 := by rw [hxi, List.getElem?_eq_getElem h0]; exact HX.out _ (List.getElem_mem h0)
      have hck := EX.out.cell (p := ⟨b, o + i, none⟩) hb
      rw [hcell i h0, ← hxi] at hck
      have HXI := Lib.hid (hxi)
      have hS : (C : Int) + (x : Int) ≤ 4500000000000000000 := by have := ST.out; unfold carSt at this; omega
      have ST2 := Lib.hid (show carSt xs.length (i + 1) ((C + x) / 1000000) by have := ST.out; unfold carSt at this ⊢; omega)
      clear hxi hcell hxb
      go_wp2_with (at_builtin; go_must (refine wpList_push wr rfl (.tmp 26) (.tmp 29) rfl w.heap.size (.slice A' ds.length c') ds rfl OW.out _ ((C + x) % 1000000) ?c0 rfl ?c1 ?c2 ?_))
      case c0 => go_num
      case c1 => omega
      case c2 => exact EX.out.size
      intro v2 w2 hown2 hb2 A2 c2 e2
      subst e2
      have OW2 := Lib.hid hown2
      have EX2 := Lib.hid (EX.out.tr' hb2)
      have V2 := Lib.hid (show Dig.val G6 (xs.take (i + 1)) = Dig.val G6 (ds ++ [(C + x) % 1000000]) + G6 ^ (i + 1) * ((C + x) / 1000000) by
        rw [val_take_next, ← HXI.out, Dig.val_snoc, hlen, Nat.pow_succ]
        exact step_val HV.out)
      have L2 := Lib.hid (show ∀ d ∈ ds ++ [(C + x) % 1000000], d < G6 from fun d hd => by
        rcases List.mem_append.1 hd with h | h
        · exact HL.out d h
        · simp at h; subst h; exact Nat.mod_lt _ (by decide))
      clear hown2 hb2
      go_wp2
      go_roundg (xs.length + 3 - (i + 1))
      case measure => omega
      case rel => exact ⟨i + 1, (C + x) / 1000000, ds ++ [(C + x) % 1000000], A2, c2, rfl, by go_num, by go_num, by rw [List.length_append, hlen]; rfl, OW2.out, L2.out, by rw [List.length_append, hlen]; rfl, V2.out, ST2.out, EX2.out⟩
    · by_cases h1 : 0 < C
      · obtain ⟨x, hxi⟩ : ∃ x, x = xs[i]?.getD 0 := ⟨_, rfl⟩
        obtain rfl : x = 0 := by rw [hxi, List.getElem?_eq_none (by omega)]; rfl
        have HXI := Lib.hid (hxi)
        have hS : (C : Int) ≤ 4500000000000000000 := by have := ST.out; unfold carSt at this; omega
        have ST2 := Lib.hid (show carSt xs.length (i + 1) (C / 1000000) by have := ST.out; unfold carSt at this ⊢; omega)
        have hi3 : i < xs.length + 3 := by have := ST.out; unfold carSt at this; omega
        clear hxi
        have d1 : decide ((i : Int) < (xs.length : Int)) = false := by simp; omega
        have d2 : decide ((C : Int) > 0) = true := by simp; omega
        go_wp2_with (at_builtin; go_must (refine wpList_push wr rfl (.tmp 26) (.tmp 29) rfl w.heap.size (.slice A' ds.length c') ds rfl OW.out _ (C % 1000000) ?d0 rfl ?d1 ?d2 ?_))
        case d0 => go_num
        case d1 => omega
        case d2 => exact EX.out.size
        intro v2 w2 hown2 hb2 A2 c2 e2
        subst e2
        have OW2 := Lib.hid hown2
        have EX2 := Lib.hid (EX.out.tr' hb2)
        have V2 := Lib.hid (show Dig.val G6 (xs.take (i + 1)) = Dig.val G6 (ds ++ [C % 1000000]) + G6 ^ (i + 1) * (C / 1000000) by
          rw [val_take_next, ← HXI.out, Dig.val_snoc, hlen, Nat.pow_succ]
          exact step_val (x := 0) HV.out)
        have L2 := Lib.hid (show ∀ d ∈ ds ++ [C % 1000000], d < G6 from fun d hd => by
          rcases List.mem_append.1 hd with h | h
          · exact HL.out d h
          · simp at h; subst h; exact Nat.mod_lt _ (by decide))
        clear hown2 hb2
        go_wp2
        go_roundg (xs.length + 3 - (i + 1))
        case measure => omega
        case rel => exact ⟨i + 1, C / 1000000, ds ++ [C % 1000000], A2, c2, rfl, by go_num, by go_num, by rw [List.length_append, hlen]; rfl, OW2.out, L2.out, by rw [List.length_append, hlen]; rfl, V2.out, ST2.out, EX2.out⟩
      · obtain rfl : C = 0 := by omega
        have hi3 : i ≤ xs.length + 3 := by have := ST.out; unfold carSt at this; omega
        have d1 : decide ((i : Int) < (xs.length : Int)) = false := by simp; omega
        obtain ⟨A2, c2, e, hc2, hr2⟩ := OW.out.rdT
        injection e with e1 e2 e3
        subst e1 e3
        have R := Lib.hid (hr2.rd)
        clear hr2
        go_wp2_with fail
        rw [hlen] at hc2
        refine (without_ok' A' i c' ds hlen _ R.out hc2 HL.out (by omega)).mono ?_
        rintro e w1 ⟨A1, n1, c1, rfl, hR, hx1, fr⟩
        have hv : Dig.val G6 ds = Dig.val G6 xs := by have := HV.out; rw [Nat.mul_zero, Nat.add_zero, List.take_of_length_le (by omega)] at this; exact this.symm
        rw [hv] at hR
        have F := Lib.hid (And.intro hR (And.intro (EX.out.tr hx1) (fun ad h => Nat.le_trans EX.out.size (fr ad h))))
        clear hR hx1 hv fr
        go_wp2
        go_ret
        exact ⟨_, _, _, rfl, F.out.1, F.out.2.1, F.out.2.2⟩
theorem carried_ok' (A : Option Addr) (n c : Nat) (xs : List Nat) (hn : xs.length = n) (w : World) (hr : Rd w A (ints xs)) (hc : n ≤ c) (hlt : ∀ d ∈ xs, d ≤ 4000000000000000000) (hl : n ≤ 100000000) :
    Calls Tryz.prog 159 #[.slice A n c] w (GrpPost w (Dig.val G6 xs)) := by
  subst hn
  exact carried_ok A c xs w hr hc hlt hl
theorem val_mul (m : Nat) (ds : List Nat) : Dig.val G6 (ds.map (· * m)) = Dig.val G6 ds * m := by
  induction ds with
  | nil => simp [Dig.val]
  | cons d ds ih => rw [List.map_cons, Dig.val_cons, Dig.val_cons, ih, Nat.add_mul, Nat.mul_assoc]
set_option maxRecDepth 100000 in
set_option maxHeartbeats 4000000 in
theorem times_ok (A : Option Addr) (n c N m : Nat) (w : World) (h : GrpR w A n c N) (hn : n ≤ 10000000) (hm : m ≤ 4294967296) :
    Calls Tryz.prog 165 #[.slice A n c, .int .i64 m] w (GrpPost w (N * m)) := by
  obtain ⟨ds, hdl, hc, hcan, rfl, hr⟩ := h
  have HR := Lib.hid (hr.rd)
  have HD := Lib.hid (hcan.lt)
  have HDL := Lib.hid (hdl)
  clear hr hcan hdl
  go_enter Tryz.func165, Tryz.ntmps165
  go_wp2
  go_loopg [5, 6] n (fun k ot it wr => ∃ (i : Nat) (l : List Nat) (A : Option Addr) (c : Nat), n - i = k ∧ i ≤ n ∧ it = .int .i64 i ∧ ot = .slice A i c ∧ l.length = i ∧ l = (ds.take i).map (· * m) ∧ OI wr w.heap.size (.slice A i c) l ∧ Ext w wr)
  case atStart => exact ⟨0, [], none, 0, rfl, Nat.zero_le _, rfl, rfl, rfl, by simp, OI.nil _ _, Ext.refl _⟩
  case round =>
    obtain ⟨i, l, A', c', rfl, hi, rfl, rfl, hlen, hl, hown, hx⟩ := hrel
    have OW := Lib.hid (hown)
    have HL := Lib.hid (hl)
    have EX := Lib.hid (hx)
    clear hown hl hx
    by_cases h0 : i < n
    · obtain ⟨b, o, rfl, hb, hcell⟩ := HR.out.ints (k := i) (by rw [HDL.out]; exact h0)
      obtain ⟨x, hxi⟩ : ∃ x, x = ds[i]?.getD 0 := ⟨_, rfl⟩
      have hget : ds[i]? = some x := by rw [hxi, List.getElem?_eq_getElem (by rw [HDL.out]; exact h0)]; rfl
      have hxb : x < 1000000 := HD.out x (List.mem_of_getElem? hget)
      have hck := EX.out.cell (p := ⟨b, o + i, none⟩) hb
      rw [hcell i (by rw [HDL.out]; exact h0), ← hxi] at hck
      have hS : (x : Int) * (m : Int) ≤ 4294967296000000 := by
        have h1 : x * m ≤ 1000000 * 4294967296 := Nat.mul_le_mul (by omega) hm
        have h2 : ((x * m : Nat) : Int) = (x : Int) * (m : Int) := by simp
        omega
      have hS0 : 0 ≤ (x : Int) * (m : Int) := by
        have h2 : ((x * m : Nat) : Int) = (x : Int) * (m : Int) := by simp
        omega
      have L2 := Lib.hid (show l ++ [x * m] = (ds.take (i + 1)).map (· * m) by
        rw [List.take_add_one, hget, HL.out]; simp)
      clear hxi hcell hget
      go_wp2_with (at_builtin; go_must (refine wpList_push wr rfl (.tmp 13) (.tmp 20) rfl w.heap.size (.slice A' i c') l rfl OW.out _ (x * m) ?c0 rfl ?c1 ?c2 ?_))
      case c0 => rw [Int.natCast_mul]
      case c1 => omega
      case c2 => exact EX.out.size
      intro v2 w2 hown2 hb2 A2 c2 e2
      subst e2
      have OW2 := Lib.hid hown2
      have EX2 := Lib.hid (EX.out.tr' hb2)
      clear hown2 hb2
      go_wp2
      go_roundg (n - (i + 1))
      case measure => omega
      case rel => exact ⟨i + 1, l ++ [x * m], A2, c2, rfl, by omega, by go_num, rfl, by rw [List.length_append, hlen]; rfl, L2.out, OW2.out, EX2.out⟩
    · obtain rfl : i = n := by omega
      obtain ⟨A2, c2, e, hc2, hr2⟩ := OW.out.rdT
      injection e with e1 e2 e3
      subst e1 e3
      rw [hlen] at hc2
      have R := Lib.hid (hr2.rd)
      clear hr2 e2
      have hb := Lib.hid (show ∀ d ∈ l, d ≤ 4000000000000000000 from fun d hd => by
        rw [HL.out] at hd
        obtain ⟨x, hx, rfl⟩ := List.mem_map.1 hd
        have h1 := HD.out x (List.mem_of_mem_take hx)
        rw [G6_eq] at h1
        exact Nat.le_trans (Nat.mul_le_mul (Nat.le_of_lt h1) hm) (by decide))
      have hv := Lib.hid (show Dig.val G6 l = Dig.val G6 ds * m by rw [HL.out, List.take_of_length_le (by rw [HDL.out]; omega), val_mul])
      go_wp2_with fail
      refine (carried_ok' A' i c' l hlen _ R.out hc2 hb.out (by omega)).mono ?_
      rintro e w1 ⟨A1, n1, c1, rfl, hR, hx1, fr⟩
      rw [hv.out] at hR
      have F := Lib.hid (And.intro hR (And.intro (EX.out.tr hx1) (fun ad h => Nat.le_trans EX.out.size (fr ad h))))
      clear hR hx1 fr
      go_wp2
      go_ret
      exact ⟨_, _, _, rfl, F.out.1, F.out.2.1, F.out.2.2⟩
end Go.Proofs.YtekiomanidimnaaGreatDoor


namespace Go.Proofs.YtekiomanidimnaaGreatDoor
open Go.RowKit
set_option maxRecDepth 100000 in
set_option maxHeartbeats 2000000 in
theorem rCmp_ok (A1 A2 : Option Addr) (n1 c1 n2 c2 a b : Nat) (w : World) (h1 : GrpR w A1 n1 c1 a) (h2 : GrpR w A2 n2 c2 b) (hn : n1 ≤ 1099511627776) :
    Calls Tryz.prog 136 #[.slice A1 n1 c1, .slice A2 n2 c2] w fun e w' => e = .returned (.int .i64 (cmpI a b)) ∧ Ext w w' := by
  obtain ⟨xs, rfl, hc1, hcx, rfl, hr1⟩ := h1
  obtain ⟨ys, rfl, hc2, hcy, rfl, hr2⟩ := h2
  by_cases hl : xs.length = ys.length
  · have hlb : decide (xs.length < ys.length) = false := by simp; omega
    have hlb2 : decide (ys.length < xs.length) = false := by simp; omega
    have HL := Lib.hid (hl)
    clear hl
    go_enter Tryz.func136, Tryz.ntmps136
    go_wp2
    go_loopw [5] (fun t wr => ∃ (k m : Nat), k ≤ xs.length ∧ t = .int .i64 (k - 1) ∧ wr = w.drewN m ∧ ∀ j, k ≤ j → j < xs.length → xs[j]?.getD 0 = ys[j]?.getD 0) (fun t _ => (intOf t + 1).toNat)
    case atStart => exact ⟨xs.length, 0, Nat.le_refl _, by go_num, rfl, fun j h1 h2 => by omega⟩
    case round =>
      obtain ⟨k, m, hk, rfl, rfl, hz⟩ := hrel
      have HZ := Lib.hid hz
      clear hz
      by_cases h0 : k = 0
      · subst h0
        have hfin : cmpI (Dig.val G6 xs) (Dig.val G6 ys) = 0 := by
          have e : xs = ys := by have := Dig.drop_eq_of HL.out HZ.out; simpa using this
          unfold cmpI; rw [e]; simp
        have HF := Lib.hid hfin
        clear hfin
        go_wp2
        go_ret
        rw [HF.out]
        exact ⟨rfl, by repeat (first | exact Ext.refl _ | refine Ext.drewN ?_ _ | refine Ext.alloc ?_ _)⟩
      · have hlq := HL.out
        obtain ⟨b1, o1, rfl, hb1, hcell1⟩ := hr1.rd.ints (k := k - 1) (by omega)
        obtain ⟨b2, o2, rfl, hb2, hcell2⟩ := hr2.rd.ints (k := k - 1) (by omega)
        have hk1 := hcell1 (k - 1) (by omega)
        have hk2 := hcell2 (k - 1) (by omega)
        clear hcell1 hcell2 hr1 hr2
        obtain ⟨d1, hd1⟩ : ∃ d, d = xs[k - 1]?.getD 0 := ⟨_, rfl⟩
        obtain ⟨d2, hd2⟩ : ∃ d, d = ys[k - 1]?.getD 0 := ⟨_, rfl⟩
        rw [← hd1] at hk1
        rw [← hd2] at hk2
        have HD1 := Lib.hid hd1
        have HD2 := Lib.hid hd2
        have i0 : (0 : Int) ≤ (k : Int) - 1 := by omega
        have i1 : (k : Int) - 1 < (xs.length : Int) := by omega
        have i2 : (k : Int) - 1 < (ys.length : Int) := by omega
        have i3 : ((k : Int) - 1).toNat = k - 1 := by omega
        clear hd1 hd2 hlq
        rcases Nat.lt_trichotomy d1 d2 with hd | hd | hd
        · have hb : decide (d1 < d2) = true := by simpa using hd
          have hfin : cmpI (Dig.val G6 xs) (Dig.val G6 ys) = -1 := by
            unfold cmpI; rw [if_pos (Dig.val_lt_of_digit G6_pos hcx.lt HL.out (k := k - 1) (by omega) (fun j h1 h2 => HZ.out j (by omega) h2) (by rw [← HD1.out, ← HD2.out]; exact hd))]
          have HF := Lib.hid hfin
          clear hfin
          go_wp2
          go_quiet (fail)
          go_wp2
          go_ret
          rw [HF.out]
          exact ⟨rfl, by repeat (first | exact Ext.refl _ | refine Ext.drewN ?_ _ | refine Ext.alloc ?_ _)⟩
        · subst hd
          go_wp2
          go_quiet (fail)
          go_wp2
          go_quiet (fail)
          go_wp2
          go_roundw
          case rel => exact ⟨k - 1, _, by omega, by go_num, rfl, fun j h1 h2 => by
            by_cases e : j = k - 1
            · subst e; rw [← HD1.out, ← HD2.out]
            · exact HZ.out j (by omega) h2⟩
          case measure => simp [intOf]; omega
        · have hb : decide (d1 < d2) = false := by simp; omega
          have hb' : decide (d2 < d1) = true := by simpa using hd
          have hfin : cmpI (Dig.val G6 xs) (Dig.val G6 ys) = 1 := by
            have := Dig.val_lt_of_digit G6_pos hcy.lt HL.out.symm (k := k - 1) (by have := HL.out; omega) (fun j h1 h2 => (HZ.out j (by omega) (by have := HL.out; omega)).symm) (by rw [← HD1.out, ← HD2.out]; exact hd)
            unfold cmpI; rw [if_neg (by omega), if_neg (by omega)]
          have HF := Lib.hid hfin
          clear hfin
          go_wp2
          go_quiet (fail)
          go_wp2
          go_quiet (fail)
          go_wp2
          go_ret
          rw [HF.out]
          exact ⟨rfl, by repeat (first | exact Ext.refl _ | refine Ext.drewN ?_ _ | refine Ext.alloc ?_ _)⟩
  · rcases Nat.lt_or_ge xs.length ys.length with hlt | hge
    · have hb : decide (xs.length < ys.length) = true := by simp; omega
      have hfin : cmpI (Dig.val G6 xs) (Dig.val G6 ys) = -1 := by unfold cmpI; rw [if_pos (Dig.Canon.len_lt G6_gt hcx hcy hlt)]
      rw [hfin]
      clear hfin
      go_enter Tryz.func136, Tryz.ntmps136
      go_wp2
      go_ret
      exact ⟨rfl, Ext.refl _⟩
    · have hb : decide (xs.length < ys.length) = false := by simp; omega
      have hb2 : decide (ys.length < xs.length) = true := by simp; omega
      have hfin : cmpI (Dig.val G6 xs) (Dig.val G6 ys) = 1 := by
        have := Dig.Canon.len_lt G6_gt hcy hcx (by omega)
        unfold cmpI; rw [if_neg (by omega), if_neg (by omega)]
      rw [hfin]
      clear hfin
      go_enter Tryz.func136, Tryz.ntmps136
      go_wp2
      go_ret
      exact ⟨rfl, Ext.refl _⟩
theorem drop_next (ds : List Nat) (k : Nat) (h : k < ds.length) : Dig.val G6 (ds.drop k) = ds[k]?.getD 0 + G6 * Dig.val G6 (ds.drop (k + 1)) := by
  rw [Dig.val_drop' _ _ _ h]; simp [List.getD]
theorem drop_le (ds : List Nat) (k : Nat) : Dig.val G6 (ds.drop k) ≤ Dig.val G6 ds := by
  rcases Nat.lt_or_ge ds.length k with h | h
  · rw [List.drop_of_length_le (by omega)]; exact Nat.zero_le _
  · rw [Dig.val_split' G6 ds k h]
    have : Dig.val G6 (ds.drop k) * 1 ≤ Dig.val G6 (ds.drop k) * G6 ^ k := Nat.mul_le_mul_left _ (Nat.pow_pos G6_pos)
    rw [Nat.mul_comm (G6 ^ k)]
    omega
def U64 : Nat := 18446744073709551616
theorem U64_eq : U64 = 18446744073709551616 := rfl
set_option maxRecDepth 100000 in
set_option maxHeartbeats 2000000 in
theorem rUint_ok (A : Option Addr) (n c N : Nat) (w : World) (h : GrpR w A n c N) (hn : n ≤ 1000000000) :
    Calls Tryz.prog 145 #[.slice A n c] w fun e w' => ∃ (x : Nat) (ok : Bool), e = .returned (.tuple #[.int .u64 x, .bool ok]) ∧ ((N < U64 ∧ x = N ∧ ok = true) ∨ (U64 ≤ N ∧ ok = false)) ∧ Ext w w' := by
  obtain ⟨ds, hdl, hc, hcan, rfl, hr⟩ := h
  have HR := Lib.hid (hr.rd)
  have HD := Lib.hid (hcan.lt)
  have HDL := Lib.hid (hdl)
  clear hr hcan hdl
  go_enter Tryz.func145, Tryz.ntmps145
  go_wp2
  go_loopg [4, 5, 6] n (fun m at_ it _ wr => ∃ k V : Nat, k = m ∧ k ≤ n ∧ it = .int .i64 (k - 1) ∧ at_ = .int .u64 V ∧ Hid (V = Dig.val G6 (ds.drop k)) ∧ Hid (V < U64) ∧ wr = w)
  case atStart => exact ⟨n, 0, rfl, Nat.le_refl _, by go_num, rfl, Lib.hid (by rw [List.drop_of_length_le (by rw [HDL.out]; omega)]; rfl), Lib.hid (by decide), rfl⟩
  case round =>
    obtain ⟨k, V, rfl, hk, rfl, rfl, hV, hV2, rfl⟩ := hrel
    by_cases h0 : k = 0
    · subst h0
      have hv : V = Dig.val G6 ds := hV.out
      go_wp2
      refine bodyPost_ret (v := .tuple #[.int .u64 V, .bool true]) (by simp [results, Tryz.results145, go_sem]) rfl ?_
      exact ⟨V, true, rfl, .inl ⟨by rw [← hv]; exact hV2.out, hv, rfl⟩, Ext.refl _⟩
    · have hkl : k - 1 < ds.length := by rw [HDL.out]; omega
      obtain ⟨b, o, rfl, hb, hcell⟩ := HR.out.ints (k := k - 1) hkl
      obtain ⟨x, hxi⟩ : ∃ x, x = ds[k - 1]?.getD 0 := ⟨_, rfl⟩
      have hget : ds[k - 1]? = some x := by rw [hxi, List.getElem?_eq_getElem hkl]; rfl
      have hxb : x < 1000000 := HD.out x (List.mem_of_getElem? hget)
      have hck := hcell (k - 1) hkl
      rw [← hxi] at hck
      have NX := Lib.hid (show Dig.val G6 (ds.drop (k - 1)) = x + 1000000 * V by
        rw [drop_next ds (k - 1) hkl, ← hxi, show k - 1 + 1 = k by omega, hV.out]; rfl)
      have LE := Lib.hid (drop_le ds (k - 1))
      have i0 : (0 : Int) ≤ (k : Int) - 1 := by omega
      have i3 : ((k : Int) - 1).toNat = k - 1 := by omega
      clear hxi hcell hget hkl
      go_wp2
      · rename_i hf
        have hf' : (18446744073709551615 - (x : Int)) / 1000000 < (V : Int) := by simpa using hf
        refine bodyPost_ret (v := .tuple #[.int .u64 0, .bool false]) (by simp [results, Tryz.results145, go_sem]) rfl ?_
        exact ⟨0, false, rfl, .inr ⟨by have h1 := NX.out; have h2 := LE.out; rw [U64_eq]; omega, rfl⟩, Ext.refl _⟩
      · rename_i hf
        have hf' : ¬ (18446744073709551615 - (x : Int)) / 1000000 < (V : Int) := by simpa using hf
        have hs : (V : Int) * 1000000 + (x : Int) < 18446744073709551616 := by omega
        go_roundg (k - 1)
        case measure => omega
        case rel => exact ⟨k - 1, V * 1000000 + x, rfl, by omega, by go_num, by go_num, Lib.hid (by rw [NX.out]; omega), Lib.hid (by rw [U64_eq]; omega), rfl⟩
theorem GrpR.lt_pow {w : World} {A : Option Addr} {n c N : Nat} (h : GrpR w A n c N) : N < G6 ^ n := by
  obtain ⟨ds, rfl, _, hcan, rfl, _⟩ := h
  exact Dig.val_lt G6_pos hcan.lt
set_option maxRecDepth 100000 in
set_option maxHeartbeats 2000000 in
theorem fits_ok (A1 A2 : Option Addr) (n1 c1 n2 c2 a b : Nat) (w : World) (h1 : GrpR w A1 n1 c1 a) (h2 : GrpR w A2 n2 c2 b) (hn2 : n2 ≤ 10000000) :
    Calls Tryz.prog 164 #[.slice A1 n1 c1, .slice A2 n2 c2] w fun e w' => ∃ q : Nat, e = .returned (.int .i64 q) ∧ q ≤ 999999 ∧ b * q ≤ a ∧ (q = 999999 ∨ a < b * (q + 1)) ∧ Ext w w' := by
  have H1 := Lib.hid (h1)
  have H2 := Lib.hid (h2)
  clear h1 h2
  go_enter Tryz.func164, Tryz.ntmps164
  go_wp2
  go_loopg [5, 6, 7] 999999 (fun m lt mt _ wr => ∃ l h : Nat, h - l = m ∧ l ≤ h ∧ h ≤ 999999 ∧ lt = .int .i64 l ∧ mt = .int .i64 h ∧ Hid (b * l ≤ a) ∧ Hid (h = 999999 ∨ a < b * (h + 1)) ∧ Ext w wr)
  case atStart => exact ⟨0, 999999, rfl, by omega, Nat.le_refl _, rfl, rfl, Lib.hid (by rw [Nat.mul_zero]; exact Nat.zero_le _), Lib.hid (.inl rfl), Ext.refl _⟩
  case round =>
    obtain ⟨l, h, rfl, hlh, hh, rfl, rfl, hl, hhh, hx⟩ := hrel
    have EX := Lib.hid (hx)
    clear hx
    by_cases h0 : l < h
    · obtain ⟨m, hm⟩ : ∃ m, m = (l + h + 1) / 2 := ⟨_, rfl⟩
      have hm1 : l < m ∧ m ≤ h := by omega
      have hmi : ((l : Int) + (h : Int) + 1) / 2 = (m : Int) := by omega
      clear hm
      go_wp2_with fail
      refine (times_ok A2 n2 c2 b m _ (H2.out.keep EX.out) hn2 (by omega)).mono ?_
      rintro e w1 ⟨A3, n3, c3, rfl, h3, hx1, _⟩
      have EX1 := Lib.hid (EX.out.tr hx1)
      have hn3 : n3 ≤ n2 + 1 := h3.lenOf (by
        have := (H2.out).lt_pow
        rw [Nat.pow_succ]
        exact Nat.lt_of_lt_of_le (Nat.mul_lt_mul_of_lt_of_le this (show m ≤ G6 by rw [G6_eq]; omega) G6_pos) (Nat.le_refl _))
      have H3 := Lib.hid h3
      clear h3 hx1
      go_wp2_with fail
      refine (rCmp_ok A3 A1 n3 c3 n1 c1 (b * m) a _ H3.out (H1.out.keep EX1.out) (by omega)).mono ?_
      rintro e w2 ⟨rfl, hx2⟩
      have EX2 := Lib.hid (EX1.out.tr hx2)
      clear hx2 H3
      by_cases hc : b * m ≤ a
      · have hcm : cmpI (b * m) a ≤ 0 := by unfold cmpI; split <;> (try split) <;> omega
        have hb : decide (cmpI (b * m) a ≤ 0) = true := by simpa using hcm
        have HC := Lib.hid (hc)
        clear hc hcm
        go_wp2
        go_roundg (h - m)
        case measure => omega
        case rel => exact ⟨m, h, rfl, by omega, hh, rfl, rfl, HC, hhh, EX2.out⟩
      · have hcm : ¬ cmpI (b * m) a ≤ 0 := by unfold cmpI; rw [if_neg (by omega), if_neg (by omega)]; decide
        have hb : decide (cmpI (b * m) a ≤ 0) = false := by simpa using hcm
        have HC := Lib.hid (hc)
        clear hc hcm
        go_wp2
        go_roundg (m - 1 - l)
        case measure => omega
        case rel => exact ⟨l, m - 1, rfl, by omega, by omega, rfl, by go_num, hl, Lib.hid (.inr (by rw [show m - 1 + 1 = m by omega]; have := HC.out; omega)), EX2.out⟩
    · obtain rfl : l = h := by omega
      go_wp2
      go_ret
      exact ⟨l, rfl, hh, hl.out, hhh.out, EX.out⟩
end Go.Proofs.YtekiomanidimnaaGreatDoor


namespace Go.Proofs.YtekiomanidimnaaGreatDoor
open Go.RowKit
/-- Block g begins with n integers, by their index. -/
def IRow (w : World) (g n : Nat) (f : Nat → Int) : Prop := ∃ cur : Array Value, w.heap[g]? = some (.cells cur 3 (0, 0)) ∧ ∀ j, j < n → cur[j]? = some (.int .i64 (f j))
section
variable {w w' : World} {g n : Nat} {f f' : Nat → Int}
theorem IRow.lt (h : IRow w g n f) : g < w.heap.size := by
  obtain ⟨cur, h1, _⟩ := h
  exact lt_of_get h1
theorem IRow.cell (h : IRow w g n f) {j : Nat} (hj : j < n) : w.cell? ⟨g, j, none⟩ = some (.int .i64 (f j)) := by
  obtain ⟨cur, h1, h2⟩ := h
  rw [cell_of_row w g j cur _ (0, 0) h1, h2 j hj]
theorem IRow.frozen (h : IRow w g n f) (j : Nat) : w.frozen? ⟨g, j, none⟩ = false := by
  obtain ⟨cur, h1, h2⟩ := h
  simp [World.frozen?, h1]
theorem IRow.keep (h : IRow w g n f) (hx : Ext w w') : IRow w' g n f := by
  have hl := h.lt
  obtain ⟨cur, h1, h2⟩ := h
  exact ⟨cur, (hx.block g hl).trans h1, h2⟩
theorem IRow.drewN (h : IRow w g n f) (k : Nat) : IRow (w.drewN k) g n f := h
theorem IRow.congr (h : IRow w g n f) (hf : ∀ j, j < n → f j = f' j) : IRow w g n f' := by
  obtain ⟨cur, h1, h2⟩ := h
  exact ⟨cur, h1, fun j hj => by rw [h2 j hj, hf j hj]⟩
theorem IRow.set_ (h : IRow w g n f) (i : Nat) (v : Int) : IRow (w.setCell ⟨g, i, none⟩ (.int .i64 v)) g n (fun j => if j = i then v else f j) := by
  obtain ⟨cur, h1, h2⟩ := h
  refine ⟨cur.setIfInBounds i (.int .i64 v), ?_, fun j hj => ?_⟩
  · simp [World.setCell, Array.getElem?_modify, h1]
  · have h3 := h2 j hj
    have hlt := (Array.getElem?_eq_some_iff.1 h3).1
    by_cases e : j = i
    · subst e; simp [hlt]
    · rw [Array.getElem?_setIfInBounds_ne (fun h => e h.symm), h3]; simp only [if_neg e]
theorem IRow.rd (h : IRow w g n f) {l : List Nat} (hl : l.length = n) (hf : ∀ j, j < n → f j = ((l[j]?.getD 0 : Nat) : Int)) : Rd w (some ⟨g, 0, none⟩) (ints l) := fun _ => by
  refine ⟨g, 0, rfl, h.lt, fun i hi => ?_⟩
  rw [ints_length, hl] at hi
  rw [Nat.zero_add, h.cell hi, hf i hi]
  simp [ints, show i < l.length by omega]
end
theorem IRow.of_blk {w : World} {g n : Nat} {cs : Array Value} {f : Nat → Int} (h : Blk w g 3 cs) (hf : ∀ j, j < n → cs[j]? = some (.int .i64 (f j))) : IRow w g n f := ⟨cs, h, hf⟩
theorem OI.irow {w : World} {B : Nat} {v : Value} {l : List Nat} (h : OI w B v l) (hl : 0 < l.length) : ∃ g c, v = .slice (some ⟨g, 0, none⟩) l.length c ∧ l.length ≤ c ∧ B ≤ g ∧ IRow w g l.length (fun j => ((l[j]?.getD 0 : Nat) : Int)) := by
  have hb := fun k hk => h.lt k hk
  rcases h.2 with ⟨h1, h2⟩ | ⟨g, cap, cur, h2, h3, h4, h5, h6, h7, h8⟩
  · omega
  · refine ⟨g, cap, h2, h5, h3, cur, h4, fun j hj => ?_⟩
    have hlen : (ints l).length = l.length := ints_length l
    rw [Nat.mul_one] at h8
    have h9 : (ints l)[j]? = cur[j]? := by
      rw [← h8, List.getElem?_take, if_pos hj]; simp
    rw [← h9]
    simp [ints, hj]
/-- A subtraction's state: digits that are done, and a borrow. -/
structure SubSt (xs ys : List Nat) (i : Nat) (r : List Nat) (β : Nat) : Prop where
  len : r.length = i
  lt : ∀ d ∈ r, d < G6
  b1 : β ≤ 1
  val : Dig.val G6 (xs.take i) + G6 ^ i * β = Dig.val G6 r + Dig.val G6 (ys.take i)
theorem SubSt.step {xs ys r : List Nat} {i β d β' : Nat} (h : SubSt xs ys i r β) (hd : d < G6) (hb : β' ≤ 1) (he : xs[i]?.getD 0 + G6 * β' = β + d + ys[i]?.getD 0) : SubSt xs ys (i + 1) (r ++ [d]) β' := by
  refine ⟨by rw [List.length_append, h.len]; rfl, fun x hx => ?_, hb, ?_⟩
  · rcases List.mem_append.1 hx with h1 | h1
    · exact h.lt x h1
    · simp at h1; subst h1; exact hd
  · rw [val_take_next, val_take_next, Dig.val_snoc, h.len, Nat.pow_succ]
    have h1 := h.val
    have h2 : G6 ^ i * (xs[i]?.getD 0 + G6 * β') = G6 ^ i * (β + d + ys[i]?.getD 0) := by rw [he]
    rw [Nat.mul_add, Nat.mul_add, Nat.mul_add, ← Nat.mul_assoc] at h2
    omega
theorem SubSt.done {xs ys r : List Nat} {n β : Nat} (h : SubSt xs ys n r β) (hx : xs.length ≤ n) (hy : ys.length ≤ n) (hle : Dig.val G6 ys ≤ Dig.val G6 xs) : β = 0 ∧ Dig.val G6 r = Dig.val G6 xs - Dig.val G6 ys := by
  have h1 := h.val
  rw [List.take_of_length_le hx, List.take_of_length_le hy] at h1
  have h2 := Dig.val_lt G6_pos h.lt
  rw [h.len] at h2
  have h3 := h.b1
  rcases Nat.eq_zero_or_pos β with h0 | h0
  · subst h0; exact ⟨rfl, by rw [Nat.mul_zero] at h1; omega⟩
  · obtain rfl : β = 1 := by omega
    rw [Nat.mul_one] at h1
    omega
/-- The row at the beginning of round i. -/
def subF (xs r : List Nat) (i β : Nat) (j : Nat) : Int := if j < i then ((r[j]?.getD 0 : Nat) : Int) else if j = i then ((xs[j]?.getD 0 : Nat) : Int) - β else ((xs[j]?.getD 0 : Nat) : Int)
end Go.Proofs.YtekiomanidimnaaGreatDoor


namespace Go.Proofs.YtekiomanidimnaaGreatDoor
open Go.RowKit
theorem subF_a {xs r : List Nat} {i β d n : Nat} (hr : r.length = i) : ∀ j, j < n → (if j = i then ((d : Nat) : Int) else subF xs r i β j) = subF xs (r ++ [d]) (i + 1) 0 j := by
  intro j _
  unfold subF
  by_cases h1 : j = i
  · subst h1
    rw [if_pos rfl, if_pos (by omega), List.getElem?_append_right (by omega), hr]
    simp
  · by_cases h2 : j < i
    · rw [if_neg h1, if_pos h2, if_pos (by omega), List.getElem?_append_left (by omega)]
    · rw [if_neg h1, if_neg h2, if_neg h1, if_neg (by omega)]
      split <;> simp
theorem subF_b {xs r : List Nat} {i β d n : Nat} (hr : r.length = i) : ∀ j, j < n → (if j = i + 1 then ((xs[i + 1]?.getD 0 : Nat) : Int) - 1 else if j = i then ((d : Nat) : Int) else subF xs r i β j) = subF xs (r ++ [d]) (i + 1) 1 j := by
  intro j hj
  by_cases h1 : j = i + 1
  · subst h1
    unfold subF
    rw [if_pos rfl, if_neg (by omega), if_pos rfl]
    rfl
  · rw [if_neg h1, subF_a hr j hj]
    unfold subF
    by_cases h2 : j < i + 1
    · rw [if_pos h2, if_pos h2]
    · rw [if_neg h2, if_neg h2, if_neg h1, if_neg h1]
theorem sub_neg {W : World} {g n i β d : Nat} {xs r : List Nat} {f : Nat → Int} {z : Nat} (h : IRow W g n f) (hf : ∀ j, j ≠ i → f j = subF xs r i β j) (hr : r.length = i) (hi : i + 1 < n) (hz : z = xs[i + 1]?.getD 0) (v2 : Int) (hv : v2 = ((d : Nat) : Int)) :
    (W.setCell ⟨g, i, none⟩ (.int .i64 v2)).cell? ⟨g, i + 1, none⟩ = some (.int .i64 (z : Int)) ∧ (W.setCell ⟨g, i, none⟩ (.int .i64 v2)).frozen? ⟨g, i + 1, none⟩ = false ∧
    IRow ((W.setCell ⟨g, i, none⟩ (.int .i64 v2)).setCell ⟨g, i + 1, none⟩ (.int .i64 ((z : Int) - 1))) g n (subF xs (r ++ [d]) (i + 1) 1) := by
  have h2 := h.set_ i v2
  refine ⟨?_, h2.frozen _, ?_⟩
  · rw [h2.cell hi]
    simp only [if_neg (show ¬ i + 1 = i by omega)]
    rw [hf (i + 1) (by omega), hz]
    unfold subF
    rw [if_neg (by omega), if_neg (by omega)]
  · refine (h2.set_ (i + 1) ((z : Int) - 1)).congr (fun j hj => ?_)
    rw [← subF_b (β := β) hr j hj]
    by_cases h1 : j = i + 1
    · rw [if_pos h1, if_pos h1, hz]
    · rw [if_neg h1, if_neg h1]
      by_cases h3 : j = i
      · rw [if_pos h3, if_pos h3, hv]
      · rw [if_neg h3, if_neg h3, hf j h3]
set_option maxRecDepth 100000 in
set_option maxHeartbeats 4000000 in
theorem rSub_ok (A1 A2 : Option Addr) (n1 c1 n2 c2 a b : Nat) (w : World) (h1 : GrpR w A1 n1 c1 a) (h2 : GrpR w A2 n2 c2 b) (hn : n1 ≤ 100000000) (hle : b ≤ a) :
    Calls Tryz.prog 137 #[.slice A1 n1 c1, .slice A2 n2 c2] w fun e w' => ∃ (A : Option Addr) (n c : Nat), e = .returned (.tuple #[.slice A n c, .int .i64 0]) ∧ GrpR w' A n c (a - b) ∧ Ext w w' := by
  obtain ⟨ti, hi, hz0, hz1, hz2⟩ := info_parts Tryz.info3
  have H1 := Lib.hid (h1)
  have H2 := Lib.hid (h2)
  obtain ⟨xs, hxl, hc1, hcx, hxv, hr1⟩ := h1
  obtain ⟨ys, hyl, hc2, hcy, hyv, hr2⟩ := h2
  have hlen : ys.length ≤ xs.length := by
    rcases Nat.lt_or_ge xs.length ys.length with h | h
    · have := Dig.Canon.len_lt G6_gt hcx hcy h; omega
    · exact h
  have HA := Lib.hid (show A1 = none → n1 = 0 from fun h => by
    rcases Nat.eq_zero_or_pos n1 with h0 | h0
    · exact h0
    · obtain ⟨b, o, e, _⟩ := hr1.rd.ints (k := 0) (by omega)
      rw [h] at e; cases e)
  have HX := Lib.hid (And.intro hxl (And.intro hcx.lt (And.intro hxv hr1.rd)))
  have HY := Lib.hid (And.intro hyl (And.intro hcy.lt (And.intro hyv hr2.rd)))
  have hn2 : n2 ≤ n1 := by omega
  clear hxl hcx hxv hr1 hyl hcy hyv hr2 hlen
  go_enter Tryz.func137, Tryz.ntmps137
  go_wp2_with fail
  refine (rCmp_ok A1 A2 n1 c1 n2 c2 a b _ H1.out H2.out (by omega)).mono ?_
  rintro e w1 ⟨rfl, x1⟩
  have hcm : ¬ cmpI a b < 0 := by unfold cmpI; rw [if_neg (by omega)]; split <;> decide
  have hb : decide (cmpI a b < 0) = false := by simpa using hcm
  have X1 := Lib.hid (x1)
  clear hcm x1
  go_wp2_with (at_builtin; go_must (refine wpList_append_rd2 _ rfl (.tmp 12) (.tmp 13) 39 49 rfl w1.heap.size 3 ti (.int .i64 0) 8 3 Tryz.underlying49 Tryz.underlying39 hi hz0 hz1 hz2 rfl (.slice (some ⟨w1.heap.size, 0, none⟩) 0 0) 0 [] rfl ?c0 A1 n1 c1 (ints xs) rfl ?c1 ?c2 ?c3 (ints_one _) ?c4 ?c5 ?c6 ?_))
  case c0 => exact ownsRow_fresh w1 w1.heap.size 3 (Nat.le_refl _)
  case c1 => rw [ints_length]; exact HX.out.1.symm
  case c2 => exact (HX.out.2.2.2.keep X1.out).keep ((Ext.refl _).alloc _)
  case c3 => exact fun h => .inr (HA.out h)
  case c4 => unfold maxLen; omega
  case c5 => omega
  case c6 => simp
  intro v3 w3 hown3 hgrow3 _
  have e3 : Ext w1 w3 := Below.grown ((Ext.refl w1).alloc (.cells #[] 3)) hgrow3 (by simp) (fun k hk => by simp [Value.ownBlock] at hk; omega)
  have OW := Lib.hid (show OI w3 w1.heap.size v3 xs by unfold OI; rw [HX.out.1]; simpa using hown3)
  have E3 := Lib.hid (X1.out.tr e3)
  clear hown3 hgrow3 e3
  by_cases h0 : n1 = 0
  · subst h0
    obtain rfl : xs = [] := List.eq_nil_of_length_eq_zero HX.out.1
    obtain rfl : ys = [] := List.eq_nil_of_length_eq_zero (by have := HY.out.1; omega)
    obtain ⟨A3, c3, rfl, hc3, hr3⟩ := OW.out.rdT
    have hab : Dig.val G6 [] = a - b := by rw [← HX.out.2.2.1, ← HY.out.2.2.1]; rfl
    have HAB := Lib.hid (hab)
    have R3 := Lib.hid (hr3.rd)
    clear hab hr3 OW
    rw [show ([] : List Nat).length = 0 from rfl] at *
    go_wp2
    go_loopg [7] 0 (fun k it wr => it = .int .i64 0 ∧ wr = w3)
    case atStart => exact ⟨rfl, rfl⟩
    case round =>
      obtain ⟨rfl, rfl⟩ := hrel
      go_wp2_with fail
      refine (without_ok' A3 0 c3 [] rfl _ R3.out hc3 (fun _ h => by cases h) (by omega)).mono ?_
      rintro e w5 ⟨A5, n5, c5, rfl, h5, x5, _⟩
      rw [HAB.out] at h5
      have F := Lib.hid (And.intro h5 (E3.out.tr x5))
      clear h5 x5
      go_wp2
      exact bodyPost_ret (v := .tuple #[.slice A5 n5 c5, .int .i64 0]) (by simp [results, Tryz.results137, go_sem]) rfl ⟨_, _, _, rfl, F.out.1, F.out.2⟩
  · obtain ⟨g, c3, rfl, hc3, hg, hrow⟩ := OW.out.irow (by rw [HX.out.1]; omega)
    rw [HX.out.1] at hc3 hrow
    have hgw : w.heap.size ≤ g := Nat.le_trans X1.out.size hg
    rw [HX.out.1]
    have S0 := Lib.hid (show SubSt xs ys 0 [] 0 from ⟨rfl, (fun _ h => by cases h), by omega, by simp [Dig.val]⟩)
    have R0 := Lib.hid (show IRow w3 g n1 (subF xs [] 0 0) from hrow.congr (fun j _ => by unfold subF; rw [if_neg (by omega)]; split <;> simp))
    clear hrow OW hg
    go_wp2
    go_loopg [7] n1 (fun k it wr => ∃ (i : Nat) (r : List Nat) (β : Nat), n1 - i = k ∧ i ≤ n1 ∧ it = .int .i64 i ∧ Hid (SubSt xs ys i r β) ∧ Hid (IRow wr g n1 (subF xs r i β)) ∧ Hid (Ext w wr))
    case atStart => exact ⟨0, [], 0, rfl, Nat.zero_le _, rfl, S0, R0, E3⟩
    case round =>
      obtain ⟨i, r, β, rfl, hik, rfl, ST, RW, EW⟩ := hrel
      clear S0 R0 E3
      by_cases hin : i < n1
      · obtain ⟨x, hx⟩ : ∃ x, x = xs[i]?.getD 0 := ⟨_, rfl⟩
        obtain ⟨y, hy⟩ : ∃ y, y = ys[i]?.getD 0 := ⟨_, rfl⟩
        have hxb : x < 1000000 := by
          rw [hx, List.getElem?_eq_getElem (by rw [HX.out.1]; exact hin)]
          exact HX.out.2.1 _ (List.getElem_mem _)
        have hyb : y < 1000000 := by
          rw [hy]
          rcases Nat.lt_or_ge i ys.length with h | h
          · rw [List.getElem?_eq_getElem h]; exact HY.out.2.1 _ (List.getElem_mem _)
          · rw [List.getElem?_eq_none h]; decide
        have hβ := ST.out.b1
        have k0 := RW.out.cell (j := i) hin
        have f0 := RW.out.frozen i
        rw [show subF xs r i β i = (x : Int) - (β : Int) from by unfold subF; rw [if_neg (by omega), if_pos rfl, hx]] at k0
        have SX := Lib.hid hx
        have SY := Lib.hid hy
        clear hx hy
        by_cases hyl : i < n2
        · obtain ⟨bb, oo, rfl, hbb, hcell⟩ := HY.out.2.2.2.ints (k := i) (by rw [HY.out.1]; exact hyl)
          have k1 := EW.out.cell (p := ⟨bb, oo + i, none⟩) hbb
          rw [hcell i (by rw [HY.out.1]; exact hyl), ← SY.out] at k1
          clear hcell hbb
          have RW1 := Lib.hid (RW.out.set_ i ((x : Int) - (β : Int) - (y : Int)))
          have k2 := RW1.out.cell (j := i) hin
          have f2 := RW1.out.frozen i
          simp only [if_true] at k2
          by_cases hd : y + β ≤ x
          · have hnn : decide ((x : Int) - (β : Int) - (y : Int) < 0) = false := by simp; omega
            have SD := Lib.hid (ST.out.step (d := x - β - y) (β' := 0) (by rw [G6_eq]; omega) (by omega) (by rw [← SX.out, ← SY.out]; omega))
            have RD := Lib.hid (show IRow ((wr.setCell ⟨g, i, none⟩ (.int .i64 ((x : Int) - (β : Int) - (y : Int)))).drewN 1) g n1 (subF xs (r ++ [x - β - y]) (i + 1) 0) from by
              refine (RW1.out.congr (fun j hj => ?_)).drewN 1
              rw [← subF_a (β := β) ST.out.len j hj, show ((x - β - y : Nat) : Int) = (x : Int) - (β : Int) - (y : Int) by omega])
            go_wp2
            go_region
            all_goals go_wp2
            go_roundg (n1 - (i + 1))
            case measure => omega
            case rel => exact ⟨i + 1, r ++ [x - β - y], 0, rfl, by omega, by go_num, SD, RD, Lib.hid ((EW.out.set_ (p := ⟨g, i, none⟩) hgw _).drewN 1)⟩
          · have hnn : decide ((x : Int) - (β : Int) - (y : Int) < 0) = true := by simp; omega
            have SD := Lib.hid (ST.out.step (d := x + 1000000 - β - y) (β' := 1) (by rw [G6_eq]; omega) (by omega) (by rw [← SX.out, ← SY.out, G6_eq]; omega))
            have hi1 : i + 1 < n1 := by
              rcases Nat.lt_or_ge (i + 1) n1 with h | h
              · exact h
              · have hh : i + 1 = n1 := by omega
                have hs := SD.out
                rw [hh] at hs
                have := (hs.done (by rw [HX.out.1]; omega) (by rw [HY.out.1]; exact hn2) (by rw [HX.out.2.2.1, HY.out.2.2.1]; exact hle)).1
                omega
            obtain ⟨z, hz⟩ : ∃ z, z = xs[i + 1]?.getD 0 := ⟨_, rfl⟩
            have hzb : z < 1000000 := by
              rw [hz, List.getElem?_eq_getElem (by rw [HX.out.1]; exact hi1)]
              exact HX.out.2.1 _ (List.getElem_mem _)
            have RX := Lib.hid (And.intro (show IRow (wr.setCell ⟨g, i, none⟩ (.int .i64 ((x : Int) - (β : Int) - (y : Int)))).drew g n1 _ from RW1.out.drewN 1) (show ∀ j, j ≠ i → (if j = i then (x : Int) - (β : Int) - (y : Int) else subF xs r i β j) = subF xs r i β j from fun j hj => if_neg hj))
            have EX := Lib.hid (show Ext w (wr.setCell ⟨g, i, none⟩ (.int .i64 ((x : Int) - (β : Int) - (y : Int)))).drew from (EW.out.set_ (p := ⟨g, i, none⟩) hgw _).drewN 1)
            have kk2 : (wr.setCell ⟨g, i, none⟩ (.int .i64 ((x : Int) - (β : Int) - (y : Int)))).drew.cell? ⟨g, i, none⟩ = some (.int .i64 ((x : Int) - (β : Int) - (y : Int))) := k2
            have ff2 : (wr.setCell ⟨g, i, none⟩ (.int .i64 ((x : Int) - (β : Int) - (y : Int)))).drew.frozen? ⟨g, i, none⟩ = false := f2
            clear k2 f2
            go_wp2
            go_region
            generalize (wr.setCell ⟨g, i, none⟩ (.int .i64 ((x : Int) - (β : Int) - (y : Int)))).drew = W1 at *
            obtain ⟨k3, f3, hfin⟩ := sub_neg RX.out.1 RX.out.2 ST.out.len hi1 hz (((x : Int) - (β : Int) - (y : Int)) + 1000000) (d := x + 1000000 - β - y) (by omega)
            have RF := Lib.hid hfin
            have EF := Lib.hid ((EX.out.set_ (p := ⟨g, i, none⟩) hgw (.int .i64 (((x : Int) - (β : Int) - (y : Int)) + 1000000))).set_ (p := ⟨g, i + 1, none⟩) hgw (.int .i64 ((z : Int) - 1)))
            clear hz hfin
            go_wp2
            go_roundg (n1 - (i + 1))
            case measure => omega
            case rel => exact ⟨i + 1, r ++ [x + 1000000 - β - y], 1, rfl, by omega, by go_num, SD, RF, EF⟩
        · obtain rfl : y = 0 := by rw [SY.out, List.getElem?_eq_none (by rw [HY.out.1]; omega)]; rfl
          by_cases hd : β ≤ x
          · have hnn : decide ((x : Int) - (β : Int) < 0) = false := by simp; omega
            have SD := Lib.hid (ST.out.step (d := x - β) (β' := 0) (by rw [G6_eq]; omega) (by omega) (by rw [← SX.out, ← SY.out]; omega))
            have RD := Lib.hid (show IRow wr g n1 (subF xs (r ++ [x - β]) (i + 1) 0) from by
              refine RW.out.congr (fun j hj => ?_)
              rw [← subF_a (β := β) ST.out.len j hj]
              by_cases e : j = i
              · rw [if_pos e, e]; unfold subF; rw [if_neg (by omega), if_pos rfl, ← SX.out]; omega
              · rw [if_neg e])
            go_wp2
            go_roundg (n1 - (i + 1))
            case measure => omega
            case rel => exact ⟨i + 1, r ++ [x - β], 0, rfl, by omega, by go_num, SD, RD, EW⟩
          · have hnn : decide ((x : Int) - (β : Int) < 0) = true := by simp; omega
            have SD := Lib.hid (ST.out.step (d := x + 1000000 - β) (β' := 1) (by rw [G6_eq]; omega) (by omega) (by rw [← SX.out, ← SY.out, G6_eq]; omega))
            have hi1 : i + 1 < n1 := by
              rcases Nat.lt_or_ge (i + 1) n1 with h | h
              · exact h
              · have hh : i + 1 = n1 := by omega
                have hs := SD.out
                rw [hh] at hs
                have := (hs.done (by rw [HX.out.1]; omega) (by rw [HY.out.1]; exact hn2) (by rw [HX.out.2.2.1, HY.out.2.2.1]; exact hle)).1
                omega
            obtain ⟨z, hz⟩ : ∃ z, z = xs[i + 1]?.getD 0 := ⟨_, rfl⟩
            have hzb : z < 1000000 := by
              rw [hz, List.getElem?_eq_getElem (by rw [HX.out.1]; exact hi1)]
              exact HX.out.2.1 _ (List.getElem_mem _)
            have RX := Lib.hid (And.intro RW.out (show ∀ j, j ≠ i → subF xs r i β j = subF xs r i β j from fun j hj => rfl))
            have EX := EW
            obtain ⟨k3, f3, hfin⟩ := sub_neg RX.out.1 RX.out.2 ST.out.len hi1 hz (((x : Int) - (β : Int)) + 1000000) (d := x + 1000000 - β) (by omega)
            have RF := Lib.hid hfin
            have EF := Lib.hid ((EX.out.set_ (p := ⟨g, i, none⟩) hgw (.int .i64 (((x : Int) - (β : Int)) + 1000000))).set_ (p := ⟨g, i + 1, none⟩) hgw (.int .i64 ((z : Int) - 1)))
            clear hz hfin
            go_wp2
            go_roundg (n1 - (i + 1))
            case measure => omega
            case rel => exact ⟨i + 1, r ++ [x + 1000000 - β], 1, rfl, by omega, by go_num, SD, RF, EF⟩
      · obtain rfl : i = n1 := by omega
        obtain ⟨hβ0, hval⟩ := ST.out.done (by rw [HX.out.1]; omega) (by rw [HY.out.1]; exact hn2) (by rw [HX.out.2.2.1, HY.out.2.2.1]; exact hle)
        have VV := Lib.hid (show Dig.val G6 r = a - b by rw [hval, HX.out.2.2.1, HY.out.2.2.1])
        have RR := Lib.hid (RW.out.rd (l := r) ST.out.len (fun j hj => by unfold subF; rw [if_pos hj]))
        clear hval hβ0
        go_wp2_with fail
        refine (without_ok' (some ⟨g, 0, none⟩) i c3 r ST.out.len _ RR.out hc3 ST.out.lt (by omega)).mono ?_
        rintro e w5 ⟨A5, n5, c5, rfl, h5, x5, _⟩
        rw [VV.out] at h5
        have F := Lib.hid (And.intro h5 (EW.out.tr x5))
        clear h5 x5
        go_wp2
        exact bodyPost_ret (v := .tuple #[.slice A5 n5 c5, .int .i64 0]) (by simp [results, Tryz.results137, go_sem]) rfl ⟨_, _, _, rfl, F.out.1, F.out.2⟩
end Go.Proofs.YtekiomanidimnaaGreatDoor


namespace Go.Proofs.YtekiomanidimnaaGreatDoor
open Go.RowKit
def RDivPost (w : World) (q r : Nat) (e : Ending) (w' : World) : Prop :=
  ∃ (A : Option Addr) (n c : Nat) (A' : Option Addr) (n' c' : Nat), e = .returned (.tuple #[.slice A n c, .slice A' n' c', .int .i64 0]) ∧ GrpR w' A n c q ∧ GrpR w' A' n' c' r ∧ Ext w w'
/-- .., and the quotient is new. -/
def RDivPostF (w : World) (q r : Nat) (e : Ending) (w' : World) : Prop :=
  ∃ (A : Option Addr) (n c : Nat) (A' : Option Addr) (n' c' : Nat), e = .returned (.tuple #[.slice A n c, .slice A' n' c', .int .i64 0]) ∧ GrpR w' A n c q ∧ GrpR w' A' n' c' r ∧ Ext w w' ∧ ∀ ad, A = some ad → w.heap.size ≤ ad.block
theorem GrpR.far {w : World} {A : Option Addr} {n c N : Nat} (h : GrpR w A n c N) {p : Addr} (hA : ∀ ad, A = some ad → ad.block ≠ p.block) (u : Value) : GrpR (w.setCell p u) A n c N := by
  obtain ⟨ds, h1, h2, h3, h4, h5⟩ := h
  refine ⟨ds, h1, h2, h3, h4, fun hx => ?_⟩
  obtain ⟨b, o, cs, fr, e, hb, hc⟩ := h5 hx
  exact ⟨b, o, cs, fr, e, (Below.heap_setCell w p u b (hA _ e)).trans hb, hc⟩
/-- The quotient's row, of which the groups from k on are known. -/
def divF (qd : List Nat) (k : Nat) (j : Nat) : Int := if k ≤ j then ((qd[j - k]?.getD 0 : Nat) : Int) else 0
theorem divF_step {qd : List Nat} {k q n : Nat} (hk : 0 < k) : ∀ j, j < n → (if j = k - 1 then ((q : Nat) : Int) else divF qd k j) = divF (q :: qd) (k - 1) j := by
  intro j _
  unfold divF
  by_cases h1 : j = k - 1
  · subst h1; simp
  · rw [if_neg h1]
    by_cases h2 : k ≤ j
    · rw [if_pos h2, if_pos (by omega), show j - (k - 1) = (j - k) + 1 by omega]; simp
    · rw [if_neg h2, if_neg (by omega)]
structure LongSt (ds : List Nat) (b n k R : Nat) (qd : List Nat) : Prop where
  len : qd.length = n - k
  lt : ∀ d ∈ qd, d < G6
  val : Dig.val G6 (ds.drop k) = b * Dig.val G6 qd + R
  R : R < b
theorem LongSt.step {ds qd : List Nat} {b n k R x q : Nat} (h : LongSt ds b n k R qd) (hk : 0 < k) (hkn : k ≤ n) (hn : ds.length = n) (hx : x = ds[k - 1]?.getD 0) (hxb : x < G6) (hq : q ≤ 999999) (h1 : b * q ≤ x + G6 * R) (h2 : q = 999999 ∨ x + G6 * R < b * (q + 1)) :
    LongSt ds b n (k - 1) (x + G6 * R - b * q) (q :: qd) := by
  have hR := h.R
  have key : x + G6 * R < b * (q + 1) := by
    rcases h2 with h3 | h3
    · subst h3
      have : G6 * R + G6 ≤ b * G6 := by
        rw [Nat.mul_comm b G6, ← Nat.mul_succ]; exact Nat.mul_le_mul_left _ hR
      rw [show 999999 + 1 = G6 from rfl]
      omega
    · exact h3
  refine ⟨by rw [List.length_cons, h.len]; omega, fun d hd => ?_, ?_, ?_⟩
  · rcases List.mem_cons.1 hd with e | e
    · rw [e, G6_eq]; omega
    · exact h.lt d e
  · rw [drop_next ds (k - 1) (by omega), ← hx, show k - 1 + 1 = k by omega, h.val, Dig.val_cons, Nat.mul_add, Nat.mul_add, ← Nat.mul_assoc, ← Nat.mul_assoc, Nat.mul_comm G6 b]
    omega
  · rw [Nat.mul_add] at key; omega
set_option maxRecDepth 100000 in
set_option maxHeartbeats 4000000 in
theorem rDivMod_fr (A1 A2 : Option Addr) (n1 c1 n2 c2 a b : Nat) (w : World) (h1 : GrpR w A1 n1 c1 a) (h2 : GrpR w A2 n2 c2 b) (hn1 : n1 ≤ 10000000) (hn2 : n2 ≤ 1000000) (hb0 : 0 < b) :
    Calls Tryz.prog 143 #[.slice A1 n1 c1, .slice A2 n2 c2] w (RDivPostF w (a / b) (a % b)) := by
  obtain ⟨ti, hi, hz0, hz1, hz2⟩ := info_parts Tryz.info3
  have z2 : ((n2 : Int) == 0) = false := by
    have := h2.eq_zero
    exact beq_eq_false_iff_ne.2 (by omega)
  have H1 := Lib.hid (h1)
  have H2 := Lib.hid (h2)
  clear h1 h2
  go_enter Tryz.func143, Tryz.ntmps143
  go_wp2_with fail
  refine (rUint_ok A1 n1 c1 a _ H1.out (by omega)).mono ?_
  rintro e w1 ⟨x, ok1, rfl, hx1, x1⟩
  have X1 := Lib.hid (x1)
  clear x1
  go_wp2_with fail
  refine (rUint_ok A2 n2 c2 b _ (H2.out.keep X1.out) (by omega)).mono ?_
  rintro e w2 ⟨y, ok2, rfl, hx2, x2⟩
  have X2 := Lib.hid (X1.out.tr x2)
  clear x2 X1
  by_cases hs : a < U64 ∧ b < U64
  · obtain ⟨rfl, rfl⟩ : x = a ∧ ok1 = true := by
      rcases hx1 with ⟨_, h1, h2⟩ | ⟨h, _⟩
      · exact ⟨h1, h2⟩
      · omega
    obtain ⟨rfl, rfl⟩ : y = b ∧ ok2 = true := by
      rcases hx2 with ⟨_, h1, h2⟩ | ⟨h, _⟩
      · exact ⟨h1, h2⟩
      · omega
    clear hx1 hx2
    obtain ⟨Q, hQ⟩ : ∃ Q, Q = x / y := ⟨_, rfl⟩
    obtain ⟨R, hR0⟩ : ∃ R, R = x % y := ⟨_, rfl⟩
    have hdv : (x : Int).tdiv y = (Q : Int) := by rw [Int.tdiv_eq_ediv_of_nonneg (by omega), hQ]; simp
    have hmd : (x : Int).tmod y = (R : Int) := by rw [Int.tmod_eq_emod_of_nonneg (by omega), hR0]; simp
    have hd1 : Q < U64 := Nat.lt_of_le_of_lt (by rw [hQ]; exact Nat.div_le_self _ _) hs.1
    have hm1 : R < U64 := Nat.lt_of_lt_of_le (by rw [hR0]; exact Nat.mod_lt _ hb0) (Nat.le_of_lt hs.2)
    have hbn : ¬ y = 0 := by omega
    have hwr : IntKind.u64.wrap (Q : Int) = (Q : Int) := by rw [IntKind.wrap_u64]; exact Int.emod_eq_of_lt (by omega) (by rw [U64_eq] at hd1; omega)
    have HD := Lib.hid (And.intro hd1 hm1)
    have HQ := Lib.hid (hQ)
    have HR := Lib.hid (hR0)
    clear hQ hR0 hd1 hm1 hs
    go_wp2
    have X2 : Hid (Ext w w2.drew) := X2.out.drewN 1
    have tok : True := trivial
    go_region_held3 (fun _ => True) (trivial) (first
      | (go_at_call 144; have _t := tok; refine (refOf_ok _ _ HD.out.1).mono ?_; rintro e w5 ⟨A5, n5, c5, rfl, hR5, hx5, fr5⟩; clear tok; have FR5 := Lib.hid fr5; clear fr5; have X5 := Lib.hid (X2.out.tr hx5))
      | (go_at_call 144; refine (refOf_ok _ _ HD.out.2).mono ?_; rintro e w6 ⟨A6, n6, c6, rfl, hR6, hx6, _⟩; have X6 := Lib.hid (X5.out.tr hx6)))
    go_wp2
    have e1 : GrpR w6 A5 n5 c5 (x / y) := by have := hR5.keep hx6; rw [← HQ.out]; exact this
    have e2 : GrpR w6 A6 n6 c6 (x % y) := by rw [← HR.out]; exact hR6
    exact bodyPost_ret (v := .tuple #[.slice A5 n5 c5, .slice A6 n6 c6, .int .i64 0]) (by simp [results, Tryz.results143, go_sem]) rfl ⟨_, _, _, _, _, _, rfl, e1, e2, X6.out, fun ad h => Nat.le_trans X2.out.size (FR5.out ad h)⟩
  · obtain ⟨ds, hdl, hc1, hcan, hdv, hr1⟩ := H1.out
    have DS := Lib.hid (And.intro hdl (And.intro hcan.lt (And.intro hdv hr1.rd)))
    clear hdl hcan hdv hr1
    have hmk := run_make_row' (P := Tryz.prog) 39 3 (.int .i64 0) 8 Tryz.underlying39 Tryz.info3 rfl .i64 .i64 n1 (by omega) (by omega)
    have hok : (ok1 && ok2) = false := by
      rcases hx1 with ⟨g1, _, g2⟩ | ⟨g1, g2⟩
      · rcases hx2 with ⟨g3, _, g4⟩ | ⟨g3, g4⟩
        · exact absurd ⟨g1, g3⟩ hs
        · rw [g4]; simp
      · rw [g2]; rfl
    clear hx1 hx2 hs
    go_upto_region 5 with fail
    go_cut [30] (fun s wx => s = .bool false ∧ wx = w2)
    case first =>
      cases ok1 <;> cases ok2
      · go_wp2
        go_meet
        exact ⟨rfl, rfl⟩
      · go_wp2
        go_meet
        exact ⟨rfl, rfl⟩
      · go_wp2
        go_meet
        exact ⟨rfl, rfl⟩
      · cases hok
    case rest =>
      obtain ⟨rfl, rfl⟩ := hcut
      have hrow : IRow ((wc.alloc (.cells (madeCells #[.int .i64 0] n1) 3)).alloc (.cells #[] 3)) wc.heap.size n1 (divF [] n1) := by
        refine IRow.of_blk ((Blk.new wc 3 (madeCells #[.int .i64 0] n1)).alloc _) (fun j hj => ?_)
        unfold divF
        rw [if_neg (by omega), ← Array.getElem?_toList, toList_madeCells_one]
        simp [hj]
      have R0 := Lib.hid hrow
      have E0 := Lib.hid ((X2.out.alloc (.cells (madeCells #[.int .i64 0] n1) 3)).alloc (.cells #[] 3))
      have G0 := Lib.hid (GrpR.zero ((wc.alloc (.cells (madeCells #[.int .i64 0] n1) 3)).alloc (.cells #[] 3)) (some ⟨wc.heap.size + 1, 0, none⟩) 0)
      have L0 := Lib.hid (show LongSt ds b n1 n1 0 [] from ⟨by simp, (fun _ h => by cases h), by rw [List.drop_of_length_le (by rw [DS.out.1]; omega)]; simp [Dig.val], hb0⟩)
      have hgw : w.heap.size ≤ wc.heap.size := X2.out.size
      generalize hg : wc.heap.size = g at *
      clear hrow
      go_wp2
      go_loopg [12, 13] n1 (fun m rt it wr => ∃ (k R : Nat) (qd : List Nat) (AR : Option Addr) (nR cR : Nat), k = m ∧ k ≤ n1 ∧ it = .int .i64 (k - 1) ∧ rt = .slice AR nR cR ∧ Hid (GrpR wr AR nR cR R) ∧ Hid (IRow wr g n1 (divF qd k)) ∧ Hid (LongSt ds b n1 k R qd) ∧ Hid (Ext w wr))
      case atStart => exact ⟨n1, 0, [], some ⟨g + 1, 0, none⟩, 0, 0, rfl, Nat.le_refl _, by go_num, by simp [hg], G0, R0, L0, E0⟩
      case round =>
        obtain ⟨k, R, qd, AR, nR, cR, rfl, hk, rfl, rfl, GR, RW, LS, EW⟩ := hrel
        clear R0 E0 G0 L0
        by_cases h0 : k = 0
        · subst h0
          have hrd := RW.out.rd (l := qd) (by rw [LS.out.len]; omega) (fun j hj => by unfold divF; rw [if_pos (by omega)]; simp)
          have LV := Lib.hid (show Dig.val G6 qd = a / b ∧ R = a % b from by
            have h1 := LS.out.val
            have h2 := LS.out.R
            rw [List.drop_zero, DS.out.2.2.1] at h1
            rw [h1, Nat.mul_add_div hb0, Nat.div_eq_of_lt h2, Nat.add_zero, Nat.mul_add_mod, Nat.mod_eq_of_lt h2]
            exact ⟨rfl, rfl⟩)
          have RR := Lib.hid (hrd)
          clear hrd
          go_wp2_with fail
          refine (without_ok' (some ⟨g, 0, none⟩) n1 n1 qd (by rw [LS.out.len]; omega) _ RR.out (Nat.le_refl _) LS.out.lt (by omega)).mono ?_
          rintro e w5 ⟨A5, n5, c5, rfl, h5, x5, fr5⟩
          rw [LV.out.1] at h5
          have e2 := GR.out.keep x5
          rw [LV.out.2] at e2
          have F := Lib.hid (And.intro h5 (And.intro e2 (And.intro (EW.out.tr x5) (fun ad h => Nat.le_trans EW.out.size (fr5 ad h)))))
          clear h5 x5 e2 fr5
          go_wp2
          exact bodyPost_ret (v := .tuple #[.slice A5 n5 c5, .slice AR nR cR, .int .i64 0]) (by simp [results, Tryz.results143, go_sem]) rfl ⟨_, _, _, _, _, _, rfl, F.out.1, F.out.2.1, F.out.2.2.1, F.out.2.2.2⟩
        · have hkl : k - 1 < ds.length := by rw [DS.out.1]; omega
          obtain ⟨x, hx⟩ : ∃ x, x = ds[k - 1]?.getD 0 := ⟨_, rfl⟩
          have hxb : x < 1000000 := by
            rw [hx, List.getElem?_eq_getElem hkl]
            exact DS.out.2.1 _ (List.getElem_mem _)
          obtain ⟨bb, oo, hA1, hbb, hcell⟩ := DS.out.2.2.2.ints (k := k - 1) hkl
          subst hA1
          have k1 := EW.out.cell (p := ⟨bb, oo + (k - 1), none⟩) hbb
          rw [hcell (k - 1) hkl, ← hx] at k1
          clear hcell hbb hkl
          have SX := Lib.hid hx
          have i0 : (0 : Int) ≤ (k : Int) - 1 := by omega
          have i3 : ((k : Int) - 1).toNat = k - 1 := by omega
          obtain ⟨rs, hrl, hcR, hrc, hrv, hrr⟩ := GR.out
          have hnR : nR ≤ n2 := GR.out.lenOf (Nat.lt_trans LS.out.R H2.out.lt_pow)
          have RS := Lib.hid (And.intro hrl (And.intro hrc.lt (And.intro hrv hrr.rd)))
          have HA := Lib.hid (show AR = none → nR = 0 from fun h => by
            rcases Nat.eq_zero_or_pos nR with h0 | h0
            · exact h0
            · obtain ⟨b, o, e, _⟩ := hrr.rd.ints (k := 0) (by omega)
              rw [h] at e; cases e)
          clear hrl hrc hrv hrr hx
          go_wp2_with (at_builtin; go_must (refine wpList_append_rd2 _ rfl (.tmp 54) (.tmp 55) 39 49 rfl wr.heap.size 3 ti (.int .i64 0) 8 3 Tryz.underlying49 Tryz.underlying39 hi hz0 hz1 hz2 rfl (.slice (some ⟨wr.heap.size, 0, none⟩) 1 1) 1 [.int .i64 (x : Int)] rfl ?c0 AR nR cR (ints rs) rfl ?c1 ?c2 ?c3 (ints_one _) ?c4 ?c5 ?c6 ?_))
          case c0 => exact ⟨rfl, .inr ⟨wr.heap.size, 1, #[.int .i64 (x : Int)], rfl, Nat.le_refl _, heap_alloc_new wr _, Nat.le_refl _, by unfold maxLen; omega, rfl, rfl⟩⟩
          case c1 => rw [ints_length]; exact RS.out.1.symm
          case c2 => exact RS.out.2.2.2.keep ((Ext.refl _).alloc _)
          case c3 => exact fun h => .inr (HA.out h)
          case c4 => unfold maxLen; omega
          case c5 => omega
          case c6 => simp
          intro v3 w3 hown3 hgrow3 _
          have e3 : Ext wr w3 := Below.grown ((Ext.refl wr).alloc (.cells #[.int .i64 (x : Int)] 3)) hgrow3 (by simp) (fun k hk => by simp [Value.ownBlock] at hk; omega)
          have hown3' : w3.ownsRow wr.heap.size 3 1 v3 (1 + nR) (ints (x :: rs)) := hown3
          obtain ⟨A3, c3, rfl, hc3, hr3⟩ := ownsRow_rdT (l := x :: rs) hown3' (by rw [List.length_cons, RS.out.1]; omega)
          have E3 := Lib.hid (EW.out.tr e3)
          have RW3 := Lib.hid (RW.out.keep e3)
          have hl3 : (x :: rs).length = nR + 1 := by rw [List.length_cons, RS.out.1]
          have R3 := Lib.hid hr3.rd
          rw [hl3] at hc3 ⊢
          clear hown3 hown3' hgrow3 e3 hr3
          go_wp2_with fail
          refine (without_ok' A3 (nR + 1) c3 (x :: rs) hl3 _ R3.out hc3 (fun d hd => by
            rcases List.mem_cons.1 hd with e | e
            · rw [e]; exact hxb
            · exact RS.out.2.1 d e) (by omega)).mono ?_
          rintro e w4 ⟨A4, n4, c4, rfl, h4, x4, fr4⟩
          rw [Dig.val_cons, RS.out.2.2.1] at h4
          have hn4 : n4 ≤ n2 + 1 := h4.lenOf (by
            have h1 := H2.out.lt_pow
            have h2 := LS.out.R
            rw [Nat.pow_succ, Nat.mul_comm (G6 ^ n2)]
            have : G6 * R + G6 ≤ G6 * G6 ^ n2 := by rw [← Nat.mul_succ]; exact Nat.mul_le_mul_left _ (by omega)
            rw [G6_eq] at this ⊢
            omega)
          have E4 := Lib.hid (E3.out.tr x4)
          have RW4 := Lib.hid (RW3.out.keep x4)
          have FR4 := Lib.hid (show ∀ ad, A4 = some ad → ad.block ≠ g from fun ad h => by have := fr4 ad h; have := RW3.out.lt; omega)
          have G4 := Lib.hid h4
          clear h4 x4 fr4 E3 RW3 R3
          go_wp2_with fail
          refine (fits_ok A4 A2 n4 c4 n2 c2 _ b _ G4.out (H2.out.keep E4.out) (by omega)).mono ?_
          rintro e w5 ⟨q, rfl, hq1, hq2, hq3, x5⟩
          have E5 := Lib.hid (E4.out.tr x5)
          have RW5 := Lib.hid (RW4.out.keep x5)
          have G5 := Lib.hid (G4.out.keep x5)
          have LS5 := Lib.hid (LS.out.step (by omega) hk DS.out.1 SX.out hxb hq1 hq2 hq3)
          have QQ := Lib.hid hq2
          have fz := RW5.out.frozen (k - 1)
          have fc := RW5.out.cell (j := k - 1) (by omega)
          have RW6 := Lib.hid (RW5.out.set_ (k - 1) (q : Int))
          have kc := RW6.out.cell (j := k - 1) (by omega)
          simp only [if_true] at kc
          have E6 := Lib.hid (E5.out.set_ (p := ⟨g, k - 1, none⟩) hgw (.int .i64 (q : Int)))
          have G6' := Lib.hid (G5.out.far (p := ⟨g, k - 1, none⟩) FR4.out (.int .i64 (q : Int)))
          clear x5 hq2 hq3 E4 RW4 G4 E5 G5
          go_wp2_with fail
          refine (times_ok A2 n2 c2 b q _ (H2.out.keep E6.out) (by omega) (by omega)).mono ?_
          rintro e w7 ⟨A7, n7, c7, rfl, h7, x7, _⟩
          have E7 := Lib.hid (E6.out.tr x7)
          have RW7 := Lib.hid (RW6.out.keep x7)
          have G7 := Lib.hid (And.intro (G6'.out.keep x7) h7)
          clear x7 h7 E6 RW6 G6' kc fz fc RW5
          go_wp2_with fail
          refine (rSub_ok A4 A7 n4 c4 n7 c7 _ (b * q) _ G7.out.1 G7.out.2 (by omega) QQ.out).mono ?_
          rintro e w8 ⟨A8, n8, c8, rfl, h8, x8⟩
          have E8 := Lib.hid (E7.out.tr x8)
          have RW8 := Lib.hid ((RW7.out.keep x8).congr (divF_step (q := q) (n := n1) (by omega)))
          have G8 := Lib.hid h8
          clear x8 h8 E7 RW7 G7
          go_wp2
          go_roundg (k - 1)
          case measure => omega
          case rel => exact ⟨k - 1, _, q :: qd, A8, n8, c8, rfl, by omega, by go_num, rfl, G8, RW8, LS5, E8⟩
theorem rDivMod_ok (A1 A2 : Option Addr) (n1 c1 n2 c2 a b : Nat) (w : World) (h1 : GrpR w A1 n1 c1 a) (h2 : GrpR w A2 n2 c2 b) (hn1 : n1 ≤ 10000000) (hn2 : n2 ≤ 1000000) (hb0 : 0 < b) :
    Calls Tryz.prog 143 #[.slice A1 n1 c1, .slice A2 n2 c2] w (RDivPost w (a / b) (a % b)) :=
  (rDivMod_fr A1 A2 n1 c1 n2 c2 a b w h1 h2 hn1 hn2 hb0).mono fun e w' ⟨A, n, c, A', n', c', k0, k1, k2, k3, _⟩ => ⟨A, n, c, A', n', c', k0, k1, k2, k3⟩
end Go.Proofs.YtekiomanidimnaaGreatDoor


namespace Go.Proofs.YtekiomanidimnaaGreatDoor
open Go.RowKit Go.Sort
set_option maxRecDepth 100000 in
set_option maxHeartbeats 4000000 in
theorem rGCD_ok (A1 A2 : Option Addr) (n1 c1 n2 c2 a b : Nat) (w : World) (h1 : GrpR w A1 n1 c1 a) (h2 : GrpR w A2 n2 c2 b) (hn1 : n1 ≤ 1000000) (hn2 : n2 ≤ 1000000) :
    Calls Tryz.prog 163 #[.slice A1 n1 c1, .slice A2 n2 c2] w fun e w' => ∃ (A : Option Addr) (n c : Nat), e = .returned (.slice A n c) ∧ GrpR w' A n c (Nat.gcd a b) ∧ Ext w w' := by
  induction b using Nat.strongRecOn generalizing A1 A2 n1 c1 n2 c2 a w with
  | ind b ih =>
    have hz := h2.eq_zero
    have H1 := Lib.hid (h1)
    have H2 := Lib.hid (h2)
    have IH := Lib.hid (ih)
    clear h1 h2 ih
    by_cases hb : b = 0
    · obtain rfl : n2 = 0 := hz.2 hb
      subst hb
      clear hz
      go_enter Tryz.func163, Tryz.ntmps163
      go_wp2
      go_ret
      exact ⟨_, _, _, rfl, by rw [Nat.gcd_zero_right]; exact H1.out, Ext.refl _⟩
    · have z2 : ((n2 : Int) == 0) = false := beq_eq_false_iff_ne.2 (by omega)
      have hb0 : 0 < b := by omega
      clear hz
      go_enter Tryz.func163, Tryz.ntmps163
      go_wp2_with fail
      refine (rDivMod_ok A1 A2 n1 c1 n2 c2 a b _ H1.out H2.out (by omega) hn2 hb0).mono ?_
      rintro e w1 ⟨A3, n3, c3, A4, n4, c4, rfl, h3, h4, x1⟩
      have hlt : a % b < b := Nat.mod_lt _ hb0
      have hn4 : n4 ≤ n2 := h4.lenOf (Nat.lt_trans hlt H2.out.lt_pow)
      have H4 := Lib.hid (And.intro (H2.out.keep x1) (And.intro h4 x1))
      clear h3 h4 x1
      go_wp2_with fail
      refine (IH.out (a % b) hlt A2 A4 n2 c2 n4 c4 b _ H4.out.1 H4.out.2.1 hn2 (by omega)).mono ?_
      rintro e w2 ⟨A5, n5, c5, rfl, h5, x2⟩
      have hg : Nat.gcd b (a % b) = Nat.gcd a b := by rw [Nat.gcd_comm a b, Nat.gcd_rec b a, Nat.gcd_comm]
      rw [hg] at h5
      have F := Lib.hid (And.intro h5 (H4.out.2.2.tr x2))
      clear h5 x2 hg
      go_wp2
      go_ret
      exact ⟨_, _, _, rfl, F.out.1, F.out.2⟩
/-- What is still to be written of a numeral, ahead of what has been. -/
def preD (M : Nat) : List UInt8 := if M = 0 then [] else Lib.decDigits M
theorem preD_step {M : Nat} (h : 0 < M) : preD M = preD (M / 10) ++ [UInt8.ofNat (48 + M % 10)] := by
  unfold preD
  rw [if_neg (by omega)]
  by_cases h1 : M < 10
  · rw [if_pos (by omega), Lib.decDigits_one h1, Nat.mod_eq_of_lt h1]; rfl
  · rw [if_neg (by omega), Lib.decDigits.eq_1 M, dif_neg h1]
theorem drop_pos {ds : List Nat} (hc : Dig.Canon G6 ds) {i : Nat} (hi : i < ds.length) : 0 < Dig.val G6 (ds.drop i) := by
  refine Dig.Canon.pos G6_pos ⟨fun d hd => hc.lt d (List.mem_of_mem_drop hd), ?_⟩ (by intro e; have := congrArg List.length e; simp at this; omega)
  intro h
  apply hc.top
  rw [← h, List.getLast?_drop, if_neg (by omega)]
theorem text_step (g e V : Nat) : (g + 10 ^ (e + 1) * V) % 10 = g % 10 ∧ (g + 10 ^ (e + 1) * V) / 10 = g / 10 + 10 ^ e * V := by
  have h : 10 ^ (e + 1) * V = 10 * (10 ^ e * V) := by rw [Nat.pow_succ, Nat.mul_comm (10 ^ e) 10, Nat.mul_assoc]
  rw [h]
  omega
theorem text_next {N g k V : Nat} {S : List UInt8} (hk : k < 6) (hM : 0 < g + 10 ^ (6 - k) * V) (h : Lib.decDigits N = preD (g + 10 ^ (6 - k) * V) ++ S) : Lib.decDigits N = preD (g / 10 + 10 ^ (6 - (k + 1)) * V) ++ (UInt8.ofNat (48 + g % 10) :: S) := by
  obtain ⟨e, he⟩ : ∃ e, 6 - k = e + 1 := ⟨5 - k, by omega⟩
  rw [h, preD_step hM, he, (text_step g e V).1, (text_step g e V).2, show 6 - (k + 1) = e by omega, List.append_assoc]
  rfl
theorem conv_one (w : World) (g : Nat) : (convert 188 9 (.slice (some ⟨w.heap.size, 0, none⟩) 1 1)).run Tryz.prog (w.alloc (.cells #[.int .u8 (48 + (g : Int) % 10)] 5)) = .ok (.string ⟨#[UInt8.ofNat (48 + g % 10)]⟩) (w.alloc (.cells #[.int .u8 (48 + (g : Int) % 10)] 5)) := by
  have := run_convert_bytes_back (P := Tryz.prog) (w.alloc (.cells #[.int .u8 (48 + (g : Int) % 10)] 5)) 188 9 5 ⟨w.heap.size, 0, none⟩ 1 [UInt8.ofNat (48 + g % 10)] Tryz.underlying188 Tryz.underlying5 Tryz.underlying9 (fun j hj => by
    obtain rfl : j = 0 := by simp at hj; exact hj
    rw [addr_add, (Blk.new w 5 #[.int .u8 (48 + (g : Int) % 10)]).cell]
    have hg : g % 10 < 10 := Nat.mod_lt _ (by decide)
    have : (UInt8.ofNat (48 + g % 10)).toNat = 48 + g % 10 := by rw [UInt8.toNat_ofNat']; omega
    simp only [List.getElem_cons_zero, this]
    simp)
  exact this
set_option maxRecDepth 100000 in
set_option maxHeartbeats 4000000 in
theorem rText_ok (A : Option Addr) (n c N : Nat) (w : World) (h : GrpR w A n c N) (hn : n ≤ 1000000) :
    Calls Tryz.prog 127 #[.slice A n c] w fun e w' => e = .returned (.string ⟨(Lib.decDigits N).toArray⟩) ∧ Ext w w' := by
  have hz := h.eq_zero
  by_cases h0 : N = 0
  · obtain rfl : n = 0 := hz.2 h0
    subst h0
    clear hz
    go_enter Tryz.func127, Tryz.ntmps127
    go_wp2
    go_ret
    exact ⟨by simp [Lib.decDigits], Ext.refl _⟩
  · have z1 : ((n : Int) == 0) = false := beq_eq_false_iff_ne.2 (by omega)
    obtain ⟨ds, hdl, hc, hcan, hv, hr⟩ := h
    have DS := Lib.hid (And.intro hdl (And.intro hcan (And.intro hv hr.rd)))
    clear hdl hcan hv hr hz
    go_enter Tryz.func127, Tryz.ntmps127
    go_wp2
    go_loopg [3, 4, 5, 6] n (fun m st it _ _ wr => ∃ (i : Nat) (sb : ByteArray), n - i = m ∧ i ≤ n ∧ it = .int .i64 i ∧ st = .string sb ∧ sb.size ≤ 6 * i ∧ Hid (Lib.decDigits N = preD (Dig.val G6 (ds.drop i)) ++ sb.data.toList) ∧ Hid (Ext w wr))
    case atStart => exact ⟨0, ⟨#[]⟩, rfl, Nat.zero_le _, rfl, rfl, by decide, Lib.hid (by rw [List.drop_zero, DS.out.2.2.1]; unfold preD; rw [if_neg h0]; simp), Lib.hid (Ext.refl _)⟩
    case round =>
      obtain ⟨i, sb, rfl, hin, rfl, rfl, hsz, HS, EW⟩ := hrel
      by_cases hi : i < n
      · have hil : i < ds.length := by rw [DS.out.1]; exact hi
        obtain ⟨x, hx⟩ : ∃ x, x = ds[i]?.getD 0 := ⟨_, rfl⟩
        have hxb : x < 1000000 := by
          rw [hx, List.getElem?_eq_getElem hil]
          exact DS.out.2.1.lt _ (List.getElem_mem _)
        obtain ⟨bb, oo, hA1, hbb, hcell⟩ := DS.out.2.2.2.ints (k := i) hil
        subst hA1
        have k1 := EW.out.cell (p := ⟨bb, oo + i, none⟩) hbb
        rw [hcell i hil, ← hx] at k1
        have NX := Lib.hid (show Dig.val G6 (ds.drop i) = x + 1000000 * Dig.val G6 (ds.drop (i + 1)) by rw [drop_next ds i hil, ← hx]; rfl)
        clear hcell hbb hil hx
        go_wp2
        go_loopg [3, 5, 6] 6 (fun m st gt kt wi => ∃ (k g : Nat) (sb : ByteArray), 6 - k = m ∧ k ≤ 6 ∧ g < 10 ^ (6 - k) ∧ kt = .int .i64 k ∧ gt = .int .i64 g ∧ st = .string sb ∧ sb.size ≤ 6 * i + k ∧ Hid (Lib.decDigits N = preD (g + 10 ^ (6 - k) * Dig.val G6 (ds.drop (i + 1))) ++ sb.data.toList) ∧ Hid (Ext w wi))
        case atStart => exact ⟨0, x, sb, rfl, by omega, by simpa using hxb, rfl, rfl, rfl, hsz, Lib.hid (by rw [HS.out, NX.out]), EW⟩
        case round =>
          obtain ⟨k, g, sb2, rfl, hk, hg, rfl, rfl, rfl, hsz2, HS2, EW2⟩ := hrel
          have hVp : i < n - 1 → 0 < Dig.val G6 (ds.drop (i + 1)) := fun h => drop_pos DS.out.2.1 (by rw [DS.out.1]; omega)
          have VP := Lib.hid (hVp)
          clear hVp
          by_cases hk6 : k < 6
          · by_cases hi1 : i < n - 1
            · have d1 : decide ((i : Int) < (n : Int) - 1) = true := by simp; omega
              have HM := Lib.hid (show 0 < g + 10 ^ (6 - k) * Dig.val G6 (ds.drop (i + 1)) from by
                have h1 := VP.out hi1
                have h2 : 0 < 10 ^ (6 - k) := Nat.pow_pos (by decide)
                have := Nat.mul_pos h2 h1
                omega)
              have hcv := conv_one wr g
              obtain ⟨dg, hdg⟩ : ∃ dg : UInt8, dg = UInt8.ofNat (48 + g % 10) := ⟨_, rfl⟩
              rw [← hdg] at hcv
              have hgm : (g : Int) % 10 < 10 := Int.emod_lt_of_pos _ (by decide)
              have hg10 : g < 1000000 := Nat.lt_of_lt_of_le hg (Nat.le_trans (Nat.pow_le_pow_right (by decide) (show 6 - k ≤ 6 by omega)) (by decide))
              have hnx := text_next hk6 HM.out HS2.out
              rw [← hdg] at hnx
              have HN := Lib.hid hnx
              clear hnx hdg
              have hgd := Lib.hid (show g / 10 < 10 ^ (6 - (k + 1)) from by
                obtain ⟨e, he⟩ : ∃ e, 6 - k = e + 1 := ⟨5 - k, by omega⟩
                rw [he, Nat.pow_succ] at hg
                rw [show 6 - (k + 1) = e by omega]
                omega)
              clear hg
              go_wp2
              go_roundg (6 - (k + 1))
              case measure => omega
              case rel => exact ⟨k + 1, g / 10, ⟨#[dg]⟩ ++ sb2, rfl, by omega, hgd.out, by go_num, by go_num, rfl, by rw [ByteArray.size_append, show (⟨#[dg]⟩ : ByteArray).size = 1 from rfl]; omega, Lib.hid (by rw [HN.out]; simp), Lib.hid (EW2.out.alloc _)⟩
            · have d1 : decide ((i : Int) < (n : Int) - 1) = false := by simp; omega
              by_cases hg0 : 0 < g
              · have d3 : decide ((g : Int) > 0) = true := by simp; omega
                have HM := Lib.hid (show 0 < g + 10 ^ (6 - k) * Dig.val G6 (ds.drop (i + 1)) from by omega)
                have hcv := conv_one wr g
                obtain ⟨dg, hdg⟩ : ∃ dg : UInt8, dg = UInt8.ofNat (48 + g % 10) := ⟨_, rfl⟩
                rw [← hdg] at hcv
                have hgm : (g : Int) % 10 < 10 := Int.emod_lt_of_pos _ (by decide)
                have hg10 : g < 1000000 := Nat.lt_of_lt_of_le hg (Nat.le_trans (Nat.pow_le_pow_right (by decide) (show 6 - k ≤ 6 by omega)) (by decide))
                have hnx := text_next hk6 HM.out HS2.out
                rw [← hdg] at hnx
                have HN := Lib.hid hnx
                clear hnx hdg
                have hgd := Lib.hid (show g / 10 < 10 ^ (6 - (k + 1)) from by
                  obtain ⟨e, he⟩ : ∃ e, 6 - k = e + 1 := ⟨5 - k, by omega⟩
                  rw [he, Nat.pow_succ] at hg
                  rw [show 6 - (k + 1) = e by omega]
                  omega)
                clear hg
                go_wp2
                go_roundg (6 - (k + 1))
                case measure => omega
                case rel => exact ⟨k + 1, g / 10, ⟨#[dg]⟩ ++ sb2, rfl, by omega, hgd.out, by go_num, by go_num, rfl, by rw [ByteArray.size_append, show (⟨#[dg]⟩ : ByteArray).size = 1 from rfl]; omega, Lib.hid (by rw [HN.out]; simp), Lib.hid (EW2.out.alloc _)⟩
              · obtain rfl : g = 0 := by omega
                have HF := Lib.hid (show Lib.decDigits N = preD (Dig.val G6 (ds.drop (i + 1))) ++ sb2.data.toList from by
                  have hd : Dig.val G6 (ds.drop (i + 1)) = 0 := by rw [List.drop_of_length_le (by rw [DS.out.1]; omega)]; rfl
                  rw [HS2.out, hd, Nat.mul_zero])
                go_wp2
                go_roundg (n - (i + 1))
                case measure => omega
                case rel => exact ⟨i + 1, sb2, rfl, by omega, by go_num, rfl, by omega, HF, EW2⟩
          · obtain rfl : k = 6 := by omega
            obtain rfl : g = 0 := by simpa using hg
            have HF := Lib.hid (show Lib.decDigits N = preD (Dig.val G6 (ds.drop (i + 1))) ++ sb2.data.toList from by
              rw [HS2.out]; simp)
            clear hg
            go_wp2
            go_roundg (n - (i + 1))
            case measure => omega
            case rel => exact ⟨i + 1, sb2, rfl, by omega, by go_num, rfl, by omega, HF, EW2⟩
      · obtain rfl : i = n := by omega
        have HF := Lib.hid (show sb = ⟨(Lib.decDigits N).toArray⟩ from by
          have h1 := HS.out
          rw [List.drop_of_length_le (by rw [DS.out.1]; omega)] at h1
          have h2 : Lib.decDigits N = sb.data.toList := by rw [h1]; rfl
          rw [h2])
        go_wp2
        go_ret
        exact ⟨by rw [← HF.out]; rfl, EW.out⟩
end Go.Proofs.YtekiomanidimnaaGreatDoor
