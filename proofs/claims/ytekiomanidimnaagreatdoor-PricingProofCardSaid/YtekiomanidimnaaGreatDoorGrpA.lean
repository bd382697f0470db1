/- waypointref01: numbers in groups of six decimal digits, in memory; without, Of, Uint64. -/
import Derived.Test.YtekiomanidimnaaGreatDoorMD
set_option linter.unusedVariables false
set_option linter.unusedSimpArgs false

namespace Go.Proofs.YtekiomanidimnaaGreatDoor
open Go.RowKit
def G6 : Nat := 1000000
theorem G6_eq : G6 = 1000000 := rfl
theorem G6_pos : 0 < G6 := by decide
theorem G6_gt : 1 < G6 := by decide
/-- The slice (A, n, c) holds the groups of N. -/
def GrpR (w : World) (A : Option Addr) (n c N : Nat) : Prop :=
  ∃ ds : List Nat, ds.length = n ∧ n ≤ c ∧ Dig.Canon G6 ds ∧ Dig.val G6 ds = N ∧ RdT w 3 A (ints ds)
theorem GrpR.keep {w w' : World} {A : Option Addr} {n c N : Nat} (h : GrpR w A n c N) (hb : Ext w w') : GrpR w' A n c N := by
  obtain ⟨ds, h1, h2, h3, h4, h5⟩ := h
  exact ⟨ds, h1, h2, h3, h4, h5.keep hb⟩
theorem GrpR.zero (w : World) (A : Option Addr) (c : Nat) : GrpR w A 0 c 0 := ⟨[], rfl, Nat.zero_le _, Dig.Canon.nil _, rfl, RdT.nil _ _ _⟩
theorem GrpR.eq_zero {w : World} {A : Option Addr} {n c N : Nat} (h : GrpR w A n c N) : n = 0 ↔ N = 0 := by
  obtain ⟨ds, rfl, _, h3, rfl, _⟩ := h
  constructor
  · intro h; rw [List.length_eq_zero_iff.1 h]; rfl
  · intro h; rw [h3.val_zero G6_pos h]; rfl
theorem GrpR.lenOf {w : World} {A : Option Addr} {n c N k : Nat} (h : GrpR w A n c N) (hN : N < G6 ^ k) : n ≤ k := by
  obtain ⟨ds, rfl, _, hcan, rfl, _⟩ := h
  exact hcan.len_le G6_gt hN
def GrpPost (w : World) (N : Nat) (e : Ending) (w' : World) : Prop :=
  ∃ (A : Option Addr) (n c : Nat), e = .returned (.slice A n c) ∧ GrpR w' A n c N ∧ Ext w w' ∧ ∀ ad, A = some ad → w.heap.size ≤ ad.block
theorem append_types {P : Program} {w : World} {t t2 ty e e2 : TypeId} (ht : P.underlying t = some (.slice e)) (ht2 : P.underlying t2 = some (.slice e2)) {i : TypeInfo} (hi : P.info? e = some i) (v x : Value) : (Builtin.append_ #[t, t2] ty #[v, x]).run P w = (Builtin.append_ #[t, t] ty #[v, x]).run P w := by
  unfold Builtin.append_
  cases v <;> simp [run_underlying ht, run_underlying ht2, sizeOf, typeInfo, hi]
section
variable {P : Program} (w : World)
theorem wpList_append_rd2 {ops : Array Oper} {rest : List Oper} {o : Oper} {a : Act} {Q : Exit → Act → World → Prop} (hgd : o.guard = none) (s x : Operand) (t t2 : TypeId)
    (ho : o.op = .call { callee := .builtin .append, args := #[s, x], argTypes := #[t, t2] })
    (base : Nat) (e : TypeId) (i : TypeInfo) (z : Value) (bytes : Nat) (e2 : TypeId) (ht2 : P.underlying t2 = some (.slice e2)) (ht : P.underlying t = some (.slice e)) (hi : P.info? e = some i) (hz : i.zero = some z)
    (hsize : i.size = 1) (hby : i.bytes = bytes) (hzs : z.cells.size = 1)
    (v : Value) (n : Nat) (xs : List Value) (hs : a.eval s = v) (hown : w.ownsRow base e 1 v n xs)
    (A : Option Addr) (m c : Nat) (news : List Value) (hx : a.eval x = .slice A m c) (hm : m = news.length) (hr : Rd w A news) (hA : A = none → m = 0 ∧ c = 0 ∨ m = 0) (h1 : ∀ u ∈ news, u.oneCell' = true)
    (h63 : n + m ≤ maxLen) (hbytes : (n + m) * bytes ≤ 140737488355328) (hbase : base ≤ w.heap.size)
    (h : ∀ v' w', w'.ownsRow base e 1 v' (n + m) (xs ++ news) → w.grownBy w' v.ownBlock → (v'.ownBlock = v.ownBlock ∨ v'.ownBlock = some w.heap.size) → wpList P ops Q rest (a.put o.dst v') w') : wpList P ops Q (o :: rest) a w :=
  wpList_plain hgd fun _ hK => by
    obtain ⟨v', w', hrun, h2, h3, h4⟩ := run_append_rd (P := P) w base t o.type e i z bytes ht hi hz hsize hby hzs v n xs hown A m c news hm hr hA h1 h63 hbytes hbase
    unfold Oper.wp execOp
    simp only [ho, resolve, invoke, builtin, Sem.run_bind, Sem.run_pure, Result.andThen_ok, List.map_toArray, List.map_cons, List.map_nil, hs, hx, append_types ht ht2 hi, hrun]
    exact hK _ _ (h v' w' h2 h3 h4)
end
theorem Rd.ints {w : World} {A : Option Addr} {ds : List Nat} (h : Rd w A (ints ds)) {k : Nat} (hk : k < ds.length) :
    ∃ b o : Nat, A = some ⟨b, o, none⟩ ∧ b < w.heap.size ∧ ∀ i, i < ds.length → w.cell? ⟨b, o + i, none⟩ = some (.int .i64 ((ds[i]?.getD 0 : Nat) : Int)) := by
  obtain ⟨b, o, e, hlt, hc⟩ := h.at_ (i := k) (by rw [ints_length]; exact hk)
  refine ⟨b, o, e, hlt, fun i hi => (hc i (by rw [ints_length]; exact hi)).trans ?_⟩
  simp [Go.Proofs.YtekiomanidimnaaGreatDoor.ints, hi]
theorem GrpR.of_take {w : World} {A : Option Addr} {ds : List Nat} {k c : Nat} (hr : RdT w 3 A (ints (ds.take k))) (hk : k ≤ ds.length) (hz : ∀ j, k ≤ j → j < ds.length → ds[j]?.getD 0 = 0)
    (ht : 0 < k → ds[k - 1]?.getD 0 ≠ 0) (hlt : ∀ d ∈ ds, d < G6) (hkc : k ≤ c) : GrpR w A k c (Dig.val G6 ds) := by
  refine ⟨ds.take k, by rw [List.length_take]; omega, hkc, ⟨fun d hd => hlt d (List.mem_of_mem_take hd), ?_⟩, ?_, hr⟩
  · intro h
    by_cases h0 : k = 0
    · subst h0; simp at h
    · rw [List.getLast?_eq_getElem?, List.length_take, Nat.min_eq_left hk, List.getElem?_take, if_pos (by omega)] at h
      exact ht (by omega) (by rw [h]; rfl)
  · rw [← Dig.trim_val, ← Dig.trim_val G6 ds, Dig.trim_take ds k hk (fun j h1 h2 => hz j h1 h2)]
theorem ints_take (ds : List Nat) (k : Nat) : ints (ds.take k) = (ints ds).take k := by simp [ints]
set_option maxRecDepth 100000 in
set_option maxHeartbeats 2000000 in
theorem without_ok (A : Option Addr) (c : Nat) (ds : List Nat) (w : World) (hr : Rd w A (ints ds)) (hc : ds.length ≤ c) (hlt : ∀ d ∈ ds, d < G6) (hl : ds.length ≤ 1073741824) :
    Calls Tryz.prog 160 #[.slice A ds.length c] w (GrpPost w (Dig.val G6 ds)) := by
  obtain ⟨ti, hi, hz0, hz1, hz2⟩ := info_parts Tryz.info3
  have HR := Lib.hid (hr)
  have HL := Lib.hid (hlt)
  clear hr hlt
  go_enter Tryz.func160, Tryz.ntmps160
  go_wp2
  go_loopg [0] ds.length (fun m it wr => ∃ k, k = m ∧ k ≤ ds.length ∧ it = .slice A k c ∧ (∀ j, k ≤ j → j < ds.length → ds[j]?.getD 0 = 0) ∧ wr = w)
  case atStart => exact ⟨_, rfl, Nat.le_refl _, rfl, fun j h1 h2 => by omega, rfl⟩
  case round =>
    obtain ⟨k, rfl, hk, rfl, hz, rfl⟩ := hrel
    have HZ := Lib.hid (hz)
    have HK := Lib.hid (hk)
    have HA := Lib.hid (show A = none → k = 0 from fun h => by
      rcases Nat.eq_zero_or_pos k with h0 | h0
      · exact h0
      · obtain ⟨b, o, e, _⟩ := HR.out.ints (k := 0) (by omega)
        rw [h] at e; cases e)
    clear hz
    by_cases h0 : k = 0
    · subst h0
      have NZ := Lib.hid (show 0 < 0 → ds[0 - 1]?.getD 0 ≠ 0 from fun h => by omega)
      go_wp2_with (at_builtin; go_must (refine wpList_append_rd2 _ rfl (.tmp 20) (.tmp 21) 49 39 rfl wr.heap.size 3 ti (.int .i64 0) 8 3 Tryz.underlying39 Tryz.underlying49 hi hz0 hz1 hz2 rfl (.slice (some ⟨wr.heap.size, 0, none⟩) 0 0) 0 [] rfl ?c0 A 0 c (ints (ds.take 0)) rfl ?c1 ?c2 ?c3 (ints_one _) ?c4 ?c5 ?c6 ?_))
      case c0 => exact ownsRow_fresh wr wr.heap.size 3 (Nat.le_refl _)
      case c1 => rfl
      case c2 => exact Rd.nil _ _
      intro v3 w3 hown3 hgrow3 _
      have e3 : Ext wr w3 := Below.grown ((Ext.refl wr).alloc (.cells #[] 3)) hgrow3 (by simp) (fun k hk => by simp [Value.ownBlock] at hk; omega)
      obtain ⟨A3, c3, rfl, hc3, hr3⟩ := ownsRow_rdT (l := ds.take 0) hown3 (by rw [List.length_take]; omega)
      have hlk : (ds.take 0).length = 0 := by rw [List.length_take]; omega
      rw [hlk] at hc3 ⊢
      have F := Lib.hid (GrpR.of_take hr3 HK.out HZ.out NZ.out HL.out hc3)
      have E3 := Lib.hid e3
      have FR := Lib.hid (show ∀ ad, A3 = some ad → wr.heap.size ≤ ad.block from fun ad h => (hown3.lt ad.block (by rw [h]; rfl)).1)
      clear hown3 hgrow3 e3 hr3
      go_wp2
      go_ret
      exact ⟨_, _, _, rfl, F.out, E3.out, FR.out⟩
    · obtain ⟨b, o, rfl, hb, hcell⟩ := HR.out.ints (k := k - 1) (by omega)
      have hck := hcell (k - 1) (by omega)
      clear hcell
      obtain ⟨d, hd⟩ : ∃ d, d = ds[k - 1]?.getD 0 := ⟨_, rfl⟩
      rw [← hd] at hck
      have HD := Lib.hid (hd)
      clear hd
      by_cases hd : d = 0
      · subst hd
        go_wp2
        go_roundg (k - 1)
        case measure => omega
        case rel => exact ⟨_, rfl, by omega, by go_num, fun j h1 h2 => by
          by_cases e : j = k - 1
          · subst e; exact HD.out.symm
          · exact HZ.out j (by omega) h2, rfl⟩
      · have hd' : ((d : Int) == 0) = false := beq_eq_false_iff_ne.2 (by omega)
        have NZ := Lib.hid (show 0 < k → ds[k - 1]?.getD 0 ≠ 0 from fun _ => by rw [← HD.out]; exact hd)
        go_wp2_with (at_builtin; go_must (refine wpList_append_rd2 _ rfl (.tmp 20) (.tmp 21) 49 39 rfl wr.heap.size 3 ti (.int .i64 0) 8 3 Tryz.underlying39 Tryz.underlying49 hi hz0 hz1 hz2 rfl (.slice (some ⟨wr.heap.size, 0, none⟩) 0 0) 0 [] rfl ?d0 (some ⟨b, o, none⟩) k c (ints (ds.take k)) rfl ?d1 ?d2 ?d3 (ints_one _) ?d4 ?d5 ?d6 ?_))
        case d0 => exact ownsRow_fresh wr wr.heap.size 3 (Nat.le_refl _)
        case d1 => rw [ints_length, List.length_take]; omega
        case d2 => rw [ints_take]; exact (HR.out.take k).keep ((Ext.refl _).alloc _)
        case d3 => exact fun h => .inr (HA.out h)
        case d4 => unfold maxLen; omega
        case d5 => omega
        case d6 => simp
        intro v3 w3 hown3 hgrow3 _
        have e3 : Ext wr w3 := Below.grown ((Ext.refl wr).alloc (.cells #[] 3)) hgrow3 (by simp) (fun k hk => by simp [Value.ownBlock] at hk; omega)
        obtain ⟨A3, c3, rfl, hc3, hr3⟩ := ownsRow_rdT (l := ds.take k) hown3 (by rw [List.length_take]; omega)
        have hlk : (ds.take k).length = k := by rw [List.length_take]; omega
        rw [hlk] at hc3 ⊢
        have F := Lib.hid (GrpR.of_take hr3 HK.out HZ.out NZ.out HL.out hc3)
        have E3 := Lib.hid e3
        have FR := Lib.hid (show ∀ ad, A3 = some ad → wr.heap.size ≤ ad.block from fun ad h => (hown3.lt ad.block (by rw [h]; rfl)).1)
        clear hown3 hgrow3 e3 hr3
        go_wp2
        go_ret
        exact ⟨_, _, _, rfl, F.out, E3.out, FR.out⟩
theorem Ext.tr' {a b c : World} (h : Ext a b) (k : Below a.heap.size b c) : Ext a c := h.trans k
/-- An own row of natural numbers. -/
def OI (w : World) (B : Nat) (v : Value) (l : List Nat) : Prop := w.ownsRow B 3 1 v l.length (ints l)
theorem OI.nil (w : World) (B : Nat) : OI w B (.slice none 0 0) [] := World.ownsRow_nil _ _ _ _
theorem OI.keep {w w' : World} {B : Nat} {v : Value} {l : List Nat} (h : OI w B v l) (hx : Ext w w') : OI w' B v l :=
  World.ownsRow.kept (row := none) h ⟨hx.os, hx.tape, hx.output, hx.size, fun k hk _ => hx.block k hk⟩ (by
    by_cases e : v.ownBlock = none
    · exact .inl e
    · exact .inr e)
theorem OI.rdT {w : World} {B : Nat} {v : Value} {l : List Nat} (h : OI w B v l) : ∃ (A : Option Addr) (c : Nat), v = .slice A l.length c ∧ l.length ≤ c ∧ RdT w 3 A (ints l) := ownsRow_rdT h rfl
theorem wpList_push {ops : Array Oper} {rest : List Oper} {o : Oper} {a : Act} {Q : Exit → Act → World → Prop} (w : World) (hgd : o.guard = none) (s x : Operand)
    (ho : o.op = .call { callee := .builtin .append, args := #[s, x], argTypes := #[39, 39] })
    (B : Nat) (v : Value) (l : List Nat) (hs : a.eval s = v) (hown : OI w B v l) (u : Value) (n : Nat) (hu : u = .int .i64 (n : Int)) (hx : a.eval x = .slice (some ⟨w.heap.size, 0, none⟩) 1 1)
    (hl : l.length ≤ 4398046511104) (hB : B ≤ w.heap.size)
    (h : ∀ v' w', OI w' B v' (l ++ [n]) → Below B w w' → (∃ A c, v' = .slice A (l.length + 1) c) → wpList Tryz.prog ops Q rest (a.put o.dst v') w') : wpList Tryz.prog ops Q (o :: rest) a (w.alloc (.cells #[u] 3)) := by
  obtain ⟨ti, hi, hz0, hz1, hz2⟩ := info_parts Tryz.info3
  subst hu
  refine wpList_append_rd _ hgd s x 39 ho B 3 ti (.int .i64 0) 8 Tryz.underlying39 hi hz0 hz1 hz2 rfl v l.length (ints l) hs (OI.keep hown ((Ext.refl w).alloc _)) (some ⟨w.heap.size, 0, none⟩) 1 1 [.int .i64 (n : Int)] hx rfl (Rd.new w _ _ rfl rfl) (by intro h; cases h) (by intro u hu; simp at hu; subst hu; rfl) (by unfold maxLen; omega) (by omega) (by simp; omega) ?_
  intro v' w' h1 h2 h3
  have hown2 : OI w' B v' (l ++ [n]) := by
    unfold OI
    rw [List.length_append, ints_snoc]
    exact h1
  obtain ⟨A, c, e, _⟩ := hown2.rdT
  refine h v' w' hown2 ?_ ⟨A, c, by rw [e, List.length_append]; rfl⟩
  exact Below.grown (Below.alloc (Below.refl B w) hB _) h2 (by simp; omega) (fun k hk => (hown.lt k hk).1)
set_option maxRecDepth 100000 in
set_option maxHeartbeats 2000000 in
theorem refOf_ok (N : Nat) (w : World) (hN : N < 18446744073709551616) :
    Calls Tryz.prog 144 #[.int .u64 N] w (GrpPost w N) := by
  go_enter Tryz.func144, Tryz.ntmps144
  go_wp2
  go_loopg [0, 3] N (fun m nt ot wr => ∃ (k : Nat) (ds : List Nat) (A : Option Addr) (c : Nat), k = m ∧ nt = .int .u64 k ∧ ot = .slice A ds.length c ∧ OI wr w.heap.size ot ds ∧ (∀ d ∈ ds, d < G6) ∧ N = Dig.val G6 ds + G6 ^ ds.length * k ∧ ds.length ≤ 4 ∧ Ext w wr ∧ k ≤ N)
  case atStart => exact ⟨_, [], none, 0, rfl, rfl, rfl, OI.nil _ _, (fun _ h => by cases h), (by simp [Dig.val]), (by simp), Ext.refl _, Nat.le_refl _⟩
  case round =>
    obtain ⟨k, ds, A, c, rfl, rfl, rfl, hown, hlt, hval, hlen, hx, hkN⟩ := hrel
    have OW := Lib.hid (hown)
    have HL := Lib.hid (hlt)
    have HV := Lib.hid (hval)
    have EX := Lib.hid (hx)
    clear hown hlt hval hx
    by_cases h0 : k = 0
    · subst h0
      obtain ⟨A', c', e, hc, hr⟩ := OW.out.rdT
      injection e with e1 e2 e3
      subst e1 e3
      have R := Lib.hid (hr.rd)
      clear hr
      go_wp2_with fail
      refine (without_ok A c ds _ R.out hc HL.out (by omega)).mono ?_
      rintro e w1 ⟨A1, n1, c1, rfl, hR, hx1, fr⟩
      have hv : Dig.val G6 ds = N := by have := HV.out; rw [Nat.mul_zero, Nat.add_zero] at this; exact this.symm
      rw [hv] at hR
      have F := Lib.hid (And.intro hR (And.intro (EX.out.tr hx1) (fun ad h => Nat.le_trans EX.out.size (fr ad h))))
      clear hR hx1 hv fr
      go_wp2
      go_ret
      exact ⟨_, _, _, rfl, F.out.1, F.out.2.1, F.out.2.2⟩
    · have hgt : decide ((k : Int) > 0) = true := by simp; omega
      have hlen4 : ds.length ≤ 3 := by
        rcases Nat.lt_or_ge ds.length 4 with h | h
        · omega
        · have hv := HV.out
          have : G6 ^ 4 ≤ G6 ^ ds.length := Nat.pow_le_pow_right G6_pos h
          have h4 : G6 ^ 4 = 1000000000000000000000000 := by decide
          have : G6 ^ ds.length * 1 ≤ G6 ^ ds.length * k := Nat.mul_le_mul_left _ (by omega)
          omega
      go_wp2_with (at_builtin; go_must (refine wpList_push wr rfl (.tmp 6) (.tmp 10) rfl w.heap.size (.slice A ds.length c) ds rfl OW.out _ (k % 1000000) ?c0 rfl ?c1 ?c2 ?_))
      case c0 => go_num
      case c1 => omega
      case c2 => exact EX.out.size
      intro v2 w2 hown2 hb2 A2 c2 e2
      subst e2
      have hd := Nat.div_add_mod k 1000000
      have hm := Nat.mod_lt k (show 1000000 > 0 by decide)
      have OW2 := Lib.hid hown2
      have EX2 := Lib.hid (EX.out.tr' hb2)
      have V2 := Lib.hid (show N = Dig.val G6 (ds ++ [k % 1000000]) + G6 ^ (ds ++ [k % 1000000]).length * (k / 1000000) by
        rw [Dig.val_snoc, List.length_append, Nat.pow_add, HV.out, Nat.add_assoc, Nat.mul_assoc, ← Nat.mul_add]
        congr 1
        congr 1
        simp only [List.length_singleton, Nat.pow_one, G6_eq]
        omega)
      have L2 := Lib.hid (show ∀ d ∈ ds ++ [k % 1000000], d < G6 from fun d hd => by
        rcases List.mem_append.1 hd with h | h
        · exact HL.out d h
        · simp at h; subst h; exact hm)
      clear hown2 hb2
      go_wp2
      go_roundg (k / 1000000)
      case measure => omega
      case rel => exact ⟨_, ds ++ [k % 1000000], A2, c2, rfl, by go_num, by rw [List.length_append]; rfl, OW2.out, L2.out, V2.out, by rw [List.length_append]; simp; omega, EX2.out, by omega⟩
end Go.Proofs.YtekiomanidimnaaGreatDoor
