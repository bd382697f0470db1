/- kpaths: the queue's method Push, and heap.Push. -/
import Derived.Test.YtjmkcckbbgpkeaaGreatDoorKpT
set_option linter.unusedVariables false
set_option linter.unusedSimpArgs false

namespace Go.Proofs.YtjmkcckbbgpkeaaGreatDoor
open Go.RowKit
theorem Tryz.infoKL : (Tryz.prog.info? 105).map (fun i => (i.zero, i.size, i.bytes)) = some (some (.agg #[.int .i64 0, .int .i64 0, .int .i64 0, .slice none 0 0]), 4, 48) := by kernel_rfl
theorem wp_push4 {o : Oper} {a : Act} {K : Act → World → Prop} {Q : Exit → Act → World → Prop} (W : World) (s x : Operand)
    (ho : o.op = .call { callee := .builtin .append, args := #[s, x], argTypes := #[107, 107] })
    (B : Nat) (v : Value) (n : Nat) (xs : List Value) (hs : a.eval s = v) (hown : W.ownsRow B 105 4 v n xs) (u0 u1 u2 u3 : Value) (h0 : u0.oneCell' = true) (h1 : u1.oneCell' = true) (h2 : u2.oneCell' = true) (h3 : u3.oneCell' = true) (g : Nat) (hx : a.eval x = .slice (some ⟨g, 0, none⟩) 1 1)
    (hblk : Blk W g 105 #[u0, u1, u2, u3]) (hl : n ≤ 1000000000) (hB : B ≤ W.heap.size)
    (h : ∀ v' w', w'.ownsRow B 105 4 v' (n + 1) (xs ++ [u0, u1, u2, u3]) → W.grownBy w' v.ownBlock → (v'.ownBlock = v.ownBlock ∨ v'.ownBlock = some W.heap.size) → K (a.put o.dst v') w') : o.wp Tryz.prog a W K Q := by
  obtain ⟨ti, hi, hz0, hz1, hz2⟩ := info_parts Tryz.infoKL
  obtain ⟨v', w', hrun, k1, k2, k3, k4⟩ := run_append_own_at (P := Tryz.prog) W B 107 o.type 105 ti _ 4 48 Tryz.underlying107 hi hz0 hz1 hz2 rfl (by decide) v n xs hown ⟨g, 0, none⟩ 1 1 [u0, u1, u2, u3] rfl (fun j u hj => by
      rw [addr_add, Nat.zero_add]
      exact (hblk.cell j).trans (by simpa using hj)) (fun u hu => by
      simp only [List.mem_cons, List.not_mem_nil, or_false] at hu
      rcases hu with rfl | rfl | rfl | rfl
      · exact h0
      · exact h1
      · exact h2
      · exact h3) (by unfold maxLen; omega) (by omega) hB
  unfold Oper.wp execOp
  simp only [ho, resolve, invoke, builtin, Sem.run_bind, Sem.run_pure, Result.andThen_ok, List.map_toArray, List.map_cons, List.map_nil, hs, hx, hrun]
  exact h v' w' k1 k2 k4
theorem own_form4 {w : World} {B n s : Nat} {e : TypeId} {v : Value} {xs : List Value} (h : w.ownsRow B e s v (n + 1) xs) : ∃ g c, v = .slice (some ⟨g, 0, none⟩) (n + 1) c ∧ n + 1 ≤ c := by
  rcases h.2 with ⟨_, h4⟩ | ⟨g', cap, cur, h3, h4, h5, h6, _⟩
  · omega
  · exact ⟨g', cap, h3, h6⟩
theorem KF.grow {w w' : World} {q g g' : Nat} (h : w.grownBy w' (some g)) (hg : g' = g ∨ w.heap.size ≤ g') : KF w w' q g g' := ⟨h.os, h.tape, h.output, h.size, fun b hb _ hn => h.block b hb (fun e => hn (by injection e)), hg⟩
theorem own_heap4 {w : World} {B n s : Nat} {e : TypeId} {v : Value} {xs : List Value} (h : w.ownsRow B e s v n xs) : ∀ k, v.ownBlock = some k → ∃ cs fr, w.heap[k]? = some (.cells cs e fr) := by
  intro k hk
  rcases h.2 with ⟨rfl, _⟩ | ⟨g, cap, cur, rfl, _, e3, _⟩
  · cases hk
  · have hk : some g = some k := hk
    injection hk with hk
    subst hk
    exact ⟨cur, _, e3⟩
/-- A label is pushed. -/
theorem KRow.push {t : Tp} {W w' : World} {B g n c g' c' : Nat} {hs : List (Nat × List Nat)} {z : Nat × List Nat} {A : Option Addr} {k : Nat} {css : List (List Value)} (hl : hs.length = n) (h1 : css.length = n) (h2 : ∀ cs ∈ css, cs.length = 4) (hown : W.ownsRow B 105 4 (.slice (some ⟨g, 0, none⟩) n c) n css.flatten)
    (h4 : ∀ (i : Nat) (z : Nat × List Nat), hs[i]? = some z → ∃ cs, css[i]? = some cs ∧ KLb t B W cs z) (hk : z.2.length ≤ k) (hA : RdF B W A (ints z.2))
    (own' : w'.ownsRow B 105 4 (.slice (some ⟨g', 0, none⟩) (n + 1) c') (n + 1) (css.flatten ++ [.int .i64 (z.1 : Int), .int .i64 (kcost t z.2 : Nat), .int .i64 0, .slice A z.2.length k])) (grow : W.grownBy w' (Value.slice (some ⟨g, 0, none⟩) n c).ownBlock) : KRow t w' B g' (n + 1) c' (hs ++ [z]) := by
  have hoh := own_heap4 hown
  refine ⟨by simp [hl], css ++ [[.int .i64 (z.1 : Int), .int .i64 (kcost t z.2 : Nat), .int .i64 0, .slice A z.2.length k]], by simp [h1], fun cs hc => ?_, by rw [List.flatten_append]; simpa using own', fun i y hy => ?_⟩
  · rcases List.mem_append.1 hc with hc | hc
    · exact h2 cs hc
    · simp at hc; rw [hc]; rfl
  · by_cases hi : i < hs.length
    · rw [List.getElem?_append_left hi] at hy
      obtain ⟨cs, k1, k2⟩ := h4 i y hy
      exact ⟨cs, by rw [List.getElem?_append_left (by omega)]; exact k1, k2.grownK grow hoh (by decide)⟩
    · rw [List.getElem?_append_right (by omega)] at hy
      have hi0 : i - hs.length = 0 := by
        rcases Nat.eq_zero_or_pos (i - hs.length) with h0 | h0
        · exact h0
        · rw [List.getElem?_eq_none (by simp; omega)] at hy; cases hy
      rw [hi0] at hy
      simp at hy
      subst hy
      exact ⟨_, by rw [List.getElem?_append_right (by omega), show i - css.length = 0 by omega]; rfl, KLb.grownK ⟨A, k, rfl, hk, hA⟩ grow hoh (by decide)⟩
def KPushPost (t : Tp) (w : World) (B q g n : Nat) (hs : List (Nat × List Nat)) (e : Ending) (w' : World) : Prop :=
  e = .returned (.tuple #[]) ∧ ∃ g' c', n ≤ c' ∧ KQu t w' B q g' n c' hs ∧ KF w w' q g g'
theorem push_fin {t : Tp} {w W w' : World} {B q g n c g' c' : Nat} {hs : List (Nat × List Nat)} {z : Nat × List Nat} {A : Option Addr} {k : Nat} {css : List (List Value)} (X : Ext w W) (hqu : KQu t W B q g n c hs) (h1 : css.length = n) (h2 : ∀ cs ∈ css, cs.length = 4) (hown : W.ownsRow B 105 4 (.slice (some ⟨g, 0, none⟩) n c) n css.flatten)
    (h4 : ∀ (i : Nat) (z : Nat × List Nat), hs[i]? = some z → ∃ cs, css[i]? = some cs ∧ KLb t B W cs z) (hk : z.2.length ≤ k) (hA : RdF B W A (ints z.2))
    (own' : w'.ownsRow B 105 4 (.slice (some ⟨g', 0, none⟩) (n + 1) c') (n + 1) (css.flatten ++ [.int .i64 (z.1 : Int), .int .i64 (kcost t z.2 : Nat), .int .i64 0, .slice A z.2.length k])) (grow : W.grownBy w' (Value.slice (some ⟨g, 0, none⟩) n c).ownBlock)
    (hb : (Value.slice (some ⟨g', 0, none⟩) (n + 1) c').ownBlock = (Value.slice (some ⟨g, 0, none⟩) n c).ownBlock ∨ (Value.slice (some ⟨g', 0, none⟩) (n + 1) c').ownBlock = some W.heap.size) (hc : n + 1 ≤ c') :
    (w'.cell? ⟨q, 0, none⟩ = some (.slice (some ⟨g, 0, none⟩) n c) ∧ w'.frozen? ⟨q, 0, none⟩ = false) ∧ KPushPost t w B q g (n + 1) (hs ++ [z]) (.returned (.tuple #[])) (w'.setCell ⟨q, 0, none⟩ (.slice (some ⟨g', 0, none⟩) (n + 1) c')) := by
  have hR := KRow.push hqu.row.len h1 h2 hown h4 hk hA own' grow
  have hbx := hqu.box.grownK grow (own_heap4 hown) (by decide)
  have gs := grown_set w' q 0 (.slice (some ⟨g', 0, none⟩) (n + 1) c')
  have hgg : g' = g ∨ W.heap.size ≤ g' := by
    rcases hb with hb | hb
    · have hb : some g' = some g := hb
      injection hb with hb
      exact .inl hb
    · have hb : some g' = some W.heap.size := hb
      injection hb with hb
      exact .inr (by omega)
  refine ⟨hbx.one, rfl, g', c', hc, ⟨?_, hR.grown gs hbx (by decide) (by decide)⟩, ((KF.of_ext q g X).tr (KF.grow grow hgg)).tr (KF.of_box g' gs)⟩
  have := hbx.set_ 0 (.slice (some ⟨g', 0, none⟩) (n + 1) c')
  simpa using this
set_option maxRecDepth 100000 in
set_option maxHeartbeats 4000000 in
theorem kPush_ok (t : Tp) (B q g n c : Nat) (hs : List (Nat × List Nat)) (z : Nat × List Nat) (A : Option Addr) (k : Nat) (w : World) (h : KQu t w B q g n c hs) (hk : z.2.length ≤ k) (hA : RdF B w A (ints z.2)) (hn : n ≤ 1000000) (hB : B ≤ w.heap.size) :
    Calls Tryz.prog 156 #[.pointer (some ⟨q, 0, none⟩), .iface 105 (kAgg t z A k)] w (KPushPost t w B q g (n + 1) (hs ++ [z])) := by
  obtain ⟨z1, z2⟩ := z
  simp only at hk hA
  have XB := (Ext.refl w).alloc (.cells #[.int .i64 (z1 : Int), .int .i64 (kcost t z2 : Nat), .int .i64 0, .slice A z2.length k] 105)
  have HB := (Blk.new w 105 #[.int .i64 (z1 : Int), .int .i64 (kcost t z2 : Nat), .int .i64 0, .slice A z2.length k])
  obtain ⟨W, hW⟩ : ∃ W, W = w.alloc (.cells #[.int .i64 (z1 : Int), .int .i64 (kcost t z2 : Nat), .int .i64 0, .slice A z2.length k] 105) := ⟨_, rfl⟩
  have HWS := Lib.hid (show W.heap.size = w.heap.size + 1 from by rw [hW]; simp)
  rw [← hW] at HB XB
  have X3 := XB.tr (((Ext.refl W).drewN 1).alloc (.cells #[.int .i64 (z1 : Int), .int .i64 (kcost t z2 : Nat), .int .i64 0, .slice A z2.length k] 105))
  have X3 : Ext w (W.drew.alloc (.cells #[.int .i64 (z1 : Int), .int .i64 (kcost t z2 : Nat), .int .i64 0, .slice A z2.length k] 105)) := X3
  have H3 := h.keep X3
  obtain ⟨css, h1, h2, hown, h4⟩ := H3.row.row
  have HQ := h.keep XB
  obtain ⟨V, hV⟩ : ∃ V : Value, V = .slice (some ⟨g, 0, none⟩) n c := ⟨_, rfl⟩
  have hbq : W.drew.cell? ⟨q, 0, none⟩ = some V := by rw [hV]; exact HQ.box.one.1
  have hbq2 : (W.drew.alloc (.cells #[.int .i64 (z1 : Int), .int .i64 (kcost t z2 : Nat), .int .i64 0, .slice A z2.length k] 105)).cell? ⟨q, 0, none⟩ = some V := cell_alloc_of hbq _
  have hbq3 : (W.alloc (.cells #[.int .i64 (z1 : Int), .int .i64 (kcost t z2 : Nat), .int .i64 0, .slice A z2.length k] 105)).drew.cell? ⟨q, 0, none⟩ = some V := cell_drew (cell_alloc_of (cell_drew hbq) _)
  have hbq4 : (W.alloc (.cells #[.int .i64 (z1 : Int), .int .i64 (kcost t z2 : Nat), .int .i64 0, .slice A z2.length k] 105)).cell? ⟨q, 0, none⟩ = some V := hbq3
  have OV := Lib.hid (show (W.drew.alloc (.cells #[.int .i64 (z1 : Int), .int .i64 (kcost t z2 : Nat), .int .i64 0, .slice A z2.length k] 105)).ownsRow B 105 4 V n css.flatten from by rw [hV]; exact hown)
  have HV := Lib.hid hV
  have l0 : W.drew.cell? ⟨w.heap.size, 0, none⟩ = some (.int .i64 (z1 : Int)) := (HB.cell 0).trans rfl
  have l1 : W.drew.cell? ⟨w.heap.size, 1, none⟩ = some (.int .i64 (kcost t z2 : Nat)) := (HB.cell 1).trans rfl
  have l2 : W.drew.cell? ⟨w.heap.size, 2, none⟩ = some (.int .i64 0) := (HB.cell 2).trans rfl
  have l3 : W.drew.cell? ⟨w.heap.size, 3, none⟩ = some (.slice A z2.length k) := (HB.cell 3).trans rfl
  have hqW : q < W.heap.size := HQ.box.lt
  have hwW : w.heap.size < W.heap.size := HB.lt
  have hqne : ¬ q = W.heap.size := Nat.ne_of_lt hqW
  have FN := Lib.hid (And.intro X3 (And.intro H3 (And.intro h1 (And.intro h2 (And.intro hown (And.intro h4 (And.intro hk (hA.keep X3))))))))
  unfold kAgg
  simp only
  generalize hkc : kcost t z2 = kc at *
  have HKC := Lib.hid hkc.symm
  clear hkc
  have HW := Lib.hid hW
  have hta : ∀ w : World, (Instr.typeAssert (.iface 105 (.agg #[.int .i64 (z1 : Int), .int .i64 (kc : Nat), .int .i64 0, .slice A z2.length k])) 20 105 true).run Tryz.prog w = .ok (.tuple #[.agg #[.int .i64 (z1 : Int), .int .i64 (kc : Nat), .int .i64 0, .slice A z2.length k], .bool true]) w := fun w => by rfl
  clear hV h hA XB hW HB HQ X3 H3 h1 h2 hown h4
  go_enter Tryz.func156, Tryz.ntmps156
  go_upto_region 2 with fail
  rw [← HW.out]
  refine wp_region_any (by kernel_rfl) ?_
  try (change wpAny _ _ _ _ _ _ _ (World.drew _))
  refine wpAny_take (i := 0) (v := ?_) rfl (by kernel_rfl) (by kernel_rfl) (by kernel_rfl) (fun _ _ _ h => h) (Or.inl ⟨by rfl, ?_⟩) ?_
  rotate_left
  focus (intro w; go_simp; try with_reducible rfl)
  refine wpAny_take (i := 1) (v := ?_) rfl (by kernel_rfl) (by kernel_rfl) (by kernel_rfl) (fun _ _ _ h => h) (Or.inl ⟨by rfl, ?_⟩) ?_
  rotate_left
  focus (intro w; go_simp; try with_reducible rfl)
  refine wpAny_take (i := 2) (v := ?_) rfl (by kernel_rfl) (by kernel_rfl) (by kernel_rfl) (fun _ _ _ h => h) (Or.inl ⟨by rfl, ?_⟩) ?_
  rotate_left
  focus (intro w; go_simp; try with_reducible rfl)
  refine wpAny_ready (rs := [3, 4]) (by kernel_rfl) (by simp) ?_
  refine AllReady.cons rfl (fun K hK => ?_) (AllReady.cons rfl (fun K hK => ?_) AllReady.nil)
  focus
    go_simp
    refine hK _ _ ?_
    clear hK K
    refine wpAny_ready (rs := [4]) (by kernel_rfl) (by simp) ?_
    refine AllReady.cons rfl (fun K hK => ?_) AllReady.nil
    go_simp
    refine hK _ _ ?_
    clear hK K
    refine wpAny_ready (rs := [5]) (by kernel_rfl) (by simp) ?_
    refine AllReady.cons rfl (fun K hK => ?_) AllReady.nil
    go_simp
    refine hK _ _ ?_
    clear hK K
  rotate_left
  focus
    go_simp
    refine hK _ _ ?_
    clear hK K
    refine wpAny_ready (rs := [3, 5]) (by kernel_rfl) (by simp) ?_
    refine AllReady.cons rfl (fun K hK => ?_) (AllReady.cons rfl (fun K hK => ?_) AllReady.nil)
    focus
      go_simp
      refine hK _ _ ?_
      clear hK K
      refine wpAny_ready (rs := [5]) (by kernel_rfl) (by simp) ?_
      refine AllReady.cons rfl (fun K hK => ?_) AllReady.nil
      go_simp
      refine hK _ _ ?_
      clear hK K
    rotate_left
    focus
      go_simp
      refine hK _ _ ?_
      clear hK K
      refine wpAny_ready (rs := [3]) (by kernel_rfl) (by simp) ?_
      refine AllReady.cons rfl (fun K hK => ?_) AllReady.nil
      go_simp
      refine hK _ _ ?_
      clear hK K
  all_goals
    refine wpAny_ready (rs := [6]) (by kernel_rfl) (by simp) ?_
    refine AllReady.cons rfl (fun K hK => ?_) AllReady.nil
    rw [if_pos (by rfl)]
    refine wp_push4 (W.drew.alloc (.cells #[.int .i64 (z1 : Int), .int .i64 (kc : Nat), .int .i64 0, .slice A z2.length k] 105)) (.tmp 15) (.tmp 17) (by rfl) B V n css.flatten (by rfl) OV.out _ _ _ _ rfl rfl rfl rfl (W.heap.size) (by rfl) (Blk.new W.drew _ _) (by omega) (by have := HWS.out; simp; omega) ?_
    intro v' w' own' grow' hblk'
    rw [HV.out] at grow' hblk'
    rw [HKC.out] at own'
    obtain ⟨g', c', rfl, hc'⟩ := own_form4 own'
    have FIN := Lib.hid (push_fin (z := (z1, z2)) FN.out.1 FN.out.2.1 FN.out.2.2.1 FN.out.2.2.2.1 FN.out.2.2.2.2.1 FN.out.2.2.2.2.2.1 FN.out.2.2.2.2.2.2.1 FN.out.2.2.2.2.2.2.2 own' grow' hblk' hc')
    obtain ⟨c9, f9⟩ := FIN.out.1
    clear own' grow' hblk'
    refine hK _ _ ?_
    clear hK K
    refine wpAny_take (i := 7) (v := ?_) rfl (by kernel_rfl) (by kernel_rfl) (by kernel_rfl) (fun _ _ _ h => h) (Or.inl ⟨by rfl, ?_⟩) ?_
    rotate_left
    focus (intro w; go_simp; try with_reducible rfl)
    refine wpAny_ready (rs := [8]) (by kernel_rfl) (by simp) ?_
    refine AllReady.cons rfl (fun K hK => ?_) AllReady.nil
    go_simp
    refine hK _ _ ?_
    clear hK K
    refine wpAny_done (by kernel_rfl) ?_ _
    go_wp2
    go_end0
    exact FIN.out.2
def HPushPost (t : Tp) (w : World) (B q g n : Nat) (hs : List (Nat × List Nat)) (e : Ending) (w' : World) : Prop :=
  e = .returned (.tuple #[]) ∧ ∃ (g' c' : Nat) (hs' : List (Nat × List Nat)), hs'.Perm hs ∧ HeapN (leK t) hs' n ∧ n ≤ c' ∧ KQu t w' B q g' n c' hs' ∧ KF w w' q g g'
set_option maxRecDepth 100000 in
set_option maxHeartbeats 4000000 in
theorem hPush_ok (t : Tp) (o : LeO (leK t)) (B q g n c : Nat) (hs : List (Nat × List Nat)) (z : Nat × List Nat) (A : Option Addr) (k : Nat) (w : World) (h : KQu t w B q g n c hs) (hp : HeapN (leK t) hs n) (hlen : ∀ y ∈ z :: hs, y.2.length ≤ 1000000) (hk : z.2.length ≤ k) (hA : RdF B w A (ints z.2)) (hn : n + 1 ≤ 1000000) (hB : B ≤ w.heap.size) :
    Calls Tryz.prog 63 #[.iface 103 (.pointer (some ⟨q, 0, none⟩)), .iface 105 (kAgg t z A k)] w (HPushPost t w B q g (n + 1) (z :: hs)) := by
  have hl := h.row.len
  have H := Lib.hid (And.intro h (And.intro hp (And.intro hlen (And.intro hk hA))))
  have O := Lib.hid o
  have HN := Lib.hid hl
  have hm1 := mPush q w
  have hnn : ((n + 1 : Nat) : Int) - 1 = (n : Int) := by omega
  clear h hp hlen hk hA o hl
  generalize hkg : kAgg t z A k = V
  have HKG := Lib.hid hkg
  clear hkg
  go_enter Tryz.func63, Tryz.ntmps63
  go_wp2_with fail
  rw [← HKG.out]
  refine (kPush_ok t B q g n c hs z A k _ H.out.1 H.out.2.2.2.1 H.out.2.2.2.2 (by omega) hB).mono ?_
  rintro e w1 ⟨rfl, g1, c1, hc1, q1, f1⟩
  have L1 := Lib.hid (And.intro q1 f1)
  have UP := Lib.hid (show UpI (leK t) (hs ++ [z]) (n + 1) n from by
    have := HeapN.push (le := leK t) (l := hs) (by rw [HN.out]; exact H.out.2.1) z
    rw [HN.out] at this
    exact this)
  have hm2 := mLen q (n + 1) c1 (some ⟨g1, 0, none⟩) w1 q1.box.one.1
  clear q1 f1 hm1
  go_wp2_with fail
  refine (kLen_ok _ (n + 1) c1 _).mono ?_
  rintro e w2 ⟨rfl, rfl⟩
  go_wp2_with fail
  refine (kUp_ok t O.out B q g1 (n + 1) c1 n (hs ++ [z]) _ L1.out.1 UP.out (by omega) (fun y hy => H.out.2.2.1 y (by
    rcases List.mem_append.1 hy with hy | hy
    · exact List.mem_cons_of_mem _ hy
    · simp at hy; rw [hy]; exact List.mem_cons_self)) hn).mono ?_
  rintro e w3 ⟨rfl, hs3, p3, h3, q3, f3⟩
  have FIN := Lib.hid (show HPushPost t w B q g (n + 1) (z :: hs) (.returned (.tuple #[])) w3 from
    ⟨rfl, g1, c1, hs3, p3.trans (List.perm_append_singleton z hs), h3, hc1, q3, L1.out.2.tr f3⟩)
  clear p3 h3 q3 f3 hm2
  go_wp2
  go_end0
  exact FIN.out
end Go.Proofs.YtjmkcckbbgpkeaaGreatDoor
