/- container/heap on the queue of kpaths. -/
import Derived.Test.YtjmkcckbbgpkeaaGreatDoorKpW
set_option linter.unusedVariables false
set_option linter.unusedSimpArgs false

namespace Go.Proofs.YtjmkcckbbgpkeaaGreatDoor
open Go.RowKit
theorem wrapChk (P : Program) (ts : Array TypeId) (xt : TypeId) (a : Addr) (x y : String) (w : World) : (Builtin.ssaWrapNilChk_ ts xt #[.pointer (some a), strVal x, strVal y]).run P w = .ok (.pointer (some a)) w := rfl
theorem method_val {P : Program} {K t e f : Nat} {name : String} {i : TypeInfo} {m : Method} (hi : P.info? t = some i) (hm : i.methods.find? (fun x => x.name == name) = some m) (hp : m.path = #[]) (hf : m.func = some (f, false)) (ht : P.underlying t = some (.pointer e)) (a : Addr) (v : Value) (w : World) (hl : (loadVar e a).run P w = .ok v w) :
    (method (K + 1) t (.pointer (some a)) name).run P w = .ok (f, v) w := by
  have key : (method (K + 1) t (.pointer (some a)) name).run P w = ((loadVar e a).run P w).andThen fun v w' => .ok (f, v) w' := by
    unfold method
    simp [typeInfo, hi, hm, hp, hf, follow, receiverAt, run_underlying ht, Place.get, wrapChk, asAddr, go_sem]
  rw [key, hl]
  rfl
set_option maxRecDepth 100000 in
theorem load_q (q n c : Nat) (A : Option Addr) (w : World) (hb : w.cell? ⟨q, 0, none⟩ = some (.slice A n c)) : (loadVar 107 ⟨q, 0, none⟩).run Tryz.prog w = .ok (.slice A n c) w := by
  simp [loadVar, go_sem, hb]
theorem mVal (name : String) (f : Nat) (h : ((Tryz.prog.info? 103).bind fun i => (i.methods.find? (fun x => x.name == name)).map fun m => (m.path, m.func)) = some (#[], some (f, false))) (q n c : Nat) (A : Option Addr) (w : World) (hb : w.cell? ⟨q, 0, none⟩ = some (.slice A n c)) : (method 320 103 (.pointer (some ⟨q, 0, none⟩)) name).run Tryz.prog w = .ok (f, .slice A n c) w := by
  cases hi : Tryz.prog.info? 103 with
  | none => rw [hi] at h; cases h
  | some i =>
    rw [hi] at h
    cases hm : i.methods.find? (fun x => x.name == name) with
    | none => simp [hm] at h
    | some m =>
      simp [hm] at h
      exact method_val (K := 319) hi hm h.1 h.2 Tryz.underlying103 _ _ w (load_q q n c A w hb)
theorem mLen (q n c : Nat) (A : Option Addr) (w : World) (hb : w.cell? ⟨q, 0, none⟩ = some (.slice A n c)) : (method 320 103 (.pointer (some ⟨q, 0, none⟩)) "Len").run Tryz.prog w = .ok (59, .slice A n c) w := mVal "Len" 59 (by kernel_rfl) q n c A w hb
theorem mLess (q n c : Nat) (A : Option Addr) (w : World) (hb : w.cell? ⟨q, 0, none⟩ = some (.slice A n c)) : (method 320 103 (.pointer (some ⟨q, 0, none⟩)) "Less").run Tryz.prog w = .ok (154, .slice A n c) w := mVal "Less" 154 (by kernel_rfl) q n c A w hb
theorem mSwap (q n c : Nat) (A : Option Addr) (w : World) (hb : w.cell? ⟨q, 0, none⟩ = some (.slice A n c)) : (method 320 103 (.pointer (some ⟨q, 0, none⟩)) "Swap").run Tryz.prog w = .ok (157, .slice A n c) w := mVal "Swap" 157 (by kernel_rfl) q n c A w hb
theorem mPush (q : Nat) (w : World) : (method 320 103 (.pointer (some ⟨q, 0, none⟩)) "Push").run Tryz.prog w = .ok (156, .pointer (some ⟨q, 0, none⟩)) w := by kernel_rfl
theorem mPop (q : Nat) (w : World) : (method 320 103 (.pointer (some ⟨q, 0, none⟩)) "Pop").run Tryz.prog w = .ok (155, .pointer (some ⟨q, 0, none⟩)) w := by kernel_rfl
theorem leK_of {t : Tp} (o : LeO (leK t)) {x y : Nat × List Nat} (h : ordK t x.2 y.2 < 0) : leK t x y := by
  rcases o.tot x y with h1 | h1
  · exact h1
  · exact absurd h h1
theorem KQu.swap {t : Tp} {w w' : World} {B q g n c : Nat} {hs hs' : List (Nat × List Nat)} (h : KQu t w B q g n c hs) (hr : KRow t w' B g n c hs') (hg : w.grownBy w' (some g)) : KQu t w' B q g n c hs' ∧ KF w w' q g g := by
  obtain ⟨cg, hcg⟩ := h.row.blk
  exact ⟨⟨(hg.block q h.box.lt (fun e => by injection e with e; exact h.box.ne_ hcg (by decide) e)).trans h.box, hr⟩, KF.of_row q hg⟩
set_option maxRecDepth 100000 in
set_option maxHeartbeats 4000000 in
theorem kUp_ok (t : Tp) (o : LeO (leK t)) (B q g n c j : Nat) (hs : List (Nat × List Nat)) (w : World) (h : KQu t w B q g n c hs) (hup : UpI (leK t) hs n j) (hj : j < n) (hlen : ∀ z ∈ hs, z.2.length ≤ 1000000) (hn : n ≤ 1000000) :
    Calls Tryz.prog 88 #[.iface 103 (.pointer (some ⟨q, 0, none⟩)), .int .i64 (j : Int)] w fun e w' => e = .returned (.tuple #[]) ∧ ∃ hs', hs'.Perm hs ∧ HeapN (leK t) hs' n ∧ KQu t w' B q g n c hs' ∧ KF w w' q g g := by
  have S0 := Lib.hid (show hs.Perm hs ∧ UpI (leK t) hs n j ∧ KQu t w B q g n c hs ∧ KF w w q g g from ⟨.refl _, hup, h, KF.of_ext q g (Ext.refl _)⟩)
  have HL := Lib.hid hlen
  have O := Lib.hid o
  clear h hup hlen o
  go_enter Tryz.func88, Tryz.ntmps88
  go_wp2
  go_loopg [1, 4] j (fun m jt _ wr => ∃ (k : Nat) (hs' : List (Nat × List Nat)), k = m ∧ k < n ∧ jt = .int .i64 (k : Int) ∧ Hid (hs'.Perm hs ∧ UpI (leK t) hs' n k ∧ KQu t wr B q g n c hs' ∧ KF w wr q g g))
  case atStart => exact ⟨j, hs, rfl, hj, rfl, S0⟩
  case round =>
    obtain ⟨k, hs', rfl, hk, rfl, L⟩ := hrel
    clear S0
    by_cases h0 : k = 0
    · subst h0
      have FIN := Lib.hid (show ∃ hs', hs'.Perm hs ∧ HeapN (leK t) hs' n ∧ KQu t wr B q g n c hs' ∧ KF w wr q g g from ⟨hs', L.out.1, L.out.2.1.done (.inl rfl), L.out.2.2⟩)
      have hd0 : ((0 : Int) - 1).tdiv 2 = 0 := by decide
      clear L
      go_wp2
      go_end0
      exact ⟨rfl, FIN.out⟩
    · obtain ⟨i, hi⟩ : ∃ i, i = (k - 1) / 2 := ⟨_, rfl⟩
      have hik : i < k := by omega
      have hdv : ((k : Int) - 1).tdiv 2 = (i : Int) := by
        rw [Int.tdiv_eq_ediv_of_nonneg (by omega)]; omega
      have hne : ((i : Int) == (k : Int)) = false := beq_eq_false_iff_ne.2 (by omega)
      have HI := Lib.hid hi
      have hl := L.out.2.2.1.row.len
      obtain ⟨x, hx⟩ : ∃ x, hs'[k]? = some x := ⟨_, List.getElem?_eq_getElem (by omega)⟩
      obtain ⟨y, hy⟩ : ∃ y, hs'[i]? = some y := ⟨_, List.getElem?_eq_getElem (by omega)⟩
      have hxl := HL.out x (L.out.1.mem_iff.1 (List.mem_of_getElem? hx))
      have hyl := HL.out y (L.out.1.mem_iff.1 (List.mem_of_getElem? hy))
      have hm := mLess q n c (some ⟨g, 0, none⟩) wr L.out.2.2.1.box.one.1
      have HX := Lib.hid (And.intro hx hy)
      clear hi hl hx hy
      go_wp2_with fail
      refine (kLess_ok t B g n c k i hs' x y _ L.out.2.2.1.row HX.out.1 HX.out.2 hxl hyl hn).mono ?_
      rintro e w1 ⟨rfl, x1⟩
      have L1 := Lib.hid (show hs'.Perm hs ∧ UpI (leK t) hs' n k ∧ KQu t w1 B q g n c hs' ∧ KF w w1 q g g from ⟨L.out.1, L.out.2.1, L.out.2.2.1.keep x1, L.out.2.2.2.tr (KF.of_ext q g x1)⟩)
      clear L x1 hm
      by_cases hlt : ordK t x.2 y.2 < 0
      · have hd : decide (ordK t x.2 y.2 < 0) = true := decide_eq_true hlt
        rw [hd]
        have UP := Lib.hid (show UpI (leK t) (swapG hs' i k) n i from by
          have := L1.out.2.1.step O.out (by omega) hk (by rw [← HI.out]; exact HX.out.2) HX.out.1 (leK_of O.out hlt)
          rw [← HI.out] at this; exact this)
        have PM := Lib.hid ((swapG_perm HX.out.2 HX.out.1).trans L1.out.1)
        have hm := mSwap q n c (some ⟨g, 0, none⟩) w1 L1.out.2.2.1.box.one.1
        clear hlt hd
        go_wp2_with fail
        refine (kSwap_ok t B g n c i k hs' y x _ L1.out.2.2.1.row HX.out.2 HX.out.1 hn).mono ?_
        rintro e w2 ⟨rfl, r2, g2⟩
        have Q2 := L1.out.2.2.1.swap r2 g2
        have L2 := Lib.hid (show (swapG hs' i k).Perm hs ∧ UpI (leK t) (swapG hs' i k) n i ∧ KQu t w2 B q g n c (swapG hs' i k) ∧ KF w w2 q g g from ⟨PM.out, UP.out, Q2.1, L1.out.2.2.2.tr Q2.2⟩)
        clear r2 g2 Q2 L1 UP PM HX hm
        go_wp2
        go_roundg i
        case measure => omega
        case rel => exact ⟨i, swapG hs' i k, rfl, by omega, rfl, L2⟩
      · have hd : decide (ordK t x.2 y.2 < 0) = false := decide_eq_false hlt
        rw [hd]
        have FIN := Lib.hid (show ∃ hs', hs'.Perm hs ∧ HeapN (leK t) hs' n ∧ KQu t w1 B q g n c hs' ∧ KF w w1 q g g from ⟨hs', L1.out.1, L1.out.2.1.done (.inr (fun a b ha hb => by
          rw [← HI.out, HX.out.2] at ha
          rw [HX.out.1] at hb
          injection ha with ha; injection hb with hb
          subst ha hb
          exact hlt)), L1.out.2.2⟩)
        clear L1 HX hlt hd
        go_wp2
        go_end0
        exact ⟨rfl, FIN.out⟩
set_option maxRecDepth 100000 in
set_option maxHeartbeats 8000000 in
theorem kDown_ok (t : Tp) (o : LeO (leK t)) (B q g n c m : Nat) (hs : List (Nat × List Nat)) (w : World) (h : KQu t w B q g n c hs) (hdn : DownI (leK t) hs m 0) (hmn : m ≤ n) (hlen : ∀ z ∈ hs, z.2.length ≤ 1000000) (hn : n ≤ 1000000) :
    Calls Tryz.prog 86 #[.iface 103 (.pointer (some ⟨q, 0, none⟩)), .int .i64 0, .int .i64 (m : Int)] w fun e w' => (∃ b : Bool, e = .returned (.bool b)) ∧ ∃ hs', hs'.Perm hs ∧ HeapN (leK t) hs' m ∧ (∀ k, m ≤ k → hs'[k]? = hs[k]?) ∧ KQu t w' B q g n c hs' ∧ KF w w' q g g := by
  have S0 := Lib.hid (show DownI (leK t) hs m 0 ∧ KQu t w B q g n c hs ∧ KF w w q g g from ⟨hdn, h, KF.of_ext q g (Ext.refl _)⟩)
  have HL := Lib.hid hlen
  have O := Lib.hid o
  clear h hdn hlen o
  go_enter Tryz.func86, Tryz.ntmps86
  go_wp2
  go_loopg [7, 8, 9, 10] m (fun mm it _ _ _ wr => ∃ (i : Nat) (hs' : List (Nat × List Nat)), m - i = mm ∧ i ≤ m ∧ it = .int .i64 (i : Int) ∧ Hid (hs'.Perm hs ∧ DownI (leK t) hs' m i ∧ (∀ k, m ≤ k → hs'[k]? = hs[k]?) ∧ KQu t wr B q g n c hs' ∧ KF w wr q g g))
  case atStart => exact ⟨0, hs, rfl, Nat.zero_le _, rfl, Lib.hid ⟨.refl _, S0.out.1, fun _ _ => rfl, S0.out.2.1, S0.out.2.2⟩⟩
  case round =>
    obtain ⟨i, hs', rfl, him, rfl, L⟩ := hrel
    clear S0
    obtain ⟨j1, hj1⟩ : ∃ j1, j1 = 2 * i + 1 := ⟨_, rfl⟩
    have hv1 : (2 : Int) * (i : Int) + 1 = (j1 : Int) := by omega
    have HJ1 := Lib.hid hj1
    by_cases h1 : m ≤ j1
    · have hge : (m : Int) ≤ (j1 : Int) := by omega
      have FIN := Lib.hid (show ∃ hs', hs'.Perm hs ∧ HeapN (leK t) hs' m ∧ (∀ k, m ≤ k → hs'[k]? = hs[k]?) ∧ KQu t wr B q g n c hs' ∧ KF w wr q g g from ⟨hs', L.out.1, L.out.2.1.done (fun k a b hk0 hkm hki => by omega), L.out.2.2⟩)
      clear L hj1
      go_wp2
      go_ret
      exact ⟨⟨_, rfl⟩, FIN.out⟩
    · have hlt1 : ¬ (m : Int) ≤ (j1 : Int) := by omega
      have hneg : ¬ ((j1 : Int) < 0) := by omega
      have hl := L.out.2.2.2.1.row.len
      obtain ⟨x, hx⟩ : ∃ x, hs'[i]? = some x := ⟨_, List.getElem?_eq_getElem (by omega)⟩
      obtain ⟨y, hy⟩ : ∃ y, hs'[j1]? = some y := ⟨_, List.getElem?_eq_getElem (by omega)⟩
      have hxl := HL.out x (L.out.1.mem_iff.1 (List.mem_of_getElem? hx))
      have hyl := HL.out y (L.out.1.mem_iff.1 (List.mem_of_getElem? hy))
      have HX := Lib.hid (And.intro hx hy)
      have hj1m : j1 < m := by omega
      obtain ⟨j2, hj2⟩ : ∃ j2, j2 = j1 + 1 := ⟨_, rfl⟩
      have hv2 : (j1 : Int) + 1 = (j2 : Int) := by omega
      have HJ2 := Lib.hid hj2
      clear hx hy hj1 h1
      by_cases h2 : j2 < m
      · have hlt2 : (j2 : Int) < (m : Int) := by omega
        obtain ⟨y2, hy2⟩ : ∃ y2, hs'[j2]? = some y2 := ⟨_, List.getElem?_eq_getElem (by omega)⟩
        have hyl2 := HL.out y2 (L.out.1.mem_iff.1 (List.mem_of_getElem? hy2))
        have HY2 := Lib.hid hy2
        have hm0 := mLess q n c (some ⟨g, 0, none⟩) wr L.out.2.2.2.1.box.one.1
        clear hl hy2 hj2
        go_wp2_with fail
        refine (kLess_ok t B g n c j2 j1 hs' y2 y _ L.out.2.2.2.1.row HY2.out HX.out.2 hyl2 hyl hn).mono ?_
        rintro e wx ⟨rfl, x2⟩
        have M := Lib.hid (show hs'.Perm hs ∧ DownI (leK t) hs' m i ∧ (∀ k, m ≤ k → hs'[k]? = hs[k]?) ∧ KQu t wx B q g n c hs' ∧ KF w wx q g g from ⟨L.out.1, L.out.2.1, L.out.2.2.1, L.out.2.2.2.1.keep x2, L.out.2.2.2.2.tr (KF.of_ext q g x2)⟩)
        clear L x2 hm0
        by_cases hlt : ordK t y2.2 y.2 < 0
        · have hd : decide (ordK t y2.2 y.2 < 0) = true := decide_eq_true hlt
          rw [hd]
          obtain ⟨z, hz⟩ : ∃ z, z = y2 := ⟨_, rfl⟩
          have HZ := Lib.hid (show hs'[j2]? = some z by rw [hz]; exact HY2.out)
          have HPAR := Lib.hid (show (j2 - 1) / 2 = i by have := HJ1.out; have := HJ2.out; omega)
          have hJm : j2 < m := h2
          have HMIN := Lib.hid (show ∀ (k : Nat) (c : Nat × List Nat), 0 < k → k < m → (k - 1) / 2 = i → hs'[k]? = some c → leK t z c from fun k c hk0 hkm hki hc => by
            have := HJ1.out; have := HJ2.out
            rcases (show k = j1 ∨ k = j2 by omega) with e | e
            · subst e
              rw [HX.out.2] at hc; injection hc with hc; subst hc
              rw [hz]; exact leK_of O.out hlt
            · subst e
              rw [HZ.out] at hc; injection hc with hc; subst hc
              exact O.out.refl _)
          clear hd hlt hz HY2
          have hzl := HL.out z (M.out.1.mem_iff.1 (List.mem_of_getElem? HZ.out))
          have hm := mLess q n c (some ⟨g, 0, none⟩) wx M.out.2.2.2.1.box.one.1
          go_wp2_with fail
          refine (kLess_ok t B g n c j2 i hs' z x _ M.out.2.2.2.1.row HZ.out HX.out.1 hzl hxl hn).mono ?_
          rintro e w3 ⟨rfl, x3⟩
          have M3 := Lib.hid (show hs'.Perm hs ∧ DownI (leK t) hs' m i ∧ (∀ k, m ≤ k → hs'[k]? = hs[k]?) ∧ KQu t w3 B q g n c hs' ∧ KF w w3 q g g from ⟨M.out.1, M.out.2.1, M.out.2.2.1, M.out.2.2.2.1.keep x3, M.out.2.2.2.2.tr (KF.of_ext q g x3)⟩)
          clear M x3 hm
          by_cases hlt : ordK t z.2 x.2 < 0
          · have hd : decide (ordK t z.2 x.2 < 0) = true := decide_eq_true hlt
            rw [hd]
            have DN := Lib.hid (show DownI (leK t) (swapG hs' i j2) m j2 from M3.out.2.1.step O.out (by omega) hJm HPAR.out HX.out.1 HZ.out (leK_of O.out hlt) HMIN.out)
            have PM := Lib.hid ((swapG_perm HX.out.1 HZ.out).trans M3.out.1)
            have KP := Lib.hid (show ∀ k, m ≤ k → (swapG hs' i j2)[k]? = hs[k]? from fun k hk => by
              rw [swapG_get HX.out.1 HZ.out, if_neg (by omega), if_neg (by omega)]
              exact M3.out.2.2.1 k hk)
            have hm := mSwap q n c (some ⟨g, 0, none⟩) w3 M3.out.2.2.2.1.box.one.1
            clear hlt hd
            go_wp2_with fail
            refine (kSwap_ok t B g n c i j2 hs' x z _ M3.out.2.2.2.1.row HX.out.1 HZ.out hn).mono ?_
            rintro e w4 ⟨rfl, r4, g4⟩
            have Q4 := M3.out.2.2.2.1.swap r4 g4
            have L4 := Lib.hid (show (swapG hs' i j2).Perm hs ∧ DownI (leK t) (swapG hs' i j2) m j2 ∧ (∀ k, m ≤ k → (swapG hs' i j2)[k]? = hs[k]?) ∧ KQu t w4 B q g n c (swapG hs' i j2) ∧ KF w w4 q g g from ⟨PM.out, DN.out, KP.out, Q4.1, M3.out.2.2.2.2.tr Q4.2⟩)
            clear r4 g4 Q4 M3 DN PM KP HX HZ HMIN hm
            go_wp2
            go_roundg (m - j2)
            case measure => omega
            case rel => exact ⟨j2, swapG hs' i j2, rfl, by omega, rfl, L4⟩
          · have hd : decide (ordK t z.2 x.2 < 0) = false := decide_eq_false hlt
            rw [hd]
            have FIN := Lib.hid (show ∃ hs', hs'.Perm hs ∧ HeapN (leK t) hs' m ∧ (∀ k, m ≤ k → hs'[k]? = hs[k]?) ∧ KQu t w3 B q g n c hs' ∧ KF w w3 q g g from ⟨hs', M3.out.1, M3.out.2.1.done (fun k a b hk0 hkm hki ha hb => by
              rw [HX.out.1] at ha
              injection ha with ha
              subst ha
              exact O.out.tr _ _ _ (show leK t x z from hlt) (HMIN.out k b hk0 hkm hki hb)), M3.out.2.2⟩)
            clear M3 HX HZ HMIN hlt hd
            go_wp2
            go_ret
            exact ⟨⟨_, rfl⟩, FIN.out⟩
        · have hd : decide (ordK t y2.2 y.2 < 0) = false := decide_eq_false hlt
          rw [hd]
          obtain ⟨z, hz⟩ : ∃ z, z = y := ⟨_, rfl⟩
          have HZ := Lib.hid (show hs'[j1]? = some z by rw [hz]; exact HX.out.2)
          have HPAR := Lib.hid (show (j1 - 1) / 2 = i by have := HJ1.out; omega)
          have hJm : j1 < m := hj1m
          have HMIN := Lib.hid (show ∀ (k : Nat) (c : Nat × List Nat), 0 < k → k < m → (k - 1) / 2 = i → hs'[k]? = some c → leK t z c from fun k c hk0 hkm hki hc => by
            have := HJ1.out; have := HJ2.out
            rcases (show k = j1 ∨ k = j2 by omega) with e | e
            · subst e
              rw [HZ.out] at hc; injection hc with hc; subst hc
              exact O.out.refl _
            · subst e
              rw [HY2.out] at hc; injection hc with hc; subst hc
              rw [hz]; exact hlt)
          clear hd hlt hz HY2
          have hzl := HL.out z (M.out.1.mem_iff.1 (List.mem_of_getElem? HZ.out))
          have hm := mLess q n c (some ⟨g, 0, none⟩) wx M.out.2.2.2.1.box.one.1
          go_wp2_with fail
          refine (kLess_ok t B g n c j1 i hs' z x _ M.out.2.2.2.1.row HZ.out HX.out.1 hzl hxl hn).mono ?_
          rintro e w3 ⟨rfl, x3⟩
          have M3 := Lib.hid (show hs'.Perm hs ∧ DownI (leK t) hs' m i ∧ (∀ k, m ≤ k → hs'[k]? = hs[k]?) ∧ KQu t w3 B q g n c hs' ∧ KF w w3 q g g from ⟨M.out.1, M.out.2.1, M.out.2.2.1, M.out.2.2.2.1.keep x3, M.out.2.2.2.2.tr (KF.of_ext q g x3)⟩)
          clear M x3 hm
          by_cases hlt : ordK t z.2 x.2 < 0
          · have hd : decide (ordK t z.2 x.2 < 0) = true := decide_eq_true hlt
            rw [hd]
            have DN := Lib.hid (show DownI (leK t) (swapG hs' i j1) m j1 from M3.out.2.1.step O.out (by omega) hJm HPAR.out HX.out.1 HZ.out (leK_of O.out hlt) HMIN.out)
            have PM := Lib.hid ((swapG_perm HX.out.1 HZ.out).trans M3.out.1)
            have KP := Lib.hid (show ∀ k, m ≤ k → (swapG hs' i j1)[k]? = hs[k]? from fun k hk => by
              rw [swapG_get HX.out.1 HZ.out, if_neg (by omega), if_neg (by omega)]
              exact M3.out.2.2.1 k hk)
            have hm := mSwap q n c (some ⟨g, 0, none⟩) w3 M3.out.2.2.2.1.box.one.1
            clear hlt hd
            go_wp2_with fail
            refine (kSwap_ok t B g n c i j1 hs' x z _ M3.out.2.2.2.1.row HX.out.1 HZ.out hn).mono ?_
            rintro e w4 ⟨rfl, r4, g4⟩
            have Q4 := M3.out.2.2.2.1.swap r4 g4
            have L4 := Lib.hid (show (swapG hs' i j1).Perm hs ∧ DownI (leK t) (swapG hs' i j1) m j1 ∧ (∀ k, m ≤ k → (swapG hs' i j1)[k]? = hs[k]?) ∧ KQu t w4 B q g n c (swapG hs' i j1) ∧ KF w w4 q g g from ⟨PM.out, DN.out, KP.out, Q4.1, M3.out.2.2.2.2.tr Q4.2⟩)
            clear r4 g4 Q4 M3 DN PM KP HX HZ HMIN hm
            go_wp2
            go_roundg (m - j1)
            case measure => omega
            case rel => exact ⟨j1, swapG hs' i j1, rfl, by omega, rfl, L4⟩
          · have hd : decide (ordK t z.2 x.2 < 0) = false := decide_eq_false hlt
            rw [hd]
            have FIN := Lib.hid (show ∃ hs', hs'.Perm hs ∧ HeapN (leK t) hs' m ∧ (∀ k, m ≤ k → hs'[k]? = hs[k]?) ∧ KQu t w3 B q g n c hs' ∧ KF w w3 q g g from ⟨hs', M3.out.1, M3.out.2.1.done (fun k a b hk0 hkm hki ha hb => by
              rw [HX.out.1] at ha
              injection ha with ha
              subst ha
              exact O.out.tr _ _ _ (show leK t x z from hlt) (HMIN.out k b hk0 hkm hki hb)), M3.out.2.2⟩)
            clear M3 HX HZ HMIN hlt hd
            go_wp2
            go_ret
            exact ⟨⟨_, rfl⟩, FIN.out⟩
      · have hlt2 : ¬ (j2 : Int) < (m : Int) := by omega
        obtain ⟨z, hz⟩ : ∃ z, z = y := ⟨_, rfl⟩
        have HZ := Lib.hid (show hs'[j1]? = some z by rw [hz]; exact HX.out.2)
        have HPAR := Lib.hid (show (j1 - 1) / 2 = i by have := HJ1.out; omega)
        have hJm : j1 < m := hj1m
        have HMIN := Lib.hid (show ∀ (k : Nat) (c : Nat × List Nat), 0 < k → k < m → (k - 1) / 2 = i → hs'[k]? = some c → leK t z c from fun k c hk0 hkm hki hc => by
          have := HJ1.out; have := HJ2.out
          obtain rfl : k = j1 := by omega
          rw [HZ.out] at hc; injection hc with hc; subst hc
          exact O.out.refl _)
        obtain ⟨wx, hwx⟩ : ∃ wx, wr = wx := ⟨_, rfl⟩
        subst hwx
        have M := L
        clear hz hl hj2 L
        have hzl := HL.out z (M.out.1.mem_iff.1 (List.mem_of_getElem? HZ.out))
        have hm := mLess q n c (some ⟨g, 0, none⟩) wr M.out.2.2.2.1.box.one.1
        go_wp2_with fail
        refine (kLess_ok t B g n c j1 i hs' z x _ M.out.2.2.2.1.row HZ.out HX.out.1 hzl hxl hn).mono ?_
        rintro e w3 ⟨rfl, x3⟩
        have M3 := Lib.hid (show hs'.Perm hs ∧ DownI (leK t) hs' m i ∧ (∀ k, m ≤ k → hs'[k]? = hs[k]?) ∧ KQu t w3 B q g n c hs' ∧ KF w w3 q g g from ⟨M.out.1, M.out.2.1, M.out.2.2.1, M.out.2.2.2.1.keep x3, M.out.2.2.2.2.tr (KF.of_ext q g x3)⟩)
        clear M x3 hm
        by_cases hlt : ordK t z.2 x.2 < 0
        · have hd : decide (ordK t z.2 x.2 < 0) = true := decide_eq_true hlt
          rw [hd]
          have DN := Lib.hid (show DownI (leK t) (swapG hs' i j1) m j1 from M3.out.2.1.step O.out (by omega) hJm HPAR.out HX.out.1 HZ.out (leK_of O.out hlt) HMIN.out)
          have PM := Lib.hid ((swapG_perm HX.out.1 HZ.out).trans M3.out.1)
          have KP := Lib.hid (show ∀ k, m ≤ k → (swapG hs' i j1)[k]? = hs[k]? from fun k hk => by
            rw [swapG_get HX.out.1 HZ.out, if_neg (by omega), if_neg (by omega)]
            exact M3.out.2.2.1 k hk)
          have hm := mSwap q n c (some ⟨g, 0, none⟩) w3 M3.out.2.2.2.1.box.one.1
          clear hlt hd
          go_wp2_with fail
          refine (kSwap_ok t B g n c i j1 hs' x z _ M3.out.2.2.2.1.row HX.out.1 HZ.out hn).mono ?_
          rintro e w4 ⟨rfl, r4, g4⟩
          have Q4 := M3.out.2.2.2.1.swap r4 g4
          have L4 := Lib.hid (show (swapG hs' i j1).Perm hs ∧ DownI (leK t) (swapG hs' i j1) m j1 ∧ (∀ k, m ≤ k → (swapG hs' i j1)[k]? = hs[k]?) ∧ KQu t w4 B q g n c (swapG hs' i j1) ∧ KF w w4 q g g from ⟨PM.out, DN.out, KP.out, Q4.1, M3.out.2.2.2.2.tr Q4.2⟩)
          clear r4 g4 Q4 M3 DN PM KP HX HZ HMIN hm
          go_wp2
          go_roundg (m - j1)
          case measure => omega
          case rel => exact ⟨j1, swapG hs' i j1, rfl, by omega, rfl, L4⟩
        · have hd : decide (ordK t z.2 x.2 < 0) = false := decide_eq_false hlt
          rw [hd]
          have FIN := Lib.hid (show ∃ hs', hs'.Perm hs ∧ HeapN (leK t) hs' m ∧ (∀ k, m ≤ k → hs'[k]? = hs[k]?) ∧ KQu t w3 B q g n c hs' ∧ KF w w3 q g g from ⟨hs', M3.out.1, M3.out.2.1.done (fun k a b hk0 hkm hki ha hb => by
            rw [HX.out.1] at ha
            injection ha with ha
            subst ha
            exact O.out.tr _ _ _ (show leK t x z from hlt) (HMIN.out k b hk0 hkm hki hb)), M3.out.2.2⟩)
          clear M3 HX HZ HMIN hlt hd
          go_wp2
          go_ret
          exact ⟨⟨_, rfl⟩, FIN.out⟩
/-- What heap.Pop returns. -/
def HPopPost (t : Tp) (w : World) (B q g n c : Nat) (hs : List (Nat × List Nat)) (e : Ending) (w' : World) : Prop :=
  ∃ (z : Nat × List Nat) (hs' : List (Nat × List Nat)), hs.Perm (z :: hs') ∧ (∀ y ∈ hs, leK t z y) ∧ HeapN (leK t) hs' n ∧ KPopPost t w B q g n c z hs' e w'
theorem heap_take {le : Nat × List Nat → Nat × List Nat → Prop} {l : List (Nat × List Nat)} {n : Nat} (h : HeapN le l n) : HeapN le (l.take n) n := fun k a b h0 hk ha hb => by
  rw [List.getElem?_take] at ha hb
  rw [if_pos (by omega)] at ha hb
  exact h k a b h0 hk ha hb
set_option maxRecDepth 100000 in
set_option maxHeartbeats 4000000 in
theorem hPop_ok (t : Tp) (o : LeO (leK t)) (B q g n c : Nat) (hs : List (Nat × List Nat)) (w : World) (h : KQu t w B q g (n + 1) c hs) (hp : HeapN (leK t) hs (n + 1)) (hlen : ∀ z ∈ hs, z.2.length ≤ 1000000) (hn : n + 1 ≤ 1000000) (hc : n + 1 ≤ c) :
    Calls Tryz.prog 60 #[.iface 103 (.pointer (some ⟨q, 0, none⟩))] w (HPopPost t w B q g n c hs) := by
  have hl := h.row.len
  obtain ⟨x, hx⟩ : ∃ x, hs[0]? = some x := ⟨_, List.getElem?_eq_getElem (by omega)⟩
  obtain ⟨y, hy⟩ : ∃ y, hs[n]? = some y := ⟨_, List.getElem?_eq_getElem (by omega)⟩
  have HL := Lib.hid hlen
  have O := Lib.hid o
  have H := Lib.hid (And.intro h hp)
  have HX := Lib.hid (And.intro hx hy)
  have HN := Lib.hid hl
  have hm1 := mLen q (n + 1) c (some ⟨g, 0, none⟩) w h.box.one.1
  have hnn : ((n + 1 : Nat) : Int) - 1 = (n : Int) := by omega
  clear h hp hlen o hl hx hy
  go_enter Tryz.func60, Tryz.ntmps60
  go_wp2_with fail
  refine (kLen_ok _ (n + 1) c _).mono ?_
  rintro e w1 ⟨rfl, rfl⟩
  have hm2 := mSwap q (n + 1) c (some ⟨g, 0, none⟩) w H.out.1.box.one.1
  clear hm1
  go_wp2_with fail
  refine (kSwap_ok t B g (n + 1) c 0 n hs x y _ H.out.1.row HX.out.1 HX.out.2 hn).mono ?_
  rintro e w2 ⟨rfl, r2, g2⟩
  have Q2 := H.out.1.swap r2 g2
  have L2 := Lib.hid (show KQu t w2 B q g (n + 1) c (swapG hs 0 n) ∧ KF w w2 q g g from Q2)
  have DN := Lib.hid (HeapN.pop H.out.2 HN.out HX.out.1 HX.out.2)
  have PM := Lib.hid (swapG_perm HX.out.1 HX.out.2)
  clear r2 g2 Q2 hm2
  go_wp2_with fail
  refine (kDown_ok t O.out B q g (n + 1) c n (swapG hs 0 n) _ L2.out.1 DN.out (Nat.le_succ n) (fun z hz => HL.out z (PM.out.mem_iff.1 hz)) hn).mono ?_
  rintro e w3 ⟨⟨b, rfl⟩, hs3, p3, h3, k3, q3, f3⟩
  have L3 := Lib.hid (show KQu t w3 B q g (n + 1) c hs3 ∧ KF w w3 q g g from ⟨q3, L2.out.2.tr f3⟩)
  have hz : hs3[n]? = some x := by
    rw [k3 n (Nat.le_refl n), swapG_get HX.out.1 HX.out.2, if_pos rfl]
  have S3 := Lib.hid (And.intro hz (And.intro (p3.trans PM.out) h3))
  clear p3 h3 k3 q3 f3 L2 hz DN PM
  have hm3 := mPop q w3
  go_wp2_with fail
  refine (kPop_ok t B q g n c hs3 x _ L3.out.1 S3.out.1 (by omega) hc).mono ?_
  rintro e w4 ⟨A, k, rfl, hk, r4, q4, f4⟩
  have FIN := Lib.hid (show HPopPost t w B q g n c hs (.returned (.iface 105 (kAgg t x A k))) w4 from by
    refine ⟨x, hs3.take n, ?_, fun y hy => ?_, heap_take S3.out.2.2, A, k, rfl, hk, r4, q4, L3.out.2.tr f4⟩
    · have e3 : hs3 = hs3.take n ++ [x] := by
        apply List.ext_getElem?
        intro j
        have hl3 : hs3.length = n + 1 := by rw [S3.out.2.1.length_eq]; exact HN.out
        by_cases hj : j < n
        · rw [List.getElem?_append_left (by rw [List.length_take]; omega), List.getElem?_take, if_pos hj]
        · by_cases hj2 : j = n
          · subst hj2
            rw [List.getElem?_append_right (by rw [List.length_take]; omega), List.length_take, S3.out.1, show j - min j hs3.length = 0 by omega]; rfl
          · rw [List.getElem?_eq_none (by omega), List.getElem?_eq_none (by rw [List.length_append, List.length_take]; simp; omega)]
      refine S3.out.2.1.symm.trans ?_
      rw [e3]
      refine (List.perm_append_comm).trans ?_
      rw [List.take_append_of_le_length (by rw [List.length_take]; have : hs3.length = n + 1 := by rw [S3.out.2.1.length_eq]; exact HN.out
                                            omega), List.take_take, Nat.min_self]
      exact .refl _
    · obtain ⟨j, hj⟩ := List.mem_iff_getElem?.1 hy
      exact H.out.2.top O.out (by rw [HN.out]; exact Nat.le_refl _) j x y (by have := (List.getElem?_eq_some_iff.1 hj).1; have := HN.out; omega) HX.out.1 hj)
  clear r4 q4 f4 S3 L3 hm3
  go_wp2
  go_ret
  exact FIN.out
end Go.Proofs.YtjmkcckbbgpkeaaGreatDoor
