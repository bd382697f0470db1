/- SplitExact: for every input the call returns true, and each argument reads afterwards as it read before; the tied card. Conditions: none beyond the given statement's. -/
import Derived.Test.YtekiomanidimnaaDoorRowK
import Derived.Test.YtekiomanidimnaaDoorLawX
import Derived.Test.YtekiomanidimnaaDoorOpen
import Derived.Test.YtekiomanidimnaaDoorCards
import Derived.Test.YtekiomanidimnaaDoorTie
import Derived.SevenTiedAt
set_option linter.unusedVariables false
set_option linter.unusedSimpArgs false

namespace Go.Proofs.YtekiomanidimnaaDoor
open Go.ChangeShapes Go.WideShapes Go.ChangeAt Go.RowKit
set_option maxRecDepth 100000 in
theorem open_two {H : Type} {enc : TypeId × Value → H} {w : World} {base : Nat} {spare : Nat → Bool} {held : Bool} {v : Value} {d : DataW H} {p : List MemPlace} {r : Reach} {b0 : Nat} (hv : Value.okWide Tryd.prog w r b0 23 v) (h : DataW.Trod enc Tryd.prog w base spare held 23 v d p) :
    ∃ y0 y1 : Nat, y0 ≤ 255 ∧ y1 ≤ 255 ∧ v = .agg #[.int .u8 (y0 : Int), .int .u8 (y1 : Int)] := by
  simp only [Value.okWide, Tryd.underlying23] at hv
  obtain ⟨cs, rfl, h2, _⟩ := hv
  have c2 : Tryd.prog.cellsOf 23 = 2 := by kernel_rfl
  have c1 : Tryd.prog.cellsOf 5 = 1 := by kernel_rfl
  obtain ⟨a0, a1, rfl⟩ := Joins.array2 (h2.trans c2)
  obtain ⟨fuel, hf⟩ := h
  obtain ⟨xs, m, _, _, _, hlen, hel⟩ := DataW.trod_array Tryd.underlying23 hf
  have k0 := hel 0 (by decide)
  have k1 := hel 1 (by decide)
  obtain ⟨z0, e0⟩ := some_at 0 hlen (by decide)
  obtain ⟨z1, e1⟩ := some_at 1 hlen (by decide)
  simp only [c1] at k0 k1
  rw [e0] at k0
  rw [e1] at k1
  obtain ⟨n0, f0, _, w0⟩ := DataW.trod_int Tryd.underlying5 k0
  obtain ⟨n1, f1, _, w1⟩ := DataW.trod_int Tryd.underlying5 k1
  simp [Value.cells] at f0 f1
  subst f0 f1
  simp [Lit.wf, IntKind.min, IntKind.max, IntKind.signed, IntKind.bits] at w0 w1
  refine ⟨n0.toNat, n1.toNat, by omega, by omega, ?_⟩
  rw [show ((n0.toNat : Nat) : Int) = n0 by omega, show ((n1.toNat : Nat) : Int) = n1 by omega]
theorem u8s_flat (l : List Nat) : u8s l = l.flatMap fun x : Nat => [Value.int .u8 (x : Int)] := by
  induction l with
  | nil => rfl
  | cons a l ih => rw [List.flatMap_cons, ← ih]; rfl
set_option maxRecDepth 100000 in
theorem open_u8s {H : Type} {enc : TypeId × Value → H} {w : World} {base : Nat} {spare : Nat → Bool} {held : Bool} {v : Value} {d : DataW H} {p : List MemPlace} {r : Reach} {b0 : Nat} (hv : Value.okWide Tryd.prog w r b0 22 v) (h : DataW.Trod enc Tryd.prog w base spare held 22 v d p) :
    ∃ (A : Option Addr) (l : List Nat) (c : Nat), v = .slice A l.length c ∧ (∀ x ∈ l, x ≤ 255) ∧ Rd w A (u8s l) := by
  obtain ⟨a0, l0, c0, rfl⟩ := okWide_slice Tryd.underlying22 hv
  obtain ⟨fuel, hf⟩ := h
  obtain ⟨A, l, c, e, _, _, wf, rd⟩ := open_list (fun x : Nat => [Value.int .u8 (x : Int)]) (fun x => x ≤ 255) 1 (by decide) (fun _ => rfl) Tryd.underlying22 (by kernel_rfl) (fun n cs y hy => by
    obtain ⟨x, e, _, hw⟩ := DataW.trod_int Tryd.underlying5 hy
    simp [Lit.wf, IntKind.min, IntKind.max, IntKind.signed, IntKind.bits] at hw
    refine ⟨x.toNat, ?_, by omega⟩
    rw [e, show ((x.toNat : Nat) : Int) = x by omega]) hf
  refine ⟨A, l, c, by simpa [Value.cells] using e, wf, ?_⟩
  rw [u8s_flat]
  exact rd
set_option maxRecDepth 100000 in
set_option maxHeartbeats 4000000 in
theorem exact_lifted (os : Os) (started : os.Started) (H : Type) (enc : TypeId × Value → H) :
    ReturnsInHanded {} Tryd.checked os 3 .any (fun w args => (Rows.splitExactSpec.pre enc Tryd.prog Tryd.f3 [] false w args ∧ laidMetH Tryd.prog laid3 w) ∧ sizedMet enc Tryd.prog Tryd.f3 (OpenSpec.ofChange Rows.splitExactSpec) false w args)
      (Rows.splitExactSpec.post enc Tryd.prog Tryd.f3 false true false false) := by
  refine returnsInHanded_of_change_and (C := Tryd.checked) (X := fun w _ => laidMetH Tryd.prog laid3 w) (fun _ _ _ hh h => h.of_heap hh) Tryd.own started (by kernel_rfl) Tryd.func3
    (ChangeSpec.witness_shaped (enc := enc) (C := Tryd.checked) (os := os) (X := fun w _ => laidMetH Tryd.prog laid3 w) false (World.doorLaid Tryd.prog 24 os) #[.slice none 0 0, .agg #[.int .u8 0, .int .u8 0]] 8 rfl (World.shaped_of_RefB (by kernel_rfl) (by kernel_rfl)) (by kernel_rfl) (by kernel_rfl) (by kernel_rfl) (door_met os _)) ?_
  intro W base args ds gs before hval0 hW _ _ hL _
  have hval : ∀ (j : Nat) t v, Tryd.f3.params[j]? = some t → args[j]? = some v → Value.okWide Tryd.prog W .any base t v := hval0
  have hW' := hW
  obtain ⟨p, q, hA0, hV, rfl, hfz, hnd⟩ := hW
  have hA : DataW.TrodAll enc Tryd.prog W 0 (fun _ => true) true Tryd.f3.params.toList args.toList ds p := hA0
  rw [Tryd.params3] at hA hval
  obtain ⟨v0, v1, d0, d1, p0, p1, rfl, rfl, rfl, h0, h1⟩ := trodAll_two hA
  obtain ⟨rfl, rfl⟩ := trodVars_none hV
  have h0k := h0
  have h1k := h1
  obtain ⟨AW, ws, cw, rfl, k1, k2⟩ := open_u8s (hval 0 22 v0 rfl rfl) h0
  obtain ⟨y0, y1, e0, e1, rfl⟩ := open_two (hval 1 23 v1 rfl rfl) h1
  have hlt : ∀ x ∈ p0 ++ p1, x.block < W.heap.size := fun x hx => hW'.lt x (by simpa using hx)
  refine (exact_law AW ws.length cw ws rfl k1 y0 y1 e0 e1 W k2 (tab_of_laid hL)).mono ?_
  rintro e W' ⟨rfl, hx⟩
  refine ⟨_, rfl, _, _, _, [], _, [], hW', trodAll_mk1 (shut_bool Tryd.underlying4 true), trodAll_mk2 (Below.trod Tryd.laidOut (by kernel_rfl) (of_decide_eq_true (by kernel_rfl)) h0k hx (fun x h => hlt x (by simp [h]))) (Below.trod Tryd.laidOut (by kernel_rfl) (of_decide_eq_true (by kernel_rfl)) h1k hx (fun x h => hlt x (by simp [h]))), rfl, Below.frame hx _, fun h => by cases h⟩
set_option maxRecDepth 100000 in
theorem exact_row : Rows.SplitExactSaid :=
  OpenClaim.holds_of_wide 3 Tryd.f3 rfl rfl rfl rfl rfl rfl rfl ⟨rfl, rfl, rfl, rfl, rfl⟩ rfl rfl rfl rfl rfl (by kernel_rfl) Tryd.func3 (by kernel_rfl)
    (of_decide_eq_true (by kernel_rfl)) (by unfold Func.isWrapper; first | (rw [if_pos (by decide +kernel)]; kernel_rfl) | (rw [if_neg (by decide +kernel)]; exact ⟨rfl, rfl⟩))
    (fun os started H enc _ => exact_lifted os started H enc)
set_option maxRecDepth 100000 in
theorem exact_card : Rows.SplitExactCardSaid :=
  Claim7.holds_tied_plain_at .later [] [.data, .data, .data] true Rows.splitExactCard.stood.harness false
    exact_row (fun _ h => by cases h) (by kernel_rfl) (fun _ h => by cases h) splitExact_row_tie rfl ⟨rfl, rfl⟩ (by kernel_rfl) rfl
    (fun f fn hf hfn => by
      obtain rfl : f = 3 := Option.some.inj ((show Tryd.prog.funcNamed Rows.splitExactRow.func = some 3 by kernel_rfl).symm.trans hf) |>.symm
      obtain rfl : fn = Tryd.f3 := (Option.some.inj (Tryd.func3.symm.trans hfn)).symm
      exact ⟨by kernel_rfl, fun j t ht => by
        rw [Tryd.params3] at ht
        have hm : t ∈ [22, 23] := by simpa using Array.mem_of_getElem? ht
        have hall : ([22, 23].all fun u => !Tryd.prog.wantsStandIn u) = true := by kernel_rfl
        exact (show Tryd.prog.wantsStandIn t = false by simpa using List.all_eq_true.1 hall t hm)⟩)
    (by kernel_rfl)
end Go.Proofs.YtekiomanidimnaaDoor
