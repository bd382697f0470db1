/- SplitError: for every input the call returns true, and each argument reads afterwards as it read before; the tied card. Conditions: none beyond the given statement's. -/
import Derived.Test.YtekiomanidimnaaGreatDoorRowK
import Derived.Test.YtekiomanidimnaaGreatDoorLawK
import Derived.Test.YtekiomanidimnaaGreatDoorCards
import Derived.Test.YtekiomanidimnaaGreatDoorTie
import Derived.SevenTiedAt
set_option linter.unusedVariables false
set_option linter.unusedSimpArgs false

namespace Go.Proofs.YtekiomanidimnaaGreatDoor
open Go.ChangeShapes Go.WideShapes Go.ChangeAt Go.RowKit
theorem iints_flat (l : List Int) : iints l = l.flatMap fun x : Int => [Value.int .i64 x] := by
  induction l with
  | nil => rfl
  | cons a l ih => rw [List.flatMap_cons, ← ih]; rfl
set_option maxRecDepth 100000 in
theorem open_frs {H : Type} {enc : TypeId × Value → H} {w : World} {base : Nat} {spare : Nat → Bool} {held : Bool} {v : Value} {d : DataW H} {p : List MemPlace} {r : Reach} {b0 : Nat} (hv : Value.okWide Tryz.prog w r b0 26 v) (h : DataW.Trod enc Tryz.prog w base spare held 26 v d p) :
    ∃ (A : Option Addr) (l : List Fr) (c : Nat), v = .slice A l.length c ∧ (∀ x ∈ l, x.wf) ∧ Rd w A (l.flatMap Fr.cells) := by
  obtain ⟨a0, l0, c0, rfl⟩ := okWide_slice Tryz.underlying26 hv
  obtain ⟨fuel, hf⟩ := h
  obtain ⟨A, l, c, e, _, _, wf, rd⟩ := open_list Fr.cells Fr.wf 2 (by decide) (fun _ => rfl) Tryz.underlying26 (by kernel_rfl) (fun n cs y hy => open_frac hy) hf
  exact ⟨A, l, c, by simpa [Value.cells] using e, wf, rd⟩
set_option maxRecDepth 100000 in
theorem open_path {H : Type} {enc : TypeId × Value → H} {w : World} {base : Nat} {spare : Nat → Bool} {held : Bool} {v : Value} {d : DataW H} {p : List MemPlace} {r : Reach} {b0 : Nat} (hv : Value.okWide Tryz.prog w r b0 39 v) (h : DataW.Trod enc Tryz.prog w base spare held 39 v d p) :
    ∃ (A : Option Addr) (l : List Int) (c : Nat), v = .slice A l.length c ∧ Rd w A (iints l) := by
  obtain ⟨a0, l0, c0, rfl⟩ := okWide_slice Tryz.underlying39 hv
  obtain ⟨fuel, hf⟩ := h
  obtain ⟨A, l, c, e, _, _, _, rd⟩ := open_list (fun x : Int => [Value.int .i64 x]) i64 1 (by decide) (fun _ => rfl) Tryz.underlying39 Tryz.cells_int (fun n cs y hy => by
    obtain ⟨x, e, _, hw⟩ := DataW.trod_int Tryz.underlying3 hy
    exact ⟨x, e, wf_i64 hw⟩) hf
  refine ⟨A, l, c, by simpa [Value.cells] using e, ?_⟩
  rw [iints_flat]
  exact rd
set_option maxRecDepth 100000 in
set_option maxHeartbeats 4000000 in
theorem error_lifted (os : Os) (started : os.Started) (H : Type) (enc : TypeId × Value → H) :
    ReturnsInHanded {} Tryz.checked os 11 .any (fun w args => (Rows.splitErrorSpec.pre enc Tryz.prog Tryz.f11 [] false w args ∧ laidMetH Tryz.prog laid3 w) ∧ sizedMet enc Tryz.prog Tryz.f11 (OpenSpec.ofChange Rows.splitErrorSpec) false w args)
      (Rows.splitErrorSpec.post enc Tryz.prog Tryz.f11 false true false false) := by
  refine returnsInHanded_of_change_and (C := Tryz.checked) (X := fun w _ => laidMetH Tryz.prog laid3 w) (fun _ _ _ hh h => h.of_heap hh) Tryz.own started (by kernel_rfl) Tryz.func11
    (ChangeSpec.witness_shaped (enc := enc) (C := Tryz.checked) (os := os) (X := fun w _ => laidMetH Tryz.prog laid3 w) false (World.doorLaid Tryz.prog 24 os) #[.slice none 0 0, .slice none 0 0] 8 rfl (World.shaped_of_RefB (by kernel_rfl) (by kernel_rfl)) (by kernel_rfl) (by kernel_rfl) (by kernel_rfl) (door_met os _)) ?_
  intro W base args ds gs before hval0 hW _ _ hL _
  have hval : ∀ (j : Nat) t v, Tryz.f11.params[j]? = some t → args[j]? = some v → Value.okWide Tryz.prog W .any base t v := hval0
  have hW' := hW
  obtain ⟨p, q, hA0, hV, rfl, hfz, hnd⟩ := hW
  have hA : DataW.TrodAll enc Tryz.prog W 0 (fun _ => true) true Tryz.f11.params.toList args.toList ds p := hA0
  rw [Tryz.params11] at hA hval
  obtain ⟨v0, v1, d0, d1, p0, p1, rfl, rfl, rfl, h0, h1⟩ := trodAll_two hA
  obtain ⟨rfl, rfl⟩ := trodVars_none hV
  have h0k := h0
  have h1k := h1
  obtain ⟨AF, fr, cf, rfl, k1, k2⟩ := open_frs (hval 0 26 v0 rfl rfl) h0
  obtain ⟨AP, ws, ca, rfl, k3⟩ := open_path (hval 1 39 v1 rfl rfl) h1
  have hlt : ∀ x ∈ p0 ++ p1, x.block < W.heap.size := fun x hx => hW'.lt x (by simpa using hx)
  refine (error_law AF fr.length cf fr rfl AP ws.length ca ws rfl W k2 k1 k3 (tab_of_laid hL)).mono ?_
  rintro e W' ⟨rfl, hx⟩
  refine ⟨_, rfl, _, _, _, [], _, [], hW', trodAll_mk1 (shut_bool Tryz.underlying4 true), trodAll_mk2 (Below.trod Tryz.laidOut (by kernel_rfl) (of_decide_eq_true (by kernel_rfl)) h0k hx (fun x h => hlt x (by simp [h]))) (Below.trod Tryz.laidOut (by kernel_rfl) (of_decide_eq_true (by kernel_rfl)) h1k hx (fun x h => hlt x (by simp [h]))), rfl, Below.frame hx _, fun h => by cases h⟩
set_option maxRecDepth 100000 in
theorem error_row : Rows.SplitErrorSaid :=
  OpenClaim.holds_of_wide 11 Tryz.f11 rfl rfl rfl rfl rfl rfl rfl ⟨rfl, rfl, rfl, rfl, rfl⟩ rfl rfl rfl rfl rfl (by kernel_rfl) Tryz.func11 (by kernel_rfl)
    (of_decide_eq_true (by kernel_rfl)) (by unfold Func.isWrapper; first | (rw [if_pos (by decide +kernel)]; kernel_rfl) | (rw [if_neg (by decide +kernel)]; exact ⟨rfl, rfl⟩))
    (fun os started H enc _ => error_lifted os started H enc)
set_option maxRecDepth 100000 in
theorem error_card : Rows.SplitErrorCardSaid :=
  Claim7.holds_tied_plain_at .later [] [.data, .data, .data] true Rows.splitErrorCard.stood.harness false
    error_row (fun _ h => by cases h) (by kernel_rfl) (fun _ h => by cases h) splitError_row_tie rfl ⟨rfl, rfl⟩ (by kernel_rfl) rfl
    (fun f fn hf hfn => by
      obtain rfl : f = 11 := Option.some.inj ((show Tryz.prog.funcNamed Rows.splitErrorRow.func = some 11 by kernel_rfl).symm.trans hf) |>.symm
      obtain rfl : fn = Tryz.f11 := (Option.some.inj (Tryz.func11.symm.trans hfn)).symm
      exact ⟨by kernel_rfl, fun j t ht => by
        rw [Tryz.params11] at ht
        have hm : t ∈ [26, 39] := by simpa using Array.mem_of_getElem? ht
        have hall : ([26, 39].all fun u => !Tryz.prog.wantsStandIn u) = true := by kernel_rfl
        exact (show Tryz.prog.wantsStandIn t = false by simpa using List.all_eq_true.1 hall t hm)⟩)
    (by kernel_rfl)
end Go.Proofs.YtekiomanidimnaaGreatDoor
