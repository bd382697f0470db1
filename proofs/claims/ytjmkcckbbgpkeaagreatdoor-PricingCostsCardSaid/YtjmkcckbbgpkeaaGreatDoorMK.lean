/- The document's example: a ring of four nodes (plain). -/
/- waypointlaw42.ring. -/
import Derived.Test.YtjmkcckbbgpkeaaGreatDoorMI
import Derived.Maps.AppendAt
import Derived.Deep.RegionHeld3
set_option linter.unusedVariables false
set_option linter.unusedSimpArgs false

namespace Go.Proofs.YtjmkcckbbgpkeaaGreatDoor
open Go.RowKit
def ringL (i : Nat) : Lk := ⟨i, ((i + 1) % 4 : Nat), 1, 1, 0, 1, 0⟩
def ringT : Tp := ⟨4, [], (List.range 4).map ringL⟩
def ringQ (k : Int) : List Rat := mkRat k 2 :: List.replicate 7 (mkRat 1 2)
theorem ring_one : cheapP ringT [] (ringQ 1) 0 2 = some [0, 2] := by decide +kernel
theorem ring_two : cheapP ringT [] (ringQ 2) 0 2 = some [7, 5] := by decide +kernel
theorem ring_pr1 : prQ (ringQ 1) [0, 2] = 1 := by decide +kernel
theorem ring_pr2 : prQ (ringQ 2) [7, 5] = 1 := by decide +kernel
theorem ring_valid : validP ringT = true := by decide +kernel
end Go.Proofs.YtjmkcckbbgpkeaaGreatDoor


namespace Go.Proofs.YtjmkcckbbgpkeaaGreatDoor
open Go.RowKit
theorem Tryz.info141 : (Tryz.prog.info? 58).map (fun i => (i.zero, i.size, i.bytes)) = some (some (.agg #[.int .i64 0, .int .i64 0, .int .i64 0, .int .i64 0, .int .i64 0, .int .i64 0, .int .i64 0]), 7, 56) := by kernel_rfl
def ringC (k : Nat) : List Value := ((List.range k).map ringL).flatMap Lk.cells
theorem ringC_succ (k : Nat) : ringC (k + 1) = ringC k ++ (ringL k).cells := by
  unfold ringC
  rw [List.range_succ, List.map_append, List.flatMap_append]
  simp
theorem own_form7 {w : World} {B n s : Nat} {e : TypeId} {v : Value} {xs : List Value} (h : w.ownsRow B e s v n xs) : ∃ A cap, v = .slice A n cap := by
  rcases h.2 with ⟨h1, h2⟩ | ⟨g, cap, _, h2, _⟩
  · exact ⟨none, 0, by rw [h1, h2]⟩
  · exact ⟨_, cap, h2⟩
theorem own_rd7 {w : World} {B n s c : Nat} {e : TypeId} {A : Option Addr} {xs : List Value} (h : w.ownsRow B e s (.slice A n c) n xs) : Rd w A xs ∧ n ≤ c := by
  rcases h.2 with ⟨h1, h2⟩ | ⟨g, cap, cur, h2, h3, h4, h5, h6, h7, h8⟩
  · subst h2
    injection h1 with e1 e2 e3
    have hx : xs = [] := List.eq_nil_of_length_eq_zero (by have := h.1; omega)
    subst hx
    exact ⟨Rd.nil _ _, by omega⟩
  · injection h2 with e1 e2 e3
    subst e1 e3
    refine ⟨fun _ => ⟨g, 0, rfl, lt_of_get h4, fun i hi => ?_⟩, h5⟩
    rw [cell_of_row w g (0 + i) cur e (0, 0) h4, Nat.zero_add, ← h8, List.getElem?_take, if_pos (by have := h.1; omega)]
    simp
theorem set3_grown (w : World) (g : Nat) (a b c : Value) : w.grownBy (((w.setCell ⟨g, 0, none⟩ a).setCell ⟨g, 1, none⟩ b).setCell ⟨g, 2, none⟩ c) (some g) :=
  ((grown_set w g 0 a).trans (grown_set _ g 1 b)).trans (grown_set _ g 2 c)
theorem own_ne7 {w : World} {B n g s : Nat} {e : TypeId} {v : Value} {xs : List Value} (h : w.ownsRow B e s v n xs) (hg : g < B) : v.ownBlock = none ∨ v.ownBlock ≠ some g := by
  right
  intro e
  have := (h.lt g e).1
  omega
theorem ofQ_one : ofQ 1 2 = mkRat 1 2 := by decide +kernel
theorem ofQ_two : ofQ 2 2 = mkRat 2 2 := by decide +kernel
theorem ring_fin {WX : World} {q : Int} {B GP c : Nat} {A : Option Addr} {n1 n2 : Bool} {A1 A1' A2 A2' : Option Addr} {k1 c1 k1' c1' k2 c2 k2' c2' : Nat} (hq : q = 1 ∨ q = 2) (hown : WX.ownsRow B 58 7 (.slice A 4 c) 4 (ringC 4)) (r1 : RatR WX n1 A1 k1 c1 A1' k1' c1' (ofQ 1 2)) (r2 : RatR WX n2 A2 k2 c2 A2' k2' c2' (ofQ q 2))
    (hb : Blk WX GP 38 #[.bool n2, .slice A2 k2 c2, .slice A2' k2' c2', .bool n1, .slice A1 k1 c1, .slice A1' k1' c1', .bool n1, .slice A1 k1 c1, .slice A1' k1' c1', .bool n1, .slice A1 k1 c1, .slice A1' k1' c1', .bool n1, .slice A1 k1 c1, .slice A1' k1' c1', .bool n1, .slice A1 k1 c1, .slice A1' k1' c1', .bool n1, .slice A1 k1 c1, .slice A1' k1' c1', .bool n1, .slice A1 k1 c1, .slice A1' k1' c1']) :
    TopR WX ringT none 0 A c ∧ QL WX (some ⟨GP, 0, none⟩) (ringQ q) := by
  obtain ⟨h1, h2⟩ := own_rd7 hown
  refine ⟨⟨(by unfold i64; decide), by decide, h2, by decide, by decide, Rd.nil _ _, h1, fun l hl => ?_⟩, ?_⟩
  · simp only [ringT, List.mem_map, List.mem_range] at hl
    obtain ⟨i, hi, rfl⟩ := hl
    unfold ringL Lk.wf i64
    simp only []
    omega
  · refine ⟨[.bool n2, .slice A2 k2 c2, .slice A2' k2' c2'] :: List.replicate 7 [.bool n1, .slice A1 k1 c1, .slice A1' k1' c1'], rfl, fun cs h => ?_, (RdT.of_blk hb rfl).rd, fun i x hx => ?_⟩
    · rcases List.mem_cons.1 h with h | h
      · rw [h]; rfl
      · rw [List.eq_of_mem_replicate h]; rfl
    · cases i with
      | zero =>
        refine ⟨_, rfl, n2, A2, k2, c2, A2', k2', c2', rfl, ?_⟩
        have e : x = ofQ q 2 := by
          simp [ringQ] at hx
          rw [← hx]
          rcases hq with rfl | rfl
          · exact ofQ_one.symm
          · exact ofQ_two.symm
        rw [e]; exact r2
      | succ i =>
        have hx2 : (List.replicate 7 (mkRat 1 2))[i]? = some x := hx
        rw [List.getElem?_replicate] at hx2
        split at hx2
        · rename_i hi
          injection hx2 with hx2
          refine ⟨[.bool n1, .slice A1 k1 c1, .slice A1' k1' c1'], ?_, n1, A1, k1, c1, A1', k1', c1', rfl, ?_⟩
          · show (List.replicate 7 _)[i]? = _
            rw [List.getElem?_replicate, if_pos hi]
          · rw [← hx2, ← ofQ_one]; exact r1
        · cases hx2
set_option maxRecDepth 100000 in
set_option maxHeartbeats 4000000 in
theorem ring_ok (q : Int) (w : World) (hq : q = 1 ∨ q = 2) :
    Calls Tryz.prog 15 #[.int .i64 q] w fun e w' => ∃ (AL : Option Addr) (cl : Nat) (PP : Option Addr) (cp : Nat), e = .returned (.tuple #[.agg #[.int .i64 4, .slice none 0 0, .slice AL 4 cl], .slice PP 8 cp]) ∧ TopR w' ringT none 0 AL cl ∧ QL w' PP (ringQ q) ∧ Ext w w' := by
  obtain ⟨ti, hi, hz0, hz1, hz2⟩ := info_parts Tryz.info141
  have hq0 : 0 < q ∧ q ≤ 2 := by omega
  go_enter Tryz.func15, Tryz.ntmps15
  go_wp2
  go_loopw [5] (fun it wr => ∃ (k : Nat) (v : Value), k ≤ 4 ∧ it = .int .i64 k ∧ wr.ownsRow (w.heap.size + 2) 58 7 v k (ringC k) ∧ Blk wr (w.heap.size + 1) 25 #[.int .i64 4, .slice none 0 0, v] ∧ Blk wr w.heap.size 25 #[.int .i64 0, .slice none 0 0, .slice none 0 0] ∧ Ext w wr) (fun i _ => 4 - (intOf i).toNat)
  case atStart => exact ⟨0, .slice none 0 0, by omega, rfl, World.ownsRow_nil _ _ _ _, Blk.new' _ _ _ (by simp), (Blk.new w _ _).alloc _, ((Ext.refl w).alloc _).alloc _⟩
  case round =>
    obtain ⟨k, v, hk, rfl, hown, hb1, hb0, hx⟩ := hrel
    obtain ⟨A, c, rfl⟩ := own_form7 hown
    obtain ⟨⟨i0, i1, i2⟩, g0, g1, g2⟩ := hb1.three
    have OW := Lib.hid hown
    have B1 := Lib.hid hb1
    have B0 := Lib.hid hb0
    have EX := Lib.hid hx
    clear hown hb1 hb0 hx
    by_cases hkl : k < 4
    · have hcs : (ringL k).cells = [.int .i64 (k : Int), .int .i64 (((k : Int) + 1) % 4), .int .i64 1, .int .i64 1, .int .i64 0, .int .i64 1, .int .i64 0] := by
        unfold ringL Lk.cells
        simp
      have CS := Lib.hid hcs
      clear hcs
      go_wp2_with (at_builtin; go_must (refine wpList_append_own_at _ rfl (.tmp 16) (.tmp 23) 23 rfl (w.heap.size + 2) 58 ti _ 7 56 Tryz.underlying23 hi hz0 hz1 hz2 rfl (by decide) (.slice A k c) k (ringC k) rfl ?c0 ⟨wr.heap.size, 0, none⟩ 1 1 [.int .i64 (k : Int), .int .i64 (((k : Int) + 1) % 4), .int .i64 1, .int .i64 1, .int .i64 0, .int .i64 1, .int .i64 0] rfl rfl ?c1 ?c2 ?c3 ?c4 ?c5 ?_))
      case c0 => exact OW.out.alloc _
      case c1 => intro j u hj; rw [addr_add, Nat.zero_add]; exact ((Blk.new wr _ _).cell j).trans (by simpa using hj)
      case c2 => intro u hu; simp only [List.mem_cons, List.not_mem_nil, or_false] at hu; rcases hu with rfl | rfl | rfl | rfl | rfl | rfl | rfl <;> rfl
      case c3 => unfold maxLen; omega
      case c4 => omega
      case c5 => have := B1.out.lt; simp; omega
      intro v8 w8 hown8 hgrow8 _ _
      obtain ⟨A8, c8, rfl⟩ := own_form7 hown8
      have hne : ∀ kk, (Value.slice A k c).ownBlock = some kk → w.heap.size + 2 ≤ kk := fun kk hkk => (OW.out.lt kk hkk).1
      have hb1 : Blk w8 (w.heap.size + 1) 25 #[.int .i64 4, .slice none 0 0, .slice A k c] := (hgrow8.block _ (B1.out.alloc _).lt (fun e => by have := hne _ e.symm; omega)).trans (B1.out.alloc _)
      have hb0 : Blk w8 w.heap.size 25 #[.int .i64 0, .slice none 0 0, .slice none 0 0] := (hgrow8.block _ (B0.out.alloc _).lt (fun e => by have := hne _ e.symm; omega)).trans (B0.out.alloc _)
      have hE8 : Ext w w8 := Below.grown (EX.out.alloc _) hgrow8 (EX.out.alloc _).size (fun kk hkk => by have := hne kk hkk; omega)
      obtain ⟨⟨i0, i1, i2⟩, g0, g1, g2⟩ := hb1.three
      have hg9 := grown_set w8 (w.heap.size + 1) 2 (.slice A8 (k + 1) c8)
      have FIN := Lib.hid (show World.ownsRow (w8.setCell ⟨w.heap.size + 1, 2, none⟩ (.slice A8 (k + 1) c8)) (w.heap.size + 2) 58 7 (.slice A8 (k + 1) c8) (k + 1) (ringC (k + 1)) from by
        rw [ringC_succ, CS.out]
        refine hown8.kept hg9 (.inr ?_)
        intro e
        have := (hown8.lt _ e).1
        omega)
      have N1 := Lib.hid (hb1.set_ 2 (.slice A8 (k + 1) c8))
      have N0 := Lib.hid (hb0.far (p := ⟨w.heap.size + 1, 2, none⟩) (by simp only; omega) (.slice A8 (k + 1) c8))
      have NE := Lib.hid (Ext.set_ hE8 (p := ⟨w.heap.size + 1, 2, none⟩) (by simp only; omega) (.slice A8 (k + 1) c8))
      clear hown8 hgrow8 hne hb1 hb0 hE8 hg9
      go_wp2
      go_roundw
      case rel => exact ⟨k + 1, _, by omega, by go_num, FIN.out, N1.out, N0.out, NE.out⟩
      case measure => simp [intOf]; omega
    · have hke : k = 4 := by omega
      subst hke
      go_wp2_with fail
      refine (ratOf_any 1 2 _ (by decide) (by decide) (by decide) (by decide) (by decide)).mono ?_
      rintro e w1 ⟨n1, A1, k1, c1, A1', k1', c1', rfl, r1, hx1⟩
      have O1 := Lib.hid (OW.out.kept (grown_ext hx1) (own_none _))
      have P1 := Lib.hid (B1.out.keep hx1)
      have P0 := Lib.hid (B0.out.keep hx1)
      have E1 := Lib.hid (EX.out.tr hx1)
      have R1 := Lib.hid r1
      clear hx1 r1
      go_wp2_with fail
      refine (ratOf_any q 2 _ (by omega) (by omega) (by decide) (by decide) (by decide)).mono ?_
      rintro e w2 ⟨n2, A2, k2, c2, A2', k2', c2', rfl, r2, hx2⟩
      have X12 := Lib.hid (show Ext w1 w2 from ((Ext.refl w1).alloc _).tr hx2)
      have B6 := Lib.hid (Blk.keep (Blk.new w1 38 #[.bool n1, .slice A1 k1 c1, .slice A1' k1' c1']) hx2)
      have R2 := Lib.hid r2
      clear hx2 r2
      go_wp2
      have hW2 := boxes1 w2 #[.bool n2, .slice A2 k2 c2, .slice A2' k2' c2'] 38
      generalize w2.alloc (.cells #[.bool n2, .slice A2 k2 c2, .slice A2' k2' c2'] 38) = W at *
      obtain ⟨w8b, w8x⟩ := hW2
      have BT := Lib.hid ((P1.out.keep X12.out).keep w8x)
      have BZ := Lib.hid ((P0.out.keep X12.out).keep w8x)
      have BS := Lib.hid (B6.out.keep w8x)
      have B8 := Lib.hid w8b
      have E8 := Lib.hid w8x
      obtain ⟨⟨t0, t1, t2⟩, _⟩ := BT.out.three
      obtain ⟨⟨a0, a1, a2⟩, _⟩ := BS.out.three
      obtain ⟨⟨b0, b1, b2⟩, _⟩ := B8.out.three
      obtain ⟨⟨z0, z1, z2⟩, f0, f1, f2⟩ := BZ.out.three
      have hl2 := BZ.out.lt
      have hn1 : w.heap.size + 1 ≠ w.heap.size := by omega
      have hn2 : w1.heap.size ≠ w.heap.size := by have := P0.out.lt; omega
      have hn3 : w2.heap.size ≠ w.heap.size := by have := (P0.out.keep X12.out).lt; omega
      clear w8b w8x
      have OWW := Lib.hid (((O1.out.kept (grown_ext X12.out) (own_none _))).kept (grown_ext E8.out) (own_none _))
      have R1W := Lib.hid ((R1.out.keep X12.out).keep E8.out)
      have R2W := Lib.hid (R2.out.keep E8.out)
      have EWW := Lib.hid ((E1.out.tr X12.out).tr E8.out)
      go_region_held3 (fun w' => w'.cell? ⟨w.heap.size + 1, 0, none⟩ = some (.int .i64 4) ∧ w'.cell? ⟨w.heap.size + 1, 1, none⟩ = some (.slice none 0 0) ∧ w'.cell? ⟨w.heap.size + 1, 2, none⟩ = some (.slice A 4 c) ∧ w'.cell? ⟨w1.heap.size, 0, none⟩ = some (.bool n1) ∧ w'.cell? ⟨w1.heap.size, 1, none⟩ = some (.slice A1 k1 c1) ∧ w'.cell? ⟨w1.heap.size, 2, none⟩ = some (.slice A1' k1' c1') ∧ w'.cell? ⟨w2.heap.size, 0, none⟩ = some (.bool n2) ∧ w'.cell? ⟨w2.heap.size, 1, none⟩ = some (.slice A2 k2 c2) ∧ w'.cell? ⟨w2.heap.size, 2, none⟩ = some (.slice A2' k2' c2'))
        (first | with_reducible exact ⟨t0, t1, t2, a0, a1, a2, b0, b1, b2⟩ | with_reducible exact ⟨cell_drew t0, cell_drew t1, cell_drew t2, cell_drew a0, cell_drew a1, cell_drew a2, cell_drew b0, cell_drew b1, cell_drew b2⟩ | with_reducible exact ⟨cell_drew (cell_alloc_of t0 _), cell_drew (cell_alloc_of t1 _), cell_drew (cell_alloc_of t2 _), cell_drew (cell_alloc_of a0 _), cell_drew (cell_alloc_of a1 _), cell_drew (cell_alloc_of a2 _), cell_drew (cell_alloc_of b0 _), cell_drew (cell_alloc_of b1 _), cell_drew (cell_alloc_of b2 _)⟩ | with_reducible exact ⟨cell_drew (cell_set_of (cell_set_of (cell_set_of t0 (by first | exact hn1 | exact hn2 | exact hn3)) (by first | exact hn1 | exact hn2 | exact hn3)) (by first | exact hn1 | exact hn2 | exact hn3)), cell_drew (cell_set_of (cell_set_of (cell_set_of t1 (by first | exact hn1 | exact hn2 | exact hn3)) (by first | exact hn1 | exact hn2 | exact hn3)) (by first | exact hn1 | exact hn2 | exact hn3)), cell_drew (cell_set_of (cell_set_of (cell_set_of t2 (by first | exact hn1 | exact hn2 | exact hn3)) (by first | exact hn1 | exact hn2 | exact hn3)) (by first | exact hn1 | exact hn2 | exact hn3)), cell_drew (cell_set_of (cell_set_of (cell_set_of a0 (by first | exact hn1 | exact hn2 | exact hn3)) (by first | exact hn1 | exact hn2 | exact hn3)) (by first | exact hn1 | exact hn2 | exact hn3)), cell_drew (cell_set_of (cell_set_of (cell_set_of a1 (by first | exact hn1 | exact hn2 | exact hn3)) (by first | exact hn1 | exact hn2 | exact hn3)) (by first | exact hn1 | exact hn2 | exact hn3)), cell_drew (cell_set_of (cell_set_of (cell_set_of a2 (by first | exact hn1 | exact hn2 | exact hn3)) (by first | exact hn1 | exact hn2 | exact hn3)) (by first | exact hn1 | exact hn2 | exact hn3)), cell_drew (cell_set_of (cell_set_of (cell_set_of b0 (by first | exact hn1 | exact hn2 | exact hn3)) (by first | exact hn1 | exact hn2 | exact hn3)) (by first | exact hn1 | exact hn2 | exact hn3)), cell_drew (cell_set_of (cell_set_of (cell_set_of b1 (by first | exact hn1 | exact hn2 | exact hn3)) (by first | exact hn1 | exact hn2 | exact hn3)) (by first | exact hn1 | exact hn2 | exact hn3)), cell_drew (cell_set_of (cell_set_of (cell_set_of b2 (by first | exact hn1 | exact hn2 | exact hn3)) (by first | exact hn1 | exact hn2 | exact hn3)) (by first | exact hn1 | exact hn2 | exact hn3))⟩ | with_reducible exact ⟨cell_drew (cell_alloc_of (cell_set_of (cell_set_of (cell_set_of t0 (by first | exact hn1 | exact hn2 | exact hn3)) (by first | exact hn1 | exact hn2 | exact hn3)) (by first | exact hn1 | exact hn2 | exact hn3)) _), cell_drew (cell_alloc_of (cell_set_of (cell_set_of (cell_set_of t1 (by first | exact hn1 | exact hn2 | exact hn3)) (by first | exact hn1 | exact hn2 | exact hn3)) (by first | exact hn1 | exact hn2 | exact hn3)) _), cell_drew (cell_alloc_of (cell_set_of (cell_set_of (cell_set_of t2 (by first | exact hn1 | exact hn2 | exact hn3)) (by first | exact hn1 | exact hn2 | exact hn3)) (by first | exact hn1 | exact hn2 | exact hn3)) _), cell_drew (cell_alloc_of (cell_set_of (cell_set_of (cell_set_of a0 (by first | exact hn1 | exact hn2 | exact hn3)) (by first | exact hn1 | exact hn2 | exact hn3)) (by first | exact hn1 | exact hn2 | exact hn3)) _), cell_drew (cell_alloc_of (cell_set_of (cell_set_of (cell_set_of a1 (by first | exact hn1 | exact hn2 | exact hn3)) (by first | exact hn1 | exact hn2 | exact hn3)) (by first | exact hn1 | exact hn2 | exact hn3)) _), cell_drew (cell_alloc_of (cell_set_of (cell_set_of (cell_set_of a2 (by first | exact hn1 | exact hn2 | exact hn3)) (by first | exact hn1 | exact hn2 | exact hn3)) (by first | exact hn1 | exact hn2 | exact hn3)) _), cell_drew (cell_alloc_of (cell_set_of (cell_set_of (cell_set_of b0 (by first | exact hn1 | exact hn2 | exact hn3)) (by first | exact hn1 | exact hn2 | exact hn3)) (by first | exact hn1 | exact hn2 | exact hn3)) _), cell_drew (cell_alloc_of (cell_set_of (cell_set_of (cell_set_of b1 (by first | exact hn1 | exact hn2 | exact hn3)) (by first | exact hn1 | exact hn2 | exact hn3)) (by first | exact hn1 | exact hn2 | exact hn3)) _), cell_drew (cell_alloc_of (cell_set_of (cell_set_of (cell_set_of b2 (by first | exact hn1 | exact hn2 | exact hn3)) (by first | exact hn1 | exact hn2 | exact hn3)) (by first | exact hn1 | exact hn2 | exact hn3)) _)⟩ | with_reducible exact ⟨cell_drew (cell_set_of (cell_set_of (cell_set_of (cell_alloc_of t0 _) (by first | exact hn1 | exact hn2 | exact hn3)) (by first | exact hn1 | exact hn2 | exact hn3)) (by first | exact hn1 | exact hn2 | exact hn3)), cell_drew (cell_set_of (cell_set_of (cell_set_of (cell_alloc_of t1 _) (by first | exact hn1 | exact hn2 | exact hn3)) (by first | exact hn1 | exact hn2 | exact hn3)) (by first | exact hn1 | exact hn2 | exact hn3)), cell_drew (cell_set_of (cell_set_of (cell_set_of (cell_alloc_of t2 _) (by first | exact hn1 | exact hn2 | exact hn3)) (by first | exact hn1 | exact hn2 | exact hn3)) (by first | exact hn1 | exact hn2 | exact hn3)), cell_drew (cell_set_of (cell_set_of (cell_set_of (cell_alloc_of a0 _) (by first | exact hn1 | exact hn2 | exact hn3)) (by first | exact hn1 | exact hn2 | exact hn3)) (by first | exact hn1 | exact hn2 | exact hn3)), cell_drew (cell_set_of (cell_set_of (cell_set_of (cell_alloc_of a1 _) (by first | exact hn1 | exact hn2 | exact hn3)) (by first | exact hn1 | exact hn2 | exact hn3)) (by first | exact hn1 | exact hn2 | exact hn3)), cell_drew (cell_set_of (cell_set_of (cell_set_of (cell_alloc_of a2 _) (by first | exact hn1 | exact hn2 | exact hn3)) (by first | exact hn1 | exact hn2 | exact hn3)) (by first | exact hn1 | exact hn2 | exact hn3)), cell_drew (cell_set_of (cell_set_of (cell_set_of (cell_alloc_of b0 _) (by first | exact hn1 | exact hn2 | exact hn3)) (by first | exact hn1 | exact hn2 | exact hn3)) (by first | exact hn1 | exact hn2 | exact hn3)), cell_drew (cell_set_of (cell_set_of (cell_set_of (cell_alloc_of b1 _) (by first | exact hn1 | exact hn2 | exact hn3)) (by first | exact hn1 | exact hn2 | exact hn3)) (by first | exact hn1 | exact hn2 | exact hn3)), cell_drew (cell_set_of (cell_set_of (cell_set_of (cell_alloc_of b2 _) (by first | exact hn1 | exact hn2 | exact hn3)) (by first | exact hn1 | exact hn2 | exact hn3)) (by first | exact hn1 | exact hn2 | exact hn3))⟩ | fail "none")
        (fail)
      all_goals go_wp2
      all_goals first
        | (
          have q3 := ((BZ.out.set_ 0 (.int .i64 4)).set_ 1 (.slice none 0 0)).set_ 2 (.slice A 4 c)
          have hg := set3_grown W w.heap.size (.int .i64 4) (.slice none 0 0) (.slice A 4 c)
          have ee := ((EWW.out.set_ (p := ⟨w.heap.size, 0, none⟩) (Nat.le_refl _) (.int .i64 4)).set_ (p := ⟨w.heap.size, 1, none⟩) (Nat.le_refl _) (.slice none 0 0)).set_ (p := ⟨w.heap.size, 2, none⟩) (Nat.le_refl _) (.slice A 4 c)
          have oo := OWW.out.kept hg (own_ne7 OWW.out (by omega))
          have rr1 := R1W.out.other hg BZ.out (by decide)
          have rr2 := R2W.out.other hg BZ.out (by decide)
          clear hg
          have hsz : (((W.setCell ⟨w.heap.size, 0, none⟩ (.int .i64 4)).setCell ⟨w.heap.size, 1, none⟩ (.slice none 0 0)).setCell ⟨w.heap.size, 2, none⟩ (.slice A 4 c)).heap.size = W.heap.size := by simp
          generalize ((W.setCell ⟨w.heap.size, 0, none⟩ (.int .i64 4)).setCell ⟨w.heap.size, 1, none⟩ (.slice none 0 0)).setCell ⟨w.heap.size, 2, none⟩ (.slice A 4 c) = WS at *
          have w1a := (Ext.refl WS).alloc (.cells #[.bool n2, .slice A2 k2 c2, .slice A2' k2' c2', .bool n1, .slice A1 k1 c1, .slice A1' k1' c1', .bool n1, .slice A1 k1 c1, .slice A1' k1' c1', .bool n1, .slice A1 k1 c1, .slice A1' k1' c1', .bool n1, .slice A1 k1 c1, .slice A1' k1' c1', .bool n1, .slice A1 k1 c1, .slice A1' k1' c1', .bool n1, .slice A1 k1 c1, .slice A1' k1' c1', .bool n1, .slice A1 k1 c1, .slice A1' k1' c1'] 38)
          have bN := Blk.new WS 38 #[.bool n2, .slice A2 k2 c2, .slice A2' k2' c2', .bool n1, .slice A1 k1 c1, .slice A1' k1' c1', .bool n1, .slice A1 k1 c1, .slice A1' k1' c1', .bool n1, .slice A1 k1 c1, .slice A1' k1' c1', .bool n1, .slice A1 k1 c1, .slice A1' k1' c1', .bool n1, .slice A1 k1 c1, .slice A1' k1' c1', .bool n1, .slice A1 k1 c1, .slice A1' k1' c1', .bool n1, .slice A1 k1 c1, .slice A1' k1' c1']
          obtain ⟨f1, f2⟩ := ring_fin hq (oo.kept (grown_ext w1a) (own_none _)) (rr1.keep w1a) (rr2.keep w1a) (GP := WS.heap.size) bN
          have q4 := q3.keep w1a
          refine bodyPost_ret (v := .tuple #[.agg #[.int .i64 4, .slice none 0 0, .slice A 4 c], .slice (some ⟨WS.heap.size, 0, none⟩) 8 8]) (by simp [results, Tryz.results15, go_sem, q4.cell, hsz]) rfl ⟨A, c, some ⟨WS.heap.size, 0, none⟩, 8, rfl, ?_, ?_, ?_⟩
          · exact f1.keep ((Ext.refl _).drewN 1)
          · exact f2.keep ((Ext.refl _).drewN 1)
          · exact (ee.tr w1a).drewN 1)
        | (
          have w1a := (Ext.refl W).alloc (.cells #[.bool n2, .slice A2 k2 c2, .slice A2' k2' c2', .bool n1, .slice A1 k1 c1, .slice A1' k1' c1', .bool n1, .slice A1 k1 c1, .slice A1' k1' c1', .bool n1, .slice A1 k1 c1, .slice A1' k1' c1', .bool n1, .slice A1 k1 c1, .slice A1' k1' c1', .bool n1, .slice A1 k1 c1, .slice A1' k1' c1', .bool n1, .slice A1 k1 c1, .slice A1' k1' c1', .bool n1, .slice A1 k1 c1, .slice A1' k1' c1'] 38)
          have bN := Blk.new W 38 #[.bool n2, .slice A2 k2 c2, .slice A2' k2' c2', .bool n1, .slice A1 k1 c1, .slice A1' k1' c1', .bool n1, .slice A1 k1 c1, .slice A1' k1' c1', .bool n1, .slice A1 k1 c1, .slice A1' k1' c1', .bool n1, .slice A1 k1 c1, .slice A1' k1' c1', .bool n1, .slice A1 k1 c1, .slice A1' k1' c1', .bool n1, .slice A1 k1 c1, .slice A1' k1' c1', .bool n1, .slice A1 k1 c1, .slice A1' k1' c1']
          generalize W.alloc (.cells #[.bool n2, .slice A2 k2 c2, .slice A2' k2' c2', .bool n1, .slice A1 k1 c1, .slice A1' k1' c1', .bool n1, .slice A1 k1 c1, .slice A1' k1' c1', .bool n1, .slice A1 k1 c1, .slice A1' k1' c1', .bool n1, .slice A1 k1 c1, .slice A1' k1' c1', .bool n1, .slice A1 k1 c1, .slice A1' k1' c1', .bool n1, .slice A1 k1 c1, .slice A1' k1' c1', .bool n1, .slice A1 k1 c1, .slice A1' k1' c1'] 38) = WA at *
          have q0 := BZ.out.keep w1a
          have q1 := q0.set_ 0 (.int .i64 4)
          have q2 := q1.set_ 1 (.slice none 0 0)
          have q3 := q2.set_ 2 (.slice A 4 c)
          have hg := set3_grown WA w.heap.size (.int .i64 4) (.slice none 0 0) (.slice A 4 c)
          have hg' : W.heap.size ≠ w.heap.size := by omega
          obtain ⟨f1, f2⟩ := ring_fin hq ((OWW.out.kept (grown_ext w1a) (own_none _)).kept hg (own_ne7 (OWW.out.kept (grown_ext w1a) (own_none _)) (by omega))) ((R1W.out.keep w1a).other hg q0 (by decide)) ((R2W.out.keep w1a).other hg q0 (by decide)) (GP := W.heap.size) ((hg.block _ bN.lt (fun e => hg' (by injection e))).trans bN)
          refine bodyPost_ret (v := .tuple #[.agg #[.int .i64 4, .slice none 0 0, .slice A 4 c], .slice (some ⟨W.heap.size, 0, none⟩) 8 8]) (by simp [results, Tryz.results15, go_sem, q3.cell]) rfl ⟨A, c, some ⟨W.heap.size, 0, none⟩, 8, rfl, ?_, ?_, ?_⟩
          · exact f1.keep ((Ext.refl _).drewN 1)
          · exact f2.keep ((Ext.refl _).drewN 1)
          · exact ((((EWW.out.tr w1a).set_ (p := ⟨w.heap.size, 0, none⟩) (Nat.le_refl _) _).set_ (p := ⟨w.heap.size, 1, none⟩) (Nat.le_refl _) _).set_ (p := ⟨w.heap.size, 2, none⟩) (Nat.le_refl _) _).drewN 1)
end Go.Proofs.YtjmkcckbbgpkeaaGreatDoor
