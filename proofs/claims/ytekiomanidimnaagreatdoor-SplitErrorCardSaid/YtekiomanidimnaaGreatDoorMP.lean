/- slices.stableCmpFunc, slices.SortStableFunc: the indices of split.greatest in order. -/
/- split.greatest: the indices, the greatest numbers first. -/
import Derived.Test.YtekiomanidimnaaGreatDoorSortE
import Derived.Test.YtekiomanidimnaaGreatDoorMN
set_option linter.unusedVariables false
set_option linter.unusedSimpArgs false

namespace Go.Proofs.YtekiomanidimnaaGreatDoor
open Go.RowKit
/-- Sorting, under way. -/
structure StS (w0 wr : World) (g N : Nat) (l : List Nat) : Prop where
  mv : Moved 0 N (List.range N) l
  row : NRow wr g l
  ext : Ext w0 wr
theorem StS.len {w0 wr : World} {g N : Nat} {l : List Nat} (h : StS w0 wr g N l) : l.length = N := by rw [h.mv.len]; simp
theorem StS.lt {w0 wr : World} {g N : Nat} {l : List Nat} (h : StS w0 wr g N l) : ∀ k, k < N → atL l k < N :=
  h.mv.lt (Nat.le_refl _) (fun k hk => by unfold atL; rw [List.getElem?_range hk]; exact hk)
theorem StS.next {w0 wr w' : World} {g N a b : Nat} {l l' : List Nat} (h : StS w0 wr g N l) (hm : Moved a b l l') (hb : b ≤ N) (hr : NRow w' g l') (hx : Ext w0 w') : StS w0 w' g N l' :=
  ⟨h.mv.trans (hm.mono (Nat.zero_le _) hb), hr, hx⟩
set_option maxRecDepth 100000 in
set_option maxHeartbeats 4000000 in
theorem stable_ok (g N C gl : Nat) (cv : Nat → Nat → Int) (o : Ord (bfV cv)) (hN : N ≤ 100000) (w0 w : World) (hc : CmpOk w0 gl N cv) (hx : Ext w0 w) (hg : w0.heap.size ≤ g) (hr : NRow w g (List.range N)) :
    Calls Tryz.prog 162 #[.slice (some ⟨g, 0, none⟩) N C, .int .i64 N, .func (.func 141) #[] #[.pointer (some ⟨gl, 0, none⟩)]] w fun e w' => e = .returned (.tuple #[]) ∧ ∃ l, Srt (bfV cv) 0 N l ∧ StS w0 w' g N l := by
  have S0 := Lib.hid (show StS w0 w g N (List.range N) ∧ Part (bfV cv) N 20 0 (List.range N) from ⟨⟨Moved.refl _ _ _, hr, hx⟩, part_start _ _ _⟩)
  have HC := Lib.hid hc
  have O := Lib.hid o
  clear hr hx hc o
  go_enter Tryz.func162, Tryz.ntmps162
  go_wp2
  go_loopg [7, 8] (N - 0) (fun q at_ bt wr => ∃ (c : Nat) (l : List Nat), N - c = q ∧ c ≤ N ∧ at_ = .int .i64 c ∧ bt = .int .i64 ((c + 20 : Nat) : Int) ∧ Hid (StS w0 wr g N l ∧ Part (bfV cv) N 20 c l))
  case atStart => exact ⟨0, _, rfl, Nat.zero_le _, by go_num, by go_num, S0⟩
  case round =>
    obtain ⟨c, l1, rfl, hcN, rfl, rfl, S⟩ := hrel
    clear S0
    by_cases hcb : c + 20 ≤ N
    · have hle : ((c : Int) + 20 ≤ (N : Int)) := by omega
      have hin := insSort_ok g N C gl N cv O.out l1 S.out.1.len (by omega) c (c + 20) hcb (by omega) (fun k h1 h2 => S.out.2.hi k h1 (by omega)) hcb w0 wr HC.out S.out.1.ext hg S.out.1.row
      have HIN := Lib.hid hin
      clear hin
      go_wp2_with fail
      refine (HIN.out).mono ?_
      rintro e w1 ⟨rfl, l2, t1, t2, t3, t4⟩
      have T := Lib.hid (And.intro (S.out.1.next t1 hcb t3 t4) (part_step S.out.2 (by decide) hcb t1 t2))
      clear t1 t2 t3 t4 S HIN
      go_wp2
      go_roundg (N - (c + 20))
      case measure => omega
      case rel => exact ⟨c + 20, l2, rfl, hcb, by go_num, by go_num, T⟩
    · have hle : ¬ ((c : Int) + 20 ≤ (N : Int)) := by omega
      have hin := insSort_ok g N C gl N cv O.out l1 S.out.1.len (by omega) c N (Nat.le_refl _) hcN (fun k h1 h2 => S.out.2.hi k h1 h2) (Nat.le_refl _) w0 wr HC.out S.out.1.ext hg S.out.1.row
      have HIN := Lib.hid hin
      clear hin
      go_wp2_with fail
      refine (HIN.out).mono ?_
      rintro e w1 ⟨rfl, l2, t1, t2, t3, t4⟩
      have T := Lib.hid (And.intro (S.out.1.next t1 (Nat.le_refl _) t3 t4) (part_end S.out.2 (by decide) hcN (by omega) t1 t2))
      have SYM := Lib.hid (symMerge_ok g N C gl N cv O.out (by omega) w0 HC.out hg N)
      clear t1 t2 t3 t4 S HIN hle hcb
      go_wp2
      go_loopg [6, 7, 8, 9] (N - 20) (fun q st _ _ _ wr => ∃ (s : Nat) (l : List Nat), N - s = q ∧ 0 < s ∧ s ≤ 2 * N + 20 ∧ st = .int .i64 s ∧ Hid (StS w0 wr g N l ∧ Blocks (bfV cv) N s l))
      case atStart => exact ⟨20, l2, rfl, by decide, by omega, by go_num, T⟩
      case round =>
        obtain ⟨s, l3, rfl, hs0, hs1, rfl, U⟩ := hrel
        clear T
        by_cases hsN : s < N
        · have hlt : (s : Int) < (N : Int) := by omega
          have V0 := Lib.hid (And.intro U.out.1 (half_start U.out.2))
          clear U
          go_wp2
          go_loopg [7, 8] (N - 0) (fun q at_ bt wr => ∃ (c : Nat) (l : List Nat), N - c = q ∧ c ≤ N ∧ at_ = .int .i64 c ∧ bt = .int .i64 ((c + 2 * s : Nat) : Int) ∧ Hid (StS w0 wr g N l ∧ Half (bfV cv) N s c l))
          case atStart => exact ⟨0, l3, rfl, Nat.zero_le _, by go_num, by go_num, V0⟩
          case round =>
            obtain ⟨c2, l4, rfl, hc2, rfl, rfl, V⟩ := hrel
            clear V0
            by_cases hcb : c2 + 2 * s ≤ N
            · have hle : ((c2 : Int) + 2 * (s : Int) ≤ (N : Int)) := by omega
              have hsy := SYM.out c2 (c2 + s) (c2 + 2 * s) l4 wr (by omega) (by omega) (by omega) hcb V.out.1.len V.out.1.lt (by have := half_mrg V.out.2 hs0 (by omega); rw [Nat.min_eq_left hcb] at this; exact this) V.out.1.ext V.out.1.row
              have HSY := Lib.hid hsy
              clear hsy
              go_wp2_with fail
              refine (HSY.out).mono ?_
              rintro e w2 ⟨rfl, l5, t1, t2, t3, t4⟩
              have T := Lib.hid (And.intro (V.out.1.next t1 hcb t3 t4) (half_step V.out.2 hs0 (by omega) (by rw [Nat.min_eq_left hcb]; exact t1) (by rw [Nat.min_eq_left hcb]; exact t2)))
              clear t1 t2 t3 t4 V HSY
              go_wp2
              go_roundg (N - (c2 + 2 * s))
              case measure => omega
              case rel => exact ⟨c2 + 2 * s, l5, rfl, hcb, by go_num, by go_num, T⟩
            · have hle : ¬ ((c2 : Int) + 2 * (s : Int) ≤ (N : Int)) := by omega
              by_cases hcm : c2 + s < N
              · have hlm : (c2 : Int) + (s : Int) < (N : Int) := by omega
                have hsy := SYM.out c2 (c2 + s) N l4 wr (by omega) (by omega) hcm (Nat.le_refl _) V.out.1.len V.out.1.lt (by have := half_mrg V.out.2 hs0 hcm; rw [Nat.min_eq_right (by omega)] at this; exact this) V.out.1.ext V.out.1.row
                have HSY := Lib.hid hsy
                clear hsy
                go_wp2_with fail
                refine (HSY.out).mono ?_
                rintro e w2 ⟨rfl, l5, t1, t2, t3, t4⟩
                have T := Lib.hid (And.intro (V.out.1.next t1 (Nat.le_refl _) t3 t4) (half_end (half_step V.out.2 hs0 hcm (by rw [Nat.min_eq_right (by omega)]; exact t1) (by rw [Nat.min_eq_right (by omega)]; exact t2)) hs0 (by omega)))
                clear t1 t2 t3 t4 V HSY
                go_wp2
                go_roundg (N - 2 * s)
                case measure => omega
                case rel => exact ⟨2 * s, l5, rfl, by omega, by omega, by go_num, T⟩
              · have hlm : ¬ (c2 : Int) + (s : Int) < (N : Int) := by omega
                have T := Lib.hid (And.intro V.out.1 (half_end V.out.2 hs0 (by omega)))
                clear V
                go_wp2
                go_roundg (N - 2 * s)
                case measure => omega
                case rel => exact ⟨2 * s, l4, rfl, by omega, by omega, by go_num, T⟩
        · have hlt : ¬ (s : Int) < (N : Int) := by omega
          have F := Lib.hid (show Srt (bfV cv) 0 N l3 from by
            by_cases h0 : N = 0
            · subst h0; intro i j h1 h2 h3; omega
            · exact blocks_end U.out.2 (by omega) (by omega))
          go_wp2
          go_end0
          exact ⟨rfl, l3, F.out, U.out.1⟩
end Go.Proofs.YtekiomanidimnaaGreatDoor


namespace Go.Proofs.YtekiomanidimnaaGreatDoor
open Go.RowKit
theorem cmpQ_neg (a b : Rat) : cmpQ a b < 0 ↔ a < b := by
  unfold cmpQ
  by_cases h : a < b
  · rw [if_pos h]; exact ⟨fun _ => h, fun _ => by decide⟩
  · rw [if_neg h]
    by_cases e : a = b
    · rw [if_pos e]; exact ⟨fun x => absurd x (by decide), fun x => absurd x h⟩
    · rw [if_neg e]; exact ⟨fun x => absurd x (by decide), fun x => absurd x h⟩
theorem ord_cvQ (qs : List Rat) : Ord (bfV (cvQ qs)) := by
  refine ⟨fun x => ?_, fun x y z h1 h2 => ?_, fun x y z h1 h2 => ?_⟩
  · unfold bfV cvQ; rw [decide_eq_false_iff_not, cmpQ_neg]; exact Rat.lt_irrefl
  · unfold bfV cvQ at *
    rw [decide_eq_true_eq, cmpQ_neg] at *
    exact Rat.not_le.1 (fun h => absurd h1 (Rat.not_lt.2 (Rat.le_trans h (Rat.le_of_lt h2))))
  · unfold bfV cvQ at *
    rw [decide_eq_false_iff_not, cmpQ_neg, Rat.not_lt] at *
    exact Rat.le_trans h1 h2
theorem OI.row {w : World} {B : Nat} {A : Option Addr} {n c : Nat} {l : List Nat} (h : OI w B (.slice A n c) l) (hl : l.length = n) (h0 : 0 < n) : ∃ g, A = some ⟨g, 0, none⟩ ∧ B ≤ g ∧ NRow w g l := by
  obtain ⟨h1, h2⟩ := h
  rcases h2 with ⟨h3, h4⟩ | ⟨g', cap, cur, h3, h4, h5, h6, h7, h8, h9⟩
  · have : l = [] := by simpa [ints] using h4
    subst this
    simp at hl; omega
  · injection h3 with e1 e2 e3
    refine ⟨g', e1, h4, cur, h5, fun i hi => ?_⟩
    have h10 : (cur.toList.take l.length)[i]? = (ints l)[i]? := by
      have := h9
      rw [← this]
      simp
    rw [List.getElem?_take, if_pos hi] at h10
    rw [← Array.getElem?_toList, h10]
    unfold ints
    rw [List.getElem?_map, atL_get hi]
    rfl
set_option maxRecDepth 100000 in
set_option maxHeartbeats 2000000 in
theorem sortStable_ok (g N C gl : Nat) (cv : Nat → Nat → Int) (o : Ord (bfV cv)) (hN : N ≤ 100000) (w0 w : World) (hc : CmpOk w0 gl N cv) (hx : Ext w0 w) (hg : w0.heap.size ≤ g) (hr : NRow w g (List.range N)) :
    Calls Tryz.prog 140 #[.slice (some ⟨g, 0, none⟩) N C, .func (.func 141) #[] #[.pointer (some ⟨gl, 0, none⟩)]] w fun e w' => e = .returned (.tuple #[]) ∧ ∃ l, Srt (bfV cv) 0 N l ∧ StS w0 w' g N l := by
  have HS := Lib.hid (stable_ok g N C gl cv o hN w0 w hc hx hg hr)
  clear hr hx hc o hg
  go_enter Tryz.func140, Tryz.ntmps140
  go_wp2_with fail
  refine (HS.out).mono ?_
  rintro e w1 ⟨rfl, l, t1, t2⟩
  have T := Lib.hid (And.intro t1 t2)
  clear t1 t2 HS
  go_wp2
  go_end0
  exact ⟨rfl, l, T.out.1, T.out.2⟩
set_option maxRecDepth 100000 in
set_option maxHeartbeats 2000000 in
theorem greatest_ok (P : Option Addr) (n c : Nat) (qs : List Rat) (hn : qs.length = n) (h0 : 0 < n) (hn2 : n ≤ 100000) (w : World) (hq : QL w P qs) (hsz : ∀ q ∈ qs, SzQ q 100000) :
    Calls Tryz.prog 94 #[.slice P n c] w fun e w' => ∃ (g c' : Nat) (l : List Nat), e = .returned (.slice (some ⟨g, 0, none⟩) n c') ∧ NRow w' g l ∧ l.length = n ∧ l.Perm (List.range n) ∧ Srt (bfV (cvQ qs)) 0 n l ∧ w.heap.size ≤ g ∧ Ext w w' := by
  obtain ⟨b0, e0⟩ := boxes1 w #[.slice P n c] 47
  have CMP := Lib.hid (show CmpOk (w.alloc (.cells #[.slice P n c] 47)) w.heap.size n (cvQ qs) from fun W x y hW hx hy => gcmp_ok P n c w.heap.size qs hn x y hx hy W (b0.keep hW) (hq.keep (e0.tr hW)) hsz (by omega))
  have E0 := Lib.hid e0
  have BB := Lib.hid b0
  have hcell := b0.one.1
  have hwz : w.heap.size < (w.alloc (.cells #[.slice P n c] 47)).heap.size := b0.lt
  have HW := Lib.hid hwz
  clear b0 e0 hn hq hsz hwz
  go_enter Tryz.func94, Tryz.ntmps94
  go_wp2
  generalize hw0 : w.alloc (.cells #[.slice P n c] 47) = w0 at *
  clear hw0
  go_loopg [3, 4, 7] n (fun q vt _ it wr => ∃ (k : Nat) (A : Option Addr) (c2 : Nat), n - k = q ∧ k ≤ n ∧ it = .int .i64 k ∧ vt = .slice A k c2 ∧ Hid (OI wr w0.heap.size (.slice A k c2) (List.range k)) ∧ Hid (Ext w0 wr))
  case atStart => exact ⟨0, none, 0, rfl, Nat.zero_le _, rfl, rfl, Lib.hid (OI.nil _ _), Lib.hid (Ext.refl _)⟩
  case round =>
    obtain ⟨k, A, c2, rfl, hk, rfl, rfl, OW, EX⟩ := hrel
    clear hcell
    by_cases hkn : k < n
    · have hlt : (k : Int) < (n : Int) := by omega
      have hlen : (List.range k).length = k := by simp
      go_wp2_with (at_builtin; go_must (refine wpList_push wr rfl (.tmp 10) (.tmp 12) rfl w0.heap.size (.slice A k c2) (List.range k) rfl OW.out _ k ?c0 rfl ?c1 ?c2 ?_))
      case c0 => go_num
      case c1 => rw [hlen]; omega
      case c2 => exact EX.out.size
      intro v2 w2 hown2 hb2 A2 c3 e2
      (try rw [hlen] at e2)
      subst e2
      rw [← List.range_succ] at hown2
      have OW2 := Lib.hid hown2
      have EX2 := Lib.hid (EX.out.tr' hb2)
      clear hown2 hb2 hlen
      go_wp2
      go_roundg (n - (k + 1))
      case measure => omega
      case rel => exact ⟨k + 1, A2, c3, rfl, by omega, by go_num, rfl, OW2, EX2⟩
    · obtain rfl : k = n := by omega
      have hlt : ¬ (k : Int) < (k : Int) := by omega
      obtain ⟨g, rfl, hg, hrow⟩ := OW.out.row (by simp) h0
      have HS := Lib.hid (sortStable_ok g k c2 w.heap.size (cvQ qs) (ord_cvQ qs) hn2 w0 wr CMP.out EX.out hg hrow)
      have HG := Lib.hid hg
      clear hg hrow OW EX
      go_wp2_with fail
      refine (HS.out).mono ?_
      rintro e w3 ⟨rfl, l, t1, t2⟩
      have F := Lib.hid (show NRow w3 g l ∧ l.length = k ∧ l.Perm (List.range k) ∧ Srt (bfV (cvQ qs)) 0 k l ∧ w.heap.size ≤ g ∧ Ext w w3 from ⟨t2.row, t2.len, t2.mv.perm, t1, by have := HG.out; have := HW.out; omega, E0.out.tr t2.ext⟩)
      clear t1 t2 HS
      go_wp2
      go_ret
      exact ⟨g, c2, l, rfl, F.out⟩
end Go.Proofs.YtekiomanidimnaaGreatDoor
