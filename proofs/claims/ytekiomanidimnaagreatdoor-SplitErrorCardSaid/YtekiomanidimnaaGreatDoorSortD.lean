/- slices.symMergeCmpFunc. -/
import Derived.Test.YtekiomanidimnaaGreatDoorMO
set_option linter.unusedVariables false
set_option linter.unusedSimpArgs false

namespace Go.Proofs.YtekiomanidimnaaGreatDoor
open Go.RowKit
/-- The first element is put behind others, under way. -/
structure UpS (w0 wr : World) (g : Nat) (l l' : List Nat) (a b k : Nat) : Prop where
  at_ : ∀ q, atL l' q = upAt l a k q
  mv : Moved a b l l'
  row : NRow wr g l'
  ext : Ext w0 wr
theorem UpS.step {w0 wr : World} {g : Nat} {l l' : List Nat} {a b k : Nat} (h : UpS w0 wr g l l' a b k) (hak : a ≤ k) (hk : k + 1 < b) (hb : b ≤ l.length) (hg : w0.heap.size ≤ g) :
    UpS w0 ((wr.setCell ⟨g, k, none⟩ (.int .i64 ((atL l' (k + 1) : Nat) : Int))).setCell ⟨g, k + 1, none⟩ (.int .i64 ((atL l' k : Nat) : Int))).drew g l (swapL l' k (k + 1)) a b (k + 1) := by
  have hl := h.mv.len
  have hd : ∀ W : World, Ext W W.drew := fun W => (Ext.refl W).drewN 1
  exact ⟨upAt_step h.at_ hak (by omega), h.mv.trans (Moved.swap (by omega) (by omega) (by omega)), (h.row.swap (by omega) (by omega)).keep (hd _), ((h.ext.set_ (p := ⟨g, k, none⟩) hg _).set_ (p := ⟨g, k + 1, none⟩) hg _).tr (hd _)⟩
/-- The last element is put before others, under way. -/
structure DnS (w0 wr : World) (g : Nat) (l l' : List Nat) (a m k : Nat) : Prop where
  at_ : ∀ q, atL l' q = dnAt l m k q
  mv : Moved a (m + 1) l l'
  row : NRow wr g l'
  ext : Ext w0 wr
theorem DnS.step {w0 wr : World} {g : Nat} {l l' : List Nat} {a m k : Nat} (h : DnS w0 wr g l l' a m k) (hak : a < k) (hk : k ≤ m) (hb : m < l.length) (hg : w0.heap.size ≤ g) :
    DnS w0 ((wr.setCell ⟨g, k, none⟩ (.int .i64 ((atL l' (k - 1) : Nat) : Int))).setCell ⟨g, k - 1, none⟩ (.int .i64 ((atL l' k : Nat) : Int))).drew g l (swapL l' k (k - 1)) a m (k - 1) := by
  have hl := h.mv.len
  have hd : ∀ W : World, Ext W W.drew := fun W => (Ext.refl W).drewN 1
  exact ⟨dnAt_step h.at_ (by omega) hk (by omega), h.mv.trans (Moved.swap (by omega) (by omega) (by omega)), (h.row.swap (by omega) (by omega)).keep (hd _), ((h.ext.set_ (p := ⟨g, k, none⟩) hg _).set_ (p := ⟨g, k - 1, none⟩) hg _).tr (hd _)⟩
set_option maxRecDepth 100000 in
set_option maxHeartbeats 2000000 in
theorem symOne_ok (g N C gl n : Nat) (cv : Nat → Nat → Int) (o : Ord (bfV cv)) (l : List Nat) (hl : l.length = N) (hN : N ≤ 1000000) (a m b : Nat) (hma : m = a + 1) (hmb : m < b) (hb : b ≤ N) (hn : ∀ k, k < N → atL l k < n) (hm : Mrg (bfV cv) a m b l) (w0 w : World) (hc : CmpOk w0 gl n cv) (hx : Ext w0 w) (hg : w0.heap.size ≤ g) (hr : NRow w g l) :
    Calls Tryz.prog 181 #[.slice (some ⟨g, 0, none⟩) N C, .int .i64 a, .int .i64 m, .int .i64 b, .func (.func 141) #[] #[.pointer (some ⟨gl, 0, none⟩)]] w fun e w' => e = .returned (.tuple #[]) ∧ ∃ l', Moved a b l l' ∧ Srt (bfV cv) a b l' ∧ NRow w' g l' ∧ Ext w0 w' := by
  have S0 := Lib.hid (show NRow w g l ∧ Ext w0 w from ⟨hr, hx⟩)
  have HL := Lib.hid hl
  have HM := Lib.hid hm
  have HC := Lib.hid hc
  have O := Lib.hid o
  have HN := Lib.hid hn
  have B0 := Lib.hid (BsS.start (fun k => bfV cv (atL l k) (atL l a)) (show m ≤ b by omega))
  have HMA := Lib.hid hma
  have MON := Lib.hid (show ∀ k k', m ≤ k → k < k' → k' < b → bfV cv (atL l k') (atL l a) = true → bfV cv (atL l k) (atL l a) = true from fun k k' h1 h2 h3 h4 => bf_left o (hm.hi k k' h1 h2 h3) h4)
  have h1 : ((m : Int) - (a : Int) == 1) = true := by simp; omega
  have ham : a < m := by omega
  clear hr hx hl hm hc o hn hma
  go_enter Tryz.func181, Tryz.ntmps181
  go_wp2
  go_loopg [10, 11, 12] (b - m) (fun q it jt _ wr => ∃ i j : Nat, j - i = q ∧ (m ≤ i ∧ i ≤ j ∧ j ≤ b) ∧ it = .int .i64 i ∧ jt = .int .i64 j ∧ Hid (BsS (fun k => bfV cv (atL l k) (atL l a)) m b i j) ∧ Hid (NRow wr g l ∧ Ext w0 wr))
  case atStart => exact ⟨m, b, rfl, by omega, by go_num, by go_num, B0, S0⟩
  case round =>
    obtain ⟨i, j, rfl, hij, rfl, rfl, B, S⟩ := hrel
    clear B0 S0
    by_cases hlt : i < j
    · have hlt2 : (i : Int) < (j : Int) := by omega
      obtain ⟨c, hcc⟩ : ∃ c : Nat, c = (i + j) / 2 := ⟨_, rfl⟩
      have ecc : ((i : Int) + (j : Int)) / 2 = (c : Int) := by omega
      have ULT := Lib.hid (fun hp => B.out.up MON.out hcc hlt hp)
      have DLT := Lib.hid (fun hp => B.out.down MON.out hcc hlt hp)
      have hci : m ≤ c ∧ c < b ∧ i ≤ c ∧ c < j := by omega
      clear B hcc
      go_upto_region 5 with fail
      clear ecc
      have hlN := HL.out
      have c1 := S.out.1.cell (i := c) (by omega)
      have c2 := S.out.1.cell (i := a) (by omega)
      have X1 := Lib.hid (HN.out (c) (by omega))
      have X2 := Lib.hid (HN.out (a) (by omega))
      clear hlN
      generalize hx1 : atL l (c) = x at *
      generalize hx2 : atL l (a) = y at *
      clear hx1 hx2
      have p1 := XW.cell _ _ _ S.out.1.lt c1
      have p2 := XW.cell _ _ _ S.out.1.lt c2
      have q1 : (c : Int) < (N : Int) := by omega
      have q2 : (a : Int) < (N : Int) := by omega
      have q3 : (m : Int) < (N : Int) := by omega
      clear c1 c2
      go_cut [50] (fun s wy => s = .bool (decide (cv x y < 0)) ∧ Hid (Ext wr wy))
      case first =>
        refine wp_region_ext (by kernel_rfl) (by kernel_rfl) ?_
        repeat (go_big_quiet_step ((go_at_call 141; exact Calls.ext_of (HC.out _ x y (S.out.2.tr (XW.ext _)) X1.out X2.out))))
        refine wpQuiet_nil ?_
        rintro _ ⟨z, rfl⟩
        go_wp2
        go_meet
        exact ⟨by simp, Lib.hid z.ext⟩
      case rest =>
        obtain ⟨rfl, EY⟩ := hcut
        have S2 := Lib.hid (And.intro (S.out.1.keep EY.out) (S.out.2.tr EY.out))
        clear p1 p2 S EY X1 X2
        cases hcv : decide (cv x y < 0)
        case true =>
          have NB := Lib.hid (ULT.out (by unfold bfV; rw [hcv]))
          clear hcv ULT DLT
          go_wp2
          go_roundg (j - (c + 1))
          case measure => omega
          case rel => exact ⟨c + 1, j, rfl, by omega, by go_num, by go_num, NB, S2⟩
        case false =>
          have NB := Lib.hid (DLT.out (by unfold bfV; rw [hcv]))
          clear hcv ULT DLT
          go_wp2
          go_roundg (c - i)
          case measure => omega
          case rel => exact ⟨i, c, rfl, by omega, by go_num, by go_num, NB, S2⟩
    · obtain rfl : i = j := by omega
      have hnl : ¬ (i : Int) < (i : Int) := by omega
      have U0 := Lib.hid (show UpS w0 wr g l l a b a from ⟨upAt_zero l a, Moved.refl _ _ _, S.out.1, S.out.2⟩)
      clear S
      have him : m ≤ i := hij.1
      have hib : i ≤ b := hij.2.2
      go_wp2
      go_loopg [13] (i - 1 - a) (fun q kt wx => ∃ (k : Nat) (l' : List Nat), i - 1 - k = q ∧ a ≤ k ∧ k ≤ i - 1 ∧ kt = .int .i64 k ∧ Hid (UpS w0 wx g l l' a b k))
      case atStart => exact ⟨a, l, rfl, Nat.le_refl _, by omega, rfl, U0⟩
      case round =>
        obtain ⟨k, l1, rfl, hak, hki, rfl, U⟩ := hrel
        clear U0
        by_cases hkl : k < i - 1
        · have hl1 : l1.length = N := U.out.mv.len.trans HL.out
          have c1 := U.out.row.cell (i := k) (by omega)
          have c2 := U.out.row.cell (i := k + 1) (by omega)
          have f1 := U.out.row.frozen k
          have f2 := U.out.row.frozen (k + 1)
          have NX := Lib.hid (U.out.step hak (by omega) (by rw [HL.out]; exact hb) hg)
          generalize atL l1 k = x at *
          generalize atL l1 (k + 1) = y at *
          have k1 : (k : Int) < (i : Int) - 1 := by omega
          have k2 : (k : Int) + 1 < (N : Int) := by omega
          have k3 : (k : Int) < (N : Int) := by omega
          clear hl1 U
          go_wp2
          go_region
          go_wp2
          go_roundg (i - 1 - (k + 1))
          case measure => omega
          case rel => exact ⟨k + 1, _, rfl, by omega, by omega, by go_num, NX⟩
        · have hke : k = i - 1 := by omega
          have k1 : ¬ (k : Int) < (i : Int) - 1 := by omega
          have F := Lib.hid (show Moved a b l l1 ∧ Srt (bfV cv) a b l1 ∧ NRow wr g l1 ∧ Ext w0 wr from ⟨U.out.mv, merge_one O.out HM.out HMA.out him hib B.out.yes B.out.no (by rw [← hke]; exact U.out.at_), U.out.row, U.out.ext⟩)
          clear U hke
          go_wp2
          refine bodyPost_ret (results_none rfl _ _ _) rfl ?_
          exact ⟨rfl, l1, F.out⟩
set_option maxRecDepth 100000 in
set_option maxHeartbeats 2000000 in
theorem symLast_ok (g N C gl n : Nat) (cv : Nat → Nat → Int) (o : Ord (bfV cv)) (l : List Nat) (hl : l.length = N) (hN : N ≤ 1000000) (a m b : Nat) (ham : a + 1 < m) (hbm : b = m + 1) (hb : b ≤ N) (hn : ∀ k, k < N → atL l k < n) (hm : Mrg (bfV cv) a m b l) (w0 w : World) (hc : CmpOk w0 gl n cv) (hx : Ext w0 w) (hg : w0.heap.size ≤ g) (hr : NRow w g l) :
    Calls Tryz.prog 181 #[.slice (some ⟨g, 0, none⟩) N C, .int .i64 a, .int .i64 m, .int .i64 b, .func (.func 141) #[] #[.pointer (some ⟨gl, 0, none⟩)]] w fun e w' => e = .returned (.tuple #[]) ∧ ∃ l', Moved a b l l' ∧ Srt (bfV cv) a b l' ∧ NRow w' g l' ∧ Ext w0 w' := by
  have S0 := Lib.hid (show NRow w g l ∧ Ext w0 w from ⟨hr, hx⟩)
  have HL := Lib.hid hl
  have HM := Lib.hid hm
  have HC := Lib.hid hc
  have O := Lib.hid o
  have HN := Lib.hid hn
  have B0 := Lib.hid (BsS.start (fun k => !bfV cv (atL l m) (atL l k)) (show a ≤ m by omega))
  have HMA := Lib.hid hbm
  have MON := Lib.hid (show ∀ k k', a ≤ k → k < k' → k' < m → (!bfV cv (atL l m) (atL l k')) = true → (!bfV cv (atL l m) (atL l k)) = true from fun k k' h1 h2 h3 h4 => by
    cases e : bfV cv (atL l m) (atL l k)
    · rfl
    · rw [bf_right o (hm.lo k k' h1 h2 h3) e] at h4; cases h4)
  have h1 : ((m : Int) - (a : Int) == 1) = false := by simp; omega
  have h2 : ((b : Int) - (m : Int) == 1) = true := by simp; omega
  have hmb : m < b := by omega
  clear hr hx hl hm hc o hn hbm
  go_enter Tryz.func181, Tryz.ntmps181
  go_wp2
  go_loopg [14, 15, 16] (m - a) (fun q it jt _ wr => ∃ i j : Nat, j - i = q ∧ (a ≤ i ∧ i ≤ j ∧ j ≤ m) ∧ it = .int .i64 i ∧ jt = .int .i64 j ∧ Hid (BsS (fun k => !bfV cv (atL l m) (atL l k)) a m i j) ∧ Hid (NRow wr g l ∧ Ext w0 wr))
  case atStart => exact ⟨a, m, rfl, by omega, by go_num, by go_num, B0, S0⟩
  case round =>
    obtain ⟨i, j, rfl, hij, rfl, rfl, B, S⟩ := hrel
    clear B0 S0
    by_cases hlt : i < j
    · have hlt2 : (i : Int) < (j : Int) := by omega
      obtain ⟨c, hcc⟩ : ∃ c : Nat, c = (i + j) / 2 := ⟨_, rfl⟩
      have ecc : ((i : Int) + (j : Int)) / 2 = (c : Int) := by omega
      have ULT := Lib.hid (fun hp => B.out.up MON.out hcc hlt hp)
      have DLT := Lib.hid (fun hp => B.out.down MON.out hcc hlt hp)
      have hci : a ≤ c ∧ c < m ∧ i ≤ c ∧ c < j := by omega
      clear B hcc
      go_upto_region 17 with fail
      clear ecc
      have hlN := HL.out
      have c1 := S.out.1.cell (i := m) (by omega)
      have c2 := S.out.1.cell (i := c) (by omega)
      have X1 := Lib.hid (HN.out (m) (by omega))
      have X2 := Lib.hid (HN.out (c) (by omega))
      clear hlN
      generalize hx1 : atL l (m) = x at *
      generalize hx2 : atL l (c) = y at *
      clear hx1 hx2
      have p1 := XW.cell _ _ _ S.out.1.lt c1
      have p2 := XW.cell _ _ _ S.out.1.lt c2
      have q1 : (c : Int) < (N : Int) := by omega
      have q2 : (a : Int) < (N : Int) := by omega
      have q3 : (m : Int) < (N : Int) := by omega
      clear c1 c2
      go_cut [103] (fun s wy => s = .bool (!decide (cv x y < 0)) ∧ Hid (Ext wr wy))
      case first =>
        refine wp_region_ext (by kernel_rfl) (by kernel_rfl) ?_
        repeat (go_big_quiet_step ((go_at_call 141; exact Calls.ext_of (HC.out _ x y (S.out.2.tr (XW.ext _)) X1.out X2.out))))
        refine wpQuiet_nil ?_
        rintro _ ⟨z, rfl⟩
        go_wp2
        go_meet
        exact ⟨by simp, Lib.hid z.ext⟩
      case rest =>
        obtain ⟨rfl, EY⟩ := hcut
        have S2 := Lib.hid (And.intro (S.out.1.keep EY.out) (S.out.2.tr EY.out))
        clear p1 p2 S EY X1 X2
        cases hcv : decide (cv x y < 0)
        case false =>
          have NB := Lib.hid (ULT.out (by unfold bfV; rw [hcv]; rfl))
          clear hcv ULT DLT
          go_wp2
          go_roundg (j - (c + 1))
          case measure => omega
          case rel => exact ⟨c + 1, j, rfl, by omega, by go_num, by go_num, NB, S2⟩
        case true =>
          have NB := Lib.hid (DLT.out (by unfold bfV; rw [hcv]; rfl))
          clear hcv ULT DLT
          go_wp2
          go_roundg (c - i)
          case measure => omega
          case rel => exact ⟨i, c, rfl, by omega, by go_num, by go_num, NB, S2⟩
    · obtain rfl : i = j := by omega
      have hnl : ¬ (i : Int) < (i : Int) := by omega
      have U0 := Lib.hid (show DnS w0 wr g l l a m m from ⟨dnAt_zero l m, Moved.refl _ _ _, S.out.1, S.out.2⟩)
      clear S
      have hai : a ≤ i := hij.1
      have him : i ≤ m := hij.2.2
      go_wp2
      go_loopg [17] (m - i) (fun q kt wx => ∃ (k : Nat) (l' : List Nat), k - i = q ∧ i ≤ k ∧ k ≤ m ∧ kt = .int .i64 k ∧ Hid (DnS w0 wx g l l' a m k))
      case atStart => exact ⟨m, l, rfl, him, Nat.le_refl _, rfl, U0⟩
      case round =>
        obtain ⟨k, l1, rfl, hki, hkm, rfl, U⟩ := hrel
        clear U0
        by_cases hkl : i < k
        · have hl1 : l1.length = N := U.out.mv.len.trans HL.out
          have c1 := U.out.row.cell (i := k) (by omega)
          have c2 := U.out.row.cell (i := k - 1) (by omega)
          have f1 := U.out.row.frozen k
          have f2 := U.out.row.frozen (k - 1)
          have NX := Lib.hid (U.out.step (by omega) hkm (by rw [HL.out]; omega) hg)
          generalize atL l1 k = x at *
          generalize atL l1 (k - 1) = y at *
          have k1 : (i : Int) < (k : Int) := by omega
          have k2 : (k : Int) - 1 < (N : Int) := by omega
          have k3 : (k : Int) < (N : Int) := by omega
          have k4 : 0 ≤ (k : Int) - 1 := by omega
          clear hl1 U
          go_wp2
          go_region
          go_wp2
          go_roundg (k - 1 - i)
          case measure => omega
          case rel => exact ⟨k - 1, _, rfl, by omega, by omega, by go_num, NX⟩
        · have hke : k = i := by omega
          have k1 : ¬ (i : Int) < (k : Int) := by omega
          have F := Lib.hid (show Moved a b l l1 ∧ Srt (bfV cv) a b l1 ∧ NRow wr g l1 ∧ Ext w0 wr from ⟨by rw [HMA.out]; exact U.out.mv, merge_last O.out HM.out HMA.out hai him (fun q q1 q2 => by simpa using B.out.yes q q1 q2) (fun q q1 q2 => by simpa using B.out.no q q1 q2) (by rw [← hke]; exact U.out.at_), U.out.row, U.out.ext⟩)
          clear U hke
          go_wp2
          refine bodyPost_ret (results_none rfl _ _ _) rfl ?_
          exact ⟨rfl, l1, F.out⟩
end Go.Proofs.YtekiomanidimnaaGreatDoor
