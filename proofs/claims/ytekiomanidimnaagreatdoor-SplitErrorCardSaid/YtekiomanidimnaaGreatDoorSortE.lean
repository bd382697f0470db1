/- slices.symMergeCmpFunc: any ranges. -/
import Derived.Test.YtekiomanidimnaaGreatDoorSortD
set_option linter.unusedVariables false
set_option linter.unusedSimpArgs false

namespace Go.Proofs.YtekiomanidimnaaGreatDoor
open Go.RowKit
/-- Merging ranges of up to s elements. -/
def SymOk (g N C gl n : Nat) (cv : Nat → Nat → Int) (w0 : World) (s : Nat) : Prop := ∀ (a m b : Nat) (l : List Nat) (w : World), b - a ≤ s → a < m → m < b → b ≤ N → l.length = N → (∀ k, k < N → atL l k < n) → Mrg (bfV cv) a m b l → Ext w0 w → NRow w g l →
    Calls Tryz.prog 181 #[.slice (some ⟨g, 0, none⟩) N C, .int .i64 a, .int .i64 m, .int .i64 b, .func (.func 141) #[] #[.pointer (some ⟨gl, 0, none⟩)]] w fun e w' => e = .returned (.tuple #[]) ∧ ∃ l', Moved a b l l' ∧ Srt (bfV cv) a b l' ∧ NRow w' g l' ∧ Ext w0 w'
theorem Moved.lt {a b N n : Nat} {l l' : List Nat} (h : Moved a b l l') (hb : b ≤ N) (hn : ∀ k, k < N → atL l k < n) : ∀ k, k < N → atL l' k < n := fun k hk =>
  (h.mono (Nat.zero_le a) hb).sub (fun x => x < n) (fun i _ h2 => hn i h2) k (Nat.zero_le _) hk
theorem Mrg.congr {bf : Nat → Nat → Bool} {a m b : Nat} {l l' : List Nat} (h : Mrg bf a m b l) (hmb : m ≤ b) (ham : a ≤ m) (he : ∀ k, a ≤ k → k < b → atL l' k = atL l k) : Mrg bf a m b l' :=
  ⟨fun i j h1 h2 h3 => by rw [he i (by omega) (by omega), he j (by omega) (by omega)]; exact h.lo i j h1 h2 h3,
   fun i j h1 h2 h3 => by rw [he i (by omega) (by omega), he j (by omega) (by omega)]; exact h.hi i j h1 h2 h3,
   fun i j h1 h2 h3 h4 => by rw [he i (by omega) (by omega), he j (by omega) (by omega)]; exact h.cr i j h1 h2 h3 h4⟩
theorem rotAt_none {l : List Nat} {s m e : Nat} (hs : s ≤ m) (he : m ≤ e) (h : ¬ (s < m ∧ m < e)) (k : Nat) : atL l k = rotAt l s m e k := by
  unfold rotAt
  repeat' split
  all_goals first | omega | rfl | (congr 1; omega)
/-- Symmetric merging: what the search says. -/
theorem sym_cut {bf : Nat → Nat → Bool} (o : Ord bf) {a m b mid p s0 r0 i e : Nat} {l : List Nat} (h : Mrg bf a m b l) (ham : a + 1 < m) (hmb : m + 1 < b) (hmid : mid = (a + b) / 2) (hsr : (m ≤ mid ∧ s0 = a ∧ r0 = m) ∨ (mid < m ∧ s0 + b = mid + m ∧ r0 = mid)) (hp : p + 1 = mid + m) (he : e = mid + m - i) (hB : BsS (fun k => !bf (atL l (p - k)) (atL l k)) s0 r0 i i) :
    ∀ l' : List Nat, (∀ k, atL l' k = rotAt l i m e k) → Mrg bf a i mid l' ∧ Mrg bf mid e b l' ∧ ∀ x y, a ≤ x → x < mid → mid ≤ y → y < b → ltB bf (atL l' x) (atL l' y) := fun l' hr => by
  have h1 := hB.li
  have h2 := hB.jh
  refine mrg_cut o h (by omega) (by omega) hmid (by omega) he (by omega) ?_ ?_ hr
  · by_cases his : i = s0
    · rcases hsr with q | q
      · exact .inl (by omega)
      · exact .inr (.inl (by omega))
    · have h5 := hB.yes (i - 1) (by omega) (by omega)
      have h6 : p - (i - 1) = e := by omega
      simp only [h6] at h5
      exact .inr (.inr (by simpa using h5))
  · by_cases his : i = r0
    · rcases hsr with q | q
      · exact .inl (by omega)
      · exact .inr (.inl (by omega))
    · have h5 := hB.no i (Nat.le_refl _) (by omega)
      have h6 : p - i = e - 1 := by omega
      simp only [h6] at h5
      exact .inr (.inr (by simpa using h5))
set_option maxRecDepth 100000 in
set_option maxHeartbeats 2000000 in
theorem symGen_ok (s : Nat) (g N C gl n : Nat) (cv : Nat → Nat → Int) (o : Ord (bfV cv)) (l : List Nat) (hl : l.length = N) (hN : N ≤ 1000000) (a m b : Nat) (ham : a + 1 < m) (hmb : m + 1 < b) (hb : b ≤ N) (hn : ∀ k, k < N → atL l k < n) (hm : Mrg (bfV cv) a m b l) (w0 w : World) (hc : CmpOk w0 gl n cv) (hx : Ext w0 w) (hg : w0.heap.size ≤ g) (hr : NRow w g l) (hs : b - a ≤ s + 1) (IH : SymOk g N C gl n cv w0 s) :
    Calls Tryz.prog 181 #[.slice (some ⟨g, 0, none⟩) N C, .int .i64 a, .int .i64 m, .int .i64 b, .func (.func 141) #[] #[.pointer (some ⟨gl, 0, none⟩)]] w fun e w' => e = .returned (.tuple #[]) ∧ ∃ l', Moved a b l l' ∧ Srt (bfV cv) a b l' ∧ NRow w' g l' ∧ Ext w0 w' := by
  have S0 := Lib.hid (show NRow w g l ∧ Ext w0 w from ⟨hr, hx⟩)
  have HL := Lib.hid hl
  have HM := Lib.hid hm
  have HC := Lib.hid hc
  have O := Lib.hid o
  have HN := Lib.hid hn
  have HI := Lib.hid IH
  obtain ⟨mid, hmid⟩ : ∃ mid : Nat, mid = (a + b) / 2 := ⟨_, rfl⟩
  have emid : ((a : Int) + (b : Int)) / 2 = (mid : Int) := by omega
  have HMID := Lib.hid hmid
  have hmd : a < mid ∧ mid < b ∧ 2 * mid ≤ a + b ∧ a + b ≤ 2 * mid + 1 := by omega
  obtain ⟨p, hp⟩ : ∃ p : Nat, p + 1 = mid + m := ⟨mid + m - 1, by omega⟩
  have ep : (mid : Int) + (m : Int) - 1 = (p : Int) := by omega
  have HP := Lib.hid hp
  have h1 : ((m : Int) - (a : Int) == 1) = false := by simp; omega
  have h2 : ((b : Int) - (m : Int) == 1) = false := by simp; omega
  clear hr hx hl hm hc hn hmid IH hp
  go_enter Tryz.func181, Tryz.ntmps181
  go_upto_if 140 with (fail)
  go_cut [20, 21] (fun s r wx => ∃ s0 r0 : Nat, s = .int .i64 s0 ∧ r = .int .i64 r0 ∧ ((m ≤ mid ∧ s0 = a ∧ r0 = m) ∨ (mid < m ∧ s0 + b = mid + m ∧ r0 = mid)) ∧ wx = w)
  case first => as_aux_lemma =>
    by_cases hgt : mid < m
    · have hg2 : (mid : Int) < (m : Int) := by omega
      have hg3 : decide ((mid : Int) < (m : Int)) = true := by simp; omega
      go_wp2
      go_meet
      exact ⟨mid + m - b, mid, by go_num, by go_num, .inr ⟨hgt, by omega, rfl⟩, rfl⟩
    · have hg2 : ¬ (mid : Int) < (m : Int) := by omega
      have hg3 : decide ((mid : Int) < (m : Int)) = false := by simp; omega
      go_wp2
      go_meet
      exact ⟨a, m, by go_num, by go_num, .inl ⟨by omega, rfl, rfl⟩, rfl⟩
  case rest =>
    obtain ⟨s0, r0, rfl, rfl, hsr, rfl⟩ := hcut
    have HSR := Lib.hid hsr
    have hfa : s0 ≤ r0 ∧ a ≤ s0 ∧ r0 ≤ m ∧ r0 ≤ mid := by omega
    have HPC := Lib.hid (show ∀ c, s0 ≤ c → c < r0 → m ≤ p - c ∧ p - c < b ∧ c ≤ p from fun c h1 h2 => by have := HP.out; omega)
    have MON := Lib.hid (show ∀ k k', s0 ≤ k → k < k' → k' < r0 → (!bfV cv (atL l (p - k')) (atL l k')) = true → (!bfV cv (atL l (p - k)) (atL l k)) = true from fun k k' h1 h2 h3 h4 => by
      cases e : bfV cv (atL l (p - k)) (atL l k)
      · rfl
      · have e1 := bf_right o (HM.out.lo k k' (by omega) h2 (by omega)) e
        have q1 := HPC.out k (by omega) (by omega)
        have q2 := HPC.out k' (by omega) (by omega)
        rw [bf_left o (HM.out.hi (p - k') (p - k) (by omega) (by omega) (by omega)) e1] at h4; cases h4)
    have B0 := Lib.hid (BsS.start (fun k => !bfV cv (atL l (p - k)) (atL l k)) hfa.1)
    clear hsr o
    go_wp2
    go_loopg [20, 21, 23] (r0 - s0) (fun q it jt _ wr => ∃ i j : Nat, j - i = q ∧ (s0 ≤ i ∧ i ≤ j ∧ j ≤ r0) ∧ it = .int .i64 i ∧ jt = .int .i64 j ∧ Hid (BsS (fun k => !bfV cv (atL l (p - k)) (atL l k)) s0 r0 i j) ∧ Hid (NRow wr g l ∧ Ext w0 wr))
    case atStart => exact ⟨s0, r0, rfl, by omega, by go_num, by go_num, B0, S0⟩
    case round =>
      obtain ⟨i, j, rfl, hij, rfl, rfl, B, S⟩ := hrel
      clear B0 S0
      by_cases hlt : i < j
      · have hlt2 : (i : Int) < (j : Int) := by omega
        obtain ⟨c, hcc⟩ : ∃ c : Nat, c = (i + j) / 2 := ⟨_, rfl⟩
        have ecc : ((i : Int) + (j : Int)) / 2 = (c : Int) := by omega
        have ULT := Lib.hid (fun hp => B.out.up MON.out hcc hlt hp)
        have DLT := Lib.hid (fun hp => B.out.down MON.out hcc hlt hp)
        have hci : s0 ≤ c ∧ c < r0 ∧ i ≤ c ∧ c < j := by omega
        clear B hcc
        go_upto_region 35 with fail
        clear ecc
        have hlN := HL.out
        have hpc := HPC.out c hci.1 hci.2.1
        have epc : ((p - c : Nat) : Int) = (p : Int) - (c : Int) := by omega
        have q4 : (p : Int) - (c : Int) < (N : Int) := by omega
        have q5 : 0 ≤ (p : Int) - (c : Int) := by omega
        clear epc
        have c1 := S.out.1.cell (i := p - c) (by omega)
        have c2 := S.out.1.cell (i := c) (by omega)
        have X1 := Lib.hid (HN.out (p - c) (by omega))
        have X2 := Lib.hid (HN.out (c) (by omega))
        clear hlN
        generalize hx1 : atL l (p - c) = x at *
        generalize hx2 : atL l (c) = y at *
        clear hx1 hx2
        have p1 := XW.cell _ _ _ S.out.1.lt c1
        have p2 := XW.cell _ _ _ S.out.1.lt c2
        have q1 : (c : Int) < (N : Int) := by omega
        have q2 : (a : Int) < (N : Int) := by omega
        have q3 : (m : Int) < (N : Int) := by omega
        clear c1 c2
        go_cut [171] (fun s wy => s = .bool (!decide (cv x y < 0)) ∧ Hid (Ext wr wy))
        case first =>
          refine wp_region_ext (by kernel_rfl) (by kernel_rfl) ?_
          repeat (go_big_quiet_step ((go_at_call 141; exact Calls.ext_of (HC.out _ x y (S.out.2.tr (XW.ext _)) X1.out X2.out))))
          refine wpQuiet_nil ?_
          rintro _ ⟨z, rfl⟩
          go_wp2
          go_meet
          exact ⟨by simp, Lib.hid z.ext⟩
        case rest =>
          obtain ⟨rfl, EY⟩ := hcut
          have S2 := Lib.hid (And.intro (S.out.1.keep EY.out) (S.out.2.tr EY.out))
          clear p1 p2 S EY X1 X2
          cases hcv : decide (cv x y < 0)
          case false =>
            have NB := Lib.hid (ULT.out (by unfold bfV; rw [hcv]; rfl))
            clear hcv ULT DLT
            go_wp2
            go_roundg (j - (c + 1))
            case measure => omega
            case rel => exact ⟨c + 1, j, rfl, by omega, by go_num, by go_num, NB, S2⟩
          case true =>
            have NB := Lib.hid (DLT.out (by unfold bfV; rw [hcv]; rfl))
            clear hcv ULT DLT
            go_wp2
            go_roundg (c - i)
            case measure => omega
            case rel => exact ⟨i, c, rfl, by omega, by go_num, by go_num, NB, S2⟩
      · obtain rfl : i = j := by omega
        have hnl : ¬ (i : Int) < (i : Int) := by omega
        obtain ⟨e, hee⟩ : ∃ e : Nat, e = mid + m - i := ⟨_, rfl⟩
        have ee : (mid : Int) + (m : Int) - (i : Int) = (e : Int) := by omega
        have heb : e ≤ b ∧ m ≤ e ∧ mid ≤ e ∧ a ≤ i ∧ i ≤ m ∧ i ≤ mid ∧ e + i = mid + m := by have := HSR.out; omega
        have CUT := Lib.hid (sym_cut O.out HM.out ham hmb HMID.out HSR.out HP.out hee B.out)
        have hlN := HL.out
        clear B hee MON HPC hnl
        go_upto_region 39 with fail
        go_cut [185] (fun s wx => ∃ B : Bool, s = .bool B ∧ Hid (B = true ↔ i < m ∧ m < e) ∧ wx = wr)
        case first => as_aux_lemma =>
          by_cases x1 : i < m
          · have y1 : (i : Int) < (m : Int) := by omega
            have y2 : decide ((i : Int) < (m : Int)) = true := by simp; omega
            go_wp2
            go_meet
            exact ⟨_, rfl, Lib.hid (by simp [x1]), rfl⟩
          · have y1 : ¬ (i : Int) < (m : Int) := by omega
            have y2 : decide ((i : Int) < (m : Int)) = false := by simp; omega
            go_wp2
            go_meet
            exact ⟨_, rfl, Lib.hid (by simp [x1]), rfl⟩
        case rest =>
          obtain ⟨B, rfl, HB, rfl⟩ := hcut
          go_upto_if 185 with (fail)
          go_cut [191] (fun _ wx => ∃ l' : List Nat, Hid (∀ k, atL l' k = rotAt l i m e k) ∧ Hid (Moved a b l l' ∧ NRow wx g l' ∧ Ext w0 wx))
          case first => as_aux_lemma =>
            cases B
            case true =>
              have hrot : i < m ∧ m < e := HB.out.1 rfl
              go_wp2_with fail
              refine (rotate_ok g N C _ l HL.out hN i m e hrot.1 hrot.2 (by omega) w0 _ S.out.2 hg S.out.1).mono ?_
              rintro e' w1 ⟨rfl, l1, t1, t2, t3, t4⟩
              have T := Lib.hid (show Moved a b l l1 ∧ NRow w1 g l1 ∧ Ext w0 w1 from ⟨t2.mono (by omega) (by omega), t3, t4⟩)
              have T1 := Lib.hid t1
              clear t1 t2 t3 t4
              go_wp2
              go_meet
              exact ⟨l1, T1, T⟩
            case false =>
              have hrot : ¬ (i < m ∧ m < e) := fun h => by have := HB.out.2 h; cases this
              have T1 := Lib.hid (rotAt_none (l := l) (s := i) (m := m) (e := e) (by omega) (by omega) hrot)
              clear hrot
              go_wp2
              go_meet
              exact ⟨l, T1, Lib.hid ⟨Moved.refl _ _ _, S.out.1, S.out.2⟩⟩
          case rest =>
            obtain ⟨l1, T1, T⟩ := hcut
            have MM := Lib.hid (CUT.out l1 T1.out)
            have hl1 : l1.length = N := by rw [T.out.1.len]; exact hlN
            have HL1 := Lib.hid hl1
            have HN1 := Lib.hid (T.out.1.lt hb HN.out)
            clear S T1 CUT hl1
            go_upto_region 41 with fail
            go_cut [199] (fun s wx => ∃ B : Bool, s = .bool B ∧ Hid (B = true ↔ a < i ∧ i < mid) ∧ wx = wc)
            case first => as_aux_lemma =>
              by_cases x1 : a < i
              · have y1 : (a : Int) < (i : Int) := by omega
                have y2 : decide ((a : Int) < (i : Int)) = true := by simp; omega
                go_wp2
                go_meet
                exact ⟨_, rfl, Lib.hid (by simp [x1]), rfl⟩
              · have y1 : ¬ (a : Int) < (i : Int) := by omega
                have y2 : decide ((a : Int) < (i : Int)) = false := by simp; omega
                go_wp2
                go_meet
                exact ⟨_, rfl, Lib.hid (by simp [x1]), rfl⟩
            case rest =>
              obtain ⟨B, rfl, HB, rfl⟩ := hcut
              go_upto_if 199 with (fail)
              go_cut [205] (fun _ wx => ∃ l' : List Nat, Hid (Moved a mid l1 l' ∧ Srt (bfV cv) a mid l') ∧ Hid (NRow wx g l' ∧ Ext w0 wx))
              case first => as_aux_lemma =>
                cases B
                case true =>
                  have hrot : a < i ∧ i < mid := HB.out.1 rfl
                  go_wp2_with fail
                  refine (HI.out a i mid l1 _ (by omega) hrot.1 hrot.2 (by omega) HL1.out HN1.out MM.out.1 T.out.2.2 T.out.2.1).mono ?_
                  rintro e' w1 ⟨rfl, l2, t1, t2, t3, t4⟩
                  have U1 := Lib.hid (And.intro t1 t2)
                  have U2 := Lib.hid (And.intro t3 t4)
                  clear t1 t2 t3 t4
                  go_wp2
                  go_meet
                  exact ⟨l2, U1, U2⟩
                case false =>
                  have hrot : ¬ (a < i ∧ i < mid) := fun h => by have := HB.out.2 h; cases this
                  have T1 := Lib.hid (show Srt (bfV cv) a mid l1 from by
                    by_cases h3 : i = a
                    · have := MM.out.1.hi; rw [h3] at this; exact this
                    · have h4 : i = mid := by omega
                      have := MM.out.1.lo; rw [h4] at this; exact this)
                  clear hrot
                  go_wp2
                  go_meet
                  exact ⟨l1, Lib.hid ⟨Moved.refl _ _ _, T1.out⟩, Lib.hid ⟨T.out.2.1, T.out.2.2⟩⟩
              case rest =>
                obtain ⟨l2, U1, U2⟩ := hcut
                have M2 := Lib.hid (MM.out.2.1.congr (by omega) (by omega) (fun k h1 h2 => U1.out.1.out k (.inr h1)))
                have hl2 : l2.length = N := by rw [U1.out.1.len]; exact HL1.out
                have HL2 := Lib.hid hl2
                have HN2 := Lib.hid (U1.out.1.lt (by omega) HN1.out)
                have FIN := Lib.hid (show ∀ l3, Moved mid b l2 l3 → Srt (bfV cv) mid b l3 → Moved a b l l3 ∧ Srt (bfV cv) a b l3 from fun l3 v1 v2 => ⟨(T.out.1.trans (U1.out.1.mono (by omega) (by omega))).trans (v1.mono (by omega) (by omega)), mrg_halves MM.out.2.2 U1.out.1 U1.out.2 v1 v2⟩)
                clear hl2 HL1 HN1 MM T U1
                by_cases hrot : mid < e ∧ e < b
                · have y1 : (mid : Int) < (e : Int) := by omega
                  have y2 : (e : Int) < (b : Int) := by omega
                  go_wp2_with fail
                  refine (HI.out mid e b l2 _ (by omega) hrot.1 hrot.2 hb HL2.out HN2.out M2.out U2.out.2 U2.out.1).mono ?_
                  rintro e' w1 ⟨rfl, l3, t1, t2, t3, t4⟩
                  have F := Lib.hid (And.intro (FIN.out l3 t1 t2) (And.intro t3 t4))
                  clear t1 t2 t3 t4
                  go_wp2
                  go_end0
                  exact ⟨rfl, l3, F.out.1.1, F.out.1.2, F.out.2.1, F.out.2.2⟩
                · have F := Lib.hid (And.intro (FIN.out l2 (Moved.refl _ _ _) (by
                    by_cases h3 : e = mid
                    · have := M2.out.hi; rw [h3] at this; exact this
                    · have h4 : e = b := by omega
                      have := M2.out.lo; rw [h4] at this; exact this)) U2.out)
                  clear FIN M2 U2
                  by_cases x1 : mid < e
                  · have y1 : (mid : Int) < (e : Int) := by omega
                    have y2 : ¬ (e : Int) < (b : Int) := by omega
                    go_wp2
                    go_end0
                    exact ⟨rfl, l2, F.out.1.1, F.out.1.2, F.out.2.1, F.out.2.2⟩
                  · have y1 : ¬ (mid : Int) < (e : Int) := by omega
                    go_wp2
                    go_end0
                    exact ⟨rfl, l2, F.out.1.1, F.out.1.2, F.out.2.1, F.out.2.2⟩
theorem symMerge_ok (g N C gl n : Nat) (cv : Nat → Nat → Int) (o : Ord (bfV cv)) (hN : N ≤ 1000000) (w0 : World) (hc : CmpOk w0 gl n cv) (hg : w0.heap.size ≤ g) : ∀ s, SymOk g N C gl n cv w0 s
  | 0 => fun a m b l w h1 h2 h3 _ _ _ _ _ _ => by omega
  | s + 1 => fun a m b l w h1 h2 h3 h4 h5 h6 h7 h8 h9 => by
    by_cases e1 : m = a + 1
    · exact symOne_ok g N C gl n cv o l h5 hN a m b e1 h3 h4 h6 h7 w0 w hc h8 hg h9
    · by_cases e2 : b = m + 1
      · exact symLast_ok g N C gl n cv o l h5 hN a m b (by omega) e2 h4 h6 h7 w0 w hc h8 hg h9
      · exact symGen_ok s g N C gl n cv o l h5 hN a m b (by omega) (by omega) h4 h6 h7 w0 w hc h8 hg h9 h1 (symMerge_ok g N C gl n cv o hN w0 hc hg s)
end Go.Proofs.YtekiomanidimnaaGreatDoor
