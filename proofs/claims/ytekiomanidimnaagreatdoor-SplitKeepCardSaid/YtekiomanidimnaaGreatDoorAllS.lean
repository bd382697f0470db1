/- waypointlaw46.all: whether numbers are the specified ones. -/
import Derived.Test.YtekiomanidimnaaGreatDoorMV
import Derived.Test.YtekiomanidimnaaGreatDoorMW
import Derived.Test.YtekiomanidimnaaGreatDoorMU
set_option linter.unusedVariables false
set_option linter.unusedSimpArgs false

namespace Go.Proofs.YtekiomanidimnaaGreatDoor
open Go.RowKit
set_option maxRecDepth 100000 in
set_option maxHeartbeats 4000000 in
theorem all_ok (P1 : Option Addr) (n k1 : Nat) (P2 : Option Addr) (k2 : Nat) (qs : List Rat) (hn : qs.length = n) (hn2 : n ≤ 1000000) (w : World) (ha : QL w P1 qs) (hb : QLg RQC w P2 qs) (hsz : ∀ q ∈ qs, SzQ q 100) (hT : Tab w) :
    Calls Tryz.prog 40 #[.slice P1 n k1, .slice P2 n k2] w fun e w' => e = .returned (.bool true) ∧ Ext w w' := by
  have HA := Lib.hid (ha)
  have HB := Lib.hid (hb)
  have HN := Lib.hid (hn)
  have HS := Lib.hid (hsz)
  have HT := Lib.hid (hT)
  clear ha hb hn hsz hT
  have hne : ((n : Int) != (n : Int)) = false := by simp
  go_enter Tryz.func40, Tryz.ntmps40
  go_wp2
  go_loopg [5] n (fun j it wr => ∃ (i : Nat), n - i = j ∧ i ≤ n ∧ it = .int .i64 i ∧ Hid (Ext w wr))
  case atStart => exact ⟨0, rfl, Nat.zero_le _, rfl, Lib.hid (Ext.refl _)⟩
  case round =>
    obtain ⟨i, rfl, hi, rfl, EX⟩ := hrel
    by_cases hin : i < n
    · have iN : (i : Int) < (n : Int) := by omega
      obtain ⟨q, hq⟩ : ∃ q, qs[i]? = some q := ⟨_, List.getElem?_eq_getElem (by rw [HN.out]; exact hin)⟩
      have hqz := HS.out q (List.mem_of_getElem? hq)
      obtain ⟨b1, o1, na, A1, n1, c1, A1', n1', c1', hP1, hb1, x0, x1, x2, hra⟩ := HA.out.at_ hq
      obtain ⟨b2, o2, nb, A2, n2, c2, A2', n2', c2', hP2, hb2, y0, y1, y2, hrb⟩ := HB.out.at_ hq
      subst hP1 hP2
      obtain ⟨u1, u1'⟩ := hra.lens hqz
      obtain ⟨u2, u2'⟩ := hrb.lensB hqz
      have CC := Lib.hid (show ∀ W, Ext w W → (W.cell? ⟨b1, o1 + i * 3, none⟩ = some (.bool na) ∧ W.cell? ⟨b1, o1 + i * 3 + 1, none⟩ = some (.slice A1 n1 c1) ∧ W.cell? ⟨b1, o1 + i * 3 + 2, none⟩ = some (.slice A1' n1' c1') ∧ W.cell? ⟨b2, o2 + i * 3, none⟩ = some (.bool nb) ∧ W.cell? ⟨b2, o2 + i * 3 + 1, none⟩ = some (.slice A2 n2 c2) ∧ W.cell? ⟨b2, o2 + i * 3 + 2, none⟩ = some (.slice A2' n2' c2')) from fun W hW =>
        ⟨(hW.cell (p := ⟨b1, o1 + i * 3, none⟩) hb1).trans x0, (hW.cell (p := ⟨b1, o1 + i * 3 + 1, none⟩) hb1).trans x1, (hW.cell (p := ⟨b1, o1 + i * 3 + 2, none⟩) hb1).trans x2, (hW.cell (p := ⟨b2, o2 + i * 3, none⟩) hb2).trans y0, (hW.cell (p := ⟨b2, o2 + i * 3 + 1, none⟩) hb2).trans y1, (hW.cell (p := ⟨b2, o2 + i * 3 + 2, none⟩) hb2).trans y2⟩)
      have XD := Lib.hid (show Ext w wr.drew from EX.out.drewN 1)
      have RA := Lib.hid (And.intro (hra.keep XD.out) (And.intro (hrb.keep XD.out) (HT.out.keep XD.out)))
      clear hq hra hrb x0 x1 x2 y0 y1 y2 hb1 hb2 hqz
      obtain ⟨i0, i1, i2, j0, j1, j2⟩ := CC.out _ XD.out
      go_wp2
      go_region_held3 (fun w' => w'.cell? ⟨b1, o1 + i * 3, none⟩ = some (.bool na) ∧ w'.cell? ⟨b1, o1 + i * 3 + 1, none⟩ = some (.slice A1 n1 c1) ∧ w'.cell? ⟨b1, o1 + i * 3 + 2, none⟩ = some (.slice A1' n1' c1') ∧ w'.cell? ⟨b2, o2 + i * 3, none⟩ = some (.bool nb) ∧ w'.cell? ⟨b2, o2 + i * 3 + 1, none⟩ = some (.slice A2 n2 c2) ∧ w'.cell? ⟨b2, o2 + i * 3 + 2, none⟩ = some (.slice A2' n2' c2'))
        (first | with_reducible exact ⟨i0, i1, i2, j0, j1, j2⟩ | fail)
        (first
        | (go_at_call 43
           with_reducible refine (lis_ok na A1 n1 c1 A1' n1' c1' nb A2 n2 c2 A2' n2' c2' q _ RA.out.1 RA.out.2.1 (by omega) (by omega) (by omega) (by omega) RA.out.2.2).mono ?_
           rintro e w5 ⟨rfl, x5⟩
           have E5 := Lib.hid (XD.out.tr x5)
           obtain ⟨i0, i1, i2, j0, j1, j2⟩ := CC.out _ E5.out
           clear x5)
        | fail)
      clear CC RA XD EX i0 i1 i2 j0 j1 j2
      go_wp2
      go_roundg (n - (i + 1))
      case measure => omega
      case rel => exact ⟨i + 1, rfl, by omega, by go_num, E5⟩
    · obtain rfl : i = n := by omega
      have hlt : ¬ (i : Int) < (i : Int) := by omega
      go_wp2
      go_ret
      exact ⟨rfl, EX.out⟩
end Go.Proofs.YtekiomanidimnaaGreatDoor
