/- waypointref46.Keep: the walk. -/
import Derived.Test.YtekiomanidimnaaGreatDoorShr
import Derived.Test.YtekiomanidimnaaGreatDoorRqbk
set_option linter.unusedVariables false
set_option linter.unusedSimpArgs false

namespace Go.Proofs.YtekiomanidimnaaGreatDoor
open Go.RowKit
theorem QLg.pair {w : World} {P : Option Addr} {qs : List Rat} (h : QLg RQC w P qs) {i j : Nat} {q r : Rat} (hq : qs[i]? = some q) (hr : qs[j]? = some r) :
    ∃ (b o : Nat) (na : Bool) (A1 : Option Addr) (n1 c1 : Nat) (A1' : Option Addr) (n1' c1' : Nat) (nb : Bool) (A2 : Option Addr) (n2 c2 : Nat) (A2' : Option Addr) (n2' c2' : Nat), P = some ⟨b, o, none⟩ ∧ b < w.heap.size ∧
      (w.cell? ⟨b, o + i * 3, none⟩ = some (.bool na) ∧ w.cell? ⟨b, o + i * 3 + 1, none⟩ = some (.slice A1 n1 c1) ∧ w.cell? ⟨b, o + i * 3 + 2, none⟩ = some (.slice A1' n1' c1') ∧
      w.cell? ⟨b, o + j * 3, none⟩ = some (.bool nb) ∧ w.cell? ⟨b, o + j * 3 + 1, none⟩ = some (.slice A2 n2 c2) ∧ w.cell? ⟨b, o + j * 3 + 2, none⟩ = some (.slice A2' n2' c2')) ∧
      RQR w na A1 n1 c1 A1' n1' c1' q ∧ RQR w nb A2 n2 c2 A2' n2' c2' r := by
  obtain ⟨b, o, na, A1, n1, c1, A1', n1', c1', hP, hb, x0, x1, x2, hx⟩ := h.at_ hq
  obtain ⟨b', o', nb, A2, n2, c2, A2', n2', c2', hP', _, y0, y1, y2, hy⟩ := h.at_ hr
  rw [hP] at hP'
  injection hP' with e
  injection e with e1 e2
  subst e1 e2
  exact ⟨b, o, na, A1, n1, c1, A1', n1', c1', nb, A2, n2, c2, A2', n2', c2', hP, hb, ⟨x0, x1, x2, y0, y1, y2⟩, hx, hy⟩
theorem headTo_same {α : Type} (n : Nat) (f : Nat → α) (z : α) {i : Nat} (hi : i < n) (h : f i = z) : headTo n f z (i + 1) = headTo n f z i := by
  rw [headTo_next n f z hi]
  apply List.ext_getElem?
  intro j
  by_cases e : i = j
  · subst e
    rw [List.getElem?_set_self (by rw [headTo_len]; exact hi), headTo_get n f z i i hi, if_neg (by omega), h]
  · rw [List.getElem?_set_ne e]
/-- What the specification of Keep returns. -/
def RKeepPost (w : World) (r : List Rat × Int) (e : Ending) (w' : World) : Prop :=
  ∃ (A : Option Addr) (c : Nat), e = .returned (.tuple #[.slice A r.1.length c, .int .i64 r.2]) ∧ QLg RQC w' A r.1 ∧ Ext w w'
theorem rql_nil (w : World) (A : Option Addr) : QLg RQC w A [] := ⟨[], rfl, (fun _ h => by cases h), Rd.nil _ _, fun i q h => by simp at h⟩
theorem getD_sz {qs : List Rat} {k : Nat} (hk : 1 ≤ k) (h : ∀ q ∈ qs, SzQ q k) (i : Nat) : SzQ (qs[i]?.getD 0) k := by
  cases hq : qs[i]? with
  | none => exact SzQ.zero.mono hk
  | some q => exact h q (List.mem_of_getElem? hq)
set_option maxRecDepth 100000 in
set_option maxHeartbeats 4000000 in
theorem rKeep_ok (P : Option Addr) (n c : Nat) (qs : List Rat) (hn : qs.length = n) (hn2 : n ≤ 1000000) (k : Int) (w : World) (hq : QLg RQC w P qs) (hsz : ∀ q ∈ qs, SzQ q 100) :
    Calls Tryz.prog 39 #[.slice P n c, .int .i64 k] w (RKeepPost w (keepP qs k)) := by
  have HQ := Lib.hid hq
  have HN := Lib.hid hn
  have HS := Lib.hid hsz
  generalize hR : keepP qs k = R
  have HR := Lib.hid hR
  clear hq hn hsz hR
  go_enter Tryz.func39, Tryz.ntmps39
  go_wp2_with fail
  refine (rShares_ok P n c qs HN.out hn2 _ HQ.out HS.out).mono ?_
  rintro e w1 ⟨rfl, x1⟩
  have E1 := Lib.hid x1
  clear x1
  cases hp : properP qs
  case false =>
    have HF := Lib.hid (show R = ([], 1) by rw [← HR.out]; unfold keepP; rw [hp]; rfl)
    obtain rfl := HF.out
    clear hp
    go_wp2
    exact bodyPost_ret (v := .tuple #[.slice none 0 0, .int .i64 1]) (by simp [results, Tryz.results39, go_sem]) rfl (⟨none, 0, rfl, rql_nil _ _, E1.out⟩)
  case true =>
    by_cases hk : k < 1
    · have HF := Lib.hid (show R = ([], 1) by rw [← HR.out]; unfold keepP; rw [decide_eq_false (by omega)]; simp)
      obtain rfl := HF.out
      clear hp
      go_wp2
      exact bodyPost_ret (v := .tuple #[.slice none 0 0, .int .i64 1]) (by simp [results, Tryz.results39, go_sem]) rfl (⟨none, 0, rfl, rql_nil _ _, E1.out⟩)
    · obtain ⟨F, hF⟩ : ∃ F : Nat → Rat, F = fun i => if (rankQ qs i : Int) < k then qs[i]?.getD 0 else 0 := ⟨_, rfl⟩
      have HF := Lib.hid (show R = ((List.range n).map F, 0) by rw [← HR.out, hF]; unfold keepP; rw [hp, decide_eq_true (by omega), HN.out]; rfl)
      obtain rfl := HF.out
      have FF := Lib.hid (show ∀ i, F i = if (rankQ qs i : Int) < k then qs[i]?.getD 0 else 0 from fun i => by rw [hF])
      clear hF
      obtain ⟨h0, h64⟩ := proper_pos hp
      rw [HN.out] at h0 h64
      have hk1 : ¬ k < (1 : Int) := hk
      have hmr := run_make_rqs n (by omega)
      clear hp HR
      have xb := (Ext.refl w1).alloc (.cells (madeCells #[.bool false, .slice none 0 0, .slice none 0 0] (n * 3)) 51)
      have L0 := Lib.hid (show RQB (w1.alloc (.cells (madeCells #[.bool false, .slice none 0 0, .slice none 0 0] (n * 3)) 51)) w1.heap.size (headTo n F 0 0) ∧ Ext w (w1.alloc (.cells (madeCells #[.bool false, .slice none 0 0, .slice none 0 0] (n * 3)) 51)) from ⟨by rw [headTo_zero]; exact RQB.made w1 n, E1.out.tr xb⟩)
      have hgw : w.heap.size ≤ w1.heap.size := E1.out.size
      clear E1 xb
      go_wp2
      clear hmr
      generalize w1.heap.size = gk at *
      go_loopg [7, 8, 9, 10] n (fun q it _ _ _ wr => ∃ i : Nat, n - i = q ∧ i ≤ n ∧ it = .int .i64 i ∧ Hid (RQB wr gk (headTo n F 0 i) ∧ Ext w wr))
      case atStart => exact ⟨0, rfl, Nat.zero_le _, rfl, L0⟩
      case round =>
        obtain ⟨i, rfl, hin, rfl, L⟩ := hrel
        clear L0
        by_cases hlt : i < n
        · have iN : (i : Int) < (n : Int) := by omega
          go_wp2
          go_loopg [8, 9, 10] n (fun q bt jt _ wx => ∃ j : Nat, n - j = q ∧ j ≤ n ∧ jt = .int .i64 j ∧ bt = .int .i64 (cntTo qs i j : Nat) ∧ Hid (RQB wx gk (headTo n F 0 i) ∧ Ext w wx))
          case atStart => exact ⟨0, rfl, Nat.zero_le _, rfl, rfl, L⟩
          case round =>
            obtain ⟨j, rfl, hjn, rfl, rfl, M⟩ := hrel
            clear L
            have hcl := cntTo_le qs i j
            by_cases hjl : j < n
            · have jN : (j : Int) < (n : Int) := by omega
              obtain ⟨b, o, na, A1, n1, c1, A1', n1', c1', nb, A2, n2, c2, A2', n2', c2', hP, hb, cells, hra, hrb⟩ := HQ.out.pair (get_some (K := qs) (i := j) (by rw [HN.out]; exact hjl)) (get_some (K := qs) (i := i) (by rw [HN.out]; exact hlt))
              subst hP
              obtain ⟨u1, u1'⟩ := hra.lensB (getD_sz (by decide) HS.out j)
              obtain ⟨u2, u2'⟩ := hrb.lensB (getD_sz (by decide) HS.out i)
              have NX := Lib.hid (cntTo_next qs i j)
              have CC := Lib.hid (show ∀ W, Ext w W → (W.cell? ⟨b, o + j * 3, none⟩ = some (.bool na) ∧ W.cell? ⟨b, o + j * 3 + 1, none⟩ = some (.slice A1 n1 c1) ∧ W.cell? ⟨b, o + j * 3 + 2, none⟩ = some (.slice A1' n1' c1') ∧ W.cell? ⟨b, o + i * 3, none⟩ = some (.bool nb) ∧ W.cell? ⟨b, o + i * 3 + 1, none⟩ = some (.slice A2 n2 c2) ∧ W.cell? ⟨b, o + i * 3 + 2, none⟩ = some (.slice A2' n2' c2')) from fun W hW =>
                ⟨(hW.cell (p := ⟨b, o + j * 3, none⟩) hb).trans cells.1, (hW.cell (p := ⟨b, o + j * 3 + 1, none⟩) hb).trans cells.2.1, (hW.cell (p := ⟨b, o + j * 3 + 2, none⟩) hb).trans cells.2.2.1, (hW.cell (p := ⟨b, o + i * 3, none⟩) hb).trans cells.2.2.2.1, (hW.cell (p := ⟨b, o + i * 3 + 1, none⟩) hb).trans cells.2.2.2.2.1, (hW.cell (p := ⟨b, o + i * 3 + 2, none⟩) hb).trans cells.2.2.2.2.2⟩)
              have XD := Lib.hid (show Ext wr wr.drew from (Ext.refl wr).drewN 1)
              have ED := Lib.hid (M.out.2.tr XD.out)
              have RA := Lib.hid (And.intro (hra.keep ED.out) (hrb.keep ED.out))
              clear hra hrb cells hb
              generalize cntTo qs i j = cn at *
              generalize qs[j]?.getD 0 = qa at *
              generalize hqb : qs[i]?.getD 0 = qb at *
              clear hqb
              obtain ⟨i0, i1, i2, j0, j1, j2⟩ := CC.out _ ED.out
              go_wp2
              go_region_held3 (fun w' => w'.cell? ⟨b, o + j * 3, none⟩ = some (.bool na) ∧ w'.cell? ⟨b, o + j * 3 + 1, none⟩ = some (.slice A1 n1 c1) ∧ w'.cell? ⟨b, o + j * 3 + 2, none⟩ = some (.slice A1' n1' c1') ∧ w'.cell? ⟨b, o + i * 3, none⟩ = some (.bool nb) ∧ w'.cell? ⟨b, o + i * 3 + 1, none⟩ = some (.slice A2 n2 c2) ∧ w'.cell? ⟨b, o + i * 3 + 2, none⟩ = some (.slice A2' n2' c2'))
                (first | with_reducible exact ⟨i0, i1, i2, j0, j1, j2⟩ | fail)
                (first
                | (go_at_call 85
                   refine (rqCmp_ok na nb A1 n1 c1 A1' n1' c1' A2 n2 c2 A2' n2' c2' qa qb _ RA.out.1 RA.out.2 (by omega) (by omega) (by omega) (by omega)).mono ?_
                   rintro e w5 ⟨rfl, x5⟩
                   have M5 := Lib.hid (And.intro (M.out.1.keep (XD.out.tr x5)) (M.out.2.tr (XD.out.tr x5)))
                   obtain ⟨i0, i1, i2, j0, j1, j2⟩ := CC.out _ M5.out.2
                   clear x5)
                | fail)
              clear M RA CC XD ED i0 i1 i2 j0 j1 j2
              generalize cmpQ qa qb = cc at *
              by_cases c1 : 0 < cc
              · have HC := Lib.hid (show cntTo qs i (j + 1) = cn + 1 by rw [NX.out, if_pos (.inl c1)])
                clear NX
                go_wp2
                go_roundg (n - (j + 1))
                case measure => omega
                case rel => exact ⟨j + 1, rfl, by omega, by go_num, by rw [HC.out]; go_num, M5⟩
              · by_cases c2 : cc = 0
                · subst c2
                  by_cases c3 : j < i
                  · have c3' : (j : Int) < (i : Int) := by omega
                    have HC := Lib.hid (show cntTo qs i (j + 1) = cn + 1 by rw [NX.out, if_pos (.inr ⟨rfl, c3⟩)])
                    clear NX
                    go_wp2
                    go_roundg (n - (j + 1))
                    case measure => omega
                    case rel => exact ⟨j + 1, rfl, by omega, by go_num, by rw [HC.out]; go_num, M5⟩
                  · have c3' : ¬ (j : Int) < (i : Int) := by omega
                    have HC := Lib.hid (show cntTo qs i (j + 1) = cn by rw [NX.out, if_neg (by omega)])
                    clear NX
                    go_wp2
                    go_roundg (n - (j + 1))
                    case measure => omega
                    case rel => exact ⟨j + 1, rfl, by omega, by go_num, by rw [HC.out], M5⟩
                · have HC := Lib.hid (show cntTo qs i (j + 1) = cn by rw [NX.out, if_neg (by omega)])
                  clear NX
                  go_wp2
                  go_roundg (n - (j + 1))
                  case measure => omega
                  case rel => exact ⟨j + 1, rfl, by omega, by go_num, by rw [HC.out], M5⟩
            · obtain rfl : j = n := by omega
              have hl2 : ¬ (j : Int) < (j : Int) := by omega
              have HE := Lib.hid (show cntTo qs i j = rankQ qs i by have := cntTo_end qs i; rw [HN.out] at this; exact this)
              have NX := Lib.hid (headTo_next j F 0 hlt)
              have NS := Lib.hid (headTo_same j F 0 hlt)
              rw [HE.out] at hcl ⊢
              by_cases hrk : (rankQ qs i : Int) < k
              · have HNX := Lib.hid (show headTo j F 0 (i + 1) = (headTo j F 0 i).set i (qs[i]?.getD 0) by rw [NX.out, FF.out, if_pos hrk])
                obtain ⟨b1, o1, n1, X1, m1, f1, X1', m1', f1', hPP, hb1, y0, y1, y2, hr1⟩ := (HQ.out.keep M.out.2).at_ (get_some (K := qs) (i := i) (by rw [HN.out]; exact hlt))
                subst hPP
                have hxl : i < (headTo j F 0 i).length := by rw [headTo_len]; exact hlt
                obtain ⟨_, _, _, _, _, _, _, ⟨t0, t1, t2⟩, ⟨v0, v1, v2⟩, hrr⟩ := M.out.1.at_ (i := i) (List.getElem?_eq_getElem hxl)
                clear hrr
                have PUT := Lib.hid (And.intro (M.out.1.put hxl hr1) (((M.out.2.set_ (p := ⟨gk, i * 3, none⟩) hgw (.bool n1)).set_ (p := ⟨gk, i * 3 + 1, none⟩) hgw (.slice X1 m1 f1)).set_ (p := ⟨gk, i * 3 + 2, none⟩) hgw (.slice X1' m1' f1')))
                clear hr1 M NX NS hxl HE
                generalize rankQ qs i = rk at *
                go_wp2
                go_roundg (j - (i + 1))
                case measure => omega
                case rel => exact ⟨i + 1, rfl, by omega, by go_num, Lib.hid (by rw [HNX.out]; exact PUT.out)⟩
              · have HNX := Lib.hid (show headTo j F 0 (i + 1) = headTo j F 0 i from NS.out (by rw [FF.out, if_neg hrk]))
                clear NX NS HE
                generalize rankQ qs i = rk at *
                go_wp2
                go_roundg (j - (i + 1))
                case measure => omega
                case rel => exact ⟨i + 1, rfl, by omega, by go_num, Lib.hid (by rw [HNX.out]; exact M.out)⟩
        · obtain rfl : i = n := by omega
          have hl2 : ¬ (i : Int) < (i : Int) := by omega
          have G := Lib.hid (show QLg RQC wr (some ⟨gk, 0, none⟩) ((List.range i).map F) ∧ Ext w wr from ⟨by rw [← headTo_end i F 0]; exact L.out.1.ql, L.out.2⟩)
          clear L
          go_wp2
          exact bodyPost_ret (v := .tuple #[.slice (some ⟨gk, 0, none⟩) i i, .int .i64 0]) (by simp [results, Tryz.results39, go_sem]) rfl (⟨some ⟨gk, 0, none⟩, i, by simp, G.out.1, G.out.2⟩)
end Go.Proofs.YtekiomanidimnaaGreatDoor
