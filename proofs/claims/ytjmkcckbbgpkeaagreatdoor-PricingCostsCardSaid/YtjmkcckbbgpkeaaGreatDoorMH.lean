/- Decimal numerals in groups of digits (plain). -/
/- (*strings.Builder).copyCheck and WriteString over this program (the shelf's own contracts are not laid here: the translation refuses copyCheck's panic). Lines of the shelf's worked proof, turned to this program. -/
/- nat.Text: the decimal numeral. -/
/- nat.Text: the walk. -/
/- rational.Text. -/
import Derived.Lib.ItoaNum
import Derived.Test.YtjmkcckbbgpkeaaGreatDoorShelf
import Derived.Test.YtjmkcckbbgpkeaaGreatDoorMA
import Derived.Lib.Builder
import Derived.Lib.AppendStr
import Derived.Test.YtjmkcckbbgpkeaaGreatDoorMG
import Derived.Lib.Repeat
import Derived.Lib.SmallJoins
import Derived.WalkLawsBesides
import Derived.Test.YtjmkcckbbgpkeaaGreatDoorMF
import Derived.Deep.LoopGhost
set_option linter.unusedVariables false
set_option linter.unusedSimpArgs false

namespace Go.Proofs.YtjmkcckbbgpkeaaGreatDoor.Dig
open Go.Lib
/-- The last k decimal digits. -/
def fixD : Nat → Nat → List UInt8
  | 0, _ => []
  | k + 1, r => fixD k (r / 10) ++ [UInt8.ofNat (48 + r % 10)]
theorem dec_group (q : Nat) (hq : 0 < q) : ∀ (k r : Nat), r < 10 ^ k → decDigits (q * 10 ^ k + r) = decDigits q ++ fixD k r
  | 0, r, h => by simp at h; subst h; simp [fixD]
  | k + 1, r, h => by
    have hp : 1 ≤ 10 ^ k := Nat.one_le_pow _ _ (by decide)
    have e : q * 10 ^ (k + 1) = q * 10 ^ k * 10 := by rw [Nat.pow_succ, Nat.mul_assoc]
    have h1 : 1 ≤ q * 10 ^ k := Nat.mul_pos hq (by omega)
    rw [Nat.pow_succ] at h
    rw [e, decDigits, dif_neg (by omega), fixD, show (q * 10 ^ k * 10 + r) / 10 = q * 10 ^ k + r / 10 by omega, dec_group q hq k (r / 10) (by omega), List.append_assoc, show (q * 10 ^ k * 10 + r) % 10 = r % 10 by omega]
theorem fixD_zero : ∀ k, fixD k 0 = List.replicate k 48
  | 0 => rfl
  | k + 1 => by
    rw [fixD, Nat.zero_div, fixD_zero k, List.replicate_succ']
    rfl
theorem fixD_pad : ∀ (k r : Nat), r < 10 ^ (k + 1) → fixD (k + 1) r = List.replicate (k + 1 - (decDigits r).length) 48 ++ decDigits r
  | k, r, h => by
    by_cases h1 : r < 10
    · rw [fixD, Nat.div_eq_of_lt h1, fixD_zero, decDigits_one h1, Nat.mod_eq_of_lt h1]
      simp
    · cases k with
      | zero => simp at h; omega
      | succ k =>
        have ih := fixD_pad k (r / 10) (by rw [Nat.pow_succ] at h; omega)
        rw [fixD, ih, decDigits.eq_1 r, dif_neg h1, List.append_assoc]
        congr 2
        simp
/-- A numeral out of the one of the quotient by 10^9 and the nine digits of the rest. -/
theorem dec_nine (N : Nat) (h : 1000000000 ≤ N) : decDigits N = decDigits (N / 1000000000) ++ (List.replicate (9 - (decDigits (N % 1000000000)).length) 48 ++ decDigits (N % 1000000000)) := by
  have h1 := dec_group (N / 1000000000) (by omega) 9 (N % 1000000000) (by simp; omega)
  have h2 := fixD_pad 8 (N % 1000000000) (by simp; omega)
  rw [h2] at h1
  rw [← h1]
  congr 1
  omega
theorem dec_len_nine (r : Nat) (h : r < 1000000000) : (decDigits r).length ≤ 9 ∧ 1 ≤ (decDigits r).length := by
  rw [decDigits_length]
  refine ⟨?_, nDigits_pos r⟩
  have h1 := fixD_pad 8 r (by simp; omega)
  have h2 : ∀ k r, (fixD k r).length = k := fun k => by
    induction k with
    | zero => intro r; rfl
    | succ k ih => intro r; rw [fixD, List.length_append, ih]; rfl
  have h3 := congrArg List.length h1
  rw [h2, List.length_append, List.length_replicate, decDigits_length] at h3
  omega
end Go.Proofs.YtjmkcckbbgpkeaaGreatDoor.Dig


namespace Go.Proofs.YtjmkcckbbgpkeaaGreatDoor
open Go.RowKit Go.Lib
theorem bldSize : (Tryz.prog.info? 129).map (·.size) = some 2 := by kernel_rfl
theorem bldLies : liesAt Tryz.prog Tryz.prog.depth 129 (2 / Tryz.prog.cellsOf 129) 0 129 1 = true := by kernel_rfl
theorem byteInfo : (Tryz.prog.info? 5).map (fun i => (i.zero, i.size, i.bytes)) = some (some (.int .u8 0), 1, 1) := by kernel_rfl
set_option maxRecDepth 100000 in
set_option maxHeartbeats 1000000 in
theorem bldCheck_used (b : Nat) (w : World) (h0 : w.cell? ⟨b, 0, none⟩ = some (.pointer (some ⟨b, 0, none⟩))) :
    Calls Tryz.prog 106 #[.pointer (some ⟨b, 0, none⟩)] w fun e w' => e = .returned (.tuple #[]) ∧ w' = w := by
  obtain ⟨j, hj, _⟩ := Option.map_eq_some_iff.1 bldSize
  go_enter Tryz.func106, Tryz.ntmps106
  go_wp2
  rw [Lib.run_neq_ptr_same w _ Tryz.underlying126 hj]
  go_wp2
  go_end0
  exact ⟨rfl, rfl⟩
set_option maxRecDepth 100000 in
set_option maxHeartbeats 1000000 in
theorem bldCheck_fresh (b : Nat) (w : World) (h0 : w.cell? ⟨b, 0, none⟩ = some (.pointer none)) (hsh : w.shape? b = some (129, 2)) (hfz : w.frozen? ⟨b, 0, none⟩ = false) :
    Calls Tryz.prog 106 #[.pointer (some ⟨b, 0, none⟩)] w fun e w' => e = .returned (.tuple #[]) ∧ w' = w.setCell ⟨b, 0, none⟩ (.pointer (some ⟨b, 0, none⟩)) := by
  obtain ⟨j, hj, hjs⟩ := Option.map_eq_some_iff.1 bldSize
  go_enter Tryz.func106, Tryz.ntmps106
  go_wp2
  rw [Lib.run_to_unsafe w ⟨b, 0, none⟩ Tryz.underlying126 Tryz.underlying183 hj (by rw [hjs]; decide) hsh (Nat.zero_lt_succ 1)]
  simp only [Result.andThen]
  rw [Oper.upon_value]
  go_wp2
  rw [run_callFunc_extern Tryz.func121 (by kernel_rfl) (by kernel_rfl) (by kernel_rfl) (e := Extern.AbiNoEscape.same) (by kernel_rfl)]
  rw [Lib.run_noEscape]
  simp only [Result.andThen]
  rw [Oper.upon_value]
  go_wp2
  rw [Lib.run_from_unsafe w ⟨b, 0, none⟩ Tryz.underlying183 Tryz.underlying126 hj hsh bldLies]
  simp only [Result.andThen]
  rw [Oper.upon_value]
  go_wp2
  go_end0
  exact ⟨rfl, rfl⟩
theorem bldCheck (B b : Nat) (bs : List Value) (w : World) (h : Lib.IsBuilder 129 5 B b bs w) :
    Calls Tryz.prog 106 #[.pointer (some ⟨b, 0, none⟩)] w fun e w' => e = .returned (.tuple #[]) ∧ (Lib.BuilderAt 129 5 B b (.pointer (some ⟨b, 0, none⟩)) bs w' ∧ Below B w w') := by
  rcases h with h | h
  · refine (bldCheck_fresh b w h.cell0 h.shape h.frozen0).mono ?_
    rintro e w' ⟨rfl, rfl⟩
    exact ⟨rfl, h.used _, (Below.refl B w).setCell (p := ⟨b, 0, none⟩) h.1 _⟩
  · refine (bldCheck_used b w h.cell0).mono ?_
    rintro e w' ⟨rfl, rfl⟩
    exact ⟨rfl, h, Below.refl B _⟩
set_option maxHeartbeats 2000000 in
theorem bldWrite (B b : Nat) (bs : List Value) (s : ByteArray) (w : World) (h : Lib.IsBuilder 129 5 B b bs w) (hlen : bs.length + s.size ≤ 140737488355328) (hBw : B ≤ w.heap.size) :
    Calls Tryz.prog 76 #[.pointer (some ⟨b, 0, none⟩), .string s] w fun e w' => e = .returned (.tuple #[.int .i64 s.size, .nilIface]) ∧ (Lib.BuilderAt 129 5 B b (.pointer (some ⟨b, 0, none⟩)) (bs ++ Lib.strCells s) w' ∧ Below B w w') := by
  obtain ⟨i0, hi, hz0, hz1, hz2⟩ := info_parts byteInfo
  go_enter Tryz.func76, Tryz.ntmps76
  go_wp2_with fail
  refine (bldCheck B b bs _ h).mono ?_
  rintro e w1 ⟨rfl, h1, hb1⟩
  obtain ⟨hB, v, hbk, hown, hne⟩ := h1
  have c0 : w1.cell? ⟨b, 0, none⟩ = some (.pointer (some ⟨b, 0, none⟩)) := by rw [Lib.cell_of_heap hbk]; rfl
  have c1 : w1.cell? ⟨b, 1, none⟩ = some v := by rw [Lib.cell_of_heap hbk]; rfl
  go_wp2_with (at_builtin; refine Lib.wpList_append_own_string _ rfl _ _ 127 9 rfl B 5 i0 Tryz.underlying127 Tryz.underlying9 hi hz0 hz1 hz2 _ _ _ rfl hown s rfl ?c3 ?c4 ?c5 ?_)
  case c3 => unfold maxLen; omega
  case c4 => omega
  case c5 => have := hb1.size; omega
  intro v' w2 hown' hgrow _
  have hlt : b < w1.heap.size := by
    rcases Nat.lt_or_ge b w1.heap.size with h' | h'
    · exact h'
    · simp [Array.getElem?_eq_none h'] at hbk
  have hb2 : w2.heap[b]? = some (.cells #[.pointer (some ⟨b, 0, none⟩), v] 129 (0, 0)) := by
    rw [hgrow.block b hlt (fun e => hne e.symm)]
    exact hbk
  have d0 : w2.cell? ⟨b, 0, none⟩ = some (.pointer (some ⟨b, 0, none⟩)) := by rw [Lib.cell_of_heap hb2]; rfl
  have d1 : w2.cell? ⟨b, 1, none⟩ = some v := by rw [Lib.cell_of_heap hb2]; rfl
  have f1 : w2.frozen? ⟨b, 1, none⟩ = false := Lib.frozen_of_heap hb2 1
  obtain ⟨ao, n', cap, rfl⟩ : ∃ ao n' cap, v' = .slice ao n' cap := by
    rcases hown'.2 with ⟨hv, _⟩ | ⟨g, cap, cur, hv, _⟩
    · exact ⟨_, _, _, hv⟩
    · exact ⟨_, _, _, hv⟩
  go_wp2
  go_ret2
  refine ⟨rfl, ?_, ?_⟩
  · exact Lib.BuilderAt.put (T := 129) (e := 5) hB hb2 (bs' := bs ++ Lib.strCells s) (by simpa [Lib.strCells_length] using hown') (by decide)
  · exact (hb1.grown hgrow (by have := hb1.size; omega) (fun k hk => (hown.lt k hk).1)).setCell (p := ⟨b, 1, none⟩) hB _
end Go.Proofs.YtjmkcckbbgpkeaaGreatDoor


namespace Go.Proofs.YtjmkcckbbgpkeaaGreatDoor
open Go.RowKit Go.Sort
theorem Tryz.info9 : (Tryz.prog.info? 9).map (fun i => (i.zero, i.size, i.bytes)) = some (some (.string ⟨#[]⟩), 1, 16) := by kernel_rfl
/-- Texts as cells. -/
def strs (l : List (List UInt8)) : List Value := l.map fun s => Value.string ⟨s.toArray⟩
theorem strs_length (l : List (List UInt8)) : (strs l).length = l.length := by simp [strs]
theorem strs_snoc (l : List (List UInt8)) (s : List UInt8) : strs (l ++ [s]) = strs l ++ [.string ⟨s.toArray⟩] := by simp [strs]
theorem strs_get (l : List (List UInt8)) (i : Nat) (h : i < l.length) : (strs l)[i]? = some (.string ⟨(l[i]?.getD []).toArray⟩) := by simp [strs, h]
/-- The table of powers of ten, as it is laid. -/
def Tab (w : World) : Prop := Lib.TabIs Tryz.prog w "internal/strconv.uint64pow10" .u64 Lib.pow10Tab
theorem tab_global : ∃ g, Tryz.prog.globalNamed "internal/strconv.uint64pow10" = some g := by
  have h : (Tryz.prog.globalNamed "internal/strconv.uint64pow10").isSome = true := by kernel_rfl
  exact Option.isSome_iff_exists.1 h
theorem Tab.keep {w w' : World} (h : Tab w) (hx : Ext w w') : Tab w' := by
  obtain ⟨g, hg⟩ := tab_global
  exact Joins.tab_stays hg h hx (Nat.le_refl _)
theorem ext_grow (w : World) (k : Nat) (os : Array Obj) : Ext w (grow (w.drewN k) os) :=
  ⟨rfl, rfl, rfl, by simp [grow], fun i hi => by
    show ((w.drewN k).heap ++ os)[i]? = _
    rw [Array.getElem?_append_left (by show i < w.heap.size; omega)]
    rfl⟩
theorem itoa_ok (r : Nat) (w : World) (ht : Tab w) (hr : r < 1000000000) :
    Calls Tryz.prog 74 #[.int .i64 r] w fun e w' => e = .returned (.string ⟨(Lib.decDigits r).toArray⟩) ∧ Ext w w' := by
  refine (Tryz.strconv_Itoa r (by omega) (by omega) w ht).mono ?_
  rintro e w' ⟨rfl, k, os, rfl⟩
  refine ⟨?_, ext_grow _ _ _⟩
  unfold Lib.itoa
  rw [if_neg (by omega), Int.toNat_natCast]
theorem repeat_ok (k : Nat) (w : World) (hk : k ≤ 9) :
    Calls Tryz.prog 75 #[.string ⟨#[48]⟩, .int .i64 k] w fun e w' => e = .returned (.string ⟨(List.replicate k (48 : UInt8)).toArray⟩) ∧ Ext w w' := by
  refine (Tryz.strings_Repeat ⟨#[48]⟩ k w (by omega) (by show 1 * k ≤ _; omega)).mono ?_
  rintro e w' ⟨rfl, hb⟩
  refine ⟨?_, hb⟩
  have := Lib.repeatL_replicate 48 1 k
  rw [Nat.mul_one] at this
  rw [← this]
  rfl
/-- What has been written of a numeral: the parts, the last one ahead. -/
def textSt (N M : Nat) (ps : List (List UInt8)) : Prop := Lib.decDigits N = (if M = 0 then [] else Lib.decDigits M) ++ ps.reverse.flatten
theorem text_last {N M : Nat} {ps : List (List UInt8)} (h : textSt N M ps) (hM : 0 < M) (hl : M / 1000000000 = 0) : textSt N 0 (ps ++ [Lib.decDigits (M % 1000000000)]) := by
  unfold textSt at *
  rw [h, if_neg (by omega), if_pos rfl, List.reverse_append]
  rw [Nat.mod_eq_of_lt (by omega)]
  simp
theorem text_more {N M : Nat} {ps : List (List UInt8)} (h : textSt N M ps) (hl : 0 < M / 1000000000) :
    textSt N (M / 1000000000) (ps ++ [List.replicate (9 - (Lib.decDigits (M % 1000000000)).length) 48 ++ Lib.decDigits (M % 1000000000)]) := by
  unfold textSt at *
  rw [h, if_neg (by omega), if_neg (by omega), Dig.dec_nine M (by omega), List.reverse_append]
  simp
end Go.Proofs.YtjmkcckbbgpkeaaGreatDoor


namespace Go.Proofs.YtjmkcckbbgpkeaaGreatDoor
open Go.RowKit Go.Sort
theorem str_app (a b : Array UInt8) : ((⟨a⟩ : ByteArray) ++ ⟨b⟩) = ⟨a ++ b⟩ := ByteArray.ext (by simp [ByteArray.data_append])
/-- The part that one round writes. -/
def partP (M : Nat) : List UInt8 := if M / 1000000000 = 0 then Lib.decDigits (M % 1000000000) else List.replicate (9 - (Lib.decDigits (M % 1000000000)).length) 48 ++ Lib.decDigits (M % 1000000000)
theorem partP_len (M : Nat) : (partP M).length ≤ 9 := by
  have := Dig.dec_len_nine (M % 1000000000) (Nat.mod_lt _ (by decide))
  unfold partP
  split
  · omega
  · simp only [List.length_append, List.length_replicate]; omega
theorem partP_text {N M : Nat} {ps : List (List UInt8)} (h : textSt N M ps) (hM : 0 < M) : textSt N (M / 1000000000) (ps ++ [partP M]) := by
  unfold partP
  split
  · rename_i e; rw [e]; exact text_last h hM e
  · exact text_more h (by omega)
theorem flatten_len (l : List (List UInt8)) (h : ∀ p ∈ l, p.length ≤ 9) : l.flatten.length ≤ 9 * l.length := by
  induction l with
  | nil => simp
  | cons a l ih =>
    have h1 := h a (by simp)
    have h2 := ih (fun p hp => h p (by simp [hp]))
    simp only [List.flatten_cons, List.length_append, List.length_cons]
    omega
/-- The first loop's state. -/
structure TextSt (w wr : World) (N K k M : Nat) (ps : List (List UInt8)) (v : Value) (A : Option Addr) (n c : Nat) : Prop where
  lt : M < 10 ^ (9 * k)
  cnt : ps.length + k ≤ K
  txt : textSt N M ps
  own : wr.ownsRow (w.heap.size + 1) 9 1 v ps.length (strs ps)
  len : ∀ p ∈ ps, p.length ≤ 9
  blk : Blk wr w.heap.size 36 #[.slice A n c]
  num : NatR wr A n c M
  nle : n ≤ 1048576
  ext : Ext w wr
set_option maxRecDepth 100000 in
set_option maxHeartbeats 4000000 in
theorem natText_any (A : Option Addr) (n c N : Nat) (w : World) (h : NatR w A n c N) (hn : n ≤ 1048576) (ht : Tab w) :
    Calls Tryz.prog 43 #[.agg #[.slice A n c]] w fun e w' => e = .returned (.string ⟨(Lib.decDigits N).toArray⟩) ∧ Ext w w' := by
  obtain ⟨hb, e0⟩ := boxes1 w #[.slice A n c] 36
  have hz := h.eq_zero
  by_cases hN : N = 0
  · have zb : ((n : Int) == 0) = true := by have := hz.2 hN; subst this; rfl
    subst hN
    have cb := hb.one.1
    clear hz h ht
    go_enter Tryz.func43, Tryz.ntmps43
    go_wp2_with fail
    refine (isZero_any A n c _).mono ?_
    rintro e w1 ⟨rfl, hx1⟩
    have HX := Lib.hid (e0.tr hx1)
    clear hx1 e0 hb cb
    go_wp2
    go_ret
    exact ⟨by rw [Lib.decDigits_one (by decide)]; rfl, HX.out⟩
  · have zb : ((n : Int) == 0) = false := beq_eq_false_iff_ne.2 (by omega)
    have hK : N < 10 ^ (9 * (2 * n)) := by
      obtain ⟨ds, hl, _, hcan, hv, _⟩ := h
      have h1 := Dig.val_lt B32_pos hcan.lt
      rw [hv, hl] at h1
      refine Nat.lt_of_lt_of_le h1 ?_
      rw [show 9 * (2 * n) = 18 * n by omega, Nat.pow_mul]
      exact Nat.pow_le_pow_left (by decide) _
    have cb := hb.one.1
    have H := Lib.hid h
    have HT := Lib.hid ht
    have HK := Lib.hid hK
    have hK2 : 2 * n ≤ 2097152 := by omega
    obtain ⟨ti, hi, hz0, hz1, hz2⟩ := info_parts Tryz.info9
    clear h ht hz hN hK
    go_enter Tryz.func43, Tryz.ntmps43
    go_wp2_with fail
    refine (isZero_any A n c _).mono ?_
    rintro e w1 ⟨rfl, hx1⟩
    have HX := Lib.hid (e0.tr hx1)
    have HB := Lib.hid (hb.keep hx1)
    clear hx1 e0 hb cb
    go_wp2
    generalize hKK : 2 * n = K at *
    have S0 := Lib.hid (show TextSt w w1 N K K N [] (.slice none 0 0) A n c from ⟨HK.out, by simp, by
      unfold textSt
      have := H.out.eq_zero
      rw [if_neg (by intro e; rw [this.2 e] at zb; cases zb)]
      simp, World.ownsRow_nil _ _ _ _, fun p hp => by simp at hp, HB.out, H.out.keep HX.out, hn, HX.out⟩)
    clear hKK HK HB H hn zb
    go_loopg [3, 4, 5] K (fun k v _ _ wr => ∃ (j M : Nat) (ps : List (List UInt8)) (A : Option Addr) (n c : Nat), j = k ∧ TextSt w wr N K j M ps v A n c)
    case atStart => exact ⟨K, N, [], A, n, c, rfl, S0.out⟩
    case round =>
      clear S0
      obtain ⟨k, M, ps, A, n, c, rfl, hst⟩ := hrel
      have ca := hst.blk.one.1
      have hz := hst.num.eq_zero
      have ST := Lib.hid hst
      clear hst
      by_cases hM : M = 0
      · have zb : ((n : Int) == 0) = true := by have := hz.2 hM; subst this; rfl
        clear hz
        go_wp2_with fail
        refine (isZero_any A n c _).mono ?_
        rintro e w2 ⟨rfl, hx2⟩
        have HX2 := Lib.hid hx2
        clear hx2 ca
        subst hM
        have htxt := ST.out.txt
        unfold textSt at htxt
        rw [if_pos rfl, List.nil_append] at htxt
        have TXT := Lib.hid htxt
        have O2 := Lib.hid (ST.out.own.kept (grown_ext HX2.out) (own_none _))
        have E2 := Lib.hid (ST.out.ext.tr HX2.out)
        have hcnt : ps.length ≤ 2097152 := by have := ST.out.cnt; omega
        have LEN := Lib.hid ST.out.len
        obtain ⟨AV, cv, rfl⟩ := own_form' O2.out
        clear htxt ST HX2
        go_wp2
        clear zb
        go_loopw [7, 36] (fun _ it wr => ∃ i : Nat, i ≤ ps.length ∧ it = .int .i64 i ∧ Lib.IsBuilder 129 5 w2.heap.size w2.heap.size (Lib.byteCells ((ps.reverse.take i).flatten)) wr ∧ Below w2.heap.size w2 wr) (fun _ i _ => ps.length - (intOf i).toNat)
        case atStart =>
          refine ⟨0, Nat.zero_le _, rfl, .inl ⟨Nat.le_refl _, .slice none 0 0, heap_alloc_new w2 _, World.ownsRow_nil _ _ _ _, by simp [Value.ownBlock]⟩, (Ext.refl w2).alloc _⟩
        case round =>
          obtain ⟨i, hi, rfl, hbd, hbl⟩ := hrel
          have BD := Lib.hid hbd
          have BL := Lib.hid hbl
          clear hbd hbl
          by_cases hil : i < ps.length
          · obtain ⟨m, hm⟩ : ∃ m, ps.length = m + 1 + i := ⟨ps.length - 1 - i, by omega⟩
            have hml : m < ps.length := by omega
            obtain ⟨g, rfl, hg2, hcell⟩ : ∃ g, AV = some ⟨g, 0, none⟩ ∧ g < w2.heap.size ∧ w2.cell? ⟨g, m, none⟩ = some (.string ⟨(ps[m]?.getD []).toArray⟩) := by
              rcases O2.out.2 with ⟨_, e⟩ | ⟨g, cap, cur, e, _⟩
              · omega
              · injection e with e1 e2 e3
                subst e1 e3
                exact ⟨g, rfl, (O2.out.lt g rfl).2, (O2.out.cellAt m (by omega)).trans (strs_get ps m hml)⟩
            have hcw := (BL.out.cell (p := ⟨g, m, none⟩) hg2).trans hcell
            have hx : ((ps.length : Int) - 1 - (i : Int)) = (m : Int) := by omega
            have hml' : (m : Int) < (ps.length : Int) := by omega
            have hrev : ps.reverse[i]? = some (ps[m]?.getD []) := by
              rw [List.getElem?_reverse (by omega), show ps.length - 1 - i = m by omega, List.getElem?_eq_getElem hml]
              rfl
            have hpl : (ps[m]?.getD []).length ≤ 9 := by
              rw [List.getElem?_eq_getElem hml]
              exact LEN.out _ (List.getElem_mem _)
            have STEP := Lib.hid (show Lib.byteCells ((ps.reverse.take (i + 1)).flatten) = Lib.byteCells ((ps.reverse.take i).flatten) ++ Lib.strCells ⟨(ps[m]?.getD []).toArray⟩ by
              rw [List.take_add_one, hrev, List.flatten_append, Lib.byteCells_append]
              simp
              rfl)
            have hfl : ((ps.reverse.take i).flatten).length ≤ 9 * ps.length := by
              have := flatten_len (ps.reverse.take i) (fun p hp => LEN.out p (List.mem_reverse.1 (List.mem_of_mem_take hp)))
              simp only [List.length_take, List.length_reverse] at this
              omega
            generalize ps[m]?.getD [] = pm at *
            have HM := Lib.hid hm
            clear hm hcell hrev
            go_wp2_with fail
            refine (bldWrite w2.heap.size w2.heap.size _ ⟨pm.toArray⟩ _ BD.out (by rw [Lib.byteCells_length]; show _ + pm.toArray.size ≤ _; rw [show pm.toArray.size = pm.length by simp]; omega) BL.out.size).mono ?_
            rintro e w9 ⟨rfl, hb9, hx9⟩
            have B9 := Lib.hid hb9
            have L9 := Lib.hid (BL.out.trans hx9)
            clear hb9 hx9 hx
            go_wp2
            go_roundw
            case rel => exact ⟨i + 1, by omega, by go_num, .inr (by rw [STEP.out]; exact B9.out), L9.out⟩
            case measure => simp [intOf]; omega
          · have hie : i = ps.length := by omega
            subst hie
            go_wp2_with fail
            refine (Tryz.Builder_String_any w2.heap.size w2.heap.size _ _ BD.out BL.out.size).mono ?_
            rintro e w9 ⟨rfl, hx9⟩
            have HE := Lib.hid (E2.out.tr (BL.out.trans hx9))
            clear hx9
            go_wp2
            go_ret
            refine ⟨?_, HE.out⟩
            rw [TXT.out, List.take_of_length_le (by simp)]
            rfl
      · have zb : ((n : Int) == 0) = false := beq_eq_false_iff_ne.2 (by omega)
        clear hz
        go_wp2_with fail
        refine (isZero_any A n c _).mono ?_
        rintro e w2 ⟨rfl, hx2⟩
        have ca := (ST.out.blk.keep hx2).one.1
        have X2 := Lib.hid hx2
        clear hx2
        go_wp2_with fail
        refine (divideSmall_any A n c M 1000000000 _ (ST.out.num.keep X2.out) (by have := ST.out.nle; omega) (by decide) (by decide)).mono ?_
        rintro e w3 ⟨A3, n3, c3, rfl, hR3, hx3⟩
        have X3 := Lib.hid (X2.out.tr hx3)
        have R3 := Lib.hid hR3
        have B3 := Lib.hid (ST.out.blk.keep X3.out)
        obtain ⟨ca, fa⟩ := B3.out.one
        have hr9 : M % 1000000000 < 1000000000 := Nat.mod_lt _ (by decide)
        have hn3 : n3 ≤ n := NatR.len_le hR3 ST.out.num (Nat.div_le_self _ _)
        have hz3 := hR3.eq_zero
        clear hx3 hR3 X2
        have X4 := Lib.hid (show Ext w (w3.setCell ⟨w.heap.size, 0, none⟩ (.slice A3 n3 c3)) from Ext.set_ (ST.out.ext.tr X3.out) (p := ⟨w.heap.size, 0, none⟩) (Nat.le_refl _) _)
        have HRM := Lib.hid (show M % 1000000000 = M % 1000000000 from rfl)
        generalize hrm : M % 1000000000 = r at *
        have HR := Lib.hid hrm
        clear hrm
        go_wp2_with fail
        refine (itoa_ok r _ (HT.out.keep X4.out) hr9).mono ?_
        rintro e w5 ⟨rfl, hx5⟩
        have X5 := Lib.hid (X4.out.tr hx5)
        have B5 := Lib.hid ((B3.out.set_ 0 (.slice A3 n3 c3)).keep hx5)
        have R5 := Lib.hid ((R3.out.set_ (p := ⟨w.heap.size, 0, none⟩) B3.out (by decide) (.slice A3 n3 c3)).keep hx5)
        have g4 : w3.grownBy (w3.setCell ⟨w.heap.size, 0, none⟩ (.slice A3 n3 c3)) (some w.heap.size) := grown_set w3 w.heap.size 0 _
        have O5 := Lib.hid (((ST.out.own.kept (grown_ext X3.out) (own_none _)).kept g4 (own_ne (ST.out.own.kept (grown_ext X3.out) (own_none _)) (by omega))).kept (grown_ext hx5) (own_none _))
        have ca := B5.out.one.1
        clear hx5 g4 X4 X3 B3 R3 fa
        have hd9 := Dig.dec_len_nine r hr9
        generalize hdr : Lib.decDigits r = dr at *
        have HDR := Lib.hid hdr
        clear hdr
        go_wp2_with fail
        refine (isZero_any A3 n3 c3 _).mono ?_
        rintro e w6 ⟨rfl, hx6⟩
        have X6 := Lib.hid (X5.out.tr hx6)
        have B6 := Lib.hid (B5.out.keep hx6)
        have R6 := Lib.hid (R5.out.keep hx6)
        have O6 := Lib.hid (O5.out.kept (grown_ext hx6) (own_none _))
        clear hx6 X5 B5 R5 O5 ca
        have PP := Lib.hid (show partP M = if M / 1000000000 = 0 then dr else List.replicate (9 - dr.length) 48 ++ dr by unfold partP; rw [HR.out, HDR.out])
        have hzz : ((n3 : Int) == 0) = decide (M / 1000000000 = 0) := by
          by_cases hq : M / 1000000000 = 0
          · have := hz3.2 hq
            subst this
            rw [decide_eq_true hq]; rfl
          · rw [decide_eq_false hq]; exact beq_eq_false_iff_ne.2 (by omega)
        rw [hzz]
        have HZZ := Lib.hid (show decide (M / 1000000000 = 0) = decide (M / 1000000000 = 0) from rfl)
        generalize hz9 : decide (M / 1000000000 = 0) = zz at *
        have HZ9 := Lib.hid hz9
        clear hzz hz9 HZZ hz3
        go_upto_if 23 with fail
        go_cut [5] (fun s wx => s = .string ⟨(partP M).toArray⟩ ∧ Ext w6 wx)
        case first =>
          cases zz
          case true =>
            have hp := PP.out
            rw [if_pos (of_decide_eq_true HZ9.out)] at hp
            have HP := Lib.hid hp
            clear hp
            go_wp2
            go_meet
            exact ⟨by rw [HP.out], Ext.refl _⟩
          case false =>
            have hp := PP.out
            rw [if_neg (of_decide_eq_false HZ9.out)] at hp
            have HP := Lib.hid hp
            clear hp
            go_wp2_with fail
            rw [show (9 - (dr.length : Int)) = ((9 - dr.length : Nat) : Int) by omega]
            refine (repeat_ok (9 - dr.length) _ (by omega)).mono ?_
            rintro e w7 ⟨rfl, hx7⟩
            have X7 := Lib.hid hx7
            clear hx7
            go_wp2
            go_meet
            refine ⟨?_, X7.out⟩
            rw [HP.out, str_app]
            congr 2
            apply Array.ext'
            simp
        case rest =>
          obtain ⟨rfl, hx7⟩ := hcut
          have X7 := Lib.hid (X6.out.tr hx7)
          have B7 := Lib.hid (B6.out.keep hx7)
          have R7 := Lib.hid (R6.out.keep hx7)
          have O7 := Lib.hid (O6.out.kept (grown_ext hx7) (own_none _))
          have hps := ST.out.cnt
          clear hx7 X6 B6 R6 O6 HZ9 PP
          go_wp2_with (at_builtin; go_must (refine wpList_append_rd _ rfl (.tmp 30) (.tmp 32) 121 rfl (w.heap.size + 1) 9 ti (.string ⟨#[]⟩) 16 Tryz.underlying121 hi hz0 hz1 hz2 rfl u3 ps.length (strs ps) rfl ?c0 (some ⟨wc.heap.size, 0, none⟩) 1 1 [.string ⟨(partP M).toArray⟩] rfl rfl ?c1 ?c2 ?c3 ?c4 ?c5 ?c6 ?_))
          case c0 => exact O7.out.alloc _
          case c1 => exact Rd.new _ _ _ rfl rfl
          case c2 => intro h; cases h
          case c3 => intro u hu; simp at hu; subst hu; rfl
          case c4 => unfold maxLen; omega
          case c5 => omega
          case c6 => have := B7.out.lt; simp; omega
          intro v8 w8 hown8 hgrow8 _
          have hA8 : (wc.alloc (.cells #[.string ⟨(partP M).toArray⟩] 9)).grownBy w8 u3.ownBlock := hgrow8
          have hne8 : ∀ k, u3.ownBlock = some k → w.heap.size + 1 ≤ k := fun k hk => (O7.out.lt k hk).1
          have hkeep : Blk w8 w.heap.size 36 #[.slice A3 n3 c3] := (hA8.block _ (B7.out.alloc _).lt (fun e => by have := hne8 _ e.symm; omega)).trans (B7.out.alloc _)
          have hk1 : 1 ≤ k := by
            rcases Nat.eq_zero_or_pos k with e | e
            · exfalso
              have := ST.out.lt
              rw [e] at this
              simp at this
              omega
            · exact e
          have hE8 : Ext w w8 := Below.grown (X7.out.alloc _) hA8 (X7.out.alloc _).size (fun k hk => by have := hne8 k hk; omega)
          have hR8 : NatR w8 A3 n3 c3 (M / 1000000000) := by
            obtain ⟨ds, q1, q2, q3, q4, q5⟩ := R7.out.keep ((Ext.refl wc).alloc (.cells #[.string ⟨(partP M).toArray⟩] 9))
            refine ⟨ds, q1, q2, q3, q4, q5.grown hA8 (fun hx ad had e => ?_)⟩
            obtain ⟨bb, oo, cs, fr, e1, e2, _⟩ := q5 hx
            rw [had] at e1
            injection e1 with e1
            subst e1
            obtain ⟨c9, f9, e9⟩ := Lib.ownsRow_kind (O7.out.alloc (.cells #[.string ⟨(partP M).toArray⟩] 9)) _ e.symm
            rw [e2] at e9
            injection e9 with e9
            injection e9 with _ e9
            revert e9
            decide
          have SN := Lib.hid (show TextSt w w8 N K (k - 1) (M / 1000000000) (ps ++ [partP M]) v8 A3 n3 c3 from
            ⟨by
              rw [Nat.div_lt_iff_lt_mul (by decide)]
              have := ST.out.lt
              rw [show 9 * k = 9 * (k - 1) + 9 by omega, Nat.pow_add] at this
              exact this, by rw [List.length_append, List.length_singleton]; omega, partP_text ST.out.txt (by omega), by rw [List.length_append, List.length_singleton, strs_snoc]; exact hown8, fun p hp => by
                rcases List.mem_append.1 hp with h | h
                · exact ST.out.len p h
                · rw [List.mem_singleton.1 h]; exact partP_len M, hkeep, hR8, by have := ST.out.nle; omega, hE8⟩)
          clear hown8 hgrow8 hA8 hne8 hkeep hE8 hR8
          go_wp2
          go_roundg (k - 1)
          case measure => omega
          case rel => exact ⟨k - 1, M / 1000000000, ps ++ [partP M], A3, n3, c3, rfl, SN.out⟩
end Go.Proofs.YtjmkcckbbgpkeaaGreatDoor


namespace Go.Proofs.YtjmkcckbbgpkeaaGreatDoor
open Go.RowKit Go.Sort
/-- The text of a rational number. -/
def ratText (q : Rat) : List UInt8 := (if q.num < 0 then [45] else []) ++ Lib.decDigits q.num.natAbs ++ (if q.den = 1 then [] else [47] ++ Lib.decDigits q.den)
theorem nd_le : ∀ (k N : Nat), N < 10 ^ (k + 1) → Lib.nDigits N ≤ k + 1
  | 0, N, h => by rw [Lib.nDigits_small (by simpa using h)]; exact Nat.le_refl _
  | k + 1, N, h => by
    by_cases hN : N < 10
    · rw [Lib.nDigits_small hN]; omega
    · rw [Lib.nDigits_big hN]
      have := nd_le k (N / 10) (by rw [Nat.pow_succ] at h; omega)
      omega
theorem dec_len {w : World} {A : Option Addr} {n c N : Nat} (h : NatR w A n c N) (hn : n ≤ 1048576) : (Lib.decDigits N).length ≤ 20000000 := by
  obtain ⟨ds, hl, _, hcan, hv, _⟩ := h
  have h1 := Dig.val_lt B32_pos hcan.lt
  rw [hv, hl] at h1
  have h2 : N < 10 ^ (18 * n + 1) := by
    refine Nat.lt_of_lt_of_le h1 (Nat.le_trans (Nat.pow_le_pow_left (show B32 ≤ 10 ^ 18 by decide) n) ?_)
    rw [← Nat.pow_mul]
    exact Nat.pow_le_pow_right (by decide) (by omega)
  rw [Lib.decDigits_length]
  have := nd_le _ _ h2
  omega
theorem bytes_ext {a b : Array UInt8} (h : a.toList = b.toList) : (⟨a⟩ : ByteArray) = ⟨b⟩ := by
  congr 1
  exact Array.ext' h
set_option maxRecDepth 100000 in
set_option maxHeartbeats 2000000 in
theorem ratText_any (neg : Bool) (A : Option Addr) (n c : Nat) (A' : Option Addr) (n' c' : Nat) (q : Rat) (w : World) (h : RatR w neg A n c A' n' c' q) (hn : n ≤ 1048576) (hn' : n' ≤ 1048576) (ht : Tab w) :
    Calls Tryz.prog 16 #[.agg #[.bool neg, .slice A n c, .slice A' n' c']] w fun e w' => e = .returned (.string ⟨(ratText q).toArray⟩) ∧ Ext w w' := by
  obtain ⟨hba, e0⟩ := boxes1 w #[.bool neg, .slice A n c, .slice A' n' c'] 38
  have hz := h.2.2.eq_zero
  have hcase : (((n' : Int) == 0) = true ∧ q.den = 1) ∨ (((n' : Int) == 0) = false ∧ q.den ≠ 1 ∧ dk q = q.den) := by
    have hd := q.den_nz
    unfold dk at hz ⊢
    by_cases h1 : q.den = 1
    · rw [if_pos h1] at hz
      have := hz.2 rfl
      subst this
      exact .inl ⟨rfl, h1⟩
    · rw [if_neg h1] at hz ⊢
      exact .inr ⟨beq_eq_false_iff_ne.2 (by omega), h1, rfl⟩
  have hl1 := dec_len h.2.1 hn
  have hl2 := dec_len h.2.2 hn'
  have H := Lib.hid h
  have HT := Lib.hid ht
  have hneg := h.1
  have SG := Lib.hid (show (if q.num < 0 then [45] else ([] : List UInt8)) = if neg then [45] else [] by rw [hneg]; simp)
  clear h ht hz hneg
  obtain ⟨⟨i0, i1, i2⟩, g0, g1, g2⟩ := hba.three
  have goal : ∀ (s : ByteArray), s.data.toList = ratText q → s = ⟨(ratText q).toArray⟩ := fun s hs => by
    rw [← hs]
  have GOAL := Lib.hid goal
  clear goal
  have key : ∀ b1 : Bool, neg = b1 → Calls Tryz.prog 16 #[.agg #[.bool neg, .slice A n c, .slice A' n' c']] w fun e w' => e = .returned (.string ⟨(ratText q).toArray⟩) ∧ Ext w w' := by
    intro b1 hb1
    subst hb1
    rcases hcase with ⟨zb, hd⟩ | ⟨zb, hd, hdk⟩
    · have HD := Lib.hid hd
      clear hd
      cases neg
      all_goals
        go_enter Tryz.func16, Tryz.ntmps16
        go_wp2_with fail
        refine (natText_any A n c q.num.natAbs _ (H.out.2.1.keep e0) hn (HT.out.keep e0)).mono ?_
        rintro e w1 ⟨rfl, hx1⟩
        have hba := hba.keep hx1
        obtain ⟨⟨i0, i1, i2⟩, g0, g1, g2⟩ := hba.three
        have HX := Lib.hid (e0.tr hx1)
        clear hx1
        go_wp2_with fail
        refine (isZero_any A' n' c' _).mono ?_
        rintro e w2 ⟨rfl, hx2⟩
        have HX2 := Lib.hid (HX.out.tr hx2)
        clear hx2
        go_wp2
        go_ret
        refine ⟨congrArg (fun s => Ending.returned (.string s)) (GOAL.out _ ?_), HX2.out⟩
        unfold ratText
        rw [SG.out, HD.out]
        simp [ByteArray.data_append]
    · have HD := Lib.hid hd
      have HDK := Lib.hid hdk
      clear hd hdk
      cases neg
      all_goals
        go_enter Tryz.func16, Tryz.ntmps16
        go_wp2_with fail
        refine (natText_any A n c q.num.natAbs _ (H.out.2.1.keep e0) hn (HT.out.keep e0)).mono ?_
        rintro e w1 ⟨rfl, hx1⟩
        have hba := hba.keep hx1
        obtain ⟨⟨i0, i1, i2⟩, g0, g1, g2⟩ := hba.three
        have HX := Lib.hid (e0.tr hx1)
        clear hx1
        go_wp2_with fail
        refine (isZero_any A' n' c' _).mono ?_
        rintro e w2 ⟨rfl, hx2⟩
        have HX2 := Lib.hid (HX.out.tr hx2)
        have hba := hba.keep hx2
        obtain ⟨⟨i0, i1, i2⟩, g0, g1, g2⟩ := hba.three
        clear hx2
        go_wp2_with fail
        refine (natText_any A' n' c' (dk q) _ (H.out.2.2.keep HX2.out) hn' (HT.out.keep HX2.out)).mono ?_
        rintro e w3 ⟨rfl, hx3⟩
        have hl3 := hl2
        have HX3 := Lib.hid (HX2.out.tr hx3)
        clear hx3
        go_wp2
        go_ret
        refine ⟨congrArg (fun s => Ending.returned (.string s)) (GOAL.out _ ?_), HX3.out⟩
        unfold ratText
        rw [SG.out, if_neg HD.out, HDK.out]
        simp [ByteArray.data_append]
  exact key neg rfl
end Go.Proofs.YtjmkcckbbgpkeaaGreatDoor
