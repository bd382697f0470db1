/- Walks, part 1. -/
import Derived.Shelf.Strings.Builder1
import Derived.Shelf.Strings.Builder2
import Derived.Shelf.Small.Bits
import Derived.Shelf.Small.Wraps
import Derived.Shelf.Strings.BuilderF
import Derived.Shelf.Strconv.Itoa0
import Derived.Shelf.Strconv.Itoa1
import Derived.Shelf.LaysM
import Derived.Shelf.Strconv.Itoa2
import Derived.Shelf.Strconv.Itoa3
import Derived.Shelf.Strings.Prefix
import Derived.Shelf.Bits.Mul64
import Derived.Shelf.Strings.Repeat
import Derived.Ground.Names2Prog
import Derived.Shelf.Slices.Clone
import Derived.Ground.SlgnProg
import Derived.Shelf.SlicesE.Clone
import Derived.Test.YtfeeacaofjpkaaaGreatDoorProg
import Derived.WalkKit
import Derived.WalkSpells
import Derived.WalkLawsBesides
import Derived.KernelRfl
import Derived.Lib.Hide
import Derived.Deep.QuietTactic
import Derived.BigQuiet
import Derived.Deep.RegionHeld3
import Derived.Deep.DeepFit
import Derived.Deep.LoopGhost
import Derived.Deep.OwnRows
import Derived.Laws.OwnMore
import Derived.Laws.CopyOwn
import Derived.RegionTactic
import Derived.ChangeAlike
import Derived.Deep.RegionWith
import Derived.Deep.DeepCutAuto
import Derived.Maps.AppendAt
import Derived.Deep.AppendLies
set_option linter.defProp false set_option linter.unusedVariables false
set_option linter.unusedSimpArgs false
set_option maxRecDepth 100000
set_option maxHeartbeats 8000000
def Go.RowKit.Hid.o {p : Prop} (h : Go.RowKit.Hid p) : p := h.out
abbrev Go.Value.s (a : Option Go.Addr) (n c : Nat) : Go.Value := .slice a n c
namespace Go.Proofs.YtfeeacaofjpkaaaGreatDoor
open Go.Proofs.Tryz
abbrev OA := Option Addr
abbrev LN := List Nat
abbrev LQ := List Rat
abbrev zN : Value := .slice none 0 0
abbrev vI (x : Int) : Value := .int .i64 x
abbrev aD (b o : Nat) : Addr := ⟨b, o, none⟩
abbrev sA (b : Nat) : OA := some ⟨b, 0, none⟩
def Hx {p : Prop} (h : p) : RowKit.Hid p := Lib.hid h
def qO{p:Prop}(h:p:=by omega):p:=h
def qD{p:Prop}(h:p:=by decide):p:=h
def qK{p:Prop}(h:p:=by kernel_rfl):p:=h
def qR{p:Prop}(h:p:=by rfl):p:=h
def qS{p:Prop}(h:p:=by simp):p:=h
def qG{p:Prop}(h:p:=by grind):p:=h
def qE : type_of% @if_pos := @if_pos
def qF : type_of% @if_neg := @if_neg
def qL{p:Prop}(h:p:=by first|(simp;omega)|simp):p:=h
abbrev bF : Value := .bool false
abbrev rV : Array Value := #[.bool false, .slice none 0 0, .slice none 0 0]
abbrev rW : Array Value := #[.bool false, .bool false, .bool false, .slice none 0 0, .slice none 0 0, .slice none 0 0]
def qN : (∀ (a : Act) (d : Tmp) (v : Value), a.put (some d) v = { a with tmps := a.tmps.setIfInBounds d v }) ∧ (∀ (a : Act) (v : Value), a.put none v = a) ∧ (∀ (l : List Value) (i : Nat) (v : Value), l.toArray.setIfInBounds i v = (l.set i v).toArray) ∧ (∀ (x : Value) (l : List Value) (v : Value), (x :: l).set 0 v = v :: l) ∧ (∀ (x : Value) (l : List Value) (n : Nat) (v : Value), (x :: l).set (n + 1) v = x :: l.set n v) := ⟨fun _ _ _ => rfl, fun _ _ => rfl, fun _ _ _ => List.setIfInBounds_toArray .., fun _ _ _ => rfl, fun _ _ _ _ => rfl⟩
def qP : ((∀ (l : List Value) (i : Nat) (h : i < l.toArray.size), l.toArray[i]'h = l[i]'(by simpa using h)) ∧ (∀ (x : Value) (l : List Value) (h : 0 < (x :: l).length), (x :: l)[0]'h = x) ∧ (∀ (x : Value) (l : List Value) (n : Nat) (h : n + 1 < (x :: l).length), (x :: l)[n + 1]'h = l[n]'(by simpa using h))) ∧ type_of% qN := ⟨⟨fun _ _ _ => rfl, fun _ _ _ => rfl, fun _ _ _ _ => rfl⟩, qN⟩
abbrev _root_.Go.World.C (w : Go.World) (b o : Nat) (v : Go.Value) : Prop := w.cell? ⟨b, o, none⟩ = some v
def yA : type_of% @List.getElem_toArray := @List.getElem_toArray
def yB : type_of% @List.getElem_cons_zero := @List.getElem_cons_zero
def yC : type_of% @List.getElem_cons_succ := @List.getElem_cons_succ
def yD : type_of% @List.setIfInBounds_toArray := @List.setIfInBounds_toArray
def yE : type_of% @List.set_cons_zero := @List.set_cons_zero
def yF : type_of% @List.set_cons_succ := @List.set_cons_succ
def yG : type_of% @List.getElem?_eq_getElem := @List.getElem?_eq_getElem
def yH : type_of% @List.getElem?_eq_some_iff := @List.getElem?_eq_some_iff
def yI : type_of% @List.getElem?_eq_none := @List.getElem?_eq_none
def yJ : type_of% @List.mem_of_getElem? := @List.mem_of_getElem?
def yK : type_of% @beq_eq_false_iff_ne := @beq_eq_false_iff_ne
def yL : type_of% @Nat.lt_of_lt_of_le := @Nat.lt_of_lt_of_le
def yM : type_of% @List.getElem?_set_self := @List.getElem?_set_self
def vN : type_of% @List.getElem?_set_ne := @List.getElem?_set_ne
def yO : type_of% @decide_eq_true := @decide_eq_true
def yP : type_of% @decide_eq_false := @decide_eq_false
def yQ : type_of% @List.length_append := @List.length_append
def yR : type_of% @List.getElem?_append_left := @List.getElem?_append_left
def yS : type_of% @List.getElem?_append_right := @List.getElem?_append_right
def yT : type_of% @Rat.mul_le_mul_of_nonneg_left := @Rat.mul_le_mul_of_nonneg_left
def yU : type_of% @List.take_of_length_le := @List.take_of_length_le
def yV : type_of% @List.length_set := @List.length_set
def yW : type_of% @List.getElem?_map := @List.getElem?_map
def yX : type_of% @Nat.le_refl := @Nat.le_refl
def yY : type_of% @Nat.le_trans := @Nat.le_trans
def yZ : type_of% @Nat.zero_le := @Nat.zero_le
def uF : type_of% @List.eq_of_mem_replicate := @List.eq_of_mem_replicate
def xB : type_of% @List.getElem?_replicate := @List.getElem?_replicate
def xC : type_of% @List.length_replicate := @List.length_replicate
def xD : type_of% @List.mem_singleton := @List.mem_singleton
def xE : type_of% @List.mem_or_eq_of_mem_set := @List.mem_or_eq_of_mem_set
def xF : type_of% @List.length_take := @List.length_take
def xG : type_of% @List.getElem?_take := @List.getElem?_take
def xH : type_of% @Array.getElem?_setIfInBounds_ne := @Array.getElem?_setIfInBounds_ne
def xI : type_of% @List.getElem?_toArray := @List.getElem?_toArray
def xJ : type_of% @List.getElem?_range := @List.getElem?_range
def uK : type_of% @List.ext_getElem? := @List.ext_getElem?
def xL : type_of% @Int.toNat_natCast := @Int.toNat_natCast
def xM : type_of% @List.mem_of_mem_take := @List.mem_of_mem_take
def vM : type_of% @Bool.and_eq_true := @Bool.and_eq_true
def xO : type_of% @List.mem_cons_of_mem := @List.mem_cons_of_mem
def xP : type_of% @Nat.add_mul := @Nat.add_mul
def xQ : type_of% @Nat.one_mul := @Nat.one_mul
def xR : type_of% @List.getElem_mem := @List.getElem_mem
def xS : type_of% @Nat.mul_le_mul_right := @Nat.mul_le_mul_right
def xT : type_of% @Nat.mod_lt := @Nat.mod_lt
def xU : type_of% @List.flatMap_cons := @List.flatMap_cons
def xV : type_of% @List.length_map := @List.length_map
def xW : type_of% @List.all_eq_true := @List.all_eq_true
def vX : type_of% @List.mem_range := @List.mem_range
def xY : type_of% @List.mem_append := @List.mem_append
def xZ : type_of% @List.mem_cons := @List.mem_cons
def vA : type_of% @Rat.mul_nonneg := @Rat.mul_nonneg
def vB : type_of% @Rat.le_of_lt := @Rat.le_of_lt
def vC : type_of% @Rat.le_refl := @Rat.le_refl
def vD : type_of% @Nat.pow_succ := @Nat.pow_succ
def vE : type_of% @Nat.mul_comm := @Nat.mul_comm
def ah : type_of% @And.intro := @And.intro
def Ht : type_of% @Nat.ne_of_lt := @Nat.ne_of_lt
def Ag : type_of% @Nat.mul_add := @Nat.mul_add
def Bc : type_of% @Nat.lt_or_ge := @Nat.lt_or_ge
def Bg : type_of% @Nat.le_of_lt := @Nat.le_of_lt
def D5 : type_of% @List.drop_of_length_le := @List.drop_of_length_le
def Cb : type_of% @Nat.mul_assoc := @Nat.mul_assoc
def Dx : type_of% @Nat.mul_le_mul_left := @Nat.mul_le_mul_left
def EP : type_of% @List.getElem?_cons_zero := @List.getElem?_cons_zero
def Il : type_of% @Int.eq_ofNat_of_zero_le := @Int.eq_ofNat_of_zero_le
def DU : type_of% @Nat.pow_le_pow_right := @Nat.pow_le_pow_right
def Bv : type_of% @List.mem_map := @List.mem_map
def Ee : type_of% @Nat.eq_zero_or_pos := @Nat.eq_zero_or_pos
def Fx : type_of% @Array.getElem?_eq_none := @Array.getElem?_eq_none
def Dw : type_of% @List.length_cons := @List.length_cons
def FJ : type_of% @List.length_eq_zero_iff := @List.length_eq_zero_iff
def DK : type_of% @Nat.mul_le_mul := @Nat.mul_le_mul
def Dj : type_of% @List.take_add_one := @List.take_add_one
def Dv : type_of% @Rat.le_trans := @Rat.le_trans
def Hr : type_of% @Rat.intCast_le_intCast := @Rat.intCast_le_intCast
def CU : type_of% @Nat.zero_add := @Nat.zero_add
def Ey : type_of% @Nat.mod_eq_of_lt := @Nat.mod_eq_of_lt
def Gi : type_of% @Array.getElem?_toList := @Array.getElem?_toList
def Hq : type_of% @Nat.mul_ne_zero := @Nat.mul_ne_zero
def Du : type_of% @Nat.pow_pos := @Nat.pow_pos
def Kc : type_of% @List.eq_nil_of_length_eq_zero := @List.eq_nil_of_length_eq_zero
def KN : type_of% @Array.getElem?_setIfInBounds_self_of_lt := @Array.getElem?_setIfInBounds_self_of_lt
def DL : type_of% @Option.getD_some := @Option.getD_some
def Im : type_of% @Nat.lt_of_le_of_lt := @Nat.lt_of_le_of_lt
def Ef : type_of% @Nat.add_zero := @Nat.add_zero
def Dy : type_of% @Rat.not_lt := @Rat.not_lt
def Ke : type_of% @Rat.mul_le_mul_of_nonneg_right := @Rat.mul_le_mul_of_nonneg_right
def Ju : type_of% @List.drop_eq_getElem_cons := @List.drop_eq_getElem_cons
def Gv : type_of% @Rat.den_nz := @Rat.den_nz
def ER : type_of% @Nat.mul_zero := @Nat.mul_zero
def Gu : type_of% @Option.map_some := @Option.map_some
def Ka : type_of% @List.map_cons := @List.map_cons
def J7 : type_of% @Nat.mul_lt_mul_of_lt_of_le := @Nat.mul_lt_mul_of_lt_of_le
def IY : type_of% @List.range_succ := @List.range_succ
def J5 : type_of% @List.length_singleton := @List.length_singleton
def DF : type_of% @Or.inl := @Or.inl
def Gt : type_of% @Rat.lt_irrefl := @Rat.lt_irrefl
def IX : type_of% @Bool.true_and := @Bool.true_and
def Ik : type_of% @Nat.min_eq_left := @Nat.min_eq_left
def JL : type_of% @Nat.div_le_self := @Nat.div_le_self
def Ij : type_of% @Nat.div_add_mod := @Nat.div_add_mod
def Ii : type_of% @Int.natCast_mul := @Int.natCast_mul
def FI : type_of% @Nat.add_comm := @Nat.add_comm
def Jt : type_of% @List.length_range := @List.length_range
def KM : type_of% @Array.getElem?_eq_some_iff := @Array.getElem?_eq_some_iff
def J4 : type_of% @List.nodup_cons := @List.nodup_cons
def Js : type_of% @Nat.div_lt_iff_lt_mul := @Nat.div_lt_iff_lt_mul
def Jr : type_of% @Bool.false_eq_true := @Bool.false_eq_true
def Ho : type_of% @Nat.lt_irrefl := @Nat.lt_irrefl
def kZs : type_of% @List.getElem?_set := @List.getElem?_set
def Jq : type_of% @List.foldl_append := @List.foldl_append
def Jp : type_of% @Rat.intCast_mul := @Rat.intCast_mul
def Jo : type_of% @Int.natCast_add := @Int.natCast_add
def JK : type_of% @Nat.add_assoc := @Nat.add_assoc
def Hl : type_of% @List.mem_flatMap := @List.mem_flatMap
def KJ : type_of% @Nat.le_div_iff_mul_le := @Nat.le_div_iff_mul_le
def KH : type_of% @List.take_append_drop := @List.take_append_drop
end Go.Proofs.YtfeeacaofjpkaaaGreatDoor
namespace Go.Proofs
open Go.Shelf
open Go.RowKit in
def Tryz.Db:Go.Shelf.Ren:=⟨fun|169=>113|n=>n,fun|70=>177|9=>9|0=>0|72=>180|37=>178|127=>243|3=>3|5=>5|n=>n,fun|n=>n⟩
def Tryz.JF:Go.Proofs.Lays.n169 Tryz.prog Tryz.Db:={
 mixed:=by kernel_rfl
 f169:=Tryz.func113.trans (congrArg some (by kernel_rfl))
 t0:=Tryz.underlying0
 a0:=Tryz.isAgg0
 z0:=Tryz.sizeOf0
 v0:=Tryz.zeroValue0
 t3:=Tryz.underlying3
 a3:=Tryz.isAgg3
 z3:=Tryz.sizeOf3
 v3:=Tryz.zeroValue3
 t9:=Tryz.underlying9
 a9:=Tryz.isAgg9
 z9:=Tryz.sizeOf9
 v9:=Tryz.zeroValue9
 t37:=Tryz.underlying178
 a37:=Tryz.isAgg178
 z37:=Tryz.sizeOf178
 v37:=Tryz.zeroValue178
 t70:=Tryz.underlying177
 a70:=Tryz.isAgg177
 z70:=Tryz.sizeOf177
 v70:=Tryz.zeroValue177
 t72:=Tryz.underlying180
 a72:=Tryz.isAgg180
 z72:=Tryz.sizeOf180
 v72:=Tryz.zeroValue180
 t127:=Tryz.underlying243
 a127:=Tryz.isAgg243
 z127:=Tryz.sizeOf243
 v127:=Tryz.zeroValue243}
def Tryz.CP:Builder.Extra Tryz.prog Tryz.Db:={
 sizeBuilder:=by kernel_rfl
 liesBuilder:=by kernel_rfl
 t5:=Tryz.underlying5
 a5:=Tryz.isAgg5
 z5:=Tryz.sizeOf5
 v5:=Tryz.zeroValue5
 infoByte:=by kernel_rfl
 cellsByte:=by kernel_rfl
 sizeByte:=by kernel_rfl
 neB5:=by decide}
open Go.RowKit in
open Go.RowKit in
open Go.RowKit in
def Tryz.Builder_String_any(B b:Nat)(l:List UInt8)(w:World)(h:Lib.IsBuilder 180 5 B b (Lib.byteCells l) w)(hBw:B<=w.heap.size):
 Calls Tryz.prog 113 #[.pointer (some ⟨b,0,none⟩)] w fun e w'=>e=.returned (.string ⟨l.toArray⟩)/\Below B w w':=Any.Builder_String_any Tryz.JF Tryz.CP B b l w h hBw
open Go.RowKit in
open Go.RowKit in
def Tryz.Fu:Go.Shelf.Ren:=⟨fun|133=>206|128=>195|n=>n,fun|51=>196|3=>3|4=>4|46=>224|5=>5|9=>9|n=>n,fun|n=>n⟩
def Tryz.JG:Go.Proofs.Lays.n133 Tryz.prog Tryz.Fu:={
 mixed:=by kernel_rfl
 f128:=Tryz.func195.trans (congrArg some (by kernel_rfl))
 f133:=Tryz.func206.trans (congrArg some (by kernel_rfl))
 t3:=Tryz.underlying3
 a3:=Tryz.isAgg3
 z3:=Tryz.sizeOf3
 v3:=Tryz.zeroValue3
 t4:=Tryz.underlying4
 a4:=Tryz.isAgg4
 z4:=Tryz.sizeOf4
 v4:=Tryz.zeroValue4
 t5:=Tryz.underlying5
 a5:=Tryz.isAgg5
 z5:=Tryz.sizeOf5
 v5:=Tryz.zeroValue5
 t9:=Tryz.underlying9
 a9:=Tryz.isAgg9
 z9:=Tryz.sizeOf9
 v9:=Tryz.zeroValue9
 t46:=Tryz.underlying224
 a46:=Tryz.isAgg224
 z46:=Tryz.sizeOf224
 v46:=Tryz.zeroValue224
 t51:=Tryz.underlying196
 a51:=Tryz.isAgg196
 z51:=Tryz.sizeOf196
 v51:=Tryz.zeroValue196}
def Tryz.bits_LeadingZeros32(x:Int)(w:World)(h0:0<=x)(h1:x<=4294967295):
 Calls Tryz.prog 206 #[.int .u32 x] w fun e w'=>e=.returned (.int .i64 (32-(Lib.bitLen x.toNat:Int)))/\w'=w:=Any.bits_LeadingZeros32 Tryz.JG x w h0 h1
open Go.RowKit in
def Tryz.Fv:Go.Shelf.Ren:=⟨fun|122=>165|215=>203|n=>n,fun|3=>3|4=>4|n=>n,fun|n=>n⟩
def Tryz.JH:Go.Proofs.Lays.n122 Tryz.prog Tryz.Fv:={
 mixed:=by kernel_rfl
 f122:=Tryz.func165.trans (congrArg some (by kernel_rfl))
 f215:=Tryz.func203.trans (congrArg some (by kernel_rfl))
 t3:=Tryz.underlying3
 a3:=Tryz.isAgg3
 z3:=Tryz.sizeOf3
 v3:=Tryz.zeroValue3
 t4:=Tryz.underlying4
 a4:=Tryz.isAgg4
 z4:=Tryz.sizeOf4
 v4:=Tryz.zeroValue4}
open Go.RowKit in
def Tryz.cmp_Compare_int(x y:Int)(w:World):
 Calls Tryz.prog 165 #[.int .i64 x,.int .i64 y] w fun e w'=>e=.returned (.int .i64 (Lib.compareInt x y))/\w'=w:=Any.cmp_Compare_int Tryz.JH x y w
open Go.RowKit in
open Go.RowKit in
open Go.RowKit in
open Go.RowKit in
open Go.Lib in
open Go.Lib in
open Go.Lib in
open Go.Lib in
open Go.RowKit Go.Sort Go.Lib in
open Go.RowKit Go.Sort Go.Lib in
open Go.RowKit Go.Sort Go.Lib in
open Go.RowKit Go.Sort Go.Lib in
open Go.RowKit Go.Sort Go.Lib in
def Tryz.Ew:Go.Shelf.Ren:=⟨fun|171=>111|243=>168|246=>205|283=>223|284=>224|285=>225|286=>226|129=>196|317=>229|318=>230|319=>231|320=>232|337=>233|338=>234|n=>n,fun|3=>3|9=>9|2=>2|4=>4|171=>301|0=>0|53=>189|37=>178|5=>5|173=>303|212=>310|51=>196|20=>20|213=>311|46=>224|232=>312|233=>313|n=>n,fun|17=>1|18=>3|19=>4|n=>n⟩
def Tryz.IW:Go.Proofs.LaysM.n171 Tryz.prog Tryz.Ew:={
 mixed:=by kernel_rfl
 f129:=Tryz.func196.trans (congrArg some (by kernel_rfl))
 f171:=Tryz.func111.trans (congrArg some (by kernel_rfl))
 f243:=Tryz.func168.trans (congrArg some (by kernel_rfl))
 f246:=Tryz.func205.trans (congrArg some (by kernel_rfl))
 f283:=Tryz.func223.trans (congrArg some (by kernel_rfl))
 f284:=Tryz.func224.trans (congrArg some (by kernel_rfl))
 f285:=Tryz.func225.trans (congrArg some (by kernel_rfl))
 f286:=Tryz.func226.trans (congrArg some (by kernel_rfl))
 f317:=Tryz.func229.trans (congrArg some (by kernel_rfl))
 f318:=Tryz.func230.trans (congrArg some (by kernel_rfl))
 f319:=Tryz.func231.trans (congrArg some (by kernel_rfl))
 f320:=Tryz.func232.trans (congrArg some (by kernel_rfl))
 f337:=Tryz.func233.trans (congrArg some (by kernel_rfl))
 f338:=Tryz.func234.trans (congrArg some (by kernel_rfl))
 t0:=Tryz.underlying0
 a0:=Tryz.isAgg0
 z0:=Tryz.sizeOf0
 v0:=Tryz.zeroValue0
 t2:=Tryz.underlying2
 a2:=Tryz.isAgg2
 z2:=Tryz.sizeOf2
 v2:=Tryz.zeroValue2
 t3:=Tryz.underlying3
 a3:=Tryz.isAgg3
 z3:=Tryz.sizeOf3
 v3:=Tryz.zeroValue3
 t4:=Tryz.underlying4
 a4:=Tryz.isAgg4
 z4:=Tryz.sizeOf4
 v4:=Tryz.zeroValue4
 t5:=Tryz.underlying5
 a5:=Tryz.isAgg5
 z5:=Tryz.sizeOf5
 v5:=Tryz.zeroValue5
 t9:=Tryz.underlying9
 a9:=Tryz.isAgg9
 z9:=Tryz.sizeOf9
 v9:=Tryz.zeroValue9
 t20:=Tryz.underlying20
 a20:=Tryz.isAgg20
 z20:=Tryz.sizeOf20
 v20:=Tryz.zeroValue20
 t37:=Tryz.underlying178
 a37:=Tryz.isAgg178
 z37:=Tryz.sizeOf178
 v37:=Tryz.zeroValue178
 t46:=Tryz.underlying224
 a46:=Tryz.isAgg224
 z46:=Tryz.sizeOf224
 v46:=Tryz.zeroValue224
 t51:=Tryz.underlying196
 a51:=Tryz.isAgg196
 z51:=Tryz.sizeOf196
 v51:=Tryz.zeroValue196
 t53:=Tryz.underlying189
 a53:=Tryz.isAgg189
 z53:=Tryz.sizeOf189
 v53:=Tryz.zeroValue189
 t171:=Tryz.underlying301
 a171:=Tryz.isAgg301
 z171:=Tryz.sizeOf301
 v171:=Tryz.zeroValue301
 t173:=Tryz.underlying303
 a173:=Tryz.isAgg303
 z173:=Tryz.sizeOf303
 v173:=Tryz.zeroValue303
 t212:=Tryz.underlying310
 a212:=Tryz.isAgg310
 z212:=Tryz.sizeOf310
 v212:=Tryz.zeroValue310
 t213:=Tryz.underlying311
 a213:=Tryz.isAgg311
 z213:=Tryz.sizeOf311
 t232:=Tryz.underlying312
 a232:=Tryz.isAgg312
 z232:=Tryz.sizeOf312
 v232:=Tryz.zeroValue312
 t233:=Tryz.underlying313
 a233:=Tryz.isAgg313
 z233:=Tryz.sizeOf313
 v233:=Tryz.zeroValue313
 g17:=by kernel_rfl
 g18:=by kernel_rfl
 g19:=by kernel_rfl
 i0:=by kernel_rfl
 i2:=by kernel_rfl
 i3:=by kernel_rfl
 i4:=by kernel_rfl
 i5:=by kernel_rfl
 i9:=by kernel_rfl
 i20:=by kernel_rfl
 i37:=by kernel_rfl
 i46:=by kernel_rfl
 i51:=by kernel_rfl
 i53:=by kernel_rfl
 i171:=by kernel_rfl
 i173:=by kernel_rfl
 i212:=by kernel_rfl
 i232:=by kernel_rfl
 i233:=by kernel_rfl
 m17:=by kernel_rfl
 m18:=by kernel_rfl
 m19:=by kernel_rfl}
open Go.RowKit Go.Sort Go.Lib in
def Tryz.strconv_Itoa(n:Int)(h0: -9223372036854775808<=n)(h1:n<=9223372036854775807)(w:World)(htab:Lib.TabIs Tryz.prog w "internal/strconv.uint64pow10" .u64 Lib.pow10Tab):
 Calls Tryz.prog 111 #[.int .i64 n] w fun e w'=>e=.returned (.string ⟨(Lib.itoa n).toArray⟩)/\∃k os,w'=grow (w.drewN k) os:=Any.strconv_Itoa Tryz.IW n h0 h1 w htab
open Go.RowKit Go.Sort Go.Lib in
open Go.RowKit Go.Lib in
open Go.RowKit Go.Lib in
open Go.RowKit Go.Lib in
open Go.RowKit Go.Lib in
def Tryz.Dc:Go.Shelf.Ren:=⟨fun|105=>133|212=>179|99=>180|165=>181|166=>110|170=>182|169=>113|263=>210|264=>211|206=>212|240=>167|241=>213|276=>204|277=>227|n=>n,fun|9=>9|3=>3|4=>4|20=>20|0=>0|46=>224|109=>251|5=>5|72=>180|76=>183|51=>196|146=>244|53=>189|148=>290|70=>177|37=>178|75=>182|127=>243|164=>283|80=>187|n=>n,fun|n=>n⟩
def Tryz.JI:Go.Proofs.Lays.n105 Tryz.prog Tryz.Dc:={
 mixed:=by kernel_rfl
 f99:=Tryz.func180.trans (congrArg some (by kernel_rfl))
 f105:=Tryz.func133.trans (congrArg some (by kernel_rfl))
 f165:=Tryz.func181.trans (congrArg some (by kernel_rfl))
 f166:=Tryz.func110.trans (congrArg some (by kernel_rfl))
 f169:=Tryz.func113.trans (congrArg some (by kernel_rfl))
 f170:=Tryz.func182.trans (congrArg some (by kernel_rfl))
 f206:=Tryz.func212.trans (congrArg some (by kernel_rfl))
 f212:=Tryz.func179.trans (congrArg some (by kernel_rfl))
 f240:=Tryz.func167.trans (congrArg some (by kernel_rfl))
 f241:=Tryz.func213.trans (congrArg some (by kernel_rfl))
 f263:=Tryz.func210.trans (congrArg some (by kernel_rfl))
 f264:=Tryz.func211.trans (congrArg some (by kernel_rfl))
 f276:=Tryz.func204.trans (congrArg some (by kernel_rfl))
 f277:=Tryz.func227.trans (congrArg some (by kernel_rfl))
 t0:=Tryz.underlying0
 a0:=Tryz.isAgg0
 z0:=Tryz.sizeOf0
 v0:=Tryz.zeroValue0
 t3:=Tryz.underlying3
 a3:=Tryz.isAgg3
 z3:=Tryz.sizeOf3
 v3:=Tryz.zeroValue3
 t4:=Tryz.underlying4
 a4:=Tryz.isAgg4
 z4:=Tryz.sizeOf4
 v4:=Tryz.zeroValue4
 t5:=Tryz.underlying5
 a5:=Tryz.isAgg5
 z5:=Tryz.sizeOf5
 v5:=Tryz.zeroValue5
 t9:=Tryz.underlying9
 a9:=Tryz.isAgg9
 z9:=Tryz.sizeOf9
 v9:=Tryz.zeroValue9
 t20:=Tryz.underlying20
 a20:=Tryz.isAgg20
 z20:=Tryz.sizeOf20
 v20:=Tryz.zeroValue20
 t37:=Tryz.underlying178
 a37:=Tryz.isAgg178
 z37:=Tryz.sizeOf178
 v37:=Tryz.zeroValue178
 t46:=Tryz.underlying224
 a46:=Tryz.isAgg224
 z46:=Tryz.sizeOf224
 v46:=Tryz.zeroValue224
 t51:=Tryz.underlying196
 a51:=Tryz.isAgg196
 z51:=Tryz.sizeOf196
 v51:=Tryz.zeroValue196
 t53:=Tryz.underlying189
 a53:=Tryz.isAgg189
 z53:=Tryz.sizeOf189
 v53:=Tryz.zeroValue189
 t70:=Tryz.underlying177
 a70:=Tryz.isAgg177
 z70:=Tryz.sizeOf177
 v70:=Tryz.zeroValue177
 t72:=Tryz.underlying180
 a72:=Tryz.isAgg180
 z72:=Tryz.sizeOf180
 v72:=Tryz.zeroValue180
 t75:=Tryz.underlying182
 a75:=Tryz.isAgg182
 z75:=Tryz.sizeOf182
 v75:=Tryz.zeroValue182
 t76:=Tryz.underlying183
 a76:=Tryz.isAgg183
 z76:=Tryz.sizeOf183
 v76:=Tryz.zeroValue183
 t109:=Tryz.underlying251
 a109:=Tryz.isAgg251
 z109:=Tryz.sizeOf251
 v109:=Tryz.zeroValue251
 t127:=Tryz.underlying243
 a127:=Tryz.isAgg243
 z127:=Tryz.sizeOf243
 v127:=Tryz.zeroValue243
 t146:=Tryz.underlying244
 a146:=Tryz.isAgg244
 z146:=Tryz.sizeOf244
 v146:=Tryz.zeroValue244
 t148:=Tryz.underlying290
 a148:=Tryz.isAgg290
 z148:=Tryz.sizeOf290
 v148:=Tryz.zeroValue290
 t164:=Tryz.underlying283
 a164:=Tryz.isAgg283
 z164:=Tryz.sizeOf283
 v164:=Tryz.zeroValue283}
def Tryz.CQ:Builder.Extra Tryz.prog Tryz.Dc:={
 sizeBuilder:=by kernel_rfl
 liesBuilder:=by kernel_rfl
 t5:=Tryz.underlying5
 a5:=Tryz.isAgg5
 z5:=Tryz.sizeOf5
 v5:=Tryz.zeroValue5
 infoByte:=by kernel_rfl
 cellsByte:=by kernel_rfl
 sizeByte:=by kernel_rfl
 neB5:=by decide}
open Go.RowKit Go.Lib in
open Go.RowKit Go.Lib in
open Go.RowKit Go.Lib in
open Go.RowKit Go.Lib in
open Go.RowKit Go.Lib in
open Go.RowKit Go.Lib in
open Go.RowKit Go.Lib in
def Tryz.strings_Repeat(s:ByteArray)(c:Nat)(w:World)(hc:c<=9223372036854775807)(hlen:s.size*c<=140737488355328):
 Calls Tryz.prog 133 #[.string s,.int .i64 c] w fun e w'=>e=.returned (.string ⟨(Lib.repeatL s.data.toList c).toArray⟩)/\Below w.heap.size w w':=Any.strings_Repeat Tryz.JI Tryz.CQ s c w hc hlen
def Tryz.DZ:Go.Shelf.Ren:=⟨fun|15=>108|n=>n,fun|22=>42|3=>3|4=>4|n=>n,fun|n=>n⟩
def Tryz.Hg:Go.Proofs.Lays2.n15 Tryz.prog Tryz.DZ:={
 mixed:=by kernel_rfl
 f15:=Tryz.func108.trans (congrArg some (by kernel_rfl))
 t3:=Tryz.underlying3
 a3:=Tryz.isAgg3
 z3:=Tryz.sizeOf3
 v3:=Tryz.zeroValue3
 t4:=Tryz.underlying4
 a4:=Tryz.isAgg4
 z4:=Tryz.sizeOf4
 v4:=Tryz.zeroValue4
 t22:=Tryz.underlying42
 a22:=Tryz.isAgg42
 z22:=Tryz.sizeOf42
 v22:=Tryz.zeroValue42
 i3:=by kernel_rfl}
open Go.RowKit Go.Lib in
open Go.RowKit Go.Lib in
open Go.RowKit Go.Lib in
def Tryz.slices_Clone_int_zero(a:Addr)(c:Nat)(w:World):
 Calls Tryz.prog 108 #[.slice (some a) 0 c] w fun e w'=>∃v',e=.returned v'/\w'.ownsRow w.heap.size 3 1 v' 0 []/\v'≠.slice none 0 0/\Below w.heap.size w w':=Any.slices_Clone_int_zero Tryz.Hg a c w
def Tryz.Ca:Go.Shelf.Ren:=⟨fun|41=>108|n=>n,fun|22=>42|23=>3|4=>4|n=>n,fun|n=>n⟩
def Tryz.Bt:Go.Proofs.SlLaysE0.n41 Tryz.prog Tryz.Ca:={
 mixed:=by kernel_rfl
 f41:=⟨Tryz.f108.name,by decide,Tryz.func108.trans (congrArg some (by kernel_rfl))⟩
 t4:=Tryz.underlying4
 a4:=Tryz.isAgg4
 z4:=Tryz.sizeOf4
 v4:=Tryz.zeroValue4
 t22:=Tryz.underlying42
 a22:=Tryz.isAgg42
 z22:=Tryz.sizeOf42
 v22:=Tryz.zeroValue42}
open Go.RowKit Go.Lib in
def Tryz.slices_Clone(i0:TypeInfo)(z:Value)(size bytes:Nat)(hi:Tryz.prog.info? 3=some i0)(hz0:i0.zero=some z)(hz1:i0.size=size)(hz2:i0.bytes=bytes)(hzs:z.cells.size=size)(hsz:0<size)(z23:∀w,(Go.sizeOf 3).run Tryz.prog w=.ok size w)(b off n c:Nat)(news:List Value)(w:World)(hl:news.length=n*size)(hn:n<=maxLen)(hbig:n*bytes<=140737488355328)(hc:∀j u,news[j]?=some u->w.cell? ⟨b,off+j,none⟩=some u)(h1:∀u∈news,u.oneCell'=true):
 Calls Tryz.prog 108 #[.slice (some ⟨b,off,none⟩) n c] w fun e w'=>∃v',e=.returned v'/\w'.ownsRow w.heap.size 3 size v' n news/\v'≠.slice none 0 0/\Below w.heap.size w w':=AnyE.slices_Clone Tryz.Bt i0 z size bytes hi hz0 hz1 hz2 hzs hsz z23 b off n c news w hl hn hbig hc h1
open Go.RowKit Go.Lib in
def Tryz.slices_Clone_nil(n c:Nat)(w:World):
 Calls Tryz.prog 108 #[.slice none n c] w fun e w'=>e=.returned (.slice none 0 0)/\w'=w:=AnyE.slices_Clone_nil Tryz.Bt n c w
end Go.Proofs
namespace Go.Proofs.YtfeeacaofjpkaaaGreatDoor.av
open Go.Proofs.Tryz
def val(B:Nat):LN->Nat
 | []=>0
 |d::ds=>d+B*val B ds
def Dq(B:Nat):val B []=0:=rfl
def mh(B d:Nat)(ds:LN):val B (d::ds)=d+B*val B ds:=rfl
def val_append(B:Nat)(xs ys:LN):val B (xs++ys)=val B xs+B^xs.length*val B ys:=by
 (induction xs with|nil=>simp[val]|cons x xs ih=>simp only[List.cons_append,val,ih,Dw,vD];grind)
def jzhu(B d:Nat):val B [d]=d:=by simp[val]
def BJ(B:Nat)(xs:LN)(d:Nat):val B (xs++[d])=val B xs+B^xs.length*d:=by rw[val_append,jzhu]
def jzaq(B:Nat)(xs:LN)(k:Nat)(h:k<xs.length):val B (xs.take (k+1))=val B (xs.take k)+B^k*xs[k]:=by
 rw[List.take_succ_eq_append_getElem h,BJ,xF,Ik qO]
def dw(B:Nat)(xs:LN)(k:Nat)(h:k<xs.length):val B (xs.take (k+1))=val B (xs.take k)+B^k*xs.getD k 0:=by
 rw[jzaq B xs k h];simp[List.getD,h]
def ow{B:Nat}(_hB:0<B){ds:LN}(h:∀d∈ds,d<B):val B ds<B^ds.length:=by
 (induction ds with|nil=>simp[val]|cons d ds ih=>have h1:=ih (fun x hx=>h x (by simp[hx]));have h2:=h d qS;simp only[val,Dw,vD];have:B*(val B ds+1)<=B*B^ds.length:=Dx _ h1;have e:B^ds.length*B=B*B^ds.length:=vE _ _;rw[e];rw[Ag]at this;omega)
def DY(B n:Nat):val B (List.replicate n 0)=0:=by
 (induction n with|zero=>rfl|succ n ih=>simp[List.replicate_succ,val,ih])
def jzhv(B:Nat)(xs:LN)(k:Nat):val B xs=val B (xs.take k)+B^(min k xs.length)*val B (xs.drop k):=by
 conv=>lhs;rw[<-KH k xs]
 rw[val_append,xF]
def om(B:Nat)(xs:LN)(k:Nat)(h:k<=xs.length):val B xs=val B (xs.take k)+B^k*val B (xs.drop k):=by
 rw[jzhv B xs k,Ik h]
def jzhw(B:Nat)(xs:LN)(k:Nat)(h:k<xs.length):val B (xs.drop k)=xs[k]+B*val B (xs.drop (k+1)):=by
 rw[Ju h];rfl
def qc(B:Nat)(xs:LN)(k:Nat)(h:k<xs.length):val B (xs.drop k)=xs.getD k 0+B*val B (xs.drop (k+1)):=by
 rw[jzhw B xs k h];simp[List.getD,h]
structure Canon(B:Nat)(ds:LN):Prop where
 lt:∀d∈ds,d<B
 top:ds.getLast?≠some 0
def Canon.nil(B:Nat):Canon B []:=⟨qS,qS⟩
def Canon.tail{B d:Nat}{ds:LN}(h:Canon B (d::ds)):Canon B ds:=by
 (refine⟨fun x hx=>h.lt x (by simp[hx]),?_⟩;cases ds with|nil=>simp|cons e es=>have:=h.top;rwa [List.getLast?_cons_cons]at this)
def Canon.pos{B:Nat}(hB:0<B):∀{ds:LN},Canon B ds->ds≠ []->0<val B ds
 | [],_,h=>absurd rfl h
 | [d],h,_=>by have:=h.top;simp at this;simp[val];omega
 |d::e::es,h,_=>by
  have:=Canon.pos hB h.tail qS;rw[mh];have:0<B*val B (e::es):=Nat.mul_pos hB this;omega
def Canon.val_zero{B:Nat}(hB:0<B){ds:LN}(h:Canon B ds)(h0:val B ds=0):ds=[]:=by
 by_cases hd:ds=[];{exact hd};have:=h.pos hB hd;omega
def Canon.ge{B:Nat}(hB:0<B){ds:LN}(h:Canon B ds)(hne:ds≠ []):B^(ds.length-1)<=val B ds:=by
 (induction ds with|nil=>exact absurd rfl hne|cons d ds ih=>(cases ds with|nil=>have:=h.pos hB qS;simp[val]at this⊢;omega|cons e es=>have:=ih h.tail qS;simp only[Dw,Nat.add_sub_cancel]at this⊢;rw[mh,vD];have:B*B^es.length<=B*val B (e::es):=Dx _ this;rw[vE (B^es.length)];omega))
def Canon.Bp{B:Nat}(hB:1<B){xs ys:LN}(hx:Canon B xs)(hy:Canon B ys)(h:xs.length<ys.length):val B xs<val B ys:=by
 have h1:=ow qO hx.lt;have h2:=hy.ge qO (by intro e;simp[e]at h);have h3:B^xs.length<=B^(ys.length-1):=DU qO qO;omega
def Canon.wm{B:Nat}(hB:1<B){ds:LN}(h:Canon B ds){k:Nat}(hv:val B ds<B^k):ds.length<=k:=by
 by_cases qa:ds=[];{simp[qa]};have h1:=h.ge qO qa;have h2:B^(ds.length-1)<B^k:=qO;have:=(Nat.pow_lt_pow_iff_right hB).1 h2;omega
def jzar{B:Nat}(hB:0<B):∀{xs ys:LN},(∀d∈xs,d<B)->(∀d∈ys,d<B)->xs.length=ys.length->val B xs=val B ys->xs=ys
 | [],[],_,_,_,_=>rfl
 | [],_::_,_,_,h,_=>by simp at h
 |_::_,[],_,_,h,_=>by simp at h
 |x::xs,y::ys,hx,hy,hl,hv=>by
  have qf:=hx x qS;have qe:=hy y qS;rw[mh,mh]at hv;have e1:(x+B*val B xs)%B=x:=(by rw[Nat.add_mul_mod_self_left,Ey qf]);have e2:(y+B*val B ys)%B=y:=(by rw[Nat.add_mul_mod_self_left,Ey qe]);have qa:x=y:=(by rw[<-e1, <-e2,hv]);subst qa;have:val B xs=val B ys:=Nat.eq_of_mul_eq_mul_left hB qO;rw[jzar hB (fun d hd=>hx d (by simp[hd])) (fun d hd=>hy d (by simp[hd])) (by simpa using hl) this]
def Canon.unique{B:Nat}(hB:1<B){xs ys:LN}(hx:Canon B xs)(hy:Canon B ys)(h:val B xs=val B ys):xs=ys:=by
 (refine jzar qO hx.lt hy.lt ?_ h;rcases Nat.lt_trichotomy xs.length ys.length with hl|hl|hl);{have:=hx.Bp hB hy hl;omega};{exact hl};have:=hy.Bp hB hx hl;omega
def trim:LN->LN
 | []=>[]
 |d::ds=>match trim ds with
  | []=>if d=0 then []else [d]
  |e::es=>d::e::es
def BK(B:Nat)(ds:LN):val B (trim ds)=val B ds:=by
 (induction ds with|nil=>rfl|cons d ds ih=>simp only[trim];split;{rename_i h;rw[h]at ih;rw[mh, <-ih,Dq];split <;> simp[val, *]};rename_i e es h;rw[h]at ih;rw[mh B d (e::es),ih,mh])
def jzhx(ds:LN):trim (ds++[0])=trim ds:=by
 (induction ds with|nil=>rfl|cons d ds ih=>simp only[List.cons_append,trim,ih])
def jzhy(ds:LN)(d:Nat)(hd:d≠0):trim (ds++[d])=ds++[d]:=by
 (induction ds with|nil=>simp[trim,hd]|cons e es ih=>simp only[List.cons_append,trim,ih];split;{rename_i h;simp at h};rename_i h;rw[<-h])
def CW(ds:LN)(n:Nat)(hn:n<=ds.length)(hz:∀k,n<=k->k<ds.length->ds.getD k 0=0):trim ds=trim (ds.take n):=by
 (induction hm:ds.length-n generalizing n with|zero=>rw[yU qO]|succ m ih=>have h:=ih (n+1) qO (fun k hk hk'=>hz k qO hk') qO;rw[h,List.take_succ_eq_append_getElem (by omega:n<ds.length)];have h0:=hz n qO qO;simp only[List.getD,yG (by omega:n<ds.length),DL]at h0;rw[h0,jzhx])
def jzhz{ds:LN}(h:ds.getLast?≠some 0):trim ds=ds:=by
 rcases List.eq_nil_or_concat ds with rfl|⟨xs,x,rfl⟩
 ·rfl
 rw[List.concat_eq_append]at h⊢;exact jzhy xs x (by simpa using h)
def Canon.trim{B:Nat}{ds:LN}(h:Canon B ds):av.trim ds=ds:=jzhz h.top
def Cm{xs ys:LN}(hl:xs.length=ys.length){k:Nat}(heq:∀j,k<=j->j<xs.length->xs[j]?.getD 0=ys[j]?.getD 0):xs.drop k=ys.drop k:=by
 apply uK;intro i;rw[List.getElem?_drop,List.getElem?_drop];by_cases h:k+i<xs.length;{have:=heq (k+i) qO h;rw[yG h,yG (by omega:k+i<ys.length)]at this⊢;simpa using this};rw[yI qO,yI qO]
def tu{B:Nat}(hB:0<B){xs ys:LN}(hx:∀d∈xs,d<B)(hl:xs.length=ys.length){k:Nat}(hk:k<xs.length)
  (heq:∀j,k<j->j<xs.length->xs[j]?.getD 0=ys[j]?.getD 0) (hlt:xs[k]?.getD 0<ys[k]?.getD 0):val B xs<val B ys:=by
 rw[om B xs (k+1) qO,om B ys (k+1) qO,Cm hl (k:=k+1) (fun j h1 h2=>heq j qO h2),
  dw B xs k hk,dw B ys k qO]
 simp only[List.getD]at*;have h1:val B (xs.take k)<B^k:=(by have:=ow hB (ds:=xs.take k) (fun d hd=>hx d (xM hd));rwa [xF,Ik qO]at this);have h2:B^k*(xs[k]?.getD 0+1)<=B^k*ys[k]?.getD 0:=Dx _ hlt;rw[Ag]at h2;omega
def jzh0(ds:LN)(k j d:Nat)(h:j<=k):(ds.set k d).take j=ds.take j:=by
 apply uK;intro i;simp only[xG,kZs];split;{rw[qF qO]};rfl
def lu(B:Nat)(ds:LN)(k d:Nat)(h:k<ds.length):val B ((ds.set k d).take (k+1))=val B (ds.take k)+B^k*d:=by
 rw[jzaq B _ k (by simpa using h),jzh0 ds k k d (yX _)];simp
def jzas(ds:LN)(k j d:Nat)(h:k<j):(ds.set k d).drop j=ds.drop j:=by
 apply uK;intro i;simp only[List.getElem?_drop,kZs];rw[qF qO]
def pz{B:Nat}{ds:LN}(h:∀d∈ds,d<B){k x:Nat}(hx:x<B):∀d∈ds.set k x,d<B:=fun d hd=>by
 rcases xE hd with h1|h1
 ·exact h d h1
 ·omega
def Gs(B:Nat)(ds:LN)(j d:Nat)(h:j<ds.length):val B (ds.set j d)+B^j*ds[j]?.getD 0=val B ds+B^j*d:=by
 rw[om B (ds.set j d) (j+1) (by rw[yV];omega),om B ds (j+1) qO,jzas ds j (j+1) d qO,lu B ds j d h,dw B ds j h];simp only[List.getD];omega
def AU(ds:LN)(k d:Nat)(h:k<ds.length):(ds.set k d).drop k=d::ds.drop (k+1):=by
 rw[Ju (by rw[yV];exact h),jzas ds k (k+1) d qO];simp
end Go.Proofs.YtfeeacaofjpkaaaGreatDoor.av
namespace Go.Proofs.YtfeeacaofjpkaaaGreatDoor
open Go.Proofs.Tryz
open Go.RowKit
def dh:Nat:=4294967296
def aP:dh=4294967296:=rfl
def bA:0<dh:=by decide
def oZ:dh^2=18446744073709551616:=by decide
def iU:1<dh:=by decide
def Rd(w:World)(A:OA)(xs:List Value):Prop:=
 xs≠ []->∃b o:Nat,A=some (aD b o)/\b<w.heap.size/\∀i,i<xs.length->w.cell? (aD b (o+i))=xs[i]?
def Rd.nil w A:Rd w A []:=fun h=>absurd rfl h
def Rd.at_{w}{A}{xs:List Value}(h:Rd w A xs){i:Nat}(hi:i<xs.length):
 ∃b o:Nat,A=some (aD b o)/\b<w.heap.size/\∀i,i<xs.length->w.cell? (aD b (o+i))=xs[i]?:=h (by intro e;simp[e]at hi)
def Rd.K{w w'}{A}{xs:List Value}(h:Rd w A xs)(hb:Below w.heap.size w w'):Rd w' A xs:=fun hne=>by
 obtain⟨b,o,e,qa,hc⟩:=h hne;exact⟨b,o,e,yL qa hb.size,fun i hi=>(hb.cell (p:=(aD b (o+i))) qa).trans (hc i hi)⟩
def Rd.take{w}{A}{xs:List Value}(h:Rd w A xs)(k:Nat):Rd w A (xs.take k):=fun hne=>by
 obtain⟨b,o,e,qa,hc⟩:=h (by intro e;simp[e]at hne);refine⟨b,o,e,qa,fun i hi=>?_⟩;rw[xF]at hi;rw[hc i qO,xG,qE qO]
def Rd.new(w:World)(t:TypeId)(cs:Array Value){g:Nat}{xs:List Value}(hg:g=w.heap.size)(hx:xs=cs.toList):Rd (w.alloc (.cells cs t)) (sA g) xs:=fun _=>by
 subst hg;subst hx;refine⟨w.heap.size,0,rfl,qS,fun i hi=>?_⟩;have h:(w.alloc (.cells cs t)).heap[w.heap.size]?=some (.cells cs t (0,0)):=heap_alloc_new w _;rw[CU,cell_of_row _ _ _ _ _ _ h];simp
abbrev Ext(w w':World):Prop:=Below w.heap.size w w'
def _root_.Go.Calls.r {P : Go.Program} {f : Go.FuncId} {args : Array Go.Value} {w : Go.World} {v : Go.Value} {R : Go.Ending → Go.World → Prop} (h : Go.Calls P f args w fun e w' => e = .returned v ∧ Ext w w') (k : ∀ w', Ext w w' → R (.returned v) w') : Go.Calls P f args w R := h.mono fun _ w' x => x.1 ▸ k w' x.2
def Ext.refl w:Ext w w:=Below.refl _ _
def eR:type_of% @Ext.refl:=@Ext.refl
def Ext.alloc{a w}(h:Ext a w)(o:Obj):Ext a (w.alloc o):=Below.alloc h h.size o
def Ext.drewN{a w}(h:Ext a w)(n:Nat):Ext a (w.drewN n):=⟨h.os,h.tape,h.output,h.size,h.block⟩
def Ext.tr{a b c}(h:Ext a b)(k:Ext b c):Ext a c:=h.trans (k.mono h.size)
def ak(w:World)(g:Nat)(t:TypeId)(cs:Array Value):Prop:=w.heap[g]?=some (.cells cs t (0,0))
section
variable {w w':World} {g:Nat} {t:TypeId} {cs:Array Value}
def ak.lt(h:ak w g t cs):g<w.heap.size:=by
 rcases Bc g w.heap.size with hlt|hge
 ·exact hlt
 unfold ak at h;rw[Fx hge]at h;cases h
def ak.cell(h:ak w g t cs)(i:Nat):w.cell? (aD g i)=cs[i]?:=cell_of_row w g i cs t (0,0) h
def ak.frozen(h:ak w g t cs)(i:Nat):w.frozen? (aD g i)=false:=by
 unfold ak at h;simp[World.frozen?,h]
def ak.new(w:World)(t:TypeId)(cs:Array Value):ak (w.alloc (.cells cs t)) w.heap.size t cs:=heap_alloc_new w _
def eN:type_of% @ak.new:=@ak.new
def ak.new'(w:World)(t:TypeId)(cs:Array Value)(hg:g=w.heap.size):ak (w.alloc (.cells cs t)) g t cs:=by subst hg;exact heap_alloc_new w _
def ak.drewN(h:ak w g t cs)(n:Nat):ak (w.drewN n) g t cs:=h
def ak.alloc(h:ak w g t cs)(o:Obj):ak (w.alloc o) g t cs:=(Below.heap_alloc w o g h.lt).trans h
def ak.sT(h:ak w g t cs)(i:Nat)(u:Value):ak (w.setCell (aD g i) u) g t (cs.setIfInBounds i u):=by
 unfold ak at h⊢;simp[World.setCell,Array.getElem?_modify,h]
def ak.far(h:ak w g t cs){p:Addr}(hp:g≠p.block)(u:Value):ak (w.setCell p u) g t cs:=(Below.heap_setCell w p u g hp).trans h
def ak.K(h:ak w g t cs)(hb:Ext w w'):ak w' g t cs:=(hb.block g h.lt).trans h
def ak.ne_{g':Nat}{t':TypeId}{cs':Array Value}(h:ak w g t cs)(h':ak w g' t' cs')(hne:t≠t'):g≠g':=by
 rintro rfl;unfold ak at h h';rw[h]at h';injection h' with h'
 injection h' with _ ht
 exact hne ht
end
def og(w:World)(t:TypeId)(A:OA)(xs:List Value):Prop:=
 xs≠ []->∃(b o:Nat) (cs:Array Value) (fr:Nat×Nat),A=some (aD b o)/\w.heap[b]?=some (.cells cs t fr)/\∀i,i<xs.length->cs[o+i]?=xs[i]?
section
variable {w w':World} {t:TypeId} {A:Option Addr} {xs:List Value}
def og.nil w(t:TypeId)A:og w t A []:=fun h=>absurd rfl h
def og.rd(h:og w t A xs):Rd w A xs:=fun hne=>by
 obtain⟨b,o,cs,fr,e,hb,hc⟩:=h hne;refine⟨b,o,e,?_,fun i hi=>(cell_of_row w b (o+i) cs t fr hb).trans (hc i hi)⟩;rcases Bc b w.heap.size with hlt|hge
 ·exact hlt
 ·rw[Fx hge]at hb;cases hb
def og.K(h:og w t A xs)(hb:Ext w w'):og w' t A xs:=fun hne=>by
 obtain⟨b,o,cs,fr,e,h1,hc⟩:=h hne;obtain⟨b',o',e',qa,_⟩:=h.rd hne;have:b'=b:=(by rw[e]at e';injection e' with e';injection e' with e1;exact e1.symm);subst this;exact⟨b',o,cs,fr,e,(hb.block b' qa).trans h1,hc⟩
def og.take(h:og w t A xs)(k:Nat):og w t A (xs.take k):=fun hne=>by
 obtain⟨b,o,cs,fr,e,hb,hc⟩:=h (by intro e;simp[e]at hne);refine⟨b,o,cs,fr,e,hb,fun i hi=>?_⟩;rw[xF]at hi;rw[hc i qO,xG,qE qO]
def og.sT(h:og w t A xs){p:Addr}{t':TypeId}{cs':Array Value}(hp:ak w p.block t' cs')(hne:t≠t')(u:Value):og (w.setCell p u) t A xs:=fun hx=>by
 obtain⟨b,o,cs,fr,e,hb,hc⟩:=h hx;refine⟨b,o,cs,fr,e,(Below.heap_setCell w p u b ?_).trans hb,hc⟩;rintro rfl;unfold ak at hp;rw[hb]at hp;injection hp with hp
 injection hp with _ ht
 exact hne ht
def og.new{g:Nat}{cs:Array Value}(w:World)(t:TypeId)(hg:g=w.heap.size)(hx:xs=cs.toList):og (w.alloc (.cells cs t)) t (sA g) xs:=fun _=>by
 subst hg;subst hx;exact⟨w.heap.size,0,cs,(0,0),rfl,heap_alloc_new w _,fun i hi=>qS⟩
def og.BM{g:Nat}{cs:Array Value}(h:ak w g t cs)(hx:xs=cs.toList):og w t (sA g) xs:=fun _=>by
 subst hx;exact⟨g,0,cs,(0,0),rfl,h,fun i hi=>qS⟩
end
def cZ(ds:LN):List Value:=ds.map fun d:Nat=>Value.int .u32 (d:Int)
def jzat(ds:LN):(cZ ds).length=ds.length:=by simp[cZ]
def jzau(ds:LN)(i:Nat)(h:i<ds.length):(cZ ds)[i]?=some (.int .u32 ((ds[i]?.getD 0:Nat):Int)):=by
 simp[cZ,h]
def jzav(ds:LN)(k:Nat):cZ (ds.take k)=(cZ ds).take k:=by simp[cZ]
def Rd.u32{w}{A}{ds:LN}(h:Rd w A (cZ ds)){k:Nat}(hk:k<ds.length):
  ∃b o:Nat,A=some (aD b o)/\b<w.heap.size/\∀i,i<ds.length->w.cell? (aD b (o+i))=some (.int .u32 ((ds[i]?.getD 0:Nat):Int)):=by
 obtain⟨b,o,e,qa,hc⟩:=h.at_ (i:=k) (by rw[jzat];exact hk);exact⟨b,o,e,qa,fun i hi=>(hc i (by rw[jzat];exact hi)).trans (jzau ds i hi)⟩
def Row(w:World)(g:Nat)(ds:LN):Prop:=ak w g 196 (cZ ds).toArray
section
variable {w w':World} {g:Nat} {ds:List Nat}
def Row.lt(h:Row w g ds):g<w.heap.size:=ak.lt h
def Row.cell(h:Row w g ds){i:Nat}(hi:i<ds.length):w.cell? (aD g i)=some (.int .u32 ((ds[i]?.getD 0:Nat):Int)):=by
 rw[ak.cell h i,xI,jzau ds i hi]
def Row.frozen(h:Row w g ds)(i:Nat):w.frozen? (aD g i)=false:=ak.frozen h i
def Row.K(h:Row w g ds)(hb:Ext w w'):Row w' g ds:=ak.K h hb
def Row.alloc(h:Row w g ds)(o:Obj):Row (w.alloc o) g ds:=ak.alloc h o
def Row.drewN(h:Row w g ds)(n:Nat):Row (w.drewN n) g ds:=h
def Row.far(h:Row w g ds){p:Addr}(hp:g≠p.block)(u:Value):Row (w.setCell p u) g ds:=ak.far h hp u
def Row.sT(h:Row w g ds)(i d:Nat):Row (w.setCell (aD g i) (.int .u32 (d:Int))) g (ds.set i d):=by
 have:=ak.sT h i (.int .u32 (d:Int));unfold Row;rw[show(cZ (ds.set i d)).toArray=(cZ ds).toArray.setIfInBounds i (.int .u32 (d:Int))from by simp[cZ,List.map_set]];exact this
def Row.made(w:World)(n:Nat)(hg:g=w.heap.size):Row (w.alloc (.cells (madeCells #[.int .u32 0] n) 196)) g (List.replicate n 0):=by
 unfold Row;have e:(cZ (List.replicate n 0)).toArray=madeCells #[.int .u32 0] n:=(by apply Array.toList_inj.1;rw[toList_madeCells_one];simp[cZ]);rw[e];exact ak.new' w _ _ hg
def Row.Bz(h:Row w g ds):og w 196 (sA g) (cZ ds):=og.BM h qS
end
def aE(w:World)(A:OA)(n c:Nat)(N:Nat):Prop:=
 ∃ds:LN,ds.length=n/\n<=c/\av.Canon dh ds/\av.val dh ds=N/\og w 196 A (cZ ds)
def aE.K{w w'}{A}{n c N:Nat}(h:aE w A n c N)(hb:Ext w w'):aE w' A n c N:=by
 obtain⟨ds,h1,h2,h3,h4,h5⟩:=h;exact⟨ds,h1,h2,h3,h4,h5.K hb⟩
def aE.sT{w}{A}{n c N:Nat}(h:aE w A n c N){p:Addr}{t':TypeId}{cs':Array Value}(hp:ak w p.block t' cs')(hne:196≠t')(u:Value):aE (w.setCell p u) A n c N:=by
 obtain⟨ds,h1,h2,h3,h4,h5⟩:=h;exact⟨ds,h1,h2,h3,h4,h5.sT hp hne u⟩
def aE.zero w A(c:Nat):aE w A 0 c 0:=⟨[],rfl,yZ _,av.Canon.nil _,rfl,og.nil _ _ _⟩
def aE.iw{w}{A}{n c N:Nat}(h:aE w A n c N):n=0↔N=0:=by
 obtain⟨ds,rfl,_,h3,rfl,_⟩:=h;constructor;{intro h;rw[FJ.1 h];rfl};intro h;rw[h3.val_zero bA h];rfl
def aE.Dt{w}{A}{ds:LN}{k c:Nat}(hr:og w 196 A (cZ ds))(hk:k<=ds.length)(hz:∀j,k<=j->j<ds.length->ds[j]?.getD 0=0)
  (ht:0<k->ds[k-1]?.getD 0≠0) (hlt:∀d∈ds,d<dh) (hkc:k<=c):aE w A k c (av.val dh ds):=by
 refine⟨ds.take k,by rw[xF];omega,hkc,⟨fun d hd=>hlt d (xM hd),?_⟩,?_,by rw[jzav];exact hr.take k⟩;{intro h;by_cases h0:k=0;{subst h0;simp at h};rw[List.getLast?_eq_getElem?,xF,Ik hk,xG,qE qO]at h;exact ht qO (by rw[h];rfl)};rw[<-av.BK, <-av.BK dh ds,av.CW ds k hk (fun j h1 h2=>hz j h1 h2)]
def bY{ds:LN}(h:∀d∈ds,d<dh)(i:Nat):ds[i]?.getD 0<dh:=by
 by_cases hi:i<ds.length;{rw[yG hi];exact h _ (xR hi)};rw[yI qO];exact bA
def jzh1{ds:LN}(hz:∀j,0<=j->j<ds.length->ds[j]?.getD 0=0):av.val dh ds=0:=by
 rw[<-av.BK,av.CW ds 0 (yZ _) (fun j h1 h2=>hz j h1 h2)];rfl
def pA{W w1}(hb:Ext W w1):(∀b o,b<W.heap.size->w1.cell? (aD b o)=W.cell? (aD b o))/\(∀b o,b<W.heap.size->w1.frozen? (aD b o)=W.frozen? (aD b o)):=
 ⟨fun b o h=>hb.cell (p:=(aD b o)) h,fun b o h=>hb.frozen (p:=(aD b o)) h⟩
def kH(w:World)(N:Nat)(e:Ending)(w':World):Prop:=
 ∃(A:OA) (n c:Nat),e=.returned (.agg #[.s A n c])/\aE w' A n c N/\Ext w w'
def pB(X:Nat)(h:X<4294967296):X.testBit 31=decide (2147483648<=X):=by
 rw[Nat.testBit_eq_decide_div_mod_eq];simp only[Nat.reducePow];rw[decide_eq_decide];omega
def jzh2(X:Nat)(h:X<4294967296):X/2147483648=if X.testBit 31 then 1 else 0:=by
 rw[pB X h];simp only[decide_eq_true_eq];split <;> omega
def jzh3(x y d:Nat)(hx:x<4294967296)(hy:y<4294967296)(hd:d<4294967296):
  (((4294967295^^^x)&&&y)|||((4294967295^^^(x^^^y))&&&d))/2147483648=if(x<2147483648/\2147483648<=y)\/(decide (2147483648<=x)=decide (2147483648<=y)/\2147483648<=d)then 1 else 0:=by
 have hb:(((4294967295^^^x)&&&y)|||((4294967295^^^(x^^^y))&&&d))<2^32:=
  Nat.or_lt_two_pow (Nat.and_lt_two_pow _ qO) (Nat.and_lt_two_pow _ qO)
 rw[jzh2 _ qO];have h1:(4294967295:Nat).testBit 31=true:=qD;simp only[Nat.testBit_or,Nat.testBit_and,Nat.testBit_xor,h1,pB x hx,pB y hy,pB d hd];by_cases a:2147483648<=x <;> by_cases b:2147483648<=y <;> by_cases c:2147483648<=d <;> simp[a,b,c,Nat.not_lt.2,Nat.lt_of_not_le]
def jzh4(x y c:Int)(hx:0<=x)(hx':x<4294967296)(hy:0<=y)(hy':y<4294967296)(hc:0<=c)(hc':c<=1):
  bits BinOp.or IntKind.u32 (bits BinOp.and IntKind.u32 (bits BinOp.xor IntKind.u32 IntKind.u32.max x) y)
   (bits BinOp.and IntKind.u32 (bits BinOp.xor IntKind.u32 IntKind.u32.max (bits BinOp.xor IntKind.u32 x y)) ((x-y-c)%4294967296))/2147483648= -((x-y-c)/4294967296):=by
 obtain⟨X,rfl⟩:=Il hx;obtain⟨Y,rfl⟩:=Il hy;obtain⟨D,hD⟩:=Il (show 0<=((X:Int)-Y-c)%4294967296 by omega);have hM:IntKind.u32.max=((4294967295:Nat):Int):=qD;have qe:X<4294967296:=qO;have qf:Y<4294967296:=qO;have qg:D<4294967296:=qO;rw[hD,hM,u32_xor_nat _ _ qO qe,u32_xor_nat _ _ qe qf,u32_and_nat _ _ (Nat.xor_lt_two_pow (n:=32) qO qO) qf,
  u32_xor_nat _ _ qO (Nat.xor_lt_two_pow (n:=32) qO qO),u32_and_nat _ _ (Nat.xor_lt_two_pow (n:=32) qO (Nat.xor_lt_two_pow qO qO)) qg,
  u32_or_nat _ _ (Nat.and_lt_two_pow (n:=32) _ qO) (Nat.and_lt_two_pow (n:=32) _ qO)]
 rw[show(2147483648:Int)=((2147483648:Nat):Int)from rfl, <-Int.natCast_ediv,jzh3 X Y D qe qf qg];have qa:((X<2147483648/\2147483648<=Y)\/(decide (2147483648<=X)=decide (2147483648<=Y)/\2147483648<=D))↔(X:Int)-Y-c<0:=(by by_cases a:2147483648<=X <;> by_cases b:2147483648<=Y <;> by_cases e:2147483648<=D <;> simp[a,b,e] <;> omega);by_cases hn:(X:Int)-Y-c<0;{rw[qE (qa.2 hn)];omega};rw[qF (fun h=>hn (qa.1 h))];omega
def mZ(h l:Int)(hx:0<=h)(hx':h<4294967296)(hy:0<=l)(hy':l<4294967296):bits BinOp.or IntKind.u64 (h*4294967296) l=h*4294967296+l:=by
 obtain⟨H,rfl⟩:=Il hx;obtain⟨L,rfl⟩:=Il hy;have e:(H:Int)*4294967296=((4294967296*H:Nat):Int):=qO;have qa:4294967296*H|||L=4294967296*H+L:=(Nat.two_pow_add_eq_or_of_lt (i:=32) (b:=L) qO H).symm;rw[e,u64_or_nat _ _ qO qO,qa];omega
def nA(x y c:Int)w(hx:0<=x)(hx':x<4294967296)(hy:0<=y)(hy':y<4294967296)(hc:0<=c)(hc':c<=1):
  Calls prog 170 #[.int .u32 x,.int .u32 y,.int .u32 c] w fun e w'=>e=.returned (.tuple #[.int .u32 ((x+y+c)%4294967296),.int .u32 ((x+y+c)/4294967296)])/\w=w':=by
 go_enter func170,ntmps170;go_wp2;(go_ret2);exact⟨rfl,rfl⟩
def pC(x y c:Int)w(hx:0<=x)(hx':x<4294967296)(hy:0<=y)(hy':y<4294967296)(hc:0<=c)(hc':c<=1):
  Calls prog 171 #[.int .u32 x,.int .u32 y,.int .u32 c] w fun e w'=>e=.returned (.tuple #[.int .u32 ((x-y-c)%4294967296),.int .u32 (-((x-y-c)/4294967296))])/\w=w':=by
 have HB:=Hx (jzh4 x y c hx hx' hy hy' hc hc');go_enter func171,ntmps171;go_wp2;(go_ret2);refine⟨?_,rfl⟩;rw[<-HB.o];rfl
def jzh5(h l y:Int)w(hx:0<=h)(hx':h<y)(hy:0<=l)(hy':l<4294967296)(hc:0<y)(hc':y<4294967296):
  Calls prog 178 #[.int .u32 h,.int .u32 l,.int .u32 y] w fun e w'=>e=.returned (.tuple #[.int .u32 ((h*4294967296+l)/y),.int .u32 ((h*4294967296+l)%y)])/\∃k,w'=w.drewN k:=by
 (have qh:=mZ h l hx qO hy hy';have qa:0<=h*4294967296+l:=qO;have qk:h*4294967296+l<18446744073709551616:=qO;have qe:h*4294967296+l<y*4294967296:=qO;have qg:(y !=0)=true:=bne_iff_ne.2 qO;have qf:decide (y<=h)=false:=by simp;omega);go_enter func178,ntmps178;go_wp2;clear qh qg qf;generalize hZ:h*4294967296+l=Z at*;have HZ:=Hx hZ;clear hZ;have qm:0<=Z/y:=Int.ediv_nonneg qa qO;have qi:Z/y<4294967296:=Int.ediv_lt_of_lt_mul hc (by rw[Int.mul_comm];exact qe);have qj:0<=Z%y:=Int.emod_nonneg _ qO;have qn:Z%y<y:=Int.emod_lt_of_pos _ hc;have ht:Z.tdiv y=Z/y:=Int.tdiv_eq_ediv_of_nonneg qa;have hm:Z.tmod y=Z%y:=Int.tmod_eq_emod_of_nonneg qa;go_quiet (fail);go_wp2;(go_ret2);refine⟨?_,_,rfl⟩;rw[HZ.o];rfl
def kI A(n c:Nat)(ds:LN)w(hl:ds.length=n)(hc:n<=c)(hn:n<=1099511627776)(hlt:∀d∈ds,d<dh)(hr:og w 196 A (cZ ds)):
  Calls prog 161 #[.s A n c] w (kH w (av.val dh ds)):=by
 subst hl;go_enter func161,ntmps161;go_wp2;(go_loop [3] (fun t=>∃k:Nat,k<=ds.length/\t=vI k/\∀j,k<=j->j<ds.length->ds[j]?.getD 0=0) (fun t=>(intOf t).toNat));exact⟨ds.length,yX _,rfl,fun j h1 h2=>qO⟩;obtain⟨k,hk,rfl,hz⟩:=hrel;have HZ:=Hx hz;clear hz;by_cases h0:k=0;{subst h0;go_wp2;refine bodyPost_ret (v:=.agg #[zN]) (by simp[results,results161,go_sem]) rfl ⟨_,_,_,rfl,?_,(eR _).alloc _⟩;rw[jzh1 HZ.o];exact aE.zero _ _ _};obtain⟨b,o,rfl,hb,qa⟩:=hr.rd.u32 (k:=k-1) qO;have qe:=qa (k-1) qO;clear qa;obtain⟨d,hd⟩:∃d,d=ds[k-1]?.getD 0:=⟨_,rfl⟩;rw[<-hd]at qe;have HD:=Hx hd;clear hd;by_cases hd:d=0
 ·subst hd;go_wp2;go_round
  case rel=>
   exact⟨k-1,qO,by go_num,fun j h1 h2=>by
   by_cases e:j=k-1;{subst e;exact HD.o.symm}
   exact HZ.o j qO h2⟩
  simp[intOf];omega
 have qg:((d:Int)==0)=false:=yK.2 qO;have qf:((k:Int)==0)=false:=yK.2 qO;go_wp2;refine bodyPost_ret (v:=.agg #[.s (some (aD b o)) k k]) (by simp[results,results161,go_sem]) rfl ⟨_,_,_,rfl,?_,(eR _).alloc _⟩;exact(aE.Dt hr hk HZ.o (fun _=>by rw[<-HD.o];exact hd) hlt (yX _)).K ((eR _).alloc _)
def lB(x:Int)w(h0:0<=x)(h1:x<18446744073709551616):
  Calls prog 117 #[.int .u64 x] w (kH w x.toNat):=by
 obtain⟨X,rfl⟩:=Il h0;go_enter func117,ntmps117;go_wp2_with fail;refine(kI (sA (w.heap.size+1)) 2 2 [X%4294967296,X/4294967296] _ rfl (yX _) qO (by rw[aP];simp;omega) (og.new _ _ qS (by simp[cZ]))).mono ?_;rintro e w1 ⟨A,n,c,rfl,hR,hx⟩;have qa:aE w1 A n c X:=(by (have e:av.val dh [X%4294967296,X/4294967296]=X:=by simp only[av.val,aP];omega);rwa [e]at hR);have H:=Hx qa;clear hR qa;have HB:=Hx (((eN w 31 #[zN]).alloc _).K hx);obtain⟨hc,hf⟩:=pA hx;go_wp2;refine bodyPost_ret (v:=.agg #[.s A n c]) (by simp[results,results117,go_sem,(HB.o.sT 0 _).cell]) rfl ⟨_,_,_,rfl,H.o.sT HB.o qD _,?_⟩;exact((((eR _).alloc _).alloc _).trans (hx.mono (by simp;omega))).setCell qS _
def bL A(n c:Nat)w:
  Calls prog 58 #[.agg #[.s A n c]] w fun e w'=>e=.returned (.bool ((n:Int)==0))/\Ext w w':=by
 go_enter func58,ntmps58;go_wp2;go_ret;exact⟨rfl,(eR _).alloc _⟩
def val2(ds:LN)(h:ds.length=2):av.val dh ds=ds[1]?.getD 0*4294967296+ds[0]?.getD 0:=by
 match ds,h with
 | [a,b],_=>simp only[av.val,aP];simp;omega
def kJ A(n c N:Nat)w(h:aE w A n c N)(hN:N<18446744073709551616):
  Calls prog 172 #[.agg #[.s A n c]] w fun e w'=>e=.returned (.tuple #[.int .u64 (N:Int),.bool true])/\Ext w w':=by
 (obtain⟨ds,rfl,hc,qe,rfl,hr⟩:=h;have qh:ds.length<=2:=qe.wm iU (by rw[oZ];omega);have qf:ds.length=0\/ds.length=1\/ds.length=2:=qO;clear qh hN;rcases qf with h|h|h);{(have hv:av.val dh ds=0:=by rw[FJ.1 h];rfl);rw[hv,h];clear hv h qe hr hc;go_enter func172,ntmps172;go_wp2;(go_ret2);exact⟨rfl,(eR _).alloc _⟩};{have hv:av.val dh ds=ds[0]?.getD 0:=(by (match ds,h with| [a],_=>simp[av.val]));obtain⟨b,o,rfl,hb,qa⟩:=hr.rd.u32 (k:=0) qO;have h0:=qa 0 qO;rw[Ef]at h0;have qg:=bY qe.lt 0;rw[aP]at qg;rw[hv,h];clear hv h qe hr hc qa;generalize ds[0]?.getD 0=d at*;go_enter func172,ntmps172;go_wp2;(go_ret2);exact⟨rfl,(eR _).alloc _⟩};have hv:=val2 ds h;obtain⟨b,o,rfl,hb,qa⟩:=hr.rd.u32 (k:=0) qO;have h0:=qa 0 qO;rw[Ef]at h0;have h1:=qa 1 qO;have qg:=bY qe.lt 0;have qi:=bY qe.lt 1;rw[aP]at qg qi;rw[hv,h];clear hv h qe hr hc qa;generalize ds[0]?.getD 0=d at*;generalize ds[1]?.getD 0=f at*;have qj:=mZ f d qO qO qO qO;go_enter func172,ntmps172;go_wp2;go_quiet (fail);go_wp2;(go_ret2);have e:((f*4294967296+d:Nat):Int)=(f:Int)*4294967296+(d:Int):=qO;rw[e];exact⟨rfl,((eR _).alloc _).drewN _⟩
def nB A(n c N:Nat)w(h:aE w A n c N)(hN:18446744073709551616<=N):
  Calls prog 172 #[.agg #[.s A n c]] w fun e w'=>e=.returned (.tuple #[.int .u64 0,bF])/\Ext w w':=by
 obtain⟨ds,rfl,hc,qa,rfl,hr⟩:=h;have qe:3<=ds.length:=(by (have h1:=av.ow bA qa.lt;rcases Bc ds.length 3 with h|h);{have:dh^ds.length<=dh^2:=DU bA qO;rw[oZ]at this;omega};exact h);have b0:((ds.length:Int)==0)=false:=yK.2 qO;have b1:((ds.length:Int)==1)=false:=yK.2 qO;have b2:((ds.length:Int)==2)=false:=yK.2 qO;clear hN qa hr hc;go_enter func172,ntmps172;go_wp2;(go_ret2);exact⟨rfl,(eR _).alloc _⟩
def aI(a b:Nat):Int:=if a<b then-1 else if a=b then 0 else 1
def jzh6(a b:Nat): -1<=aI a b/\aI a b<=1:=by unfold aI;split <;> (try split) <;> omega
def lC A1 A2(n1 c1 n2 c2 a b:Nat)w(h1:aE w A1 n1 c1 a)(h2:aE w A2 n2 c2 b)(hn:n1<=1099511627776):
  Calls prog 61 #[.agg #[.s A1 n1 c1],.agg #[.s A2 n2 c2]] w fun e w'=>e=.returned (vI (aI a b))/\Ext w w':=by
 obtain⟨xs,rfl,qH,qi,rfl,qo⟩:=h1;obtain⟨ys,rfl,qz,qj,rfl,qn⟩:=h2;by_cases hl:xs.length=ys.length
 ·(have qy:((xs.length:Int) !=(ys.length:Int))=false:=by simp[hl]);have HL:=Hx hl;clear hl;go_enter func61,ntmps61;go_wp2;go_quiet (fail);go_wp2;(go_loopw [7] (fun t wr=>∃(k m:Nat),k<=xs.length/\t=vI (k-1)/\wr=((w.alloc (.cells #[.s A1 xs.length c1] 31)).alloc (.cells #[.s A2 ys.length c2] 31)).drewN m/\∀j,k<=j->j<xs.length->xs[j]?.getD 0=ys[j]?.getD 0) (fun t _=>(intOf t+1).toNat));exact⟨xs.length,_,yX _,rfl,rfl,fun j h1 h2=>qO⟩;obtain⟨k,m,hk,rfl,rfl,hz⟩:=hrel;have HZ:=Hx hz;clear hz;by_cases h0:k=0;{subst h0;have qa:aI (av.val dh xs) (av.val dh ys)=0:=(by have e:xs=ys:=(by have:=av.Cm HL.o HZ.o;simpa using this);unfold aI;rw[e];simp);have HF:=Hx qa;clear qa;go_wp2;go_ret;rw[HF.o];exact⟨rfl,by repeat (first|exact eR _|refine Ext.drewN ?_ _|refine Ext.alloc ?_ _)⟩};(have qt:=HL.o;obtain⟨b1,o1,rfl,qC,qf⟩:=qo.rd.u32 (k:=k-1) qO;obtain⟨b2,o2,rfl,qA,qe⟩:=qn.rd.u32 (k:=k-1) qO;have qx:=qf (k-1) qO;have qw:=qe (k-1) qO;clear qf qe qo qn;obtain⟨d1,qk⟩:∃d,d=xs[k-1]?.getD 0:=⟨_,rfl⟩;obtain⟨d2,qg⟩:∃d,d=ys[k-1]?.getD 0:=⟨_,rfl⟩;rw[<-qk]at qx;rw[<-qg]at qw;have qm:=Hx qk;have qh:=Hx qg;have i0:(0:Int)<=(k:Int)-1:=qO;have i1:(k:Int)-1<(xs.length:Int):=qO;have i2:(k:Int)-1<(ys.length:Int):=qO;have i3:((k:Int)-1).toNat=k-1:=qO;clear qk qg qt;rcases Nat.lt_trichotomy d1 d2 with hd|hd|hd);{(have hb:decide (d1<d2)=true:=by simpa using hd);have qa:aI (av.val dh xs) (av.val dh ys)= -1:=(by unfold aI;rw[qE (av.tu bA qi.lt HL.o (k:=k-1) qO (fun j h1 h2=>HZ.o j qO h2) (by rw[<-qm.o, <-qh.o];exact hd))]);have HF:=Hx qa;clear qa;go_wp2;go_quiet (fail);go_wp2;go_ret;rw[HF.o];exact⟨rfl,by repeat (first|exact eR _|refine Ext.drewN ?_ _|refine Ext.alloc ?_ _)⟩}
  ·subst hd;go_wp2;go_quiet (fail);go_wp2;go_quiet (fail);go_wp2;go_roundw
   case rel=>
    exact⟨k-1,_,qO,by go_num,rfl,fun j h1 h2=>by
    by_cases e:j=k-1;{subst e;rw[<-qm.o, <-qh.o]}
    exact HZ.o j qO h2⟩
   simp[intOf];omega
  have hb:decide (d1<d2)=false:=(by simp;omega);have qB:decide (d2<d1)=true:=(by simpa using hd);have qa:aI (av.val dh xs) (av.val dh ys)=1:=(by have:=av.tu bA qj.lt HL.o.symm (k:=k-1) (by have:=HL.o;omega) (fun j h1 h2=>(HZ.o j qO (by have:=HL.o;omega)).symm) (by rw[<-qm.o, <-qh.o];exact hd);unfold aI;rw[qF qO,qF qO]);have HF:=Hx qa;clear qa;go_wp2;go_quiet (fail);go_wp2;go_quiet (fail);go_wp2;go_ret;rw[HF.o];exact⟨rfl,by repeat (first|exact eR _|refine Ext.drewN ?_ _|refine Ext.alloc ?_ _)⟩
 have qy:((xs.length:Int) !=(ys.length:Int))=true:=(by simp;omega);have qp:(decide (xs.length<ys.length)=true/\aI (av.val dh xs) (av.val dh ys)= -1)\/(decide (xs.length<ys.length)=false/\aI (av.val dh xs) (av.val dh ys)=1):=(by (rcases Nat.lt_or_gt_of_ne hl with h|h);{have:=qi.Bp iU qj h;exact .inl ⟨by simp;omega,by unfold aI;rw[qE this]⟩};have:=qj.Bp iU qi h;exact .inr ⟨by simp;omega,by unfold aI;rw[qF qO,qF qO]⟩);clear hl;rcases qp with⟨hd,hv⟩|⟨hd,hv⟩
 all_goals
  have HV:=Hx hv;clear hv
  go_enter func61,ntmps61
  go_wp2
  go_quiet (fail)
  go_wp2;go_ret;rw[HV.o];exact⟨rfl,by repeat (first|exact eR _|refine Ext.drewN ?_ _|refine Ext.alloc ?_ _)⟩
def Tryz.AJ:(prog.info? 196).map (fun i=>(i.zero,i.size,i.bytes))=some (some (.int .u32 0),1,4):=by kernel_rfl
def pD{B k x y cr:Nat}{xs ys ds:LN}(hx:k<xs.length)(hd:k<ds.length)(ex:x=xs[k]?.getD 0)(ey:y=ys[k]?.getD 0)
  (h:av.val B (ds.take k)+B^k*cr=av.val B (xs.take k)+av.val B (ys.take k)):
  av.val B ((ds.set k ((x+y+cr)%B)).take (k+1))+B^(k+1)*((x+y+cr)/B)=av.val B (xs.take (k+1))+av.val B (ys.take (k+1)):=by
 have hy:av.val B (ys.take (k+1))=av.val B (ys.take k)+B^k*y:=(by subst ey;by_cases h:k<ys.length;{exact av.dw B ys k h};rw[yU qO,yU qO,yI qO];simp);rw[av.lu B ds k _ hd,hy,av.dw B xs k hx];have e:B^k*((x+y+cr)%B)+B^(k+1)*((x+y+cr)/B)=B^k*(x+y+cr):=(by rw[vD,Cb, <-Ag,Nat.mod_add_div]);simp only[List.getD];rw[<-ex];have e2:B^k*(x+y+cr)=B^k*x+B^k*y+B^k*cr:=(by rw[Ag,Ag]);omega
def jzh7 A1 A2(n1 c1 n2 c2 a b:Nat)w(h1:aE w A1 n1 c1 a)(h2:aE w A2 n2 c2 b)(hn1:n1<=1073741824)(hn2:n2<=1073741824):
  Calls prog 122 #[.agg #[.s A1 n1 c1],.agg #[.s A2 n2 c2]] w (kH w (a+b)):=by
 obtain⟨xs,rfl,q8,qZ,rfl,q0⟩:=h1;obtain⟨ys,rfl,q7,q1,rfl,qY⟩:=h2;by_cases hl:xs.length<ys.length
 ·(have q6:decide (xs.length<ys.length)=true:=by simpa using hl);have qW:xs.length<=ys.length:=qO;have qH:=run_make_row' (P:=prog) 29 196 (.int .u32 0) 4 underlying29 Tryz.AJ rfl .i64 .i64 (ys.length+1) qO qO;rw[Jo,Int.natCast_one]at qH;clear hl;go_enter func122,ntmps122;go_wp2;clear qH
  go_loopw [6,27] (fun cy i wr=>∃(k cr:Nat) (ds:LN),k<=ys.length/\i=vI k/\cy=.int .u32 cr/\cr<=1/\ds.length=ys.length+1/\(∀d∈ds,d<dh)/\
    av.val dh (ds.take k)+dh^k*cr=av.val dh (ys.take k)+av.val dh (xs.take k)/\
    Row wr (w.heap.size+3) ds/\ak wr w.heap.size 31 #[.s A2 ys.length c2]/\ak wr (w.heap.size+1) 31 #[.s A1 xs.length c1]/\ak wr (w.heap.size+2) 31 #[zN]/\Ext w wr)
   (fun _ i _=>ys.length-(intOf i).toNat)
  (case atStart=>refine⟨0,0,List.replicate (ys.length+1) 0,yZ _,rfl,rfl,yZ _,qS,fun d hd=>?_,by simp[av.val],Row.made _ _ qS,?_,?_,?_,?_⟩;{have:=uF hd;subst this;exact bA};{exact((((eN w _ _).alloc _).alloc _).alloc _)};{exact((ak.new' (w.alloc _) _ _ qS).alloc _).alloc _};{exact(ak.new' ((w.alloc _).alloc _) _ _ qS).alloc _};exact(((eR _).alloc _).alloc _).alloc _ |>.alloc _);obtain⟨k,cr,ds,hk,rfl,rfl,q5,qI,qk,qm,qa,qt,qn,qw,hx⟩:=hrel;have HV:=Hx qm;have qg:=Hx qI;clear qm qI;have ca:=qt.cell 0;have cb:=qn.cell 0;simp only[xI,EP]at ca cb;by_cases qp:k<ys.length
  ·obtain⟨b1,o1,rfl,qX,qf⟩:=qY.rd.u32 (k:=k) qp;have q4:wr.cell? (aD b1 (o1+k))=_:=(hx.cell (p:=(aD b1 (o1+k))) qX).trans (qf k qp);have qz:=qa.cell (i:=k) (by have:=qg.o;omega);have qB:=qa.frozen k;have qJ:=bY q1.lt k;rw[aP]at qJ;generalize hxe:ys[k]?.getD 0=x at*;generalize ds[k]?.getD 0=dk at*;have HX:=Hx hxe;clear hxe qf;have j1:(k:Int)<(ys.length:Int)+1:=qO;by_cases qy:k<xs.length
   ·obtain⟨b2,o2,rfl,qV,qe⟩:=q0.rd.u32 (k:=k) qy;have q3:wr.cell? (aD b2 (o2+k))=_:=(hx.cell (p:=(aD b2 (o2+k))) qV).trans (qe k qy);have qM:=bY qZ.lt k;rw[aP]at qM;generalize qo:xs[k]?.getD 0=y at*;have HY:=Hx qo;clear qo qe;(go_wp2_with (go_at_call 170;refine(nA _ _ _ _ qO qO qO qO qO qO).mono ?_;rintro e w' ⟨rfl,rfl⟩));(have qi:((x:Int)+y+cr)/4294967296=(((x+y+cr)/dh:Nat):Int):=(by rw[aP];omega);have qj:((x:Int)+y+cr)%4294967296=(((x+y+cr)%dh:Nat):Int):=by rw[aP];omega);go_roundw
    case rel=>
     rw[qj];exact⟨k+1,(x+y+cr)/dh,ds.set k ((x+y+cr)%dh),qO,by go_num,by rw[qi],by rw[aP];omega,by rw[yV];exact qg.o,av.pz qk (xT _ bA),
      pD qp (by have:=qg.o;omega) HX.o.symm HY.o.symm HV.o,qa.sT _ _,qt.far qL _,qn.far qL _,qw.far qL _,Below.setCell hx qL _⟩
    simp[intOf];omega
   (go_wp2_with (go_at_call 170;refine(nA _ _ _ _ qO qO qO qO qO qO).mono ?_;rintro e w' ⟨rfl,rfl⟩));(have qo:0=xs[k]?.getD 0:=(by rw[yI qO];rfl);have qi:((x:Int)+cr)/4294967296=(((x+0+cr)/dh:Nat):Int):=(by rw[aP];omega);have qj:((x:Int)+cr)%4294967296=(((x+0+cr)%dh:Nat):Int):=by rw[aP];omega);go_roundw
   case rel=>
    rw[qj];exact⟨k+1,(x+0+cr)/dh,ds.set k ((x+0+cr)%dh),qO,by go_num,by rw[qi],by rw[aP];omega,by rw[yV];exact qg.o,av.pz qk (xT _ bA),
     pD qp (by have:=qg.o;omega) HX.o.symm qo HV.o,qa.sT _ _,qt.far qL _,qn.far qL _,qw.far qL _,Below.setCell hx qL _⟩
   simp[intOf];omega
  (have qU:k=ys.length:=qO;subst qU;have qz:=qa.cell (i:=ys.length) (by have:=qg.o;omega);have qB:=qa.frozen ys.length;generalize ds[ys.length]?.getD 0=dk at*;have j1:(ys.length:Int)<(ys.length:Int)+1:=by omega);go_wp2_with fail;have qh:=qa.sT ys.length cr;have qC:Ext w (wr.setCell (aD (w.heap.size+3) ys.length) (.int .u32 cr)):=Below.setCell hx qL _;refine(kI (sA (w.heap.size+3)) (ys.length+1) (ys.length+1) (ds.set ys.length cr) _ (by rw[yV];exact qg.o) (yX _) qO (av.pz qk (by rw[aP];omega)) qh.Bz).mono ?_;rintro e w1 ⟨A,n,c,rfl,hR,qx⟩;have qA:aE w1 A n c (av.val dh xs+av.val dh ys):=(by have e1:=av.lu dh ds ys.length cr (by have:=qg.o;omega);rw[yU (by rw[yV];have:=qg.o;omega)]at e1;have e2:=HV.o;rw[yU (yX _),yU qW]at e2;have e3:av.val dh xs+av.val dh ys=av.val dh (ds.set ys.length cr):=qO;rw[e3];exact hR);have H:=Hx qA;have HB:=Hx ((qw.far (p:=(aD (w.heap.size+3) ys.length)) qL (.int .u32 cr)).K qx);have qT:=HB.o.cell 0;have q2:=HB.o.frozen 0;simp only[xI,EP]at qT;have qQ:=Hx (qC.tr qx);clear hR qA qx qC qh qa qt qn qw hx ca cb qz qB;go_wp2;refine bodyPost_ret (v:=.agg #[.s A n c]) (by simp[results,results122,go_sem,(HB.o.sT 0 _).cell]) rfl ⟨_,_,_,rfl,H.o.sT HB.o qD _,Below.setCell qQ.o qL _⟩
 have q6:decide (xs.length<ys.length)=false:=(by simp;omega);have qW:ys.length<=xs.length:=qO;have qH:=run_make_row' (P:=prog) 29 196 (.int .u32 0) 4 underlying29 Tryz.AJ rfl .i64 .i64 (xs.length+1) qO qO;rw[Jo,Int.natCast_one]at qH;clear hl;go_enter func122,ntmps122;go_wp2;clear qH
 go_loopw [6,27] (fun cy i wr=>∃(k cr:Nat) (ds:LN),k<=xs.length/\i=vI k/\cy=.int .u32 cr/\cr<=1/\ds.length=xs.length+1/\(∀d∈ds,d<dh)/\
   av.val dh (ds.take k)+dh^k*cr=av.val dh (xs.take k)+av.val dh (ys.take k)/\
   Row wr (w.heap.size+3) ds/\ak wr w.heap.size 31 #[.s A1 xs.length c1]/\ak wr (w.heap.size+1) 31 #[.s A2 ys.length c2]/\ak wr (w.heap.size+2) 31 #[zN]/\Ext w wr)
  (fun _ i _=>xs.length-(intOf i).toNat)
 (case atStart=>refine⟨0,0,List.replicate (xs.length+1) 0,yZ _,rfl,rfl,yZ _,qS,fun d hd=>?_,by simp[av.val],Row.made _ _ qS,?_,?_,?_,?_⟩;{have:=uF hd;subst this;exact bA};{exact((((eN w _ _).alloc _).alloc _).alloc _)};{exact((ak.new' (w.alloc _) _ _ qS).alloc _).alloc _};{exact(ak.new' ((w.alloc _).alloc _) _ _ qS).alloc _};exact(((eR _).alloc _).alloc _).alloc _ |>.alloc _);obtain⟨k,cr,ds,hk,rfl,rfl,q5,qI,qk,qm,qa,qt,qn,qw,hx⟩:=hrel;have HV:=Hx qm;have qg:=Hx qI;clear qm qI;have ca:=qt.cell 0;have cb:=qn.cell 0;simp only[xI,EP]at ca cb;by_cases qp:k<xs.length
 ·obtain⟨b1,o1,rfl,qX,qf⟩:=q0.rd.u32 (k:=k) qp;have q4:wr.cell? (aD b1 (o1+k))=_:=(hx.cell (p:=(aD b1 (o1+k))) qX).trans (qf k qp);have qz:=qa.cell (i:=k) (by have:=qg.o;omega);have qB:=qa.frozen k;have qJ:=bY qZ.lt k;rw[aP]at qJ;generalize hxe:xs[k]?.getD 0=x at*;generalize ds[k]?.getD 0=dk at*;have HX:=Hx hxe;clear hxe qf;have j1:(k:Int)<(xs.length:Int)+1:=qO;by_cases qy:k<ys.length
  ·obtain⟨b2,o2,rfl,qV,qe⟩:=qY.rd.u32 (k:=k) qy;have q3:wr.cell? (aD b2 (o2+k))=_:=(hx.cell (p:=(aD b2 (o2+k))) qV).trans (qe k qy);have qM:=bY q1.lt k;rw[aP]at qM;generalize qo:ys[k]?.getD 0=y at*;have HY:=Hx qo;clear qo qe;(go_wp2_with (go_at_call 170;refine(nA _ _ _ _ qO qO qO qO qO qO).mono ?_;rintro e w' ⟨rfl,rfl⟩));(have qi:((x:Int)+y+cr)/4294967296=(((x+y+cr)/dh:Nat):Int):=(by rw[aP];omega);have qj:((x:Int)+y+cr)%4294967296=(((x+y+cr)%dh:Nat):Int):=by rw[aP];omega);go_roundw
   case rel=>
    rw[qj];exact⟨k+1,(x+y+cr)/dh,ds.set k ((x+y+cr)%dh),qO,by go_num,by rw[qi],by rw[aP];omega,by rw[yV];exact qg.o,av.pz qk (xT _ bA),
     pD qp (by have:=qg.o;omega) HX.o.symm HY.o.symm HV.o,qa.sT _ _,qt.far qL _,qn.far qL _,qw.far qL _,Below.setCell hx qL _⟩
   simp[intOf];omega
  (go_wp2_with (go_at_call 170;refine(nA _ _ _ _ qO qO qO qO qO qO).mono ?_;rintro e w' ⟨rfl,rfl⟩));(have qo:0=ys[k]?.getD 0:=(by rw[yI qO];rfl);have qi:((x:Int)+cr)/4294967296=(((x+0+cr)/dh:Nat):Int):=(by rw[aP];omega);have qj:((x:Int)+cr)%4294967296=(((x+0+cr)%dh:Nat):Int):=by rw[aP];omega);go_roundw
  case rel=>
   rw[qj];exact⟨k+1,(x+0+cr)/dh,ds.set k ((x+0+cr)%dh),qO,by go_num,by rw[qi],by rw[aP];omega,by rw[yV];exact qg.o,av.pz qk (xT _ bA),
    pD qp (by have:=qg.o;omega) HX.o.symm qo HV.o,qa.sT _ _,qt.far qL _,qn.far qL _,qw.far qL _,Below.setCell hx qL _⟩
  simp[intOf];omega
 (have qU:k=xs.length:=qO;subst qU;have qz:=qa.cell (i:=xs.length) (by have:=qg.o;omega);have qB:=qa.frozen xs.length;generalize ds[xs.length]?.getD 0=dk at*;have j1:(xs.length:Int)<(xs.length:Int)+1:=by omega);go_wp2_with fail;have qh:=qa.sT xs.length cr;have qC:Ext w (wr.setCell (aD (w.heap.size+3) xs.length) (.int .u32 cr)):=Below.setCell hx qL _;refine(kI (sA (w.heap.size+3)) (xs.length+1) (xs.length+1) (ds.set xs.length cr) _ (by rw[yV];exact qg.o) (yX _) qO (av.pz qk (by rw[aP];omega)) qh.Bz).mono ?_;rintro e w1 ⟨A,n,c,rfl,hR,qx⟩;have qA:aE w1 A n c (av.val dh xs+av.val dh ys):=(by have e1:=av.lu dh ds xs.length cr (by have:=qg.o;omega);rw[yU (by rw[yV];have:=qg.o;omega)]at e1;have e2:=HV.o;rw[yU (yX _),yU qW]at e2;have e3:av.val dh xs+av.val dh ys=av.val dh (ds.set xs.length cr):=qO;rw[e3];exact hR);have H:=Hx qA;have HB:=Hx ((qw.far (p:=(aD (w.heap.size+3) xs.length)) qL (.int .u32 cr)).K qx);have qT:=HB.o.cell 0;have q2:=HB.o.frozen 0;simp only[xI,EP]at qT;have qQ:=Hx (qC.tr qx);clear hR qA qx qC qh qa qt qn qw hx ca cb qz qB;go_wp2;refine bodyPost_ret (v:=.agg #[.s A n c]) (by simp[results,results122,go_sem,(HB.o.sT 0 _).cell]) rfl ⟨_,_,_,rfl,H.o.sT HB.o qD _,Below.setCell qQ.o qL _⟩
def jzaw{B k x y br d EH:Nat}{xs ys ds:LN}(hx:k<xs.length)(hd:k<ds.length)(ex:x=xs[k]?.getD 0)(ey:y=ys[k]?.getD 0)
  (h:av.val B (ds.take k)+av.val B (ys.take k)=av.val B (xs.take k)+B^k*br) (e:d+y+br=x+B*EH):
  av.val B ((ds.set k d).take (k+1))+av.val B (ys.take (k+1))=av.val B (xs.take (k+1))+B^(k+1)*EH:=by
 have hy:av.val B (ys.take (k+1))=av.val B (ys.take k)+B^k*y:=(by subst ey;by_cases h:k<ys.length;{exact av.dw B ys k h};rw[yU qO,yU qO,yI qO];simp);rw[av.lu B ds k _ hd,hy,av.dw B xs k hx];simp only[List.getD];rw[<-ex];have e2:B^k*(d+y+br)=B^k*(x+B*EH):=(by rw[e]);have e3:B^(k+1)*EH=B^k*(B*EH):=(by rw[vD,Cb]);rw[Ag,Ag,Ag]at e2;omega
def pE(x y br:Nat)(hx:x<4294967296)(hy:y<4294967296)(hb:br<=1):
  ∃d EH:Nat,((x:Int)-y-br)%4294967296=d/\ -(((x:Int)-y-br)/4294967296)=EH/\d+y+br=x+dh*EH/\d<dh/\EH<=1:=by
 refine⟨(((x:Int)-y-br)%4294967296).toNat,(-(((x:Int)-y-br)/4294967296)).toNat,qO,qO,?_,?_,qO⟩;{rw[aP];omega};rw[aP];omega
def jzax A1 A2(n1 c1 n2 c2 a b:Nat)w(h1:aE w A1 n1 c1 a)(h2:aE w A2 n2 c2 b)(hn1:n1<=1073741824)(hab:b<=a):
  Calls prog 123 #[.agg #[.s A1 n1 c1],.agg #[.s A2 n2 c2]] w fun e w'=>∃(A:OA) (n c:Nat),e=.returned (.tuple #[.agg #[.s A n c],vI 0])/\aE w' A n c (a-b)/\Ext w w':=by
 have H1:=Hx h1;have H2:=Hx h2;obtain⟨xs,rfl,vi,qC,qH,qY⟩:=h1;obtain⟨ys,rfl,vh,qQ,qV,qW⟩:=h2;have q7:ys.length<=xs.length:=(by (rcases Bc xs.length ys.length with h|h);{have:=qC.Bp iU qQ h;omega};exact h);have hq:0<=aI a b:=(by unfold aI;rw[qF qO];split <;> omega);have qX:=Hx qH;have qZ:=Hx qV;clear qH qV;have q5:=run_make_row' (P:=prog) 29 196 (.int .u32 0) 4 underlying29 Tryz.AJ rfl .i64 .i64 xs.length qO qO;go_enter func123,ntmps123;go_wp2_with fail;refine(lC A1 A2 xs.length c1 ys.length c2 a b _ ((H1.o.K ((eR _).alloc _)).K ((eR _).alloc _) |>.K ((eR _).alloc _)) ((H2.o.K ((eR _).alloc _)).K ((eR _).alloc _) |>.K ((eR _).alloc _)) qO).r fun w1 qm=>?_;have qi:=(((eN w 31 #[.s A1 xs.length c1]).alloc (.cells #[.s A2 ys.length c2] 31)).alloc (.cells #[zN] 31)).K qm;have qh:=((ak.new' (g:=w.heap.size+1) (w.alloc (.cells #[.s A1 xs.length c1] 31)) 31 #[.s A2 ys.length c2] qS).alloc (.cells #[zN] 31)).K qm;have qk:=(ak.new' (g:=w.heap.size+2) ((w.alloc (.cells #[.s A1 xs.length c1] 31)).alloc (.cells #[.s A2 ys.length c2] 31)) 31 #[zN] qS).K qm;have qJ:Ext w w1:=((((eR w).alloc _).alloc _).alloc _).tr qm;have hz:w.heap.size+3<=w1.heap.size:=(by have:=qm.size;simp at this;omega);have q0:w.heap.size<w1.heap.size:=qO;have q3:w.heap.size+1<w1.heap.size:=qO;have ca:=qi.cell 0;have cb:=qh.cell 0;simp only[xI,EP]at ca cb;have q9:=Hx qJ;clear qm qJ;generalize hq':aI a b=q at*;clear hq';go_wp2;clear q5 q0 q3
 go_loopw [7,23] (fun cy i wr=>∃(k br:Nat) (ds:LN),k<=xs.length/\i=vI k/\cy=.int .u32 br/\br<=1/\ds.length=xs.length/\(∀d∈ds,d<dh)/\
   av.val dh (ds.take k)+av.val dh (ys.take k)=av.val dh (xs.take k)+dh^k*br/\
   Row wr w1.heap.size ds/\ak wr w.heap.size 31 #[.s A1 xs.length c1]/\ak wr (w.heap.size+1) 31 #[.s A2 ys.length c2]/\ak wr (w.heap.size+2) 31 #[zN]/\Ext w wr)
  (fun _ i _=>xs.length-(intOf i).toNat)
 (case atStart=>refine⟨0,0,List.replicate xs.length 0,yZ _,rfl,rfl,yZ _,qS,fun d hd=>?_,by simp[av.val],Row.made _ _ rfl,qi.alloc _,qh.alloc _,qk.alloc _,q9.o.alloc _⟩;have:=uF hd;subst this;exact bA);clear qi qh qk ca cb;obtain⟨k,cr,ds,hk,rfl,rfl,qU,qT,qg,qn,qa,qi,qh,qk,hx⟩:=hrel;have HV:=Hx qn;have qj:=Hx qT;clear qn qT;have ca:=qi.cell 0;have cb:=qh.cell 0;simp only[xI,EP]at ca cb;by_cases qp:k<xs.length
 ·obtain⟨b1,o1,rfl,q8,qf⟩:=qY.rd.u32 (k:=k) qp;have vg:wr.cell? (aD b1 (o1+k))=_:=(hx.cell (p:=(aD b1 (o1+k))) q8).trans (qf k qp);have vc:=qa.cell (i:=k) (by have:=qj.o;omega);have vd:=qa.frozen k;have qy:=bY qC.lt k;rw[aP]at qy;generalize hxe:xs[k]?.getD 0=x at*;generalize ds[k]?.getD 0=dk at*;have HX:=Hx hxe;clear hxe qf;by_cases qB:k<ys.length
  ·obtain⟨b2,o2,rfl,q6,qe⟩:=qW.rd.u32 (k:=k) qB;have ve:wr.cell? (aD b2 (o2+k))=_:=(hx.cell (p:=(aD b2 (o2+k))) q6).trans (qe k qB);have qM:=bY qQ.lt k;rw[aP]at qM;generalize qo:ys[k]?.getD 0=y at*;have HY:=Hx qo;clear qo qe;(go_wp2_with (go_at_call 171;refine(pC _ _ _ _ qO qO qO qO qO qO).mono ?_;rintro e w' ⟨rfl,rfl⟩));obtain⟨d,qz,ed,eb,qw,qx,qA⟩:=pE x y cr qy qM qU;go_roundw
   case rel=>
    rw[ed];exact⟨k+1,qz,ds.set k d,qO,by go_num,by rw[eb],qA,by rw[yV];exact qj.o,av.pz qg qx,
     jzaw qp (by have:=qj.o;omega) HX.o.symm HY.o.symm HV.o qw,qa.sT _ _,qi.far qL _,qh.far qL _,qk.far qL _,Below.setCell hx qL _⟩
   simp[intOf];omega
  (go_wp2_with (go_at_call 171;refine(pC _ _ _ _ qO qO qO qO qO qO).mono ?_;rintro e w' ⟨rfl,rfl⟩));have qo:0=ys[k]?.getD 0:=(by rw[yI qO];rfl);obtain⟨d,qz,ed,eb,qw,qx,qA⟩:=pE x 0 cr qy qO qU;simp only[Int.natCast_zero,Int.sub_zero]at ed eb;go_roundw
  case rel=>
   rw[ed];exact⟨k+1,qz,ds.set k d,qO,by go_num,by rw[eb],qA,by rw[yV];exact qj.o,av.pz qg qx,
    jzaw qp (by have:=qj.o;omega) HX.o.symm qo HV.o qw,qa.sT _ _,qi.far qL _,qh.far qL _,qk.far qL _,Below.setCell hx qL _⟩
  simp[intOf];omega
 have q4:k=xs.length:=qO;subst q4;go_wp2_with fail;refine(kI (sA w1.heap.size) xs.length xs.length ds _ qj.o (yX _) qO qg qa.Bz).mono ?_;rintro e w2 ⟨A,n,c,rfl,hR,qt⟩;have qI:aE w2 A n c (a-b):=(by have e2:=HV.o;rw[yU (by rw[qj.o];exact yX _),yU (yX _),yU q7,qX.o,qZ.o]at e2;have h3:=av.ow bA qg;rw[qj.o]at h3;have h4:cr=0:=(by (rcases Ee cr with h|h);{exact h};have:cr=1:=qO;subst this;omega);subst h4;have:av.val dh ds=a-b:=qO;rw[<-this];exact hR);have H:=Hx qI;have HB:=Hx (qk.K qt);have q2:=HB.o.cell 0;have va:=HB.o.frozen 0;simp only[xI,EP]at q2;have q1:=Hx (hx.tr qt);clear hR qI qt qa qi qh qk hx ca cb;go_wp2;refine bodyPost_ret (v:=.tuple #[.agg #[.s A n c],vI 0]) (by simp[results,results123,go_sem,(HB.o.sT 0 _).cell]) rfl ⟨_,_,_,rfl,H.o.sT HB.o qD _,Below.setCell q1.o qL _⟩
def jzh8{B j x y cr V S:Nat}{ds:LN}(hj:j<ds.length)(h:av.val B ds+B^j*cr=V+S):
  av.val B (ds.set j ((cr+(x*y+ds[j]?.getD 0))%B))+B^(j+1)*((cr+(x*y+ds[j]?.getD 0))/B)=V+(S+B^j*(x*y)):=by
 have h1:=av.Gs B ds j ((cr+(x*y+ds[j]?.getD 0))%B) hj;generalize ds[j]?.getD 0=d at*;have e:B^j*((cr+(x*y+d))%B)+B^(j+1)*((cr+(x*y+d))/B)=B^j*(cr+(x*y+d)):=(by rw[vD,Cb, <-Ag,Nat.mod_add_div]);have e2:B^j*(cr+(x*y+d))=B^j*cr+(B^j*(x*y)+B^j*d):=(by rw[Ag,Ag]);omega
def jzh9{B i k x y:Nat}{ys:LN}(hk:k<ys.length)(ey:y=ys[k]?.getD 0):
  x*B^i*av.val B (ys.take k)+B^(i+k)*(x*y)=x*B^i*av.val B (ys.take (k+1)):=by
 rw[av.dw B ys k hk];simp only[List.getD];rw[<-ey,Ag,Nat.pow_add];simp only[Cb,vE,Nat.mul_left_comm]
def jzia{B i x:Nat}{xs:LN}(v:Nat)(hi:i<xs.length)(ex:x=xs[i]?.getD 0):
  av.val B (xs.take i)*v+x*B^i*v=av.val B (xs.take (i+1))*v:=by
 rw[av.dw B xs i hi];simp only[List.getD];rw[<-ex,xP,vE x]
def jzib(x y cr d:Nat)(hx:x<4294967296)(hy:y<4294967296)(hc:cr<4294967296)(hd:d<4294967296):
  (x:Int)*y<=18446744065119617025/\0<=(x:Int)*y/\(cr+(x*y+d))/dh<dh/\((cr:Int)+(x*y+d))/4294967296=(((cr+(x*y+d))/dh:Nat):Int)/\((cr:Int)+(x*y+d))%4294967296=(((cr+(x*y+d))%dh:Nat):Int):=by
 have h1:x*y<=4294967295*4294967295:=DK qO qO;have e:(x:Int)*y=((x*y:Nat):Int):=(by rw[Ii]);rw[e,aP];refine⟨qO,qO,qO,qO,qO⟩
def jzay A1 A2(n1 c1 n2 c2 a b:Nat)w(h1:aE w A1 n1 c1 a)(h2:aE w A2 n2 c2 b)(hn1:n1<=1073741824)(hn2:n2<=1073741824):
  Calls prog 103 #[.agg #[.s A1 n1 c1],.agg #[.s A2 n2 c2]] w (kH w (a*b)):=by
 obtain⟨xs,rfl,vq,q8,qT,va⟩:=h1;obtain⟨ys,rfl,vp,vi,q5,q7⟩:=h2;have qW:=Hx qT;have q0:=Hx q5;clear qT q5;by_cases z1:xs.length=0;{(have zb:((xs.length:Int)==0)=true:=by simp;exact FJ.1 z1);have hz:a*b=0:=(by rw[<-qW.o,FJ.1 z1];simp[av.val]);rw[hz];clear z1 hz;go_enter func103,ntmps103;go_wp2_with fail;refine(bL A1 xs.length c1 _).r fun w1 qe=>?_;have qf:=(ak.new' (g:=w.heap.size+2) ((w.alloc (.cells #[.s A1 xs.length c1] 31)).alloc (.cells #[.s A2 ys.length c2] 31)) 31 #[zN] qS).K qe;have HX:=Hx (((((eR w).alloc _).alloc _).alloc _).tr qe);obtain⟨hc,hf⟩:=pA qe;go_wp2;refine bodyPost_ret (v:=.agg #[zN]) (by simp[results,results103,go_sem,(qf.sT 0 _).cell]) rfl ⟨_,_,_,rfl,aE.zero _ _ _,Below.setCell HX.o qL _⟩};have vm:((xs.length:Int)==0)=false:=(by simp;exact fun h=>z1 (by rw[h];rfl));by_cases z2:ys.length=0;{(have zb:((ys.length:Int)==0)=true:=by simp;exact FJ.1 z2);have hz:a*b=0:=(by rw[<-q0.o,FJ.1 z2];simp[av.val]);rw[hz];clear z1 z2 hz;go_enter func103,ntmps103;go_wp2_with fail;refine(bL A1 xs.length c1 _).r fun w1 qe=>?_;have qf:=(ak.new' (g:=w.heap.size+2) ((w.alloc (.cells #[.s A1 xs.length c1] 31)).alloc (.cells #[.s A2 ys.length c2] 31)) 31 #[zN] qS).K qe;have HX:=Hx (((((eR w).alloc _).alloc _).alloc _).tr qe);obtain⟨hc,hf⟩:=pA qe;go_wp2_with fail;refine(bL A2 ys.length c2 _).r fun w2 qn=>?_;have qg:=qf.K qn;have qy:=Hx (HX.o.tr qn);have qJ:=qg.cell 0;have q6:=qg.frozen 0;simp only[xI,EP]at qJ;clear qe qn hc hf qf;go_wp2;refine bodyPost_ret (v:=.agg #[zN]) (by simp[results,results103,go_sem,(qg.sT 0 _).cell]) rfl ⟨_,_,_,rfl,aE.zero _ _ _,Below.setCell qy.o qL _⟩};have ve:((ys.length:Int)==0)=false:=(by simp;exact fun h=>z2 (by rw[h];rfl));have q2:=run_make_row' (P:=prog) 29 196 (.int .u32 0) 4 underlying29 Tryz.AJ rfl .i64 .i64 (xs.length+ys.length) qO qO;rw[Jo]at q2;clear z1 z2;go_enter func103,ntmps103;go_wp2_with fail;refine(bL A1 xs.length c1 _).r fun w1 qe=>?_;have qk:=(((eN w 31 #[.s A1 xs.length c1]).alloc (.cells #[.s A2 ys.length c2] 31)).alloc (.cells #[zN] 31)).K qe;have qi:=((ak.new' (g:=w.heap.size+1) (w.alloc (.cells #[.s A1 xs.length c1] 31)) 31 #[.s A2 ys.length c2] qS).alloc (.cells #[zN] 31)).K qe;have qf:=(ak.new' (g:=w.heap.size+2) ((w.alloc (.cells #[.s A1 xs.length c1] 31)).alloc (.cells #[.s A2 ys.length c2] 31)) 31 #[zN] qS).K qe;have HX:=Hx (((((eR w).alloc _).alloc _).alloc _).tr qe);obtain⟨hc,hf⟩:=pA qe;go_wp2_with fail;refine(bL A2 ys.length c2 _).r fun w2 qn=>?_;have qw:=qk.K qn;have qt:=qi.K qn;have qg:=qf.K qn;have qy:=Hx (HX.o.tr qn);have hz:w.heap.size+3<=w2.heap.size:=(by have:=qe.size;have h':=qn.size;simp at this;omega);have vh:w.heap.size<w2.heap.size:=qO;have vj:w.heap.size+1<w2.heap.size:=qO;have ca:=qw.cell 0;have cb:=qt.cell 0;simp only[xI,EP]at ca cb;clear qe qn hc hf qf qk qi;go_wp2;clear q2 vh vj vm ve
 go_loopw [29] (fun it wr=>∃(i:Nat) (ds:LN),i<=xs.length/\it=vI i/\ds.length=xs.length+ys.length/\(∀d∈ds,d<dh)/\
   av.val dh ds=av.val dh (xs.take i)*av.val dh ys/\(∀j,i+ys.length<=j->ds[j]?.getD 0=0)/\
   Row wr w2.heap.size ds/\ak wr w.heap.size 31 #[.s A1 xs.length c1]/\ak wr (w.heap.size+1) 31 #[.s A2 ys.length c2]/\ak wr (w.heap.size+2) 31 #[zN]/\Ext w wr)
  (fun i _=>xs.length-(intOf i).toNat)
 (case atStart=>refine⟨0,List.replicate (xs.length+ys.length) 0,yZ _,rfl,qS,fun d hd=>?_,by simp[av.val,av.DY],fun j _=>?_,Row.made _ _ rfl,qw.alloc _,qt.alloc _,qg.alloc _,qy.o.alloc _⟩;{have:=uF hd;subst this;exact bA};rw[xB];split <;> rfl);clear qw qt qg ca cb qy;obtain⟨wo,rfl⟩:∃wo:World,wo=wr:=⟨_,rfl⟩;obtain⟨i,ds,hi,rfl,q3,qB,qA,qo,qa,qk,qi,qf,hx⟩:=hrel;have HV:=Hx qA;have q4:=Hx q3;have HZ:=Hx qo;clear qA q3 qo;have ca:=qk.cell 0;have cb:=qi.cell 0;simp only[xI,EP]at ca cb;by_cases qM:i<xs.length
 ·obtain⟨b1,o1,rfl,vn,qm⟩:=va.rd.u32 (k:=i) qM;have vg:wo.cell? (aD b1 (o1+i))=_:=(hx.cell (p:=(aD b1 (o1+i))) vn).trans (qm i qM);have qX:=bY q8.lt i;rw[aP]at qX;generalize hxe:xs[i]?.getD 0=x at*;have HX:=Hx hxe;clear hxe qm;go_wp2
  go_loopw [8,37] (fun cy kt wr=>∃(k cr:Nat) (es:LN),k<=ys.length/\kt=vI k/\cy=.int .u64 cr/\cr<dh/\es.length=xs.length+ys.length/\(∀d∈es,d<dh)/\
    av.val dh es+dh^(i+k)*cr=av.val dh ds+x*dh^i*av.val dh (ys.take k)/\(∀j,i+ys.length<=j->es[j]?.getD 0=0)/\
    Row wr w2.heap.size es/\ak wr w.heap.size 31 #[.s (some (aD b1 o1)) xs.length c1]/\ak wr (w.heap.size+1) 31 #[.s A2 ys.length c2]/\ak wr (w.heap.size+2) 31 #[zN]/\Ext w wr)
   (fun _ k _=>ys.length-(intOf k).toNat)
  (case atStart=>exact⟨0,0,ds,yZ _,rfl,rfl,bA,q4.o,qB,by simp[av.val],HZ.o,qa,qk,qi,qf,hx⟩);clear vg qa qk qi qf hx ca cb;obtain⟨k,cr,es,hk,rfl,rfl,qQ,qU,qx,qp,qj,qa,qk,qi,qf,hx⟩:=hrel;have q1:=Hx qp;have qz:=Hx qU;have qC:=Hx qj;clear qp qU qj;have ca:=qk.cell 0;have cb:=qi.cell 0;simp only[xI,EP]at ca cb;rw[aP]at qQ;by_cases qI:k<ys.length;{obtain⟨b2,o2,rfl,vl,qh⟩:=q7.rd.u32 (k:=k) qI;have vo:wr.cell? (aD b2 (o2+k))=_:=(hx.cell (p:=(aD b2 (o2+k))) vl).trans (qh k qI);have qZ:=bY vi.lt k;rw[aP]at qZ;generalize hye:ys[k]?.getD 0=y at*;have HY:=Hx hye;clear hye qh;have q9:=qa.cell (i:=i+k) (by have:=qz.o;omega);have vd:=qa.frozen (i+k);have qY:=bY qx (i+k);rw[aP]at qY;generalize hde:es[i+k]?.getD 0=d at*;have HD:=Hx hde;clear hde;obtain⟨t1,t2,t3,t4,t5⟩:=jzib x y cr d qX qZ qQ qY;have T3:=Hx t3;have T4:=Hx t4;have T5:=Hx t5;clear t3 t4 t5;have j1:(i:Int)+k<(xs.length:Int)+ys.length:=qO;have j2:((i:Int)+k).toNat=i+k:=qO;go_wp2;go_roundw;(case rel=>rw[T5.o];have hs:=jzh8 (B:=dh) (x:=x) (y:=y) (by have:=qz.o;omega:i+k<es.length) q1.o;rw[HD.o,JK i k 1]at hs;refine⟨k+1,(cr+(x*y+d))/dh,es.set (i+k) ((cr+(x*y+d))%dh),qO,by go_num,by rw[T4.o],T3.o,by rw[yV];exact qz.o,av.pz qx (xT _ bA),?_,?_,qa.sT _ _,qk.far qL _,qi.far qL _,qf.far qL _,Below.setCell hx qL _⟩;{rw[<-jzh9 qI HY.o.symm];exact hs};intro j hj;rw[kZs,qF qO];exact qC.o j hj);simp[intOf];omega};have vk:k=ys.length:=qO;subst vk;have q9:=qa.cell (i:=i+ys.length) (by have:=qz.o;omega);have vd:=qa.frozen (i+ys.length);have j1:(i:Int)+ys.length<(xs.length:Int)+ys.length:=qO;have j2:((i:Int)+ys.length).toNat=i+ys.length:=qO;generalize hde:es[i+ys.length]?.getD 0=d at*;clear hde;go_wp2;go_roundw;(case rel=>refine⟨i+1,es.set (i+ys.length) cr,qO,by go_num,by rw[yV];exact qz.o,av.pz qx (by rw[aP];exact qQ),?_,?_,qa.sT _ _,qk.far qL _,qi.far qL _,qf.far qL _,Below.setCell hx qL _⟩;{have e1:=av.Gs dh es (i+ys.length) cr (by have:=qz.o;omega);rw[qC.o _ (yX _),ER,Ef]at e1;have e2:=q1.o;rw[yU (yX _),HV.o,jzia _ qM HX.o.symm]at e2;omega};intro j hj;rw[kZs,qF qO];exact qC.o j qO);simp[intOf];omega
 have vc:i=xs.length:=qO;subst vc;go_wp2_with fail;refine(kI (sA w2.heap.size) (xs.length+ys.length) (xs.length+ys.length) ds _ q4.o (yX _) qO qB qa.Bz).mono ?_;rintro e w3 ⟨A,n,c,rfl,hR,qH⟩;have qV:aE w3 A n c (a*b):=(by have e2:=HV.o;rw[yU (yX _),qW.o,q0.o]at e2;rw[<-e2];exact hR);have H:=Hx qV;have HB:=Hx (qf.K qH);have qJ:=HB.o.cell 0;have q6:=HB.o.frozen 0;simp only[xI,EP]at qJ;have qy:=Hx (hx.tr qH);clear hR qV qH qa qk qi qf hx ca cb;go_wp2;refine bodyPost_ret (v:=.agg #[.s A n c]) (by simp[results,results103,go_sem,(HB.o.sT 0 _).cell]) rfl ⟨_,_,_,rfl,H.o.sT HB.o qD _,Below.setCell qy.o qL _⟩
def jzic{B k x b q r rest:Nat}{xs ds:LN}(hx:k<xs.length)(hd:k<ds.length)(ex:x=xs[k]?.getD 0)
  (h:av.val B (xs.drop (k+1))=av.val B (ds.drop (k+1))*b+rest) (e:rest*B+x=q*b+r):
  av.val B (xs.drop k)=av.val B ((ds.set k q).drop k)*b+r:=by
 rw[av.AU ds k q hd,av.mh,av.qc B xs k hx,h];simp only[List.getD];rw[<-ex,xP,Ag, <-Cb];have:B*rest=rest*B:=vE _ _;omega
def jzid(rest x b:Nat)(hr:rest<b)(hx:x<4294967296)(hb:b<4294967296):
  ∃q r:Nat,((rest:Int)*4294967296+x)/b=q/\((rest:Int)*4294967296+x)%b=r/\rest*dh+x=q*b+r/\q<dh/\r<b:=by
 refine⟨(rest*4294967296+x)/b,(rest*4294967296+x)%b,qS,qS,?_,?_,xT _ qO⟩;{rw[aP,vE _ b,Ij]};rw[aP];exact(Js qO).2 qO
def tI A1(n1 c1 a b:Nat)w(h1:aE w A1 n1 c1 a)(hn1:n1<=1073741824)(hb0:0<b)(hbB:b<4294967296):
  Calls prog 132 #[.agg #[.s A1 n1 c1],.int .u32 (b:Int)] w fun e w'=>∃(A:OA) (n c:Nat),e=.returned (.tuple #[.agg #[.s A n c],.int .u32 ((a%b:Nat):Int)])/\aE w' A n c (a/b)/\Ext w w':=by
 obtain⟨xs,rfl,qW,qx,qn,qM⟩:=h1;have qI:=Hx qn;clear qn;have qJ:=run_make_row' (P:=prog) 29 196 (.int .u32 0) 4 underlying29 Tryz.AJ rfl .i64 .i64 xs.length qO qO;go_enter func132,ntmps132;go_wp2;clear qJ
 go_loopw [7,8] (fun cy it wr=>∃(k rest:Nat) (ds:LN),k<=xs.length/\it=vI (k-1)/\cy=.int .u32 rest/\rest<b/\ds.length=xs.length/\(∀d∈ds,d<dh)/\
   av.val dh (xs.drop k)=av.val dh (ds.drop k)*b+rest/\
   Row wr (w.heap.size+2) ds/\ak wr w.heap.size 31 #[.s A1 xs.length c1]/\ak wr (w.heap.size+1) 31 #[zN]/\Ext w wr)
  (fun _ i _=>(intOf i+1).toNat)
 (case atStart=>refine⟨xs.length,0,List.replicate xs.length 0,yX _,rfl,rfl,hb0,qS,fun d hd=>?_,?_,Row.made _ _ qS,((eN w _ _).alloc _).alloc _,(ak.new' (w.alloc _) _ _ qS).alloc _,(((eR _).alloc _).alloc _).alloc _⟩;{have:=uF hd;subst this;exact bA};rw[D5 (yX _),D5 qS];simp[av.val]);obtain⟨k,cr,ds,hk,rfl,rfl,qm,qp,qg,qf,qe,qj,qk,hx⟩:=hrel;have HV:=Hx qf;have qh:=Hx qp;clear qf qp;have ca:=qj.cell 0;simp only[xI,EP]at ca;by_cases qA:0<k
 ·obtain⟨b1,o1,rfl,qQ,qa⟩:=qM.rd.u32 (k:=k-1) qO;have qU:wr.cell? (aD b1 (o1+(k-1)))=_:=(hx.cell (p:=(aD b1 (o1+(k-1)))) qQ).trans (qa (k-1) qO);have qV:=qe.cell (i:=k-1) (by have:=qh.o;omega);have qX:=qe.frozen (k-1);have qt:=bY qx.lt (k-1);rw[aP]at qt;generalize hxe:xs[k-1]?.getD 0=x at*;generalize ds[k-1]?.getD 0=dk at*;have HX:=Hx hxe;clear hxe qa;(go_wp2_with (go_at_call 178;refine(jzh5 _ _ _ _ qO qO qO qO qO qO).mono ?_;rintro e w' ⟨rfl,m,rfl⟩));obtain⟨q,r,eq,er,qw,qC,qB⟩:=jzid cr x b qm qt hbB;go_roundw
  case rel=>
   rw[eq];exact⟨k-1,r,ds.set (k-1) q,qO,by go_num,by rw[er],qB,by rw[yV];exact qh.o,av.pz qg qC,
    jzic qO (by have:=qh.o;omega) HX.o.symm (by rw[Nat.sub_add_cancel qA];exact HV.o) qw,(qe.drewN _).sT _ _,(qj.drewN _).far qL _,(qk.drewN _).far qL _,Below.setCell (hx.drewN _) qL _⟩
  simp[intOf];omega
 have qH:k=0:=qO;subst qH;go_wp2_with fail;refine(kI (sA (w.heap.size+2)) xs.length xs.length ds _ qh.o (yX _) qO qg qe.Bz).mono ?_;rintro e w2 ⟨A,n,c,rfl,hR,qi⟩;have e2:=HV.o;simp only[List.drop_zero]at e2;rw[qI.o]at e2;have ed:av.val dh ds=a/b:=(by rw[e2,vE,Nat.mul_add_div hb0,Nat.div_eq_of_lt qm,Ef]);have em:cr=a%b:=(by rw[e2,vE,Nat.mul_add_mod,Ey qm]);have qo:aE w2 A n c (a/b):=(by rw[<-ed];exact hR);have H:=Hx qo;have HM:=Hx em;have HB:=Hx (qk.K qi);have qz:=HB.o.cell 0;have qT:=HB.o.frozen 0;simp only[xI,EP]at qz;have qy:=Hx (hx.tr qi);clear hR qo qi qe qj qk hx ca e2 ed em;go_wp2;refine bodyPost_ret (v:=.tuple #[.agg #[.s A n c],.int .u32 (cr:Int)]) (by simp[results,results132,go_sem,(HB.o.sT 0 _).cell]) rfl ⟨_,_,_,by rw[<-HM.o],H.o.sT HB.o qD _,Below.setCell qy.o qL _⟩
section
variable {w w':World} {g:Nat} {t:TypeId}
def ak.one{v:Value}(h:ak w g t #[v]):w.C g 0 v/\w.frozen? (aD g 0)=false:=⟨h.cell 0,h.frozen 0⟩
def ak.t3{a b c:Value}(h:ak w g t #[a,b,c]):(w.C g 0 a/\w.C g 1 b/\w.C g 2 c)/\
 w.frozen? (aD g 0)=false/\w.frozen? (aD g 1)=false/\w.frozen? (aD g 2)=false:=⟨⟨h.cell 0,h.cell 1,h.cell 2⟩,h.frozen 0,h.frozen 1,h.frozen 2⟩
end
def aU(w:World)(c0:Array Value)(t0:TypeId):ak (w.alloc (.cells c0 t0)) w.heap.size t0 c0/\Ext w (w.alloc (.cells c0 t0)):=⟨eN w _ _,(eR w).alloc _⟩
def cN(w:World)(c0:Array Value)(t0:TypeId)(c1:Array Value)(t1:TypeId):
  ak ((w.alloc (.cells c0 t0)).alloc (.cells c1 t1)) w.heap.size t0 c0/\ak ((w.alloc (.cells c0 t0)).alloc (.cells c1 t1)) (w.heap.size+1) t1 c1/\Ext w ((w.alloc (.cells c0 t0)).alloc (.cells c1 t1)):=
 ⟨(eN w _ _).alloc _,ak.new' _ _ _ qS,((eR w).alloc _).alloc _⟩
def fP(w:World)(c0:Array Value)(t0:TypeId)(c1:Array Value)(t1:TypeId)(c2:Array Value)(t2:TypeId):
  ak (((w.alloc (.cells c0 t0)).alloc (.cells c1 t1)).alloc (.cells c2 t2)) w.heap.size t0 c0/\ak (((w.alloc (.cells c0 t0)).alloc (.cells c1 t1)).alloc (.cells c2 t2)) (w.heap.size+1) t1 c1/\
  ak (((w.alloc (.cells c0 t0)).alloc (.cells c1 t1)).alloc (.cells c2 t2)) (w.heap.size+1+1) t2 c2/\Ext w (((w.alloc (.cells c0 t0)).alloc (.cells c1 t1)).alloc (.cells c2 t2)):=
 ⟨((eN w _ _).alloc _).alloc _,(ak.new' _ _ _ qS).alloc _,ak.new' _ _ _ qS,(((eR w).alloc _).alloc _).alloc _⟩
def tJ(w:World)(c0:Array Value)(t0:TypeId)(c1:Array Value)(t1:TypeId)(c2:Array Value)(t2:TypeId)(c3:Array Value)(t3:TypeId):
  ak ((((w.alloc (.cells c0 t0)).alloc (.cells c1 t1)).alloc (.cells c2 t2)).alloc (.cells c3 t3)) w.heap.size t0 c0/\ak ((((w.alloc (.cells c0 t0)).alloc (.cells c1 t1)).alloc (.cells c2 t2)).alloc (.cells c3 t3)) (w.heap.size+1) t1 c1/\
  ak ((((w.alloc (.cells c0 t0)).alloc (.cells c1 t1)).alloc (.cells c2 t2)).alloc (.cells c3 t3)) (w.heap.size+1+1) t2 c2/\ak ((((w.alloc (.cells c0 t0)).alloc (.cells c1 t1)).alloc (.cells c2 t2)).alloc (.cells c3 t3)) (w.heap.size+1+1+1) t3 c3/\
  Ext w ((((w.alloc (.cells c0 t0)).alloc (.cells c1 t1)).alloc (.cells c2 t2)).alloc (.cells c3 t3)):=
 ⟨(((eN w _ _).alloc _).alloc _).alloc _,((ak.new' _ _ _ qS).alloc _).alloc _,(ak.new' _ _ _ qS).alloc _,ak.new' _ _ _ qS,((((eR w).alloc _).alloc _).alloc _).alloc _⟩
def Ext.sT{a w}(h:Ext a w){p:Addr}(hp:a.heap.size<=p.block)(u:Value):Ext a (w.setCell p u):=Below.setCell h hp u
def pF(w:World)(q r:Nat)(e:Ending)(w':World):Prop:=
 ∃(A:OA) (n c:Nat) (A':OA) (n' c':Nat),e=.returned (.tuple #[.agg #[.s A n c],.agg #[.s A' n' c'],vI 0])/\aE w' A n c q/\aE w' A' n' c' r/\Ext w w'
def jzaz A1 A2(n1 c1 n2 c2 a b:Nat)w(h1:aE w A1 n1 c1 a)(h2:aE w A2 n2 c2 b)(hn1:n1<=1073741824)(hab:a<b):
  Calls prog 126 #[.agg #[.s A1 n1 c1],.agg #[.s A2 n2 c2]] w (pF w 0 a):=by
 have H1:=Hx h1;have H2:=Hx h2;have z2:((n2:Int)==0)=false:=(by have:=h2.iw;exact yK.2 qO);have hq:aI a b= -1:=(by unfold aI;rw[qE hab]);have HQ:=Hx hq;clear h1 h2 hq;go_enter func126,ntmps126;go_wp2_with fail;refine(bL A2 n2 c2 _).r fun w1 qg=>?_;obtain⟨qf,qi,qa,qe,e0⟩:=tJ w #[.s A1 n1 c1] 31 #[.s A2 n2 c2] 31 #[zN] 31 #[zN] 31;have HX:=Hx (e0.tr qg);have qf:=qf.K qg;have qi:=qi.K qg;have qa:=qa.K qg;have qe:=qe.K qg;have ca:=qf.one.1;have cb:=qi.one.1;clear e0 qg;go_wp2_with fail;refine(lC A1 A2 n1 c1 n2 c2 a b _ (H1.o.K HX.o) (H2.o.K HX.o) qO).r fun w2 qh=>?_;rw[HQ.o];have qf:=qf.K qh;have qa:=qa.K qh;have qe:=qe.K qh;have qk:=Hx (HX.o.tr qh);obtain⟨d1,_⟩:=qf.one;obtain⟨d2,f2⟩:=qa.one;obtain⟨d3,f3⟩:=qe.one;clear qh ca cb qi;go_wp2;go_region
 go_wp2;have qm:=(qa.sT 0 zN).far (p:=(aD (w.heap.size+1+1+1) 0)) qL (.s A1 n1 c1);have qj:=(qe.far (p:=(aD (w.heap.size+1+1) 0)) qL zN);refine bodyPost_ret (v:=.tuple #[.agg #[zN],.agg #[.s A1 n1 c1],vI 0]) (by simp[results,results126,go_sem,qm.cell,(qj.sT 0 _).cell]) rfl
  ⟨_,_,_,_,_,_,rfl,aE.zero _ _ _,?_,?_⟩
 {exact((H1.o.K qk.o).sT (p:=(aD (w.heap.size+1+1) 0)) qa qD _).sT (p:=(aD (w.heap.size+1+1+1) 0)) qj qD _};exact((qk.o.sT qL _).sT qL _).drewN 1
def jzie A1 A2(n1 c1 n2 c2 a b:Nat)w(h1:aE w A1 n1 c1 a)(h2:aE w A2 n2 c2 b)(hn1:n1<=1073741824)(hb0:0<b)(hab:b<=a)(ha:a<18446744073709551616):
  Calls prog 126 #[.agg #[.s A1 n1 c1],.agg #[.s A2 n2 c2]] w (pF w (a/b) (a%b)):=by
 have H1:=Hx h1;have H2:=Hx h2;have z2:((n2:Int)==0)=false:=(by have:=h2.iw;exact yK.2 qO);have hq:0<=aI a b:=(by unfold aI;rw[qF qO];split <;> omega);clear h1 h2;go_enter func126,ntmps126;go_wp2_with fail;refine(bL A2 n2 c2 _).r fun w1 qi=>?_;obtain⟨qg,qf,qa,qe,e0⟩:=tJ w #[.s A1 n1 c1] 31 #[.s A2 n2 c2] 31 #[zN] 31 #[zN] 31;have HX:=Hx (e0.tr qi);have qg:=qg.K qi;have qf:=qf.K qi;have qa:=qa.K qi;have qe:=qe.K qi;have ca:=qg.one.1;have cb:=qf.one.1;clear e0 qi;go_wp2_with fail;refine(lC A1 A2 n1 c1 n2 c2 a b _ (H1.o.K HX.o) (H2.o.K HX.o) qO).r fun w2 qh=>?_;generalize aI a b=q at*;have qg:=qg.K qh;have qf:=qf.K qh;have qa:=qa.K qh;have qe:=qe.K qh;have qp:=Hx (HX.o.tr qh);have ca:=qg.one.1;have cb:=qf.one.1;clear qh;go_wp2_with fail;refine(kJ A1 n1 c1 a _ (H1.o.K qp.o) ha).r fun w3 qj=>?_;have qf:=qf.K qj;have qa:=qa.K qj;have qe:=qe.K qj;have qo:=Hx (qp.o.tr qj);have cb:=qf.one.1;clear qj qp qg ca;go_wp2_with fail;refine(kJ A2 n2 c2 b _ (H2.o.K qo.o) qO).r fun w4 qm=>?_;have qa:=qa.K qm;have qe:=qe.K qm;have qx:=Hx (qo.o.tr qm);obtain⟨d2,f2⟩:=qa.one;obtain⟨d3,f3⟩:=qe.one;obtain⟨Q,hQ⟩:∃Q,Q=a/b:=⟨_,rfl⟩;obtain⟨R,qn⟩:∃R,R=a%b:=⟨_,rfl⟩;have qM:(a:Int).tdiv b=(Q:Int):=(by rw[Int.tdiv_eq_ediv_of_nonneg qO,hQ];simp);have qQ:(a:Int).tmod b=(R:Int):=(by rw[Int.tmod_eq_emod_of_nonneg qO,qn];simp);have qJ:Q<=a:=(by rw[hQ];exact JL _ _);have qI:R<b:=(by rw[qn];exact xT _ hb0);have qT:¬b=0:=qO;have qU:IntKind.u64.wrap (Q:Int)=(Q:Int):=(by rw[IntKind.wrap_u64];exact Int.emod_eq_of_lt qO qO);have HQ:=Hx hQ;have HR:=Hx qn;clear qm qo qf cb hQ qn;go_wp2;have qa:ak w4.drew _ _ _:=qa;have qe:ak w4.drew _ _ _:=qe;have qx:Hid (Ext w w4.drew):=qx.o.drewN 1;have qy:True:=trivial
 go_region_held3 (fun _=>True) (trivial) (first
  |(go_at_call 117;have _t:=qy;refine(lB _ _ qO qO).mono ?_;rintro e w5 ⟨A5,n5,c5,rfl,qz,qt⟩;clear qy;have qa:=qa.K qt;have qe:=qe.K qt;have qC:=Hx (qx.o.tr qt);obtain⟨d2,f2⟩:=qa.one;obtain⟨d3,f3⟩:=qe.one)
  |(go_at_call 117;refine(lB _ _ qO qO).mono ?_;rintro e w6 ⟨A6,n6,c6,rfl,qB,qk⟩;have qa:=qa.K qk;have qe:=qe.K qk;have qA:=Hx (qC.o.tr qk);obtain⟨d2,f2⟩:=qa.one;obtain⟨d3,f3⟩:=qe.one))
 go_wp2;have e1:aE w6 A5 n5 c5 (a/b):=(by have:=qz.K qk;rw[<-HQ.o];exact this);have e2:aE w6 A6 n6 c6 (a%b):=(by rw[<-HR.o];exact qB);have qH:=(qa.sT 0 (.s A5 n5 c5)).far (p:=(aD (w.heap.size+1+1+1) 0)) qL (.s A6 n6 c6);have qw:=(qe.far (p:=(aD (w.heap.size+1+1) 0)) qL (.s A5 n5 c5));refine bodyPost_ret (v:=.tuple #[.agg #[.s A5 n5 c5],.agg #[.s A6 n6 c6],vI 0]) (by simp[results,results126,go_sem,qH.cell,(qw.sT 0 _).cell]) rfl
  ⟨_,_,_,_,_,_,rfl,?_,?_,?_⟩
 {exact(e1.sT (p:=(aD (w.heap.size+1+1) 0)) qa qD _).sT (p:=(aD (w.heap.size+1+1+1) 0)) qw qD _};{exact(e2.sT (p:=(aD (w.heap.size+1+1) 0)) qa qD _).sT (p:=(aD (w.heap.size+1+1+1) 0)) qw qD _};exact((qA.o.sT qL _).sT qL _)
def lD(x y:Nat):Prop:=∀(A1 A2:OA) (n1 c1 n2 c2:Nat) (w:World),aE w A1 n1 c1 x->aE w A2 n2 c2 y->n1<=1073741824->n2<=1073741824->
 Calls prog 126 #[.agg #[.s A1 n1 c1],.agg #[.s A2 n2 c2]] w (pF w (x/y) (x%y))
def tK{x y:Nat}(hy:0<y)(hx:x<18446744073709551616):lD x y:=fun A1 A2 n1 c1 n2 c2 w h1 h2 hn1 _=>by
 rcases Bc x y with h|h
 ·rw[Nat.div_eq_of_lt h,Ey h];exact jzaz A1 A2 n1 c1 n2 c2 x y w h1 h2 hn1 h
 ·exact jzie A1 A2 n1 c1 n2 c2 x y w h1 h2 hn1 hy h hx
def aE.wm{w w'}{A A'}{n c N n' c' M:Nat}(h:aE w A n c N)(h':aE w' A' n' c' M)(hle:N<=M):n<=n':=by
 obtain⟨xs,rfl,_,hx,rfl,_⟩:=h;obtain⟨ys,rfl,_,hy,rfl,_⟩:=h';rcases Bc ys.length xs.length with h|h
 ·have:=hy.Bp iU hx h;omega
 exact h
def jzif A1 A2(n1 c1 n2 c2 a b:Nat)w(h1:aE w A1 n1 c1 a)(h2:aE w A2 n2 c2 b)(hn1:n1<=1073741824)(hn2:n2<=1073741824)
  (qn:18446744073709551616<=a\/18446744073709551616<=b->∀x y,0<y->lD x y):
  Calls prog 125 #[.agg #[.s A1 n1 c1],.agg #[.s A2 n2 c2]] w (kH w (Nat.gcd a b)):=by
 have qW:=Hx qn;have H1:=Hx h1;have H2:=Hx h2;clear qn h1 h2
 go_enter func125,ntmps125
 go_wp2;obtain⟨qe,qf,qa,e0⟩:=fP w #[.s A1 n1 c1] 31 #[.s A2 n2 c2] 31 #[zN] 31
 go_loopg [5] b (fun m t wr=>∃(A A':OA) (n c n' c' x y:Nat),t=t/\y<=m/\ak wr w.heap.size 31 #[.s A n c]/\ak wr (w.heap.size+1) 31 #[.s A' n' c']/\ak wr (w.heap.size+1+1) 31 #[zN]/\
  aE wr A n c x/\aE wr A' n' c' y/\n<=1073741824/\n'<=1073741824/\Nat.gcd x y=Nat.gcd a b/\(18446744073709551616<=x\/18446744073709551616<=y->18446744073709551616<=a\/18446744073709551616<=b)/\Ext w wr)
 case atStart=>exact⟨A1,A2,n1,c1,n2,c2,a,b,rfl,yX _,qe,qf,qa,H1.o.K e0,H2.o.K e0,hn1,hn2,rfl,id,e0⟩
 clear qe qf qa e0 H1 H2;obtain⟨A,A',n,c,n',c',x,y,_,vl,qe,qf,qa,hx,hy,hn,q0,hg,qp,qt⟩:=hrel;have ca:=qe.one.1;have cb:=qf.one.1;have G:=Hx hg;have qV:=Hx qp;have NX:=Hx hx;have NY:=Hx hy;clear hg qp;by_cases va:y=0
 ·have zb:((n':Int)==0)=true:=by have:=hy.iw;simp;omega
  clear hx hy
  go_wp2_with fail
  refine(bL A' n' c' _).r fun w1 qh=>?_;have qe:=qe.K qh;have qa:=qa.K qh;have ca:=qe.one.1;obtain⟨d2,f2⟩:=qa.one;have qw:=Hx (qt.tr qh);have qm:=Hx (NX.o.K qh);have qi:x=Nat.gcd a b:=(by rw[<-G.o,va,Nat.gcd_zero_right]);have HF:=Hx qi;clear qh qi;go_wp2;refine bodyPost_ret (v:=.agg #[.s A n c]) (by simp[results,results125,go_sem,(qa.sT 0 _).cell]) rfl ⟨_,_,_,rfl,by rw[<-HF.o];exact qm.o.sT qa qD _,qw.o.sT qL _⟩
 have zb:((n':Int)==0)=false:=(by have:=hy.iw;exact yK.2 qO);clear hx hy
 go_wp2_with fail
 refine(bL A' n' c' _).r fun w1 qh=>?_;have qe:=qe.K qh;have qf:=qf.K qh;have qa:=qa.K qh;have ca:=qe.one.1;have cb:=qf.one.1;have qw:=Hx (qt.tr qh);have qm:=Hx (NX.o.K qh);have qH:=Hx (NY.o.K qh);clear qh;by_cases qM:x<18446744073709551616/\y<18446744073709551616
 ·obtain⟨qJ,qQ⟩:=qM
  go_wp2_with fail
  refine(kJ A n c x _ qm.o qJ).r fun w2 qg=>?_;have qf:=qf.K qg;have qa:=qa.K qg;have cb:=qf.one.1;have qA:=Hx (qw.o.tr qg);have qo:=Hx (qH.o.K qg);clear qg
  go_wp2_with fail
  refine(kJ A' n' c' y _ qo.o qQ).r fun w3 qj=>?_;have qa:=qa.K qj;have qx:=Hx (qA.o.tr qj);clear qj;go_wp2
  go_loopw [5,7] (fun t5 t7 wr=>∃(p q m:Nat),t5=.int .u64 p/\t7=.int .u64 q/\p<18446744073709551616/\q<18446744073709551616/\Nat.gcd p q=Nat.gcd a b/\wr=w3.drewN m) (fun _ t7 _=>(intOf t7).toNat)
  case atStart=>exact⟨x,y,0,rfl,rfl,qJ,qQ,G.o,rfl⟩
  obtain⟨p,q,m,rfl,rfl,hp,hq,qX,rfl⟩:=hrel;have GP:=Hx qX;clear qX;by_cases qB:q=0
  ·subst qB
   have qi:p=Nat.gcd a b:=(by rw[<-GP.o,Nat.gcd_zero_right]);have HF:=Hx qi;clear qi
   go_wp2_with fail
   refine(lB p _ qO qO).mono ?_;rintro e w5 ⟨A5,n5,c5,rfl,qY,qy⟩;have qa:=(qa.drewN m).K qy;obtain⟨d2,f2⟩:=qa.one;have vi:=Hx ((qx.o.drewN m).tr qy);have R5:=Hx qY;clear qy qY;go_wp2;refine bodyPost_ret (v:=.agg #[.s A5 n5 c5]) (by simp[results,results125,go_sem,(qa.sT 0 _).cell]) rfl ⟨_,_,_,rfl,?_,vi.o.sT qL _⟩;have:=R5.o.sT (p:=(aD (w.heap.size+1+1) 0)) qa qD (.s A5 n5 c5);rw[xL,HF.o]at this;exact this
  have vm:((q:Int) !=0)=true:=bne_iff_ne.2 qO;have vg:¬q=0:=qB;obtain⟨r,hr⟩:∃r,r=p%q:=⟨_,rfl⟩;have vk:(p:Int).tmod q=(r:Int):=(by rw[Int.tmod_eq_emod_of_nonneg qO,hr];simp);have vj:r<q:=(by rw[hr];exact xT _ qO);have HR:=Hx hr;clear hr qB;go_wp2
  go_quiet (fail)
  go_wp2
  go_roundw
  case rel=>exact⟨q,r,m+nq,rfl,rfl,hq,qO,by rw[HR.o, <-GP.o,Nat.gcd_comm p q,Nat.gcd_rec q p,Nat.gcd_comm],by rw[World.drewN_drewN]⟩
  simp[intOf];omega
 have qn:=qW.o (qV.o qO) x y qO;have HD:=Hx qn;obtain⟨v1,qz,qZ,q5⟩:∃(v:Int) (bl:Bool),Calls prog 172 #[.agg #[.s A n c]] w1 (fun e w'=>e=.returned (.tuple #[.int .u64 v,.bool bl])/\Ext w1 w')/\(bl=true->18446744073709551616<=y):=by
  rcases Bc x 18446744073709551616 with h|h
  ·exact⟨_,_,kJ A n c x _ qm.o h,fun _=>qO⟩
  exact⟨_,_,nB A n c x _ qm.o h,fun h=>by cases h⟩
 have qU:=Hx qZ;have qT:=Hx q5;clear qn qM qW qZ q5
 go_wp2_with fail
 refine qU.o.mono ?_;rintro e w2 ⟨rfl,qg⟩;have qe:=qe.K qg;have qf:=qf.K qg;have qa:=qa.K qg;have cb:=qf.one.1;have qA:=Hx (qw.o.tr qg);have vd:=Hx (qm.o.K qg);have qo:=Hx (qH.o.K qg);obtain⟨v2,vh,qC,q4⟩:∃(v:Int) (bl:Bool),Calls prog 172 #[.agg #[.s A' n' c']] w2 (fun e w'=>e=.returned (.tuple #[.int .u64 v,.bool bl])/\Ext w2 w')/\(18446744073709551616<=y->bl=false):=by
  rcases Bc y 18446744073709551616 with h|h
  ·exact⟨_,_,kJ A' n' c' y _ qo.o h,fun _=>qO⟩
  exact⟨_,_,nB A' n' c' y _ qo.o h,fun _=>rfl⟩
 have q2:=Hx qC;have q1:=Hx q4;clear qg qC q4 qU
 go_wp2_with fail
 refine q2.o.mono ?_;rintro e w3 ⟨rfl,qj⟩;have qe:=qe.K qj;have qf:=qf.K qj;have qa:=qa.K qj;have ca:=qe.one.1;have cb:=qf.one.1;have qx:=Hx (qA.o.tr qj);have q8:=Hx (vd.o.K qj);have q3:=Hx (qo.o.K qj);have q7:qz=false\/(qz=true/\vh=false):=by
  cases qz
  ·exact .inl rfl
  exact .inr ⟨rfl,q1.o (qT.o rfl)⟩
 clear qj q2 qT q1;rcases q7 with rfl|⟨rfl,rfl⟩
 all_goals
  go_wp2_with fail
  refine(HD.o A A' n c n' c' _ q8.o q3.o hn q0).mono ?_;rintro e w4 ⟨B1,k1,d1,B2,k2,d2,rfl,hQ,hR,qk⟩;have qe:=qe.K qk;have qf:=qf.K qk;have qa:=qa.K qk;have z0:=qe.lt;have z1:=qf.lt;have f0:=qe.one.2;have f1:=qf.one.2;have ca:=qe.one.1;have cb:=qf.one.1;have vc:=Hx (qx.o.tr qk);have q6:=Hx (q3.o.K qk);have qI:=Hx hR;clear qk hQ hR;go_wp2
  go_region
  go_wp2;have hm:x%y<y:=xT _ qO;have b0:=(qe.sT 0 (.s A' n' c')).far (p:=(aD (w.heap.size+1) 0)) qL (.s B2 k2 d2);have b1:=(qf.far (p:=(aD w.heap.size 0)) qL (.s A' n' c'));have b2:=(qa.far (p:=(aD w.heap.size 0)) qL (.s A' n' c')).far (p:=(aD (w.heap.size+1) 0)) qL (.s B2 k2 d2);have q9:=(q6.o.sT (p:=(aD w.heap.size 0)) qe qD (.s A' n' c')).sT (p:=(aD (w.heap.size+1) 0)) b1 qD (.s B2 k2 d2);have ve:=(qI.o.sT (p:=(aD w.heap.size 0)) qe qD (.s A' n' c')).sT (p:=(aD (w.heap.size+1) 0)) b1 qD (.s B2 k2 d2);have e5:=(vc.o.sT (p:=(aD w.heap.size 0)) qL (.s A' n' c')).sT (p:=(aD (w.heap.size+1) 0)) qL (.s B2 k2 d2)
  go_roundg (x%y)
  case measure=>omega
  have e6:Ext ((w4.setCell (aD w.heap.size 0) (.s A' n' c')).setCell (aD (w.heap.size+1) 0) (.s B2 k2 d2)) ((((w4.setCell (aD w.heap.size 0) (.s A' n' c')).setCell (aD (w.heap.size+1) 0) (.s B2 k2 d2)).alloc (.cells #[.s B1 k1 d1] 31)).alloc (.cells #[.s B2 k2 d2] 31)).drew:=(((eR _).alloc _).alloc _).drewN 1;refine⟨A',B2,n',c',k2,d2,y,x%y,trivial,yX _,?_,?_,?_,?_,?_,q0,?_,?_,?_,?_⟩
  ·exact b0.K e6
  ·exact(b1.sT 0 (.s B2 k2 d2)).K e6
  ·exact b2.K e6
  ·exact q9.K e6
  ·exact ve.K e6
  ·have:=qI.o.wm q6.o qO;omega
  ·rw[<-G.o,Nat.gcd_comm x y,Nat.gcd_rec y x,Nat.gcd_comm]
  ·intro h;exact qV.o (.inr qO)
  exact e5.tr e6
end Go.Proofs.YtfeeacaofjpkaaaGreatDoor
namespace Go.Proofs.YtfeeacaofjpkaaaGreatDoor
open Go.Proofs.Tryz
def Am(neg:Bool)(n d:Nat):Rat:=mkRat (if neg then-(n:Int)else n) d
def tL(neg:Bool)(n:Nat):(if neg then-(n:Int)else n).natAbs=n:=by cases neg <;> simp
def nC(neg:Bool){n d:Nat}(hd:d≠0):(Am neg n d).num.natAbs=n/n.gcd d:=by
 unfold Am;rw[Rat.mkRat_def,dif_neg hd,Rat.normalize_eq];simp only[tL];cases neg;{simp only[Jr,if_false];rw[<-Int.natCast_ediv,Int.natAbs_natCast]};simp only[if_true];rw[Int.neg_ediv_of_dvd (Int.natCast_dvd_natCast.2 (Nat.gcd_dvd_left n d)), <-Int.natCast_ediv,Int.natAbs_neg,Int.natAbs_natCast]
def nD(neg:Bool){n d:Nat}(hd:d≠0):(Am neg n d).den=d/n.gcd d:=by
 unfold Am;rw[Rat.mkRat_def,dif_neg hd,Rat.normalize_eq];simp only[tL]
def tM(neg:Bool){n d:Nat}(hd:d≠0):decide ((Am neg n d).num<0)=(neg&&n !=0):=by
 unfold Am;rw[Rat.mkRat_def,dif_neg hd,Rat.normalize_eq];simp only[tL];have hg:0<n.gcd d:=Nat.gcd_pos_of_pos_right n qO;cases neg;{simp only[Jr,if_false,Bool.false_and,decide_eq_false_iff_not];rw[<-Int.natCast_ediv];exact Int.not_lt.2 (Int.natCast_nonneg _)};simp only[if_true,IX];rw[Int.neg_ediv_of_dvd (Int.natCast_dvd_natCast.2 (Nat.gcd_dvd_left n d)), <-Int.natCast_ediv];by_cases h0:n=0;{subst h0;simp};have:0<n/n.gcd d:=Nat.div_pos (Nat.le_of_dvd qO (Nat.gcd_dvd_left n d)) hg;have h1:(n !=0)=true:=(by simpa using h0);rw[h1];simp;omega
def jza0(q:Rat):Am (decide (q.num<0)) q.num.natAbs q.den=q:=by
 unfold Am;have:(if decide (q.num<0)=true then-(q.num.natAbs:Int)else q.num.natAbs)=q.num:=(by by_cases h:q.num<0 <;> simp[h] <;> omega);rw[this,Rat.mkRat_self]
def dk(q:Rat):Nat:=if q.den=1 then 0 else q.den
def dn(d:Nat):Nat:=if d=0 then 1 else d
def iV(q:Rat):dn (dk q)=q.den:=by
 unfold dn dk;have:=q.den_nz;split <;> (try split at*) <;> omega
def lE(q:Rat):dk q=0↔q.den=1:=by
 unfold dk;have:=q.den_nz;split <;> omega
open Go.RowKit
def aC(w:World)(neg:Bool)(A:OA)(n c:Nat)(A':OA)(n' c':Nat)(q:Rat):Prop:=
 neg=decide (q.num<0)/\aE w A n c q.num.natAbs/\aE w A' n' c' (dk q)
section
variable {w w':World} {neg:Bool} {A:Option Addr} {n c:Nat} {A':Option Addr} {n' c':Nat} {q:Rat}
def aC.K(h:aC w neg A n c A' n' c' q)(hb:Ext w w'):aC w' neg A n c A' n' c' q:=⟨h.1,h.2.1.K hb,h.2.2.K hb⟩
def aC.sT(h:aC w neg A n c A' n' c' q){p:Addr}{t':TypeId}{cs':Array Value}(hp:ak w p.block t' cs')(hne:196≠t')(u:Value):aC (w.setCell p u) neg A n c A' n' c' q:=
 ⟨h.1,h.2.1.sT hp hne u,h.2.2.sT hp hne u⟩
end
def eM(w:World)(q:Rat)(e:Ending)(w':World):Prop:=
 ∃(neg:Bool) (A:OA) (n c:Nat) (A':OA) (n' c':Nat),e=.returned (.agg #[.bool neg,.s A n c,.s A' n' c'])/\aC w' neg A n c A' n' c' q/\Ext w w'
def pG{w w1}{g N:Nat}{A}{n c:Nat}{z:Value}{t:TypeId}(hb:ak w1 g t #[z])(ht:196≠t)(hR:aE w1 A n c N)(hx:Ext w w1)(hg:w.heap.size<=g):
 kH w N (.returned (.agg #[.s A n c])) (w1.setCell (aD g 0) (.s A n c)):=⟨_,_,_,rfl,hR.sT hb ht _,hx.sT hg _⟩
def nE A(n c N:Nat)w(h:aE w A n c N):
  Calls prog 124 #[.agg #[.s A n c]] w fun e w'=>e=.returned (.bool (decide (N=1)))/\Ext w w':=by
 have H:=Hx h;clear h;obtain⟨qf,e0⟩:=aU w #[.s A n c] 31;have qa:(N<18446744073709551616/\((N:Int)==1)=decide (N=1))\/(18446744073709551616<=N/\decide (N=1)=false):=(by (rcases Bc N 18446744073709551616 with h|h);{refine .inl ⟨h,?_⟩;by_cases h1:N=1;{simp[h1]};rw[yK.2 qO];simp[h1]};exact .inr ⟨h,by simp;omega⟩);(generalize decide (N=1)=b at*;rcases qa with⟨hN,hb⟩|⟨hN,rfl⟩);{go_enter func124,ntmps124;go_wp2_with fail;refine(kJ A n c N _ (H.o.K e0) hN).r fun w1 qe=>?_;have HX:=Hx (e0.tr qe);clear qe e0 qf;go_wp2;go_ret;exact⟨rfl,HX.o⟩};go_enter func124,ntmps124;go_wp2_with fail;refine(nB A n c N _ (H.o.K e0) qO).r fun w1 qe=>?_;have HX:=Hx (e0.tr qe);clear qe e0 qf;go_wp2;go_ret;exact⟨rfl,HX.o⟩
def kK A1 A2(n1 c1 n2 c2 a d:Nat)w(h1:aE w A1 n1 c1 a)(h2:aE w A2 n2 c2 d)(hn1:n1<=1073741824)(hn2:n2<=1073741824):
  Calls prog 57 #[.agg #[.s A1 n1 c1],.agg #[.s A2 n2 c2]] w (kH w (a*dn d)):=by
 have H1:=Hx h1;have H2:=Hx h2;obtain⟨qf,qg,qa,e0⟩:=fP w #[.s A1 n1 c1] 31 #[.s A2 n2 c2] 31 #[zN] 31;by_cases h0:d=0;{(have zb:((n2:Int)==0)=true:=by have:=h2.iw;simp;omega);have hv:a*dn d=a:=(by unfold dn;rw[qE h0,Nat.mul_one]);rw[hv];clear h1 h2 hv h0;go_enter func57,ntmps57;go_wp2_with fail;refine(bL A2 n2 c2 _).r fun w1 qe=>?_;have qf:=qf.K qe;have qa:=qa.K qe;have ca:=qf.one.1;obtain⟨d2,f2⟩:=qa.one;have HX:=Hx (e0.tr qe);clear qe e0;go_wp2;exact bodyPost_ret (v:=.agg #[.s A1 n1 c1]) (by simp[results,results57,go_sem,(qa.sT 0 _).cell]) rfl (pG qa qD (H1.o.K HX.o) HX.o qO)};have zb:((n2:Int)==0)=false:=(by have:=h2.iw;exact yK.2 qO);have hv:a*dn d=a*d:=(by unfold dn;rw[qF h0]);rw[hv];clear h1 h2 hv h0;go_enter func57,ntmps57;go_wp2_with fail;refine(bL A2 n2 c2 _).r fun w1 qe=>?_;have qf:=qf.K qe;have qg:=qg.K qe;have qa:=qa.K qe;have ca:=qf.one.1;have cb:=qg.one.1;have HX:=Hx (e0.tr qe);clear qe e0;go_wp2_with fail;refine(jzay A1 A2 n1 c1 n2 c2 a d _ (H1.o.K HX.o) (H2.o.K HX.o) hn1 hn2).mono ?_;rintro e w2 ⟨A,n,c,rfl,hR,qh⟩;have qa:=qa.K qh;obtain⟨d2,f2⟩:=qa.one;have qi:=Hx (HX.o.tr qh);have R:=Hx hR;clear qh hR;go_wp2;exact bodyPost_ret (v:=.agg #[.s A n c]) (by simp[results,results57,go_sem,(qa.sT 0 _).cell]) rfl (pG qa qD R.o qi.o qO)
def jzig{w}{A}{n c N:Nat}(neg:Bool)(h:aE w A n c N):aC w (neg&&N !=0) A n c none 0 0 (Am neg N 1):=by
 refine⟨(tM neg qO).symm,?_,?_⟩;{rw[nC neg qO,Nat.gcd_one_right,Nat.div_one];exact h};have:dk (Am neg N 1)=0:=(by rw[lE,nD neg qO,Nat.gcd_one_right]);rw[this];exact aE.zero _ _ _
def eZ{w w1}{g:Nat}{q:Rat}{neg:Bool}{A}{n c:Nat}{A'}{n' c':Nat}{z:Array Value}{t:TypeId}(hb:ak w1 g t z)(ht:196≠t)(hR:aC w1 neg A n c A' n' c' q)(hx:Ext w w1)(hg:w.heap.size<=g):
  eM w q (.returned (.agg #[.bool neg,.s A n c,.s A' n' c'])) (((w1.setCell (aD g 0) (.bool neg)).setCell (aD g 1) (.s A n c)).setCell (aD g 2) (.s A' n' c')):=
 ⟨_,_,_,_,_,_,_,rfl,((hR.sT hb ht _).sT (p:=(aD g 1)) (hb.sT 0 _) ht _).sT (p:=(aD g 2)) ((hb.sT 0 _).sT 1 _) ht _,((hx.sT hg _).sT (p:=(aD g 1)) hg _).sT (p:=(aD g 2)) hg _⟩
def eM.drew{w w'}{q:Rat}{e:Ending}(h:eM w q e w'):eM w q e w'.drew:=by
 obtain⟨neg,A,n,c,A',n',c',he,hr,hx⟩:=h;exact⟨neg,A,n,c,A',n',c',he,hr.K ((eR _).drewN 1),hx.drewN 1⟩
def mA(neg:Bool)A(n c N:Nat)w(h:aE w A n c N):
  Calls prog 54 #[.bool neg,.agg #[.s A n c]] w (eM w (Am neg N 1)):=by
 obtain⟨qa,qe,e0⟩:=cN w #[.s A n c] 31 #[.bool false,zN,zN] 33;have hw:∀w',Ext w w'->aC w' (neg&&N !=0) A n c none 0 0 (Am neg N 1):=fun w' hx=>jzig neg (h.K hx);have hw:=Hx hw;have hz:(!((n:Int)==0))=(N !=0):=(by have:=h.iw;by_cases h0:N=0;{(have:n=0:=by omega);subst this;subst h0;rfl};have:n≠0:=qO;rw[yK.2 qO,bne_iff_ne.2 h0];rfl);generalize hnz:(N !=0)=nz at*;clear h hnz;cases neg;{go_enter func54,ntmps54;go_wp2;(go_region);go_wp2;exact bodyPost_ret (v:=.agg #[.bool false,.s A n c,zN]) (by simp[results,results54,go_sem]) rfl ⟨_,_,_,_,_,_,_,rfl,hw.o _ ((((eR w).alloc _).alloc _).drewN 1),(((eR w).alloc _).alloc _).drewN 1⟩};have qa:=qa;have qa:ak ((w.alloc (.cells #[.s A n c] 31)).alloc (.cells #[.bool false,zN,zN] 33)).drew _ _ _:=qa;have qe:ak ((w.alloc (.cells #[.s A n c] 31)).alloc (.cells #[.bool false,zN,zN] 33)).drew _ _ _:=qe;have e0:Ext w ((w.alloc (.cells #[.s A n c] 31)).alloc (.cells #[.bool false,zN,zN] 33)).drew:=e0.drewN 1;have ca:=qa.one.1;go_enter func54,ntmps54;go_wp2
 go_region_held3 (fun w'=>w'.cell? (aD w.heap.size 0)=some (.s A n c)) (first|exact ca|go_keep)
  (first|(go_at_call 58;refine(bL _ _ _ _).mono ?_;rintro e w1 ⟨rfl,qf⟩;have qa:=qa.K qf;have qe:=qe.K qf;have qg:=Hx (e0.tr qf);obtain⟨ca,_⟩:=qa.one;obtain⟨⟨c0,c1,c2⟩,f0,f1,f2⟩:=qe.t3;clear qf))
 go_wp2;exact bodyPost_ret (v:=.agg #[.bool nz,.s A n c,zN]) (by simp[results,results54,go_sem,(((qe.sT 0 _).sT 1 _).sT 2 _).cell]) rfl (eZ qe qD (hw.o _ qg.o) qg.o qO)
def jzih(neg:Bool)(d:Nat):Am neg 0 d=Am neg 0 1:=by
 unfold Am;have:(if neg=true then-((0:Nat):Int)else((0:Nat):Int))=0:=(by cases neg <;> rfl);rw[this];simp
def jzii(neg:Bool){n d g:Nat}(hd:d≠0)(hg:g=n.gcd d):Am neg n d=Am neg (n/g) (d/g):=by
 subst hg;have hg:0<n.gcd d:=Nat.gcd_pos_of_pos_right n qO;have qa:d/n.gcd d≠0:=(by have:=Nat.div_pos (Nat.le_of_dvd qO (Nat.gcd_dvd_right n d)) hg;omega);unfold Am;rw[Rat.mkRat_eq_iff hd qa];have e1:n=n/n.gcd d*n.gcd d:=(Nat.div_mul_cancel (Nat.gcd_dvd_left n d)).symm;have e2:d=d/n.gcd d*n.gcd d:=(Nat.div_mul_cancel (Nat.gcd_dvd_right n d)).symm;have e:(n:Int)*((d/n.gcd d:Nat):Int)=((n/n.gcd d:Nat):Int)*(d:Int):=(by rw[<-Ii, <-Ii];congr 1;generalize hG:n.gcd d=G at*;generalize n/G=x at*;generalize d/G=y at*;rw[e1,e2];simp only[vE,Nat.mul_left_comm]);cases neg;{simpa using e};simp only[if_true,Int.neg_mul];rw[e]
def jza1{w}{neg:Bool}{A}{n c:Nat}{A'}{n' c' N D:Nat}(h:aE w A n c N)(h':aE w A' n' c' D)(hN:N≠0)(hD:D≠0)(hD1:D≠1)(hg:N.gcd D=1):
  aC w neg A n c A' n' c' (Am neg N D):=by
 refine⟨?_,?_,?_⟩;{rw[tM neg hD,bne_iff_ne.2 hN,Bool.and_true]};{rw[nC neg hD,hg,Nat.div_one];exact h};have:dk (Am neg N D)=D:=(by unfold dk;rw[nD neg hD,hg,Nat.div_one,qF hD1]);rw[this];exact h'
def jzij(neg:Bool)A1 A2(n1 c1 n2 c2 N D:Nat)w(h1:aE w A1 n1 c1 N)(h2:aE w A2 n2 c2 D)(h:N=0\/D=1):
  Calls prog 59 #[.bool neg,.agg #[.s A1 n1 c1],.agg #[.s A2 n2 c2]] w (eM w (Am neg N D)):=by
 have H1:=Hx h1;have H2:=Hx h2;have hq:Am neg N D=Am neg N 1:=(by (rcases h with h|h);{rw[h,jzih]};rw[h]);rw[hq];obtain⟨qf,qj,qa,e0⟩:=fP w #[.s A1 n1 c1] 31 #[.s A2 n2 c2] 31 rV 33;by_cases h0:N=0;{(have zb:((n1:Int)==0)=true:=by have:=h1.iw;simp;omega);clear h1 h2 h hq h0;go_enter func59,ntmps59;go_wp2_with fail;refine(bL A1 n1 c1 _).r fun w1 qe=>?_;have qf:=qf.K qe;have qa:=qa.K qe;have ca:=qf.one.1;have HX:=Hx (e0.tr qe);clear qe e0;go_wp2_with fail;refine(mA neg A1 n1 c1 N _ (H1.o.K HX.o)).mono ?_;rintro e w2 ⟨ng,A,n,c,A',n',c',rfl,hR,qg⟩;have qa:=qa.K qg;obtain⟨⟨k0,k1,k2⟩,f0,f1,f2⟩:=qa.t3;have qi:=Hx (HX.o.tr qg);have R:=Hx hR;clear qg hR;go_wp2;exact bodyPost_ret (v:=.agg #[.bool ng,.s A n c,.s A' n' c']) (by simp[results,results59,go_sem,(((qa.sT 0 _).sT 1 _).sT 2 _).cell]) rfl (eZ qa qD R.o qi.o qO)};have zb:((n1:Int)==0)=false:=(by have:=h1.iw;exact yK.2 qO);have qk:decide (D=1)=true:=(by simp;omega);have HD:=Hx qk;clear h1 h2 h hq h0 qk;go_enter func59,ntmps59;go_wp2_with fail;refine(bL A1 n1 c1 _).r fun w1 qe=>?_;have qf:=qf.K qe;have qj:=qj.K qe;have qa:=qa.K qe;have cb:=qj.one.1;have HX:=Hx (e0.tr qe);clear qe e0;go_wp2_with fail;refine(nE A2 n2 c2 D _ (H2.o.K HX.o)).r fun w3 qh=>?_;rw[HD.o];have qf:=qf.K qh;have qa:=qa.K qh;have ca:=qf.one.1;have HX:=Hx (HX.o.tr qh);clear qh;go_wp2_with fail;refine(mA neg A1 n1 c1 N _ (H1.o.K HX.o)).mono ?_;rintro e w2 ⟨ng,A,n,c,A',n',c',rfl,hR,qg⟩;have qa:=qa.K qg;obtain⟨⟨k0,k1,k2⟩,f0,f1,f2⟩:=qa.t3;have qi:=Hx (HX.o.tr qg);have R:=Hx hR;clear qg hR;go_wp2;exact bodyPost_ret (v:=.agg #[.bool ng,.s A n c,.s A' n' c']) (by simp[results,results59,go_sem,(((qa.sT 0 _).sT 1 _).sT 2 _).cell]) rfl (eZ qa qD R.o qi.o qO)
def jzik(neg:Bool)A1 A2(n1 c1 n2 c2 N D:Nat)w(h1:aE w A1 n1 c1 N)(h2:aE w A2 n2 c2 D)(hn1:n1<=1073741824)(hn2:n2<=1073741824)(hN:N≠0)(hD:D≠0)(hD1:D≠1)
  (hdm:18446744073709551616<=N\/18446744073709551616<=D->∀x y,0<y->lD x y):
  Calls prog 59 #[.bool neg,.agg #[.s A1 n1 c1],.agg #[.s A2 n2 c2]] w (eM w (Am neg N D)):=by
 have H1:=Hx h1;have H2:=Hx h2;have qU:=Hx hdm;have qn:0<N.gcd D:=Nat.gcd_pos_of_pos_left D qO;have qz:N.gcd D<=N:=Nat.le_of_dvd qO (Nat.gcd_dvd_left N D);have qQ:lD N (N.gcd D):=(by (rcases Bc N 18446744073709551616 with h|h);{exact tK qn h};exact hdm (.inl h) _ _ qn);have qJ:lD D (N.gcd D):=(by (rcases Bc D 18446744073709551616 with h|h);{exact tK qn h};exact hdm (.inr h) _ _ qn);have qZ:=Hx qQ;have q1:=Hx qJ;obtain⟨qf,qe,qa,e0⟩:=fP w #[.s A1 n1 c1] 31 #[.s A2 n2 c2] 31 rV 33;have zb:((n1:Int)==0)=false:=(by have:=h1.iw;exact yK.2 qO);have qi:decide (D=1)=false:=(by simp;omega);have qY:=Hx qi;have hq:=Hx (jzii neg (n:=N) (g:=N.gcd D) hD rfl);clear h1 h2 qi qQ qJ hdm;go_enter func59,ntmps59;go_wp2_with fail;refine(bL A1 n1 c1 _).r fun w1 qB=>?_;have qf:=qf.K qB;have qe:=qe.K qB;have qa:=qa.K qB;have cb:=qe.one.1;have HX:=Hx (e0.tr qB);clear qB e0;go_wp2_with fail;refine(nE A2 n2 c2 D _ (H2.o.K HX.o)).r fun w3 qy=>?_;rw[qY.o];have qf:=qf.K qy;have qe:=qe.K qy;have qa:=qa.K qy;have ca:=qf.one.1;have cb:=qe.one.1;have HX:=Hx (HX.o.tr qy);clear qy;go_wp2_with fail;refine(jzif A1 A2 n1 c1 n2 c2 N D _ (H1.o.K HX.o) (H2.o.K HX.o) hn1 hn2 qU.o).mono ?_;rintro e w4 ⟨A3,n3,c3,rfl,hG,qp⟩;have z4:w.heap.size+1+1<w4.heap.size:=(qa.K qp).lt;have qf:=(qf.K qp).alloc (.cells #[.s A3 n3 c3] 31);have qe:=(qe.K qp).alloc (.cells #[.s A3 n3 c3] 31);have qa:=(qa.K qp).alloc (.cells #[.s A3 n3 c3] 31);have qt:=eN w4 31 #[.s A3 n3 c3];have qT:=Hx ((HX.o.tr qp).alloc (.cells #[.s A3 n3 c3] 31));have G4:=Hx (hG.K ((eR w4).alloc (.cells #[.s A3 n3 c3] 31)));have q4:n3<=n1:=hG.wm H1.o qz;clear qp hG qU;go_wp2_with fail;refine(nE A3 n3 c3 (N.gcd D) _ G4.o).r fun w5 qk=>?_;have qf:=qf.K qk;have qe:=qe.K qk;have qa:=qa.K qk;have qt:=qt.K qk;have ca:=qf.one.1;have cb:=qe.one.1;have cg:=qt.one.1;have qH:=Hx (qT.o.tr qk);have G5:=Hx (G4.o.K qk);clear qk qT;by_cases qA:N.gcd D=1
 ·(have qC:decide (N.gcd D=1)=true:=by simpa using qA);rw[qC];have q3:=Hx qA;clear qC qA;go_wp2_with fail
  refine(nE A2 n2 c2 D _ (H2.o.K qH.o)).r fun w6 qg=>?_;rw[qY.o];have qf:=qf.K qg;have qe:=qe.K qg;have qa:=qa.K qg;have ca:=qf.one.1;have cb:=qe.one.1;obtain⟨⟨k0,k1,k2⟩,f0,f1,f2⟩:=qa.t3;have qo:=Hx (qH.o.tr qg);clear qg;go_wp2;exact bodyPost_ret (v:=.agg #[.bool neg,.s A1 n1 c1,.s A2 n2 c2]) (by simp[results,results59,go_sem,(((qa.sT 0 _).sT 1 _).sT 2 _).cell]) rfl
   (eZ qa qD (jza1 (H1.o.K qo.o) (H2.o.K qo.o) hN hD hD1 q3.o) qo.o qO)
 have qC:decide (N.gcd D=1)=false:=(by simpa using qA);rw[qC];clear qC qA;go_wp2_with fail;refine(qZ.o A1 A3 n1 c1 n3 c3 _ (H1.o.K qH.o) G5.o hn1 qO).mono ?_;rintro e w6 ⟨B1,k1,d1,_,_,_,rfl,hQ,_,qg⟩;have qj:=qf.K qg;have qe:=(qe.K qg).far (p:=(aD w.heap.size 0)) qL (.s B1 k1 d1);have qa:=(qa.K qg).far (p:=(aD w.heap.size 0)) qL (.s B1 k1 d1);have qt:=(qt.K qg).far (p:=(aD w.heap.size 0)) qL (.s B1 k1 d1);have qf:=qj.sT 0 (.s B1 k1 d1);simp only[yD,yE]at qf;obtain⟨a6,g6⟩:=qj.one;have cb:=qe.one.1;have cg:=qt.one.1;have qo:=Hx ((qH.o.tr qg).sT (p:=(aD w.heap.size 0)) qS (.s B1 k1 d1));have G6:=Hx ((G5.o.K qg).sT (p:=(aD w.heap.size 0)) qj qD (.s B1 k1 d1));have Q6:=Hx (hQ.sT (p:=(aD w.heap.size 0)) qj qD (.s B1 k1 d1));clear qg hQ qH;go_wp2_with fail;refine(q1.o A2 A3 n2 c2 n3 c3 _ (H2.o.K qo.o) G6.o hn2 qO).mono ?_;rintro e w7 ⟨B3,k3,d3,_,_,_,rfl,hS,_,qw⟩;have qh:=qe.K qw;have qf:=(qf.K qw).far (p:=(aD (w.heap.size+1) 0)) qL (.s B3 k3 d3);have qa:=(qa.K qw).far (p:=(aD (w.heap.size+1) 0)) qL (.s B3 k3 d3);have qe:=qh.sT 0 (.s B3 k3 d3);simp only[yD,yE]at qe;obtain⟨a7,g7⟩:=qh.one;have ca:=qf.one.1;have cb:=qe.one.1;have qM:=Hx ((qo.o.tr qw).sT (p:=(aD (w.heap.size+1) 0)) qS (.s B3 k3 d3));have Q7:=Hx ((Q6.o.K qw).sT (p:=(aD (w.heap.size+1) 0)) qh qD (.s B3 k3 d3));have S7:=Hx (hS.sT (p:=(aD (w.heap.size+1) 0)) qh qD (.s B3 k3 d3));clear qw hS qo;go_wp2_with fail;refine(nE B3 k3 d3 (D/N.gcd D) _ S7.o).r fun w8 qm=>?_;have qf:=qf.K qm;have qe:=qe.K qm;have qa:=qa.K qm;have ca:=qf.one.1;have cb:=qe.one.1;have qX:=Hx (qM.o.tr qm);have Q8:=Hx (Q7.o.K qm);have S8:=Hx (S7.o.K qm);clear qm qM;by_cases qi:D/N.gcd D=1;{(have qx:decide (D/N.gcd D=1)=true:=by simpa using qi);rw[qx];have HQ:=Hx (qi▸hq.o);clear qx qi;go_wp2_with fail;refine(mA neg B1 k1 d1 (N/N.gcd D) _ Q8.o).mono ?_;rintro e w9 ⟨ng,A,n,c,A',n',c',rfl,hR,qI⟩;have qa:=qa.K qI;obtain⟨⟨k0,q2,k2⟩,f0,f1,f2⟩:=qa.t3;have q0:=Hx (qX.o.tr qI);have R:=Hx hR;clear qI hR;go_wp2;exact bodyPost_ret (v:=.agg #[.bool ng,.s A n c,.s A' n' c']) (by simp[results,results59,go_sem,(((qa.sT 0 _).sT 1 _).sT 2 _).cell]) rfl (by rw[HQ.o];exact eZ qa qD R.o q0.o qO)}
 have qx:decide (D/N.gcd D=1)=false:=(by simpa using qi);rw[qx];obtain⟨⟨k0,q2,k2⟩,f0,f1,f2⟩:=qa.t3;have qV:N/N.gcd D≠0:=(by have:=Nat.div_pos qz qn;omega);have qW:D/N.gcd D≠0:=(by have:=Nat.div_pos (Nat.le_of_dvd qO (Nat.gcd_dvd_right N D)) qn;omega);have HF:=Hx (jza1 (neg:=neg) Q8.o S8.o qV qW qi (by rw[Nat.gcd_div (Nat.gcd_dvd_left N D) (Nat.gcd_dvd_right N D),Nat.div_self qn]));clear qx qi qV qW;go_wp2;exact bodyPost_ret (v:=.agg #[.bool neg,.s B1 k1 d1,.s B3 k3 d3]) (by simp[results,results59,go_sem,(((qa.sT 0 _).sT 1 _).sT 2 _).cell]) rfl
  (by rw[hq.o];exact eZ qa qD HF.o qX.o qO)
def tN(N D:Nat):Prop:=∀(neg:Bool) (A1 A2:OA) (n1 c1 n2 c2:Nat) (w:World),aE w A1 n1 c1 N->aE w A2 n2 c2 D->n1<=1073741824->n2<=1073741824->
 Calls prog 59 #[.bool neg,.agg #[.s A1 n1 c1],.agg #[.s A2 n2 c2]] w (eM w (Am neg N D))
def jzil{N D:Nat}(hD:D≠0)(hdm:18446744073709551616<=N\/18446744073709551616<=D->∀x y,0<y->lD x y):tN N D:=fun neg A1 A2 n1 c1 n2 c2 w h1 h2 hn1 hn2=>by
 by_cases h:N=0\/D=1;{exact jzij neg A1 A2 n1 c1 n2 c2 N D w h1 h2 h};{exact jzik neg A1 A2 n1 c1 n2 c2 N D w h1 h2 hn1 hn2 qO hD qO hdm}
def jzim(x:Int)(h0: -9223372036854775808<=x)(hx:x<0):IntKind.u64.wrap (-IntKind.u64.wrap x)= -x:=by
 rw[IntKind.wrap_u64,IntKind.wrap_u64];omega
def jzin(x:Int)w(h0: -9223372036854775808<=x)(h1:x<=9223372036854775807):
  Calls prog 53 #[vI x] w fun e w'=>∃(A:OA) (n c:Nat),e=.returned (.tuple #[.agg #[.s A n c],.bool (decide (x<0))])/\aE w' A n c x.natAbs/\Ext w w':=by
 obtain⟨qa,e0⟩:=aU w #[zN] 31;by_cases hx:x<0;{(have hd:decide (x<0)=true:=by simpa using hx);rw[hd];clear hd;go_enter func53,ntmps53;go_wp2_with fail;rw[jzim x h0 hx];refine(lB (-x) _ qO qO).mono ?_;rintro e w2 ⟨A5,n5,c5,rfl,hR,qe⟩;have hR:aE w2 A5 n5 c5 x.natAbs:=(by rw[show x.natAbs=(-x).toNat by omega];exact hR);have qa:=qa.K qe;obtain⟨c2,f2⟩:=qa.one;have qf:=Hx (e0.tr qe);have R:=Hx (hR);clear qe hR e0;go_wp2;exact bodyPost_ret (v:=.tuple #[.agg #[.s A5 n5 c5],.bool true]) (by simp[results,results53,go_sem,(qa.sT 0 _).cell]) rfl (⟨_,_,_,rfl,R.o.sT qa qD _,qf.o.sT qS _⟩)};have hd:decide (x<0)=false:=(by simpa using hx);rw[hd];clear hd;go_enter func53,ntmps53;go_wp2_with fail;refine(lB x _ qO qO).mono ?_;rintro e w2 ⟨A5,n5,c5,rfl,hR,qe⟩;have hR:aE w2 A5 n5 c5 x.natAbs:=(by rw[show x.natAbs=x.toNat by omega];exact hR);have qa:=qa.K qe;obtain⟨c2,f2⟩:=qa.one;have qf:=Hx (e0.tr qe);have R:=Hx (hR);clear qe hR e0;go_wp2;exact bodyPost_ret (v:=.tuple #[.agg #[.s A5 n5 c5],bF]) (by simp[results,results53,go_sem,(qa.sT 0 _).cell]) rfl (⟨_,_,_,rfl,R.o.sT qa qD _,qf.o.sT qS _⟩)
def jza2(neg:Bool)A(n c:Nat)A'(n' c':Nat)(q:Rat)w(h:aC w neg A n c A' n' c' q):
  Calls prog 60 #[.agg #[.bool neg,.s A n c,.s A' n' c']] w (kH w q.den):=by
 obtain⟨qg,qa,e0⟩:=cN w #[.bool neg,.s A n c,.s A' n' c'] 33 #[zN] 31;have H:=Hx (h.2.2);by_cases hd:q.den=1;{(have zb:((n':Int)==0)=true:=by have:=h.2.2.iw;rw[lE]at this;simp;omega);rw[hd];clear h hd;go_enter func60,ntmps60;go_wp2_with fail;refine(bL A' n' c' _).r fun w1 qe=>?_;have qa:=qa.K qe;have HX:=Hx (e0.tr qe);clear qe e0;go_wp2_with fail;refine(lB 1 _ qO qO).mono ?_;rintro e w2 ⟨A5,n5,c5,rfl,hR,qf⟩;have qa:=qa.K qf;obtain⟨c2,f2⟩:=qa.one;have qi:=Hx (HX.o.tr qf);have R:=Hx (hR);clear qf hR;go_wp2;exact bodyPost_ret (v:=.agg #[.s A5 n5 c5]) (by simp[results,results60,go_sem,(qa.sT 0 _).cell]) rfl (pG qa qD R.o qi.o qO)};have zb:((n':Int)==0)=false:=(by have:=h.2.2.iw;rw[lE]at this;exact yK.2 qO);have qh:dk q=q.den:=(by unfold dk;rw[qF hd]);rw[qh]at H;clear h hd qh;go_enter func60,ntmps60;go_wp2_with fail;refine(bL A' n' c' _).r fun w1 qe=>?_;have qg:=qg.K qe;have qa:=qa.K qe;obtain⟨⟨k0,k1,k2⟩,g0,g1,g2⟩:=qg.t3;obtain⟨c2,f2⟩:=qa.one;have HX:=Hx (e0.tr qe);clear qe e0;go_wp2;exact bodyPost_ret (v:=.agg #[.s A' n' c']) (by simp[results,results60,go_sem,(qa.sT 0 _).cell]) rfl (pG qa qD (H.o.K HX.o) HX.o qO)
def aB(q:Rat):Int:=if q.num=0 then 0 else if q.num<0 then-1 else 1
def dA(neg:Bool)A(n c:Nat)A'(n' c':Nat)(q:Rat)w(h:aC w neg A n c A' n' c' q):
  Calls prog 46 #[.agg #[.bool neg,.s A n c,.s A' n' c']] w fun e w'=>e=.returned (vI (aB q))/\Ext w w':=by
 obtain⟨qe,e0⟩:=aU w #[.bool neg,.s A n c,.s A' n' c'] 33;have qa:(((n:Int)==0)=true/\aB q=0)\/(((n:Int)==0)=false/\neg=true/\aB q= -1)\/(((n:Int)==0)=false/\neg=false/\aB q=1):=(by have h1:=h.2.1.iw;have h2:=h.1;unfold aB;by_cases h0:q.num=0;{exact .inl ⟨by simp;omega,by rw[qE h0]⟩};have:((n:Int)==0)=false:=yK.2 qO;by_cases hn:q.num<0;{exact .inr (.inl ⟨this,by rw[h2];simpa using hn,by rw[qF h0,qE hn]⟩)};exact .inr (.inr ⟨this,by rw[h2];simpa using hn,by rw[qF h0,qF hn]⟩));clear h;generalize aB q=s at*;rcases qa with⟨zb,rfl⟩|⟨zb,rfl,rfl⟩|⟨zb,rfl,rfl⟩
 all_goals
  go_enter func46,ntmps46
  go_wp2_with fail
  refine(bL A n c _).r fun w1 qf=>?_;have qe:=qe.K qf;obtain⟨⟨k0,k1,k2⟩,g0,g1,g2⟩:=qe.t3;have HX:=Hx (e0.tr qf);clear qf e0;go_wp2;go_ret;exact⟨rfl,HX.o⟩
def ofQ(x y:Int):Rat:=Am (decide (x<0) !=decide (y<0)) x.natAbs y.natAbs
def jzio{w}{A}{n c N:Nat}(h:aE w A n c N)(hN:N<18446744073709551616):n<=2:=by
 obtain⟨ds,rfl,_,hc,rfl,_⟩:=h;exact hc.wm iU (by rw[oZ];exact hN)
def pH(x:Int)w(h0: -9223372036854775808<=x)(h1:x<=9223372036854775807):
  Calls prog 15 #[vI x] w (eM w (Am (decide (x<0)) x.natAbs 1)):=by
 obtain⟨qa,e0⟩:=aU w rV 33;go_enter func15,ntmps15;go_wp2_with fail;refine(jzin x _ h0 h1).mono ?_;rintro e w1 ⟨A1,n1,c1,rfl,hN,qf⟩;have qa:=(qa.K qf).alloc (.cells #[.s A1 n1 c1] 31);have qi:=eN w1 31 #[.s A1 n1 c1];have qh:=Hx ((e0.tr qf).alloc (.cells #[.s A1 n1 c1] 31));have N1:=Hx (hN.K ((eR w1).alloc (.cells #[.s A1 n1 c1] 31)));clear qf hN e0;generalize hs:(decide (x<0))=s1 at*;clear hs;go_wp2_with fail;refine(mA s1 A1 n1 c1 x.natAbs _ N1.o).mono ?_;rintro e w3 ⟨ng,A,n,c,A',n',c',rfl,hR,qe⟩;have qa:=qa.K qe;obtain⟨⟨k0,k1,k2⟩,g0,g1,g2⟩:=qa.t3;have qg:=Hx (qh.o.tr qe);have R:=Hx (hR);clear qe hR;go_wp2;exact bodyPost_ret (v:=.agg #[.bool ng,.s A n c,.s A' n' c']) (by simp[results,results15,go_sem,(((qa.sT 0 _).sT 1 _).sT 2 _).cell]) rfl (eZ qa qD R.o qg.o (yX _))
def lF(neg:Bool)(n:Nat):Int:=if neg then-(n:Int)else n
def Gb(m:Bool)(a:Nat)(o:Bool)(b:Nat):Bool:=if m=o then m else if b<=a then m else o
def EM(m:Bool)(a:Nat)(o:Bool)(b:Nat):Nat:=if m=o then a+b else if b<=a then a-b else b-a
def jzip(m:Bool)(a:Nat)(o:Bool)(b:Nat):lF (Gb m a o b) (EM m a o b)=lF m a+lF o b:=by
 unfold lF Gb EM;cases m <;> cases o <;> by_cases h:b<=a <;> simp[h] <;> omega
def jziq(m o:Bool)A1 A2(n1 c1 n2 c2 a b:Nat)w(h1:aE w A1 n1 c1 a)(h2:aE w A2 n2 c2 b)(hn1:n1<=1073741824)(hn2:n2<=1073741824):
  Calls prog 56 #[.bool m,.agg #[.s A1 n1 c1],.bool o,.agg #[.s A2 n2 c2]] w fun e w'=>∃(A:OA) (n c:Nat),e=.returned (.tuple #[.bool (Gb m a o b),.agg #[.s A n c]])/\aE w' A n c (EM m a o b)/\Ext w w':=by
 obtain⟨qh,qi,qa,e0⟩:=fP w #[.s A1 n1 c1] 31 #[.s A2 n2 c2] 31 #[zN] 31;have H1:=Hx (h1);have H2:=Hx (h2);clear h1 h2;by_cases hm:m=o;{(have hB:Gb m a o b=m:=by unfold Gb;rw[qE hm]);have hV:EM m a o b=a+b:=(by unfold EM;rw[qE hm]);rw[hB,hV];subst hm;clear hB hV;go_enter func56,ntmps56;go_wp2_with fail;refine(jzh7 A1 A2 n1 c1 n2 c2 a b _ (H1.o.K e0) (H2.o.K e0) hn1 hn2).mono ?_;rintro e w1 ⟨A,n,c,rfl,hR,qe⟩;have qa:=qa.K qe;obtain⟨k,f⟩:=qa.one;have HX:=Hx (e0.tr qe);have R:=Hx (hR);clear qe hR e0;go_wp2;exact bodyPost_ret (v:=.tuple #[.bool m,.agg #[.s A n c]]) (by simp[results,results56,go_sem,(qa.sT 0 _).cell]) rfl (⟨_,_,_,rfl,R.o.sT qa qD _,HX.o.sT qL _⟩)};have qn:(m==o)=false:=(by simpa using hm);by_cases qj:b<=a;{(have hB:Gb m a o b=m:=by unfold Gb;rw[qF hm,qE qj]);have hV:EM m a o b=a-b:=(by unfold EM;rw[qF hm,qE qj]);rw[hB,hV];have hq:0<=aI a b:=(by unfold aI;rw[qF qO];split <;> omega);clear hB hV hm;go_enter func56,ntmps56;go_wp2_with fail;refine(lC A1 A2 n1 c1 n2 c2 a b _ (H1.o.K e0) (H2.o.K e0) qO).r fun w1 qe=>?_;have qh:=qh.K qe;have qi:=qi.K qe;have qa:=qa.K qe;have ca:=qh.one.1;have cb:=qi.one.1;have HX:=Hx (e0.tr qe);clear qe e0;generalize aI a b=q at*;go_wp2_with fail;refine(jzax A1 A2 n1 c1 n2 c2 a b _ (H1.o.K HX.o) (H2.o.K HX.o) hn1 qj).mono ?_;rintro e w2 ⟨A,n,c,rfl,hR,qf⟩;have qa:=qa.K qf;have zr:=qa.lt;have qg:=qa.alloc (.cells #[.s A n c] 31);obtain⟨k,f⟩:=qg.one;have qk:=Hx (HX.o.tr qf);have R:=Hx (hR);clear qf hR;go_wp2;go_region;go_wp2;exact bodyPost_ret (v:=.tuple #[.bool m,.agg #[.s A n c]]) (by simp[results,results56,go_sem,((qa.sT 0 (.s A n c)).alloc _).cell]) rfl (⟨_,_,_,rfl,((R.o.sT (p:=(aD (w.heap.size+1+1) 0)) qa qD _).K ((eR _).alloc _)).K ((eR _).drewN 1),((qk.o.sT (p:=(aD (w.heap.size+1+1) 0)) qL _).alloc _).drewN 1⟩)};have hB:Gb m a o b=o:=(by unfold Gb;rw[qF hm,qF qj]);have hV:EM m a o b=b-a:=(by unfold EM;rw[qF hm,qF qj]);rw[hB,hV];have hq:aI a b<0:=(by unfold aI;rw[qE qO];omega);have qm:a<=b:=qO;clear hB hV hm qj;go_enter func56,ntmps56;go_wp2_with fail;refine(lC A1 A2 n1 c1 n2 c2 a b _ (H1.o.K e0) (H2.o.K e0) qO).r fun w1 qe=>?_;have qh:=qh.K qe;have qi:=qi.K qe;have qa:=qa.K qe;have ca:=qh.one.1;have cb:=qi.one.1;have HX:=Hx (e0.tr qe);clear qe e0;generalize aI a b=q at*;go_wp2_with fail;refine(jzax A2 A1 n2 c2 n1 c1 b a _ (H2.o.K HX.o) (H1.o.K HX.o) hn2 qm).mono ?_;rintro e w2 ⟨A,n,c,rfl,hR,qf⟩;have qa:=qa.K qf;have zr:=qa.lt;have qg:=qa.alloc (.cells #[.s A n c] 31);obtain⟨k,f⟩:=qg.one;have qk:=Hx (HX.o.tr qf);have R:=Hx (hR);clear qf hR;go_wp2;go_region;go_wp2;exact bodyPost_ret (v:=.tuple #[.bool o,.agg #[.s A n c]]) (by simp[results,results56,go_sem,((qa.sT 0 (.s A n c)).alloc _).cell]) rfl (⟨_,_,_,rfl,((R.o.sT (p:=(aD (w.heap.size+1+1) 0)) qa qD _).K ((eR _).alloc _)).K ((eR _).drewN 1),((qk.o.sT (p:=(aD (w.heap.size+1+1) 0)) qL _).alloc _).drewN 1⟩)
def aW(a b:Rat):Int:=if a<b then-1 else if a=b then 0 else 1
def tO(a b:Rat):aW a b=if a.num*b.den<b.num*a.den then-1 else if a.num*b.den=b.num*a.den then 0 else 1:=by
 unfold aW;have e:a=b↔a.num*b.den=b.num*a.den:=(by constructor;{rintro rfl;rfl};intro h;have h1:=(Rat.mkRat_eq_iff a.den_nz b.den_nz).2 h;rwa [Rat.mkRat_self,Rat.mkRat_self]at h1);by_cases h1:a<b;{rw[qE h1,qE ((Rat.lt_iff a b).1 h1)]};rw[qF h1,qF (fun h=>h1 ((Rat.lt_iff a b).2 h))];by_cases h2:a=b;{rw[qE h2,qE (e.1 h2)]};rw[qF h2,qF (fun h=>h2 (e.2 h))]
def jzir(a b:Rat)(h:aB a≠aB b):aW a b=if aB a<aB b then-1 else 1:=by
 (rw[tO];have ha:(0:Int)<a.den:=(by have:=a.den_nz;omega);have hb:(0:Int)<b.den:=(by have:=b.den_nz;omega);unfold aB at*;rcases Int.lt_trichotomy a.num 0 with h1|h1|h1 <;> rcases Int.lt_trichotomy b.num 0 with h2|h2|h2);{simp[Int.ne_of_lt h1,Int.ne_of_lt h2,h1,h2]at h};{rw[qE (by rw[h2,Int.zero_mul];exact Int.mul_neg_of_neg_of_pos h1 hb)];simp[Int.ne_of_lt h1,h1,h2]};{rw[qE (Int.lt_trans (Int.mul_neg_of_neg_of_pos h1 hb) (Int.mul_pos h2 ha))];simp[Int.ne_of_lt h1,h1,Int.ne_of_gt h2,Int.not_lt.2 (Int.le_of_lt h2)]};{have:=Int.mul_neg_of_neg_of_pos h2 ha;rw[h1,Int.zero_mul,qF qO,qF qO];simp[Int.ne_of_lt h2,h2]};{simp[h1,h2]at h};{have:=Int.mul_pos h2 ha;rw[h1,Int.zero_mul,qE this];simp[Int.ne_of_gt h2,Int.not_lt.2 (Int.le_of_lt h2)]};{have:=Int.mul_neg_of_neg_of_pos h2 ha;have h3:=Int.mul_pos h1 hb;rw[qF qO,qF qO];simp[Int.ne_of_gt h1,Int.not_lt.2 (Int.le_of_lt h1),Int.ne_of_lt h2,h2]};{have h3:=Int.mul_pos h1 hb;rw[h2,Int.zero_mul,qF qO,qF qO];simp[Int.ne_of_gt h1,Int.not_lt.2 (Int.le_of_lt h1)]};simp[Int.ne_of_gt h1,Int.ne_of_gt h2,Int.not_lt.2 (Int.le_of_lt h1),Int.not_lt.2 (Int.le_of_lt h2)]at h
def jzis(a b:Rat)(h:aB a=aB b)(h0:aB a≠0):aW a b=aB a*aI (a.num.natAbs*b.den) (b.num.natAbs*a.den):=by
 rw[tO];unfold aB at*;unfold aI;have hz:a.num≠0:=fun e=>h0 (by rw[qE e]);have qe:b.num≠0:=fun e=>h0 (by rw[h,qE e]);rw[qF hz]at*;rw[qF qe]at h;have ea:((a.num.natAbs*b.den:Nat):Int)=(a.num.natAbs:Int)*b.den:=(by push_cast;rfl);have eb:((b.num.natAbs*a.den:Nat):Int)=(b.num.natAbs:Int)*a.den:=(by push_cast;rfl);by_cases hn:a.num<0;{rw[qE hn]at*;have qa:b.num<0:=(by by_cases hb:b.num<0;{exact hb};rw[qF hb]at h;omega);(have e1:(a.num.natAbs:Int)= -a.num:=qO;have e2:(b.num.natAbs:Int)= -b.num:=qO;rw[e1,Int.neg_mul]at ea;rw[e2,Int.neg_mul]at eb;generalize a.num*(b.den:Int)=X at*;generalize b.num*(a.den:Int)=Y at*;generalize a.num.natAbs*b.den=x at*;generalize b.num.natAbs*a.den=y at*;rcases Nat.lt_trichotomy x y with h|h|h);{rw[qF qO,qF qO,qE h];rfl};{rw[qF qO,qE qO,qF qO,qE h];rfl};rw[qE qO,qF qO,qF qO];rfl};rw[qF hn]at*;have qa:¬b.num<0:=(by intro hb;rw[qE hb]at h;omega);(have e1:(a.num.natAbs:Int)=a.num:=qO;have e2:(b.num.natAbs:Int)=b.num:=qO;rw[e1]at ea;rw[e2]at eb;generalize a.num*(b.den:Int)=X at*;generalize b.num*(a.den:Int)=Y at*;generalize a.num.natAbs*b.den=x at*;generalize b.num.natAbs*a.den=y at*;rcases Nat.lt_trichotomy x y with h|h|h);{rw[qE qO,qE h];rfl};{rw[qF qO,qE qO,qF qO,qE h];rfl};rw[qF qO,qF qO,qF qO,qF qO];rfl
def jzit(a b:Rat)(h:aB a=aB b)(h0:aB a=0):aW a b=0:=by
 have e:∀q:Rat,aB q=0->q.num=0:=fun q hq=>(by unfold aB at hq;by_cases hz:q.num=0;{exact hz};rw[qF hz]at hq;split at hq <;> omega);rw[tO,e a h0,e b (h▸h0)];simp
def jza3{w w'}{A A1 A2}{n c n1 c1 n2 c2 a b:Nat}(h:aE w A n c (a*b))(h1:aE w' A1 n1 c1 a)(h2:aE w' A2 n2 c2 b):n<=n1+n2:=by
 obtain⟨ds,rfl,_,hc,hv,_⟩:=h;obtain⟨xs,rfl,_,hx,rfl,_⟩:=h1;obtain⟨ys,rfl,_,hy,rfl,_⟩:=h2;refine hc.wm iU ?_;rw[hv,Nat.pow_add];exact Nat.mul_lt_mul'' (av.ow bA hx.lt) (av.ow bA hy.lt)
def iW{w w'}{A A1 A2}{n c n1 c1 n2 c2 a d:Nat}(h:aE w A n c (a*dn d))(h1:aE w' A1 n1 c1 a)(h2:aE w' A2 n2 c2 d):n<=n1+n2:=by
 by_cases hd:d=0;{(have e:a*dn d=a:=by unfold dn;rw[qE hd,Nat.mul_one]);rw[e]at h;have:=h.wm h1 (yX _);omega};have e:a*dn d=a*d:=(by unfold dn;rw[qF hd]);rw[e]at h;exact jza3 h h1 h2
def gT(na nb:Bool)A1(n1 c1:Nat)kr(n1' c1':Nat)A2(n2 c2:Nat)mg(ko c2':Nat)(a b:Rat)w
  (ha:aC w na A1 n1 c1 kr n1' c1' a) (hb:aC w nb A2 n2 c2 mg ko c2' b) (l1:n1<=268435456) (EO:n1'<=268435456) (l2:n2<=268435456) (Fw:ko<=268435456):
  Calls prog 19 #[.agg #[.bool na,.s A1 n1 c1,.s kr n1' c1'],.agg #[.bool nb,.s A2 n2 c2,.s mg ko c2']] w fun e w'=>e=.returned (vI (aW a b))/\Ext w w':=by
 obtain⟨qa,qe,e0⟩:=cN w #[.bool na,.s A1 n1 c1,.s kr n1' c1'] 33 #[.bool nb,.s A2 n2 c2,.s mg ko c2'] 33;have HA:=Hx (ha);have HB:=Hx (hb);clear ha hb;have qa:ak ((w.alloc (.cells #[.bool na,.s A1 n1 c1,.s kr n1' c1'] 33)).alloc (.cells #[.bool nb,.s A2 n2 c2,.s mg ko c2'] 33)).drew _ _ _:=qa;have qe:ak ((w.alloc (.cells #[.bool na,.s A1 n1 c1,.s kr n1' c1'] 33)).alloc (.cells #[.bool nb,.s A2 n2 c2,.s mg ko c2'] 33)).drew _ _ _:=qe;have E0:=Hx (e0.drewN 1);clear e0;obtain⟨⟨k0,k1,k2⟩,f0,f1,f2⟩:=qa.t3;obtain⟨⟨j0,j1,j2⟩,g0,g1,g2⟩:=qe.t3;clear f0 f1 f2 g0 g1 g2;have qf:(((aB a !=aB b)=true/\decide (aB a<aB b)=true/\aW a b= -1)\/((aB a !=aB b)=true/\decide (aB a<aB b)=false/\aW a b=1))\/
   ((aB a !=aB b)=false/\(aB a==0)=true/\aW a b=0)\/
   ((aB a !=aB b)=false/\(aB a==0)=false/\aW a b=aB a*aI (a.num.natAbs*b.den) (b.num.natAbs*a.den)/\(aB a=1\/aB a= -1)):=by
  by_cases h:aB a=aB b
  ·right
   by_cases h0:aB a=0
   ·exact .inl ⟨by simpa using h,by simpa using h0,jzit a b h h0⟩
   refine .inr ⟨by simpa using h,by simpa using h0,jzis a b h h0,?_⟩;clear h;unfold aB at*;by_cases hz:a.num=0
   ·rw[qE hz]at h0;exact absurd rfl h0
   rw[qF hz];by_cases hn:a.num<0
   ·rw[qE hn];exact .inr rfl
   rw[qF hn];exact .inl rfl
  left
  have e:=jzir a b h;by_cases hl:aB a<aB b
  ·exact .inl ⟨by simpa using h,by simpa using hl,by rw[e,qE hl]⟩
  exact .inr ⟨by simpa using h,by simpa using hl,by rw[e,qF hl]⟩
 have qh:True:=trivial
 go_enter func19,ntmps19
 go_wp2
 go_region_held3 (fun w'=>w'.C w.heap.size 0 (.bool na)/\w'.C w.heap.size 1 (.s A1 n1 c1)/\w'.C w.heap.size 2 (.s kr n1' c1')/\
   w'.C (w.heap.size+1) 0 (.bool nb)/\w'.C (w.heap.size+1) 1 (.s A2 n2 c2)/\w'.C (w.heap.size+1) 2 (.s mg ko c2')) (exact⟨k0,k1,k2,j0,j1,j2⟩)
  (first
   |(go_at_call 46;have _t:=qh;refine(dA na A1 n1 c1 kr n1' c1' a _ (HA.o.K E0.o)).r fun w1 qk=>?_;clear qh;have qa:=qa.K qk;have qe:=qe.K qk;have E1:=Hx (E0.o.tr qk);obtain⟨⟨k0,k1,k2⟩,_⟩:=qa.t3;obtain⟨⟨j0,j1,j2⟩,_⟩:=qe.t3;clear qk)
   |(go_at_call 46;refine(dA nb A2 n2 c2 mg ko c2' b _ (HB.o.K E1.o)).r fun w2 qj=>?_;have qa:=qa.K qj;have qe:=qe.K qj;have E2:=Hx (E1.o.tr qj);obtain⟨⟨k0,k1,k2⟩,_⟩:=qa.t3;obtain⟨⟨j0,j1,j2⟩,_⟩:=qe.t3;clear qj))
 generalize hS:aB a=s at*;generalize hT:aB b=t at*;clear hS hT;rcases qf with(⟨h1,h2,h3⟩|⟨h1,h2,h3⟩)|⟨h1,h2,h3⟩|⟨h1,h2,h3,h4⟩
 ·have H3:=Hx h3
  clear h3;go_wp2;go_ret;rw[H3.o];exact⟨rfl,E2.o⟩
 ·have H3:=Hx h3
  clear h3;go_wp2;go_ret;rw[H3.o];exact⟨rfl,E2.o⟩
 ·have H3:=Hx h3
  clear h3;go_wp2;go_ret;rw[H3.o];exact⟨rfl,E2.o⟩
 have H3:=Hx h3;clear h3;have hr:=jzh6 (a.num.natAbs*b.den) (b.num.natAbs*a.den);have qt:IntKind.i64.wrap (s*aI (a.num.natAbs*b.den) (b.num.natAbs*a.den))=s*aI (a.num.natAbs*b.den) (b.num.natAbs*a.den):=by
  generalize aI (a.num.natAbs*b.den) (b.num.natAbs*a.den)=q at*;apply IntWalk.i64_in;rcases h4 with h|h <;> subst h <;> omega
 have qa:ak w2.drew _ _ _:=qa;have qe:ak w2.drew _ _ _:=qe;have E2:=Hx (E2.o.drewN 1);clear h4;go_wp2;have qh:True:=trivial
 go_region_held3 (fun w'=>w'.C w.heap.size 1 (.s A1 n1 c1)/\w'.C w.heap.size 2 (.s kr n1' c1')/\
   w'.C (w.heap.size+1) 1 (.s A2 n2 c2)/\w'.C (w.heap.size+1) 2 (.s mg ko c2')) (exact⟨k1,k2,j1,j2⟩)
  (first
   |(go_at_call 57;have _t:=qh;refine(kK A1 mg n1 c1 ko c2' a.num.natAbs (dk b) _ (HA.o.2.1.K E2.o) (HB.o.2.2.K E2.o) qO qO).mono ?_;rintro e w3 ⟨A3,n3,c3,rfl,qn,qi⟩;clear qh;have qa:=qa.K qi;have qe:=qe.K qi;have E3:=Hx (E2.o.tr qi);obtain⟨⟨k0,k1,k2⟩,_⟩:=qa.t3;obtain⟨⟨j0,j1,j2⟩,_⟩:=qe.t3;have R3:=Hx qn;clear qi qn)
   |(go_at_call 57;refine(kK A2 kr n2 c2 n1' c1' b.num.natAbs (dk a) _ (HB.o.2.1.K E3.o) (HA.o.2.2.K E3.o) qO qO).mono ?_;rintro e w4 ⟨A4,n4,c4,rfl,qo,qg⟩;have qa:=qa.K qg;have qe:=qe.K qg;have E4:=Hx (E3.o.tr qg);obtain⟨⟨k0,k1,k2⟩,_⟩:=qa.t3;obtain⟨⟨j0,j1,j2⟩,_⟩:=qe.t3;have R4:=Hx qo;have qp:=Hx (R3.o.K qg);clear qg qo)
   |(go_at_call 61;refine(lC A3 A4 n3 c3 n4 c4 (a.num.natAbs*b.den) (b.num.natAbs*a.den) _ (by have:=qp.o;rw[iV]at this;exact this) (by have:=R4.o;rw[iV]at this;exact this) (by have:=iW qp.o HA.o.2.1 HB.o.2.2;omega)).r fun w5 qm=>?_;have qa:=qa.K qm;have qe:=qe.K qm;have E5:=Hx (E4.o.tr qm);obtain⟨⟨k0,k1,k2⟩,_⟩:=qa.t3;obtain⟨⟨j0,j1,j2⟩,_⟩:=qe.t3;clear qm))
 go_wp2;go_ret;rw[H3.o];exact⟨rfl,E5.o⟩
def kL{q:Rat}:aB q=0↔q=0:=by
 unfold aB;constructor;{intro h;by_cases hz:q.num=0;{exact Rat.num_eq_zero.1 hz};rw[qF hz]at h;split at h <;> omega};rintro rfl;rfl
def mB(a b:Rat):Nat:=(a.num*b.den+b.num*a.den).natAbs
def jza4{neg:Bool}{q:Rat}(h:neg=decide (q.num<0))(d:Nat):lF neg (q.num.natAbs*d)=q.num*d:=by
 subst h;unfold lF;by_cases hn:q.num<0;{simp only[hn,decide_true,if_true];push_cast;rw[show((q.num.natAbs:Nat):Int)= -q.num by omega,Int.neg_mul,Int.neg_neg]};simp only[hn,decide_false,Jr,if_false];push_cast;rw[show((q.num.natAbs:Nat):Int)=q.num by omega]
def jza5{na nb:Bool}{a b:Rat}(ha:na=decide (a.num<0))(hb:nb=decide (b.num<0)):
  a+b=Am (Gb na (a.num.natAbs*b.den) nb (b.num.natAbs*a.den)) (EM na (a.num.natAbs*b.den) nb (b.num.natAbs*a.den)) (a.den*b.den)/\
  EM na (a.num.natAbs*b.den) nb (b.num.natAbs*a.den)=mB a b:=by
 have h:=jzip na (a.num.natAbs*b.den) nb (b.num.natAbs*a.den);rw[jza4 ha,jza4 hb]at h;constructor;{rw[Rat.add_def', <-h];rfl};unfold mB;rw[<-h];unfold lF;split <;> omega
def jza6{w w'}{A A'}{n c n' c':Nat}{q:Rat}(h:aE w A n c q.den)(h':aE w' A' n' c' (dk q)):n<=n'+2:=by
 by_cases hd:q.den=1;{rw[hd]at h;have:=jzio h qO;omega};have e:dk q=q.den:=(by unfold dk;rw[qF hd]);rw[e]at h';have:=h.wm h' (yX _);omega
def jziu{w w'}{A A1 A2}{n c n1 c1 n2 c2:Nat}{m o:Bool}{a b:Nat}(h:aE w A n c (EM m a o b))(h1:aE w' A1 n1 c1 a)(h2:aE w' A2 n2 c2 b):n<=n1+n2+1:=by
 have qa:EM m a o b<=a+b:=(by unfold EM;split <;> (try split) <;> omega);obtain⟨ds,rfl,_,hc,hv,_⟩:=h;obtain⟨xs,rfl,_,hx,rfl,_⟩:=h1;obtain⟨ys,rfl,_,hy,rfl,_⟩:=h2;refine hc.wm iU ?_;rw[hv];have p1:=av.ow bA hx.lt;have p2:=av.ow bA hy.lt;have p3:dh^xs.length<=dh^(xs.length+ys.length):=DU bA qO;have p4:dh^ys.length<=dh^(xs.length+ys.length):=DU bA qO;have p5:dh^(xs.length+ys.length+1)=dh^(xs.length+ys.length)*4294967296:=(by rw[vD,aP]);have p6:0<dh^(xs.length+ys.length):=Du bA;omega
def lG(na nb:Bool)A1(n1 c1:Nat)kr(n1' c1':Nat)A2(n2 c2:Nat)mg(ko c2':Nat)(a b:Rat)w
  (ha:aC w na A1 n1 c1 kr n1' c1' a) (hb:aC w nb A2 n2 c2 mg ko c2' b) (l1:n1<=134217728) (EO:n1'<=134217728) (l2:n2<=134217728) (Fw:ko<=134217728) (hred:tN (mB a b) (a.den*b.den)):
  Calls prog 18 #[.agg #[.bool na,.s A1 n1 c1,.s kr n1' c1'],.agg #[.bool nb,.s A2 n2 c2,.s mg ko c2']] w (eM w (a+b)):=by
 obtain⟨qe,qa,qf,e0⟩:=fP w #[.bool na,.s A1 n1 c1,.s kr n1' c1'] 33 #[.bool nb,.s A2 n2 c2,.s mg ko c2'] 33 rV 33;have hq:=jza5 ha.1 hb.1;have HA:=Hx (ha);have HB:=Hx (hb);have ve:=Hx (hred);clear hred;by_cases h0:a=0;{have hs:aB a=0:=kL.2 h0;have qI:a+b=b:=(by rw[h0,Rat.zero_add]);rw[qI];have HS:=Hx (hs);clear ha hb hq h0 qI hs;go_enter func18,ntmps18;go_wp2_with fail;refine(dA na A1 n1 c1 kr n1' c1' a _ (HA.o.K e0)).r fun w1 qh=>?_;rw[HS.o];have qa:=qa.K qh;have qf:=qf.K qh;obtain⟨⟨j0,j1,j2⟩,g0,g1,g2⟩:=qa.t3;obtain⟨⟨k0,k1,k2⟩,f0,f1,f2⟩:=qf.t3;have E1:=Hx (e0.tr qh);clear qh e0;go_wp2;exact bodyPost_ret (v:=.agg #[.bool nb,.s A2 n2 c2,.s mg ko c2']) (by simp[results,results18,go_sem,(((qf.sT 0 _).sT 1 _).sT 2 _).cell]) rfl (eZ qf qD (HB.o.K E1.o) E1.o qO)};have hs:(aB a==0)=false:=yK.2 (fun h=>h0 (kL.1 h));by_cases qH:b=0;{have qV:aB b=0:=kL.2 qH;have qI:a+b=a:=(by rw[qH,Rat.add_zero]);rw[qI];have HS:=Hx (qV);clear ha hb hq h0 qI qV qH;go_enter func18,ntmps18;go_wp2_with fail;refine(dA na A1 n1 c1 kr n1' c1' a _ (HA.o.K e0)).r fun w1 qh=>?_;have qe:=qe.K qh;have qa:=qa.K qh;have qf:=qf.K qh;obtain⟨⟨i0,i1,i2⟩,h0,h1,h2⟩:=qe.t3;obtain⟨⟨j0,j1,j2⟩,g0,g1,g2⟩:=qa.t3;have E1:=Hx (e0.tr qh);clear qh e0;generalize aB a=s at*;go_wp2_with fail;refine(dA nb A2 n2 c2 mg ko c2' b _ (HB.o.K E1.o)).r fun w2 qw=>?_;rw[HS.o];have qe:=qe.K qw;have qf:=qf.K qw;obtain⟨⟨i0,i1,i2⟩,h0,h1,h2⟩:=qe.t3;obtain⟨⟨k0,k1,k2⟩,f0,f1,f2⟩:=qf.t3;have E2:=Hx (E1.o.tr qw);clear qw;go_wp2;exact bodyPost_ret (v:=.agg #[.bool na,.s A1 n1 c1,.s kr n1' c1']) (by simp[results,results18,go_sem,(((qf.sT 0 _).sT 1 _).sT 2 _).cell]) rfl (eZ qf qD (HA.o.K E2.o) E2.o qO)};have qV:(aB b==0)=false:=yK.2 (fun h=>qH (kL.1 h));have HQ:=Hx (hq);clear ha hb hq h0 qH;go_enter func18,ntmps18;go_wp2_with fail;refine(dA na A1 n1 c1 kr n1' c1' a _ (HA.o.K e0)).r fun w1 qh=>?_;have qe:=qe.K qh;have qa:=qa.K qh;have qf:=qf.K qh;obtain⟨⟨i0,i1,i2⟩,h0,h1,h2⟩:=qe.t3;obtain⟨⟨j0,j1,j2⟩,g0,g1,g2⟩:=qa.t3;have E1:=Hx (e0.tr qh);clear qh e0;generalize aB a=s at*;go_wp2_with fail;refine(dA nb A2 n2 c2 mg ko c2' b _ (HB.o.K E1.o)).r fun w2 qw=>?_;generalize aB b=t at*;have qe:=qe.K qw;have qa:=qa.K qw;have qf:=qf.K qw;have E2:=Hx (E1.o.tr qw);clear qw i0 i1 i2 h0 h1 h2 j0 j1 j2 g0 g1 g2;go_upto_region 5 with fail
 go_cut [5,6] (fun s5 s6 wx=>∃(g:Nat) (A:OA) (n c:Nat),s5=.bool (Gb na (a.num.natAbs*b.den) nb (b.num.natAbs*a.den))/\s6=.pointer (sA g)/\w.heap.size+1+1<g/\n<=1073741823/\ak wx g 31 #[.s A n c]/\
  aE wx A n c (EM na (a.num.natAbs*b.den) nb (b.num.natAbs*a.den))/\ak wx w.heap.size 33 #[.bool na,.s A1 n1 c1,.s kr n1' c1']/\ak wx (w.heap.size+1) 33 #[.bool nb,.s A2 n2 c2,.s mg ko c2']/\
  ak wx (w.heap.size+1+1) 33 rV/\Ext w wx)
 case first=>
  have qe:ak w2.drew _ _ _:=qe;have qa:ak w2.drew _ _ _:=qa;have qf:ak w2.drew _ _ _:=qf;have E2:=Hx (E2.o.drewN 1);obtain⟨⟨i0,i1,i2⟩,h0,h1,h2⟩:=qe.t3;obtain⟨⟨j0,j1,j2⟩,g0,g1,g2⟩:=qa.t3;clear h0 h1 h2 g0 g1 g2;have qJ:w.heap.size+1+1<w2.heap.size:=qf.lt;have q8:True:=trivial
  go_region_held3 (fun w'=>w'.C w.heap.size 0 (.bool na)/\w'.C w.heap.size 1 (.s A1 n1 c1)/\w'.C w.heap.size 2 (.s kr n1' c1')/\
    w'.C (w.heap.size+1) 0 (.bool nb)/\w'.C (w.heap.size+1) 1 (.s A2 n2 c2)/\w'.C (w.heap.size+1) 2 (.s mg ko c2')) (first
    |exact⟨i0,i1,i2,j0,j1,j2⟩
    |exact⟨(qe.alloc _).cell 0,(qe.alloc _).cell 1,(qe.alloc _).cell 2,(qa.alloc _).cell 0,(qa.alloc _).cell 1,(qa.alloc _).cell 2⟩
    |exact⟨(qe.far (p:=(aD w2.heap.size 0)) qn _).cell 0,(qe.far (p:=(aD w2.heap.size 0)) qn _).cell 1,(qe.far (p:=(aD w2.heap.size 0)) qn _).cell 2,(qa.far (p:=(aD w2.heap.size 0)) qo _).cell 0,(qa.far (p:=(aD w2.heap.size 0)) qo _).cell 1,(qa.far (p:=(aD w2.heap.size 0)) qo _).cell 2⟩
    |exact⟨(qe.far (p:=(aD w3.heap.size 0)) qn _).cell 0,(qe.far (p:=(aD w3.heap.size 0)) qn _).cell 1,(qe.far (p:=(aD w3.heap.size 0)) qn _).cell 2,(qa.far (p:=(aD w3.heap.size 0)) qo _).cell 0,(qa.far (p:=(aD w3.heap.size 0)) qo _).cell 1,(qa.far (p:=(aD w3.heap.size 0)) qo _).cell 2⟩
    |exact⟨(qe.far (p:=(aD w4.heap.size 0)) qn _).cell 0,(qe.far (p:=(aD w4.heap.size 0)) qn _).cell 1,(qe.far (p:=(aD w4.heap.size 0)) qn _).cell 2,(qa.far (p:=(aD w4.heap.size 0)) qo _).cell 0,(qa.far (p:=(aD w4.heap.size 0)) qo _).cell 1,(qa.far (p:=(aD w4.heap.size 0)) qo _).cell 2⟩)
   (first
    |(go_at_call 57
      have _t:=q8;refine(kK A1 mg n1 c1 ko c2' a.num.natAbs (dk b) _ (HA.o.2.1.K (by first|exact E2.o|exact E2.o.alloc (.cells #[zN] 31))) (HB.o.2.2.K (by first|exact E2.o|exact E2.o.alloc (.cells #[zN] 31))) qO qO).mono ?_;rintro e w3 ⟨A3,n3,c3,rfl,qZ,qx⟩;clear q8;have qe:ak w3 w.heap.size 33 #[.bool na,.s A1 n1 c1,.s kr n1' c1']:=(by first|exact qe.K qx|exact(qe.alloc (.cells #[zN] 31)).K qx);have qa:ak w3 (w.heap.size+1) 33 #[.bool nb,.s A2 n2 c2,.s mg ko c2']:=(by first|exact qa.K qx|exact(qa.alloc (.cells #[zN] 31)).K qx);have qf:ak w3 (w.heap.size+1+1) 33 rV:=(by first|exact qf.K qx|exact(qf.alloc (.cells #[zN] 31)).K qx);have E3:Hid (Ext w w3):=(by first|exact E2.o.tr qx|exact(E2.o.alloc (.cells #[zN] 31)).tr qx);obtain⟨⟨i0,i1,i2⟩,_⟩:=qe.t3;obtain⟨⟨j0,j1,j2⟩,_⟩:=qa.t3;have R3:=Hx qZ
      (try (have qg:ak w3 w2.heap.size 31 #[zN]:=((eN w2 31 #[zN]).drewN 1).K qx;have qn:w.heap.size≠w2.heap.size:=(by have:=qJ;omega);have qo:w.heap.size+1≠w2.heap.size:=(by have:=qJ;omega);have qW:w.heap.size+1+1<w2.heap.size:=qJ;obtain⟨cg,fg⟩:=qg.one))
      have qQ:=qf.lt;clear qx qZ)
    |(go_at_call 57
      refine(kK A2 kr n2 c2 n1' c1' b.num.natAbs (dk a) _ (HB.o.2.1.K (by first|exact E3.o|exact E3.o.alloc (.cells #[zN] 31))) (HA.o.2.2.K (by first|exact E3.o|exact E3.o.alloc (.cells #[zN] 31))) qO qO).mono ?_;rintro e w4 ⟨A4,n4,c4,rfl,q5,qk⟩;have qe:ak w4 w.heap.size 33 #[.bool na,.s A1 n1 c1,.s kr n1' c1']:=(by first|exact qe.K qk|exact(qe.alloc (.cells #[zN] 31)).K qk);have qa:ak w4 (w.heap.size+1) 33 #[.bool nb,.s A2 n2 c2,.s mg ko c2']:=(by first|exact qa.K qk|exact(qa.alloc (.cells #[zN] 31)).K qk);have qf:ak w4 (w.heap.size+1+1) 33 rV:=(by first|exact qf.K qk|exact(qf.alloc (.cells #[zN] 31)).K qk);have E4:Hid (Ext w w4):=(by first|exact E3.o.tr qk|exact(E3.o.alloc (.cells #[zN] 31)).tr qk);obtain⟨⟨i0,i1,i2⟩,_⟩:=qe.t3;obtain⟨⟨j0,j1,j2⟩,_⟩:=qa.t3;have R4:=Hx q5;have qM:Hid (aE w4 A3 n3 c3 (a.num.natAbs*dn (dk b))):=by first|exact R3.o.K qk|exact(R3.o.K ((eR _).alloc (.cells #[zN] 31))).K qk
      (try (have qg:=qg.K qk;obtain⟨cg,fg⟩:=qg.one))
      (try (have qg:ak w4 w3.heap.size 31 #[zN]:=(eN w3 31 #[zN]).K qk;have qn:w.heap.size≠w3.heap.size:=(by have:=qQ;omega);have qo:w.heap.size+1≠w3.heap.size:=(by have:=qQ;omega);have qW:w.heap.size+1+1<w3.heap.size:=qQ;obtain⟨cg,fg⟩:=qg.one))
      have qU:=qf.lt;clear qk q5)
    |(go_at_call 56
      refine(jziq na nb A3 A4 n3 c3 n4 c4 (a.num.natAbs*b.den) (b.num.natAbs*a.den) _ (by have:=qM.o;rw[iV]at this;first|exact this|exact this.K ((eR _).alloc (.cells #[zN] 31))) (by have:=R4.o;rw[iV]at this;first|exact this|exact this.K ((eR _).alloc (.cells #[zN] 31))) (by have:=iW qM.o HA.o.2.1 HB.o.2.2;omega) (by have:=iW R4.o HB.o.2.1 HA.o.2.2;omega)).mono ?_;rintro e w5 ⟨A5,n5,c5,rfl,q4,qp⟩;have qe:ak w5 w.heap.size 33 #[.bool na,.s A1 n1 c1,.s kr n1' c1']:=(by first|exact qe.K qp|exact(qe.alloc (.cells #[zN] 31)).K qp);have qa:ak w5 (w.heap.size+1) 33 #[.bool nb,.s A2 n2 c2,.s mg ko c2']:=(by first|exact qa.K qp|exact(qa.alloc (.cells #[zN] 31)).K qp);have qf:ak w5 (w.heap.size+1+1) 33 rV:=(by first|exact qf.K qp|exact(qf.alloc (.cells #[zN] 31)).K qp);have E5:Hid (Ext w w5):=(by first|exact E4.o.tr qp|exact(E4.o.alloc (.cells #[zN] 31)).tr qp);obtain⟨⟨i0,i1,i2⟩,_⟩:=qe.t3;obtain⟨⟨j0,j1,j2⟩,_⟩:=qa.t3;have R5:=Hx q4
      (try (have qg:=qg.K qp;obtain⟨cg,fg⟩:=qg.one))
      (try (have qg:ak w5 w4.heap.size 31 #[zN]:=(eN w4 31 #[zN]).K qp;have qn:w.heap.size≠w4.heap.size:=(by have:=qU;omega);have qo:w.heap.size+1≠w4.heap.size:=(by have:=qU;omega);have qW:w.heap.size+1+1<w4.heap.size:=qU;obtain⟨cg,fg⟩:=qg.one))
      have vc:=qf.lt;have L5:n5<=1073741823:=(by have h1:=qM.o;have h2:=R4.o;have l3:=iW h1 HA.o.2.1 HB.o.2.2;have l4:=iW h2 HB.o.2.1 HA.o.2.2;rw[iV]at h1 h2;have:=jziu R5.o h1 h2;omega);clear qp q4))
  all_goals
   go_wp2_with fail
   go_meet
   first
    |exact⟨w5.heap.size,A5,n5,c5,rfl,rfl,vc,L5,eN w5 _ _,R5.o.K ((eR _).alloc _),qe.alloc _,qa.alloc _,qf.alloc _,E5.o.alloc _⟩
    |exact⟨_,A5,n5,c5,rfl,rfl,qW,L5,qg.sT 0 _,R5.o.sT (p:=⟨_,0,none⟩) qg qD _,qe.far qn _,qa.far qo _,qf.far (by simp;omega) _,E5.o.sT (by simp;omega) _⟩
 obtain⟨g,A,n,c,rfl,rfl,hg,vg,qg,hR,qe,qa,qf,hx⟩:=hcut;have E5:=Hx (hx);obtain⟨qX,qT⟩:=HQ.o;rw[qT]at qX;have q1:=Hx (qX);have q0:aE wc A n c (mB a b):=(by rw[<-qT];exact hR);have R':=Hx (q0);clear hR hx qX qT q0;generalize Gb na (a.num.natAbs*b.den) nb (b.num.natAbs*a.den)=sb at*;have za:((n1':Int)==0)=decide (a.den=1):=(by have:=HA.o.2.2.iw;rw[lE]at this;by_cases h:a.den=1;{rw[yO h];simp;omega};rw[yP h];exact yK.2 qO);have zb:((ko:Int)==0)=decide (b.den=1):=(by have:=HB.o.2.2.iw;rw[lE]at this;by_cases h:b.den=1;{rw[yO h];simp;omega};rw[yP h];exact yK.2 qO);(have vd:(a.den=1/\b.den=1)\/(a.den=1/\b.den≠1)\/a.den≠1:=qO;rcases vd with⟨hda,hdb⟩|⟨hda,hdb⟩|hda);(case inl=>have qA:decide (a.den=1)=true:=yO hda;have qC:decide (b.den=1)=true:=yO hdb;have qB:a+b=Am sb (mB a b) 1:=(by rw[q1.o,hda,hdb]);have HF:=Hx (qB);rw[qA]at za;rw[qC]at zb;obtain⟨⟨i0,i1,i2⟩,h0,h1,h2⟩:=qe.t3;clear qB hda hdb qA qC;go_wp2_with fail;refine(bL kr n1' c1' _).r fun w6 qj=>?_;have qa:=qa.K qj;have qf:=qf.K qj;have qg:=qg.K qj;obtain⟨⟨j0,j1,j2⟩,q3,q6,q7⟩:=qa.t3;have E6:=Hx (E5.o.tr qj);have R6:=Hx (R'.o.K qj);clear qj;go_wp2_with fail;refine(bL mg ko c2' _).r fun w7 qm=>?_;have qf:=qf.K qm;have qg:=qg.K qm;have cg:=qg.one.1;have E7:=Hx (E6.o.tr qm);have R7:=Hx (R6.o.K qm);clear qm;go_wp2_with fail;refine(mA sb A n c (mB a b) _ R7.o).mono ?_;rintro e w8 ⟨ng,B,m,d,B',m',d',rfl,qy,qt⟩;have qf:=qf.K qt;obtain⟨⟨k0,k1,k2⟩,f0,f1,f2⟩:=qf.t3;have E8:=Hx (E7.o.tr qt);have R8:=Hx (qy);clear qt qy;go_wp2;exact bodyPost_ret (v:=.agg #[.bool ng,.s B m d,.s B' m' d']) (by simp[results,results18,go_sem,(((qf.sT 0 _).sT 1 _).sT 2 _).cell]) rfl (by rw[HF.o];exact eZ qf qD R8.o E8.o qO))
 case' inr.inl=>
  rw[yO hda]at za;rw[yP hdb]at zb;obtain⟨⟨i0,i1,i2⟩,h0,h1,h2⟩:=qe.t3;clear hda hdb
  go_wp2_with fail
  refine(bL kr n1' c1' _).r fun w6 qj=>?_;have qe:=qe.K qj;have qa:=qa.K qj;have qf:=qf.K qj;have qg:=qg.K qj;obtain⟨⟨j0,j1,j2⟩,q3,q6,q7⟩:=qa.t3;have E6:=Hx (E5.o.tr qj);have R6:=Hx (R'.o.K qj);clear qj
  go_wp2_with fail
  refine(bL mg ko c2' _).r fun wz qi=>?_;have qe:=qe.K qi;have qa:=qa.K qi;have qf:=qf.K qi;have qg:=qg.K qi;have EZ:=Hx (E6.o.tr qi);have RZ:=Hx (R6.o.K qi);clear qi i0 i1 i2 h0 h1 h2 j0 j1 j2 q3 q6 q7
 case' inr.inr=>
  rw[yP hda]at za;obtain⟨⟨i0,i1,i2⟩,h0,h1,h2⟩:=qe.t3;clear hda zb
  go_wp2_with fail
  refine(bL kr n1' c1' _).r fun wz qi=>?_;have qe:=qe.K qi;have qa:=qa.K qi;have qf:=qf.K qi;have qg:=qg.K qi;have EZ:=Hx (E5.o.tr qi);have RZ:=Hx (R'.o.K qi);clear qi i0 i1 i2 h0 h1 h2
 all_goals
  have qe:ak wz.drew _ _ _:=qe;have qa:ak wz.drew _ _ _:=qa;have qf:ak wz.drew _ _ _:=qf;have qg:ak wz.drew _ _ _:=qg;have EZ:=Hx (EZ.o.drewN 1);have RZ:=Hx (RZ.o.K ((eR wz).drewN 1));obtain⟨⟨i0,i1,i2⟩,_⟩:=qe.t3;obtain⟨⟨j0,j1,j2⟩,_⟩:=qa.t3;obtain⟨cg,_⟩:=qg.one;go_wp2
  go_region_held3 (fun w'=>w'.C w.heap.size 0 (.bool na)/\w'.C w.heap.size 1 (.s A1 n1 c1)/\w'.C w.heap.size 2 (.s kr n1' c1')/\
    w'.C (w.heap.size+1) 2 (.s mg ko c2')/\w'.C g 0 (.s A n c)) (first|exact⟨i0,i1,i2,j2,cg⟩|exact⟨(fa _ _ _).cell 0,(fa _ _ _).cell 1,(fa _ _ _).cell 2,(fb _ _ _).cell 2,(fg _ _ _).cell 0⟩)
   (first
    |(go_at_call 60
      refine(jza2 na A1 n1 c1 kr n1' c1' a _ (HA.o.K EZ.o)).mono ?_;rintro e w7 ⟨A7,n7,c7,rfl,qY,qm⟩;have qe:=qe.K qm;have qa:=qa.K qm;have qf:=qf.K qm;have qg:=qg.K qm;have E7:=Hx (EZ.o.tr qm);have q9:=Hx (RZ.o.K qm);have R7:=Hx qY;have L7:=jza6 qY HA.o.2.2;obtain⟨⟨i0,i1,i2⟩,_⟩:=qe.t3;obtain⟨⟨j0,j1,j2⟩,_⟩:=qa.t3;obtain⟨cg,_⟩:=qg.one;clear qm qY)
    |(go_at_call 57
      refine(kK A7 mg n7 c7 ko c2' a.den (dk b) _ R7.o (HB.o.2.2.K E7.o) qO qO).mono ?_;rintro e w8 ⟨A8,n8,c8,rfl,qy,qt⟩;have qe:=qe.K qt;have qa:=qa.K qt;have qf:=qf.K qt;have qg:=qg.K qt;have E8:=Hx (E7.o.tr qt);have va:=Hx (q9.o.K qt);have L8:=iW qy R7.o (HB.o.2.2.K E7.o);have qy:aE w8 A8 n8 c8 (a.den*b.den):=(by rw[iV]at qy;exact qy);have R8:=Hx qy;obtain⟨⟨i0,i1,i2⟩,_⟩:=qe.t3;obtain⟨⟨j0,j1,j2⟩,_⟩:=qa.t3;obtain⟨cg,_⟩:=qg.one;clear qt qy)
    |(go_at_call 59
      refine(ve.o sb A A8 n c n8 c8 _ va.o R8.o qO qO).mono ?_;rintro e w9 ⟨ng,B,m,d,B',m',d',rfl,q2,qz⟩;have qe:=qe.K qz;have qa:=qa.K qz;have qf:=qf.K qz;have qg:=qg.K qz;have E9:=Hx (E8.o.tr qz);have R9:=Hx q2;obtain⟨⟨i0,i1,i2⟩,_⟩:=qe.t3;obtain⟨⟨j0,j1,j2⟩,_⟩:=qa.t3;obtain⟨⟨k0,k1,k2⟩,f0,f1,f2⟩:=qf.t3;obtain⟨cg,_⟩:=qg.one;have fa:=fun u0 u1 u2=>((qe.far (p:=(aD (w.heap.size+1+1) 0)) (by simp;omega) u0).far (p:=(aD (w.heap.size+1+1) 1)) (by simp;omega) u1).far (p:=(aD (w.heap.size+1+1) 2)) (by simp;omega) u2;have fb:=fun u0 u1 u2=>((qa.far (p:=(aD (w.heap.size+1+1) 0)) qS u0).far (p:=(aD (w.heap.size+1+1) 1)) qS u1).far (p:=(aD (w.heap.size+1+1) 2)) qS u2;have fg:=fun u0 u1 u2=>((qg.far (p:=(aD (w.heap.size+1+1) 0)) (by simp;omega) u0).far (p:=(aD (w.heap.size+1+1) 1)) (by simp;omega) u1).far (p:=(aD (w.heap.size+1+1) 2)) (by simp;omega) u2;clear qz q2))
  go_wp2;exact bodyPost_ret (v:=.agg #[.bool ng,.s B m d,.s B' m' d']) (by simp[results,results18,go_sem,(((qf.sT 0 _).sT 1 _).sT 2 _).cell]) rfl (by rw[q1.o];exact eZ qf qD R9.o E9.o qO)
structure Lk where
 a:Int
 b:Int
 c0:Int
 c1:Int
 cap:Int
 delay:Int
 group:Int
structure Tp where
 nodes:Int
 over:List Bool
 links:List Lk
abbrev tV (t:Tp) (AO:OA) (co:Nat) (AL:OA) (cl:Nat):Array Value:=#[vI t.nodes,.s AO t.over.length co,.s AL t.links.length cl]
def Lk.cells(l:Lk):List Value:=[vI l.a,vI l.b,vI l.c0,vI l.c1,vI l.cap,vI l.delay,vI l.group]
def bB(l:List Bool):List Value:=l.map Value.bool
def i64(x:Int):Prop:= -9223372036854775808<=x/\x<=9223372036854775807
def Lk.wf(l:Lk):Prop:=i64 l.a/\i64 l.b/\i64 l.c0/\i64 l.c1/\i64 l.cap/\i64 l.delay/\i64 l.group
structure aR(w:World)(t:Tp)(AO:OA)(co:Nat)(AL:OA)(cl:Nat):Prop where
 nodes:i64 t.nodes
 lo:t.over.length<=co
 ll:t.links.length<=cl
 co:t.over.length<=281474976710656
 cl:t.links.length<=281474976710656
 over:Rd w AO (bB t.over)
 links:Rd w AL (t.links.flatMap Lk.cells)
 wf:∀l∈t.links,l.wf
def aR.K{w w'}{t}{AO}{co:Nat}{AL}{cl:Nat}(h:aR w t AO co AL cl)(hb:Ext w w'):aR w' t AO co AL cl:=
 ⟨h.nodes,h.lo,h.ll,h.co,h.cl,h.over.K hb,h.links.K hb,h.wf⟩
def jziv(ls:List Lk)(i k:Nat)(hi:i<ls.length)(hk:k<7):(ls.flatMap Lk.cells)[i*7+k]?=(ls[i]).cells[k]?:=by
 (induction ls generalizing i with|nil=>simp at hi|cons l ls ih=>(cases i with|zero=>simp only[xU,Nat.zero_mul,CU,yB];rw[yR (by simp[Lk.cells];omega)]|succ i=>simp only[xU,yC];rw[yS (by simp[Lk.cells];omega),show(i+1)*7+k-l.cells.length=i*7+k by simp[Lk.cells];omega];exact ih i (by simpa using hi)))
def jziw(ls:List Lk):(ls.flatMap Lk.cells).length=ls.length*7:=by
 (induction ls with|nil=>rfl|cons l ls ih=>simp only[xU,yQ,ih,Dw];simp[Lk.cells];omega)
def aR.link{w}{t}{AO}{co:Nat}{AL}{cl:Nat}(h:aR w t AO co AL cl){i:Nat}{l:Lk}(hl:t.links[i]?=some l):
  ∃b o:Nat,AL=some (aD b o)/\b<w.heap.size/\(w.C b (o+i*7) (vI l.a)/\w.C b (o+i*7+1) (vI l.b)/\w.C b (o+i*7+2) (vI l.c0)/\
   w.C b (o+i*7+3) (vI l.c1)/\w.C b (o+i*7+4) (vI l.cap)/\w.C b (o+i*7+5) (vI l.delay)/\w.C b (o+i*7+6) (vI l.group)):=by
 obtain⟨hi,he⟩:=yH.1 hl;have qa:=jziw t.links;obtain⟨b,o,e,qe,hc⟩:=h.links (by intro e;rw[e]at qa;simp at qa;omega);have hk:∀k,k<7->w.cell? (aD b (o+i*7+k))=l.cells[k]?:=fun k hk=>(by rw[JK,hc (i*7+k) (by rw[qa];omega),jziv t.links i k hi hk,he]);exact⟨b,o,e,qe,hk 0 qO,hk 1 qO,hk 2 qO,hk 3 qO,hk 4 qO,hk 5 qO,hk 6 qO⟩
def dG(t:Tp)(a:Nat):Int:=match t.links[a/2]? with
 |some l=>if a%2=0 then l.a else l.b
 |none=> -1
def aK(t:Tp)(a:Nat):Int:=match t.links[a/2]? with
 |some l=>if a%2=0 then l.b else l.a
 |none=> -1
def bP(t:Tp)(n:Int):Bool:=t.over[n.toNat]?.getD false
def jzix(n lo hi:Int)w:
  Calls prog 134 #[vI n,vI lo,vI hi] w fun e w'=>e=.returned (.bool (decide (lo<=n/\n<=hi)))/\w=w':=by
 have hd:decide (lo<=n/\n<=hi)=(decide (lo<=n)&&decide (n<=hi)):=qS;rw[hd];clear hd;by_cases h1:lo<=n;{(have qa:decide (lo<=n)=true:=by simpa using h1);rw[qa];go_enter func134,ntmps134;go_wp2;go_ret;exact⟨qS,rfl⟩};have qa:decide (lo<=n)=false:=(by simpa using h1);rw[qa];go_enter func134,ntmps134;go_wp2;go_ret;exact⟨qS,rfl⟩
def jziy(n lo hi:Int)w:
  Calls prog 68 #[vI n,vI lo,vI hi] w fun e w'=>e=.returned (.bool (decide (lo<=n/\n<=hi)))/\w=w':=by
 have hd:decide (lo<=n/\n<=hi)=(decide (lo<=n)&&decide (n<=hi)):=qS;rw[hd];clear hd;by_cases h1:lo<=n;{(have qa:decide (lo<=n)=true:=by simpa using h1);rw[qa];go_enter func68,ntmps68;go_wp2;go_ret;exact⟨qS,rfl⟩};have qa:decide (lo<=n)=false:=(by simpa using h1);rw[qa];go_enter func68,ntmps68;go_wp2;go_ret;exact⟨qS,rfl⟩
def tP t AO(co:Nat)AL(cl:Nat)(a:Nat)w(ht:aR w t AO co AL cl)(ha:a/2<t.links.length):
  Calls prog 115 #[.agg #[vI t.nodes,.s AO t.over.length co,.s AL t.links.length cl],vI a] w fun e w'=>e=.returned (vI (dG t a))/\Ext w w':=by
 (have hl:=ht.ll;have qe:=ht.cl;obtain⟨l,qa⟩:∃l,t.links[a/2]?=some l:=⟨_,yG ha⟩;obtain⟨b,o,rfl,hb,c0,c1,_⟩:=ht.link qa;have hv:dG t a=if a%2=0 then l.a else l.b:=by unfold dG;rw[qa]);rw[hv];clear ht qa hv;by_cases h:a%2=0;{rw[qE h];have h':(((a:Int)%2)==0)=true:=(by simp;omega);clear h;go_enter func115,ntmps115;go_wp2;go_ret;exact⟨rfl,(eR w).alloc _⟩};rw[qF h];have h':(((a:Int)%2)==0)=false:=yK.2 qO;clear h;go_enter func115,ntmps115;go_wp2;go_ret;exact⟨rfl,(eR w).alloc _⟩
def tQ(a:Nat):a^^^1=if a%2=0 then a+1 else a-1:=by
 have h:(a^^^1)/2=a/2:=(by rw[Nat.xor_div_two];simp);have h2:=@Nat.xor_mod_two_eq_one a 1;split <;> omega
def jziz(a:Nat)(ha:a<9223372036854775808):bits BinOp.xor IntKind.i64 (a:Int) 1=((a^^^1:Nat):Int):=by
 have hx:a^^^1<2^63:=Nat.xor_lt_two_pow qO qO;show IntKind.i64.wrap ((BitVec.ofInt 64 (a:Int)^^^BitVec.ofInt 64 (1:Int)).toNat:Int)=_;have e1:(BitVec.ofInt 64 (a:Int)).toNat=a:=(by rw[BitVec.ofInt_natCast,BitVec.toNat_ofNat];exact Ey qO);have e2:(BitVec.ofInt 64 (1:Int)).toNat=1:=qD;rw[BitVec.toNat_xor,e1,e2,IntKind.wrap_i64];omega
def jza7 t(a:Nat):aK t a=dG t (a^^^1):=by
 (unfold aK dG;have hx:=tQ a;have h1:(a^^^1)/2=a/2:=(by rw[hx];split <;> omega);have h2:(a^^^1)%2=0↔¬a%2=0:=(by rw[hx];split <;> omega);rw[h1];cases t.links[a/2]? with|none=>rfl|some l=>by_cases h:a%2=0;{simp only[qE h];rw[qF (fun e=>h2.1 e h)]};simp only[qF h];rw[qE (h2.2 h)])
def mC t AO(co:Nat)AL(cl:Nat)(a:Nat)w(ht:aR w t AO co AL cl)(ha:a/2<t.links.length):
  Calls prog 106 #[.agg #[vI t.nodes,.s AO t.over.length co,.s AL t.links.length cl],vI a] w fun e w'=>e=.returned (vI (aK t a))/\Ext w w':=by
 have hl:=ht.ll;have qg:=ht.cl;have hb:=jziz a qO;have hx:=tQ a;have qf:(a^^^1)/2<t.links.length:=(by rw[hx];split <;> omega);rw[jza7];have HT:=Hx (ht);generalize a^^^1=a' at*;clear hx ht;obtain⟨qe,e0⟩:=aU w #[vI t.nodes,.s AO t.over.length co,.s AL t.links.length cl] 25;go_enter func106,ntmps106;go_wp2_with fail;refine(tP t AO co AL cl a' _ (HT.o.K e0) qf).r fun w1 qa=>?_;have HX:=Hx (e0.tr qa);clear qa e0 qe;go_wp2;go_ret;exact⟨rfl,HX.o⟩
def Rd.bool{w}{A}{l:List Bool}(h:Rd w A (bB l)){k:Nat}(hk:k<l.length):
  ∃b o:Nat,A=some (aD b o)/\b<w.heap.size/\w.cell? (aD b (o+k))=some (.bool (l[k]?.getD false)):=by
 obtain⟨b,o,e,qa,hc⟩:=h.at_ (i:=k) (by simpa [bB]using hk);refine⟨b,o,e,qa,(hc k (by simpa [bB]using hk)).trans ?_⟩;simp[bB,hk]
def tR t AO(co:Nat)AL(cl:Nat)(n:Int)w(ht:aR w t AO co AL cl)(h0:0<=n)(hn:t.over=[]\/n<t.over.length):
  Calls prog 116 #[.agg #[vI t.nodes,.s AO t.over.length co,.s AL t.links.length cl],vI n] w fun e w'=>e=.returned (.bool (bP t n))/\Ext w w':=by
 obtain⟨N,rfl⟩:=Il h0;have qf:=ht.lo;have qg:=ht.co;by_cases he:t.over.length=0;{(have hv:bP t N=false:=by unfold bP;rw[FJ.1 he];rfl);rw[hv];have hz:(t.over.length:Int)=0:=qO;rw[he];clear ht hn hv hz he;go_enter func116,ntmps116;go_wp2;go_ret;exact⟨rfl,(eR w).alloc _⟩};have hN:N<t.over.length:=(by (rcases hn with h|h);{rw[h]at he;simp at he};omega);obtain⟨b,o,rfl,hb,hc⟩:=ht.over.bool hN;have hv:bP t N=t.over[N]?.getD false:=rfl;rw[hv];generalize t.over[N]?.getD false=x at*;have qe:decide ((0:Int)<(t.over.length:Int))=true:=(by simp;omega);have qa:0<t.over.length:=qO;clear ht hn hv he;go_enter func116,ntmps116;go_wp2;go_ret;exact⟨rfl,(eR w).alloc _⟩
def jza8(t:Tp)AO(co:Nat)AL(cl:Nat)(n:Int)w:
  Calls prog 74 #[.agg #[vI t.nodes,.s AO t.over.length co,.s AL t.links.length cl],vI n] w fun e w'=>e=.returned (.bool (decide (0<=n/\n<t.nodes)))/\Ext w w':=by
 have hd:decide (0<=n/\n<t.nodes)=(decide (0<=n)&&decide (n<t.nodes)):=qS;rw[hd];clear hd;by_cases h1:0<=n;{(have qa:decide (0<=n)=true:=by simpa using h1);rw[qa];go_enter func74,ntmps74;go_wp2;go_ret;exact⟨qS,(eR w).alloc _⟩};have qa:decide (0<=n)=false:=(by simpa using h1);rw[qa];go_enter func74,ntmps74;go_wp2;go_ret;exact⟨qS,(eR w).alloc _⟩
def fQ t AO(co:Nat)AL(cl:Nat)w(ht:aR w t AO co AL cl):
  Calls prog 45 #[.agg #[vI t.nodes,.s AO t.over.length co,.s AL t.links.length cl]] w fun e w'=>e=.returned (vI (2*(t.links.length:Int)))/\Ext w w':=by
 have h1:=ht.ll;have h2:=ht.cl;clear ht;go_enter func45,ntmps45;go_wp2;go_ret;exact⟨rfl,(eR w).alloc _⟩
def bU(t:Tp)(down:List Bool):Bool:=decide (down.length=0\/down.length=2*t.links.length)
def jza9 t AO(co:Nat)AL(cl:Nat)AD(cd:Nat)(down:List Bool)w(ht:aR w t AO co AL cl):
  Calls prog 73 #[.agg #[vI t.nodes,.s AO t.over.length co,.s AL t.links.length cl],.s AD down.length cd] w fun e w'=>e=.returned (.bool (bU t down))/\Ext w w':=by
 have HT:=Hx (ht);have h1:=ht.ll;have h2:=ht.cl;clear ht;obtain⟨qe,e0⟩:=aU w #[vI t.nodes,.s AO t.over.length co,.s AL t.links.length cl] 25;by_cases h:down.length=0;{(have hz:((down.length:Int)==0)=true:=by rw[h];rfl);have hv:bU t down=true:=(by unfold bU;simp only[decide_eq_true_eq];exact .inl h);rw[hv];clear hv h;go_enter func73,ntmps73;go_wp2_with fail;go_ret;exact⟨rfl,e0⟩};have hz:((down.length:Int)==0)=false:=yK.2 qO;have hv:((down.length:Int)==2*(t.links.length:Int))=bU t down:=(by unfold bU;by_cases h':down.length=2*t.links.length;{rw[yO (.inr h')];simp;omega};rw[yP qO];exact yK.2 qO);generalize bU t down=v at*;clear h;go_enter func73,ntmps73;go_wp2_with fail;refine(fQ t AO co AL cl _ (HT.o.K e0)).r fun w1 qa=>?_;have HX:=Hx (e0.tr qa);clear qa e0 qe;go_wp2;go_ret;exact⟨rfl,HX.o⟩
def cE(down:List Bool)(a:Nat):Bool:=down[a]?.getD false
def pI AD(cd:Nat)(down:List Bool)(a:Nat)w(hd:Rd w AD (bB down))(hc:down.length<=cd)(hcd:down.length<=281474976710656)(ha:down=[]\/a<down.length)(hai:a<=1125899906842624):
  Calls prog 140 #[.s AD down.length cd,vI a] w fun e w'=>e=.returned (.bool (cE down a))/\w=w':=by
 by_cases he:down.length=0;{(have hv:cE down a=false:=by unfold cE;rw[FJ.1 he];rfl);rw[hv];rw[he];clear hd ha hv he;go_enter func140,ntmps140;go_wp2;go_ret;exact⟨rfl,rfl⟩};have hN:a<down.length:=(by (rcases ha with h|h);{rw[h]at he;simp at he};omega);obtain⟨b,o,rfl,hb,qe⟩:=hd.bool hN;have hv:cE down a=down[a]?.getD false:=rfl;rw[hv];generalize down[a]?.getD false=x at*;have qa:0<down.length:=qO;clear hd ha hv he;go_enter func140,ntmps140;go_wp2;go_ret;exact⟨rfl,rfl⟩
def cV(t:Tp)(down:List Bool)(a:Nat)(d:Int):Bool:=!cE down a&&(aK t a==d||!bP t (aK t a))
def jzi0 t AO(co:Nat)AL(cl:Nat)AD(cd:Nat)(down:List Bool)(a:Nat)(d:Int)w(ht:aR w t AO co AL cl)(ha:a/2<t.links.length)
  (hd:Rd w AD (bB down)) (hc:down.length<=cd) (hcd:down.length<=281474976710656) (had:down=[]\/a<down.length) (hh:0<=aK t a) (hh':t.over=[]\/aK t a<t.over.length):
  Calls prog 107 #[.agg #[vI t.nodes,.s AO t.over.length co,.s AL t.links.length cl],.s AD down.length cd,vI a,vI d] w fun e w'=>e=.returned (.bool (cV t down a d))/\Ext w w':=by
 have HT:=Hx (ht);have HD:=Hx (hd);have h1:=ht.ll;have h2:=ht.cl;have qi:a<=562949953421313:=qO;obtain⟨qf,e0⟩:=aU w #[vI t.nodes,.s AO t.over.length co,.s AL t.links.length cl] 25;have qe:(cE down a=true/\cV t down a d=false)\/(cE down a=false/\(aK t a==d)=true/\cV t down a d=true)\/(cE down a=false/\(aK t a==d)=false/\cV t down a d=!bP t (aK t a)):=(by unfold cV;cases cE down a;{cases aK t a==d;{exact .inr (.inr ⟨rfl,rfl,rfl⟩)};exact .inr (.inl ⟨rfl,rfl,rfl⟩)};exact .inl ⟨rfl,rfl⟩);(clear ht hd;rcases qe with⟨k1,k2⟩|⟨k1,k2,k3⟩|⟨k1,k2,k3⟩);(case inl=>rw[k2];have K1:=Hx (k1);clear k1 k2;go_enter func107,ntmps107;go_wp2_with fail;refine(mC t AO co AL cl a _ (HT.o.K e0) ha).r fun w1 qa=>?_;have HX:=Hx (e0.tr qa);clear qa e0 qf;generalize aK t a=m at*;go_wp2_with fail;refine(pI AD cd down a _ (HD.o.K HX.o) hc hcd had qO).mono ?_;rintro e w2 ⟨rfl,rfl⟩;rw[K1.o];go_wp2;go_ret;exact⟨rfl,HX.o⟩)
 case inr.inl=>
  rw[k3];have K1:=Hx (k1);clear k1 k3
  go_enter func107,ntmps107
  go_wp2_with fail
  refine(mC t AO co AL cl a _ (HT.o.K e0) ha).r fun w1 qa=>?_;have HX:=Hx (e0.tr qa);clear qa e0 qf;generalize aK t a=m at*
  go_wp2_with fail
  refine(pI AD cd down a _ (HD.o.K HX.o) hc hcd had qO).mono ?_;rintro e w2 ⟨rfl,rfl⟩;rw[K1.o];go_wp2;go_ret;exact⟨rfl,HX.o⟩
 case inr.inr=>
  rw[k3];have K1:=Hx (k1);clear k1 k3
  go_enter func107,ntmps107
  go_wp2_with fail
  refine(mC t AO co AL cl a _ (HT.o.K e0) ha).r fun w1 qa=>?_;have HX:=Hx (e0.tr qa);have qf:=qf.K qa;obtain⟨⟨i0,i1,i2⟩,g0,g1,g2⟩:=qf.t3;clear qa e0;generalize hm:aK t a=m at*;have HM:=Hx (hm);clear hm
  go_wp2_with fail
  refine(pI AD cd down a _ (HD.o.K HX.o) hc hcd had qO).mono ?_;rintro e w2 ⟨rfl,rfl⟩;rw[K1.o]
  go_wp2_with fail
  refine(tR t AO co AL cl m _ (HT.o.K HX.o) hh hh').r fun w3 qg=>?_;have qh:=Hx (HX.o.tr qg);clear qg;go_wp2;go_ret;rw[HM.o];exact⟨rfl,qh.o⟩
def XW(w:World):Type:={W:World//Ext w W}
instance IZ(w:World):Nonempty (XW w):=⟨⟨w,eR w⟩⟩
def XW.val{w:World}(x:XW w):World:=x.1
def XW.ext{w}(x:XW w):Ext w x.val:=x.2
def cA{P:Program}{id:Nat}{Q:Exit->Act->World->Prop}{a:Act}{w}{l:List Oper}(hm:P.follows .mixedOrders=true)(hB:Region.lexB .any l.toArray=true)
  (h:wpQuiet P l.toArray (fun w'=>∃x:XW w,w'=x.val) (fun a'=>∀w',(∃x:XW w,w'=x.val)->Q .normal a' w') l a):(Code.region id l.toArray true).wp P Q a w:=
 wp_region_quiet (C:=fun w'=>∃x:XW w,w'=x.val) hm hB ⟨⟨w.drew,(eR w).drewN 1⟩,rfl⟩ (by simpa using h)
def Calls.ru{P:Program}{f:FuncId}{args:Array Value}{w}{x:XW w}{v:Value}(h:Calls P f args x.val fun e w'=>e=.returned v/\Ext x.val w'):
  Calls P f args x.val fun e w''=>e=.returned v/\∃y:XW w,w''=y.val:=
 h.mono fun _ w' ⟨he,hx⟩=>⟨he,⟨w',x.ext.tr hx⟩,rfl⟩
def XW.cell{w:World}(b o:Nat)(v:Value)(hb:b<w.heap.size)(hc:w.C b o v):∀x:XW w,x.val.cell? (aD b o)=some v:=fun x=>(x.ext.cell (p:=(aD b o)) hb).trans hc
def kg(n lo hi:Int):Bool:=decide (lo<=n/\n<=hi)
def Cr(N n:Int):Bool:=decide (0<=n/\n<N)
def lH(n lo hi:Int)w:Calls prog 134 #[vI n,vI lo,vI hi] w fun e w'=>e=.returned (.bool (kg n lo hi))/\w=w':=jzix n lo hi w
def lI(t:Tp)AO(co:Nat)AL(cl:Nat)(n:Int)w:
 Calls prog 74 #[.agg #[vI t.nodes,.s AO t.over.length co,.s AL t.links.length cl],vI n] w fun e w'=>e=.returned (.bool (Cr t.nodes n))/\Ext w w':=jza8 t AO co AL cl n w
def Lk.ok(N:Int)(l:Lk):Bool:= !(l.a==l.b)&&Cr N l.a&&Cr N l.b&&kg l.c0 1 65535&&kg l.c1 1 65535&&kg l.cap 0 1048576&&kg l.delay 1 65536&&kg l.group 0 64
def cF(t:Tp):Bool:=kg t.nodes 1 64&&decide (t.links.length<=256)&&(decide (t.over.length=0)||decide ((t.over.length:Int)=t.nodes))
def aG(t:Tp):Bool:=cF t&&t.links.all (Lk.ok t.nodes)
def jzi1 t AO(co:Nat)AL(cl:Nat)w(ht:aR w t AO co AL cl)(hh:cF t=false):
  Calls prog 69 #[.agg #[vI t.nodes,.s AO t.over.length co,.s AL t.links.length cl]] w fun e w'=>e=.returned bF/\Ext w w':=by
 have h1:=ht.lo;have h2:=ht.co;have h3:=ht.ll;have h4:=ht.cl;clear ht;unfold cF at hh;cases k1:kg t.nodes 1 64;{clear hh;go_enter func69,ntmps69;(go_wp2_with (go_at_call 134;refine(lH _ _ _ _).mono ?_;rintro e w' ⟨rfl,rfl⟩));go_ret;exact⟨rfl,(eR w).alloc _⟩};by_cases k2:t.links.length<=256;{have k3:((t.over.length:Int) !=0)=true/\((t.over.length:Int) !=t.nodes)=true:=(by rw[k1,yO k2]at hh;simp at hh;simp;exact hh);obtain⟨k3,k4⟩:=k3;clear hh;go_enter func69,ntmps69;(go_wp2_with (go_at_call 134;refine(lH _ _ _ _).mono ?_;rintro e w' ⟨rfl,rfl⟩));go_ret;exact⟨rfl,(eR w).alloc _⟩};have qa:256<t.links.length:=qO;clear hh;go_enter func69,ntmps69;(go_wp2_with (go_at_call 134;refine(lH _ _ _ _).mono ?_;rintro e w' ⟨rfl,rfl⟩));go_ret;exact⟨rfl,(eR w).alloc _⟩
def tT{ls:List Lk}{N:Int}{k:Nat}{l:Lk}(hl:ls[k]?=some l)(hb:l.ok N=false):ls.all (Lk.ok N)=false:=by
 obtain⟨hk,he⟩:=yH.1 hl;rw[List.all_eq_false];exact⟨l,by rw[<-he];exact xR hk,by simp[hb]⟩
def jzba{ls:List Lk}{N:Int}(h:∀(j:Nat) (l:Lk),ls[j]?=some l->l.ok N=true):ls.all (Lk.ok N)=true:=by
 rw[xW];intro l hl;obtain⟨j,hj,rfl⟩:=List.mem_iff_getElem.1 hl;exact h j _ (yG hj)
def jzi2 t AO(co:Nat)AL(cl:Nat)w(ht:aR w t AO co AL cl)(hh:cF t=true):
  Calls prog 69 #[.agg #[vI t.nodes,.s AO t.over.length co,.s AL t.links.length cl]] w fun e w'=>e=.returned (.bool (t.links.all (Lk.ok t.nodes)))/\Ext w w':=by
 have HT:=Hx (ht);have h1:=ht.lo;have h2:=ht.co;have h3:=ht.ll;have h4:=ht.cl;clear ht;obtain⟨qg,e0⟩:=aU w #[vI t.nodes,.s AO t.over.length co,.s AL t.links.length cl] 25;have BA:=Hx (qg);have k1:kg t.nodes 1 64=true:=(by unfold cF at hh;simp at hh;exact hh.1.1);have k2:t.links.length<=256:=(by unfold cF at hh;simp at hh;exact hh.1.2);have k3:(((t.over.length:Int) !=0)=false)\/(((t.over.length:Int) !=0)=true/\((t.over.length:Int) !=t.nodes)=false):=by
  unfold cF at hh;simp at hh;by_cases h:t.over.length=0
  ·exact .inl (by simp;exact FJ.1 h)
  refine .inr ⟨bne_iff_ne.2 qO,?_⟩;have:=hh.2;simp;rcases this with h'|h'
  ·exact absurd (by rw[h'];rfl) h
  exact h'
 clear hh qg;rcases k3 with k3|⟨k3,k4⟩
 all_goals
  go_enter func69,ntmps69
  go_wp2_with (go_at_call 134;refine(lH _ _ _ _).mono ?_;rintro e w' ⟨rfl,rfl⟩)
  go_loopw [30] (fun i wr=>∃k:Nat,k<=t.links.length/\i=vI k/\ak wr w.heap.size 25 #[vI t.nodes,.s AO t.over.length co,.s AL t.links.length cl]/\(∀j l,j<k->t.links[j]?=some l->l.ok t.nodes=true)/\Ext w wr) (fun i _=>t.links.length-(intOf i).toNat)
  case atStart=>exact⟨0,yZ _,rfl,BA.o,fun j l h=>qO,e0⟩
  obtain⟨k,hk,rfl,qa,qh,hx⟩:=hrel;have qm:=Hx qh;clear qh e0;by_cases qn:k<t.links.length
  ·obtain⟨l,hl⟩:∃l,t.links[k]?=some l:=⟨_,yG qn⟩
   have HL:=Hx hl;have qk:=HT.o.K hx;obtain⟨b,o,rfl,hb,c0,c1,c2,c3,c4,c5,c6⟩:=qk.link hl;have HX:=Hx hx;obtain⟨⟨i0,i1,i2⟩,_⟩:=qa.t3;clear hl qk hx
   go_upto_region 9 with fail
   go_cut [63] (fun s wx=>s=.bool ((l.a==l.b)||!Cr t.nodes l.a||!Cr t.nodes l.b)/\ak wx w.heap.size 25 #[vI t.nodes,.s AO t.over.length co,.s (some (aD b o)) t.links.length cl]/\Ext wr wx)
   case first=>
    have x0:=XW.cell _ _ _ qa.lt i0;have x1:=XW.cell _ _ _ qa.lt i1;have x2:=XW.cell _ _ _ qa.lt i2;have y0:=XW.cell _ _ _ hb c0;have y1:=XW.cell _ _ _ hb c1;cases q1:l.a==l.b
    ·cases q2:Cr t.nodes l.a
     ·refine cA qK qK ?_
      repeat (go_big_quiet_step ((go_at_call 74;exact Calls.ru (lI t AO co (some (aD b o)) cl _ _))))
      refine wpQuiet_nil ?_;rintro _ ⟨x,rfl⟩;go_wp2;go_meet;exact⟨by first|(rw[q1,q2,q3];rfl)|(rw[q1,q2];rfl)|(rw[q1];rfl),qa.K x.ext,x.ext⟩
     cases q3:Cr t.nodes l.b
     all_goals
      refine cA qK qK ?_
      repeat (go_big_quiet_step ((go_at_call 74;exact Calls.ru (lI t AO co (some (aD b o)) cl _ _))))
      refine wpQuiet_nil ?_;rintro _ ⟨x,rfl⟩;go_wp2;go_meet;exact⟨by first|(rw[q1,q2,q3];rfl)|(rw[q1,q2];rfl)|(rw[q1];rfl),qa.K x.ext,x.ext⟩
    refine cA qK qK ?_
    repeat (go_big_quiet_step ((go_at_call 74;exact Calls.ru (lI t AO co (some (aD b o)) cl _ _))))
    refine wpQuiet_nil ?_;rintro _ ⟨x,rfl⟩;go_wp2;go_meet;exact⟨by first|(rw[q1,q2,q3];rfl)|(rw[q1,q2];rfl)|(rw[q1];rfl),qa.K x.ext,x.ext⟩
   obtain⟨rfl,qf,qe⟩:=hcut;have qi:=Hx (HX.o.tr qe);have c2:=(qe.cell (p:=(aD b (o+k*7+2))) hb).trans c2;have c3:=(qe.cell (p:=(aD b (o+k*7+3))) hb).trans c3;have c4:=(qe.cell (p:=(aD b (o+k*7+4))) hb).trans c4;have c5:=(qe.cell (p:=(aD b (o+k*7+5))) hb).trans c5;have c6:=(qe.cell (p:=(aD b (o+k*7+6))) hb).trans c6;have qj:((l.a==l.b||!Cr t.nodes l.a||!Cr t.nodes l.b)=true/\l.ok t.nodes=false)\/((l.a==l.b||!Cr t.nodes l.a||!Cr t.nodes l.b)=false/\((kg l.c0 1 65535=false/\l.ok t.nodes=false)\/(kg l.c0 1 65535=true/\kg l.c1 1 65535=false/\l.ok t.nodes=false)\/
     (kg l.c0 1 65535=true/\kg l.c1 1 65535=true/\kg l.cap 0 1048576=false/\l.ok t.nodes=false)\/(kg l.c0 1 65535=true/\kg l.c1 1 65535=true/\kg l.cap 0 1048576=true/\kg l.delay 1 65536=false/\l.ok t.nodes=false)\/
     (kg l.c0 1 65535=true/\kg l.c1 1 65535=true/\kg l.cap 0 1048576=true/\kg l.delay 1 65536=true/\kg l.group 0 64=l.ok t.nodes))):=by
    unfold Lk.ok;cases l.a==l.b <;> cases Cr t.nodes l.a <;> cases Cr t.nodes l.b <;> cases kg l.c0 1 65535 <;> cases kg l.c1 1 65535 <;> cases kg l.cap 0 1048576 <;> cases kg l.delay 1 65536 <;> simp
   clear qa qe i0 i1 i2 c0 c1;obtain⟨⟨i0,i1,i2⟩,_⟩:=qf.t3;generalize hB:(l.a==l.b||!Cr t.nodes l.a||!Cr t.nodes l.b)=bad at*;clear hB;rcases qj with⟨rfl,hf⟩|⟨rfl,⟨d1,hf⟩|⟨d1,d2,hf⟩|⟨d1,d2,d3,hf⟩|⟨d1,d2,d3,d4,hf⟩|⟨d1,d2,d3,d4,d5⟩⟩
   case inr.inr.inr.inr.inr=>
    cases hg:kg l.group 0 64
    ·have hf:=tT HL.o (d5.symm.trans hg)
     have HF:=Hx hf;clear hf d5
     go_wp2_with (go_at_call 134;refine(lH _ _ _ _).mono ?_;rintro e w' ⟨rfl,rfl⟩)
     go_ret;rw[HF.o];exact⟨rfl,qi.o⟩
    have OK:=Hx (d5.symm.trans hg);clear d5
    go_wp2_with (go_at_call 134;refine(lH _ _ _ _).mono ?_;rintro e w' ⟨rfl,rfl⟩)
    go_roundw
    case rel=>exact⟨k+1,qO,by go_num,qf,fun j l' hj hl'=>by
     by_cases e:j=k
     ·subst e;have:=HL.o;rw[this]at hl';injection hl' with hl';subst hl';exact OK.o
     exact qm.o j l' qO hl',qi.o⟩
    simp[intOf];omega
   all_goals
    have hf:=tT HL.o hf;have HF:=Hx hf;clear hf
    go_wp2_with (go_at_call 134;refine(lH _ _ _ _).mono ?_;rintro e w' ⟨rfl,rfl⟩)
    go_ret;rw[HF.o];exact⟨rfl,qi.o⟩
  have qo:k=t.links.length:=qO;subst qo;have HF:=Hx (jzba (ls:=t.links) (N:=t.nodes) (fun j l hj=>qm.o j l (yH.1 hj).1 hj));go_wp2;go_ret;rw[HF.o];exact⟨rfl,hx⟩
def pJ t AO(co:Nat)AL(cl:Nat)w(ht:aR w t AO co AL cl):
  Calls prog 69 #[.agg #[vI t.nodes,.s AO t.over.length co,.s AL t.links.length cl]] w fun e w'=>e=.returned (.bool (aG t))/\Ext w w':=by
 unfold aG;cases hh:cF t;{exact jzi1 t AO co AL cl w ht hh};rw[IX];exact jzi2 t AO co AL cl w ht hh
def mD(n lo hi:Int)w:Calls prog 68 #[vI n,vI lo,vI hi] w fun e w'=>e=.returned (.bool (kg n lo hi))/\w=w':=jziy n lo hi w
def jzbb(N n:Int):kg n 0 (N-1)=Cr N n:=by unfold kg Cr;rw[decide_eq_decide];omega
def kM t AO(co:Nat)AL(cl:Nat)w(ht:aR w t AO co AL cl):
  Calls prog 25 #[.agg #[vI t.nodes,.s AO t.over.length co,.s AL t.links.length cl]] w fun e w'=>e=.returned (.bool (aG t))/\Ext w w':=by
 have HT:=Hx (ht);have h1:=ht.lo;have h2:=ht.co;have h3:=ht.ll;have h4:=ht.cl;have qt:=ht.nodes;clear ht;obtain⟨qe,e0⟩:=aU w #[vI t.nodes,.s AO t.over.length co,.s AL t.links.length cl] 25;have BA:=Hx (qe);have qa:(kg t.nodes 1 64=false/\aG t=false)\/(kg t.nodes 1 64=true/\((((t.over.length:Int) !=0)=true/\((t.over.length:Int) !=t.nodes)=true/\aG t=false)\/
   (((((t.over.length:Int) !=0)=true/\((t.over.length:Int) !=t.nodes)=false)\/((t.over.length:Int) !=0)=false)/\((decide (256<t.links.length)=true/\aG t=false)\/(t.links.length<=256/\aG t=t.links.all (Lk.ok t.nodes)))))):=by
  unfold aG cF;cases kg t.nodes 1 64
  ·exact .inl ⟨rfl,rfl⟩
  refine .inr ⟨rfl,?_⟩;by_cases k1:t.over.length=0
  ·have e1:((t.over.length:Int) !=0)=false:=by rw[k1];rfl
   refine .inr ⟨.inr e1,?_⟩;by_cases k2:t.links.length<=256
   ·exact .inr ⟨k2,by rw[yO k2,yO k1];rfl⟩
   exact .inl ⟨by simp;omega,by rw[yP k2];rfl⟩
  have e1:((t.over.length:Int) !=0)=true:=bne_iff_ne.2 qO;by_cases k3:(t.over.length:Int)=t.nodes
  ·have e2:((t.over.length:Int) !=t.nodes)=false:=by rw[k3];simp
   refine .inr ⟨.inl ⟨e1,e2⟩,?_⟩;by_cases k2:t.links.length<=256
   ·exact .inr ⟨k2,by rw[yO k2,yP k1,yO k3];rfl⟩
   exact .inl ⟨by simp;omega,by rw[yP k2];rfl⟩
  exact .inl ⟨e1,bne_iff_ne.2 k3,by rw[yP k1,yP k3];simp⟩
 generalize hV:aG t=V at*;clear qe hV;rcases qa with⟨k1,rfl⟩|⟨k1,⟨k2,k3,rfl⟩|⟨hh,⟨k4,rfl⟩|⟨k4,k5⟩⟩⟩
 ·skip
  go_enter func25,ntmps25
  go_wp2_with (go_at_call 68;refine(mD _ _ _ _).mono ?_;rintro e w' ⟨rfl,rfl⟩)
  go_ret;exact⟨rfl,e0⟩
 ·skip
  go_enter func25,ntmps25
  go_wp2_with (go_at_call 68;refine(mD _ _ _ _).mono ?_;rintro e w' ⟨rfl,rfl⟩)
  go_ret;exact⟨rfl,e0⟩
 ·have qo:256<t.links.length:=by simpa using k4
  clear k4;rcases hh with⟨k2,k3⟩|k2
  all_goals
   go_enter func25,ntmps25
   go_wp2_with (go_at_call 68;refine(mD _ _ _ _).mono ?_;rintro e w' ⟨rfl,rfl⟩)
   go_ret;exact⟨rfl,e0⟩
 have K5:=Hx k5;clear k5;have hN:1<=t.nodes/\t.nodes<=64:=of_decide_eq_true k1;have qp:=hN.1;have qw:=hN.2;clear hN;rcases hh with⟨k2,k3⟩|k2
 all_goals
  go_enter func25,ntmps25
  go_wp2_with (go_at_call 68;refine(mD _ _ _ _).mono ?_;rintro e w' ⟨rfl,rfl⟩)
  go_loopw [3] (fun i wr=>∃k:Nat,k<=t.links.length/\i=vI k/\ak wr w.heap.size 25 #[vI t.nodes,.s AO t.over.length co,.s AL t.links.length cl]/\(∀j l,j<k->t.links[j]?=some l->l.ok t.nodes=true)/\Ext w wr) (fun i _=>t.links.length-(intOf i).toNat)
  case atStart=>exact⟨0,yZ _,rfl,BA.o,fun j l h=>qO,e0⟩
  obtain⟨k,hk,rfl,qg,qf,hx⟩:=hrel;have qj:=Hx qf;clear qf e0;obtain⟨⟨i0,i1,i2⟩,_⟩:=qg.t3;have qn:=qg.lt;by_cases qk:k<t.links.length
  ·obtain⟨l,hl⟩:∃l,t.links[k]?=some l:=⟨_,yG qk⟩
   have HL:=Hx hl;have qi:=HT.o.K hx;obtain⟨b,o,rfl,hb,c0,c1,c2,c3,c4,c5,c6⟩:=qi.link hl;have HX:=Hx hx;have qh:(kg l.a 0 (t.nodes-1)=false/\l.ok t.nodes=false)\/(kg l.a 0 (t.nodes-1)=true/\kg l.b 0 (t.nodes-1)=false/\l.ok t.nodes=false)\/(kg l.a 0 (t.nodes-1)=true/\kg l.b 0 (t.nodes-1)=true/\(l.a==l.b)=true/\l.ok t.nodes=false)\/
     (kg l.a 0 (t.nodes-1)=true/\kg l.b 0 (t.nodes-1)=true/\(l.a==l.b)=false/\((kg l.c0 1 65535=false/\l.ok t.nodes=false)\/(kg l.c0 1 65535=true/\kg l.c1 1 65535=false/\l.ok t.nodes=false)\/
     (kg l.c0 1 65535=true/\kg l.c1 1 65535=true/\kg l.cap 0 1048576=false/\l.ok t.nodes=false)\/(kg l.c0 1 65535=true/\kg l.c1 1 65535=true/\kg l.cap 0 1048576=true/\kg l.delay 1 65536=false/\l.ok t.nodes=false)\/
     (kg l.c0 1 65535=true/\kg l.c1 1 65535=true/\kg l.cap 0 1048576=true/\kg l.delay 1 65536=true/\kg l.group 0 64=false/\l.ok t.nodes=false)\/
     (kg l.c0 1 65535=true/\kg l.c1 1 65535=true/\kg l.cap 0 1048576=true/\kg l.delay 1 65536=true/\kg l.group 0 64=true/\l.ok t.nodes=true))):=by
    rw[jzbb,jzbb];unfold Lk.ok;cases l.a==l.b <;> cases Cr t.nodes l.a <;> cases Cr t.nodes l.b <;> cases kg l.c0 1 65535 <;> cases kg l.c1 1 65535 <;> cases kg l.cap 0 1048576 <;> cases kg l.delay 1 65536 <;> cases kg l.group 0 64 <;> simp
   clear hl qi hx;rcases qh with⟨d1,hf⟩|⟨d1,d2,hf⟩|⟨d1,d2,d3,hf⟩|⟨d1,d2,d3,⟨d4,hf⟩|⟨d4,d5,hf⟩|⟨d4,d5,d6,hf⟩|⟨d4,d5,d6,d7,hf⟩|⟨d4,d5,d6,d7,d8,hf⟩|⟨d4,d5,d6,d7,d8,hf⟩⟩
   case inr.inr.inr.inr.inr.inr.inr.inr=>
    have OK:=Hx hf;clear hf
    go_wp2_with (go_at_call 68;refine(mD _ _ _ _).mono ?_;rintro e w' ⟨rfl,rfl⟩)
    go_roundw
    case rel=>exact⟨k+1,qO,by go_num,qg.alloc _,fun j l' hj hl'=>by
     by_cases e:j=k
     ·subst e;have:=HL.o;rw[this]at hl';injection hl' with hl';subst hl';exact OK.o
     exact qj.o j l' qO hl',HX.o.alloc _⟩
    simp[intOf];omega
   all_goals
    have hf:=tT HL.o hf;have HF:=Hx hf;clear hf
    go_wp2_with (go_at_call 68;refine(mD _ _ _ _).mono ?_;rintro e w' ⟨rfl,rfl⟩)
    go_ret;rw[K5.o,HF.o];exact⟨rfl,HX.o.alloc _⟩
  have qm:k=t.links.length:=qO;subst qm;have HF:=Hx (jzba (ls:=t.links) (N:=t.nodes) (fun j l hj=>qj.o j l (yH.1 hj).1 hj));go_wp2;go_ret;rw[K5.o,HF.o];exact⟨rfl,hx⟩
def Tryz.Jc:(prog.info? 42).map (fun i=>(i.zero,i.size,i.bytes))=some (some zN,1,24):=by kernel_rfl
def Tryz.info3:(prog.info? 3).map (fun i=>(i.zero,i.size,i.bytes))=some (some (vI 0),1,8):=by kernel_rfl
def ints(l:LN):List Value:=l.map fun a:Nat=>Value.int .i64 (a:Int)
def bX(l:LN):(ints l).length=l.length:=by simp[ints]
def gU(l:LN)(a:Nat):ints (l++[a])=ints l++[vI (a:Int)]:=by simp[ints]
def pK(l:LN)(i:Nat)(h:i<l.length):(ints l)[i]?=some (vI ((l[i]?.getD 0:Nat):Int)):=by simp[ints,h]
structure Fam(w:World)(g B N:Nat)(V:Nat->Value)(X:Nat->LN):Prop where
 row:ak w g 42 ((List.range N).map V).toArray
 own:∀i,i<N->w.ownsRow B 3 1 (V i) (X i).length (ints (X i))
 sep:∀i j,i<N->j<N->i≠j->(V i).ownBlock=none\/(V i).ownBlock≠(V j).ownBlock
def jzi3(N:Nat)(V:Nat->Value)(n:Nat)(v:Value)(hn:n<N):((List.range N).map V).toArray.setIfInBounds n v=((List.range N).map fun i=>if i=n then v else V i).toArray:=by
 apply Array.ext';simp only[yD];apply uK;intro i;by_cases h:i<N;{by_cases e:i=n;{subst e;simp[h]};rw[vN qO];simp[h,e]};rw[yI (by simp;omega),yI (by simp;omega)]
def pL(N:Nat)(V:Nat->Value)(n:Nat)(hn:n<N):((List.range N).map V).toArray[n]?=some (V n):=by simp[hn]
def Fam.far{w}{g B N:Nat}{V:Nat->Value}{X:Nat->LN}(h:Fam w g B N V X):∀i,i<N->(V i).ownBlock≠some g:=fun i hi=>by
 (have ho:=h.own i hi;intro e;obtain⟨_,h2⟩:=ho;rcases h2 with⟨h3,_⟩|⟨g',cap,cur,h3,_,h5,_⟩);{rw[h3]at e;cases e};{rw[h3]at e;(have:g'=g:=(by simpa [Value.ownBlock]using e);subst this;have hr:=h.row;unfold ak at hr;rw[h5]at hr;injection hr with hr);(injection hr with _ ht);revert ht;decide}
def Fam.rowG{w w1}{g B N n:Nat}{V:Nat->Value}{X:Nat->LN}(h:Fam w g B N V X)(hn:n<N)(hg:w.grownBy w1 (V n).ownBlock):ak w1 g 42 ((List.range N).map V).toArray:=
 (hg.block g h.row.lt (fun e=>h.far n hn e.symm)).trans h.row
def Fam.app{w w1:World}{g B N n a:Nat}{V:Nat->Value}{X:Nat->LN}{v':Value}(h:Fam w g B N V X)(hn:n<N)
  (hown:w1.ownsRow B 3 1 v' ((X n).length+1) (ints (X n)++[vI (a:Int)])) (hg:w.grownBy w1 (V n).ownBlock) (hb:v'.ownBlock=(V n).ownBlock\/v'.ownBlock=some w.heap.size):
  Fam (w1.setCell (aD g n) v') g B N (fun i=>if i=n then v' else V i) (fun i=>if i=n then X n++[a]else X i):=by
 have qh:∀i,i<N->(V i).ownBlock≠some g:=fun i hi=>(by (have ho:=h.own i hi;intro e;obtain⟨_,h2⟩:=ho;rcases h2 with⟨h3,_⟩|⟨g',cap,cur,h3,_,h5,_⟩);{rw[h3]at e;cases e};(rw[h3]at e;have:g'=g:=(by simpa [Value.ownBlock]using e);subst this;have hr:=h.row;unfold ak at hr;rw[h5]at hr;injection hr with hr);(injection hr with _ ht);revert ht;decide);have qe:ak w1 g 42 ((List.range N).map V).toArray:=(hg.block g h.row.lt (fun e=>qh n hn e.symm)).trans h.row;have qg:v'.ownBlock≠some g:=(by (rcases hb with e|e);{rw[e];exact qh n hn};rw[e];intro e';have:=h.row.lt;injection e' with e';omega);have qa:∀(u:Value) (m:Nat) (ys:List Value),w1.ownsRow B 3 1 u m ys->u.ownBlock≠some g->(w1.setCell (aD g n) v').ownsRow B 3 1 u m ys:=fun u m ys ho hu=>(by (refine⟨ho.1,?_⟩;rcases ho.2 with h3|⟨g',cap,cur,h3,h4,h5,h6⟩);{exact .inl h3};refine .inr ⟨g',cap,cur,h3,h4,(Below.heap_setCell w1 (aD g n) v' g' ?_).trans h5,h6⟩;rintro rfl;exact hu (by rw[h3];simp[Value.ownBlock]));refine⟨?_,?_,?_⟩;{rw[<-jzi3 N V n v' hn];exact qe.sT n v'};{intro i hi;by_cases e:i=n;{subst e;simp only[if_true];rw[yQ,gU];exact qa _ _ _ hown qg};(simp only[qF e];refine qa _ _ _ ((h.own i hi).kept hg ?_) (qh i hi);rcases h.sep i n hi hn e with h1|h1);{exact .inl h1};exact .inr h1};intro i j hi hj qf;have qi:∀k,k<N->(V k).ownBlock≠some w.heap.size:=fun k hk e=>(by have:=(h.own k hk).lt _ e;omega);by_cases ei:i=n;{subst ei;(simp only[if_true,qF (fun e:j=i=>qf e.symm)];rcases hb with e|e);{rw[e];exact h.sep i j hi hj qf};rw[e];right;exact fun e'=>qi j hj e'.symm};simp only[qF ei];by_cases ej:j=n;{subst ej;(simp only[if_true];rcases hb with e|e);{rw[e];exact h.sep i j hi hj qf};rw[e];right;exact qi i hi};simp only[qF ej];exact h.sep i j hi hj qf
def Fam.alloc{w}{g B N:Nat}{V:Nat->Value}{X:Nat->LN}(h:Fam w g B N V X)(o:Obj):Fam (w.alloc o) g B N V X:=
 ⟨h.row.alloc o,fun i hi=>(h.own i hi).alloc o,h.sep⟩
def Fam.K{w w'}{g B N:Nat}{V:Nat->Value}{X:Nat->LN}(h:Fam w g B N V X)(hx:Ext w w'):Fam w' g B N V X:=
 ⟨h.row.K hx,fun i hi=>(h.own i hi).kept (row:=none) ⟨hx.os,hx.tape,hx.output,hx.size,fun k hk _=>hx.block k hk⟩ (by
  by_cases e:(V i).ownBlock=none
  ·exact .inl e
  ·exact .inr e),h.sep⟩
def cG(t:Tp)(m n:Nat):LN:=(List.range m).filter fun a=>dG t a==(n:Int)
def aL(t:Tp)(n:Nat):LN:=cG t (2*t.links.length) n
def tU t(m n:Nat):cG t (m+1) n=if dG t m==(n:Int)then cG t m n++[m]else cG t m n:=by
 unfold cG;rw[IY,List.filter_append];by_cases h:dG t m==(n:Int) <;> simp[h]
def lJ t(m n:Nat):(cG t m n).length<=m:=by
 unfold cG;exact yY (List.length_filter_le _ _) qS
def LL(w:World)(g N:Nat)(X:Nat->LN):Prop:=
 ∃V:Nat->Value,ak w g 42 ((List.range N).map V).toArray/\∀i,i<N->∃(A:OA) (c:Nat),V i=.s A (X i).length c/\(X i).length<=c/\og w 3 A (ints (X i))
def LL.K{w w'}{g N:Nat}{X:Nat->LN}(h:LL w g N X)(hx:Ext w w'):LL w' g N X:=by
 obtain⟨V,h1,h2⟩:=h;refine⟨V,h1.K hx,fun i hi=>?_⟩;obtain⟨A,c,h3,h4,h5⟩:=h2 i hi;exact⟨A,c,h3,h4,h5.K hx⟩
def fA{w:World}{B n:Nat}{v:Value}{l:LN}(h:w.ownsRow B 3 1 v n (ints l))(hn:n=l.length):∃(A:OA) (c:Nat),v=.s A l.length c/\l.length<=c/\og w 3 A (ints l):=by
 subst hn;obtain⟨h1,h2⟩:=h;rcases h2 with⟨h3,h4⟩|⟨g',cap,cur,h3,h4,h5,h6,h7,h8,h9⟩
 ·have:l=[]:=by simpa [ints]using h4
  subst this;exact⟨none,0,h3,yX _,og.nil _ _ _⟩
 refine⟨(sA g'),cap,h3,h6,fun _=>⟨g',0,cur,(0,0),rfl,h5,fun i hi=>?_⟩⟩;rw[<-h9,xG,qE (by rw[bX]at hi;omega),CU];simp
def Fam.ll{w}{g B N:Nat}{V:Nat->Value}{X:Nat->LN}(h:Fam w g B N V X):LL w g N X:=
 ⟨V,h.row,fun i hi=>fA (h.own i hi) rfl⟩
def tW t AO(co:Nat)AL(cl:Nat)w(ht:aR w t AO co AL cl)(hv:aG t=true):
  Calls prog 75 #[.agg #[vI t.nodes,.s AO t.over.length co,.s AL t.links.length cl]] w fun e w'=>∃g N:Nat,t.nodes=(N:Int)/\e=.returned (.s (sA g) N N)/\LL w' g N (aL t)/\Ext w w':=by
 have hN:∃N:Nat,t.nodes=(N:Int)/\1<=N/\N<=64/\t.links.length<=256:=(by unfold aG cF kg at hv;simp at hv;exact⟨t.nodes.toNat,qO,qO,qO,qO⟩);have qJ:∀a,a<2*t.links.length->∃n:Nat,dG t a=(n:Int)/\(n:Int)<t.nodes:=fun a ha=>(by unfold aG at hv;rw[vM]at hv;obtain⟨l,hl⟩:∃l,t.links[a/2]?=some l:=⟨_,yG qO⟩;have qI:=xW.1 hv.2 l (yJ hl);unfold Lk.ok Cr at qI;simp at qI;unfold dG;rw[hl];simp only[];split;{exact⟨l.a.toNat,qO,qO⟩};exact⟨l.b.toNat,qO,qO⟩);obtain⟨N,qx,q9,q7,q8⟩:=hN;have HN:=Hx (qx);have HT:=Hx (ht);have TL:=Hx (qJ);have h3:=ht.ll;have h4:=ht.cl;clear ht hv qJ;obtain⟨ti,hi,qZ,q1,qX⟩:=info_parts Tryz.info3;obtain⟨qh,e0⟩:=aU w #[vI (N:Int),.s AO t.over.length co,.s AL t.links.length cl] 25;have q2:=run_make_row' (P:=prog) 64 42 zN 24 underlying64 Tryz.Jc rfl .i64 .i64 N qO qO;have qn:(Value.agg #[vI t.nodes,.s AO t.over.length co,.s AL t.links.length cl])=.agg #[vI (N:Int),.s AO t.over.length co,.s AL t.links.length cl]:=(by rw[qx]);rw[qn];clear qn;have qk:∀(W:World),Ext w W->Calls prog 45 #[.agg #[vI (N:Int),.s AO t.over.length co,.s AL t.links.length cl]] W fun e w'=>e=.returned (vI (2*(t.links.length:Int)))/\Ext W w':=fun W hW=>(by have:=fQ t AO co AL cl W (HT.o.K hW);rw[qx]at this;exact this);have qm:∀(W:World) (a:Nat),Ext w W->a/2<t.links.length->Calls prog 115 #[.agg #[vI (N:Int),.s AO t.over.length co,.s AL t.links.length cl],vI a] W fun e w'=>e=.returned (vI (dG t a))/\Ext W w':=fun W a hW ha=>(by have:=tP t AO co AL cl a W (HT.o.K hW) ha;rw[qx]at this;exact this);have qt:=Hx (qk);have qC:=Hx (qm);clear qk qm qx;go_enter func75,ntmps75;go_wp2_with fail;refine(qt.o _ (e0.alloc _)).r fun w1 qw=>?_;have E1:=Hx ((e0.alloc _).tr qw);have qe:Fam ((w.alloc (.cells #[vI (N:Int),.s AO t.over.length co,.s AL t.links.length cl] 25)).alloc (.cells (madeCells #[zN] N) 42)) (w.heap.size+1) (w.heap.size+2) N (fun _=>zN) (fun _=>[]):=(by refine⟨?_,fun i hi=>World.ownsRow_nil _ _ _ _,fun i j _ _ _=>.inl rfl⟩;have e:((List.range N).map fun _=>Value.slice none 0 0).toArray=madeCells #[zN] N:=(by apply Array.toList_inj.1;rw[toList_madeCells_one];simp only[List.map_const',Jt]);rw[e];exact ak.new' _ _ _ qS);have qe:=qe.K qw;have qh:=(qh.alloc (.cells (madeCells #[zN] N) 42)).K qw;have z1:w.heap.size+2<=w1.heap.size:=(by have:=qw.size;simp at this;omega);clear qw e0 q2 qt;go_wp2;(go_loopw [11] (fun it wr=>∃(m:Nat) (V:Nat->Value),m<=2*t.links.length/\it=vI m/\Fam wr (w.heap.size+1) (w.heap.size+2) N V (cG t m)/\ak wr w.heap.size 25 #[vI (N:Int),.s AO t.over.length co,.s AL t.links.length cl]/\Ext w wr) (fun i _=>2*t.links.length-(intOf i).toNat));exact⟨0,_,yZ _,rfl,qe,qh,E1.o⟩;clear qe qh;obtain⟨m,V,hm,rfl,qe,qh,hx⟩:=hrel;obtain⟨⟨i0,i1,i2⟩,g0,g1,g2⟩:=qh.t3;by_cases q3:m<2*t.links.length;{obtain⟨n,qH,qT⟩:=TL.o m q3;rw[HN.o]at qT;have hn:n<N:=qO;have TN:=Hx qH;have qQ:=Hx qe;have E:=Hx hx;clear qH qT qe hx;go_wp2_with fail;refine(qC.o _ m E.o qO).r fun w2 qy=>?_;rw[TN.o];have qf:=Hx (qQ.o.K qy);have qh:=qh.K qy;have E2:=Hx (E.o.tr qy);have q6:w.heap.size+2<=w2.heap.size:=(by have:=qf.o.row.lt;omega);have qU:w2.cell? (aD (w.heap.size+1) n)=some (V n):=(qf.o.row.cell n).trans (pL N V n hn);have qj:=qf.o.own n hn;have qW:=lJ t m n;have j1:(n:Int)<(N:Int):=qO;obtain⟨A,c,hV,_,_⟩:=fA qj rfl;rw[hV]at qU qj;have HV:=Hx hV;have qM:=Hx qj;clear hV qj qy;generalize hL:(cG t m n).length=L at*;have HL:=Hx hL;clear hL;(go_wp2_with (at_builtin;go_must (refine wpList_append_own_at _ rfl (.tmp 22) (.tmp 24) 42 rfl (w.heap.size+2) 3 ti (vI 0) 1 8 underlying42 hi qZ q1 qX rfl qD (.s A L c) L (ints (cG t m n)) rfl (qM.o.alloc _) (aD w2.heap.size 0) 1 1 [vI (m:Int)] rfl rfl ?c1 ?c2 ?c3 ?c4 ?c5 ?_)));(case c1=>intro j u hj;(match j,hj with|0,hj=>simp at hj;subst hj;simp[Addr.add]));(case c2=>intro u hu;simp at hu;subst hu;rfl);(case c3=>unfold maxLen;omega);(case c4=>omega);(case c5=>simp;omega);intro v' w3 qi qa _ qB;have qo:=Hx (qf.o.alloc (.cells #[vI (m:Int)] 3));rw[<-HV.o]at qa qB;have qg:=qo.o.rowG hn qa;have q5:w3.cell? (aD (w.heap.size+1) n)=some (V n):=(qg.cell n).trans (pL N V n hn);have va:=qg.frozen n;rw[HV.o]at q5;have qz:Below w.heap.size w w3:=(E2.o.alloc (.cells #[vI (m:Int)] 3)).grown qa (by simp;omega) (fun k hk=>by have:=(qf.o.own n hn).lt k hk;omega);have qA:ak w3 w.heap.size 25 #[vI (N:Int),.s AO t.over.length co,.s AL t.links.length cl]:=(qa.block w.heap.size (by have:=qh.lt;simp;omega) (fun e=>by have:=(qf.o.own n hn).lt _ e.symm;omega)).trans (qh.alloc _);have q4:∃g' cap,v'=.s (sA g') (L+1) cap:=(by (rcases qi.2 with⟨_,h⟩|⟨g',cap,_,h,_⟩);{omega};exact⟨g',cap,h⟩);obtain⟨g',cap,q0⟩:=q4;subst q0;have qp:=Hx (qo.o.app (a:=m) hn (by rw[HL.o];exact qi) qa (by simpa using qB));have hX:(fun i=>if i=n then cG t m n++[m]else cG t m i)=cG t (m+1):=(by funext i;rw[tU,TN.o];by_cases e:i=n;{subst e;simp};rw[qF e,qF (by simp;omega)]);rw[hX]at qp;clear hX qa qB qi qg qM qQ qf qo qh;go_wp2;go_roundw;(case rel=>exact⟨m+1,_,qO,by go_num,qp.o,qA.far qS _,Ext.sT qz qS _⟩);simp[intOf];omega};have qY:m=2*t.links.length:=qO;subst qY;have qV:=Hx qe.ll;have E:=Hx hx;clear qe hx;go_wp2;go_ret;exact⟨_,N,HN.o,rfl,qV.o,E.o⟩
def gV t AO(co:Nat)AL(cl:Nat)w(ht:aR w t AO co AL cl)(hv:aG t=true):
  Calls prog 14 #[.agg #[vI t.nodes,.s AO t.over.length co,.s AL t.links.length cl]] w fun e w'=>e=.returned (vI (2*(t.links.length:Int)))/\Ext w w':=by
 have HT:=Hx (ht);have HV:=Hx (hv);have h3:=ht.ll;have h4:=ht.cl;clear ht hv;obtain⟨qa,e0⟩:=aU w #[vI t.nodes,.s AO t.over.length co,.s AL t.links.length cl] 25;go_enter func14,ntmps14;go_wp2_with fail;refine(kM t AO co AL cl _ (HT.o.K e0)).r fun w1 qe=>?_;rw[HV.o];have qa:=qa.K qe;obtain⟨⟨i0,i1,i2⟩,g0,g1,g2⟩:=qa.t3;have HX:=Hx (e0.tr qe);clear qe e0;go_wp2;go_ret;exact⟨rfl,HX.o⟩
def tX t AO(co:Nat)AL(cl:Nat)(a:Nat)w(ht:aR w t AO co AL cl)(hv:aG t=true)(ha:a<2*t.links.length):
  Calls prog 169 #[.agg #[vI t.nodes,.s AO t.over.length co,.s AL t.links.length cl],vI a] w fun e w'=>e=.returned (vI (dG t a))/\Ext w w':=by
 (have HT:=Hx (ht);have HV:=Hx (hv);have h3:=ht.ll;have h4:=ht.cl;obtain⟨l,hl⟩:∃l,t.links[a/2]?=some l:=⟨_,yG qO⟩;have qf:dG t a=if a%2=0 then l.a else l.b:=by unfold dG;rw[hl]);rw[qf];obtain⟨b,o,rfl,hb,c0,c1,_⟩:=ht.link hl;clear ht hv qf hl;obtain⟨qe,e0⟩:=aU w #[vI t.nodes,.s AO t.over.length co,.s (some (aD b o)) t.links.length cl] 25;by_cases h:a%2=0;{rw[qE h];have h':(((a:Int)%2)==0)=true:=(by simp;omega);clear h;go_enter func169,ntmps169;go_wp2_with fail;refine(gV t AO co (some (aD b o)) cl _ (HT.o.K e0) HV.o).r fun w1 qa=>?_;have qe:=qe.K qa;obtain⟨⟨i0,i1,i2⟩,g0,g1,g2⟩:=qe.t3;have HX:=Hx (e0.tr qa);have c0:=(HX.o.cell (p:=(aD b (o+a/2*7))) hb).trans c0;have c1:=(HX.o.cell (p:=(aD b (o+a/2*7+1))) hb).trans c1;clear qa e0;go_wp2;go_ret;exact⟨rfl,HX.o⟩};rw[qF h];have h':(((a:Int)%2)==0)=false:=yK.2 qO;clear h;go_enter func169,ntmps169;go_wp2_with fail;refine(gV t AO co (some (aD b o)) cl _ (HT.o.K e0) HV.o).r fun w1 qa=>?_;have qe:=qe.K qa;obtain⟨⟨i0,i1,i2⟩,g0,g1,g2⟩:=qe.t3;have HX:=Hx (e0.tr qa);have c0:=(HX.o.cell (p:=(aD b (o+a/2*7))) hb).trans c0;have c1:=(HX.o.cell (p:=(aD b (o+a/2*7+1))) hb).trans c1;clear qa e0;go_wp2;go_ret;exact⟨rfl,HX.o⟩
def jzbc t(a:Nat):aK t a=dG t (a/2*2+1-a%2):=by
 rw[jza7];congr 1;rw[tQ];split <;> omega
def tY t AO(co:Nat)AL(cl:Nat)(a:Nat)w(ht:aR w t AO co AL cl)(hv:aG t=true)(ha:a<2*t.links.length):
  Calls prog 120 #[.agg #[vI t.nodes,.s AO t.over.length co,.s AL t.links.length cl],vI a] w fun e w'=>e=.returned (vI (aK t a))/\Ext w w':=by
 have HT:=Hx (ht);have HV:=Hx (hv);have h3:=ht.ll;have h4:=ht.cl;rw[jzbc];have qh:a/2*2+1-a%2<2*t.links.length:=qO;have e1:(a:Int)/2*2+1-(a:Int)%2=((a/2*2+1-a%2:Nat):Int):=qO;have E1:=Hx (e1);clear ht hv e1;obtain⟨qa,e0⟩:=aU w #[vI t.nodes,.s AO t.over.length co,.s AL t.links.length cl] 25;go_enter func120,ntmps120;go_wp2_with fail;refine(gV t AO co AL cl _ (HT.o.K e0) HV.o).r fun w1 qe=>?_;have qa:=qa.K qe;obtain⟨⟨i0,i1,i2⟩,g0,g1,g2⟩:=qa.t3;have HX:=Hx (e0.tr qe);clear qe e0;go_wp2_with fail;rw[E1.o];refine(tX t AO co AL cl _ _ (HT.o.K HX.o) HV.o qh).r fun w2 qf=>?_;have qg:=Hx (HX.o.tr qf);clear qf;go_wp2;go_ret;exact⟨rfl,qg.o⟩
def jzbd t AO(co:Nat)AL(cl:Nat)(n:Nat)w(ht:aR w t AO co AL cl)(hv:aG t=true):
  Calls prog 118 #[.agg #[vI t.nodes,.s AO t.over.length co,.s AL t.links.length cl],vI n] w fun e w'=>e=.returned (.bool (bP t n))/\Ext w w':=by
 have HT:=Hx (ht);have HV:=Hx (hv);have h1:=ht.lo;have h2:=ht.co;obtain⟨qf,e0⟩:=aU w #[vI t.nodes,.s AO t.over.length co,.s AL t.links.length cl] 25;by_cases hn:n<t.over.length;{obtain⟨b,o,rfl,hb,hc⟩:=ht.over.bool hn;have qa:bP t n=t.over[n]?.getD false:=rfl;rw[qa];generalize t.over[n]?.getD false=x at*;clear ht hv qa;go_enter func118,ntmps118;go_wp2_with fail;refine(kM t (some (aD b o)) co AL cl _ (HT.o.K e0)).r fun w1 qe=>?_;rw[HV.o];have qf:=qf.K qe;obtain⟨⟨i0,i1,i2⟩,g0,g1,g2⟩:=qf.t3;have HX:=Hx (e0.tr qe);have hc:=(HX.o.cell (p:=(aD b (o+n))) hb).trans hc;clear qe e0;go_wp2;go_ret;exact⟨rfl,HX.o⟩};have qa:bP t n=false:=(by unfold bP;rw[xL,yI qO];rfl);rw[qa];clear ht hv qa;go_enter func118,ntmps118;go_wp2_with fail;refine(kM t AO co AL cl _ (HT.o.K e0)).r fun w1 qe=>?_;rw[HV.o];have qf:=qf.K qe;obtain⟨⟨i0,i1,i2⟩,g0,g1,g2⟩:=qf.t3;have HX:=Hx (e0.tr qe);clear qe e0;go_wp2;go_ret;exact⟨rfl,HX.o⟩
def jzbe AD(cd:Nat)(down:List Bool)(a:Nat)w(hd:Rd w AD (bB down)):
  Calls prog 121 #[.s AD down.length cd,vI a] w fun e w'=>e=.returned (.bool (cE down a))/\w=w':=by
 by_cases hN:a<down.length;{obtain⟨b,o,rfl,hb,qa⟩:=hd.bool hN;have hv:cE down a=down[a]?.getD false:=rfl;rw[hv];generalize down[a]?.getD false=x at*;clear hd hv;go_enter func121,ntmps121;go_wp2;go_ret;exact⟨rfl,rfl⟩};have hv:cE down a=false:=(by unfold cE;rw[yI qO];rfl);rw[hv];clear hd hv;go_enter func121,ntmps121;go_wp2;go_ret;exact⟨rfl,rfl⟩
def jzi4 t AO(co:Nat)AL(cl:Nat)AD(cd:Nat)(down:List Bool)w(ht:aR w t AO co AL cl)(hval:aG t=true):
  Calls prog 90 #[.agg #[vI t.nodes,.s AO t.over.length co,.s AL t.links.length cl],.s AD down.length cd] w fun e w'=>e=.returned (.bool (bU t down))/\Ext w w':=by
 have HT:=Hx (ht);have HV:=Hx (hval);have h1:=ht.ll;have h2:=ht.cl;clear ht hval;obtain⟨qe,e0⟩:=aU w #[vI t.nodes,.s AO t.over.length co,.s AL t.links.length cl] 25;by_cases h:down.length=0;{(have hz:((down.length:Int)==0)=true:=by rw[h];rfl);have hv:bU t down=true:=(by unfold bU;simp only[decide_eq_true_eq];exact .inl h);rw[hv];clear hv h;go_enter func90,ntmps90;go_wp2_with fail;go_ret;exact⟨rfl,e0⟩};have hz:((down.length:Int)==0)=false:=yK.2 qO;have hv:((down.length:Int)==2*(t.links.length:Int))=bU t down:=(by unfold bU;by_cases h':down.length=2*t.links.length;{rw[yO (.inr h')];simp;omega};rw[yP qO];exact yK.2 qO);generalize bU t down=v at*;clear h;go_enter func90,ntmps90;go_wp2_with fail;refine(gV t AO co AL cl _ (HT.o.K e0) HV.o).r fun w1 qa=>?_;have HX:=Hx (e0.tr qa);clear qa e0 qe;go_wp2;go_ret;exact⟨rfl,HX.o⟩
def jzi5 t AO(co:Nat)AL(cl:Nat)(n:Nat)w(ht:aR w t AO co AL cl)(hv:aG t=true)(hll:t.links.length<=256):
  Calls prog 119 #[.agg #[vI t.nodes,.s AO t.over.length co,.s AL t.links.length cl],vI n] w fun e w'=>∃(A:OA) (c:Nat),e=.returned (.s A (aL t n).length c)/\(aL t n).length<=c/\og w' 3 A (ints (aL t n))/\Ext w w':=by
 have HT:=Hx (ht);have HV:=Hx (hv);have h3:=ht.ll;have h4:=ht.cl;clear ht hv;obtain⟨ti,hi,qw,qz,qB⟩:=info_parts Tryz.info3;obtain⟨qa,e0⟩:=aU w #[vI t.nodes,.s AO t.over.length co,.s AL t.links.length cl] 25;go_enter func119,ntmps119;go_wp2_with fail
 go_loopw [5,6] (fun v it wr=>∃(m:Nat) (A:OA) (c:Nat),m<=2*t.links.length/\it=vI m/\v=.s A (cG t m n).length c/\wr.ownsRow (w.heap.size+1) 3 1 (.s A (cG t m n).length c) (cG t m n).length (ints (cG t m n))/\
  ak wr w.heap.size 25 #[vI t.nodes,.s AO t.over.length co,.s AL t.links.length cl]/\Ext w wr) (fun _ i _=>2*t.links.length-(intOf i).toNat)
 (case atStart=>exact⟨0,none,0,yZ _,rfl,rfl,World.ownsRow_nil _ _ _ _,qa,e0⟩);clear qa e0;obtain⟨m,A,c,hm,rfl,rfl,qk,qa,hx⟩:=hrel;obtain⟨⟨i0,i1,i2⟩,g0,g1,g2⟩:=qa.t3;have qA:=lJ t m n;have qt:=Hx qk;have E:=Hx hx;clear qk hx;generalize hL:(cG t m n).length=L at*;have HL:=Hx hL;clear hL;go_wp2_with fail;refine(gV t AO co AL cl _ (HT.o.K E.o) HV.o).r fun w1 qi=>?_;have qa:=qa.K qi;obtain⟨⟨i0,i1,i2⟩,g0,g1,g2⟩:=qa.t3;have E1:=Hx (E.o.tr qi);have qj:=Hx (qt.o.kept (row:=none) (w':=w1) ⟨qi.os,qi.tape,qi.output,qi.size,fun k hk _=>qi.block k hk⟩ (by by_cases e:(Value.slice A L c).ownBlock=none;{exact .inl e};exact .inr e));clear qi qt;by_cases qH:m<2*t.links.length;{(go_wp2_with fail);refine(tX t AO co AL cl m _ (HT.o.K E1.o) HV.o qH).r fun w2 qh=>?_;have qa:=qa.K qh;have E2:=Hx (E1.o.tr qh);have qJ:w.heap.size+1<=w2.heap.size:=(by have:=qa.lt;omega);have qe:=Hx (qj.o.kept (row:=none) (w':=w2) ⟨qh.os,qh.tape,qh.output,qh.size,fun k hk _=>qh.block k hk⟩ (by by_cases e:(Value.slice A L c).ownBlock=none;{exact .inl e};exact .inr e));clear qh qj;cases htl:(dG t m==(n:Int));{(have hs:cG t (m+1) n=cG t m n:=by rw[tU,htl];rfl);have HS:=Hx hs;clear hs;go_wp2;go_roundw;(case rel=>exact⟨m+1,A,c,qO,by go_num,by rw[HS.o,HL.o],by rw[HS.o,HL.o];exact qe.o,qa,E2.o⟩);simp[intOf];omega};have hs:cG t (m+1) n=cG t m n++[m]:=(by rw[tU,htl];rfl);have HS:=Hx hs;clear hs;(go_wp2_with (at_builtin;go_must (refine wpList_append_own_at _ rfl (.tmp 18) (.tmp 20) 42 rfl (w.heap.size+1) 3 ti (vI 0) 1 8 underlying42 hi qw qz qB rfl qD (.s A L c) L (ints (cG t m n)) rfl (qe.o.alloc _) (aD w2.heap.size 0) 1 1 [vI (m:Int)] rfl rfl ?c1 ?c2 ?c3 ?c4 ?c5 ?_)));(case c1=>intro j u hj;(match j,hj with|0,hj=>simp at hj;subst hj;simp[Addr.add]));(case c2=>intro u hu;simp at hu;subst hu;rfl);(case c3=>unfold maxLen;omega);(case c4=>omega);(case c5=>simp;omega);intro v' w3 qf qg _ qx;have qp:Below w.heap.size w w3:=(E2.o.alloc (.cells #[vI (m:Int)] 3)).grown qg (by simp;omega) (fun k hk=>by have:=qe.o.lt k hk;omega);have qn:ak w3 w.heap.size 25 #[vI t.nodes,.s AO t.over.length co,.s AL t.links.length cl]:=(qg.block w.heap.size (by have:=qa.lt;simp;omega) (fun e=>by have:=qe.o.lt _ e.symm;omega)).trans (qa.alloc _);have qI:∃g' cap,v'=.s (sA g') (L+1) cap:=(by (rcases qf.2 with⟨_,h⟩|⟨g',cap,_,h,_⟩);{omega};exact⟨g',cap,h⟩);obtain⟨g',cap,qy⟩:=qI;subst qy;have qo:=Hx qf;clear qg qx qf qe;go_wp2;go_roundw;(case rel=>exact⟨m+1,_,_,qO,by go_num,by rw[HS.o,yQ,HL.o];rfl,by rw[HS.o,yQ,HL.o,gU];exact qo.o,qn,qp⟩);simp[intOf];omega};have qC:m=2*t.links.length:=qO;subst qC;have qm:=fA qj.o HL.o.symm;have HF:=Hx qm;clear qm;go_wp2;go_ret;obtain⟨A',c',e1,e2,e3⟩:=HF.o;exact⟨A',c',congrArg Ending.returned e1,e2,e3,E1.o⟩
section
variable {P:Program} (w:World)
def mE(b o j:Nat):((aD b o):Addr).add j=(aD b (o+j)):=by unfold Addr.add;split <;> simp_all
def jzbf(base:Nat)(t ty e:TypeId)(i:TypeInfo)(z:Value)(bytes:Nat)(ht:P.underlying t=some (.slice e))(hi:P.info? e=some i)(hz:i.zero=some z)
  (hsize:i.size=1) (hby:i.bytes=bytes) (hzs:z.cells.size=1)
  (v:Value) (n:Nat) (xs:List Value) (hown:w.ownsRow base e 1 v n xs)
  A (m c:Nat) (news:List Value) (hm:m=news.length) (hr:Rd w A news) (hA:A=none->m=0/\c=0\/m=0) (h1:∀u∈news,u.oneCell'=true)
  (h63:n+m<=maxLen) (hbytes:(n+m)*bytes<=140737488355328) (hbase:base<=w.heap.size):
  ∃v' w',(Builtin.append_ #[t,t] ty #[v,.s A m c]).run P w=.ok v' w'/\w'.ownsRow base e 1 v' (n+m) (xs++news)/\w.grownBy w' v.ownBlock/\
   (v'.ownBlock=v.ownBlock\/v'.ownBlock=some w.heap.size):=by
 (rcases A with _|ad);{(have qf:m=0:=by rcases hA rfl with h|h <;> omega);(subst qf;have hn:news=[]:=Kc hm.symm;subst hn;refine⟨v,w,?_,by simpa using hown,World.grownBy.refl w _,.inl rfl⟩;rcases hown.2 with⟨rfl,rfl⟩|⟨g,cap,cur,rfl,_,_,hnc,_⟩);{simp[Builtin.append_,run_underlying ht,sizeOf,typeInfo,hi,Builtin.lenOf,Builtin.firstCells]};simp[Builtin.append_,run_underlying ht,sizeOf,typeInfo,hi,Builtin.lenOf,Builtin.firstCells,hnc,storeCells]};have qa:∀j u,news[j]?=some u->w.cell? (ad.add j)=some u:=(by (intro j u hu;have hj:j<news.length:=(yH.1 hu).1;obtain⟨b,o,he,_,hc⟩:=hr.at_ hj;injection he with he);subst he;rw[mE,hc j hj,hu]);obtain⟨v',w',qe,h2,h3,_,h5⟩:=run_append_own_at (P:=P) w base t ty e i z 1 bytes ht hi hz hsize hby hzs qO v n xs hown ad m c news (by rw[hm,Nat.mul_one]) qa h1 h63 hbytes hbase;exact⟨v',w',qe,h2,h3,h5⟩
def mF{o:Oper}{a:Act}{K:Act->World->Prop}{Q:Exit->Act->World->Prop}(s x:Operand)(t:TypeId)
  (ho:o.op=.call {callee:=.builtin .append,args:=#[s,x],argTypes:=#[t,t]})
  (base:Nat) (e:TypeId) (i:TypeInfo) (z:Value) (bytes:Nat) (ht:P.underlying t=some (.slice e)) (hi:P.info? e=some i) (hz:i.zero=some z)
  (hsize:i.size=1) (hby:i.bytes=bytes) (hzs:z.cells.size=1)
  (v:Value) (n:Nat) (xs:List Value) (hs:a.eval s=v) (hown:w.ownsRow base e 1 v n xs)
  A (m c:Nat) (news:List Value) (hx:a.eval x=.s A m c) (hm:m=news.length) (hr:Rd w A news) (hA:A=none->m=0/\c=0\/m=0) (h1:∀u∈news,u.oneCell'=true)
  (h63:n+m<=maxLen) (hbytes:(n+m)*bytes<=140737488355328) (hbase:base<=w.heap.size)
  (h:∀v' w',w'.ownsRow base e 1 v' (n+m) (xs++news)->w.grownBy w' v.ownBlock->(v'.ownBlock=v.ownBlock\/v'.ownBlock=some w.heap.size)->K (a.put o.dst v') w'):o.wp P a w K Q:=by
 obtain⟨v',w',qa,h2,h3,h4⟩:=jzbf (P:=P) w base t o.type e i z bytes ht hi hz hsize hby hzs v n xs hown A m c news hm hr hA h1 h63 hbytes hbase;unfold Oper.wp execOp;simp only[ho,resolve,invoke,builtin,Sem.run_bind,Sem.run_pure,Result.andThen_ok,List.map_toArray,Ka,List.map_nil,hs,hx,qa];exact h v' w' h2 h3 h4
def nF{ops:Array Oper}{rest:List Oper}{o:Oper}{a:Act}{Q:Exit->Act->World->Prop}(hgd:o.guard=none)(s x:Operand)(t:TypeId)
  (ho:o.op=.call {callee:=.builtin .append,args:=#[s,x],argTypes:=#[t,t]})
  (base:Nat) (e:TypeId) (i:TypeInfo) (z:Value) (bytes:Nat) (ht:P.underlying t=some (.slice e)) (hi:P.info? e=some i) (hz:i.zero=some z)
  (hsize:i.size=1) (hby:i.bytes=bytes) (hzs:z.cells.size=1)
  (v:Value) (n:Nat) (xs:List Value) (hs:a.eval s=v) (hown:w.ownsRow base e 1 v n xs)
  A (m c:Nat) (news:List Value) (hx:a.eval x=.s A m c) (hm:m=news.length) (hr:Rd w A news) (hA:A=none->m=0/\c=0\/m=0) (h1:∀u∈news,u.oneCell'=true)
  (h63:n+m<=maxLen) (hbytes:(n+m)*bytes<=140737488355328) (hbase:base<=w.heap.size)
  (h:∀v' w',w'.ownsRow base e 1 v' (n+m) (xs++news)->w.grownBy w' v.ownBlock->(v'.ownBlock=v.ownBlock\/v'.ownBlock=some w.heap.size)->wpList P ops Q rest (a.put o.dst v') w'):wpList P ops Q (o::rest) a w:=
 wpList_plain hgd fun _ hK=>mF w s x t ho base e i z bytes ht hi hz hsize hby hzs v n xs hs hown A m c news hx hm hr hA h1 h63 hbytes hbase fun v' w' h2 h3 h4=>hK _ _ (h v' w' h2 h3 h4)
end
def gW(l:LN):∀u∈ints l,u.oneCell'=true:=by
 intro u hu;simp only[ints,Bv]at hu;obtain⟨_,_,rfl⟩:=hu;rfl
structure cH(w:World)(B:Nat)(v:Value)(ps:List (LN)):Prop where
 ex:∃cells:List Value,cells.length=ps.length/\w.ownsRow B 42 1 v ps.length cells/\
  ∀(i:Nat) (p:LN),ps[i]?=some p->∃(A:OA) (c:Nat),cells[i]?=some (.s A p.length c)/\p.length<=c/\og w 3 A (ints p)
def cH.nil w(B:Nat):cH w B zN []:=⟨[],rfl,World.ownsRow_nil _ _ _ _,fun i p h=>by simp at h⟩
end Go.Proofs.YtfeeacaofjpkaaaGreatDoor
