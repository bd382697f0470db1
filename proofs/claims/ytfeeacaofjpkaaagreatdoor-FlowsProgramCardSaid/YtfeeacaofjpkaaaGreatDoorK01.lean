/- Walks, part 1. -/
import Derived.Shelf.Strings.Builder1
import Derived.Shelf.Strings.Builder2
import Derived.Shelf.Small.Bits
import Derived.Shelf.Small.Wraps
import Derived.Shelf.Strings.BuilderF
import Derived.Shelf.Strconv.Itoa0
import Derived.Shelf.Strconv.Itoa1
import Derived.Shelf.LaysM
import Derived.Shelf.Strconv.Itoa2
import Derived.Shelf.Strconv.Itoa3
import Derived.Shelf.Strings.Prefix
import Derived.Shelf.Bits.Mul64
import Derived.Shelf.Strings.Repeat
import Derived.Ground.Names2Prog
import Derived.Shelf.Slices.Clone
import Derived.Ground.SlgnProg
import Derived.Shelf.SlicesE.Clone
import Derived.Test.YtfeeacaofjpkaaaGreatDoorProg
import Derived.Lib.Hide
set_option linter.unusedVariables false
set_option linter.unusedSimpArgs false
set_option maxRecDepth 100000
set_option maxHeartbeats 8000000
theorem Go.RowKit.Hid.o {p : Prop} (h : Go.RowKit.Hid p) : p := h.out
abbrev Go.Value.s (a : Option Go.Addr) (n c : Nat) : Go.Value := .slice a n c
namespace Go.Proofs.YtfeeacaofjpkaaaGreatDoor
open Go.Proofs.Tryz
abbrev OA := Option Addr
abbrev LN := List Nat
abbrev LQ := List Rat
abbrev zN : Value := .slice none 0 0
abbrev vI (x : Int) : Value := .int .i64 x
abbrev aD (b o : Nat) : Addr := ⟨b, o, none⟩
abbrev sA (b : Nat) : OA := some ⟨b, 0, none⟩
theorem Hx {p : Prop} (h : p) : RowKit.Hid p := Lib.hid h
theorem qO{p:Prop}(h:p:=by omega):p:=h
theorem qD{p:Prop}(h:p:=by decide):p:=h
theorem qK{p:Prop}(h:p:=by kernel_rfl):p:=h
theorem qR{p:Prop}(h:p:=by rfl):p:=h
theorem qS{p:Prop}(h:p:=by simp):p:=h
theorem qG{p:Prop}(h:p:=by grind):p:=h
theorem qE : type_of% @if_pos := @if_pos
theorem qF : type_of% @if_neg := @if_neg
theorem qL{p:Prop}(h:p:=by first|(simp;omega)|simp):p:=h
abbrev bF : Value := .bool false
abbrev rV : Array Value := #[.bool false, .slice none 0 0, .slice none 0 0]
abbrev rW : Array Value := #[.bool false, .bool false, .bool false, .slice none 0 0, .slice none 0 0, .slice none 0 0]
theorem qN : (∀ (a : Act) (d : Tmp) (v : Value), a.put (some d) v = { a with tmps := a.tmps.setIfInBounds d v }) ∧ (∀ (a : Act) (v : Value), a.put none v = a) ∧ (∀ (l : List Value) (i : Nat) (v : Value), l.toArray.setIfInBounds i v = (l.set i v).toArray) ∧ (∀ (x : Value) (l : List Value) (v : Value), (x :: l).set 0 v = v :: l) ∧ (∀ (x : Value) (l : List Value) (n : Nat) (v : Value), (x :: l).set (n + 1) v = x :: l.set n v) := ⟨fun _ _ _ => rfl, fun _ _ => rfl, fun _ _ _ => List.setIfInBounds_toArray .., fun _ _ _ => rfl, fun _ _ _ _ => rfl⟩
theorem qP : ((∀ (l : List Value) (i : Nat) (h : i < l.toArray.size), l.toArray[i]'h = l[i]'(by simpa using h)) ∧ (∀ (x : Value) (l : List Value) (h : 0 < (x :: l).length), (x :: l)[0]'h = x) ∧ (∀ (x : Value) (l : List Value) (n : Nat) (h : n + 1 < (x :: l).length), (x :: l)[n + 1]'h = l[n]'(by simpa using h))) ∧ type_of% qN := ⟨⟨fun _ _ _ => rfl, fun _ _ _ => rfl, fun _ _ _ _ => rfl⟩, qN⟩
theorem yA : type_of% @List.getElem_toArray := @List.getElem_toArray
theorem yB : type_of% @List.getElem_cons_zero := @List.getElem_cons_zero
theorem yC : type_of% @List.getElem_cons_succ := @List.getElem_cons_succ
theorem yD : type_of% @List.setIfInBounds_toArray := @List.setIfInBounds_toArray
theorem yE : type_of% @List.set_cons_zero := @List.set_cons_zero
theorem yF : type_of% @List.set_cons_succ := @List.set_cons_succ
theorem yG : type_of% @List.getElem?_eq_getElem := @List.getElem?_eq_getElem
theorem yH : type_of% @List.getElem?_eq_some_iff := @List.getElem?_eq_some_iff
theorem yI : type_of% @List.getElem?_eq_none := @List.getElem?_eq_none
theorem yJ : type_of% @List.mem_of_getElem? := @List.mem_of_getElem?
theorem yK : type_of% @beq_eq_false_iff_ne := @beq_eq_false_iff_ne
theorem yL : type_of% @Nat.lt_of_lt_of_le := @Nat.lt_of_lt_of_le
theorem yM : type_of% @List.getElem?_set_self := @List.getElem?_set_self
theorem vN : type_of% @List.getElem?_set_ne := @List.getElem?_set_ne
theorem yO : type_of% @decide_eq_true := @decide_eq_true
theorem yP : type_of% @decide_eq_false := @decide_eq_false
theorem yQ : type_of% @List.length_append := @List.length_append
theorem yR : type_of% @List.getElem?_append_left := @List.getElem?_append_left
theorem yS : type_of% @List.getElem?_append_right := @List.getElem?_append_right
theorem yT : type_of% @Rat.mul_le_mul_of_nonneg_left := @Rat.mul_le_mul_of_nonneg_left
theorem yU : type_of% @List.take_of_length_le := @List.take_of_length_le
theorem yV : type_of% @List.length_set := @List.length_set
theorem yW : type_of% @List.getElem?_map := @List.getElem?_map
theorem yX : type_of% @Nat.le_refl := @Nat.le_refl
theorem yY : type_of% @Nat.le_trans := @Nat.le_trans
theorem yZ : type_of% @Nat.zero_le := @Nat.zero_le
theorem uF : type_of% @List.eq_of_mem_replicate := @List.eq_of_mem_replicate
theorem xB : type_of% @List.getElem?_replicate := @List.getElem?_replicate
theorem xC : type_of% @List.length_replicate := @List.length_replicate
theorem xD : type_of% @List.mem_singleton := @List.mem_singleton
theorem xE : type_of% @List.mem_or_eq_of_mem_set := @List.mem_or_eq_of_mem_set
theorem xF : type_of% @List.length_take := @List.length_take
theorem xG : type_of% @List.getElem?_take := @List.getElem?_take
theorem xH : type_of% @Array.getElem?_setIfInBounds_ne := @Array.getElem?_setIfInBounds_ne
theorem xI : type_of% @List.getElem?_toArray := @List.getElem?_toArray
theorem xJ : type_of% @List.getElem?_range := @List.getElem?_range
theorem uK : type_of% @List.ext_getElem? := @List.ext_getElem?
theorem xL : type_of% @Int.toNat_natCast := @Int.toNat_natCast
theorem xM : type_of% @List.mem_of_mem_take := @List.mem_of_mem_take
theorem vM : type_of% @Bool.and_eq_true := @Bool.and_eq_true
theorem xO : type_of% @List.mem_cons_of_mem := @List.mem_cons_of_mem
theorem xP : type_of% @Nat.add_mul := @Nat.add_mul
theorem xQ : type_of% @Nat.one_mul := @Nat.one_mul
theorem xR : type_of% @List.getElem_mem := @List.getElem_mem
theorem xS : type_of% @Nat.mul_le_mul_right := @Nat.mul_le_mul_right
theorem xT : type_of% @Nat.mod_lt := @Nat.mod_lt
theorem xU : type_of% @List.flatMap_cons := @List.flatMap_cons
theorem xV : type_of% @List.length_map := @List.length_map
theorem xW : type_of% @List.all_eq_true := @List.all_eq_true
theorem vX : type_of% @List.mem_range := @List.mem_range
theorem xY : type_of% @List.mem_append := @List.mem_append
theorem xZ : type_of% @List.mem_cons := @List.mem_cons
theorem vA : type_of% @Rat.mul_nonneg := @Rat.mul_nonneg
theorem vB : type_of% @Rat.le_of_lt := @Rat.le_of_lt
theorem vC : type_of% @Rat.le_refl := @Rat.le_refl
theorem vD : type_of% @Nat.pow_succ := @Nat.pow_succ
theorem vE : type_of% @Nat.mul_comm := @Nat.mul_comm
theorem kQa : type_of% @And.intro := @And.intro
theorem kQb : type_of% @Nat.ne_of_lt := @Nat.ne_of_lt
theorem kQc : type_of% @Nat.mul_add := @Nat.mul_add
theorem kQd : type_of% @Nat.lt_or_ge := @Nat.lt_or_ge
theorem kQe : type_of% @Nat.le_of_lt := @Nat.le_of_lt
theorem kQf : type_of% @List.drop_of_length_le := @List.drop_of_length_le
theorem kQg : type_of% @Nat.mul_assoc := @Nat.mul_assoc
theorem kQh : type_of% @Nat.mul_le_mul_left := @Nat.mul_le_mul_left
theorem kQi : type_of% @List.getElem?_cons_zero := @List.getElem?_cons_zero
theorem kQj : type_of% @Int.eq_ofNat_of_zero_le := @Int.eq_ofNat_of_zero_le
theorem kQk : type_of% @Nat.pow_le_pow_right := @Nat.pow_le_pow_right
theorem kQl : type_of% @List.mem_map := @List.mem_map
theorem kQm : type_of% @Nat.eq_zero_or_pos := @Nat.eq_zero_or_pos
theorem kQn : type_of% @Array.getElem?_eq_none := @Array.getElem?_eq_none
theorem kQo : type_of% @List.length_cons := @List.length_cons
theorem kQp : type_of% @List.length_eq_zero_iff := @List.length_eq_zero_iff
theorem kQq : type_of% @Nat.mul_le_mul := @Nat.mul_le_mul
theorem kQr : type_of% @List.take_add_one := @List.take_add_one
theorem kQs : type_of% @Rat.le_trans := @Rat.le_trans
theorem kQt : type_of% @Rat.intCast_le_intCast := @Rat.intCast_le_intCast
theorem kQu : type_of% @Nat.zero_add := @Nat.zero_add
theorem kQv : type_of% @Nat.mod_eq_of_lt := @Nat.mod_eq_of_lt
theorem kQw : type_of% @Array.getElem?_toList := @Array.getElem?_toList
theorem kQx : type_of% @Nat.mul_ne_zero := @Nat.mul_ne_zero
theorem kQy : type_of% @Nat.pow_pos := @Nat.pow_pos
theorem kQz : type_of% @List.eq_nil_of_length_eq_zero := @List.eq_nil_of_length_eq_zero
theorem kQ0 : type_of% @Array.getElem?_setIfInBounds_self_of_lt := @Array.getElem?_setIfInBounds_self_of_lt
theorem kQ1 : type_of% @Option.getD_some := @Option.getD_some
theorem kQ2 : type_of% @Nat.lt_of_le_of_lt := @Nat.lt_of_le_of_lt
theorem kQ3 : type_of% @Nat.add_zero := @Nat.add_zero
theorem kQ4 : type_of% @Rat.not_lt := @Rat.not_lt
theorem kQ5 : type_of% @Rat.mul_le_mul_of_nonneg_right := @Rat.mul_le_mul_of_nonneg_right
theorem kQ6 : type_of% @List.drop_eq_getElem_cons := @List.drop_eq_getElem_cons
theorem kQ7 : type_of% @Rat.den_nz := @Rat.den_nz
theorem kQ8 : type_of% @Nat.mul_zero := @Nat.mul_zero
theorem kQ9 : type_of% @Option.map_some := @Option.map_some
theorem kZa : type_of% @List.map_cons := @List.map_cons
theorem kZb : type_of% @Nat.mul_lt_mul_of_lt_of_le := @Nat.mul_lt_mul_of_lt_of_le
theorem kZc : type_of% @List.range_succ := @List.range_succ
theorem kZd : type_of% @List.length_singleton := @List.length_singleton
theorem kZe : type_of% @Or.inl := @Or.inl
theorem kZf : type_of% @Rat.lt_irrefl := @Rat.lt_irrefl
theorem kZg : type_of% @Bool.true_and := @Bool.true_and
theorem kZh : type_of% @Nat.min_eq_left := @Nat.min_eq_left
theorem kZi : type_of% @Nat.div_le_self := @Nat.div_le_self
theorem kZj : type_of% @Nat.div_add_mod := @Nat.div_add_mod
theorem kZk : type_of% @Int.natCast_mul := @Int.natCast_mul
theorem kZl : type_of% @Nat.add_comm := @Nat.add_comm
theorem kZm : type_of% @List.length_range := @List.length_range
theorem kZn : type_of% @Array.getElem?_eq_some_iff := @Array.getElem?_eq_some_iff
theorem kZo : type_of% @List.nodup_cons := @List.nodup_cons
theorem kZp : type_of% @Nat.div_lt_iff_lt_mul := @Nat.div_lt_iff_lt_mul
theorem kZq : type_of% @Bool.false_eq_true := @Bool.false_eq_true
theorem kZr : type_of% @Nat.lt_irrefl := @Nat.lt_irrefl
theorem kZs : type_of% @List.getElem?_set := @List.getElem?_set
theorem kZt : type_of% @List.foldl_append := @List.foldl_append
theorem kZu : type_of% @Rat.intCast_mul := @Rat.intCast_mul
theorem kZv : type_of% @Int.natCast_add := @Int.natCast_add
theorem kZw : type_of% @Nat.add_assoc := @Nat.add_assoc
theorem kZx : type_of% @List.mem_flatMap := @List.mem_flatMap
theorem kZy : type_of% @Nat.le_div_iff_mul_le := @Nat.le_div_iff_mul_le
theorem kZz : type_of% @List.take_append_drop := @List.take_append_drop
end Go.Proofs.YtfeeacaofjpkaaaGreatDoor
namespace Go.Proofs
open Go.Shelf
open Go.RowKit in
def Tryz.lays169_ren:Go.Shelf.Ren:=⟨fun|169=>113|n=>n,fun|70=>177|9=>9|0=>0|72=>180|37=>178|127=>243|3=>3|5=>5|n=>n,fun|n=>n⟩
theorem Tryz.lays169:Go.Proofs.Lays.n169 Tryz.prog Tryz.lays169_ren:={
 mixed:=by kernel_rfl
 f169:=Tryz.func113.trans (congrArg some (by kernel_rfl))
 t0:=Tryz.underlying0
 a0:=Tryz.isAgg0
 z0:=Tryz.sizeOf0
 v0:=Tryz.zeroValue0
 t3:=Tryz.underlying3
 a3:=Tryz.isAgg3
 z3:=Tryz.sizeOf3
 v3:=Tryz.zeroValue3
 t9:=Tryz.underlying9
 a9:=Tryz.isAgg9
 z9:=Tryz.sizeOf9
 v9:=Tryz.zeroValue9
 t37:=Tryz.underlying178
 a37:=Tryz.isAgg178
 z37:=Tryz.sizeOf178
 v37:=Tryz.zeroValue178
 t70:=Tryz.underlying177
 a70:=Tryz.isAgg177
 z70:=Tryz.sizeOf177
 v70:=Tryz.zeroValue177
 t72:=Tryz.underlying180
 a72:=Tryz.isAgg180
 z72:=Tryz.sizeOf180
 v72:=Tryz.zeroValue180
 t127:=Tryz.underlying243
 a127:=Tryz.isAgg243
 z127:=Tryz.sizeOf243
 v127:=Tryz.zeroValue243}
theorem Tryz.Builder_Extra_169:Builder.Extra Tryz.prog Tryz.lays169_ren:={
 sizeBuilder:=by kernel_rfl
 liesBuilder:=by kernel_rfl
 t5:=Tryz.underlying5
 a5:=Tryz.isAgg5
 z5:=Tryz.sizeOf5
 v5:=Tryz.zeroValue5
 infoByte:=by kernel_rfl
 cellsByte:=by kernel_rfl
 sizeByte:=by kernel_rfl
 neB5:=by decide}
open Go.RowKit in
open Go.RowKit in
open Go.RowKit in
theorem Tryz.Builder_String_any(B b:Nat)(l:List UInt8)(w:World)(h:Lib.IsBuilder 180 5 B b (Lib.byteCells l) w)(hBw:B<=w.heap.size):
 Calls Tryz.prog 113 #[.pointer (some ⟨b,0,none⟩)] w fun e w'=>e=.returned (.string ⟨l.toArray⟩)/\Below B w w':=Any.Builder_String_any Tryz.lays169 Tryz.Builder_Extra_169 B b l w h hBw
open Go.RowKit in
open Go.RowKit in
def Tryz.lays133_ren:Go.Shelf.Ren:=⟨fun|133=>206|128=>195|n=>n,fun|51=>196|3=>3|4=>4|46=>224|5=>5|9=>9|n=>n,fun|n=>n⟩
theorem Tryz.lays133:Go.Proofs.Lays.n133 Tryz.prog Tryz.lays133_ren:={
 mixed:=by kernel_rfl
 f128:=Tryz.func195.trans (congrArg some (by kernel_rfl))
 f133:=Tryz.func206.trans (congrArg some (by kernel_rfl))
 t3:=Tryz.underlying3
 a3:=Tryz.isAgg3
 z3:=Tryz.sizeOf3
 v3:=Tryz.zeroValue3
 t4:=Tryz.underlying4
 a4:=Tryz.isAgg4
 z4:=Tryz.sizeOf4
 v4:=Tryz.zeroValue4
 t5:=Tryz.underlying5
 a5:=Tryz.isAgg5
 z5:=Tryz.sizeOf5
 v5:=Tryz.zeroValue5
 t9:=Tryz.underlying9
 a9:=Tryz.isAgg9
 z9:=Tryz.sizeOf9
 v9:=Tryz.zeroValue9
 t46:=Tryz.underlying224
 a46:=Tryz.isAgg224
 z46:=Tryz.sizeOf224
 v46:=Tryz.zeroValue224
 t51:=Tryz.underlying196
 a51:=Tryz.isAgg196
 z51:=Tryz.sizeOf196
 v51:=Tryz.zeroValue196}
theorem Tryz.bits_LeadingZeros32(x:Int)(w:World)(h0:0<=x)(h1:x<=4294967295):
 Calls Tryz.prog 206 #[.int .u32 x] w fun e w'=>e=.returned (.int .i64 (32-(Lib.bitLen x.toNat:Int)))/\w'=w:=Any.bits_LeadingZeros32 Tryz.lays133 x w h0 h1
open Go.RowKit in
def Tryz.lays122_ren:Go.Shelf.Ren:=⟨fun|122=>165|215=>203|n=>n,fun|3=>3|4=>4|n=>n,fun|n=>n⟩
theorem Tryz.lays122:Go.Proofs.Lays.n122 Tryz.prog Tryz.lays122_ren:={
 mixed:=by kernel_rfl
 f122:=Tryz.func165.trans (congrArg some (by kernel_rfl))
 f215:=Tryz.func203.trans (congrArg some (by kernel_rfl))
 t3:=Tryz.underlying3
 a3:=Tryz.isAgg3
 z3:=Tryz.sizeOf3
 v3:=Tryz.zeroValue3
 t4:=Tryz.underlying4
 a4:=Tryz.isAgg4
 z4:=Tryz.sizeOf4
 v4:=Tryz.zeroValue4}
open Go.RowKit in
theorem Tryz.cmp_Compare_int(x y:Int)(w:World):
 Calls Tryz.prog 165 #[.int .i64 x,.int .i64 y] w fun e w'=>e=.returned (.int .i64 (Lib.compareInt x y))/\w'=w:=Any.cmp_Compare_int Tryz.lays122 x y w
open Go.RowKit in
open Go.RowKit in
open Go.RowKit in
open Go.RowKit in
open Go.Lib in
open Go.Lib in
open Go.Lib in
open Go.Lib in
open Go.RowKit Go.Sort Go.Lib in
open Go.RowKit Go.Sort Go.Lib in
open Go.RowKit Go.Sort Go.Lib in
open Go.RowKit Go.Sort Go.Lib in
open Go.RowKit Go.Sort Go.Lib in
def Tryz.laysM171_ren:Go.Shelf.Ren:=⟨fun|171=>111|243=>168|246=>205|283=>223|284=>224|285=>225|286=>226|129=>196|317=>229|318=>230|319=>231|320=>232|337=>233|338=>234|n=>n,fun|3=>3|9=>9|2=>2|4=>4|171=>301|0=>0|53=>189|37=>178|5=>5|173=>303|212=>310|51=>196|20=>20|213=>311|46=>224|232=>312|233=>313|n=>n,fun|17=>1|18=>3|19=>4|n=>n⟩
theorem Tryz.laysM171:Go.Proofs.LaysM.n171 Tryz.prog Tryz.laysM171_ren:={
 mixed:=by kernel_rfl
 f129:=Tryz.func196.trans (congrArg some (by kernel_rfl))
 f171:=Tryz.func111.trans (congrArg some (by kernel_rfl))
 f243:=Tryz.func168.trans (congrArg some (by kernel_rfl))
 f246:=Tryz.func205.trans (congrArg some (by kernel_rfl))
 f283:=Tryz.func223.trans (congrArg some (by kernel_rfl))
 f284:=Tryz.func224.trans (congrArg some (by kernel_rfl))
 f285:=Tryz.func225.trans (congrArg some (by kernel_rfl))
 f286:=Tryz.func226.trans (congrArg some (by kernel_rfl))
 f317:=Tryz.func229.trans (congrArg some (by kernel_rfl))
 f318:=Tryz.func230.trans (congrArg some (by kernel_rfl))
 f319:=Tryz.func231.trans (congrArg some (by kernel_rfl))
 f320:=Tryz.func232.trans (congrArg some (by kernel_rfl))
 f337:=Tryz.func233.trans (congrArg some (by kernel_rfl))
 f338:=Tryz.func234.trans (congrArg some (by kernel_rfl))
 t0:=Tryz.underlying0
 a0:=Tryz.isAgg0
 z0:=Tryz.sizeOf0
 v0:=Tryz.zeroValue0
 t2:=Tryz.underlying2
 a2:=Tryz.isAgg2
 z2:=Tryz.sizeOf2
 v2:=Tryz.zeroValue2
 t3:=Tryz.underlying3
 a3:=Tryz.isAgg3
 z3:=Tryz.sizeOf3
 v3:=Tryz.zeroValue3
 t4:=Tryz.underlying4
 a4:=Tryz.isAgg4
 z4:=Tryz.sizeOf4
 v4:=Tryz.zeroValue4
 t5:=Tryz.underlying5
 a5:=Tryz.isAgg5
 z5:=Tryz.sizeOf5
 v5:=Tryz.zeroValue5
 t9:=Tryz.underlying9
 a9:=Tryz.isAgg9
 z9:=Tryz.sizeOf9
 v9:=Tryz.zeroValue9
 t20:=Tryz.underlying20
 a20:=Tryz.isAgg20
 z20:=Tryz.sizeOf20
 v20:=Tryz.zeroValue20
 t37:=Tryz.underlying178
 a37:=Tryz.isAgg178
 z37:=Tryz.sizeOf178
 v37:=Tryz.zeroValue178
 t46:=Tryz.underlying224
 a46:=Tryz.isAgg224
 z46:=Tryz.sizeOf224
 v46:=Tryz.zeroValue224
 t51:=Tryz.underlying196
 a51:=Tryz.isAgg196
 z51:=Tryz.sizeOf196
 v51:=Tryz.zeroValue196
 t53:=Tryz.underlying189
 a53:=Tryz.isAgg189
 z53:=Tryz.sizeOf189
 v53:=Tryz.zeroValue189
 t171:=Tryz.underlying301
 a171:=Tryz.isAgg301
 z171:=Tryz.sizeOf301
 v171:=Tryz.zeroValue301
 t173:=Tryz.underlying303
 a173:=Tryz.isAgg303
 z173:=Tryz.sizeOf303
 v173:=Tryz.zeroValue303
 t212:=Tryz.underlying310
 a212:=Tryz.isAgg310
 z212:=Tryz.sizeOf310
 v212:=Tryz.zeroValue310
 t213:=Tryz.underlying311
 a213:=Tryz.isAgg311
 z213:=Tryz.sizeOf311
 t232:=Tryz.underlying312
 a232:=Tryz.isAgg312
 z232:=Tryz.sizeOf312
 v232:=Tryz.zeroValue312
 t233:=Tryz.underlying313
 a233:=Tryz.isAgg313
 z233:=Tryz.sizeOf313
 v233:=Tryz.zeroValue313
 g17:=by kernel_rfl
 g18:=by kernel_rfl
 g19:=by kernel_rfl
 i0:=by kernel_rfl
 i2:=by kernel_rfl
 i3:=by kernel_rfl
 i4:=by kernel_rfl
 i5:=by kernel_rfl
 i9:=by kernel_rfl
 i20:=by kernel_rfl
 i37:=by kernel_rfl
 i46:=by kernel_rfl
 i51:=by kernel_rfl
 i53:=by kernel_rfl
 i171:=by kernel_rfl
 i173:=by kernel_rfl
 i212:=by kernel_rfl
 i232:=by kernel_rfl
 i233:=by kernel_rfl
 m17:=by kernel_rfl
 m18:=by kernel_rfl
 m19:=by kernel_rfl}
open Go.RowKit Go.Sort Go.Lib in
theorem Tryz.strconv_Itoa(n:Int)(h0: -9223372036854775808<=n)(h1:n<=9223372036854775807)(w:World)(htab:Lib.TabIs Tryz.prog w "internal/strconv.uint64pow10" .u64 Lib.pow10Tab):
 Calls Tryz.prog 111 #[.int .i64 n] w fun e w'=>e=.returned (.string ⟨(Lib.itoa n).toArray⟩)/\∃k os,w'=grow (w.drewN k) os:=Any.strconv_Itoa Tryz.laysM171 n h0 h1 w htab
open Go.RowKit Go.Sort Go.Lib in
open Go.RowKit Go.Lib in
open Go.RowKit Go.Lib in
open Go.RowKit Go.Lib in
open Go.RowKit Go.Lib in
def Tryz.lays105_ren:Go.Shelf.Ren:=⟨fun|105=>133|212=>179|99=>180|165=>181|166=>110|170=>182|169=>113|263=>210|264=>211|206=>212|240=>167|241=>213|276=>204|277=>227|n=>n,fun|9=>9|3=>3|4=>4|20=>20|0=>0|46=>224|109=>251|5=>5|72=>180|76=>183|51=>196|146=>244|53=>189|148=>290|70=>177|37=>178|75=>182|127=>243|164=>283|80=>187|n=>n,fun|n=>n⟩
theorem Tryz.lays105:Go.Proofs.Lays.n105 Tryz.prog Tryz.lays105_ren:={
 mixed:=by kernel_rfl
 f99:=Tryz.func180.trans (congrArg some (by kernel_rfl))
 f105:=Tryz.func133.trans (congrArg some (by kernel_rfl))
 f165:=Tryz.func181.trans (congrArg some (by kernel_rfl))
 f166:=Tryz.func110.trans (congrArg some (by kernel_rfl))
 f169:=Tryz.func113.trans (congrArg some (by kernel_rfl))
 f170:=Tryz.func182.trans (congrArg some (by kernel_rfl))
 f206:=Tryz.func212.trans (congrArg some (by kernel_rfl))
 f212:=Tryz.func179.trans (congrArg some (by kernel_rfl))
 f240:=Tryz.func167.trans (congrArg some (by kernel_rfl))
 f241:=Tryz.func213.trans (congrArg some (by kernel_rfl))
 f263:=Tryz.func210.trans (congrArg some (by kernel_rfl))
 f264:=Tryz.func211.trans (congrArg some (by kernel_rfl))
 f276:=Tryz.func204.trans (congrArg some (by kernel_rfl))
 f277:=Tryz.func227.trans (congrArg some (by kernel_rfl))
 t0:=Tryz.underlying0
 a0:=Tryz.isAgg0
 z0:=Tryz.sizeOf0
 v0:=Tryz.zeroValue0
 t3:=Tryz.underlying3
 a3:=Tryz.isAgg3
 z3:=Tryz.sizeOf3
 v3:=Tryz.zeroValue3
 t4:=Tryz.underlying4
 a4:=Tryz.isAgg4
 z4:=Tryz.sizeOf4
 v4:=Tryz.zeroValue4
 t5:=Tryz.underlying5
 a5:=Tryz.isAgg5
 z5:=Tryz.sizeOf5
 v5:=Tryz.zeroValue5
 t9:=Tryz.underlying9
 a9:=Tryz.isAgg9
 z9:=Tryz.sizeOf9
 v9:=Tryz.zeroValue9
 t20:=Tryz.underlying20
 a20:=Tryz.isAgg20
 z20:=Tryz.sizeOf20
 v20:=Tryz.zeroValue20
 t37:=Tryz.underlying178
 a37:=Tryz.isAgg178
 z37:=Tryz.sizeOf178
 v37:=Tryz.zeroValue178
 t46:=Tryz.underlying224
 a46:=Tryz.isAgg224
 z46:=Tryz.sizeOf224
 v46:=Tryz.zeroValue224
 t51:=Tryz.underlying196
 a51:=Tryz.isAgg196
 z51:=Tryz.sizeOf196
 v51:=Tryz.zeroValue196
 t53:=Tryz.underlying189
 a53:=Tryz.isAgg189
 z53:=Tryz.sizeOf189
 v53:=Tryz.zeroValue189
 t70:=Tryz.underlying177
 a70:=Tryz.isAgg177
 z70:=Tryz.sizeOf177
 v70:=Tryz.zeroValue177
 t72:=Tryz.underlying180
 a72:=Tryz.isAgg180
 z72:=Tryz.sizeOf180
 v72:=Tryz.zeroValue180
 t75:=Tryz.underlying182
 a75:=Tryz.isAgg182
 z75:=Tryz.sizeOf182
 v75:=Tryz.zeroValue182
 t76:=Tryz.underlying183
 a76:=Tryz.isAgg183
 z76:=Tryz.sizeOf183
 v76:=Tryz.zeroValue183
 t109:=Tryz.underlying251
 a109:=Tryz.isAgg251
 z109:=Tryz.sizeOf251
 v109:=Tryz.zeroValue251
 t127:=Tryz.underlying243
 a127:=Tryz.isAgg243
 z127:=Tryz.sizeOf243
 v127:=Tryz.zeroValue243
 t146:=Tryz.underlying244
 a146:=Tryz.isAgg244
 z146:=Tryz.sizeOf244
 v146:=Tryz.zeroValue244
 t148:=Tryz.underlying290
 a148:=Tryz.isAgg290
 z148:=Tryz.sizeOf290
 v148:=Tryz.zeroValue290
 t164:=Tryz.underlying283
 a164:=Tryz.isAgg283
 z164:=Tryz.sizeOf283
 v164:=Tryz.zeroValue283}
theorem Tryz.Builder_Extra_105:Builder.Extra Tryz.prog Tryz.lays105_ren:={
 sizeBuilder:=by kernel_rfl
 liesBuilder:=by kernel_rfl
 t5:=Tryz.underlying5
 a5:=Tryz.isAgg5
 z5:=Tryz.sizeOf5
 v5:=Tryz.zeroValue5
 infoByte:=by kernel_rfl
 cellsByte:=by kernel_rfl
 sizeByte:=by kernel_rfl
 neB5:=by decide}
open Go.RowKit Go.Lib in
open Go.RowKit Go.Lib in
open Go.RowKit Go.Lib in
open Go.RowKit Go.Lib in
open Go.RowKit Go.Lib in
open Go.RowKit Go.Lib in
open Go.RowKit Go.Lib in
theorem Tryz.strings_Repeat(s:ByteArray)(c:Nat)(w:World)(hc:c<=9223372036854775807)(hlen:s.size*c<=140737488355328):
 Calls Tryz.prog 133 #[.string s,.int .i64 c] w fun e w'=>e=.returned (.string ⟨(Lib.repeatL s.data.toList c).toArray⟩)/\Below w.heap.size w w':=Any.strings_Repeat Tryz.lays105 Tryz.Builder_Extra_105 s c w hc hlen
def Tryz.laysNm215_ren:Go.Shelf.Ren:=⟨fun|15=>108|n=>n,fun|22=>42|3=>3|4=>4|n=>n,fun|n=>n⟩
theorem Tryz.laysNm215:Go.Proofs.Lays2.n15 Tryz.prog Tryz.laysNm215_ren:={
 mixed:=by kernel_rfl
 f15:=Tryz.func108.trans (congrArg some (by kernel_rfl))
 t3:=Tryz.underlying3
 a3:=Tryz.isAgg3
 z3:=Tryz.sizeOf3
 v3:=Tryz.zeroValue3
 t4:=Tryz.underlying4
 a4:=Tryz.isAgg4
 z4:=Tryz.sizeOf4
 v4:=Tryz.zeroValue4
 t22:=Tryz.underlying42
 a22:=Tryz.isAgg42
 z22:=Tryz.sizeOf42
 v22:=Tryz.zeroValue42
 i3:=by kernel_rfl}
open Go.RowKit Go.Lib in
open Go.RowKit Go.Lib in
open Go.RowKit Go.Lib in
theorem Tryz.slices_Clone_int_zero(a:Addr)(c:Nat)(w:World):
 Calls Tryz.prog 108 #[.slice (some a) 0 c] w fun e w'=>∃v',e=.returned v'/\w'.ownsRow w.heap.size 3 1 v' 0 []/\v'≠.slice none 0 0/\Below w.heap.size w w':=Any.slices_Clone_int_zero Tryz.laysNm215 a c w
def Tryz.laysSlE041_f108_ren:Go.Shelf.Ren:=⟨fun|41=>108|n=>n,fun|22=>42|23=>3|4=>4|n=>n,fun|n=>n⟩
theorem Tryz.laysSlE041_f108:Go.Proofs.SlLaysE0.n41 Tryz.prog Tryz.laysSlE041_f108_ren:={
 mixed:=by kernel_rfl
 f41:=⟨Tryz.f108.name,by decide,Tryz.func108.trans (congrArg some (by kernel_rfl))⟩
 t4:=Tryz.underlying4
 a4:=Tryz.isAgg4
 z4:=Tryz.sizeOf4
 v4:=Tryz.zeroValue4
 t22:=Tryz.underlying42
 a22:=Tryz.isAgg42
 z22:=Tryz.sizeOf42
 v22:=Tryz.zeroValue42}
open Go.RowKit Go.Lib in
theorem Tryz.slices_Clone(i0:TypeInfo)(z:Value)(size bytes:Nat)(hi:Tryz.prog.info? 3=some i0)(hz0:i0.zero=some z)(hz1:i0.size=size)(hz2:i0.bytes=bytes)(hzs:z.cells.size=size)(hsz:0<size)(z23:∀w,(Go.sizeOf 3).run Tryz.prog w=.ok size w)(b off n c:Nat)(news:List Value)(w:World)(hl:news.length=n*size)(hn:n<=maxLen)(hbig:n*bytes<=140737488355328)(hc:∀j u,news[j]?=some u->w.cell? ⟨b,off+j,none⟩=some u)(h1:∀u∈news,u.oneCell'=true):
 Calls Tryz.prog 108 #[.slice (some ⟨b,off,none⟩) n c] w fun e w'=>∃v',e=.returned v'/\w'.ownsRow w.heap.size 3 size v' n news/\v'≠.slice none 0 0/\Below w.heap.size w w':=AnyE.slices_Clone Tryz.laysSlE041_f108 i0 z size bytes hi hz0 hz1 hz2 hzs hsz z23 b off n c news w hl hn hbig hc h1
open Go.RowKit Go.Lib in
theorem Tryz.slices_Clone_nil(n c:Nat)(w:World):
 Calls Tryz.prog 108 #[.slice none n c] w fun e w'=>e=.returned (.slice none 0 0)/\w'=w:=AnyE.slices_Clone_nil Tryz.laysSlE041_f108 n c w
end Go.Proofs
