/- Part 1 of 23 of what the Flows claims share (the white space is struck, the texts are joined). -/
import Derived.Shelf.Strings.Builder1
import Derived.Shelf.Strings.Builder2
import Derived.Shelf.Strings.OnBuilder
import Derived.Shelf.Small.Bits
import Derived.Shelf.Small.Wraps
import Derived.Shelf.Strings.BuilderF
import Derived.Shelf.Strconv.Itoa0
import Derived.Shelf.Strconv.Itoa1
import Derived.Shelf.LaysM
import Derived.Shelf.Strconv.Itoa2
import Derived.Shelf.Strconv.Itoa3
import Derived.Shelf.Strings.Search1
import Derived.Shelf.Strings.Search2
import Derived.Shelf.Strings.Cut
import Derived.Shelf.Strings.Shaped
import Derived.Shelf.Strings.Prefix
import Derived.Shelf.Bits.Mul64
import Derived.Shelf.Strings.Repeat
import Derived.Shelf.Slices.Turned
import Derived.Shelf.Slices.Reverse
import Derived.Ground.Names2Prog
import Derived.Shelf.Slices.Clone
import Derived.Shelf.Slices.Cells
import Derived.Ground.SlgnProg
import Derived.Shelf.SlicesE.Clone
import Derived.Ground.SlgfProg
import Derived.Shelf.SlicesE.IndexFunc
import Derived.Ground.SlsfProg
import Derived.Shelf.SlSortCmp.Insertion
import Derived.Shelf.SlSortCmp.Insertion1
import Derived.Test.YtllmekijiohgmaaGreatDoorProg
import Derived.Lib.Hide
set_option linter.unusedVariables false
set_option linter.unusedSimpArgs false
set_option maxRecDepth 100000
set_option maxHeartbeats 8000000
theorem Go.RowKit.Hid.o {p : Prop} (h : Go.RowKit.Hid p) : p := h.out
abbrev Go.Value.s (a : Option Go.Addr) (n c : Nat) : Go.Value := .slice a n c
namespace Go.Proofs.YtllmekijiohgmaaGreatDoor
abbrev OA := Option Addr
abbrev LN := List Nat
abbrev LQ := List Rat
abbrev zN : Value := .slice none 0 0
abbrev vI (x : Int) : Value := .int .i64 x
abbrev aD (b o : Nat) : Addr := ⟨b, o, none⟩
abbrev sA (b : Nat) : OA := some ⟨b, 0, none⟩
theorem Hx {p : Prop} (h : p) : RowKit.Hid p := Lib.hid h
theorem yA : type_of% @List.getElem_toArray := @List.getElem_toArray
theorem yB : type_of% @List.getElem_cons_zero := @List.getElem_cons_zero
theorem yC : type_of% @List.getElem_cons_succ := @List.getElem_cons_succ
theorem yD : type_of% @List.setIfInBounds_toArray := @List.setIfInBounds_toArray
theorem yE : type_of% @List.set_cons_zero := @List.set_cons_zero
theorem yF : type_of% @List.set_cons_succ := @List.set_cons_succ
theorem yG : type_of% @List.getElem?_eq_getElem := @List.getElem?_eq_getElem
theorem yH : type_of% @List.getElem?_eq_some_iff := @List.getElem?_eq_some_iff
theorem yI : type_of% @List.getElem?_eq_none := @List.getElem?_eq_none
theorem yJ : type_of% @List.mem_of_getElem? := @List.mem_of_getElem?
theorem yK : type_of% @beq_eq_false_iff_ne := @beq_eq_false_iff_ne
theorem yL : type_of% @Nat.lt_of_lt_of_le := @Nat.lt_of_lt_of_le
theorem yM : type_of% @List.getElem?_set_self := @List.getElem?_set_self
theorem vN : type_of% @List.getElem?_set_ne := @List.getElem?_set_ne
theorem yO : type_of% @decide_eq_true := @decide_eq_true
theorem yP : type_of% @decide_eq_false := @decide_eq_false
theorem yQ : type_of% @List.length_append := @List.length_append
theorem yR : type_of% @List.getElem?_append_left := @List.getElem?_append_left
theorem yS : type_of% @List.getElem?_append_right := @List.getElem?_append_right
theorem yT : type_of% @Rat.mul_le_mul_of_nonneg_left := @Rat.mul_le_mul_of_nonneg_left
theorem yU : type_of% @List.take_of_length_le := @List.take_of_length_le
theorem yV : type_of% @List.length_set := @List.length_set
theorem yW : type_of% @List.getElem?_map := @List.getElem?_map
theorem yX : type_of% @Nat.le_refl := @Nat.le_refl
theorem yY : type_of% @Nat.le_trans := @Nat.le_trans
theorem yZ : type_of% @Nat.zero_le := @Nat.zero_le
theorem uF : type_of% @List.eq_of_mem_replicate := @List.eq_of_mem_replicate
theorem xB : type_of% @List.getElem?_replicate := @List.getElem?_replicate
theorem xC : type_of% @List.length_replicate := @List.length_replicate
theorem xD : type_of% @List.mem_singleton := @List.mem_singleton
theorem xE : type_of% @List.mem_or_eq_of_mem_set := @List.mem_or_eq_of_mem_set
theorem xF : type_of% @List.length_take := @List.length_take
theorem xG : type_of% @List.getElem?_take := @List.getElem?_take
theorem xH : type_of% @Array.getElem?_setIfInBounds_ne := @Array.getElem?_setIfInBounds_ne
theorem xI : type_of% @List.getElem?_toArray := @List.getElem?_toArray
theorem xJ : type_of% @List.getElem?_range := @List.getElem?_range
theorem uK : type_of% @List.ext_getElem? := @List.ext_getElem?
theorem xL : type_of% @Int.toNat_natCast := @Int.toNat_natCast
theorem xM : type_of% @List.mem_of_mem_take := @List.mem_of_mem_take
theorem vM : type_of% @Bool.and_eq_true := @Bool.and_eq_true
theorem xO : type_of% @List.mem_cons_of_mem := @List.mem_cons_of_mem
theorem xP : type_of% @Nat.add_mul := @Nat.add_mul
theorem xQ : type_of% @Nat.one_mul := @Nat.one_mul
theorem xR : type_of% @List.getElem_mem := @List.getElem_mem
theorem xS : type_of% @Nat.mul_le_mul_right := @Nat.mul_le_mul_right
theorem xT : type_of% @Nat.mod_lt := @Nat.mod_lt
theorem xU : type_of% @List.flatMap_cons := @List.flatMap_cons
theorem xV : type_of% @List.length_map := @List.length_map
theorem xW : type_of% @List.all_eq_true := @List.all_eq_true
theorem vX : type_of% @List.mem_range := @List.mem_range
theorem xY : type_of% @List.mem_append := @List.mem_append
theorem xZ : type_of% @List.mem_cons := @List.mem_cons
theorem vA : type_of% @Rat.mul_nonneg := @Rat.mul_nonneg
theorem vB : type_of% @Rat.le_of_lt := @Rat.le_of_lt
theorem vC : type_of% @Rat.le_refl := @Rat.le_refl
theorem vD : type_of% @Nat.pow_succ := @Nat.pow_succ
theorem vE : type_of% @Nat.mul_comm := @Nat.mul_comm
theorem kQa : type_of% @And.intro := @And.intro
theorem kQb : type_of% @Nat.ne_of_lt := @Nat.ne_of_lt
theorem kQc : type_of% @Nat.mul_add := @Nat.mul_add
theorem kQd : type_of% @Nat.lt_or_ge := @Nat.lt_or_ge
theorem kQe : type_of% @Nat.le_of_lt := @Nat.le_of_lt
theorem kQf : type_of% @List.drop_of_length_le := @List.drop_of_length_le
theorem kQg : type_of% @Nat.mul_assoc := @Nat.mul_assoc
theorem kQh : type_of% @Nat.mul_le_mul_left := @Nat.mul_le_mul_left
theorem kQi : type_of% @List.getElem?_cons_zero := @List.getElem?_cons_zero
theorem kQj : type_of% @Int.eq_ofNat_of_zero_le := @Int.eq_ofNat_of_zero_le
theorem kQk : type_of% @Nat.pow_le_pow_right := @Nat.pow_le_pow_right
theorem kQl : type_of% @List.mem_map := @List.mem_map
theorem kQm : type_of% @Nat.eq_zero_or_pos := @Nat.eq_zero_or_pos
theorem kQn : type_of% @Array.getElem?_eq_none := @Array.getElem?_eq_none
theorem kQo : type_of% @List.length_cons := @List.length_cons
theorem kQp : type_of% @List.length_eq_zero_iff := @List.length_eq_zero_iff
theorem kQq : type_of% @Nat.mul_le_mul := @Nat.mul_le_mul
theorem kQr : type_of% @List.take_add_one := @List.take_add_one
theorem kQs : type_of% @Rat.le_trans := @Rat.le_trans
theorem kQt : type_of% @Rat.intCast_le_intCast := @Rat.intCast_le_intCast
theorem kQu : type_of% @Nat.zero_add := @Nat.zero_add
theorem kQv : type_of% @Nat.mod_eq_of_lt := @Nat.mod_eq_of_lt
theorem kQw : type_of% @Array.getElem?_toList := @Array.getElem?_toList
theorem kQx : type_of% @Nat.mul_ne_zero := @Nat.mul_ne_zero
theorem kQy : type_of% @Nat.pow_pos := @Nat.pow_pos
theorem kQz : type_of% @List.eq_nil_of_length_eq_zero := @List.eq_nil_of_length_eq_zero
theorem kQ0 : type_of% @Array.getElem?_setIfInBounds_self_of_lt := @Array.getElem?_setIfInBounds_self_of_lt
theorem kQ1 : type_of% @Option.getD_some := @Option.getD_some
theorem kQ2 : type_of% @Nat.lt_of_le_of_lt := @Nat.lt_of_le_of_lt
theorem kQ3 : type_of% @Nat.add_zero := @Nat.add_zero
theorem kQ4 : type_of% @Rat.not_lt := @Rat.not_lt
theorem kQ5 : type_of% @Rat.mul_le_mul_of_nonneg_right := @Rat.mul_le_mul_of_nonneg_right
theorem kQ6 : type_of% @List.drop_eq_getElem_cons := @List.drop_eq_getElem_cons
theorem kQ7 : type_of% @Rat.den_nz := @Rat.den_nz
theorem kQ8 : type_of% @Nat.mul_zero := @Nat.mul_zero
theorem kQ9 : type_of% @Option.map_some := @Option.map_some
theorem kZa : type_of% @List.map_cons := @List.map_cons
theorem kZb : type_of% @Nat.mul_lt_mul_of_lt_of_le := @Nat.mul_lt_mul_of_lt_of_le
theorem kZc : type_of% @List.range_succ := @List.range_succ
theorem kZd : type_of% @List.length_singleton := @List.length_singleton
theorem kZe : type_of% @Or.inl := @Or.inl
theorem kZf : type_of% @Rat.lt_irrefl := @Rat.lt_irrefl
theorem kZg : type_of% @Bool.true_and := @Bool.true_and
theorem kZh : type_of% @Nat.min_eq_left := @Nat.min_eq_left
theorem kZi : type_of% @Nat.div_le_self := @Nat.div_le_self
theorem kZj : type_of% @Nat.div_add_mod := @Nat.div_add_mod
theorem kZk : type_of% @Int.natCast_mul := @Int.natCast_mul
theorem kZl : type_of% @Nat.add_comm := @Nat.add_comm
theorem kZm : type_of% @List.length_range := @List.length_range
theorem kZn : type_of% @Array.getElem?_eq_some_iff := @Array.getElem?_eq_some_iff
theorem kZo : type_of% @List.nodup_cons := @List.nodup_cons
theorem kZp : type_of% @Nat.div_lt_iff_lt_mul := @Nat.div_lt_iff_lt_mul
theorem kZq : type_of% @Bool.false_eq_true := @Bool.false_eq_true
theorem kZr : type_of% @Nat.lt_irrefl := @Nat.lt_irrefl
theorem kZs : type_of% @List.getElem?_set := @List.getElem?_set
theorem kZt : type_of% @List.foldl_append := @List.foldl_append
theorem kZu : type_of% @Rat.intCast_mul := @Rat.intCast_mul
theorem kZv : type_of% @Int.natCast_add := @Int.natCast_add
theorem kZw : type_of% @Nat.add_assoc := @Nat.add_assoc
theorem kZx : type_of% @List.mem_flatMap := @List.mem_flatMap
theorem kZy : type_of% @Nat.le_div_iff_mul_le := @Nat.le_div_iff_mul_le
theorem kZz : type_of% @List.take_append_drop := @List.take_append_drop
end Go.Proofs.YtllmekijiohgmaaGreatDoor
namespace Go.Proofs
open Go.Shelf
open Go.RowKit in
def Tryz.lays169_ren:Go.Shelf.Ren:=⟨fun|169=>99|n=>n,fun|70=>173|9=>9|0=>0|72=>175|37=>29|127=>233|3=>3|5=>5|n=>n,fun|n=>n⟩
theorem Tryz.lays169:Go.Proofs.Lays.n169 Tryz.prog Tryz.lays169_ren:={
 mixed:=by kernel_rfl
 f169:=Tryz.func99.trans (congrArg some (by kernel_rfl))
 t0:=Tryz.underlying0
 a0:=Tryz.isAgg0
 z0:=Tryz.sizeOf0
 v0:=Tryz.zeroValue0
 t3:=Tryz.underlying3
 a3:=Tryz.isAgg3
 z3:=Tryz.sizeOf3
 v3:=Tryz.zeroValue3
 t9:=Tryz.underlying9
 a9:=Tryz.isAgg9
 z9:=Tryz.sizeOf9
 v9:=Tryz.zeroValue9
 t37:=Tryz.underlying29
 a37:=Tryz.isAgg29
 z37:=Tryz.sizeOf29
 v37:=Tryz.zeroValue29
 t70:=Tryz.underlying173
 a70:=Tryz.isAgg173
 z70:=Tryz.sizeOf173
 v70:=Tryz.zeroValue173
 t72:=Tryz.underlying175
 a72:=Tryz.isAgg175
 z72:=Tryz.sizeOf175
 v72:=Tryz.zeroValue175
 t127:=Tryz.underlying233
 a127:=Tryz.isAgg233
 z127:=Tryz.sizeOf233
 v127:=Tryz.zeroValue233}
theorem Tryz.Builder_Extra_169:Builder.Extra Tryz.prog Tryz.lays169_ren:={
 sizeBuilder:=by kernel_rfl
 liesBuilder:=by kernel_rfl
 t5:=Tryz.underlying5
 a5:=Tryz.isAgg5
 z5:=Tryz.sizeOf5
 v5:=Tryz.zeroValue5
 infoByte:=by kernel_rfl
 cellsByte:=by kernel_rfl
 sizeByte:=by kernel_rfl
 neB5:=by decide}
open Go.RowKit in
open Go.RowKit in
open Go.RowKit in
theorem Tryz.Builder_String_any(B b:Nat)(l:List UInt8)(w:World)(h:Lib.IsBuilder 175 5 B b (Lib.byteCells l) w)(hBw:B<=w.heap.size):
 Calls Tryz.prog 99 #[.pointer (some ⟨b,0,none⟩)] w fun e w'=>e=.returned (.string ⟨l.toArray⟩)/\Below B w w':=Any.Builder_String_any Tryz.lays169 Tryz.Builder_Extra_169 B b l w h hBw
open Go.RowKit in
open Go.RowKit in
def Tryz.lays156_ren:Go.Shelf.Ren:=⟨fun|156=>146|165=>156|166=>98|169=>99|240=>158|241=>201|276=>202|277=>231|n=>n,fun|31=>167|9=>9|3=>3|4=>4|0=>0|20=>20|72=>175|76=>178|70=>173|37=>29|75=>177|127=>233|164=>266|5=>5|80=>180|n=>n,fun|n=>n⟩
theorem Tryz.lays156:Go.Proofs.Lays.n156 Tryz.prog Tryz.lays156_ren:={
 mixed:=by kernel_rfl
 f156:=Tryz.func146.trans (congrArg some (by kernel_rfl))
 f165:=Tryz.func156.trans (congrArg some (by kernel_rfl))
 f166:=Tryz.func98.trans (congrArg some (by kernel_rfl))
 f169:=Tryz.func99.trans (congrArg some (by kernel_rfl))
 f240:=Tryz.func158.trans (congrArg some (by kernel_rfl))
 f241:=Tryz.func201.trans (congrArg some (by kernel_rfl))
 f276:=Tryz.func202.trans (congrArg some (by kernel_rfl))
 f277:=Tryz.func231.trans (congrArg some (by kernel_rfl))
 t0:=Tryz.underlying0
 a0:=Tryz.isAgg0
 z0:=Tryz.sizeOf0
 v0:=Tryz.zeroValue0
 t3:=Tryz.underlying3
 a3:=Tryz.isAgg3
 z3:=Tryz.sizeOf3
 v3:=Tryz.zeroValue3
 t4:=Tryz.underlying4
 a4:=Tryz.isAgg4
 z4:=Tryz.sizeOf4
 v4:=Tryz.zeroValue4
 t9:=Tryz.underlying9
 a9:=Tryz.isAgg9
 z9:=Tryz.sizeOf9
 v9:=Tryz.zeroValue9
 t20:=Tryz.underlying20
 a20:=Tryz.isAgg20
 z20:=Tryz.sizeOf20
 v20:=Tryz.zeroValue20
 t31:=Tryz.underlying167
 a31:=Tryz.isAgg167
 z31:=Tryz.sizeOf167
 v31:=Tryz.zeroValue167
 t37:=Tryz.underlying29
 a37:=Tryz.isAgg29
 z37:=Tryz.sizeOf29
 v37:=Tryz.zeroValue29
 t70:=Tryz.underlying173
 a70:=Tryz.isAgg173
 z70:=Tryz.sizeOf173
 v70:=Tryz.zeroValue173
 t72:=Tryz.underlying175
 a72:=Tryz.isAgg175
 z72:=Tryz.sizeOf175
 v72:=Tryz.zeroValue175
 t75:=Tryz.underlying177
 a75:=Tryz.isAgg177
 z75:=Tryz.sizeOf177
 v75:=Tryz.zeroValue177
 t76:=Tryz.underlying178
 a76:=Tryz.isAgg178
 z76:=Tryz.sizeOf178
 v76:=Tryz.zeroValue178
 t127:=Tryz.underlying233
 a127:=Tryz.isAgg233
 z127:=Tryz.sizeOf233
 v127:=Tryz.zeroValue233
 t164:=Tryz.underlying266
 a164:=Tryz.isAgg266
 z164:=Tryz.sizeOf266
 v164:=Tryz.zeroValue266}
theorem Tryz.Builder_Extra_156:Builder.Extra Tryz.prog Tryz.lays156_ren:={
 sizeBuilder:=by kernel_rfl
 liesBuilder:=by kernel_rfl
 t5:=Tryz.underlying5
 a5:=Tryz.isAgg5
 z5:=Tryz.sizeOf5
 v5:=Tryz.zeroValue5
 infoByte:=by kernel_rfl
 cellsByte:=by kernel_rfl
 sizeByte:=by kernel_rfl
 neB5:=by decide}
open Go.RowKit in
theorem Tryz.strings_Join_none(a:Option Addr)(c:Nat)(sep:ByteArray)(w:World):
 Calls Tryz.prog 146 #[.slice a 0 c,.string sep] w fun e w'=>e=.returned (.string ⟨#[]⟩)/\w'=w:=Any.strings_Join_none Tryz.lays156 Tryz.Builder_Extra_156 a c sep w
open Go.RowKit in
theorem Tryz.strings_Join(bk o c:Nat)(xs:List ByteArray)(sep:ByteArray)(w:World)(hcells:∀(j:Nat) x,xs[j]?=some x->w.cell? ⟨bk,o+j,none⟩=some (.string x))(hbk:bk<w.heap.size)(hN:xs.length<=140737488355328)(hcap:xs.length<=c)(hlen:(Lib.join (xs.map (·.data.toList)) sep.data.toList).length<=140737488355328):
 Calls Tryz.prog 146 #[.slice (some ⟨bk,o,none⟩) xs.length c,.string sep] w fun e w'=>e=.returned (.string ⟨(Lib.join (xs.map (·.data.toList)) sep.data.toList).toArray⟩)/\Below w.heap.size w w':=Any.strings_Join Tryz.lays156 Tryz.Builder_Extra_156 bk o c xs sep w hcells hbk hN hcap hlen
def Tryz.lays125_ren:Go.Shelf.Ren:=⟨fun|125=>287|128=>247|129=>253|n=>n,fun|46=>211|3=>3|51=>168|53=>198|4=>4|5=>5|9=>9|n=>n,fun|n=>n⟩
theorem Tryz.lays125:Go.Proofs.Lays.n125 Tryz.prog Tryz.lays125_ren:={
 mixed:=by kernel_rfl
 f125:=Tryz.func287.trans (congrArg some (by kernel_rfl))
 f128:=Tryz.func247.trans (congrArg some (by kernel_rfl))
 f129:=Tryz.func253.trans (congrArg some (by kernel_rfl))
 t3:=Tryz.underlying3
 a3:=Tryz.isAgg3
 z3:=Tryz.sizeOf3
 v3:=Tryz.zeroValue3
 t4:=Tryz.underlying4
 a4:=Tryz.isAgg4
 z4:=Tryz.sizeOf4
 v4:=Tryz.zeroValue4
 t5:=Tryz.underlying5
 a5:=Tryz.isAgg5
 z5:=Tryz.sizeOf5
 v5:=Tryz.zeroValue5
 t9:=Tryz.underlying9
 a9:=Tryz.isAgg9
 z9:=Tryz.sizeOf9
 v9:=Tryz.zeroValue9
 t46:=Tryz.underlying211
 a46:=Tryz.isAgg211
 z46:=Tryz.sizeOf211
 v46:=Tryz.zeroValue211
 t51:=Tryz.underlying168
 a51:=Tryz.isAgg168
 z51:=Tryz.sizeOf168
 v51:=Tryz.zeroValue168
 t53:=Tryz.underlying198
 a53:=Tryz.isAgg198
 z53:=Tryz.sizeOf198
 v53:=Tryz.zeroValue198}
theorem Tryz.bits_Len(x:Int)(w:World)(h0:0<=x)(h1:x<=18446744073709551615):
 Calls Tryz.prog 287 #[.int .u64 x] w fun e w'=>e=.returned (.int .i64 (Lib.bitLen x.toNat))/\w'=w:=Any.bits_Len Tryz.lays125 x w h0 h1
def Tryz.lays133_ren:Go.Shelf.Ren:=⟨fun|133=>217|128=>247|n=>n,fun|51=>168|3=>3|4=>4|46=>211|5=>5|9=>9|n=>n,fun|n=>n⟩
theorem Tryz.lays133:Go.Proofs.Lays.n133 Tryz.prog Tryz.lays133_ren:={
 mixed:=by kernel_rfl
 f128:=Tryz.func247.trans (congrArg some (by kernel_rfl))
 f133:=Tryz.func217.trans (congrArg some (by kernel_rfl))
 t3:=Tryz.underlying3
 a3:=Tryz.isAgg3
 z3:=Tryz.sizeOf3
 v3:=Tryz.zeroValue3
 t4:=Tryz.underlying4
 a4:=Tryz.isAgg4
 z4:=Tryz.sizeOf4
 v4:=Tryz.zeroValue4
 t5:=Tryz.underlying5
 a5:=Tryz.isAgg5
 z5:=Tryz.sizeOf5
 v5:=Tryz.zeroValue5
 t9:=Tryz.underlying9
 a9:=Tryz.isAgg9
 z9:=Tryz.sizeOf9
 v9:=Tryz.zeroValue9
 t46:=Tryz.underlying211
 a46:=Tryz.isAgg211
 z46:=Tryz.sizeOf211
 v46:=Tryz.zeroValue211
 t51:=Tryz.underlying168
 a51:=Tryz.isAgg168
 z51:=Tryz.sizeOf168
 v51:=Tryz.zeroValue168}
theorem Tryz.bits_LeadingZeros32(x:Int)(w:World)(h0:0<=x)(h1:x<=4294967295):
 Calls Tryz.prog 217 #[.int .u32 x] w fun e w'=>e=.returned (.int .i64 (32-(Lib.bitLen x.toNat:Int)))/\w'=w:=Any.bits_LeadingZeros32 Tryz.lays133 x w h0 h1
open Go.RowKit in
open Go.RowKit in
open Go.RowKit in
open Go.RowKit in
open Go.RowKit in
open Go.RowKit in
open Go.RowKit in
open Go.RowKit in
open Go.Lib in
open Go.Lib in
open Go.Lib in
open Go.Lib in
open Go.RowKit Go.Sort Go.Lib in
open Go.RowKit Go.Sort Go.Lib in
open Go.RowKit Go.Sort Go.Lib in
open Go.RowKit Go.Sort Go.Lib in
open Go.RowKit Go.Sort Go.Lib in
def Tryz.laysM171_ren:Go.Shelf.Ren:=⟨fun|171=>96|243=>153|246=>197|283=>227|284=>228|285=>229|286=>230|129=>253|317=>252|318=>254|319=>255|320=>256|337=>269|338=>270|n=>n,fun|3=>3|9=>9|2=>2|4=>4|171=>287|0=>0|53=>198|37=>29|5=>5|173=>290|212=>305|51=>168|20=>20|213=>306|46=>211|232=>328|233=>329|n=>n,fun|17=>2|18=>3|19=>4|n=>n⟩
theorem Tryz.laysM171:Go.Proofs.LaysM.n171 Tryz.prog Tryz.laysM171_ren:={
 mixed:=by kernel_rfl
 f129:=Tryz.func253.trans (congrArg some (by kernel_rfl))
 f171:=Tryz.func96.trans (congrArg some (by kernel_rfl))
 f243:=Tryz.func153.trans (congrArg some (by kernel_rfl))
 f246:=Tryz.func197.trans (congrArg some (by kernel_rfl))
 f283:=Tryz.func227.trans (congrArg some (by kernel_rfl))
 f284:=Tryz.func228.trans (congrArg some (by kernel_rfl))
 f285:=Tryz.func229.trans (congrArg some (by kernel_rfl))
 f286:=Tryz.func230.trans (congrArg some (by kernel_rfl))
 f317:=Tryz.func252.trans (congrArg some (by kernel_rfl))
 f318:=Tryz.func254.trans (congrArg some (by kernel_rfl))
 f319:=Tryz.func255.trans (congrArg some (by kernel_rfl))
 f320:=Tryz.func256.trans (congrArg some (by kernel_rfl))
 f337:=Tryz.func269.trans (congrArg some (by kernel_rfl))
 f338:=Tryz.func270.trans (congrArg some (by kernel_rfl))
 t0:=Tryz.underlying0
 a0:=Tryz.isAgg0
 z0:=Tryz.sizeOf0
 v0:=Tryz.zeroValue0
 t2:=Tryz.underlying2
 a2:=Tryz.isAgg2
 z2:=Tryz.sizeOf2
 v2:=Tryz.zeroValue2
 t3:=Tryz.underlying3
 a3:=Tryz.isAgg3
 z3:=Tryz.sizeOf3
 v3:=Tryz.zeroValue3
 t4:=Tryz.underlying4
 a4:=Tryz.isAgg4
 z4:=Tryz.sizeOf4
 v4:=Tryz.zeroValue4
 t5:=Tryz.underlying5
 a5:=Tryz.isAgg5
 z5:=Tryz.sizeOf5
 v5:=Tryz.zeroValue5
 t9:=Tryz.underlying9
 a9:=Tryz.isAgg9
 z9:=Tryz.sizeOf9
 v9:=Tryz.zeroValue9
 t20:=Tryz.underlying20
 a20:=Tryz.isAgg20
 z20:=Tryz.sizeOf20
 v20:=Tryz.zeroValue20
 t37:=Tryz.underlying29
 a37:=Tryz.isAgg29
 z37:=Tryz.sizeOf29
 v37:=Tryz.zeroValue29
 t46:=Tryz.underlying211
 a46:=Tryz.isAgg211
 z46:=Tryz.sizeOf211
 v46:=Tryz.zeroValue211
 t51:=Tryz.underlying168
 a51:=Tryz.isAgg168
 z51:=Tryz.sizeOf168
 v51:=Tryz.zeroValue168
 t53:=Tryz.underlying198
 a53:=Tryz.isAgg198
 z53:=Tryz.sizeOf198
 v53:=Tryz.zeroValue198
 t171:=Tryz.underlying287
 a171:=Tryz.isAgg287
 z171:=Tryz.sizeOf287
 v171:=Tryz.zeroValue287
 t173:=Tryz.underlying290
 a173:=Tryz.isAgg290
 z173:=Tryz.sizeOf290
 v173:=Tryz.zeroValue290
 t212:=Tryz.underlying305
 a212:=Tryz.isAgg305
 z212:=Tryz.sizeOf305
 v212:=Tryz.zeroValue305
 t213:=Tryz.underlying306
 a213:=Tryz.isAgg306
 z213:=Tryz.sizeOf306
 t232:=Tryz.underlying328
 a232:=Tryz.isAgg328
 z232:=Tryz.sizeOf328
 v232:=Tryz.zeroValue328
 t233:=Tryz.underlying329
 a233:=Tryz.isAgg329
 z233:=Tryz.sizeOf329
 v233:=Tryz.zeroValue329
 g17:=by kernel_rfl
 g18:=by kernel_rfl
 g19:=by kernel_rfl
 i0:=by kernel_rfl
 i2:=by kernel_rfl
 i3:=by kernel_rfl
 i4:=by kernel_rfl
 i5:=by kernel_rfl
 i9:=by kernel_rfl
 i20:=by kernel_rfl
 i37:=by kernel_rfl
 i46:=by kernel_rfl
 i51:=by kernel_rfl
 i53:=by kernel_rfl
 i171:=by kernel_rfl
 i173:=by kernel_rfl
 i212:=by kernel_rfl
 i232:=by kernel_rfl
 i233:=by kernel_rfl
 m17:=by kernel_rfl
 m18:=by kernel_rfl
 m19:=by kernel_rfl}
open Go.RowKit Go.Sort Go.Lib in
theorem Tryz.strconv_Itoa(n:Int)(h0: -9223372036854775808<=n)(h1:n<=9223372036854775807)(w:World)(htab:Lib.TabIs Tryz.prog w "internal/strconv.uint64pow10" .u64 Lib.pow10Tab):
 Calls Tryz.prog 96 #[.int .i64 n] w fun e w'=>e=.returned (.string ⟨(Lib.itoa n).toArray⟩)/\∃k os,w'=grow (w.drewN k) os:=Any.strconv_Itoa Tryz.laysM171 n h0 h1 w htab
open Go.RowKit Go.Sort Go.Lib in
open Go.RowKit Go.Lib in
open Go.RowKit Go.Lib in
open Go.RowKit Go.Lib in
open Go.RowKit Go.Lib in
open Go.RowKit Go.Lib in
open Go.RowKit Go.Lib in
open Go.RowKit Go.Lib in
open Go.RowKit Go.Lib in
open Go.RowKit Go.Lib in
open Go.RowKit Go.Lib in
open Go.RowKit Go.Lib in
open Go.RowKit Go.Lib in
open Go.RowKit Go.Lib in
open Go.RowKit Go.Lib in
open Go.RowKit Go.Lib in
def Tryz.lays105_ren:Go.Shelf.Ren:=⟨fun|105=>97|212=>154|99=>155|165=>156|166=>98|170=>157|169=>99|263=>198|264=>199|206=>200|240=>158|241=>201|276=>202|277=>231|n=>n,fun|9=>9|3=>3|4=>4|20=>20|0=>0|46=>211|109=>228|5=>5|72=>175|76=>178|51=>168|146=>226|53=>198|148=>264|70=>173|37=>29|75=>177|127=>233|164=>266|80=>180|n=>n,fun|n=>n⟩
theorem Tryz.lays105:Go.Proofs.Lays.n105 Tryz.prog Tryz.lays105_ren:={
 mixed:=by kernel_rfl
 f99:=Tryz.func155.trans (congrArg some (by kernel_rfl))
 f105:=Tryz.func97.trans (congrArg some (by kernel_rfl))
 f165:=Tryz.func156.trans (congrArg some (by kernel_rfl))
 f166:=Tryz.func98.trans (congrArg some (by kernel_rfl))
 f169:=Tryz.func99.trans (congrArg some (by kernel_rfl))
 f170:=Tryz.func157.trans (congrArg some (by kernel_rfl))
 f206:=Tryz.func200.trans (congrArg some (by kernel_rfl))
 f212:=Tryz.func154.trans (congrArg some (by kernel_rfl))
 f240:=Tryz.func158.trans (congrArg some (by kernel_rfl))
 f241:=Tryz.func201.trans (congrArg some (by kernel_rfl))
 f263:=Tryz.func198.trans (congrArg some (by kernel_rfl))
 f264:=Tryz.func199.trans (congrArg some (by kernel_rfl))
 f276:=Tryz.func202.trans (congrArg some (by kernel_rfl))
 f277:=Tryz.func231.trans (congrArg some (by kernel_rfl))
 t0:=Tryz.underlying0
 a0:=Tryz.isAgg0
 z0:=Tryz.sizeOf0
 v0:=Tryz.zeroValue0
 t3:=Tryz.underlying3
 a3:=Tryz.isAgg3
 z3:=Tryz.sizeOf3
 v3:=Tryz.zeroValue3
 t4:=Tryz.underlying4
 a4:=Tryz.isAgg4
 z4:=Tryz.sizeOf4
 v4:=Tryz.zeroValue4
 t5:=Tryz.underlying5
 a5:=Tryz.isAgg5
 z5:=Tryz.sizeOf5
 v5:=Tryz.zeroValue5
 t9:=Tryz.underlying9
 a9:=Tryz.isAgg9
 z9:=Tryz.sizeOf9
 v9:=Tryz.zeroValue9
 t20:=Tryz.underlying20
 a20:=Tryz.isAgg20
 z20:=Tryz.sizeOf20
 v20:=Tryz.zeroValue20
 t37:=Tryz.underlying29
 a37:=Tryz.isAgg29
 z37:=Tryz.sizeOf29
 v37:=Tryz.zeroValue29
 t46:=Tryz.underlying211
 a46:=Tryz.isAgg211
 z46:=Tryz.sizeOf211
 v46:=Tryz.zeroValue211
 t51:=Tryz.underlying168
 a51:=Tryz.isAgg168
 z51:=Tryz.sizeOf168
 v51:=Tryz.zeroValue168
 t53:=Tryz.underlying198
 a53:=Tryz.isAgg198
 z53:=Tryz.sizeOf198
 v53:=Tryz.zeroValue198
 t70:=Tryz.underlying173
 a70:=Tryz.isAgg173
 z70:=Tryz.sizeOf173
 v70:=Tryz.zeroValue173
 t72:=Tryz.underlying175
 a72:=Tryz.isAgg175
 z72:=Tryz.sizeOf175
 v72:=Tryz.zeroValue175
 t75:=Tryz.underlying177
 a75:=Tryz.isAgg177
 z75:=Tryz.sizeOf177
 v75:=Tryz.zeroValue177
 t76:=Tryz.underlying178
 a76:=Tryz.isAgg178
 z76:=Tryz.sizeOf178
 v76:=Tryz.zeroValue178
 t109:=Tryz.underlying228
 a109:=Tryz.isAgg228
 z109:=Tryz.sizeOf228
 v109:=Tryz.zeroValue228
 t127:=Tryz.underlying233
 a127:=Tryz.isAgg233
 z127:=Tryz.sizeOf233
 v127:=Tryz.zeroValue233
 t146:=Tryz.underlying226
 a146:=Tryz.isAgg226
 z146:=Tryz.sizeOf226
 v146:=Tryz.zeroValue226
 t148:=Tryz.underlying264
 a148:=Tryz.isAgg264
 z148:=Tryz.sizeOf264
 v148:=Tryz.zeroValue264
 t164:=Tryz.underlying266
 a164:=Tryz.isAgg266
 z164:=Tryz.sizeOf266
 v164:=Tryz.zeroValue266}
theorem Tryz.Builder_Extra_105:Builder.Extra Tryz.prog Tryz.lays105_ren:={
 sizeBuilder:=by kernel_rfl
 liesBuilder:=by kernel_rfl
 t5:=Tryz.underlying5
 a5:=Tryz.isAgg5
 z5:=Tryz.sizeOf5
 v5:=Tryz.zeroValue5
 infoByte:=by kernel_rfl
 cellsByte:=by kernel_rfl
 sizeByte:=by kernel_rfl
 neB5:=by decide}
open Go.RowKit Go.Lib in
open Go.RowKit Go.Lib in
open Go.RowKit Go.Lib in
open Go.RowKit Go.Lib in
open Go.RowKit Go.Lib in
open Go.RowKit Go.Lib in
open Go.RowKit Go.Lib in
theorem Tryz.strings_Repeat(s:ByteArray)(c:Nat)(w:World)(hc:c<=9223372036854775807)(hlen:s.size*c<=140737488355328):
 Calls Tryz.prog 97 #[.string s,.int .i64 c] w fun e w'=>e=.returned (.string ⟨(Lib.repeatL s.data.toList c).toArray⟩)/\Below w.heap.size w w':=Any.strings_Repeat Tryz.lays105 Tryz.Builder_Extra_105 s c w hc hlen
open Go.Lib in
open Go.Lib in
def Tryz.lays107_ren:Go.Shelf.Ren:=⟨fun|107=>142|108=>188|n=>n,fun|28=>28|3=>3|4=>4|0=>0|n=>n,fun|n=>n⟩
theorem Tryz.lays107:Go.Proofs.Lays.n107 Tryz.prog Tryz.lays107_ren:={
 mixed:=by kernel_rfl
 f107:=Tryz.func142.trans (congrArg some (by kernel_rfl))
 f108:=Tryz.func188.trans (congrArg some (by kernel_rfl))
 t0:=Tryz.underlying0
 a0:=Tryz.isAgg0
 z0:=Tryz.sizeOf0
 v0:=Tryz.zeroValue0
 t3:=Tryz.underlying3
 a3:=Tryz.isAgg3
 z3:=Tryz.sizeOf3
 v3:=Tryz.zeroValue3
 t4:=Tryz.underlying4
 a4:=Tryz.isAgg4
 z4:=Tryz.sizeOf4
 v4:=Tryz.zeroValue4
 t28:=Tryz.underlying28
 a28:=Tryz.isAgg28
 z28:=Tryz.sizeOf28
 v28:=Tryz.zeroValue28}
open Go.Lib in
theorem Tryz.slices_Contains_int(b off n c:Nat)(zs:List Int)(x:Int)(w:World)(hz:n<=zs.length)(hbig:n<=9223372036854775807)(hc:∀j,j<zs.length->w.cell? ⟨b,off+j,none⟩=some (.int .i64 (zs.getD j 0))):
 Calls Tryz.prog 142 #[.slice (some ⟨b,off,none⟩) n c,.int .i64 x] w fun e w'=>e=.returned (.bool ((zs.take n).contains x))/\w'=w:=Any.slices_Contains_int Tryz.lays107 b off n c zs x w hz hbig hc
open Go.Lib in
theorem Tryz.slices_Contains_int_empty(a:Option Addr)(c:Nat)(x:Int)(w:World):
 Calls Tryz.prog 142 #[.slice a 0 c,.int .i64 x] w fun e w'=>e=.returned (.bool false)/\w'=w:=Any.slices_Contains_int_empty Tryz.lays107 a c x w
def Tryz.lays112_ren:Go.Shelf.Ren:=⟨fun|112=>280|n=>n,fun|28=>28|3=>3|4=>4|0=>0|n=>n,fun|n=>n⟩
theorem Tryz.lays112:Go.Proofs.Lays.n112 Tryz.prog Tryz.lays112_ren:={
 mixed:=by kernel_rfl
 f112:=Tryz.func280.trans (congrArg some (by kernel_rfl))
 t0:=Tryz.underlying0
 a0:=Tryz.isAgg0
 z0:=Tryz.sizeOf0
 v0:=Tryz.zeroValue0
 t3:=Tryz.underlying3
 a3:=Tryz.isAgg3
 z3:=Tryz.sizeOf3
 v3:=Tryz.zeroValue3
 t4:=Tryz.underlying4
 a4:=Tryz.isAgg4
 z4:=Tryz.sizeOf4
 v4:=Tryz.zeroValue4
 t28:=Tryz.underlying28
 a28:=Tryz.isAgg28
 z28:=Tryz.sizeOf28
 v28:=Tryz.zeroValue28}
open Go.RowKit Go.Lib Go.Sort in
open Go.RowKit Go.Lib Go.Sort in
theorem Tryz.slices_Reverse_int(blk off cap:Nat)(zs:List Int)(w:World)(hH:Holds (Value.int .i64) w blk off zs.toArray)(hsz:zs.length<=9223372036854775807):
 Calls Tryz.prog 280 #[.slice (some ⟨blk,off,none⟩) zs.length cap] w fun e w'=>e=.returned (.tuple #[])/\∃n,w'=putRow (Value.int .i64) (Sort.ahead w n) blk off zs.reverse.toArray:=Any.slices_Reverse_int Tryz.lays112 blk off cap zs w hH hsz
open Go.RowKit Go.Lib Go.Sort in
def Tryz.laysNm215_ren:Go.Shelf.Ren:=⟨fun|15=>189|n=>n,fun|22=>28|3=>3|4=>4|n=>n,fun|n=>n⟩
theorem Tryz.laysNm215:Go.Proofs.Lays2.n15 Tryz.prog Tryz.laysNm215_ren:={
 mixed:=by kernel_rfl
 f15:=Tryz.func189.trans (congrArg some (by kernel_rfl))
 t3:=Tryz.underlying3
 a3:=Tryz.isAgg3
 z3:=Tryz.sizeOf3
 v3:=Tryz.zeroValue3
 t4:=Tryz.underlying4
 a4:=Tryz.isAgg4
 z4:=Tryz.sizeOf4
 v4:=Tryz.zeroValue4
 t22:=Tryz.underlying28
 a22:=Tryz.isAgg28
 z22:=Tryz.sizeOf28
 v22:=Tryz.zeroValue28
 i3:=by kernel_rfl}
open Go.RowKit Go.Lib in
open Go.RowKit Go.Lib in
open Go.RowKit Go.Lib in
theorem Tryz.slices_Clone_int_zero(a:Addr)(c:Nat)(w:World):
 Calls Tryz.prog 189 #[.slice (some a) 0 c] w fun e w'=>∃v',e=.returned v'/\w'.ownsRow w.heap.size 3 1 v' 0 []/\v'≠.slice none 0 0/\Below w.heap.size w w':=Any.slices_Clone_int_zero Tryz.laysNm215 a c w
open Go.RowKit Go.Lib Go.Sort in
def Tryz.laysSlE041_f189_ren:Go.Shelf.Ren:=⟨fun|41=>189|n=>n,fun|22=>28|23=>3|4=>4|n=>n,fun|n=>n⟩
theorem Tryz.laysSlE041_f189:Go.Proofs.SlLaysE0.n41 Tryz.prog Tryz.laysSlE041_f189_ren:={
 mixed:=by kernel_rfl
 f41:=⟨Tryz.f189.name,by decide,Tryz.func189.trans (congrArg some (by kernel_rfl))⟩
 t4:=Tryz.underlying4
 a4:=Tryz.isAgg4
 z4:=Tryz.sizeOf4
 v4:=Tryz.zeroValue4
 t22:=Tryz.underlying28
 a22:=Tryz.isAgg28
 z22:=Tryz.sizeOf28
 v22:=Tryz.zeroValue28}
open Go.RowKit Go.Lib in
theorem Tryz.slices_Clone(i0:TypeInfo)(z:Value)(size bytes:Nat)(hi:Tryz.prog.info? 3=some i0)(hz0:i0.zero=some z)(hz1:i0.size=size)(hz2:i0.bytes=bytes)(hzs:z.cells.size=size)(hsz:0<size)(z23:∀w,(Go.sizeOf 3).run Tryz.prog w=.ok size w)(b off n c:Nat)(news:List Value)(w:World)(hl:news.length=n*size)(hn:n<=maxLen)(hbig:n*bytes<=140737488355328)(hc:∀j u,news[j]?=some u->w.cell? ⟨b,off+j,none⟩=some u)(h1:∀u∈news,u.oneCell'=true):
 Calls Tryz.prog 189 #[.slice (some ⟨b,off,none⟩) n c] w fun e w'=>∃v',e=.returned v'/\w'.ownsRow w.heap.size 3 size v' n news/\v'≠.slice none 0 0/\Below w.heap.size w w':=AnyE.slices_Clone Tryz.laysSlE041_f189 i0 z size bytes hi hz0 hz1 hz2 hzs hsz z23 b off n c news w hl hn hbig hc h1
open Go.RowKit Go.Lib in
theorem Tryz.slices_Clone_nil(n c:Nat)(w:World):
 Calls Tryz.prog 189 #[.slice none n c] w fun e w'=>e=.returned (.slice none 0 0)/\w'=w:=AnyE.slices_Clone_nil Tryz.laysSlE041_f189 n c w
def Tryz.laysSlH6_f162_ren:Go.Shelf.Ren:=⟨fun|6=>162|n=>n,fun|22=>28|23=>3|25=>234|3=>3|0=>0|4=>4|n=>n,fun|n=>n⟩
theorem Tryz.laysSlH6_f162:Go.Proofs.SlLaysH.n6 Tryz.prog Tryz.laysSlH6_f162_ren:={
 mixed:=by kernel_rfl
 f6:=⟨Tryz.f162.name,by decide,Tryz.func162.trans (congrArg some (by kernel_rfl))⟩
 t0:=Tryz.underlying0
 a0:=Tryz.isAgg0
 z0:=Tryz.sizeOf0
 v0:=Tryz.zeroValue0
 t3:=Tryz.underlying3
 a3:=Tryz.isAgg3
 z3:=Tryz.sizeOf3
 v3:=Tryz.zeroValue3
 t4:=Tryz.underlying4
 a4:=Tryz.isAgg4
 z4:=Tryz.sizeOf4
 v4:=Tryz.zeroValue4
 t22:=Tryz.underlying28
 a22:=Tryz.isAgg28
 z22:=Tryz.sizeOf28
 v22:=Tryz.zeroValue28
 a23:=Tryz.isAgg3
 z23:=Tryz.sizeOf3
 t25:=Tryz.underlying234
 a25:=Tryz.isAgg234
 z25:=Tryz.sizeOf234
 v25:=Tryz.zeroValue234}
open Go.RowKit Go.Lib in
theorem Tryz.slices_IndexFunc{α:Type}[Inhabited α](enc:α->Value)(p:α->Bool)(g:Nat)(lb:Array Value)(eg:∀args w,(callFunc g args).run Tryz.prog w=.ok (.enter g args) w)(b off n c:Nat)(zs:List α)(w:World)(hp:PredAt Tryz.prog g lb enc p w)(hz:n<=zs.length)(hbig:n<=9223372036854775807)(hc:∀j,j<zs.length->w.cell? ⟨b,off+j,none⟩=some (enc zs[j]!)):
 Calls Tryz.prog 162 #[.slice (some ⟨b,off,none⟩) n c,.func (.func g) #[] lb] w fun e w'=>e=.returned (.int .i64 (Lib.idxBy (fun _ y=>p y) (zs.take n) default))/\∃q,w'=w.drewN q:=AnyE.slices_IndexFunc Tryz.laysSlH6_f162 enc p g lb eg b off n c zs w hp hz hbig hc
open Go.RowKit Go.Lib in
theorem Tryz.slices_IndexFunc_empty{α:Type}[Inhabited α](a:Option Addr)(c:Nat)(fv:Value)(w:World):
 Calls Tryz.prog 162 #[.slice a 0 c,fv] w fun e w'=>e=.returned (.int .i64 (-1))/\w'=w:=AnyE.slices_IndexFunc_empty Tryz.laysSlH6_f162 a c fv w
def Tryz.laysSlF20_f289_ren:Go.Shelf.Ren:=⟨fun|20=>289|n=>n,fun|24=>3|22=>28|3=>3|25=>335|4=>4|0=>0|n=>n,fun|n=>n⟩
theorem Tryz.laysSlF20_f289:Go.Proofs.SlLaysF.n20 Tryz.prog Tryz.laysSlF20_f289_ren:={
 mixed:=by kernel_rfl
 f20:=⟨Tryz.f289.name,by decide,Tryz.func289.trans (congrArg some (by kernel_rfl))⟩
 t0:=Tryz.underlying0
 a0:=Tryz.isAgg0
 z0:=Tryz.sizeOf0
 v0:=Tryz.zeroValue0
 t3:=Tryz.underlying3
 a3:=Tryz.isAgg3
 z3:=Tryz.sizeOf3
 v3:=Tryz.zeroValue3
 t4:=Tryz.underlying4
 a4:=Tryz.isAgg4
 z4:=Tryz.sizeOf4
 v4:=Tryz.zeroValue4
 t22:=Tryz.underlying28
 a22:=Tryz.isAgg28
 z22:=Tryz.sizeOf28
 v22:=Tryz.zeroValue28
 a24:=Tryz.isAgg3
 z24:=Tryz.sizeOf3
 t25:=Tryz.underlying335
 a25:=Tryz.isAgg335
 z25:=Tryz.sizeOf335
 v25:=Tryz.zeroValue335}
open Go.RowKit Go.Lib Go.Sort in
open Go.RowKit Go.Lib Go.Sort in
theorem Tryz.insertionSortCmpFunc_s{α:Type}[Inhabited α](enc:α->Value)(cf:α->α->Int)(g:Nat)(cb:Array Value)(blk off cap a b:Nat)(d0 d:Array α)(w0 w:World)(eg:∀args w,(callFunc g args).run Tryz.prog w=.ok (.enter g args) w)(hcmp:CmpLays1 Tryz.prog g cb enc cf blk off d0.size w0)(R:Row1 enc w0 blk off d0)(hs:d0.size=d.size)(S:SW enc w0 blk off d w)(hab:a<=b)(hb:b<=d.size)(hsz:d.size<4611686018427387904):
 Calls Tryz.prog 289 #[.slice (some ⟨blk,off,none⟩) d.size cap,.int .i64 a,.int .i64 b,.func (.func g) #[] cb] w fun e w'=>e=.returned (.tuple #[])/\SW enc w0 blk off (Sort.insertionSort (ltOf cf) d a b) w':=Any.insertionSortCmpFunc_s Tryz.laysSlF20_f289 enc cf g cb blk off cap a b d0 d w0 w eg hcmp R hs S hab hb hsz
end Go.Proofs
