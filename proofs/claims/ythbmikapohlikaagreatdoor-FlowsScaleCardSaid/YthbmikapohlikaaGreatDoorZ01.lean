/- Part 1 of 24 of what the Flows claims share (the white space is struck, the texts are joined). -/
import Derived.Shelf.Strings.Builder1
import Derived.Shelf.Strings.Builder2
import Derived.Shelf.Small.Bits
import Derived.Shelf.Small.Wraps
import Derived.Shelf.Strings.BuilderF
import Derived.Shelf.Strconv.Itoa0
import Derived.Shelf.Strconv.Itoa1
import Derived.Shelf.LaysM
import Derived.Shelf.Strconv.Itoa2
import Derived.Shelf.Strconv.Itoa3
import Derived.Shelf.Strings.Search1
import Derived.Shelf.Strings.Search2
import Derived.Shelf.Strings.Cut
import Derived.Shelf.Strings.Shaped
import Derived.Shelf.Strings.Prefix
import Derived.Shelf.Bits.Mul64
import Derived.Shelf.Strings.Repeat
import Derived.Ground.Names2Prog
import Derived.Shelf.Slices.Clone
import Derived.Ground.SlgnProg
import Derived.Shelf.SlicesE.Clone
import Derived.Test.YthbmikapohlikaaGreatDoorProg
import Derived.Lib.Hide
set_option linter.unusedVariables false
set_option linter.unusedSimpArgs false
set_option maxRecDepth 100000
set_option maxHeartbeats 8000000
namespace Go.Proofs.YthbmikapohlikaaGreatDoor
theorem Hx {p : Prop} (h : p) : RowKit.Hid p := Lib.hid h
theorem yA : type_of% @List.getElem_toArray := @List.getElem_toArray
theorem yB : type_of% @List.getElem_cons_zero := @List.getElem_cons_zero
theorem yC : type_of% @List.getElem_cons_succ := @List.getElem_cons_succ
theorem yD : type_of% @List.setIfInBounds_toArray := @List.setIfInBounds_toArray
theorem yE : type_of% @List.set_cons_zero := @List.set_cons_zero
theorem yF : type_of% @List.set_cons_succ := @List.set_cons_succ
theorem yG : type_of% @List.getElem?_eq_getElem := @List.getElem?_eq_getElem
theorem yH : type_of% @List.getElem?_eq_some_iff := @List.getElem?_eq_some_iff
theorem yI : type_of% @List.getElem?_eq_none := @List.getElem?_eq_none
theorem yJ : type_of% @List.mem_of_getElem? := @List.mem_of_getElem?
theorem yK : type_of% @beq_eq_false_iff_ne := @beq_eq_false_iff_ne
theorem yL : type_of% @Nat.lt_of_lt_of_le := @Nat.lt_of_lt_of_le
theorem yM : type_of% @List.getElem?_set_self := @List.getElem?_set_self
theorem vN : type_of% @List.getElem?_set_ne := @List.getElem?_set_ne
theorem yO : type_of% @decide_eq_true := @decide_eq_true
theorem yP : type_of% @decide_eq_false := @decide_eq_false
theorem yQ : type_of% @List.length_append := @List.length_append
theorem yR : type_of% @List.getElem?_append_left := @List.getElem?_append_left
theorem yS : type_of% @List.getElem?_append_right := @List.getElem?_append_right
theorem yT : type_of% @Rat.mul_le_mul_of_nonneg_left := @Rat.mul_le_mul_of_nonneg_left
theorem yU : type_of% @List.take_of_length_le := @List.take_of_length_le
theorem yV : type_of% @List.length_set := @List.length_set
theorem yW : type_of% @List.getElem?_map := @List.getElem?_map
theorem yX : type_of% @Nat.le_refl := @Nat.le_refl
theorem yY : type_of% @Nat.le_trans := @Nat.le_trans
theorem yZ : type_of% @Nat.zero_le := @Nat.zero_le
theorem uF : type_of% @List.eq_of_mem_replicate := @List.eq_of_mem_replicate
theorem xB : type_of% @List.getElem?_replicate := @List.getElem?_replicate
theorem xC : type_of% @List.length_replicate := @List.length_replicate
theorem xD : type_of% @List.mem_singleton := @List.mem_singleton
theorem xE : type_of% @List.mem_or_eq_of_mem_set := @List.mem_or_eq_of_mem_set
theorem xF : type_of% @List.length_take := @List.length_take
theorem xG : type_of% @List.getElem?_take := @List.getElem?_take
theorem xH : type_of% @Array.getElem?_setIfInBounds_ne := @Array.getElem?_setIfInBounds_ne
theorem xI : type_of% @List.getElem?_toArray := @List.getElem?_toArray
theorem xJ : type_of% @List.getElem?_range := @List.getElem?_range
theorem uK : type_of% @List.ext_getElem? := @List.ext_getElem?
theorem xL : type_of% @Int.toNat_natCast := @Int.toNat_natCast
theorem xM : type_of% @List.mem_of_mem_take := @List.mem_of_mem_take
theorem vM : type_of% @Bool.and_eq_true := @Bool.and_eq_true
theorem xO : type_of% @List.mem_cons_of_mem := @List.mem_cons_of_mem
theorem xP : type_of% @Nat.add_mul := @Nat.add_mul
theorem xQ : type_of% @Nat.one_mul := @Nat.one_mul
theorem xR : type_of% @List.getElem_mem := @List.getElem_mem
theorem xS : type_of% @Nat.mul_le_mul_right := @Nat.mul_le_mul_right
theorem xT : type_of% @Nat.mod_lt := @Nat.mod_lt
theorem xU : type_of% @List.flatMap_cons := @List.flatMap_cons
theorem xV : type_of% @List.length_map := @List.length_map
theorem xW : type_of% @List.all_eq_true := @List.all_eq_true
theorem vX : type_of% @List.mem_range := @List.mem_range
theorem xY : type_of% @List.mem_append := @List.mem_append
theorem xZ : type_of% @List.mem_cons := @List.mem_cons
theorem vA : type_of% @Rat.mul_nonneg := @Rat.mul_nonneg
theorem vB : type_of% @Rat.le_of_lt := @Rat.le_of_lt
theorem vC : type_of% @Rat.le_refl := @Rat.le_refl
theorem vD : type_of% @Nat.pow_succ := @Nat.pow_succ
theorem vE : type_of% @Nat.mul_comm := @Nat.mul_comm
end Go.Proofs.YthbmikapohlikaaGreatDoor
namespace Go.Proofs
open Go.Shelf
open Go.RowKit in
def Tryz.lays169_ren:Go.Shelf.Ren:=⟨fun|169=>110|n=>n,fun|70=>173|9=>9|0=>0|72=>176|37=>174|127=>241|3=>3|5=>5|n=>n,fun|n=>n⟩
theorem Tryz.lays169:Go.Proofs.Lays.n169 Tryz.prog Tryz.lays169_ren:={
 mixed:=by kernel_rfl
 f169:=Tryz.func110.trans (congrArg some (by kernel_rfl))
 t0:=Tryz.underlying0
 a0:=Tryz.isAgg0
 z0:=Tryz.sizeOf0
 v0:=Tryz.zeroValue0
 t3:=Tryz.underlying3
 a3:=Tryz.isAgg3
 z3:=Tryz.sizeOf3
 v3:=Tryz.zeroValue3
 t9:=Tryz.underlying9
 a9:=Tryz.isAgg9
 z9:=Tryz.sizeOf9
 v9:=Tryz.zeroValue9
 t37:=Tryz.underlying174
 a37:=Tryz.isAgg174
 z37:=Tryz.sizeOf174
 v37:=Tryz.zeroValue174
 t70:=Tryz.underlying173
 a70:=Tryz.isAgg173
 z70:=Tryz.sizeOf173
 v70:=Tryz.zeroValue173
 t72:=Tryz.underlying176
 a72:=Tryz.isAgg176
 z72:=Tryz.sizeOf176
 v72:=Tryz.zeroValue176
 t127:=Tryz.underlying241
 a127:=Tryz.isAgg241
 z127:=Tryz.sizeOf241
 v127:=Tryz.zeroValue241}
theorem Tryz.Builder_Extra_169:Builder.Extra Tryz.prog Tryz.lays169_ren:={
 sizeBuilder:=by kernel_rfl
 liesBuilder:=by kernel_rfl
 t5:=Tryz.underlying5
 a5:=Tryz.isAgg5
 z5:=Tryz.sizeOf5
 v5:=Tryz.zeroValue5
 infoByte:=by kernel_rfl
 cellsByte:=by kernel_rfl
 sizeByte:=by kernel_rfl
 neB5:=by decide}
open Go.RowKit in
open Go.RowKit in
open Go.RowKit in
theorem Tryz.Builder_String_any(B b:Nat)(l:List UInt8)(w:World)(h:Lib.IsBuilder 176 5 B b (Lib.byteCells l) w)(hBw:B<=w.heap.size):
 Calls Tryz.prog 110 #[.pointer (some ⟨b,0,none⟩)] w fun e w'=>e=.returned (.string ⟨l.toArray⟩)/\Below B w w':=Any.Builder_String_any Tryz.lays169 Tryz.Builder_Extra_169 B b l w h hBw
open Go.RowKit in
open Go.RowKit in
def Tryz.lays133_ren:Go.Shelf.Ren:=⟨fun|133=>194|128=>189|n=>n,fun|51=>167|3=>3|4=>4|46=>168|5=>5|9=>9|n=>n,fun|n=>n⟩
theorem Tryz.lays133:Go.Proofs.Lays.n133 Tryz.prog Tryz.lays133_ren:={
 mixed:=by kernel_rfl
 f128:=Tryz.func189.trans (congrArg some (by kernel_rfl))
 f133:=Tryz.func194.trans (congrArg some (by kernel_rfl))
 t3:=Tryz.underlying3
 a3:=Tryz.isAgg3
 z3:=Tryz.sizeOf3
 v3:=Tryz.zeroValue3
 t4:=Tryz.underlying4
 a4:=Tryz.isAgg4
 z4:=Tryz.sizeOf4
 v4:=Tryz.zeroValue4
 t5:=Tryz.underlying5
 a5:=Tryz.isAgg5
 z5:=Tryz.sizeOf5
 v5:=Tryz.zeroValue5
 t9:=Tryz.underlying9
 a9:=Tryz.isAgg9
 z9:=Tryz.sizeOf9
 v9:=Tryz.zeroValue9
 t46:=Tryz.underlying168
 a46:=Tryz.isAgg168
 z46:=Tryz.sizeOf168
 v46:=Tryz.zeroValue168
 t51:=Tryz.underlying167
 a51:=Tryz.isAgg167
 z51:=Tryz.sizeOf167
 v51:=Tryz.zeroValue167}
theorem Tryz.bits_LeadingZeros32(x:Int)(w:World)(h0:0<=x)(h1:x<=4294967295):
 Calls Tryz.prog 194 #[.int .u32 x] w fun e w'=>e=.returned (.int .i64 (32-(Lib.bitLen x.toNat:Int)))/\w'=w:=Any.bits_LeadingZeros32 Tryz.lays133 x w h0 h1
open Go.RowKit in
open Go.RowKit in
open Go.RowKit in
def Tryz.lays122_ren:Go.Shelf.Ren:=⟨fun|122=>165|215=>203|n=>n,fun|3=>3|4=>4|n=>n,fun|n=>n⟩
theorem Tryz.lays122:Go.Proofs.Lays.n122 Tryz.prog Tryz.lays122_ren:={
 mixed:=by kernel_rfl
 f122:=Tryz.func165.trans (congrArg some (by kernel_rfl))
 f215:=Tryz.func203.trans (congrArg some (by kernel_rfl))
 t3:=Tryz.underlying3
 a3:=Tryz.isAgg3
 z3:=Tryz.sizeOf3
 v3:=Tryz.zeroValue3
 t4:=Tryz.underlying4
 a4:=Tryz.isAgg4
 z4:=Tryz.sizeOf4
 v4:=Tryz.zeroValue4}
open Go.RowKit in
theorem Tryz.cmp_Compare_int(x y:Int)(w:World):
 Calls Tryz.prog 165 #[.int .i64 x,.int .i64 y] w fun e w'=>e=.returned (.int .i64 (Lib.compareInt x y))/\w'=w:=Any.cmp_Compare_int Tryz.lays122 x y w
open Go.RowKit in
open Go.RowKit in
open Go.RowKit in
open Go.RowKit in
open Go.Lib in
open Go.Lib in
open Go.Lib in
open Go.Lib in
open Go.RowKit Go.Sort Go.Lib in
open Go.RowKit Go.Sort Go.Lib in
open Go.RowKit Go.Sort Go.Lib in
open Go.RowKit Go.Sort Go.Lib in
open Go.RowKit Go.Sort Go.Lib in
def Tryz.laysM171_ren:Go.Shelf.Ren:=⟨fun|171=>108|243=>159|246=>199|283=>216|284=>217|285=>218|286=>219|129=>190|317=>223|318=>224|319=>225|320=>226|337=>231|338=>232|n=>n,fun|3=>3|9=>9|2=>2|4=>4|171=>299|0=>0|53=>166|37=>174|5=>5|173=>301|212=>309|51=>167|20=>20|213=>310|46=>168|232=>313|233=>314|n=>n,fun|17=>1|18=>3|19=>4|n=>n⟩
theorem Tryz.laysM171:Go.Proofs.LaysM.n171 Tryz.prog Tryz.laysM171_ren:={
 mixed:=by kernel_rfl
 f129:=Tryz.func190.trans (congrArg some (by kernel_rfl))
 f171:=Tryz.func108.trans (congrArg some (by kernel_rfl))
 f243:=Tryz.func159.trans (congrArg some (by kernel_rfl))
 f246:=Tryz.func199.trans (congrArg some (by kernel_rfl))
 f283:=Tryz.func216.trans (congrArg some (by kernel_rfl))
 f284:=Tryz.func217.trans (congrArg some (by kernel_rfl))
 f285:=Tryz.func218.trans (congrArg some (by kernel_rfl))
 f286:=Tryz.func219.trans (congrArg some (by kernel_rfl))
 f317:=Tryz.func223.trans (congrArg some (by kernel_rfl))
 f318:=Tryz.func224.trans (congrArg some (by kernel_rfl))
 f319:=Tryz.func225.trans (congrArg some (by kernel_rfl))
 f320:=Tryz.func226.trans (congrArg some (by kernel_rfl))
 f337:=Tryz.func231.trans (congrArg some (by kernel_rfl))
 f338:=Tryz.func232.trans (congrArg some (by kernel_rfl))
 t0:=Tryz.underlying0
 a0:=Tryz.isAgg0
 z0:=Tryz.sizeOf0
 v0:=Tryz.zeroValue0
 t2:=Tryz.underlying2
 a2:=Tryz.isAgg2
 z2:=Tryz.sizeOf2
 v2:=Tryz.zeroValue2
 t3:=Tryz.underlying3
 a3:=Tryz.isAgg3
 z3:=Tryz.sizeOf3
 v3:=Tryz.zeroValue3
 t4:=Tryz.underlying4
 a4:=Tryz.isAgg4
 z4:=Tryz.sizeOf4
 v4:=Tryz.zeroValue4
 t5:=Tryz.underlying5
 a5:=Tryz.isAgg5
 z5:=Tryz.sizeOf5
 v5:=Tryz.zeroValue5
 t9:=Tryz.underlying9
 a9:=Tryz.isAgg9
 z9:=Tryz.sizeOf9
 v9:=Tryz.zeroValue9
 t20:=Tryz.underlying20
 a20:=Tryz.isAgg20
 z20:=Tryz.sizeOf20
 v20:=Tryz.zeroValue20
 t37:=Tryz.underlying174
 a37:=Tryz.isAgg174
 z37:=Tryz.sizeOf174
 v37:=Tryz.zeroValue174
 t46:=Tryz.underlying168
 a46:=Tryz.isAgg168
 z46:=Tryz.sizeOf168
 v46:=Tryz.zeroValue168
 t51:=Tryz.underlying167
 a51:=Tryz.isAgg167
 z51:=Tryz.sizeOf167
 v51:=Tryz.zeroValue167
 t53:=Tryz.underlying166
 a53:=Tryz.isAgg166
 z53:=Tryz.sizeOf166
 v53:=Tryz.zeroValue166
 t171:=Tryz.underlying299
 a171:=Tryz.isAgg299
 z171:=Tryz.sizeOf299
 v171:=Tryz.zeroValue299
 t173:=Tryz.underlying301
 a173:=Tryz.isAgg301
 z173:=Tryz.sizeOf301
 v173:=Tryz.zeroValue301
 t212:=Tryz.underlying309
 a212:=Tryz.isAgg309
 z212:=Tryz.sizeOf309
 v212:=Tryz.zeroValue309
 t213:=Tryz.underlying310
 a213:=Tryz.isAgg310
 z213:=Tryz.sizeOf310
 t232:=Tryz.underlying313
 a232:=Tryz.isAgg313
 z232:=Tryz.sizeOf313
 v232:=Tryz.zeroValue313
 t233:=Tryz.underlying314
 a233:=Tryz.isAgg314
 z233:=Tryz.sizeOf314
 v233:=Tryz.zeroValue314
 g17:=by kernel_rfl
 g18:=by kernel_rfl
 g19:=by kernel_rfl
 i0:=by kernel_rfl
 i2:=by kernel_rfl
 i3:=by kernel_rfl
 i4:=by kernel_rfl
 i5:=by kernel_rfl
 i9:=by kernel_rfl
 i20:=by kernel_rfl
 i37:=by kernel_rfl
 i46:=by kernel_rfl
 i51:=by kernel_rfl
 i53:=by kernel_rfl
 i171:=by kernel_rfl
 i173:=by kernel_rfl
 i212:=by kernel_rfl
 i232:=by kernel_rfl
 i233:=by kernel_rfl
 m17:=by kernel_rfl
 m18:=by kernel_rfl
 m19:=by kernel_rfl}
open Go.RowKit Go.Sort Go.Lib in
theorem Tryz.strconv_Itoa(n:Int)(h0: -9223372036854775808<=n)(h1:n<=9223372036854775807)(w:World)(htab:Lib.TabIs Tryz.prog w "internal/strconv.uint64pow10" .u64 Lib.pow10Tab):
 Calls Tryz.prog 108 #[.int .i64 n] w fun e w'=>e=.returned (.string ⟨(Lib.itoa n).toArray⟩)/\∃k os,w'=grow (w.drewN k) os:=Any.strconv_Itoa Tryz.laysM171 n h0 h1 w htab
open Go.RowKit Go.Sort Go.Lib in
open Go.RowKit Go.Lib in
open Go.RowKit Go.Lib in
open Go.RowKit Go.Lib in
open Go.RowKit Go.Lib in
open Go.RowKit Go.Lib in
open Go.RowKit Go.Lib in
open Go.RowKit Go.Lib in
open Go.RowKit Go.Lib in
open Go.RowKit Go.Lib in
open Go.RowKit Go.Lib in
open Go.RowKit Go.Lib in
open Go.RowKit Go.Lib in
open Go.RowKit Go.Lib in
open Go.RowKit Go.Lib in
open Go.RowKit Go.Lib in
def Tryz.lays105_ren:Go.Shelf.Ren:=⟨fun|105=>129|212=>173|99=>174|165=>175|166=>107|170=>176|169=>110|263=>207|264=>208|206=>209|240=>158|241=>210|276=>198|277=>221|n=>n,fun|9=>9|3=>3|4=>4|20=>20|0=>0|46=>168|109=>255|5=>5|72=>176|76=>179|51=>167|146=>253|53=>166|148=>290|70=>173|37=>174|75=>178|127=>241|164=>283|80=>183|n=>n,fun|n=>n⟩
theorem Tryz.lays105:Go.Proofs.Lays.n105 Tryz.prog Tryz.lays105_ren:={
 mixed:=by kernel_rfl
 f99:=Tryz.func174.trans (congrArg some (by kernel_rfl))
 f105:=Tryz.func129.trans (congrArg some (by kernel_rfl))
 f165:=Tryz.func175.trans (congrArg some (by kernel_rfl))
 f166:=Tryz.func107.trans (congrArg some (by kernel_rfl))
 f169:=Tryz.func110.trans (congrArg some (by kernel_rfl))
 f170:=Tryz.func176.trans (congrArg some (by kernel_rfl))
 f206:=Tryz.func209.trans (congrArg some (by kernel_rfl))
 f212:=Tryz.func173.trans (congrArg some (by kernel_rfl))
 f240:=Tryz.func158.trans (congrArg some (by kernel_rfl))
 f241:=Tryz.func210.trans (congrArg some (by kernel_rfl))
 f263:=Tryz.func207.trans (congrArg some (by kernel_rfl))
 f264:=Tryz.func208.trans (congrArg some (by kernel_rfl))
 f276:=Tryz.func198.trans (congrArg some (by kernel_rfl))
 f277:=Tryz.func221.trans (congrArg some (by kernel_rfl))
 t0:=Tryz.underlying0
 a0:=Tryz.isAgg0
 z0:=Tryz.sizeOf0
 v0:=Tryz.zeroValue0
 t3:=Tryz.underlying3
 a3:=Tryz.isAgg3
 z3:=Tryz.sizeOf3
 v3:=Tryz.zeroValue3
 t4:=Tryz.underlying4
 a4:=Tryz.isAgg4
 z4:=Tryz.sizeOf4
 v4:=Tryz.zeroValue4
 t5:=Tryz.underlying5
 a5:=Tryz.isAgg5
 z5:=Tryz.sizeOf5
 v5:=Tryz.zeroValue5
 t9:=Tryz.underlying9
 a9:=Tryz.isAgg9
 z9:=Tryz.sizeOf9
 v9:=Tryz.zeroValue9
 t20:=Tryz.underlying20
 a20:=Tryz.isAgg20
 z20:=Tryz.sizeOf20
 v20:=Tryz.zeroValue20
 t37:=Tryz.underlying174
 a37:=Tryz.isAgg174
 z37:=Tryz.sizeOf174
 v37:=Tryz.zeroValue174
 t46:=Tryz.underlying168
 a46:=Tryz.isAgg168
 z46:=Tryz.sizeOf168
 v46:=Tryz.zeroValue168
 t51:=Tryz.underlying167
 a51:=Tryz.isAgg167
 z51:=Tryz.sizeOf167
 v51:=Tryz.zeroValue167
 t53:=Tryz.underlying166
 a53:=Tryz.isAgg166
 z53:=Tryz.sizeOf166
 v53:=Tryz.zeroValue166
 t70:=Tryz.underlying173
 a70:=Tryz.isAgg173
 z70:=Tryz.sizeOf173
 v70:=Tryz.zeroValue173
 t72:=Tryz.underlying176
 a72:=Tryz.isAgg176
 z72:=Tryz.sizeOf176
 v72:=Tryz.zeroValue176
 t75:=Tryz.underlying178
 a75:=Tryz.isAgg178
 z75:=Tryz.sizeOf178
 v75:=Tryz.zeroValue178
 t76:=Tryz.underlying179
 a76:=Tryz.isAgg179
 z76:=Tryz.sizeOf179
 v76:=Tryz.zeroValue179
 t109:=Tryz.underlying255
 a109:=Tryz.isAgg255
 z109:=Tryz.sizeOf255
 v109:=Tryz.zeroValue255
 t127:=Tryz.underlying241
 a127:=Tryz.isAgg241
 z127:=Tryz.sizeOf241
 v127:=Tryz.zeroValue241
 t146:=Tryz.underlying253
 a146:=Tryz.isAgg253
 z146:=Tryz.sizeOf253
 v146:=Tryz.zeroValue253
 t148:=Tryz.underlying290
 a148:=Tryz.isAgg290
 z148:=Tryz.sizeOf290
 v148:=Tryz.zeroValue290
 t164:=Tryz.underlying283
 a164:=Tryz.isAgg283
 z164:=Tryz.sizeOf283
 v164:=Tryz.zeroValue283}
theorem Tryz.Builder_Extra_105:Builder.Extra Tryz.prog Tryz.lays105_ren:={
 sizeBuilder:=by kernel_rfl
 liesBuilder:=by kernel_rfl
 t5:=Tryz.underlying5
 a5:=Tryz.isAgg5
 z5:=Tryz.sizeOf5
 v5:=Tryz.zeroValue5
 infoByte:=by kernel_rfl
 cellsByte:=by kernel_rfl
 sizeByte:=by kernel_rfl
 neB5:=by decide}
open Go.RowKit Go.Lib in
open Go.RowKit Go.Lib in
open Go.RowKit Go.Lib in
open Go.RowKit Go.Lib in
open Go.RowKit Go.Lib in
open Go.RowKit Go.Lib in
open Go.RowKit Go.Lib in
theorem Tryz.strings_Repeat(s:ByteArray)(c:Nat)(w:World)(hc:c<=9223372036854775807)(hlen:s.size*c<=140737488355328):
 Calls Tryz.prog 129 #[.string s,.int .i64 c] w fun e w'=>e=.returned (.string ⟨(Lib.repeatL s.data.toList c).toArray⟩)/\Below w.heap.size w w':=Any.strings_Repeat Tryz.lays105 Tryz.Builder_Extra_105 s c w hc hlen
def Tryz.laysNm215_ren:Go.Shelf.Ren:=⟨fun|15=>118|n=>n,fun|22=>44|3=>3|4=>4|n=>n,fun|n=>n⟩
theorem Tryz.laysNm215:Go.Proofs.Lays2.n15 Tryz.prog Tryz.laysNm215_ren:={
 mixed:=by kernel_rfl
 f15:=Tryz.func118.trans (congrArg some (by kernel_rfl))
 t3:=Tryz.underlying3
 a3:=Tryz.isAgg3
 z3:=Tryz.sizeOf3
 v3:=Tryz.zeroValue3
 t4:=Tryz.underlying4
 a4:=Tryz.isAgg4
 z4:=Tryz.sizeOf4
 v4:=Tryz.zeroValue4
 t22:=Tryz.underlying44
 a22:=Tryz.isAgg44
 z22:=Tryz.sizeOf44
 v22:=Tryz.zeroValue44
 i3:=by kernel_rfl}
open Go.RowKit Go.Lib in
open Go.RowKit Go.Lib in
open Go.RowKit Go.Lib in
theorem Tryz.slices_Clone_int_zero(a:Addr)(c:Nat)(w:World):
 Calls Tryz.prog 118 #[.slice (some a) 0 c] w fun e w'=>∃v',e=.returned v'/\w'.ownsRow w.heap.size 3 1 v' 0 []/\v'≠.slice none 0 0/\Below w.heap.size w w':=Any.slices_Clone_int_zero Tryz.laysNm215 a c w
def Tryz.laysSlE041_f118_ren:Go.Shelf.Ren:=⟨fun|41=>118|n=>n,fun|22=>44|23=>3|4=>4|n=>n,fun|n=>n⟩
theorem Tryz.laysSlE041_f118:Go.Proofs.SlLaysE0.n41 Tryz.prog Tryz.laysSlE041_f118_ren:={
 mixed:=by kernel_rfl
 f41:=⟨Tryz.f118.name,by decide,Tryz.func118.trans (congrArg some (by kernel_rfl))⟩
 t4:=Tryz.underlying4
 a4:=Tryz.isAgg4
 z4:=Tryz.sizeOf4
 v4:=Tryz.zeroValue4
 t22:=Tryz.underlying44
 a22:=Tryz.isAgg44
 z22:=Tryz.sizeOf44
 v22:=Tryz.zeroValue44}
open Go.RowKit Go.Lib in
theorem Tryz.slices_Clone(i0:TypeInfo)(z:Value)(size bytes:Nat)(hi:Tryz.prog.info? 3=some i0)(hz0:i0.zero=some z)(hz1:i0.size=size)(hz2:i0.bytes=bytes)(hzs:z.cells.size=size)(hsz:0<size)(z23:∀w,(Go.sizeOf 3).run Tryz.prog w=.ok size w)(b off n c:Nat)(news:List Value)(w:World)(hl:news.length=n*size)(hn:n<=maxLen)(hbig:n*bytes<=140737488355328)(hc:∀j u,news[j]?=some u->w.cell? ⟨b,off+j,none⟩=some u)(h1:∀u∈news,u.oneCell'=true):
 Calls Tryz.prog 118 #[.slice (some ⟨b,off,none⟩) n c] w fun e w'=>∃v',e=.returned v'/\w'.ownsRow w.heap.size 3 size v' n news/\v'≠.slice none 0 0/\Below w.heap.size w w':=AnyE.slices_Clone Tryz.laysSlE041_f118 i0 z size bytes hi hz0 hz1 hz2 hzs hsz z23 b off n c news w hl hn hbig hc h1
open Go.RowKit Go.Lib in
theorem Tryz.slices_Clone_nil(n c:Nat)(w:World):
 Calls Tryz.prog 118 #[.slice none n c] w fun e w'=>e=.returned (.slice none 0 0)/\w'=w:=AnyE.slices_Clone_nil Tryz.laysSlE041_f118 n c w
end Go.Proofs
