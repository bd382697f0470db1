/- Part 6 of 24 of what the Flows claims share (the white space is struck, the texts are joined). -/
import Derived.Lib.ItoaNum
import Derived.Lib.Builder
import Derived.Lib.AppendStr
import Derived.Lib.Repeat
import Derived.Lib.SmallJoins
import Derived.Test.YthbmikapohlikaaGreatDoorRows
import Derived.ProofKit
import Derived.LaidMore
import Derived.OpenShut
import Derived.Stop.Joined
import Derived.Carry
import Derived.Lib.LaidTab
import Derived.Stop.LaidErr
import Derived.OrdersHeld
import Derived.Below
import Derived.Laws.IdiomStrings
import Derived.Test.YthbmikapohlikaaGreatDoorZ05
set_option linter.unusedVariables false
set_option linter.unusedSimpArgs false
set_option maxRecDepth 100000
set_option maxHeartbeats 8000000
namespace Go.Proofs.YthbmikapohlikaaGreatDoor.Dig
open Go.Lib
def fixD:Nat->Nat->List UInt8
 |0,_=>[]
 |k+1,r=>fixD k (r/10)++[UInt8.ofNat (48+r%10)]
theorem jzhb(q:Nat)(hq:0<q):∀(k r:Nat),r<10^k->decDigits (q*10^k+r)=decDigits q++fixD k r
 |0,r,h=>by simp at h;subst h;simp [fixD]
 |k+1,r,h=>by
  have hp:1<=10^k:=Nat.one_le_pow _ _ (by decide);have e:q*10^(k+1)=q*10^k*10:=(by rw [vD,Nat.mul_assoc]);have h1:1<=q*10^k:=Nat.mul_pos hq (by omega);rw [vD]at h;rw [e,decDigits,dif_neg (by omega),fixD,show(q*10^k*10+r)/10=q*10^k+r/10 by omega,jzhb q hq k (r/10) (by omega),List.append_assoc,show(q*10^k*10+r)%10=r%10 by omega]
theorem jzhc:∀k,fixD k 0=List.replicate k 48
 |0=>rfl
 |k+1=>by
  rw [fixD,Nat.zero_div,jzhc k,List.replicate_succ'];rfl
theorem fixD_pad:∀(k r:Nat),r<10^(k+1)->fixD (k+1) r=List.replicate (k+1-(decDigits r).length) 48++decDigits r
 |k,r,h=>by
  by_cases h1:r<10
  ·rw [fixD,Nat.div_eq_of_lt h1,jzhc,decDigits_one h1,Nat.mod_eq_of_lt h1]
   simp
  ·cases k with
   |zero=>simp at h;omega
   |succ k=>
    have ih:=fixD_pad k (r/10) (by rw [vD]at h;omega);rw [fixD,ih,decDigits.eq_1 r,dif_neg h1,List.append_assoc]
    congr 2
    simp
theorem dec_nine(N:Nat)(h:1000000000<=N):decDigits N=decDigits (N/1000000000)++(List.replicate (9-(decDigits (N%1000000000)).length) 48++decDigits (N%1000000000)):=by
 have h1:=jzhb (N/1000000000) (by omega) 9 (N%1000000000) (by simp;omega);have h2:=fixD_pad 8 (N%1000000000) (by simp;omega);rw [h2]at h1;rw [<-h1]
 congr 1
 omega
theorem dec_len_nine(r:Nat)(h:r<1000000000):(decDigits r).length<=9/\1<=(decDigits r).length:=by
 rw [decDigits_length];refine⟨?_,nDigits_pos r⟩;have h1:=fixD_pad 8 r (by simp;omega);have h2:∀k r,(fixD k r).length=k:=fun k=>by
  induction k with
  |zero=>intro r;rfl
  |succ k ih=>intro r;rw [fixD,yQ,ih];rfl
 have h3:=congrArg List.length h1;rw [h2,yQ,xC,decDigits_length]at h3;omega
end Go.Proofs.YthbmikapohlikaaGreatDoor.Dig
namespace Go.Proofs.YthbmikapohlikaaGreatDoor
open Go.RowKit Go.Lib
theorem bldSize:(Tryz.prog.info? 176).map (·.size)=some 2:=by kernel_rfl
theorem bldLies:liesAt Tryz.prog Tryz.prog.depth 176 (2/Tryz.prog.cellsOf 176) 0 176 1=true:=by kernel_rfl
theorem byteInfo:(Tryz.prog.info? 5).map (fun i=>(i.zero,i.size,i.bytes))=some (some (.int .u8 0),1,1):=by kernel_rfl
theorem jzfr(b:Nat)(w:World)(h0:w.cell? ⟨b,0,none⟩=some (.pointer (some ⟨b,0,none⟩))):
  Calls Tryz.prog 158 #[.pointer (some ⟨b,0,none⟩)] w fun e w'=>e=.returned (.tuple #[])/\w'=w:=by
 obtain⟨j,hj,_⟩:=Option.map_eq_some_iff.1 bldSize
 go_enter Tryz.func158,Tryz.ntmps158
 go_wp2;rw [Lib.run_neq_ptr_same w _ Tryz.underlying173 hj];go_wp2
 go_end0
 exact⟨rfl,rfl⟩
theorem jzeq(b:Nat)(w:World)(h0:w.cell? ⟨b,0,none⟩=some (.pointer none))(hsh:w.shape? b=some (176,2))(hfz:w.frozen? ⟨b,0,none⟩=false):
  Calls Tryz.prog 158 #[.pointer (some ⟨b,0,none⟩)] w fun e w'=>e=.returned (.tuple #[])/\w'=w.setCell ⟨b,0,none⟩ (.pointer (some ⟨b,0,none⟩)):=by
 obtain⟨j,hj,qa⟩:=Option.map_eq_some_iff.1 bldSize
 go_enter Tryz.func158,Tryz.ntmps158
 go_wp2;rw [Lib.run_to_unsafe w ⟨b,0,none⟩ Tryz.underlying173 Tryz.underlying283 hj (by rw [qa];decide) hsh (Nat.zero_lt_succ 1)];simp only [Result.andThen];rw [Oper.upon_value];go_wp2;rw [run_callFunc_extern Tryz.func198 (by kernel_rfl) (by kernel_rfl) (by kernel_rfl) (e:=Extern.AbiNoEscape.same) (by kernel_rfl)];rw [Lib.run_noEscape];simp only [Result.andThen];rw [Oper.upon_value];go_wp2;rw [Lib.run_from_unsafe w ⟨b,0,none⟩ Tryz.underlying283 Tryz.underlying173 hj hsh bldLies];simp only [Result.andThen];rw [Oper.upon_value];go_wp2
 go_end0
 exact⟨rfl,rfl⟩
theorem bldCheck(B b:Nat)(bs:List Value)(w:World)(h:Lib.IsBuilder 176 5 B b bs w):
  Calls Tryz.prog 158 #[.pointer (some ⟨b,0,none⟩)] w fun e w'=>e=.returned (.tuple #[])/\(Lib.BuilderAt 176 5 B b (.pointer (some ⟨b,0,none⟩)) bs w'/\Below B w w'):=by
 rcases h with h|h
 ·refine(jzeq b w h.cell0 h.shape h.frozen0).mono ?_
  rintro e w' ⟨rfl,rfl⟩;exact⟨rfl,h.used _,(Below.refl B w).setCell (p:=⟨b,0,none⟩) h.1 _⟩
 ·refine(jzfr b w h.cell0).mono ?_
  rintro e w' ⟨rfl,rfl⟩;exact⟨rfl,h,Below.refl B _⟩
theorem bldWrite(B b:Nat)(bs:List Value)(s:ByteArray)(w:World)(h:Lib.IsBuilder 176 5 B b bs w)(hlen:bs.length+s.size<=140737488355328)(hBw:B<=w.heap.size):
  Calls Tryz.prog 107 #[.pointer (some ⟨b,0,none⟩),.string s] w fun e w'=>e=.returned (.tuple #[.int .i64 s.size,.nilIface])/\(Lib.BuilderAt 176 5 B b (.pointer (some ⟨b,0,none⟩)) (bs++Lib.strCells s) w'/\Below B w w'):=by
 obtain⟨i0,hi,qn,qm,qj⟩:=info_parts byteInfo
 go_enter Tryz.func107,Tryz.ntmps107
 go_wp2_with fail
 refine(bldCheck B b bs _ h).mono ?_;rintro e w1 ⟨rfl,h1,qi⟩;obtain⟨hB,v,qg,qf,qo⟩:=h1;have c0:w1.cell? ⟨b,0,none⟩=some (.pointer (some ⟨b,0,none⟩)):=(by rw [Lib.cell_of_heap qg];rfl);have c1:w1.cell? ⟨b,1,none⟩=some v:=by rw [Lib.cell_of_heap qg];rfl
 go_wp2_with (at_builtin;refine Lib.wpList_append_own_string _ rfl _ _ 174 9 rfl B 5 i0 Tryz.underlying174 Tryz.underlying9 hi qn qm qj _ _ _ rfl qf s rfl ?c3 ?c4 ?c5 ?_)
 case c3=>unfold maxLen;omega
 case c4=>omega
 case c5=>have:=qi.size;omega
 intro v' w2 qe qa _;have qk:b<w1.heap.size:=by
  rcases Nat.lt_or_ge b w1.heap.size with h'|h'
  ·exact h'
  ·simp [Array.getElem?_eq_none h']at qg
 have qh:w2.heap[b]?=some (.cells #[.pointer (some ⟨b,0,none⟩),v] 176 (0,0)):=by
  rw [qa.block b qk (fun e=>qo e.symm)];exact qg
 have d0:w2.cell? ⟨b,0,none⟩=some (.pointer (some ⟨b,0,none⟩)):=(by rw [Lib.cell_of_heap qh];rfl);have d1:w2.cell? ⟨b,1,none⟩=some v:=(by rw [Lib.cell_of_heap qh];rfl);have f1:w2.frozen? ⟨b,1,none⟩=false:=Lib.frozen_of_heap qh 1;obtain⟨ao,n',cap,rfl⟩:∃ao n' cap,v'=.slice ao n' cap:=by
  rcases qe.2 with⟨hv,_⟩|⟨g,cap,cur,hv,_⟩
  ·exact⟨_,_,_,hv⟩
  ·exact⟨_,_,_,hv⟩
 go_wp2
 go_ret2
 refine⟨rfl,?_,?_⟩
 ·exact Lib.BuilderAt.put (T:=176) (e:=5) hB qh (bs':=bs++Lib.strCells s) (by simpa [Lib.strCells_length]using qe) (by decide)
 ·exact(qi.grown qa (by have:=qi.size;omega) (fun k hk=>(qf.lt k hk).1)).setCell (p:=⟨b,1,none⟩) hB _
end Go.Proofs.YthbmikapohlikaaGreatDoor
namespace Go.Proofs.YthbmikapohlikaaGreatDoor
open Go.RowKit Go.Sort
theorem Tryz.info9:(Tryz.prog.info? 9).map (fun i=>(i.zero,i.size,i.bytes))=some (some (.string ⟨#[]⟩),1,16):=by kernel_rfl
def strs(l:List (List UInt8)):List Value:=l.map fun s=>Value.string ⟨s.toArray⟩
theorem strs_snoc(l:List (List UInt8))(s:List UInt8):strs (l++[s])=strs l++[.string ⟨s.toArray⟩]:=by simp [strs]
theorem strs_get(l:List (List UInt8))(i:Nat)(h:i<l.length):(strs l)[i]?=some (.string ⟨(l[i]?.getD []).toArray⟩):=by simp [strs,h]
def Tab(w:World):Prop:=Lib.TabIs Tryz.prog w "internal/strconv.uint64pow10" .u64 Lib.pow10Tab
theorem jzj7:∃g,Tryz.prog.globalNamed "internal/strconv.uint64pow10" =some g:=by
 have h:(Tryz.prog.globalNamed "internal/strconv.uint64pow10").isSome=true:=(by kernel_rfl);exact Option.isSome_iff_exists.1 h
theorem Tab.keep{w w':World}(h:Tab w)(hx:Ext w w'):Tab w':=by
 obtain⟨g,hg⟩:=jzj7;exact Joins.tab_stays hg h hx (yX _)
theorem jzj8(w:World)(k:Nat)(os:Array Obj):Ext w (grow (w.drewN k) os):=
 ⟨rfl,rfl,rfl,by simp [grow],fun i hi=>by
  show((w.drewN k).heap++os)[i]?=_;rw [Array.getElem?_append_left (by show i<w.heap.size;omega)];rfl⟩
theorem itoa_ok(r:Nat)(w:World)(ht:Tab w)(hr:r<1000000000):
  Calls Tryz.prog 108 #[.int .i64 r] w fun e w'=>e=.returned (.string ⟨(Lib.decDigits r).toArray⟩)/\Ext w w':=by
 refine(Tryz.strconv_Itoa r (by omega) (by omega) w ht).mono ?_;rintro e w' ⟨rfl,k,os,rfl⟩;refine⟨?_,jzj8 _ _ _⟩;unfold Lib.itoa;rw [if_neg (by omega),xL]
theorem repeat_ok(k:Nat)(w:World)(hk:k<=9):
  Calls Tryz.prog 129 #[.string ⟨#[48]⟩,.int .i64 k] w fun e w'=>e=.returned (.string ⟨(List.replicate k (48:UInt8)).toArray⟩)/\Ext w w':=by
 refine(Tryz.strings_Repeat ⟨#[48]⟩ k w (by omega) (by show 1*k<=_;omega)).mono ?_;rintro e w' ⟨rfl,hb⟩;refine⟨?_,hb⟩;have:=Lib.repeatL_replicate 48 1 k;rw [Nat.mul_one]at this;rw [<-this];rfl
def textSt(N M:Nat)(ps:List (List UInt8)):Prop:=Lib.decDigits N=(if M=0 then []else Lib.decDigits M)++ps.reverse.flatten
theorem text_last{N M:Nat}{ps:List (List UInt8)}(h:textSt N M ps)(hM:0<M)(hl:M/1000000000=0):textSt N 0 (ps++[Lib.decDigits (M%1000000000)]):=by
 unfold textSt at*;rw [h,if_neg (by omega),if_pos rfl,List.reverse_append];rw [Nat.mod_eq_of_lt (by omega)];simp
theorem text_more{N M:Nat}{ps:List (List UInt8)}(h:textSt N M ps)(hl:0<M/1000000000):
  textSt N (M/1000000000) (ps++[List.replicate (9-(Lib.decDigits (M%1000000000)).length) 48++Lib.decDigits (M%1000000000)]):=by
 unfold textSt at*;rw [h,if_neg (by omega),if_neg (by omega),Dig.dec_nine M (by omega),List.reverse_append];simp
theorem str_app(a b:Array UInt8):((⟨a⟩:ByteArray)++⟨b⟩)=⟨a++b⟩:=ByteArray.ext (by simp [ByteArray.data_append])
def partP(M:Nat):List UInt8:=if M/1000000000=0 then Lib.decDigits (M%1000000000)else List.replicate (9-(Lib.decDigits (M%1000000000)).length) 48++Lib.decDigits (M%1000000000)
theorem partP_len(M:Nat):(partP M).length<=9:=by
 have:=Dig.dec_len_nine (M%1000000000) (xT _ (by decide));unfold partP
 split
 ·omega
 ·simp only [yQ,xC];omega
theorem jzj9{N M:Nat}{ps:List (List UInt8)}(h:textSt N M ps)(hM:0<M):textSt N (M/1000000000) (ps++[partP M]):=by
 unfold partP
 split
 ·rename_i e;rw [e];exact text_last h hM e
 ·exact text_more h (by omega)
theorem jzip(l:List (List UInt8))(h:∀p∈l,p.length<=9):l.flatten.length<=9*l.length:=by
 induction l with
 |nil=>simp
 |cons a l ih=>
  have h1:=h a (by simp);have h2:=ih (fun p hp=>h p (by simp [hp]));simp only [List.flatten_cons,yQ,List.length_cons];omega
structure TextSt(w wr:World)(N K k M:Nat)(ps:List (List UInt8))(v:Value)(A:Option Addr)(n c:Nat):Prop where
 lt:M<10^(9*k)
 cnt:ps.length+k<=K
 txt:textSt N M ps
 own:wr.ownsRow (w.heap.size+1) 9 1 v ps.length (strs ps)
 len:∀p∈ps,p.length<=9
 blk:Blk wr w.heap.size 33 #[.slice A n c]
 num:NatR wr A n c M
 nle:n<=1048576
 ext:Ext w wr
theorem jzcq(A:Option Addr)(n c N:Nat)(w:World)(h:NatR w A n c N)(hn:n<=1048576)(ht:Tab w):
  Calls Tryz.prog 75 #[.agg #[.slice A n c]] w fun e w'=>e=.returned (.string ⟨(Lib.decDigits N).toArray⟩)/\Ext w w':=by
 obtain⟨hb,e0⟩:=boxes1 w #[.slice A n c] 33;have hz:=h.eq_zero;by_cases hN:N=0
 ·have zb:((n:Int)==0)=true:=by have:=hz.2 hN;subst this;rfl
  subst hN;have cb:=hb.one.1;clear hz h ht
  go_enter Tryz.func75,Tryz.ntmps75
  go_wp2_with fail
  refine(jzi A n c _).mono ?_;rintro e w1 ⟨rfl,qk⟩;have HX:=Hx (e0.tr qk);clear qk e0 hb cb;go_wp2;go_ret;exact⟨by rw [Lib.decDigits_one (by decide)];rfl,HX.out⟩
 ·have zb:((n:Int)==0)=false:=yK.2 (by omega)
  have hK:N<10^(9*(2*n)):=by
   obtain⟨ds,hl,_,qB,hv,_⟩:=h;have h1:=Dig.val_lt jzm qB.lt;rw [hv,hl]at h1;refine yL h1 ?_;rw [show 9*(2*n)=18*n by omega,Nat.pow_mul];exact Nat.pow_le_pow_left (by decide) _
  have cb:=hb.one.1;have H:=Hx h;have HT:=Hx ht;have HK:=Hx hK;have va:2*n<=2097152:=(by omega);obtain⟨ti,hi,qT,qR,qU⟩:=info_parts Tryz.info9;clear h ht hz hN hK
  go_enter Tryz.func75,Tryz.ntmps75
  go_wp2_with fail
  refine(jzi A n c _).mono ?_;rintro e w1 ⟨rfl,qk⟩;have HX:=Hx (e0.tr qk);have HB:=Hx (hb.keep qk);clear qk e0 hb cb;go_wp2;generalize hKK:2*n=K at*;have S0:=Hx (show TextSt w w1 N K K N [] (.slice none 0 0) A n c from⟨HK.out,by simp,by
   unfold textSt;have:=H.out.eq_zero;rw [if_neg (by intro e;rw [this.2 e]at zb;cases zb)];simp,World.ownsRow_nil _ _ _ _,fun p hp=>by simp at hp,HB.out,H.out.keep HX.out,hn,HX.out⟩)
  clear hKK HK HB H hn zb
  go_loopg [3,4,5] K (fun k v _ _ wr=>∃(j M:Nat) (ps:List (List UInt8)) (A:Option Addr) (n c:Nat),j=k/\TextSt w wr N K j M ps v A n c)
  case atStart=>exact⟨K,N,[],A,n,c,rfl,S0.out⟩
  case round=>
   clear S0;obtain⟨k,M,ps,A,n,c,rfl,qy⟩:=hrel;have ca:=qy.blk.one.1;have hz:=qy.num.eq_zero;have ST:=Hx qy;clear qy;by_cases hM:M=0
   ·have zb:((n:Int)==0)=true:=by have:=hz.2 hM;subst this;rfl
    clear hz
    go_wp2_with fail
    refine(jzi A n c _).mono ?_;rintro e w2 ⟨rfl,qm⟩;have qC:=Hx qm;clear qm ca;subst hM;have qe:=ST.out.txt;unfold textSt at qe;rw [if_pos rfl,List.nil_append]at qe;have qQ:=Hx qe;have O2:=Hx (ST.out.own.kept (jzn qC.out) (jzr _));have E2:=Hx (ST.out.ext.tr qC.out);have qO:ps.length<=2097152:=(by have:=ST.out.cnt;omega);have qJ:=Hx ST.out.len;obtain⟨AV,cv,rfl⟩:=own_form' O2.out;clear qe ST qC;go_wp2;clear zb
    go_loopw [7,36] (fun _ it wr=>∃i:Nat,i<=ps.length/\it=.int .i64 i/\Lib.IsBuilder 176 5 w2.heap.size w2.heap.size (Lib.byteCells ((ps.reverse.take i).flatten)) wr/\Below w2.heap.size w2 wr) (fun _ i _=>ps.length-(intOf i).toNat)
    case atStart=>
     refine⟨0,yZ _,rfl,.inl ⟨yX _,.slice none 0 0,heap_alloc_new w2 _,World.ownsRow_nil _ _ _ _,by simp [Value.ownBlock]⟩,(Ext.refl w2).alloc _⟩
    case round=>
     obtain⟨i,hi,rfl,qM,qF⟩:=hrel;have BD:=Hx qM;have BL:=Hx qF;clear qM qF;by_cases qZ:i<ps.length
     ·obtain⟨m,hm⟩:∃m,ps.length=m+1+i:=⟨ps.length-1-i,by omega⟩
      have qA:m<ps.length:=(by omega);obtain⟨g,rfl,qV,qg⟩:∃g,AV=some ⟨g,0,none⟩/\g<w2.heap.size/\w2.cell? ⟨g,m,none⟩=some (.string ⟨(ps[m]?.getD []).toArray⟩):=by
       rcases O2.out.2 with⟨_,e⟩|⟨g,cap,cur,e,_⟩
       ·omega
       ·injection e with e1 e2 e3
        subst e1 e3;exact⟨g,rfl,(O2.out.lt g rfl).2,(O2.out.cellAt m (by omega)).trans (strs_get ps m qA)⟩
      have vc:=(BL.out.cell (p:=⟨g,m,none⟩) qV).trans qg;have hx:((ps.length:Int)-1-(i:Int))=(m:Int):=(by omega);have qS:(m:Int)<(ps.length:Int):=(by omega);have qt:ps.reverse[i]?=some (ps[m]?.getD []):=by
       rw [List.getElem?_reverse (by omega),show ps.length-1-i=m by omega,yG qA];rfl
      have q0:(ps[m]?.getD []).length<=9:=by
       rw [yG qA];exact qJ.out _ (xR _)
      have qD:=Hx (show Lib.byteCells ((ps.reverse.take (i+1)).flatten)=Lib.byteCells ((ps.reverse.take i).flatten)++Lib.strCells ⟨(ps[m]?.getD []).toArray⟩ by
       rw [List.take_add_one,qt,List.flatten_append,Lib.byteCells_append];simp;rfl)
      have qY:((ps.reverse.take i).flatten).length<=9*ps.length:=by
       have:=jzip (ps.reverse.take i) (fun p hp=>qJ.out p (List.mem_reverse.1 (xM hp)));simp only [xF,List.length_reverse]at this;omega
      generalize ps[m]?.getD []=pm at*;have HM:=Hx hm;clear hm qg qt
      go_wp2_with fail
      refine(bldWrite w2.heap.size w2.heap.size _ ⟨pm.toArray⟩ _ BD.out (by rw [Lib.byteCells_length];show _+pm.toArray.size<=_;rw [show pm.toArray.size=pm.length by simp];omega) BL.out.size).mono ?_;rintro e w9 ⟨rfl,qH,qn⟩;have B9:=Hx qH;have L9:=Hx (BL.out.trans qn);clear qH qn hx;go_wp2
      go_roundw
      case rel=>exact⟨i+1,by omega,by go_num,.inr (by rw [qD.out];exact B9.out),L9.out⟩
      case measure=>simp [intOf];omega
     ·have qX:i=ps.length:=by omega
      subst qX
      go_wp2_with fail
      refine(Tryz.Builder_String_any w2.heap.size w2.heap.size _ _ BD.out BL.out.size).mono ?_;rintro e w9 ⟨rfl,qn⟩;have HE:=Hx (E2.out.tr (BL.out.trans qn));clear qn;go_wp2;go_ret;refine⟨?_,HE.out⟩;rw [qQ.out,yU (by simp)];rfl
   ·have zb:((n:Int)==0)=false:=yK.2 (by omega)
    clear hz
    go_wp2_with fail
    refine(jzi A n c _).mono ?_;rintro e w2 ⟨rfl,qm⟩;have ca:=(ST.out.blk.keep qm).one.1;have X2:=Hx qm;clear qm
    go_wp2_with fail
    refine(jzaz A n c M 1000000000 _ (ST.out.num.keep X2.out) (by have:=ST.out.nle;omega) (by decide) (by decide)).mono ?_;rintro e w3 ⟨A3,n3,c3,rfl,qw,qL⟩;have X3:=Hx (X2.out.tr qL);have R3:=Hx qw;have B3:=Hx (ST.out.blk.keep X3.out);obtain⟨ca,fa⟩:=B3.out.one;have qN:M%1000000000<1000000000:=xT _ (by decide);have q8:n3<=n:=NatR.len_le qw ST.out.num (Nat.div_le_self _ _);have qE:=qw.eq_zero;clear qL qw X2;have X4:=Hx (show Ext w (w3.setCell ⟨w.heap.size,0,none⟩ (.slice A3 n3 c3))from Ext.set_ (ST.out.ext.tr X3.out) (p:=⟨w.heap.size,0,none⟩) (yX _) _);have q6:=Hx (show M%1000000000=M%1000000000 from rfl);generalize hrm:M%1000000000=r at*;have HR:=Hx hrm;clear hrm
    go_wp2_with fail
    refine(itoa_ok r _ (HT.out.keep X4.out) qN).mono ?_;rintro e w5 ⟨rfl,qp⟩;have X5:=Hx (X4.out.tr qp);have B5:=Hx ((B3.out.set_ 0 (.slice A3 n3 c3)).keep qp);have R5:=Hx ((R3.out.set_ (p:=⟨w.heap.size,0,none⟩) B3.out (by decide) (.slice A3 n3 c3)).keep qp);have g4:w3.grownBy (w3.setCell ⟨w.heap.size,0,none⟩ (.slice A3 n3 c3)) (some w.heap.size):=jze w3 w.heap.size 0 _;have O5:=Hx (((ST.out.own.kept (jzn X3.out) (jzr _)).kept g4 (own_ne (ST.out.own.kept (jzn X3.out) (jzr _)) (by omega))).kept (jzn qp) (jzr _));have ca:=B5.out.one.1;clear qp g4 X4 X3 B3 R3 fa;have vd:=Dig.dec_len_nine r qN;generalize hdr:Lib.decDigits r=dr at*;have qW:=Hx hdr;clear hdr
    go_wp2_with fail
    refine(jzi A3 n3 c3 _).mono ?_;rintro e w6 ⟨rfl,qo⟩;have X6:=Hx (X5.out.tr qo);have B6:=Hx (B5.out.keep qo);have R6:=Hx (R5.out.keep qo);have O6:=Hx (O5.out.kept (jzn qo) (jzr _));clear qo X5 B5 R5 O5 ca;have PP:=Hx (show partP M=if M/1000000000=0 then dr else List.replicate (9-dr.length) 48++dr by unfold partP;rw [HR.out,qW.out]);have qK:((n3:Int)==0)=decide (M/1000000000=0):=by
     by_cases hq:M/1000000000=0
     ·have:=qE.2 hq
      subst this;rw [yO hq];rfl
     ·rw [yP hq];exact yK.2 (by omega)
    rw [qK];have qP:=Hx (show decide (M/1000000000=0)=decide (M/1000000000=0)from rfl);generalize hz9:decide (M/1000000000=0)=zz at*;have qz:=Hx hz9;clear qK hz9 qP qE
    go_upto_if 23 with fail
    go_cut [5] (fun s wx=>s=.string ⟨(partP M).toArray⟩/\Ext w6 wx)
    case first=>
     cases zz
     case true=>
      have hp:=PP.out;rw [if_pos (of_decide_eq_true qz.out)]at hp;have HP:=Hx hp;clear hp;go_wp2;go_meet;exact⟨by rw [HP.out],Ext.refl _⟩
     case false=>
      have hp:=PP.out;rw [if_neg (of_decide_eq_false qz.out)]at hp;have HP:=Hx hp;clear hp
      go_wp2_with fail
      rw [show(9-(dr.length:Int))=((9-dr.length:Nat):Int) by omega];refine(repeat_ok (9-dr.length) _ (by omega)).mono ?_;rintro e w7 ⟨rfl,qh⟩;have X7:=Hx qh;clear qh;go_wp2;go_meet;refine⟨?_,X7.out⟩;rw [HP.out,str_app]
      congr 2
      apply Array.ext';simp
    case rest=>
     obtain⟨rfl,qh⟩:=hcut;have X7:=Hx (X6.out.tr qh);have B7:=Hx (B6.out.keep qh);have R7:=Hx (R6.out.keep qh);have O7:=Hx (O6.out.kept (jzn qh) (jzr _));have q7:=ST.out.cnt;clear qh X6 B6 R6 O6 qz PP
     go_wp2_with (at_builtin;go_must (refine jzbg _ rfl (.tmp 30) (.tmp 32) 202 rfl (w.heap.size+1) 9 ti (.string ⟨#[]⟩) 16 Tryz.underlying202 hi qT qR qU rfl u3 ps.length (strs ps) rfl ?c0 (some ⟨wc.heap.size,0,none⟩) 1 1 [.string ⟨(partP M).toArray⟩] rfl rfl ?c1 ?c2 ?c3 ?c4 ?c5 ?c6 ?_))
     case c0=>exact O7.out.alloc _
     case c1=>exact Rd.new _ _ _ rfl rfl
     case c2=>intro h;cases h
     case c3=>intro u hu;simp at hu;subst hu;rfl
     case c4=>unfold maxLen;omega
     case c5=>omega
     case c6=>have:=B7.out.lt;simp;omega
     intro v8 w8 qi qa _;have qx:(wc.alloc (.cells #[.string ⟨(partP M).toArray⟩] 9)).grownBy w8 u3.ownBlock:=qa;have qj:∀k,u3.ownBlock=some k->w.heap.size+1<=k:=fun k hk=>(O7.out.lt k hk).1;have qf:Blk w8 w.heap.size 33 #[.slice A3 n3 c3]:=(qx.block _ (B7.out.alloc _).lt (fun e=>by have:=qj _ e.symm;omega)).trans (B7.out.alloc _);have q9:1<=k:=by
      rcases Nat.eq_zero_or_pos k with e|e
      ·exfalso
       have:=ST.out.lt;rw [e]at this;simp at this;omega
      ·exact e
     have qI:Ext w w8:=Below.grown (X7.out.alloc _) qx (X7.out.alloc _).size (fun k hk=>by have:=qj k hk;omega);have qG:NatR w8 A3 n3 c3 (M/1000000000):=by
      obtain⟨ds,q1,q2,q3,q4,q5⟩:=R7.out.keep ((Ext.refl wc).alloc (.cells #[.string ⟨(partP M).toArray⟩] 9));refine⟨ds,q1,q2,q3,q4,q5.grown qx (fun hx ad had e=>?_)⟩;obtain⟨bb,oo,cs,fr,e1,e2,_⟩:=q5 hx;rw [had]at e1;injection e1 with e1
      subst e1;obtain⟨c9,f9,e9⟩:=Lib.ownsRow_kind (O7.out.alloc (.cells #[.string ⟨(partP M).toArray⟩] 9)) _ e.symm;rw [e2]at e9;injection e9 with e9
      injection e9 with _ e9
      revert e9
      decide
     have SN:=Hx (show TextSt w w8 N K (k-1) (M/1000000000) (ps++[partP M]) v8 A3 n3 c3 from
      ⟨by
       rw [Nat.div_lt_iff_lt_mul (by decide)];have:=ST.out.lt;rw [show 9*k=9*(k-1)+9 by omega,Nat.pow_add]at this;exact this,by rw [yQ,List.length_singleton];omega,jzj9 ST.out.txt (by omega),by rw [yQ,List.length_singleton,strs_snoc];exact qi,fun p hp=>by
        rcases xY.1 hp with h|h
        ·exact ST.out.len p h
        ·rw [xD.1 h];exact partP_len M,qf,qG,by have:=ST.out.nle;omega,qI⟩)
     clear qi qa qx qj qf qI qG;go_wp2
     go_roundg (k-1)
     case measure=>omega
     case rel=>exact⟨k-1,M/1000000000,ps++[partP M],A3,n3,c3,rfl,SN.out⟩
def ratText(q:Rat):List UInt8:=(if q.num<0 then [45]else [])++Lib.decDigits q.num.natAbs++(if q.den=1 then []else [47]++Lib.decDigits q.den)
theorem nd_le:∀(k N:Nat),N<10^(k+1)->Lib.nDigits N<=k+1
 |0,N,h=>by rw [Lib.nDigits_small (by simpa using h)];exact yX _
 |k+1,N,h=>by
  by_cases hN:N<10
  ·rw [Lib.nDigits_small hN];omega
  ·rw [Lib.nDigits_big hN]
   have:=nd_le k (N/10) (by rw [vD]at h;omega);omega
theorem dec_len{w:World}{A:Option Addr}{n c N:Nat}(h:NatR w A n c N)(hn:n<=1048576):(Lib.decDigits N).length<=20000000:=by
 obtain⟨ds,hl,_,qa,hv,_⟩:=h;have h1:=Dig.val_lt jzm qa.lt;rw [hv,hl]at h1;have h2:N<10^(18*n+1):=by
  refine yL h1 (yY (Nat.pow_le_pow_left (show B32<=10^18 by decide) n) ?_);rw [<-Nat.pow_mul];exact Nat.pow_le_pow_right (by decide) (by omega)
 rw [Lib.decDigits_length];have:=nd_le _ _ h2;omega
theorem jziq(neg:Bool)(A:Option Addr)(n c:Nat)(A':Option Addr)(n' c':Nat)(q:Rat)(w:World)(h:RatR w neg A n c A' n' c' q)(hn:n<=1048576)(hn':n'<=1048576)(ht:Tab w):
  Calls Tryz.prog 34 #[.agg #[.bool neg,.slice A n c,.slice A' n' c']] w fun e w'=>e=.returned (.string ⟨(ratText q).toArray⟩)/\Ext w w':=by
 obtain⟨qa,e0⟩:=boxes1 w #[.bool neg,.slice A n c,.slice A' n' c'] 35;have hz:=h.2.2.eq_zero;have qi:(((n':Int)==0)=true/\q.den=1)\/(((n':Int)==0)=false/\q.den≠1/\dk q=q.den):=by
  have hd:=q.den_nz;unfold dk at hz⊢;by_cases h1:q.den=1
  ·rw [if_pos h1]at hz
   have:=hz.2 rfl;subst this;exact .inl ⟨rfl,h1⟩
  ·rw [if_neg h1]at hz⊢
   exact .inr ⟨yK.2 (by omega),h1,rfl⟩
 have qw:=dec_len h.2.1 hn;have qo:=dec_len h.2.2 hn';have H:=Hx h;have HT:=Hx ht;have qj:=h.1;have SG:=Hx (show(if q.num<0 then [45]else([]:List UInt8))=if neg then [45]else [] by rw [qj];simp);clear h ht hz qj;obtain⟨⟨i0,i1,i2⟩,g0,g1,g2⟩:=qa.three;have goal:∀(s:ByteArray),s.data.toList=ratText q->s=⟨(ratText q).toArray⟩:=fun s hs=>by
  rw [<-hs]
 have qh:=Hx goal;clear goal;have qt:∀b1:Bool,neg=b1->Calls Tryz.prog 34 #[.agg #[.bool neg,.slice A n c,.slice A' n' c']] w fun e w'=>e=.returned (.string ⟨(ratText q).toArray⟩)/\Ext w w':=by
  intro b1 qp;subst qp;rcases qi with⟨zb,hd⟩|⟨zb,hd,hdk⟩
  ·have HD:=Hx hd
   clear hd;cases neg
   all_goals
    go_enter Tryz.func34,Tryz.ntmps34
    go_wp2_with fail
    refine(jzcq A n c q.num.natAbs _ (H.out.2.1.keep e0) hn (HT.out.keep e0)).mono ?_;rintro e w1 ⟨rfl,qe⟩;have qa:=qa.keep qe;obtain⟨⟨i0,i1,i2⟩,g0,g1,g2⟩:=qa.three;have HX:=Hx (e0.tr qe);clear qe
    go_wp2_with fail
    refine(jzi A' n' c' _).mono ?_;rintro e w2 ⟨rfl,qf⟩;have qg:=Hx (HX.out.tr qf);clear qf;go_wp2;go_ret;refine⟨congrArg (fun s=>Ending.returned (.string s)) (qh.out _ ?_),qg.out⟩;unfold ratText;rw [SG.out,HD.out];simp [ByteArray.data_append]
  ·have HD:=Hx hd
   have qn:=Hx hdk;clear hd hdk;cases neg
   all_goals
    go_enter Tryz.func34,Tryz.ntmps34
    go_wp2_with fail
    refine(jzcq A n c q.num.natAbs _ (H.out.2.1.keep e0) hn (HT.out.keep e0)).mono ?_;rintro e w1 ⟨rfl,qe⟩;have qa:=qa.keep qe;obtain⟨⟨i0,i1,i2⟩,g0,g1,g2⟩:=qa.three;have HX:=Hx (e0.tr qe);clear qe
    go_wp2_with fail
    refine(jzi A' n' c' _).mono ?_;rintro e w2 ⟨rfl,qf⟩;have qg:=Hx (HX.out.tr qf);have qa:=qa.keep qf;obtain⟨⟨i0,i1,i2⟩,g0,g1,g2⟩:=qa.three;clear qf
    go_wp2_with fail
    refine(jzcq A' n' c' (dk q) _ (H.out.2.2.keep qg.out) hn' (HT.out.keep qg.out)).mono ?_;rintro e w3 ⟨rfl,qk⟩;have qx:=qo;have qm:=Hx (qg.out.tr qk);clear qk;go_wp2;go_ret;refine⟨congrArg (fun s=>Ending.returned (.string s)) (qh.out _ ?_),qm.out⟩;unfold ratText;rw [SG.out,if_neg HD.out,qn.out];simp [ByteArray.data_append]
 exact qt neg rfl
end Go.Proofs.YthbmikapohlikaaGreatDoor
namespace Go.Proofs.YthbmikapohlikaaGreatDoor
open Go.ChangeShapes Go.WideShapes Go.ChangeAt Go.RowKit
theorem Tryz.own:ownKnob Tryz.prog.godebug=none:=by kernel_rfl
theorem Tryz.laidOut:laidOutB Tryz.prog=true:=by kernel_rfl
abbrev laid3:List (String×DataW Unit):=Rows.flowsCutRow.laid
theorem jzbt{W:World}(h:laidMetH Tryz.prog laid3 W):Tab W:=by
 rw [MakeChecks.laidMetH_plain _ _ _ (by kernel_rfl)]at h;have h0:laidMet Tryz.prog laid3 W:=h;have h3:laidMet Tryz.prog [("internal/strconv.uint64pow10",Lib.tabData .u64 Lib.pow10Tab)] W:=h0.tail.tail;exact Lib.tabIs_of_head (g:=1) (t:=309) (by kernel_rfl) (by kernel_rfl) Tryz.underlying309 Tryz.underlying166 (by kernel_rfl) (by kernel_rfl) h3
theorem jzer(os:Os)(args:Array Value):laidMetH Tryz.prog laid3 ((World.doorLaid Tryz.prog 24 os).forCall (fun _ _=>0) ⟨#[],args,[]⟩).memory:=
 laidMetH_of_parts3 (fuel:=8) (laidMet_of_run' 8 (by kernel_rfl) (by kernel_rfl)) (by kernel_rfl) (by kernel_rfl)
end Go.Proofs.YthbmikapohlikaaGreatDoor
namespace Go.Proofs.YthbmikapohlikaaGreatDoor
open Go Go.RowKit
variable {P:Program} {md:Region.Mode} {ops:Array Oper} {Q:Exit->Act->World->Prop} {S:World->Prop} {L:Nat}
def wpAnyL(P:Program)(md:Region.Mode)(ops:Array Oper)(Q:Exit->Act->World->Prop)(S:World->Prop)(L:Nat):Nat->Array Bool->Act->World->Prop
 |0,listed,a,w=>Region.ready md ops listed=[]/\Q .normal a w
 |fuel+1,listed,a,w=>
  (Region.ready md ops listed=[]->Q .normal a w)/\
  ∀i∈Region.ready md ops listed,wpOp P ops Q i (fun a' w'=>(i=L->wpAny P md ops Q fuel (listed.setIfInBounds i true) a' w')/\(i≠L->S w'/\wpAnyL P md ops Q S L fuel (listed.setIfInBounds i true) a' w')) a w
theorem jzcx:∀(fuel:Nat) (listed:Array Bool) (a:Act) (w:World),wpAnyL P md ops Q S L fuel listed a w->wpAny P md ops Q fuel listed a w
 |0,_,_,_,h=>h
 |fuel+1,_,_,_,h=>⟨h.1,fun i hi=>wpOp_mono (fun a' w' h'=>by
  by_cases e:i=L
  ·exact h'.1 e
  ·exact jzcx fuel _ a' w' (h'.2 e).2) (h.2 i hi)⟩
def awaitB(md:Region.Mode)(ops:Array Oper)(L i:Nat):Bool:=match ops[L]? with
 |none=>false
 |some o=>o.after.any fun e=>Region.binds md e&&e.on==i
theorem jza1{i:Nat}(h:awaitB md ops L i=true){listed:Array Bool}(hr:L∈Region.ready md ops listed)(hsz:listed.getD i true=false):False:=by
 unfold awaitB at h;obtain⟨_,oj,qe,qa⟩:=mem_ready.1 hr;rw [qe]at h;obtain⟨e,he,hb⟩:=Array.any_eq_true'.1 h;rw [vM,beq_iff_eq]at hb;have h2:=qa e he hb.1;rw [hb.2]at h2;rcases Nat.lt_or_ge i listed.size with h'|h'
 ·simp [h']at hsz h2;rw [hsz]at h2;cases h2
 ·simp [Array.getElem?_eq_none h']at hsz
theorem jzgh{i:Nat}{oi:Oper}{v:Value}(hL:awaitB md ops L i=true)(hi:ops[i]?=some oi)(hiL:i≠L)(hsel:∀(j:Nat) (o:Oper) cs b,ops[j]?=some o->o.op≠.select cs b)
  (hQ:∀c a w,Q (.panic c) (a.put oi.dst v) w->Q (.panic c) a w):
  ∀(qe:Nat) (qa:Array Bool) (a:Act) (w:World),
   (∀j oj,ops[j]?=some oj->j≠i->qa.getD j true=false->(∀e∈oj.after,Region.binds md e=true->e.on≠i)->oi.apart ops oj=true)->
   i∈Region.ready md ops qa->YieldsIf P ops S oi v a->S w->
   wpAnyL P md ops Q S L qe (qa.setIfInBounds i true) (a.put oi.dst v) w->wpAnyL P md ops Q S L (qe+1) qa a w:=by
 intro qe
 induction qe with
 |zero=>
  intro qa a w _ hr hy hS H;refine⟨fun h=>(by rw [h]at hr;cases hr),fun j hj=>?_⟩;by_cases qf:j=i
  ·subst qf;exact hy.wpOp hi hS ⟨fun e=>absurd e hiL,fun _=>⟨hS,H⟩⟩
  ·have:=ready_mono hj qf
   rw [H.1]at this;cases this
 |succ qe ih=>
  intro qa a w qg hr hy hS H;refine⟨fun h=>(by rw [h]at hr;cases hr),fun j hj=>?_⟩;by_cases qf:j=i
  ·subst qf;exact hy.wpOp hi hS ⟨fun e=>absurd e hiL,fun _=>⟨hS,H⟩⟩
  ·have qj:j≠L:=fun e=>by
    rw [e]at hj;exact jza1 hL hj (mem_ready.1 hr).1
   have h1:=H.2 j (ready_mono hj qf);obtain⟨qi,oj,qm,qn⟩:=mem_ready.1 hj;have qk:∀e∈oj.after,Region.binds md e=true->e.on≠i:=fun e he hb heq=>by
    have h1:=qn e he hb;have h0:=(mem_ready.1 hr).1;rw [heq]at h1;rcases Nat.lt_or_ge i qa.size with h'|h'
    ·simp [h']at h0 h1;rw [h0]at h1;cases h1
    ·simp [Array.getElem?_eq_none h']at h1
   have h2:=wpOp_putIf qm (qg j oj qm qf qi qk) (fun cs b=>hsel i oi cs b hi) (fun cs b=>hsel j oj cs b qm) hQ hy h1;have qh:∀k ok,ops[k]?=some ok->k≠i->(qa.setIfInBounds j true).getD k true=false->
     (∀e∈ok.after,Region.binds md e=true->e.on≠i)->oi.apart ops ok=true:=fun k ok hk hki hun hno=>by
    refine qg k ok hk hki ?_ hno;by_cases qo:j=k
    ·subst qo;exact qi
    ·rw [getD_set_ne true qo]at hun;exact hun
   refine wpOp_mono (fun a' w' h3=>⟨fun e=>absurd e qj,fun _=>⟨(h3.2.2 qj).1,ih (qa.setIfInBounds j true) a' w' qh (ready_mono hr (Ne.symm qf)) h3.1 (h3.2.2 qj).1 ?_⟩⟩) h2;rw [Array.setIfInBounds_comm _ _ qf];exact(h3.2.2 qj).2
theorem jzd{i:Nat}{oi:Oper}{v:Value}{fuel:Nat}{listed:Array Bool}{a:Act}{w:World}(hi:ops[i]?=some oi)(hL:awaitB md ops L i=true)(hiL:i≠L)
  (hs:Region.noSelect ops=true) (hf:Region.free md ops listed i=true) (hr:(Region.ready md ops listed).contains i=true)
  (hQ:∀c a w,Q (.panic c) (a.put oi.dst v) w->Q (.panic c) a w) (hy:YieldsIf P ops S oi v a) (hS:S w)
  (h:wpAnyL P md ops Q S L fuel (listed.setIfInBounds i true) (a.put oi.dst v) w):wpAnyL P md ops Q S L (fuel+1) listed a w:=
 jzgh hL hi hiL (Region.noSelect_spec hs) hQ fuel listed a w (Region.free_spec hi hf) (by simpa using hr) hy hS h
theorem jzir{oi:Oper}{v:Value}{a:Act}(h:YieldsIf P ops (fun _=>True) oi v a):Yields P ops oi v a:=h.imp (fun⟨hw,hv⟩=>⟨hw,fun w=>hv w trivial⟩) id
theorem jzfs{i:Nat}{oi:Oper}{v:Value}(hi:ops[i]?=some oi)(hiL:i≠L)(hsel:∀(j:Nat) (o:Oper) cs b,ops[j]?=some o->o.op≠.select cs b)
  (hQ:∀c a w,Q (.panic c) (a.put oi.dst v) w->Q (.panic c) a w):
  ∀(qe:Nat) (qa:Array Bool) (a:Act) (w:World),
   (∀j oj,ops[j]?=some oj->j≠i->qa.getD j true=false->(∀e∈oj.after,Region.binds md e=true->e.on≠i)->oi.apart ops oj=true)->
   i∈Region.ready md ops qa->YieldsIf P ops (fun _=>True) oi v a->S w->
   wpAnyL P md ops Q S L qe (qa.setIfInBounds i true) (a.put oi.dst v) w->wpAnyL P md ops Q S L (qe+1) qa a w:=by
 intro qe
 induction qe with
 |zero=>
  intro qa a w _ hr hy hS H;refine⟨fun h=>(by rw [h]at hr;cases hr),fun j hj=>?_⟩;by_cases qg:j=i
  ·subst qg;exact hy.wpOp hi trivial ⟨fun e=>absurd e hiL,fun _=>⟨hS,H⟩⟩
  ·have:=ready_mono hj qg
   rw [H.1]at this;cases this
 |succ qe ih=>
  intro qa a w qh hr hy hS H;refine⟨fun h=>(by rw [h]at hr;cases hr),fun j hj=>?_⟩;by_cases qg:j=i
  ·subst qg;exact hy.wpOp hi trivial ⟨fun e=>absurd e hiL,fun _=>⟨hS,H⟩⟩
  ·have h1:=H.2 j (ready_mono hj qg)
   obtain⟨qi,oj,qk,qm⟩:=mem_ready.1 hj;have qj:∀e∈oj.after,Region.binds md e=true->e.on≠i:=fun e he hb heq=>by
    have h1:=qm e he hb;have h0:=(mem_ready.1 hr).1;rw [heq]at h1;rcases Nat.lt_or_ge i qa.size with h'|h'
    ·simp [h']at h0 h1;rw [h0]at h1;cases h1
    ·simp [Array.getElem?_eq_none h']at h1
   have h2:=wpOp_putIf qk (qh j oj qk qg qi qj) (fun cs b=>hsel i oi cs b hi) (fun cs b=>hsel j oj cs b qk) hQ hy h1;have qf:∀k ok,ops[k]?=some ok->k≠i->(qa.setIfInBounds j true).getD k true=false->
     (∀e∈ok.after,Region.binds md e=true->e.on≠i)->oi.apart ops ok=true:=fun k ok hk hki hun hno=>by
    refine qh k ok hk hki ?_ hno;by_cases qn:j=k
    ·subst qn;exact qi
    ·rw [getD_set_ne true qn]at hun;exact hun
   refine wpOp_mono (fun a' w' h3=>⟨fun e=>?_,fun e=>⟨(h3.2.2 e).1,ih (qa.setIfInBounds j true) a' w' qf (ready_mono hr (Ne.symm qg)) h3.1 (h3.2.2 e).1 ?_⟩⟩) h2
   ·refine wpAny_first hi hsel hQ qe (qa.setIfInBounds j true) a' w' qf (ready_mono hr (Ne.symm qg)) (jzir h3.1) ?_
    rw [Array.setIfInBounds_comm _ _ qg];exact h3.2.1 e
   ·rw [Array.setIfInBounds_comm _ _ qg]
    exact(h3.2.2 e).2
theorem jza{i:Nat}{oi:Oper}{v:Value}{fuel:Nat}{listed:Array Bool}{a:Act}{w:World}(hi:ops[i]?=some oi)(hiL:i≠L)
  (hs:Region.noSelect ops=true) (hf:Region.free md ops listed i=true) (hr:(Region.ready md ops listed).contains i=true)
  (hQ:∀c a w,Q (.panic c) (a.put oi.dst v) w->Q (.panic c) a w) (hy:YieldsIf P ops (fun _=>True) oi v a) (hS:S w)
  (h:wpAnyL P md ops Q S L fuel (listed.setIfInBounds i true) (a.put oi.dst v) w):wpAnyL P md ops Q S L (fuel+1) listed a w:=
 jzfs hi hiL (Region.noSelect_spec hs) hQ fuel listed a w (Region.free_spec hi hf) (by simpa using hr) hy hS h
theorem jzft{i:Nat}{fuel:Nat}{listed:Array Bool}{a:Act}{w:World}(hr:Region.ready md ops listed=[i])
  (h:wpOp P ops Q i (fun a' w'=>(i=L->wpAny P md ops Q fuel (listed.setIfInBounds i true) a' w')/\(i≠L->S w'/\wpAnyL P md ops Q S L fuel (listed.setIfInBounds i true) a' w')) a w):wpAnyL P md ops Q S L (fuel+1) listed a w:=
 ⟨fun h0=>(by rw [hr]at h0;cases h0),fun j hj=>(by rw [hr]at hj;obtain rfl:j=i:=(by simpa using hj);exact h)⟩
theorem jzf{i:Nat}{o:Oper}{fuel:Nat}{listed:Array Bool}{a:Act}{w:World}(hiL:i≠L)(hr:Region.ready md ops listed=[i])(ho:ops[i]?=some o)(hw:Region.wanted o (yielded ops a.tmps)=true)
  (h:∀K':Act->World->Prop,Hid (∀a w,S w->wpAnyL P md ops Q S L fuel (listed.setIfInBounds i true) a w->K' a w)->Oper.wp P o a w K' Q):wpAnyL P md ops Q S L (fuel+1) listed a w:=
 jzft hr (wpOp_step ho fun K' hK=>by rw [if_pos hw];exact h K' (Hx fun a w h1 h2=>hK a w ⟨fun e=>absurd e hiL,fun _=>⟨h1,h2⟩⟩))
theorem jzk{o:Oper}{fuel:Nat}{listed:Array Bool}{a:Act}{w:World}(hr:Region.ready md ops listed=[L])(ho:ops[L]?=some o)(hw:Region.wanted o (yielded ops a.tmps)=true)
  (h:∀K':Act->World->Prop,Hid (∀a w,wpAny P md ops Q fuel (listed.setIfInBounds L true) a w->K' a w)->Oper.wp P o a w K' Q):wpAnyL P md ops Q S L (fuel+1) listed a w:=
 jzft hr (wpOp_step ho fun K' hK=>by rw [if_pos hw];exact h K' (Hx fun a w h2=>hK a w ⟨fun _=>h2,fun e=>absurd rfl e⟩))
theorem jzao{i:Nat}{o:Oper}{fuel:Nat}{listed:Array Bool}{a:Act}{w:World}(hr:Region.ready md ops listed=[i])(ho:ops[i]?=some o)(hw:Region.wanted o (yielded ops a.tmps)=true)
  (h:∀K':Act->World->Prop,Hid (∀a w,wpAny P md ops Q fuel (listed.setIfInBounds i true) a w->K' a w)->Oper.wp P o a w K' Q):wpAny P md ops Q (fuel+1) listed a w:=
 ⟨fun h0=>(by rw [hr]at h0;cases h0),fun j hj=>(by
  rw [hr]at hj;obtain rfl:j=i:=(by simpa using hj);exact wpOp_step ho fun K' hK=>by rw [if_pos hw];exact h K' (Hx hK))⟩
theorem jzg{id:Nat}{a:Act}{w:World}(S:World->Prop)(L:Nat)(hm:P.follows .mixedOrders=true)
  (h:wpAnyL P .any ops Q S L ops.size (Array.replicate ops.size false) a w.drew):(Code.region id ops true).wp P Q a w:=
 wp_region_any hm (jzcx _ _ _ _ h)
theorem wP(i:Nat){oi:Oper}{v:Value}{fuel:Nat}{listed:Array Bool}{a:Act}{w:World}(hi:ops[i]?=some oi)(hS:S w)(h:wpAnyL P md ops Q S L fuel (listed.setIfInBounds i true) (a.put oi.dst v) w)(hv:∀ w,True->(execOp a.eval oi).run P w=.ok (.value v) w:=by intro w _;go_simp;try with_reducible rfl)(hiL:i≠L:=by decide)(hs:Region.noSelect ops=true:=by kernel_rfl)(hf:Region.free md ops listed i=true:=by kernel_rfl)(hr:(Region.ready md ops listed).contains i=true:=by kernel_rfl)(hQ:∀ c a w,Q (.panic c) (a.put oi.dst v) w->Q (.panic c) a w:=by exact fun _ _ _ h=>h)(hw:Region.wanted oi (yielded ops a.tmps)=true:=by rfl):wpAnyL P md ops Q S L (fuel+1) listed a w:=jza hi hiL hs hf hr hQ (Or.inl ⟨hw,hv⟩) hS h
theorem wT(i:Nat){oi:Oper}{v:Value}{fuel:Nat}{listed:Array Bool}{a:Act}{w:World}(hi:ops[i]?=some oi)(hv:∀ w,S w->(execOp a.eval oi).run P w=.ok (.value v) w)(hS:S w)(h:wpAnyL P md ops Q S L fuel (listed.setIfInBounds i true) (a.put oi.dst v) w)(hL:awaitB md ops L i=true:=by kernel_rfl)(hiL:i≠L:=by decide)(hs:Region.noSelect ops=true:=by kernel_rfl)(hf:Region.free md ops listed i=true:=by kernel_rfl)(hr:(Region.ready md ops listed).contains i=true:=by kernel_rfl)(hQ:∀ c a w,Q (.panic c) (a.put oi.dst v) w->Q (.panic c) a w:=by exact fun _ _ _ h=>h)(hw:Region.wanted oi (yielded ops a.tmps)=true:=by rfl):wpAnyL P md ops Q S L (fuel+1) listed a w:=jzd hi hL hiL hs hf hr hQ (Or.inl ⟨hw,hv⟩) hS h
theorem wC(i:Nat){o:Oper}{fuel:Nat}{listed:Array Bool}{a:Act}{w:World}(ho:ops[i]?=some o)(h:∀ K':Act->World->Prop,Hid (∀ a w,S w->wpAnyL P md ops Q S L fuel (listed.setIfInBounds i true) a w->K' a w)->Oper.wp P o a w K' Q)(hiL:i≠L:=by decide)(hr:Region.ready md ops listed=[i]:=by kernel_rfl)(hw:Region.wanted o (yielded ops a.tmps)=true:=by rfl):wpAnyL P md ops Q S L (fuel+1) listed a w:=jzf hiL hr ho hw h
end Go.Proofs.YthbmikapohlikaaGreatDoor
namespace Go.Proofs.YthbmikapohlikaaGreatDoor
open Go.RowKit
theorem jzka(a b:Rat):a*b=mkQ (decide (a.num<0) !=decide (b.num<0)) (a.num.natAbs*b.num.natAbs) (a.den*b.den):=by
 have hs:(if(decide (a.num<0) !=decide (b.num<0))=true then-((a.num.natAbs*b.num.natAbs:Nat):Int)else((a.num.natAbs*b.num.natAbs:Nat):Int))=a.num*b.num:=by
  rw [Int.natCast_mul];rcases Int.lt_or_le a.num 0 with ha|ha <;> rcases Int.lt_or_le b.num 0 with hb|hb
  ·rw [show((a.num.natAbs:Nat):Int)= -a.num by omega,show((b.num.natAbs:Nat):Int)= -b.num by omega]
   simp only [ha,hb,decide_true,bne_self_eq_false,Bool.false_eq_true,if_false,Int.neg_mul_neg]
  ·rw [show((a.num.natAbs:Nat):Int)= -a.num by omega,show((b.num.natAbs:Nat):Int)=b.num by omega]
   simp only [ha,show¬b.num<0 by omega,decide_true,decide_false,Bool.true_bne,Bool.not_false,if_true,Int.neg_mul,Int.neg_neg]
  ·rw [show((a.num.natAbs:Nat):Int)=a.num by omega,show((b.num.natAbs:Nat):Int)= -b.num by omega]
   simp only [hb,show¬a.num<0 by omega,decide_true,decide_false,Bool.false_bne,if_true,Int.mul_neg,Int.neg_neg]
  ·rw [show((a.num.natAbs:Nat):Int)=a.num by omega,show((b.num.natAbs:Nat):Int)=b.num by omega]
   simp [show¬a.num<0 by omega,show¬b.num<0 by omega]
 unfold mkQ;rw [hs]
 conv=>lhs;rw [<-Rat.mkRat_self a, <-Rat.mkRat_self b]
 rw [Rat.mkRat_mul_mkRat]
theorem jz1(na nb:Bool)(A1:Option Addr)(n1 c1:Nat)(A1':Option Addr)(n1' c1':Nat)(A2:Option Addr)(n2 c2:Nat)(A2':Option Addr)(n2' c2':Nat)(a b:Rat)(w:World)
  (ha:RatR w na A1 n1 c1 A1' n1' c1' a) (hb:RatR w nb A2 n2 c2 A2' n2' c2' b) (l1:n1<=134217728) (l1':n1'<=134217728) (l2:n2<=134217728) (l2':n2'<=134217728):
  Calls Tryz.prog 21 #[.agg #[.bool na,.slice A1 n1 c1,.slice A1' n1' c1'],.agg #[.bool nb,.slice A2 n2 c2,.slice A2' n2' c2']] w (RatPost w (a*b)):=by
 obtain⟨qa,qe,qf,e0⟩:=boxes3 w #[.bool na,.slice A1 n1 c1,.slice A1' n1' c1'] 35 #[.bool nb,.slice A2 n2 c2,.slice A2' n2' c2'] 35 #[.bool false,.slice none 0 0,.slice none 0 0] 35;have hq:=jzka a b;rw [<-ha.1, <-hb.1]at hq;have qB:=Hx (jzp (N:=a.num.natAbs*b.num.natAbs) (D:=a.den*b.den) (Nat.mul_ne_zero a.den_nz b.den_nz));have za:=ha.2.2.eq_zero;have zb:=hb.2.2.eq_zero;rw [jzd4]at za zb;have ZA:=Hx (za);have ZB:=Hx (zb);have HA:=Hx (ha);have HB:=Hx (hb);have HQ:=Hx (hq);clear ha hb hq za zb;obtain⟨⟨i0,i1,i2⟩,h0,h1,h2⟩:=qa.three;obtain⟨⟨j0,j1,j2⟩,qp,qn,qt⟩:=qe.three
 go_enter Tryz.func21,Tryz.ntmps21
 go_wp2_with fail
 refine(jzfj A1 A2 n1 c1 n2 c2 a.num.natAbs b.num.natAbs _ (HA.out.2.1.keep e0) (HB.out.2.1.keep e0) (by omega) (by omega)).mono ?_;rintro e w1 ⟨A,n,c,rfl,hN,qw⟩;have L1:=jzfm hN (HA.out.2.1) (HB.out.2.1);have xb:=(Ext.refl w1).alloc (.cells #[.slice A n c] 33);have qg:=Blk.new w1 33 #[.slice A n c];have qa:=(qa.keep qw).keep xb;have qe:=(qe.keep qw).keep xb;have qf:=(qf.keep qw).keep xb;have E5:=Hx ((e0.tr qw).tr xb);have R5:=Hx (hN.keep xb);have qE:w.heap.size+1+1<w1.heap.size:=(by have:=qw.size;simp at this;omega);clear qw hN xb e0 i0 i1 i2 h0 h1 h2 j0 j1 j2 qp qn qt
 go_upto_region 2 with fail
 generalize hW1:w1.alloc (.cells #[.slice A n c] 33)=W1 at*;clear hW1;generalize hgg:w1.heap.size=g at*;clear hgg;have qx:(a.den=1/\b.den=1)\/(a.den=1/\b.den≠1)\/a.den≠1:=(by omega);rcases qx with⟨hda,hdb⟩|⟨hda,hdb⟩|hda
 case' inl=>
  have za:((n1':Int)==0)=true:=(by rw [ZA.out.2 hda];rfl);have zb:((n2':Int)==0)=true:=(by rw [ZB.out.2 hdb];rfl);have qy:a*b=mkQ (na !=nb) (a.num.natAbs*b.num.natAbs) 1:=(by rw [HQ.out,hda,hdb]);have HF:=Hx (qy);obtain⟨⟨i0,i1,i2⟩,h0,h1,h2⟩:=qa.three;clear qy hda hdb
  go_wp2_with fail
  refine(jzi A1' n1' c1' _).mono ?_;rintro e w6 ⟨rfl,qh⟩;have qa:=qa.keep qh;have qe:=qe.keep qh;have qf:=qf.keep qh;have qg:=qg.keep qh;obtain⟨⟨j0,j1,j2⟩,qp,qn,qt⟩:=qe.three;have E6:=Hx (E5.out.tr qh);have R6:=Hx (R5.out.keep qh);clear qh
  go_wp2_with fail
  refine(jzi A2' n2' c2' _).mono ?_;rintro e w7 ⟨rfl,qj⟩;have qa:=qa.keep qj;have qe:=qe.keep qj;have qf:=qf.keep qj;have qg:=qg.keep qj;clear i0 i1 i2 h0 h1 h2 j0 j1 j2 qp qn qt;obtain⟨⟨i0,i1,i2⟩,h0,h1,h2⟩:=qa.three;obtain⟨⟨j0,j1,j2⟩,qp,qn,qt⟩:=qe.three;have cg:=qg.one.1;have E7:=Hx (E6.out.tr qj);have R7:=Hx (R6.out.keep qj);clear qj
  go_wp2_with fail
  refine(jzbp (na !=nb) A n c _ _ R7.out).mono ?_;rintro e w8 ⟨ng,B,m,d,B',m',d',rfl,qm,qk⟩;have qf:=qf.keep qk;obtain⟨⟨k0,k1,k2⟩,f0,f1,f2⟩:=qf.three;have E8:=Hx (E7.out.tr qk);have R8:=Hx (qm);clear qk qm;go_wp2;exact bodyPost_ret (v:=.agg #[.bool ng,.slice B m d,.slice B' m' d']) (by simp [results,Tryz.results21,go_sem,(((qf.set_ 0 _).set_ 1 _).set_ 2 _).cell]) rfl (by rw [HF.out];exact jzw qf (by decide) R8.out E8.out (by omega))
 case' inr.inl=>
  have za:((n1':Int)==0)=true:=(by rw [ZA.out.2 hda];rfl);have zb:((n2':Int)==0)=false:=yK.2 (fun h=>hdb (ZB.out.1 (by omega)));obtain⟨⟨i0,i1,i2⟩,h0,h1,h2⟩:=qa.three;clear hda hdb
  go_wp2_with fail
  refine(jzi A1' n1' c1' _).mono ?_;rintro e w6 ⟨rfl,qh⟩;have qa:=qa.keep qh;have qe:=qe.keep qh;have qf:=qf.keep qh;have qg:=qg.keep qh;obtain⟨⟨j0,j1,j2⟩,qp,qn,qt⟩:=qe.three;have E6:=Hx (E5.out.tr qh);have R6:=Hx (R5.out.keep qh);clear qh
  go_wp2_with fail
  refine(jzi A2' n2' c2' _).mono ?_;rintro e wz ⟨rfl,qi⟩;have qa:=qa.keep qi;have qe:=qe.keep qi;have qf:=qf.keep qi;have qg:=qg.keep qi;have EZ:=Hx (E6.out.tr qi);have RZ:=Hx (R6.out.keep qi);clear qi i0 i1 i2 h0 h1 h2 j0 j1 j2 qp qn qt
 case' inr.inr=>
  have za:((n1':Int)==0)=false:=yK.2 (fun h=>hda (ZA.out.1 (by omega)));obtain⟨⟨i0,i1,i2⟩,h0,h1,h2⟩:=qa.three;clear hda
  go_wp2_with fail
  refine(jzi A1' n1' c1' _).mono ?_;rintro e wz ⟨rfl,qi⟩;have qa:=qa.keep qi;have qe:=qe.keep qi;have qf:=qf.keep qi;have qg:=qg.keep qi;have EZ:=Hx (E5.out.tr qi);have RZ:=Hx (R5.out.keep qi);clear qi i0 i1 i2 h0 h1 h2
 all_goals
  have qa:Blk wz.drew _ _ _:=qa;have qe:Blk wz.drew _ _ _:=qe;have qf:Blk wz.drew _ _ _:=qf;have qg:Blk wz.drew _ _ _:=qg;have EZ:=Hx (EZ.out.drewN 1);have RZ:=Hx (RZ.out.keep ((Ext.refl wz).drewN 1));obtain⟨⟨i0,i1,i2⟩,_⟩:=qa.three;obtain⟨⟨j0,j1,j2⟩,_⟩:=qe.three;obtain⟨cg,_⟩:=qg.one;go_wp2
  go_region_held3 (fun w'=>w'.cell? ⟨w.heap.size,0,none⟩=some (.bool na)/\w'.cell? ⟨w.heap.size,1,none⟩=some (.slice A1 n1 c1)/\w'.cell? ⟨w.heap.size,2,none⟩=some (.slice A1' n1' c1')/\
    w'.cell? ⟨w.heap.size+1,0,none⟩=some (.bool nb)/\w'.cell? ⟨w.heap.size+1,2,none⟩=some (.slice A2' n2' c2')/\w'.cell? ⟨g,0,none⟩=some (.slice A n c)) (first|exact⟨i0,i1,i2,j0,j2,cg⟩|exact⟨(fa _ _ _).cell 0,(fa _ _ _).cell 1,(fa _ _ _).cell 2,(fb _ _ _).cell 0,(fb _ _ _).cell 2,(fg _ _ _).cell 0⟩)
   (first
    |(go_at_call 62
      refine(den_any na A1 n1 c1 A1' n1' c1' a _ (HA.out.keep EZ.out)).mono ?_;rintro e w7 ⟨A7,n7,c7,rfl,qz,qj⟩;have qa:=qa.keep qj;have qe:=qe.keep qj;have qf:=qf.keep qj;have qg:=qg.keep qj;have E7:=Hx (EZ.out.tr qj);have qD:=Hx (RZ.out.keep qj);have R7:=Hx qz;have L7:=den_len qz HA.out.2.2;obtain⟨⟨i0,i1,i2⟩,_⟩:=qa.three;obtain⟨⟨j0,j1,j2⟩,_⟩:=qe.three;obtain⟨cg,_⟩:=qg.one;clear qj qz)
    |(go_at_call 57
      refine(jzau A7 A2' n7 c7 n2' c2' a.den (dk b) _ R7.out (HB.out.2.2.keep E7.out) (by omega) (by omega)).mono ?_;rintro e w8 ⟨A8,n8,c8,rfl,qm,qk⟩;have qa:=qa.keep qk;have qe:=qe.keep qk;have qf:=qf.keep qk;have qg:=qg.keep qk;have E8:=Hx (E7.out.tr qk);have qC:=Hx (qD.out.keep qk);have L8:=jzal qm R7.out (HB.out.2.2.keep E7.out);have qm:NatR w8 A8 n8 c8 (a.den*b.den):=(by rw [dn_dk]at qm;exact qm);have R8:=Hx qm;obtain⟨⟨i0,i1,i2⟩,_⟩:=qa.three;obtain⟨⟨j0,j1,j2⟩,_⟩:=qe.three;obtain⟨cg,_⟩:=qg.one;clear qk qm)
    |(go_at_call 61
      refine(qB.out (na !=nb) A A8 n c n8 c8 _ qC.out R8.out (by omega) (by omega)).mono ?_;rintro e w9 ⟨ng,B,m,d,B',m',d',rfl,qA,qo⟩;have qa:=qa.keep qo;have qe:=qe.keep qo;have qf:=qf.keep qo;have qg:=qg.keep qo;have E9:=Hx (E8.out.tr qo);have R9:=Hx qA;obtain⟨⟨i0,i1,i2⟩,_⟩:=qa.three;obtain⟨⟨j0,j1,j2⟩,_⟩:=qe.three;obtain⟨⟨k0,k1,k2⟩,f0,f1,f2⟩:=qf.three;obtain⟨cg,_⟩:=qg.one;have fa:=fun u0 u1 u2=>((qa.far (p:=⟨w.heap.size+1+1,0,none⟩) (by simp;omega) u0).far (p:=⟨w.heap.size+1+1,1,none⟩) (by simp;omega) u1).far (p:=⟨w.heap.size+1+1,2,none⟩) (by simp;omega) u2;have fb:=fun u0 u1 u2=>((qe.far (p:=⟨w.heap.size+1+1,0,none⟩) (by simp) u0).far (p:=⟨w.heap.size+1+1,1,none⟩) (by simp) u1).far (p:=⟨w.heap.size+1+1,2,none⟩) (by simp) u2;have fg:=fun u0 u1 u2=>((qg.far (p:=⟨w.heap.size+1+1,0,none⟩) (by simp;omega) u0).far (p:=⟨w.heap.size+1+1,1,none⟩) (by simp;omega) u1).far (p:=⟨w.heap.size+1+1,2,none⟩) (by simp;omega) u2;clear qo qA))
  go_wp2;exact bodyPost_ret (v:=.agg #[.bool ng,.slice B m d,.slice B' m' d']) (by simp [results,Tryz.results21,go_sem,(((qf.set_ 0 _).set_ 1 _).set_ 2 _).cell]) rfl (by rw [HQ.out];exact jzw qf (by decide) R9.out E9.out (by omega))
def G6:Nat:=1000000
section
variable {P:Program} (w:World)
end
theorem Rd.ints{w:World}{A:Option Addr}{ds:List Nat}(h:Rd w A (ints ds)){k:Nat}(hk:k<ds.length):
  ∃b o:Nat,A=some ⟨b,o,none⟩/\b<w.heap.size/\∀i,i<ds.length->w.cell? ⟨b,o+i,none⟩=some (.int .i64 ((ds[i]?.getD 0:Nat):Int)):=by
 obtain⟨b,o,e,qa,hc⟩:=h.at_ (i:=k) (by rw [jzx];exact hk);refine⟨b,o,e,qa,fun i hi=>(hc i (by rw [jzx];exact hi)).trans ?_⟩;simp [Go.Proofs.YthbmikapohlikaaGreatDoor.ints,hi]
def OI(w:World)(B:Nat)(v:Value)(l:List Nat):Prop:=w.ownsRow B 3 1 v l.length (ints l)
theorem OI.nil(w:World)(B:Nat):OI w B (.slice none 0 0) []:=World.ownsRow_nil _ _ _ _
theorem OI.keep{w w':World}{B:Nat}{v:Value}{l:List Nat}(h:OI w B v l)(hx:Ext w w'):OI w' B v l:=
 World.ownsRow.kept (row:=none) h ⟨hx.os,hx.tape,hx.output,hx.size,fun k hk _=>hx.block k hk⟩ (by
  by_cases e:v.ownBlock=none
  ·exact .inl e
  ·exact .inr e)
theorem OI.rdT{w:World}{B:Nat}{v:Value}{l:List Nat}(h:OI w B v l):∃(A:Option Addr) (c:Nat),v=.slice A l.length c/\l.length<=c/\RdT w 3 A (ints l):=jzai h rfl
section
variable {w w':World} {g n:Nat} {f f':Nat->Int}
end
end Go.Proofs.YthbmikapohlikaaGreatDoor
namespace Go.Proofs.YthbmikapohlikaaGreatDoor
open Go.RowKit Go.Sort
end Go.Proofs.YthbmikapohlikaaGreatDoor
