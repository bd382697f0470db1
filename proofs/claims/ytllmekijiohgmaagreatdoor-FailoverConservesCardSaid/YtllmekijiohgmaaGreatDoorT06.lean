/- Part 6 of 23 of what the Flows claims share (the white space is struck, the texts are joined). -/
import Derived.Lib.ItoaNum
import Derived.Lib.Builder
import Derived.Lib.AppendStr
import Derived.Lib.Repeat
import Derived.Lib.SmallJoins
import Derived.Test.YtllmekijiohgmaaGreatDoorRows
import Derived.ProofKit
import Derived.LaidMore
import Derived.OpenShut
import Derived.Stop.Joined
import Derived.Carry
import Derived.Lib.LaidTab
import Derived.Stop.LaidErr
import Derived.Laws.IdiomStrings
import Derived.Laws.MakeOwn
import Derived.Lib.SliceRun
import Derived.Test.YtllmekijiohgmaaGreatDoorT05
set_option linter.unusedVariables false
set_option linter.unusedSimpArgs false
set_option maxRecDepth 100000
set_option maxHeartbeats 8000000
namespace Go.Proofs.YtllmekijiohgmaaGreatDoor.Dig
open Go.Lib
def fixD:Nat->Nat->List UInt8
 |0,_=>[]
 |k+1,r=>fixD k (r/10)++[UInt8.ofNat (48+r%10)]
theorem uW(q:Nat)(hq:0<q):∀(k r:Nat),r<10^k->decDigits (q*10^k+r)=decDigits q++fixD k r
 |0,r,h=>by simp at h;subst h;simp[fixD]
 |k+1,r,h=>by
  have hp:1<=10^k:=Nat.one_le_pow _ _ (by decide);have e:q*10^(k+1)=q*10^k*10:=(by rw[vD,kQg]);have h1:1<=q*10^k:=Nat.mul_pos hq (by omega);rw[vD]at h;rw[e,decDigits,dif_neg (by omega),fixD,show(q*10^k*10+r)/10=q*10^k+r/10 by omega,uW q hq k (r/10) (by omega),List.append_assoc,show(q*10^k*10+r)%10=r%10 by omega]
theorem uX:∀k,fixD k 0=List.replicate k 48
 |0=>rfl
 |k+1=>by
  rw[fixD,Nat.zero_div,uX k,List.replicate_succ'];rfl
theorem fixD_pad:∀(k r:Nat),r<10^(k+1)->fixD (k+1) r=List.replicate (k+1-(decDigits r).length) 48++decDigits r
 |k,r,h=>by
  by_cases h1:r<10
  ·rw[fixD,Nat.div_eq_of_lt h1,uX,decDigits_one h1,kQv h1]
   simp
  ·cases k with
   |zero=>simp at h;omega
   |succ k=>
    have ih:=fixD_pad k (r/10) (by rw[vD]at h;omega);rw[fixD,ih,decDigits.eq_1 r,dif_neg h1,List.append_assoc]
    congr 2
    simp
theorem dec_nine(N:Nat)(h:1000000000<=N):decDigits N=decDigits (N/1000000000)++(List.replicate (9-(decDigits (N%1000000000)).length) 48++decDigits (N%1000000000)):=by
 have h1:=uW (N/1000000000) (by omega) 9 (N%1000000000) (by simp;omega);have h2:=fixD_pad 8 (N%1000000000) (by simp;omega);rw[h2]at h1;rw[<-h1];congr 1;omega
theorem dec_len_nine(r:Nat)(h:r<1000000000):(decDigits r).length<=9/\1<=(decDigits r).length:=by
 rw[decDigits_length];refine⟨?_,nDigits_pos r⟩;have h1:=fixD_pad 8 r (by simp;omega);have h2:∀k r,(fixD k r).length=k:=fun k=>(by (induction k with|zero=>intro r;rfl|succ k ih=>intro r;rw[fixD,yQ,ih];rfl));have h3:=congrArg List.length h1;rw[h2,yQ,xC,decDigits_length]at h3;omega
end Go.Proofs.YtllmekijiohgmaaGreatDoor.Dig
namespace Go.Proofs.YtllmekijiohgmaaGreatDoor
open Go.RowKit Go.Lib
theorem uY:(Tryz.prog.info? 175).map (·.size)=some 2:=by kernel_rfl
theorem jzeu:liesAt Tryz.prog Tryz.prog.depth 175 (2/Tryz.prog.cellsOf 175) 0 175 1=true:=by kernel_rfl
theorem jzev:(Tryz.prog.info? 5).map (fun i=>(i.zero,i.size,i.bytes))=some (some (.int .u8 0),1,1):=by kernel_rfl
theorem jzew(b:Nat)(w:World)(h0:w.cell? (aD b 0)=some (.pointer (sA b))):
  Calls Tryz.prog 158 #[.pointer (sA b)] w fun e w'=>e=.returned (.tuple #[])/\w'=w:=by
 obtain⟨j,hj,_⟩:=Option.map_eq_some_iff.1 uY;go_enter Tryz.func158,Tryz.ntmps158;go_wp2;rw[Lib.run_neq_ptr_same w _ Tryz.underlying173 hj];go_wp2;(go_end0);exact⟨rfl,rfl⟩
theorem jzex(b:Nat)(w:World)(h0:w.cell? (aD b 0)=some (.pointer none))(hsh:w.shape? b=some (175,2))(hfz:w.frozen? (aD b 0)=false):
  Calls Tryz.prog 158 #[.pointer (sA b)] w fun e w'=>e=.returned (.tuple #[])/\w'=w.setCell (aD b 0) (.pointer (sA b)):=by
 obtain⟨j,hj,qa⟩:=Option.map_eq_some_iff.1 uY;go_enter Tryz.func158,Tryz.ntmps158;go_wp2;rw[Lib.run_to_unsafe w (aD b 0) Tryz.underlying173 Tryz.underlying266 hj (by rw[qa];decide) hsh (Nat.zero_lt_succ 1)];simp only[Result.andThen];rw[Oper.upon_value];go_wp2;rw[run_callFunc_extern Tryz.func202 (by kernel_rfl) (by kernel_rfl) (by kernel_rfl) (e:=Extern.AbiNoEscape.same) (by kernel_rfl)];rw[Lib.run_noEscape];simp only[Result.andThen];rw[Oper.upon_value];go_wp2;rw[Lib.run_from_unsafe w (aD b 0) Tryz.underlying266 Tryz.underlying173 hj hsh jzeu];simp only[Result.andThen];rw[Oper.upon_value];go_wp2;(go_end0);exact⟨rfl,rfl⟩
theorem jzey(B b:Nat)(bs:List Value)w(h:Lib.IsBuilder 175 5 B b bs w):
  Calls Tryz.prog 158 #[.pointer (sA b)] w fun e w'=>e=.returned (.tuple #[])/\(Lib.BuilderAt 175 5 B b (.pointer (sA b)) bs w'/\Below B w w'):=by
 (rcases h with h|h);{refine(jzex b w h.cell0 h.shape h.frozen0).mono ?_;rintro e w' ⟨rfl,rfl⟩;exact⟨rfl,h.used _,(Below.refl B w).setCell (p:=(aD b 0)) h.1 _⟩};refine(jzew b w h.cell0).mono ?_;rintro e w' ⟨rfl,rfl⟩;exact⟨rfl,h,Below.refl B _⟩
theorem jzez(B b:Nat)(bs:List Value)(s:ByteArray)w(h:Lib.IsBuilder 175 5 B b bs w)(hlen:bs.length+s.size<=140737488355328)(hBw:B<=w.heap.size):
  Calls Tryz.prog 98 #[.pointer (sA b),.string s] w fun e w'=>e=.returned (.tuple #[vI s.size,.nilIface])/\(Lib.BuilderAt 175 5 B b (.pointer (sA b)) (bs++Lib.strCells s) w'/\Below B w w'):=by
 obtain⟨i0,hi,qn,qo,qj⟩:=info_parts jzev;go_enter Tryz.func98,Tryz.ntmps98;(go_wp2_with fail);(refine(jzey B b bs _ h).mono ?_;rintro e w1 ⟨rfl,h1,qi⟩;obtain⟨hB,v,qg,qf,qm⟩:=h1;have c0:w1.cell? (aD b 0)=some (.pointer (sA b)):=(by rw[Lib.cell_of_heap qg];rfl);have c1:w1.cell? (aD b 1)=some v:=by rw[Lib.cell_of_heap qg];rfl);(go_wp2_with (at_builtin;refine Lib.wpList_append_own_string _ rfl _ _ 29 9 rfl B 5 i0 Tryz.underlying29 Tryz.underlying9 hi qn qo qj _ _ _ rfl qf s rfl ?c3 ?c4 ?c5 ?_));(case c3=>unfold maxLen;omega);(case c4=>omega);(case c5=>have:=qi.size;omega);intro v' w2 qa qe _;have qk:b<w1.heap.size:=(by (rcases kQd b w1.heap.size with h'|h');{exact h'};simp[kQn h']at qg);have qh:w2.heap[b]?=some (.cells #[.pointer (sA b),v] 175 (0,0)):=(by rw[qe.block b qk (fun e=>qm e.symm)];exact qg);have d0:w2.cell? (aD b 0)=some (.pointer (sA b)):=(by rw[Lib.cell_of_heap qh];rfl);have d1:w2.cell? (aD b 1)=some v:=(by rw[Lib.cell_of_heap qh];rfl);have f1:w2.frozen? (aD b 1)=false:=Lib.frozen_of_heap qh 1;obtain⟨ao,n',cap,rfl⟩:∃ao n' cap,v'=.s ao n' cap:=(by (rcases qa.2 with⟨hv,_⟩|⟨g,cap,cur,hv,_⟩);{exact⟨_,_,_,hv⟩};exact⟨_,_,_,hv⟩);go_wp2;(go_ret2);refine⟨rfl,?_,?_⟩;{exact Lib.BuilderAt.put (T:=175) (e:=5) hB qh (bs':=bs++Lib.strCells s) (by simpa [Lib.strCells_length]using qa) (by decide)};exact(qi.grown qe (by have:=qi.size;omega) (fun k hk=>(qf.lt k hk).1)).setCell (p:=(aD b 1)) hB _
end Go.Proofs.YtllmekijiohgmaaGreatDoor
namespace Go.Proofs.YtllmekijiohgmaaGreatDoor
open Go.RowKit Go.Sort
theorem Tryz.info9:(Tryz.prog.info? 9).map (fun i=>(i.zero,i.size,i.bytes))=some (some (.string ⟨#[]⟩),1,16):=by kernel_rfl
def iB(l:List (List UInt8)):List Value:=l.map fun s=>Value.string ⟨s.toArray⟩
theorem jze0(l:List (List UInt8))(s:List UInt8):iB (l++[s])=iB l++[.string ⟨s.toArray⟩]:=by simp[iB]
theorem jze1(l:List (List UInt8))(i:Nat)(h:i<l.length):(iB l)[i]?=some (.string ⟨(l[i]?.getD []).toArray⟩):=by simp[iB,h]
def Tab(w:World):Prop:=Lib.TabIs Tryz.prog w "internal/strconv.uint64pow10" .u64 Lib.pow10Tab
theorem jze2:∃g,Tryz.prog.globalNamed "internal/strconv.uint64pow10" =some g:=by
 have h:(Tryz.prog.globalNamed "internal/strconv.uint64pow10").isSome=true:=(by kernel_rfl);exact Option.isSome_iff_exists.1 h
theorem Tab.K{w w'}(h:Tab w)(hx:Ext w w'):Tab w':=by
 obtain⟨g,hg⟩:=jze2;exact Joins.tab_stays hg h hx (yX _)
theorem uZ w(k:Nat)(os:Array Obj):Ext w (grow (w.drewN k) os):=
 ⟨rfl,rfl,rfl,by simp[grow],fun i hi=>by
  show((w.drewN k).heap++os)[i]?=_;rw[Array.getElem?_append_left (by show i<w.heap.size;omega)];rfl⟩
theorem jze3(r:Nat)w(ht:Tab w)(hr:r<1000000000):
  Calls Tryz.prog 96 #[vI r] w fun e w'=>e=.returned (.string ⟨(Lib.decDigits r).toArray⟩)/\Ext w w':=by
 refine(Tryz.strconv_Itoa r (by omega) (by omega) w ht).mono ?_;rintro e w' ⟨rfl,k,os,rfl⟩;refine⟨?_,uZ _ _ _⟩;unfold Lib.itoa;rw[if_neg (by omega),xL]
theorem jze4(k:Nat)w(hk:k<=9):
  Calls Tryz.prog 97 #[.string ⟨#[48]⟩,vI k] w fun e w'=>e=.returned (.string ⟨(List.replicate k (48:UInt8)).toArray⟩)/\Ext w w':=by
 refine(Tryz.strings_Repeat ⟨#[48]⟩ k w (by omega) (by show 1*k<=_;omega)).mono ?_;rintro e w' ⟨rfl,hb⟩;refine⟨?_,hb⟩;have:=Lib.repeatL_replicate 48 1 k;rw[Nat.mul_one]at this;rw[<-this];rfl
def fD(N M:Nat)(ps:List (List UInt8)):Prop:=Lib.decDigits N=(if M=0 then []else Lib.decDigits M)++ps.reverse.flatten
theorem jze5{N M:Nat}{ps:List (List UInt8)}(h:fD N M ps)(hM:0<M)(hl:M/1000000000=0):fD N 0 (ps++[Lib.decDigits (M%1000000000)]):=by
 unfold fD at*;rw[h,if_neg (by omega),if_pos rfl,List.reverse_append];rw[kQv (by omega)];simp
theorem jze6{N M:Nat}{ps:List (List UInt8)}(h:fD N M ps)(hl:0<M/1000000000):
  fD N (M/1000000000) (ps++[List.replicate (9-(Lib.decDigits (M%1000000000)).length) 48++Lib.decDigits (M%1000000000)]):=by
 unfold fD at*;rw[h,if_neg (by omega),if_neg (by omega),Dig.dec_nine M (by omega),List.reverse_append];simp
theorem jze7(a b:Array UInt8):((⟨a⟩:ByteArray)++⟨b⟩)=⟨a++b⟩:=ByteArray.ext (by simp[ByteArray.data_append])
def eO(M:Nat):List UInt8:=if M/1000000000=0 then Lib.decDigits (M%1000000000)else List.replicate (9-(Lib.decDigits (M%1000000000)).length) 48++Lib.decDigits (M%1000000000)
theorem jze8(M:Nat):(eO M).length<=9:=by
 have:=Dig.dec_len_nine (M%1000000000) (xT _ (by decide));unfold eO;split;{omega};simp only[yQ,xC];omega
theorem jze9{N M:Nat}{ps:List (List UInt8)}(h:fD N M ps)(hM:0<M):fD N (M/1000000000) (ps++[eO M]):=by
 unfold eO;split;{rename_i e;rw[e];exact jze5 h hM e};exact jze6 h (by omega)
theorem jzfa(l:List (List UInt8))(h:∀p∈l,p.length<=9):l.flatten.length<=9*l.length:=by
 (induction l with|nil=>simp|cons a l ih=>have h1:=h a (by simp);have h2:=ih (fun p hp=>h p (by simp[hp]));simp only[List.flatten_cons,yQ,kQo];omega)
structure rH(w wr:World)(N K k M:Nat)(ps:List (List UInt8))(v:Value)(A:OA)(n c:Nat):Prop where
 lt:M<10^(9*k)
 cnt:ps.length+k<=K
 txt:fD N M ps
 own:wr.ownsRow (w.heap.size+1) 9 1 v ps.length (iB ps)
 len:∀p∈ps,p.length<=9
 blk:Blk wr w.heap.size 38 #[.s A n c]
 num:aB wr A n c M
 nle:n<=1048576
 ext:Ext w wr
theorem rI A(n c N:Nat)w(h:aB w A n c N)(hn:n<=1048576)(ht:Tab w):
  Calls Tryz.prog 48 #[.agg #[.s A n c]] w fun e w'=>e=.returned (.string ⟨(Lib.decDigits N).toArray⟩)/\Ext w w':=by
 obtain⟨hb,e0⟩:=bF w #[.s A n c] 38;have hz:=h.eq_zero;by_cases hN:N=0;{(have zb:((n:Int)==0)=true:=by have:=hz.2 hN;subst this;rfl);subst hN;have cb:=hb.one.1;clear hz h ht;go_enter Tryz.func48,Tryz.ntmps48;(go_wp2_with fail);refine(cF A n c _).mono ?_;rintro e w1 ⟨rfl,qm⟩;have HX:=Hx (e0.tr qm);clear qm e0 hb cb;go_wp2;go_ret;exact⟨by rw[Lib.decDigits_one (by decide)];rfl,HX.o⟩};have zb:((n:Int)==0)=false:=yK.2 (by omega);have hK:N<10^(9*(2*n)):=(by obtain⟨ds,hl,_,qB,hv,_⟩:=h;have h1:=Dig.val_lt aY qB.lt;rw[hv,hl]at h1;refine yL h1 ?_;rw[show 9*(2*n)=18*n by omega,Nat.pow_mul];exact Nat.pow_le_pow_left (by decide) _);have cb:=hb.one.1;have H:=Hx h;have HT:=Hx ht;have HK:=Hx hK;have q7:2*n<=2097152:=(by omega);obtain⟨ti,hi,qT,qU,qO⟩:=info_parts Tryz.info9;clear h ht hz hN hK;go_enter Tryz.func48,Tryz.ntmps48;(go_wp2_with fail);refine(cF A n c _).mono ?_;rintro e w1 ⟨rfl,qm⟩;have HX:=Hx (e0.tr qm);have HB:=Hx (hb.K qm);clear qm e0 hb cb;go_wp2;generalize hKK:2*n=K at*;have S0:Hid (rH w w1 N K K N [] zN A n c):=Hx (⟨HK.o,by simp,by unfold fD;have:=H.o.eq_zero;rw[if_neg (by intro e;rw[this.2 e]at zb;cases zb)];simp,World.ownsRow_nil _ _ _ _,fun p hp=>by simp at hp,HB.o,H.o.K HX.o,hn,HX.o⟩);clear hKK HK HB H hn zb;go_loopg [3,4,5] K (fun k v _ _ wr=>∃(j M:Nat) (ps:List (List UInt8)) (A:OA) (n c:Nat),j=k/\rH w wr N K j M ps v A n c);(case atStart=>exact⟨K,N,[],A,n,c,rfl,S0.o⟩);clear S0;obtain⟨k,M,ps,A,n,c,rfl,qx⟩:=hrel;have ca:=qx.blk.one.1;have hz:=qx.num.eq_zero;have ST:=Hx qx;clear qx;by_cases hM:M=0;{(have zb:((n:Int)==0)=true:=by have:=hz.2 hM;subst this;rfl);clear hz;(go_wp2_with fail);refine(cF A n c _).mono ?_;rintro e w2 ⟨rfl,qk⟩;have qA:=Hx qk;clear qk ca;subst hM;have qe:=ST.o.txt;unfold fD at qe;rw[if_pos rfl,List.nil_append]at qe;have qX:=Hx qe;have O2:=Hx (ST.o.own.kept (iV qA.o) (iW _));have E2:=Hx (ST.o.ext.tr qA.o);have qN:ps.length<=2097152:=(by have:=ST.o.cnt;omega);have qG:=Hx ST.o.len;obtain⟨AV,cv,rfl⟩:=jzet O2.o;clear qe ST qA;go_wp2;clear zb;(go_loopw [7,36] (fun _ it wr=>∃i:Nat,i<=ps.length/\it=vI i/\Lib.IsBuilder 175 5 w2.heap.size w2.heap.size (Lib.byteCells ((ps.reverse.take i).flatten)) wr/\Below w2.heap.size w2 wr) (fun _ i _=>ps.length-(intOf i).toNat));(case atStart=>refine⟨0,yZ _,rfl,.inl ⟨yX _,zN,heap_alloc_new w2 _,World.ownsRow_nil _ _ _ _,by simp[Value.ownBlock]⟩,(eR w2).alloc _⟩);obtain⟨i,hi,rfl,qJ,qD⟩:=hrel;have BD:=Hx qJ;have BL:=Hx qD;clear qJ qD;by_cases vc:i<ps.length;{obtain⟨m,hm⟩:∃m,ps.length=m+1+i:=⟨ps.length-1-i,by omega⟩;have qC:m<ps.length:=(by omega);obtain⟨g,rfl,qW,qh⟩:∃g,AV=(sA g)/\g<w2.heap.size/\w2.cell? (aD g m)=some (.string ⟨(ps[m]?.getD []).toArray⟩):=(by (rcases O2.o.2 with⟨_,e⟩|⟨g,cap,cur,e,_⟩);{omega};(injection e with e1 e2 e3);subst e1 e3;exact⟨g,rfl,(O2.o.lt g rfl).2,(O2.o.cellAt m (by omega)).trans (jze1 ps m qC)⟩);have q6:=(BL.o.cell (p:=(aD g m)) qW).trans qh;have hx:((ps.length:Int)-1-(i:Int))=(m:Int):=(by omega);have qV:(m:Int)<(ps.length:Int):=(by omega);have qn:ps.reverse[i]?=some (ps[m]?.getD []):=(by rw[List.getElem?_reverse (by omega),show ps.length-1-i=m by omega,yG qC];rfl);have qY:(ps[m]?.getD []).length<=9:=(by rw[yG qC];exact qG.o _ (xR _));have qz:=Hx (show Lib.byteCells ((ps.reverse.take (i+1)).flatten)=Lib.byteCells ((ps.reverse.take i).flatten)++Lib.strCells ⟨(ps[m]?.getD []).toArray⟩ by rw[kQr,qn,List.flatten_append,Lib.byteCells_append];simp;rfl);have q9:((ps.reverse.take i).flatten).length<=9*ps.length:=(by have:=jzfa (ps.reverse.take i) (fun p hp=>qG.o p (List.mem_reverse.1 (xM hp)));simp only[xF,List.length_reverse]at this;omega);generalize ps[m]?.getD []=pm at*;clear hm qh qn;(go_wp2_with fail);refine(jzez w2.heap.size w2.heap.size _ ⟨pm.toArray⟩ _ BD.o (by rw[Lib.byteCells_length];show _+pm.toArray.size<=_;rw[show pm.toArray.size=pm.length by simp];omega) BL.o.size).mono ?_;rintro e w9 ⟨rfl,qL,qt⟩;have B9:=Hx qL;have L9:=Hx (BL.o.trans qt);clear qL qt hx;go_wp2;go_roundw;(case rel=>exact⟨i+1,by omega,by go_num,.inr (by rw[qz.o];exact B9.o),L9.o⟩);simp[intOf];omega};have qR:i=ps.length:=(by omega);subst qR;(go_wp2_with fail);refine(Tryz.Builder_String_any w2.heap.size w2.heap.size _ _ BD.o BL.o.size).mono ?_;rintro e w9 ⟨rfl,qt⟩;have HE:=Hx (E2.o.tr (BL.o.trans qt));clear qt;go_wp2;go_ret;refine⟨?_,HE.o⟩;rw[qX.o,yU (by simp)];rfl};have zb:((n:Int)==0)=false:=yK.2 (by omega);clear hz;(go_wp2_with fail);refine(cF A n c _).mono ?_;rintro e w2 ⟨rfl,qk⟩;have ca:=(ST.o.blk.K qk).one.1;have X2:=Hx qk;clear qk;(go_wp2_with fail);refine(pI A n c M 1000000000 _ (ST.o.num.K X2.o) (by have:=ST.o.nle;omega) (by decide) (by decide)).mono ?_;rintro e w3 ⟨A3,n3,c3,rfl,qw,qK⟩;have X3:=Hx (X2.o.tr qK);have R3:=Hx qw;have B3:=Hx (ST.o.blk.K X3.o);obtain⟨ca,fa⟩:=B3.o.one;have qM:M%1000000000<1000000000:=xT _ (by decide);have q8:n3<=n:=aB.len_le qw ST.o.num (kZi _ _);have qH:=qw.eq_zero;clear qK qw X2;have X4:Hid (Ext w (w3.setCell (aD w.heap.size 0) (.s A3 n3 c3))):=Hx (Ext.sT (ST.o.ext.tr X3.o) (p:=(aD w.heap.size 0)) (yX _) _);generalize hrm:M%1000000000=r at*;have HR:=Hx hrm;clear hrm;(go_wp2_with fail);refine(jze3 r _ (HT.o.K X4.o) qM).mono ?_;rintro e w5 ⟨rfl,qp⟩;have X5:=Hx (X4.o.tr qp);have B5:=Hx ((B3.o.sT 0 (.s A3 n3 c3)).K qp);have R5:=Hx ((R3.o.sT (p:=(aD w.heap.size 0)) B3.o (by decide) (.s A3 n3 c3)).K qp);have g4:w3.grownBy (w3.setCell (aD w.heap.size 0) (.s A3 n3 c3)) (some w.heap.size):=bI w3 w.heap.size 0 _;have O5:=Hx (((ST.o.own.kept (iV X3.o) (iW _)).kept g4 (jzef (ST.o.own.kept (iV X3.o) (iW _)) (by omega))).kept (iV qp) (iW _));have ca:=B5.o.one.1;clear qp g4 X4 X3 B3 R3 fa;have ve:=Dig.dec_len_nine r qM;generalize hdr:Lib.decDigits r=dr at*;have qS:=Hx hdr;clear hdr;(go_wp2_with fail);refine(cF A3 n3 c3 _).mono ?_;rintro e w6 ⟨rfl,qo⟩;have X6:=Hx (X5.o.tr qo);have B6:=Hx (B5.o.K qo);have R6:=Hx (R5.o.K qo);have O6:=Hx (O5.o.kept (iV qo) (iW _));clear qo X5 B5 R5 O5 ca;have PP:=Hx (show eO M=if M/1000000000=0 then dr else List.replicate (9-dr.length) 48++dr by unfold eO;rw[HR.o,qS.o]);have qI:((n3:Int)==0)=decide (M/1000000000=0):=(by by_cases hq:M/1000000000=0;{have:=qH.2 hq;subst this;rw[yO hq];rfl};rw[yP hq];exact yK.2 (by omega));rw[qI];generalize hz9:decide (M/1000000000=0)=zz at*;have qy:=Hx hz9;clear qI hz9 qH;(go_upto_if 23 with fail);go_cut [5] (fun s wx=>s=.string ⟨(eO M).toArray⟩/\Ext w6 wx);(case first=>cases zz;(case true=>have hp:=PP.o;rw[if_pos (of_decide_eq_true qy.o)]at hp;have HP:=Hx hp;clear hp;go_wp2;go_meet;exact⟨by rw[HP.o],eR _⟩);have hp:=PP.o;rw[if_neg (of_decide_eq_false qy.o)]at hp;have HP:=Hx hp;clear hp;(go_wp2_with fail);rw[show(9-(dr.length:Int))=((9-dr.length:Nat):Int) by omega];refine(jze4 (9-dr.length) _ (by omega)).mono ?_;rintro e w7 ⟨rfl,qg⟩;have X7:=Hx qg;clear qg;go_wp2;go_meet;refine⟨?_,X7.o⟩;rw[HP.o,jze7];congr 2;apply Array.ext';simp);obtain⟨rfl,qg⟩:=hcut;have X7:=Hx (X6.o.tr qg);have B7:=Hx (B6.o.K qg);have R7:=Hx (R6.o.K qg);have O7:=Hx (O6.o.kept (iV qg) (iW _));have vd:=ST.o.cnt;clear qg X6 B6 R6 O6 qy PP;(go_wp2_with (at_builtin;go_must (refine jzed _ rfl (.tmp 30) (.tmp 32) 167 rfl (w.heap.size+1) 9 ti (.string ⟨#[]⟩) 16 Tryz.underlying167 hi qT qU qO rfl u3 ps.length (iB ps) rfl ?c0 (sA wc.heap.size) 1 1 [.string ⟨(eO M).toArray⟩] rfl rfl ?c1 ?c2 ?c3 ?c4 ?c5 ?c6 ?_)));(case c0=>exact O7.o.alloc _);(case c1=>exact Rd.new _ _ _ rfl rfl);(case c2=>intro h;cases h);(case c3=>intro u hu;simp at hu;subst hu;rfl);(case c4=>unfold maxLen;omega);(case c5=>omega);(case c6=>have:=B7.o.lt;simp;omega);intro v8 w8 qf qa _;have qu:(wc.alloc (.cells #[.string ⟨(eO M).toArray⟩] 9)).grownBy w8 u3.ownBlock:=qa;have qj:∀k,u3.ownBlock=some k->w.heap.size+1<=k:=fun k hk=>(O7.o.lt k hk).1;have qi:Blk w8 w.heap.size 38 #[.s A3 n3 c3]:=(qu.block _ (B7.o.alloc _).lt (fun e=>by have:=qj _ e.symm;omega)).trans (B7.o.alloc _);have q0:1<=k:=(by (rcases kQm k with e|e);{exfalso;have:=ST.o.lt;rw[e]at this;simp at this;omega};exact e);have qE:Ext w w8:=Below.grown (X7.o.alloc _) qu (X7.o.alloc _).size (fun k hk=>by have:=qj k hk;omega);have qF:aB w8 A3 n3 c3 (M/1000000000):=(by obtain⟨ds,q1,q2,q3,q4,q5⟩:=R7.o.K ((eR wc).alloc (.cells #[.string ⟨(eO M).toArray⟩] 9));refine⟨ds,q1,q2,q3,q4,q5.grown qu (fun hx ad had e=>?_)⟩;obtain⟨bb,oo,cs,fr,e1,e2,_⟩:=q5 hx;rw[had]at e1;injection e1 with e1;(subst e1;obtain⟨c9,f9,e9⟩:=Lib.ownsRow_kind (O7.o.alloc (.cells #[.string ⟨(eO M).toArray⟩] 9)) _ e.symm;rw[e2]at e9;injection e9 with e9);(injection e9 with _ e9);revert e9;decide)
 have SN:=Hx (show rH w w8 N K (k-1) (M/1000000000) (ps++[eO M]) v8 A3 n3 c3 from
  ⟨by
   rw[kZp (by decide)];have:=ST.o.lt;rw[show 9*k=9*(k-1)+9 by omega,Nat.pow_add]at this;exact this,by rw[yQ,kZd];omega,jze9 ST.o.txt (by omega),by rw[yQ,kZd,jze0];exact qf,fun p hp=>by
    rcases xY.1 hp with h|h
    ·
     exact ST.o.len p h
    rw[xD.1 h];exact jze8 M,qi,qF,by have:=ST.o.nle;omega,qE⟩)
 clear qf qa qu qj qi qE qF;go_wp2;go_roundg (k-1);(case measure=>omega);exact⟨k-1,M/1000000000,ps++[eO M],A3,n3,c3,rfl,SN.o⟩
def dT(q:Rat):List UInt8:=(if q.num<0 then [45]else [])++Lib.decDigits q.num.natAbs++(if q.den=1 then []else [47]++Lib.decDigits q.den)
theorem wA:∀(k N:Nat),N<10^(k+1)->Lib.nDigits N<=k+1
 |0,N,h=>by rw[Lib.nDigits_small (by simpa using h)];exact yX _
 |k+1,N,h=>by
  by_cases hN:N<10
  ·rw[Lib.nDigits_small hN];omega
  ·rw[Lib.nDigits_big hN]
   have:=wA k (N/10) (by rw[vD]at h;omega);omega
theorem nD{w}{A}{n c N:Nat}(h:aB w A n c N)(hn:n<=1048576):(Lib.decDigits N).length<=20000000:=by
 obtain⟨ds,hl,_,qa,hv,_⟩:=h;have h1:=Dig.val_lt aY qa.lt;rw[hv,hl]at h1;have h2:N<10^(18*n+1):=(by refine yL h1 (yY (Nat.pow_le_pow_left (show B32<=10^18 by decide) n) ?_);rw[<-Nat.pow_mul];exact kQk (by decide) (by omega));rw[Lib.decDigits_length];have:=wA _ _ h2;omega
theorem wD(neg:Bool)A(n c:Nat)A'(n' c':Nat)(q:Rat)w(h:aO w neg A n c A' n' c' q)(hn:n<=1048576)(hn':n'<=1048576)(ht:Tab w):
  Calls Tryz.prog 16 #[.agg #[.bool neg,.s A n c,.s A' n' c']] w fun e w'=>e=.returned (.string ⟨(dT q).toArray⟩)/\Ext w w':=by
 obtain⟨qa,e0⟩:=bF w #[.bool neg,.s A n c,.s A' n' c'] 40;have hz:=h.2.2.eq_zero;have qg:(((n':Int)==0)=true/\q.den=1)\/(((n':Int)==0)=false/\q.den≠1/\dk q=q.den):=(by have hd:=q.den_nz;unfold dk at hz⊢;by_cases h1:q.den=1;{rw[if_pos h1]at hz;have:=hz.2 rfl;subst this;exact .inl ⟨rfl,h1⟩};rw[if_neg h1]at hz⊢;exact .inr ⟨yK.2 (by omega),h1,rfl⟩);have qu:=nD h.2.1 hn;have qo:=nD h.2.2 hn';have H:=Hx h;have HT:=Hx ht;have qj:=h.1;have SG:=Hx (show(if q.num<0 then [45]else([]:List UInt8))=if neg then [45]else [] by rw[qj];simp);clear h ht hz qj;obtain⟨⟨i0,i1,i2⟩,g0,g1,g2⟩:=qa.t3;have goal:∀(s:ByteArray),s.data.toList=dT q->s=⟨(dT q).toArray⟩:=fun s hs=>(by rw[<-hs])
 have qi:=Hx goal;clear goal;have key:∀b1:Bool,neg=b1->Calls Tryz.prog 16 #[.agg #[.bool neg,.s A n c,.s A' n' c']] w fun e w'=>e=.returned (.string ⟨(dT q).toArray⟩)/\Ext w w':=by
  intro b1 qp;subst qp;rcases qg with⟨zb,hd⟩|⟨zb,hd,hdk⟩
  ·have HD:=Hx hd;clear hd;cases neg
   all_goals
    go_enter Tryz.func16,Tryz.ntmps16
    go_wp2_with fail
    refine(rI A n c q.num.natAbs _ (H.o.2.1.K e0) hn (HT.o.K e0)).mono ?_;rintro e w1 ⟨rfl,qe⟩;have qa:=qa.K qe;obtain⟨⟨i0,i1,i2⟩,g0,g1,g2⟩:=qa.t3;have HX:=Hx (e0.tr qe);clear qe
    go_wp2_with fail
    refine(cF A' n' c' _).mono ?_;rintro e w2 ⟨rfl,qf⟩;have qh:=Hx (HX.o.tr qf);clear qf;go_wp2;go_ret;refine⟨congrArg (fun s=>Ending.returned (.string s)) (qi.o _ ?_),qh.o⟩;unfold dT;rw[SG.o,HD.o];simp[ByteArray.data_append]
  have HD:=Hx hd;have qm:=Hx hdk;clear hd hdk;cases neg
  all_goals
   go_enter Tryz.func16,Tryz.ntmps16
   go_wp2_with fail
   refine(rI A n c q.num.natAbs _ (H.o.2.1.K e0) hn (HT.o.K e0)).mono ?_;rintro e w1 ⟨rfl,qe⟩;have qa:=qa.K qe;obtain⟨⟨i0,i1,i2⟩,g0,g1,g2⟩:=qa.t3;have HX:=Hx (e0.tr qe);clear qe
   go_wp2_with fail
   refine(cF A' n' c' _).mono ?_;rintro e w2 ⟨rfl,qf⟩;have qh:=Hx (HX.o.tr qf);have qa:=qa.K qf;obtain⟨⟨i0,i1,i2⟩,g0,g1,g2⟩:=qa.t3;clear qf
   go_wp2_with fail
   refine(rI A' n' c' (dk q) _ (H.o.2.2.K qh.o) hn' (HT.o.K qh.o)).mono ?_;rintro e w3 ⟨rfl,qk⟩;have qt:=qo;have qn:=Hx (qh.o.tr qk);clear qk;go_wp2;go_ret;refine⟨congrArg (fun s=>Ending.returned (.string s)) (qi.o _ ?_),qn.o⟩;unfold dT;rw[SG.o,if_neg HD.o,qm.o];simp[ByteArray.data_append]
 exact key neg rfl
end Go.Proofs.YtllmekijiohgmaaGreatDoor
namespace Go.Proofs.YtllmekijiohgmaaGreatDoor
open Go.ChangeShapes Go.WideShapes Go.ChangeAt Go.RowKit
theorem Tryz.own:ownKnob Tryz.prog.godebug=none:=by kernel_rfl
theorem Tryz.laidOut:laidOutB Tryz.prog=true:=by kernel_rfl
abbrev iZ:List (String×DataW Unit):=Rows.failoverSharesRow.laid
theorem jzfb{W}(h:laidMetH Tryz.prog iZ W):Tab W:=by
 rw[MakeChecks.laidMetH_plain _ _ _ (by kernel_rfl)]at h;have h0:laidMet Tryz.prog iZ W:=h;have h3:laidMet Tryz.prog [("internal/strconv.uint64pow10",Lib.tabData .u64 Lib.pow10Tab)] W:=h0.tail.tail;exact Lib.tabIs_of_head (g:=2) (t:=305) (by kernel_rfl) (by kernel_rfl) Tryz.underlying305 Tryz.underlying198 (by kernel_rfl) (by kernel_rfl) h3
theorem jzfc(os:Os)(args:Array Value):laidMetH Tryz.prog iZ ((World.doorLaid Tryz.prog 24 os).forCall (fun _ _=>0) ⟨#[],args,[]⟩).memory:=
 laidMetH_of_parts3 (fuel:=8) (laidMet_of_run' 8 (by kernel_rfl) (by kernel_rfl)) (by kernel_rfl) (by kernel_rfl)
end Go.Proofs.YtllmekijiohgmaaGreatDoor
namespace Go.Proofs.YtllmekijiohgmaaGreatDoor
open Go.RowKit
theorem wE(a b:Rat):a*b=mkQ (decide (a.num<0) !=decide (b.num<0)) (a.num.natAbs*b.num.natAbs) (a.den*b.den):=by
 have hs:(if(decide (a.num<0) !=decide (b.num<0))=true then-((a.num.natAbs*b.num.natAbs:Nat):Int)else((a.num.natAbs*b.num.natAbs:Nat):Int))=a.num*b.num:=(by (rw[kZk];rcases Int.lt_or_le a.num 0 with ha|ha <;> rcases Int.lt_or_le b.num 0 with hb|hb);{rw[show((a.num.natAbs:Nat):Int)= -a.num by omega,show((b.num.natAbs:Nat):Int)= -b.num by omega];simp only[ha,hb,decide_true,bne_self_eq_false,kZq,if_false,Int.neg_mul_neg]};{rw[show((a.num.natAbs:Nat):Int)= -a.num by omega,show((b.num.natAbs:Nat):Int)=b.num by omega];simp only[ha,show¬b.num<0 by omega,decide_true,decide_false,Bool.true_bne,Bool.not_false,if_true,Int.neg_mul,Int.neg_neg]};{rw[show((a.num.natAbs:Nat):Int)=a.num by omega,show((b.num.natAbs:Nat):Int)= -b.num by omega];simp only[hb,show¬a.num<0 by omega,decide_true,decide_false,Bool.false_bne,if_true,Int.mul_neg,Int.neg_neg]};rw[show((a.num.natAbs:Nat):Int)=a.num by omega,show((b.num.natAbs:Nat):Int)=b.num by omega];simp[show¬a.num<0 by omega,show¬b.num<0 by omega]);unfold mkQ;rw[hs];(conv=>lhs;rw[<-Rat.mkRat_self a, <-Rat.mkRat_self b]);rw[Rat.mkRat_mul_mkRat]
def G6:Nat:=1000000
section
variable {P:Program} (w:World)
end
theorem Rd.ints{w}{A}{ds:LN}(h:Rd w A (ints ds)){k:Nat}(hk:k<ds.length):
  ∃b o:Nat,A=some (aD b o)/\b<w.heap.size/\∀i,i<ds.length->w.cell? (aD b (o+i))=some (vI ((ds[i]?.getD 0:Nat):Int)):=by
 obtain⟨b,o,e,qa,hc⟩:=h.at_ (i:=k) (by rw[iQ];exact hk);refine⟨b,o,e,qa,fun i hi=>(hc i (by rw[iQ];exact hi)).trans ?_⟩;simp[Go.Proofs.YtllmekijiohgmaaGreatDoor.ints,hi]
def OI(w:World)(B:Nat)(v:Value)(l:LN):Prop:=w.ownsRow B 3 1 v l.length (ints l)
theorem OI.nil w(B:Nat):OI w B zN []:=World.ownsRow_nil _ _ _ _
theorem OI.K{w w'}{B:Nat}{v:Value}{l:LN}(h:OI w B v l)(hx:Ext w w'):OI w' B v l:=
 World.ownsRow.kept (row:=none) h ⟨hx.os,hx.tape,hx.output,hx.size,fun k hk _=>hx.block k hk⟩ (by
  by_cases e:v.ownBlock=none
  ·exact .inl e
  ·exact .inr e)
theorem OI.rdT{w}{B:Nat}{v:Value}{l:LN}(h:OI w B v l):∃(A:OA) (c:Nat),v=.s A l.length c/\l.length<=c/\RdT w 3 A (ints l):=iT h rfl
section
variable {w w':World} {g n:Nat} {f f':Nat->Int}
end
end Go.Proofs.YtllmekijiohgmaaGreatDoor
namespace Go.Proofs.YtllmekijiohgmaaGreatDoor
open Go.RowKit Go.Sort
end Go.Proofs.YtllmekijiohgmaaGreatDoor
namespace Go.Proofs.YtllmekijiohgmaaGreatDoor
open Go.RowKit
def SzQ(q:Rat)(k:Nat):Prop:=q.num.natAbs<B32^k/\q.den<B32^k
def QR(w:World)(cs:List Value)(q:Rat):Prop:=
 ∃(neg:Bool) (A:OA) (n c:Nat) (A':OA) (n' c':Nat),cs=[.bool neg,.s A n c,.s A' n' c']/\aO w neg A n c A' n' c' q
theorem QR.K{w w'}{cs:List Value}{q:Rat}(h:QR w cs q)(hx:Ext w w'):QR w' cs q:=by
 obtain⟨neg,A,n,c,A',n',c',e,h1⟩:=h;exact⟨neg,A,n,c,A',n',c',e,h1.K hx⟩
theorem aB.lenOf{w}{A}{n c N k:Nat}(h:aB w A n c N)(hN:N<B32^k):n<=k:=by
 obtain⟨ds,rfl,_,qa,rfl,_⟩:=h;exact qa.len_le fL hN
theorem aO.lens{w}{neg:Bool}{A}{n c:Nat}{A'}{n' c':Nat}{q:Rat}{k:Nat}(h:aO w neg A n c A' n' c' q)(hs:SzQ q k):n<=k/\n'<=k:=by
 refine⟨h.2.1.lenOf hs.1,h.2.2.lenOf ?_⟩;unfold dk;split;{exact kQy aY};exact hs.2
theorem lN{m:Nat}:∀(css:List (List Value)),(∀cs∈css,cs.length=m)->∀(i k:Nat),i<css.length->k<m->css.flatten[i*m+k]?=(css[i]?.getD [])[k]?
 | [],_,i,k,hi,_=>by simp at hi
 |cs::css,h,0,k,_,hk=>by
  rw[Nat.zero_mul,kQu,List.flatten_cons,yR (by rw[h cs (by simp)];exact hk)];rfl
 |cs::css,h,i+1,k,hi,hk=>by
  have hl:=h cs (by simp);rw[List.flatten_cons,yS (by rw[hl,xP,xQ];omega),hl,show(i+1)*m+k-m=i*m+k by rw[xP,xQ];omega];rw[lN css (fun c hc=>h c (by simp[hc])) i k (by simpa using hi) hk];simp
theorem jzfd{m:Nat}(css:List (List Value))(h:∀cs∈css,cs.length=m):css.flatten.length=css.length*m:=by
 (induction css with|nil=>simp|cons a l ih=>rw[List.flatten_cons,yQ,h a (by simp),ih (fun c hc=>h c (by simp[hc])),kQo,xP,xQ,kZl])
def or3(x y z:Int):Int:=if x≠0 then x else if y≠0 then y else z
def dJ:LN->LN->Int
 | [],[]=>0
 | [],_::_=> -1
 |_::_,[]=>1
 |a::x,b::y=>if a<b then-1 else if a=b then dJ x y else 1
def wF(p q:Rat)(x y:LN):Int:=or3 (dP p q) (bM x.length y.length) (dJ x y)
def prQ(ps:LQ)(arcs:LN):Rat:=arcs.foldl (fun s a=>s+ps[a]?.getD 0) 0
structure Lb where
 known:Bool
 done:Bool
 arcs:LN
def fH(ps:LQ)(x y:LN):Bool:=decide (wF (prQ ps x) (prQ ps y) x y<0)
theorem SzQ.mono{q:Rat}{k m:Nat}(h:SzQ q k)(hm:k<=m):SzQ q m:=⟨yL h.1 (kQk aY hm),yL h.2 (kQk aY hm)⟩
theorem SzQ.zero:SzQ 0 1:=⟨by decide,by decide⟩
theorem SzQ.add{a b:Rat}{k m:Nat}(ha:SzQ a k)(hb:SzQ b m):SzQ (a+b) (k+m+1):=by
 have hd:a.den*b.den≠0:=kQx a.den_nz b.den_nz;have e:=Rat.add_def' a b;obtain⟨g,hg,e1,e2⟩:∃g:Nat,g≠0/\a.num*b.den+b.num*a.den=(a+b).num*g/\a.den*b.den=(a+b).den*g:=(by have hq:mkRat (a.num*b.den+b.num*a.den) (a.den*b.den)=⟨(a+b).num,(a+b).den,(a+b).den_nz,(a+b).reduced⟩:=e.symm;exact Rat.mkRat_num_den hd hq);have h1:1<=g:=(by omega);have hk:0<B32^k:=kQy aY;have hm:0<B32^m:=kQy aY;have p1:a.num.natAbs*b.den<B32^k*B32^m:=kZb ha.1 (kQe hb.2) hm;have p2:b.num.natAbs*a.den<B32^m*B32^k:=kZb hb.1 (kQe ha.2) hk;have p3:a.den*b.den<B32^k*B32^m:=kZb ha.2 (kQe hb.2) hm;have hB:B32^(k+m+1)=B32^k*B32^m*B32:=(by rw[vD,Nat.pow_add]);rw[vE (B32^m)]at p2;unfold SzQ;rw[hB];generalize B32^k*B32^m=Z at*;have hZ:2*Z<=Z*B32:=(by rw[vE];exact kQh _ (by decide));constructor;{(have q1:(a.num*b.den+b.num*a.den).natAbs=(a+b).num.natAbs*g:=by rw[e1,Int.natAbs_mul];rfl);have q2:(a.num*b.den+b.num*a.den).natAbs<=a.num.natAbs*b.den+b.num.natAbs*a.den:=(by refine yY (Int.natAbs_add_le _ _) ?_;rw[Int.natAbs_mul,Int.natAbs_mul];exact yX _);have q3:(a+b).num.natAbs*1<=(a+b).num.natAbs*g:=kQh _ h1;omega};have q3:(a+b).den*1<=(a+b).den*g:=kQh _ h1;omega
theorem SzQ.pr{ps:LQ}{P:Nat}(hP:1<=P)(h:∀q∈ps,SzQ q P)(arcs:LN):SzQ (prQ ps arcs) (1+arcs.length*(P+1)):=by
 have key:∀(l:LN) (s:Rat) (k:Nat),SzQ s k->SzQ (l.foldl (fun s a=>s+ps[a]?.getD 0) s) (k+l.length*(P+1)):=(by intro l;(induction l with|nil=>intro s k hs;simpa using hs|cons a l ih=>intro s k hs;have h1:SzQ (ps[a]?.getD 0) P:=(by by_cases ha:a<ps.length;{rw[yG ha];exact h _ (xR ha)};rw[yI (by omega)];exact SzQ.zero.mono hP);have:=ih _ _ (hs.add h1);rw[List.foldl_cons];refine this.mono ?_;rw[kQo,xP,xQ];omega));exact key arcs 0 1 SzQ.zero
theorem RdT.other{w w'}{t t':TypeId}{A}{xs:List Value}{g:Nat}{cs':Array Value}(h:RdT w t A xs)(hg:w.grownBy w' (some g))(hb:Blk w g t' cs')(hne:t≠t'):RdT w' t A xs:=
 h.grown hg (fun hx ad had e=>by
  obtain⟨b,o,cs,fr,e1,e2,_⟩:=h hx;rw[had]at e1;injection e1 with e1
  subst e1;injection e with e
  subst e;unfold Blk at hb;rw[e2]at hb;injection hb with hb
  injection hb with _ hb
  exact hne hb)
theorem aB.other{w w'}{A}{n c N g:Nat}{t':TypeId}{cs':Array Value}(h:aB w A n c N)(hg:w.grownBy w' (some g))(hb:Blk w g t' cs')(hne:168≠t'):aB w' A n c N:=by
 obtain⟨ds,h1,h2,h3,h4,h5⟩:=h;exact⟨ds,h1,h2,h3,h4,h5.other hg hb hne⟩
theorem aO.other{w w'}{neg:Bool}{A}{n c:Nat}{A'}{n' c':Nat}{q:Rat}{g:Nat}{t':TypeId}{cs':Array Value}(h:aO w neg A n c A' n' c' q)(hg:w.grownBy w' (some g))(hb:Blk w g t' cs')(hne:168≠t'):aO w' neg A n c A' n' c' q:=
 ⟨h.1,h.2.1.other hg hb hne,h.2.2.other hg hb hne⟩
theorem LL.other{w w'}{gl N g:Nat}{X:Nat->LN}{t':TypeId}{cs':Array Value}(h:LL w gl N X)(hg:w.grownBy w' (some g))(hb:Blk w g t' cs')(h1:28≠t')(h2:3≠t'):LL w' gl N X:=by
 obtain⟨V,k1,k2⟩:=h;refine⟨V,(hg.block gl k1.lt (fun e=>k1.ne_ hb h1 (by injection e))).trans k1,fun i hi=>?_⟩;obtain⟨A,c,k3,k4,k5⟩:=k2 i hi;exact⟨A,c,k3,k4,k5.other hg hb h2⟩
theorem wG{m:Nat}:∀(css:List (List Value)),(∀cs∈css,cs.length=m)->∀(i k:Nat) (v:Value),i<css.length->k<m->css.flatten.set (i*m+k) v=(css.set i ((css[i]?.getD []).set k v)).flatten
 | [],_,i,k,v,hi,_=>by simp at hi
 |cs::css,h,0,k,v,_,hk=>by
  rw[Nat.zero_mul,kQu,List.flatten_cons,List.set_append_left _ _ (by rw[h cs (by simp)];exact hk)];rfl
 |cs::css,h,i+1,k,v,hi,hk=>by
  have hl:=h cs (by simp);rw[List.flatten_cons,List.set_append_right _ _ (by rw[hl,xP,xQ];omega),hl,show(i+1)*m+k-m=i*m+k by rw[xP,xQ];omega];rw[wG css (fun c hc=>h c (by simp[hc])) i k v (by simpa using hi) hk];simp
def zeroCells:List Value:=[.bool false,.bool false,.bool false,zN,zN,zN]
theorem rJ w:aO w false none 0 0 none 0 0 0:=⟨by decide,aB.zero _ _ _,aB.zero _ _ _⟩
theorem jzfe AX(cx:Nat)(l:LN)w(hq:RdT w 3 AX (ints l))(hl:l.length<=1000):
  Calls Tryz.prog 189 #[.s AX l.length cx] w fun e w'=>∃v,e=.returned v/\w'.ownsRow w.heap.size 3 1 v l.length (ints l)/\Ext w w':=by
 (obtain⟨ti,hi,qi,qg,qh⟩:=info_parts Tryz.info3;cases AX with|none=>have hn:l=[]:=(by (cases l with|nil=>rfl|cons a l=>obtain⟨_,_,_,_,e,_⟩:=hq (by simp[ints]);cases e));subst hn;refine(Tryz.slices_Clone_nil 0 cx w).mono ?_;rintro e w' ⟨rfl,rfl⟩;exact⟨_,rfl,World.ownsRow_nil _ _ _ _,eR _⟩|some ad=>by_cases qf:l=[];{subst qf;refine(Tryz.slices_Clone_int_zero ad cx w).mono ?_;rintro e w' ⟨v',rfl,qa,_,qe⟩;exact⟨v',rfl,qa,qe⟩};obtain⟨b,o,cs,fr,e,hb,hc⟩:=hq (by simpa [ints]using qf);injection e with e;subst e;refine(Tryz.slices_Clone ti (vI 0) 1 8 hi qi qg qh rfl (by decide) (fun w=>by simp[Go.sizeOf,typeInfo,hi,qg]) b o l.length cx (ints l) w (by simp[ints]) (by unfold maxLen;omega) (by omega) ?_ (jzee _)).mono ?_;{intro j u hj;have qj:=(yH.1 hj).1;rw[cell_of_row w b (o+j) cs _ fr hb,hc j qj];exact hj};rintro e w' ⟨v',rfl,qa,_,qe⟩;exact⟨v',rfl,qa,qe⟩)
def jzff(i:Nat):Lk:=⟨i,((i+1)%4:Nat),1,1,0,1,0⟩
def eY:Tp:=⟨4,[],(List.range 4).map jzff⟩
theorem jzfg(w:World)(g:Nat)(a b c:Value):w.grownBy (((w.setCell (aD g 0) a).setCell (aD g 1) b).setCell (aD g 2) c) (some g):=
 ((bI w g 0 a).trans (bI _ g 1 b)).trans (bI _ g 2 c)
end Go.Proofs.YtllmekijiohgmaaGreatDoor
namespace Go.Proofs.YtllmekijiohgmaaGreatDoor
open Go.RowKit Go.Sort
theorem rK(M i:Nat):(UInt8.ofNat (48+M/10^i%10)).toNat=48+M/10^i%10:=by
 have:M/10^i%10<10:=xT _ (by decide);rw[UInt8.toNat_ofNat'];omega
theorem nE{w W:World}{nb:Bool}{A A'}{n c n' c' g:Nat}{q:Rat}{cs:Array Value}(h:aO W nb A n c A' n' c' q)(hb:Blk W g 40 cs)(hg:w.heap.size<=g)(hx:Ext w W):
  aO (((W.setCell (aD g 0) (.bool nb)).setCell (aD g 1) (.s A n c)).setCell (aD g 2) (.s A' n' c')) nb A n c A' n' c' q/\Ext w (((W.setCell (aD g 0) (.bool nb)).setCell (aD g 1) (.s A n c)).setCell (aD g 2) (.s A' n' c')):=
 ⟨h.other (jzfg W g _ _ _) hb (by decide),((hx.sT (p:=(aD g 0)) hg _).sT (p:=(aD g 1)) hg _).sT (p:=(aD g 2)) hg _⟩
end Go.Proofs.YtllmekijiohgmaaGreatDoor
namespace Go.Proofs.YtllmekijiohgmaaGreatDoor
open Go.RowKit
theorem jzfh(a b:Rat)(h:b≠0):a/b=mkQ (decide (a.num<0) !=decide (b.num<0)) (a.num.natAbs*b.den) (b.num.natAbs*a.den):=by
 have hn:b.num≠0:=fun e=>h (Rat.num_eq_zero.1 e);have h1:(b⁻¹).num.natAbs=b.den:=(by rw[Rat.num_inv,Int.natAbs_mul,Int.natAbs_sign_of_ne_zero hn];simp);have h2:(b⁻¹).den=b.num.natAbs:=(by rw[Rat.den_inv,if_neg hn]);have h3:decide ((b⁻¹).num<0)=decide (b.num<0):=(by (rw[Rat.num_inv];have hd:=b.den_pos;rcases Int.lt_or_gt_of_ne hn with x|x);{rw[Int.sign_eq_neg_one_of_neg x];simp[x];omega};rw[Int.sign_eq_one_of_pos x];simp;omega);rw[Rat.div_def,wE,h1,h2,h3,vE a.den]
theorem jzfi(q:Rat)(h:q≠0):(!decide (q.num<0))=decide ((-q).num<0):=by
 have hn:q.num≠0:=fun e=>h (Rat.num_eq_zero.1 e);have:(-q).num= -q.num:=rfl;rw[this];rcases Int.lt_or_gt_of_ne hn with x|x
 ·rw[yO x,yP (by omega)];rfl
 rw[yP (by omega),yO (by omega)];rfl
theorem aO.neg{w}{neg:Bool}{A}{n c:Nat}{A'}{n' c':Nat}{q:Rat}(h:aO w neg A n c A' n' c' q)(h0:q≠0):aO w (!neg) A n c A' n' c' (-q):=by
 refine⟨?_,?_,h.2.2⟩;{rw[h.1];exact jzfi q h0};have:(-q).num.natAbs=q.num.natAbs:=(by show(-(q.num)).natAbs=_;omega);rw[this];exact h.2.1
theorem jzfj(na:Bool)A1(n1 c1:Nat)A1'(n1' c1':Nat)(a:Rat)w(ha:aO w na A1 n1 c1 A1' n1' c1' a):
  Calls Tryz.prog 73 #[.agg #[.bool na,.s A1 n1 c1,.s A1' n1' c1']] w fun e w'=>∃nb,e=.returned (.agg #[.bool nb,.s A1 n1 c1,.s A1' n1' c1'])/\aO w' nb A1 n1 c1 A1' n1' c1' (-a)/\Ext w w':=by
 obtain⟨qf,qa,e0⟩:=dS w #[.bool na,.s A1 n1 c1,.s A1' n1' c1'] 40 #[.bool false,zN,zN] 40;have HA:=Hx ha;by_cases h0:a=0;{have hs:aQ a=0:=gX.2 h0;have HN:=Hx (show-a=a by rw[h0];rfl);have HS:=Hx hs;clear ha h0 hs;go_enter Tryz.func73,Tryz.ntmps73;(go_wp2_with fail);refine(eC na A1 n1 c1 A1' n1' c1' a _ (HA.o.K e0)).mono ?_;rintro e w1 ⟨rfl,qe⟩;rw[HS.o];have qf:=qf.K qe;have qa:=qa.K qe;obtain⟨⟨i0,i1,i2⟩,h0,h1,h2⟩:=qf.t3;obtain⟨⟨k0,k1,k2⟩,f0,f1,f2⟩:=qa.t3;have E1:=Hx (e0.tr qe);clear qe e0;go_wp2;refine bodyPost_ret (v:=.agg #[.bool na,.s A1 n1 c1,.s A1' n1' c1']) (by simp[results,Tryz.results73,go_sem,(((qa.sT 0 _).sT 1 _).sT 2 _).cell]) rfl ?_;obtain⟨q1,q2⟩:=nE (w:=w) (HA.o.K E1.o) qa (by omega) E1.o;exact⟨na,rfl,by rw[HN.o];exact q1,q2⟩};have hs:(aQ a==0)=false:=yK.2 (fun h=>h0 (gX.1 h));have HN:=Hx (ha.neg h0);clear ha h0;go_enter Tryz.func73,Tryz.ntmps73;(go_wp2_with fail);refine(eC na A1 n1 c1 A1' n1' c1' a _ (HA.o.K e0)).mono ?_;rintro e w1 ⟨rfl,qe⟩;generalize aQ a=sa at*;have qf:=qf.K qe;have qa:=qa.K qe;obtain⟨⟨i0,i1,i2⟩,h0,h1,h2⟩:=qf.t3;obtain⟨⟨k0,k1,k2⟩,f0,f1,f2⟩:=qa.t3;have E1:=Hx (e0.tr qe);clear qe e0;go_wp2;refine bodyPost_ret (v:=.agg #[.bool (!na),.s A1 n1 c1,.s A1' n1' c1']) (by simp[results,Tryz.results73,go_sem,(((qa.sT 0 _).sT 1 _).sT 2 _).cell]) rfl ?_;obtain⟨q1,q2⟩:=nE (w:=w) (HN.o.K E1.o) qa (by omega) E1.o;exact⟨!na,rfl,q1,q2⟩
theorem rL(na nb:Bool)A1(n1 c1:Nat)A1'(n1' c1':Nat)A2(n2 c2:Nat)A2'(n2' c2':Nat)(a b:Rat)w
  (ha:aO w na A1 n1 c1 A1' n1' c1' a) (hb:aO w nb A2 n2 c2 A2' n2' c2' b) (l1:n1<=134217728) (l1':n1'<=134217728) (l2:n2<=134217728) (l2':n2'<=134217728):
  Calls Tryz.prog 32 #[.agg #[.bool na,.s A1 n1 c1,.s A1' n1' c1'],.agg #[.bool nb,.s A2 n2 c2,.s A2' n2' c2']] w (eF w (a-b)):=by
 obtain⟨b0,b1,b2,e0⟩:=fZ w #[.bool na,.s A1 n1 c1,.s A1' n1' c1'] 40 #[.bool nb,.s A2 n2 c2,.s A2' n2' c2'] 40 #[.bool false,zN,zN] 40;have x1:Ext (((w.alloc (.cells #[.bool na,.s A1 n1 c1,.s A1' n1' c1'] 40)).alloc (.cells #[.bool nb,.s A2 n2 c2,.s A2' n2' c2'] 40)).alloc (.cells #[.bool false,zN,zN] 40)) (((w.alloc (.cells #[.bool na,.s A1 n1 c1,.s A1' n1' c1'] 40)).alloc (.cells #[.bool nb,.s A2 n2 c2,.s A2' n2' c2'] 40)).alloc (.cells #[.bool false,zN,zN] 40)).drew:=(eR _).drewN 1;have HA:=Hx (kQa ((ha.K e0).K x1) ((hb.K e0).K x1));have E0:=Hx (e0.tr x1);have BB:=Hx (kQa (b0.K x1) (kQa (b1.K x1) (b2.K x1)));obtain⟨⟨i0,i1,i2⟩,_⟩:=BB.o.1.t3;obtain⟨⟨j0,j1,j2⟩,_⟩:=BB.o.2.1.t3;clear ha hb b0 b1 b2 e0 x1;go_enter Tryz.func32,Tryz.ntmps32;go_wp2
 go_region_held3 (fun w'=>w'.cell? (aD w.heap.size 0)=some (.bool na)/\w'.cell? (aD w.heap.size 1)=some (.s A1 n1 c1)/\w'.cell? (aD w.heap.size 2)=some (.s A1' n1' c1')/\w'.cell? (aD (w.heap.size+1) 0)=some (.bool nb)/\w'.cell? (aD (w.heap.size+1) 1)=some (.s A2 n2 c2)/\w'.cell? (aD (w.heap.size+1) 2)=some (.s A2' n2' c2'))
  (first|with_reducible exact⟨i0,i1,i2,j0,j1,j2⟩|exact fj _ _ _|fail)
  (first
   |(go_at_call 73
     refine(jzfj nb A2 n2 c2 A2' n2' c2' b _ HA.o.2).mono ?_;rintro e w3 ⟨n3,rfl,h3,x3⟩;have G3:=Hx (kQa (BB.o.1.K x3) (kQa (BB.o.2.1.K x3) (BB.o.2.2.K x3)));have E3:=Hx (E0.o.tr x3);have R3:=Hx (kQa h3 (HA.o.1.K x3));obtain⟨⟨i0,i1,i2⟩,_⟩:=G3.o.1.t3;obtain⟨⟨j0,j1,j2⟩,_⟩:=G3.o.2.1.t3;clear x3 h3)
   |(go_at_call 31
     refine(lH na n3 A1 n1 c1 A1' n1' c1' A2 n2 c2 A2' n2' c2' a (-b) _ R3.o.2 R3.o.1 (by omega) (by omega) (by omega) (by omega) (iY (kQx (kQ7 _) (kQ7 _)))).mono ?_;rintro e w4 ⟨nq,B,m,d,B',m',d',rfl,h4,x4⟩;rw[<-Rat.sub_eq_add_neg]at h4;have G4:=Hx (kQa (G3.o.1.K x4) (kQa (G3.o.2.1.K x4) (G3.o.2.2.K x4)));have E4:=Hx (E3.o.tr x4);obtain⟨⟨i0,i1,i2⟩,_⟩:=G4.o.1.t3;obtain⟨⟨j0,j1,j2⟩,_⟩:=G4.o.2.1.t3;obtain⟨⟨p0,p1,p2⟩,f0,f1,f2⟩:=G4.o.2.2.t3;obtain⟨r1,r2⟩:=nE (w:=w) h4 G4.o.2.2 (by omega) E4.o;have q3:=((G4.o.2.2.sT 0 (.bool nq)).sT 1 (.s B m d)).sT 2 (.s B' m' d');have RF:=Hx (kQa q3 (kQa r1 r2));have hf:=fun u0 u1 u2=>((G4.o.1.far (p:=(aD (w.heap.size+1+1) 0)) (by simp;omega) u0).far (p:=(aD (w.heap.size+1+1) 1)) (by simp;omega) u1).far (p:=(aD (w.heap.size+1+1) 2)) (by simp;omega) u2;have hg:=fun u0 u1 u2=>((G4.o.2.1.far (p:=(aD (w.heap.size+1+1) 0)) (by simp) u0).far (p:=(aD (w.heap.size+1+1) 1)) (by simp) u1).far (p:=(aD (w.heap.size+1+1) 2)) (by simp) u2;have fj:=fun u0 u1 u2=>kQa ((hf u0 u1 u2).cell 0) (kQa ((hf u0 u1 u2).cell 1) (kQa ((hf u0 u1 u2).cell 2) (kQa ((hg u0 u1 u2).cell 0) (kQa ((hg u0 u1 u2).cell 1) ((hg u0 u1 u2).cell 2)))));clear x4 h4 q3 r1 r2)
   |fail)
 go_wp2;exact bodyPost_ret (v:=.agg #[.bool nq,.s B m d,.s B' m' d']) (by simp[results,Tryz.results32,go_sem,RF.o.1.cell]) rfl ⟨_,_,_,_,_,_,_,rfl,RF.o.2.1,RF.o.2.2⟩
def jzfk(w:World)(q:Rat)(e:Ending)(w':World):Prop:=
 ∃(neg:Bool) (A:OA) (n c:Nat) (A':OA) (n' c':Nat),e=.returned (.tuple #[.agg #[.bool neg,.s A n c,.s A' n' c'],vI 0])/\aO w' neg A n c A' n' c' q/\Ext w w'
theorem rM(na nb:Bool)A1(n1 c1:Nat)A1'(n1' c1':Nat)A2(n2 c2:Nat)A2'(n2' c2':Nat)(a b:Rat)w
  (ha:aO w na A1 n1 c1 A1' n1' c1' a) (hb:aO w nb A2 n2 c2 A2' n2' c2' b) (hb0:b≠0) (l1:n1<=134217728) (l1':n1'<=134217728) (l2:n2<=134217728) (l2':n2'<=134217728):
  Calls Tryz.prog 89 #[.agg #[.bool na,.s A1 n1 c1,.s A1' n1' c1'],.agg #[.bool nb,.s A2 n2 c2,.s A2' n2' c2']] w (jzfk w (a/b)):=by
 obtain⟨b0,b1,b2,e0⟩:=fZ w #[.bool na,.s A1 n1 c1,.s A1' n1' c1'] 40 #[.bool nb,.s A2 n2 c2,.s A2' n2' c2'] 40 #[.bool false,zN,zN] 40;have hq:=jzfh a b hb0;rw[<-ha.1, <-hb.1]at hq;have qf:b.num≠0:=fun e=>hb0 (Rat.num_eq_zero.1 e);have qe:=Hx (iY (N:=a.num.natAbs*b.den) (D:=b.num.natAbs*a.den) (kQx (by omega) a.den_nz));have hs:(aQ b==0)=false:=yK.2 (fun h=>hb0 (gX.1 h));have HQ:=Hx (hq);have HA:=Hx (ha);have HB:=Hx (hb);obtain⟨⟨j0,j1,j2⟩,_⟩:=b1.t3;clear ha hb hq qf hb0;go_enter Tryz.func89,Tryz.ntmps89;(go_wp2_with fail);refine(eC nb A2 n2 c2 A2' n2' c2' b _ (HB.o.K e0)).mono ?_;rintro e w1 ⟨rfl,x1⟩;generalize aQ b=sb at*;have xd:Ext w1 w1.drew:=(eR w1).drewN 1;have BB:=Hx (kQa ((b0.K x1).K xd) (kQa ((b1.K x1).K xd) ((b2.K x1).K xd)));have E0:=Hx ((e0.tr x1).tr xd);clear b0 b1 b2 e0 x1 xd j0 j1 j2;obtain⟨⟨i0,i1,i2⟩,_⟩:=BB.o.1.t3;obtain⟨⟨j0,j1,j2⟩,_⟩:=BB.o.2.1.t3;have qa:True:=trivial;go_wp2
 go_region_held3 (fun w'=>w'.cell? (aD w.heap.size 0)=some (.bool na)/\w'.cell? (aD w.heap.size 1)=some (.s A1 n1 c1)/\w'.cell? (aD w.heap.size 2)=some (.s A1' n1' c1')/\w'.cell? (aD (w.heap.size+1) 0)=some (.bool nb)/\w'.cell? (aD (w.heap.size+1) 1)=some (.s A2 n2 c2)/\w'.cell? (aD (w.heap.size+1) 2)=some (.s A2' n2' c2'))
  (first|with_reducible exact⟨i0,i1,i2,j0,j1,j2⟩|exact fj _ _ _|fail)
  (first
   |(go_at_call 69
     have _t:=qa;refine(gV A1 A2' n1 c1 n2' c2' a.num.natAbs (dk b) _ (HA.o.2.1.K E0.o) (HB.o.2.2.K E0.o) (by omega) (by omega)).mono ?_;rintro e w3 ⟨A3,n3,c3,rfl,h3,x3⟩;clear qa;have L3:=gE h3 (HA.o.2.1.K E0.o) (HB.o.2.2.K E0.o);have h3:aB w3 A3 n3 c3 (a.num.natAbs*b.den):=(by rw[gB]at h3;exact h3);have G3:=Hx (kQa (BB.o.1.K x3) (kQa (BB.o.2.1.K x3) (BB.o.2.2.K x3)));have E3:=Hx (E0.o.tr x3);have R3:=Hx h3;obtain⟨⟨i0,i1,i2⟩,_⟩:=G3.o.1.t3;obtain⟨⟨j0,j1,j2⟩,_⟩:=G3.o.2.1.t3;clear x3 h3)
   |(go_at_call 69
     refine(gV A2 A1' n2 c2 n1' c1' b.num.natAbs (dk a) _ (HB.o.2.1.K E3.o) (HA.o.2.2.K E3.o) (by omega) (by omega)).mono ?_;rintro e w4 ⟨A4,n4,c4,rfl,h4,x4⟩;have L4:=gE h4 (HB.o.2.1.K E3.o) (HA.o.2.2.K E3.o);have h4:aB w4 A4 n4 c4 (b.num.natAbs*a.den):=(by rw[gB]at h4;exact h4);have G4:=Hx (kQa (G3.o.1.K x4) (kQa (G3.o.2.1.K x4) (G3.o.2.2.K x4)));have E4:=Hx (E3.o.tr x4);have R4:=Hx (kQa (R3.o.K x4) h4);obtain⟨⟨i0,i1,i2⟩,_⟩:=G4.o.1.t3;obtain⟨⟨j0,j1,j2⟩,_⟩:=G4.o.2.1.t3;clear x4 h4)
   |(go_at_call 71
     refine(qe.o (na !=nb) A3 A4 n3 c3 n4 c4 _ R4.o.1 R4.o.2 (by omega) (by omega)).mono ?_;rintro e w5 ⟨nq,B,m,d,B',m',d',rfl,h5,x5⟩;rw[<-HQ.o]at h5;have G5:=Hx (kQa (G4.o.1.K x5) (kQa (G4.o.2.1.K x5) (G4.o.2.2.K x5)));have E5:=Hx (E4.o.tr x5);obtain⟨⟨i0,i1,i2⟩,_⟩:=G5.o.1.t3;obtain⟨⟨j0,j1,j2⟩,_⟩:=G5.o.2.1.t3;obtain⟨⟨p0,p1,p2⟩,f0,f1,f2⟩:=G5.o.2.2.t3;obtain⟨r1,r2⟩:=nE (w:=w) h5 G5.o.2.2 (by omega) E5.o;have q3:=((G5.o.2.2.sT 0 (.bool nq)).sT 1 (.s B m d)).sT 2 (.s B' m' d');have RF:=Hx (kQa q3 (kQa r1 r2));have hf:=fun u0 u1 u2=>((G5.o.1.far (p:=(aD (w.heap.size+1+1) 0)) (by simp;omega) u0).far (p:=(aD (w.heap.size+1+1) 1)) (by simp;omega) u1).far (p:=(aD (w.heap.size+1+1) 2)) (by simp;omega) u2;have hg:=fun u0 u1 u2=>((G5.o.2.1.far (p:=(aD (w.heap.size+1+1) 0)) (by simp) u0).far (p:=(aD (w.heap.size+1+1) 1)) (by simp) u1).far (p:=(aD (w.heap.size+1+1) 2)) (by simp) u2;have fj:=fun u0 u1 u2=>kQa ((hf u0 u1 u2).cell 0) (kQa ((hf u0 u1 u2).cell 1) (kQa ((hf u0 u1 u2).cell 2) (kQa ((hg u0 u1 u2).cell 0) (kQa ((hg u0 u1 u2).cell 1) ((hg u0 u1 u2).cell 2)))));clear x5 h5 q3 r1 r2)
   |fail)
 go_wp2;exact bodyPost_ret (v:=.tuple #[.agg #[.bool nq,.s B m d,.s B' m' d'],vI 0]) (by simp[results,Tryz.results89,go_sem,RF.o.1.cell]) rfl ⟨_,_,_,_,_,_,_,rfl,RF.o.2.1,RF.o.2.2⟩
theorem Tryz.info44:(Tryz.prog.info? 40).map (fun i=>(i.zero,i.size,i.bytes))=some (some (.agg #[.bool false,zN,zN]),3,56):=by kernel_rfl
section
variable (R:World->List Value->Rat->Prop) (t:TypeId)
end
section
variable {R:World->List Value->Rat->Prop} {t:TypeId} {w w':World} {B:Nat} {v v':Value} {qs:List Rat}
end
end Go.Proofs.YtllmekijiohgmaaGreatDoor
namespace Go.Proofs.YtllmekijiohgmaaGreatDoor
def atL(l:LN)(i:Nat):Nat:=l[i]?.getD 0
def jzfl(l:LN)(i j:Nat):LN:=(l.set i (atL l j)).set j (atL l i)
theorem wH{l:LN}{i:Nat}(h:i<l.length):l[i]?=some (atL l i):=by
 unfold atL;rw[yG h];rfl
theorem jzfm(l:LN)(i k v:Nat)(hi:i<l.length):atL (l.set i v) k=if k=i then v else atL l k:=by
 unfold atL;by_cases e:k=i;{subst e;rw[yM hi,if_pos rfl];rfl};rw[vN (fun h=>e h.symm),if_neg e]
open Go.RowKit
def dK(w:World)(g:Nat)(l:LN):Prop:=∃cs:Array Value,Blk w g 3 cs/\∀i,i<l.length->cs[i]?=some (vI ((atL l i:Nat):Int))
theorem dK.K{w w'}{g:Nat}{l:LN}(h:dK w g l)(hx:Ext w w'):dK w' g l:=by
 obtain⟨cs,h1,h2⟩:=h;exact⟨cs,h1.K hx,h2⟩
theorem dK.cell{w}{g:Nat}{l:LN}(h:dK w g l){i:Nat}(hi:i<l.length):w.cell? (aD g i)=some (vI ((atL l i:Nat):Int)):=by
 obtain⟨cs,h1,h2⟩:=h;rw[h1.cell];exact h2 i hi
theorem dK.lt{w}{g:Nat}{l:LN}(h:dK w g l):g<w.heap.size:=by
 obtain⟨cs,h1,_⟩:=h;exact h1.lt
theorem dK.frozen{w}{g:Nat}{l:LN}(h:dK w g l)(i:Nat):w.frozen? (aD g i)=false:=by
 obtain⟨cs,h1,_⟩:=h;exact h1.frozen i
theorem dK.put{w}{g:Nat}{l:LN}(h:dK w g l){i:Nat}(v:Nat)(hi:i<l.length):dK (w.setCell (aD g i) (vI ((v:Nat):Int))) g (l.set i v):=by
 obtain⟨cs,h1,h2⟩:=h;refine⟨_,h1.sT i _,fun k hk=>?_⟩;rw[yV]at hk;rw[jzfm _ _ _ _ hi,Array.getElem?_setIfInBounds];have hs:=(kZn.1 (h2 i hi)).1;by_cases e:i=k;{subst e;rw[if_pos rfl,if_pos hs,if_pos rfl]};rw[if_neg e,if_neg (fun h=>e h.symm)];exact h2 k hk
theorem dK.swap{w}{g:Nat}{l:LN}(h:dK w g l){i j:Nat}(hi:i<l.length)(hj:j<l.length):dK ((w.setCell (aD g i) (vI ((atL l j:Nat):Int))).setCell (aD g j) (vI ((atL l i:Nat):Int))) g (jzfl l i j):=
 (h.put (atL l j) hi).put (atL l i) (by rw[yV];exact hj)
theorem OI.row{w}{B:Nat}{A}{n c:Nat}{l:LN}(h:OI w B (.s A n c) l)(hl:l.length=n)(h0:0<n):∃g,A=(sA g)/\B<=g/\dK w g l:=by
 obtain⟨h1,h2⟩:=h;rcases h2 with⟨h3,h4⟩|⟨g',cap,cur,h3,h4,h5,h6,h7,h8,h9⟩
 ·have:l=[]:=by simpa [ints]using h4
  subst this;simp at hl;omega
 injection h3 with e1 e2 e3
 refine⟨g',e1,h4,cur,h5,fun i hi=>?_⟩;have qa:(cur.toList.take l.length)[i]?=(ints l)[i]?:=by
  have:=h9;rw[<-this];simp
 rw[xG,if_pos hi]at qa;rw[<-kQw,qa];unfold ints;rw[yW,wH hi];rfl
theorem QR.other{w w'}{cs:List Value}{q:Rat}{g:Nat}{t':TypeId}{cs':Array Value}(h:QR w cs q)(hg:w.grownBy w' (some g))(hb:Blk w g t' cs')(hne:168≠t'):QR w' cs q:=by
 obtain⟨neg,A,n,c,A',n',c',e,h1⟩:=h;exact⟨neg,A,n,c,A',n',c',e,h1.other hg hb hne⟩
def QB(w:World)(g:Nat)(qs:LQ):Prop:=
 ∃css:List (List Value),css.length=qs.length/\(∀cs∈css,cs.length=3)/\Blk w g 40 css.flatten.toArray/\∀(i:Nat) (q:Rat),qs[i]?=some q->∃cs,css[i]?=some cs/\QR w cs q
theorem QB.K{w w'}{g:Nat}{qs:LQ}(h:QB w g qs)(hx:Ext w w'):QB w' g qs:=by
 obtain⟨qa,h1,h2,h3,h4⟩:=h;refine⟨qa,h1,h2,h3.K hx,fun i q hl=>?_⟩;obtain⟨cs,k1,k2⟩:=h4 i q hl;exact⟨cs,k1,k2.K hx⟩
theorem QB.lt{w}{g:Nat}{qs:LQ}(h:QB w g qs):g<w.heap.size:=by
 obtain⟨qa,_,_,h3,_⟩:=h;exact h3.lt
theorem QB.blk{w}{g:Nat}{qs:LQ}(h:QB w g qs):∃cs,Blk w g 40 cs:=by
 obtain⟨qa,_,_,h3,_⟩:=h;exact⟨_,h3⟩
theorem QB.at_{w}{g:Nat}{qs:LQ}(h:QB w g qs){i:Nat}{q:Rat}(hl:qs[i]?=some q):
  ∃(neg:Bool) (A:OA) (n c:Nat) (A':OA) (n' c':Nat),
   (w.cell? (aD g (i*3))=some (.bool neg)/\w.cell? (aD g (i*3+1))=some (.s A n c)/\w.cell? (aD g (i*3+2))=some (.s A' n' c'))/\
   (w.frozen? (aD g (i*3))=false/\w.frozen? (aD g (i*3+1))=false/\w.frozen? (aD g (i*3+2))=false)/\aO w neg A n c A' n' c' q:=by
 obtain⟨qa,h1,h2,h3,h4⟩:=h;obtain⟨cs,k1,neg,A,n,c,A',n',c',rfl,k2⟩:=h4 i q hl;have hi:=(yH.1 hl).1;have key:∀k,k<3->w.cell? (aD g (i*3+k))=([.bool neg,.s A n c,.s A' n' c']:List Value)[k]?:=fun k hk=>(by rw[h3.cell,xI,lN qa h2 i k (by omega) hk,k1];rfl);exact⟨neg,A,n,c,A',n',c',⟨key 0 (by omega),key 1 (by omega),key 2 (by omega)⟩,⟨h3.frozen _,h3.frozen _,h3.frozen _⟩,k2⟩
theorem QB.other{w w'}{g g':Nat}{qs:LQ}{t':TypeId}{cs':Array Value}(h:QB w g qs)(hg:w.grownBy w' (some g'))(hb:Blk w g' t' cs')(hne:168≠t')(hgg:g≠g'):QB w' g qs:=by
 obtain⟨qa,h1,h2,h3,h4⟩:=h;refine⟨qa,h1,h2,(hg.block g h3.lt (fun e=>hgg (by injection e))).trans h3,fun i q hq=>?_⟩;obtain⟨cs,k1,k2⟩:=h4 i q hq;exact⟨cs,k1,k2.other hg hb hne⟩
theorem kB{K:Nat}(css:List (List Value))(h2:∀cs∈css,cs.length=K)(m:Nat)(hml:m<css.length)(c1:List Value)(k:Nat)(v:Value)(hc:c1.length=K)(hk:k<K):((css.set m c1).flatten).set (m*K+k) v=(css.set m (c1.set k v)).flatten:=by
 have qa:∀c∈css.set m c1,c.length=K:=fun c hcc=>(by (rcases xE hcc with h|h);{exact h2 c h};rw[h];exact hc);have h:=wG (css.set m c1) qa m k v (by rw[yV];exact hml) hk;rw[yM hml,kQ1,List.set_set]at h;exact h
theorem QB.put{w}{g m:Nat}{qs:LQ}{q:Rat}{neg:Bool}{A}{n c:Nat}{A'}{n' c':Nat}(h:QB w g qs)(hm:m<qs.length)(hl:aO w neg A n c A' n' c' q):
  QB (((w.setCell (aD g (m*3)) (.bool neg)).setCell (aD g (m*3+1)) (.s A n c)).setCell (aD g (m*3+2)) (.s A' n' c')) g (qs.set m q):=by
 obtain⟨qa,h1,h2,h3,h4⟩:=h;have g2:=((bI w g (m*3) (.bool neg)).trans (bI _ g (m*3+1) (.s A n c))).trans (bI _ g (m*3+2) (.s A' n' c'));have qe:m<qa.length:=(by omega);obtain⟨cs,qg⟩:∃cs,qa[m]?=some cs:=⟨_,yG qe⟩;have qf:cs.length=3:=h2 cs (yJ qg);have e0:qa=qa.set m cs:=(by apply uK;intro i;by_cases e:m=i;{subst e;rw[yM qe];exact qg};rw[vN e]);have b:=((h3.sT (m*3+0) (.bool neg)).sT (m*3+1) (.s A n c)).sT (m*3+2) (.s A' n' c');rw[yD,yD,yD,e0,kB qa h2 m qe cs 0 _ qf (by omega),kB qa h2 m qe _ 1 _ (by simp[qf]) (by omega),kB qa h2 m qe _ 2 _ (by simp[qf]) (by omega)]at b;have e3:((cs.set 0 (.bool neg)).set 1 (.s A n c)).set 2 (.s A' n' c')=[.bool neg,.s A n c,.s A' n' c']:=(by (rcases cs with _|⟨a0,_|⟨a1,_|⟨a2,_|⟨a3,r⟩⟩⟩⟩);all_goals first|(simp at qf;done)|rfl);rw[e3]at b;refine⟨qa.set m [.bool neg,.s A n c,.s A' n' c'],by simp[h1],fun c hcc=>?_,b,fun i p hi=>?_⟩;{(rcases xE hcc with h|h);{exact h2 c h};rw[h];rfl};by_cases e:m=i;{subst e;(rw[yM hm]at hi;injection hi with hi);subst hi;exact⟨_,yM qe,neg,A,n,c,A',n',c',rfl,hl.other g2 h3 (by decide)⟩};rw[vN e]at hi;obtain⟨qh,k1,k2⟩:=h4 i p hi;exact⟨qh,by rw[vN e];exact k1,k2.other g2 h3 (by decide)⟩
theorem wI(n:Nat)(hn:n<=1000)w:
  (Instr.makeSlice 35 (vI (n:Int)) (vI (n:Int))).run Tryz.prog w=.ok (.s (sA w.heap.size) n n) (w.alloc (.cells (madeCells #[.bool false,zN,zN] (n*3)) 40)):=by
 obtain⟨i,hi,hz,hs,hb⟩:=info_parts Tryz.info44;have qa:(i.bytes:Int)*(n:Int)<=281474976710656:=(by rw[hb];omega);have hr:=run_make (P:=Tryz.prog) w 35 40 i _ Tryz.underlying35 hi hz .i64 .i64 n n (by omega) (by omega) qa (by omega);simp only[xL]at hr;rw[hs]at hr;exact hr
theorem jzfn(N:Nat):madeCells #[.bool false,zN,zN] (N*3)=(List.replicate N [Value.bool false,zN,zN]).flatten.toArray:=by
 apply Array.ext';apply uK;intro i;have qa:∀cs∈List.replicate N [Value.bool false,zN,zN],cs.length=3:=fun cs h=>(by rw[uF h];rfl);have hl:=jzfd _ qa;rw[xC]at hl;by_cases hi:i<N*3;{have h1:=lN _ qa (i/3) (i%3) (by rw[xC];omega) (by omega);rw[show i/3*3+i%3=i by omega,xB,if_pos (by omega),kQ1]at h1;simp only[];rw[h1];have h2:(madeCells #[.bool false,zN,zN] (N*3)).toList[i]?=some ((#[.bool false,zN,zN]:Array Value)[i%3]!):=(by simp[madeCells,hi]);rw[h2];have h6:i%3=0\/i%3=1\/i%3=2:=(by omega);rcases h6 with e|e|e <;> rw[e] <;> rfl};rw[yI (by simp[madeCells];omega),yI (by simp only[];omega)]
theorem QB.made(w:World)(N:Nat):QB (w.alloc (.cells (madeCells #[.bool false,zN,zN] (N*3)) 40)) w.heap.size (List.replicate N 0):=by
 refine⟨List.replicate N [.bool false,zN,zN],by simp,fun cs h=>by rw[uF h];rfl,?_,fun i q hq=>?_⟩;{rw[jzfn];exact eN _ _ _};rw[xB]at hq;split at hq;{rename_i hi;(injection hq with hq);subst hq;exact⟨_,by rw[xB,if_pos hi],false,none,0,0,none,0,0,rfl,rJ _⟩};cases hq
theorem SzQ.mkQ_{s:Bool}{n d k:Nat}(hd:d≠0)(hn:n<B32^k)(hdd:d<B32^k):SzQ (mkQ s n d) k:=by
 refine⟨?_,?_⟩;{rw[pO _ hd];exact kQ2 (kZi _ _) hn};rw[pP _ hd];exact kQ2 (kZi _ _) hdd
theorem wJ{a b k m:Nat}(ha:a<B32^k)(hb:b<B32^m):a*b<B32^(k+m):=by
 rw[Nat.pow_add];rcases kQm b with h0|h0
 ·rw[h0,kQ8];exact Nat.mul_pos (kQy aY) (kQy aY)
 exact kZb ha (kQe hb) (kQy aY)
theorem SzQ.mul{a b:Rat}{k m:Nat}(ha:SzQ a k)(hb:SzQ b m):SzQ (a*b) (k+m):=by
 rw[wE];exact SzQ.mkQ_ (kQx a.den_nz b.den_nz) (wJ ha.1 hb.1) (wJ ha.2 hb.2)
theorem dK.made(w:World)(n:Nat):dK (w.alloc (.cells (madeCells #[vI 0] n) 3)) w.heap.size (List.replicate n 0):=by
 refine⟨_,eN _ _ _,fun i hi=>?_⟩;rw[xC]at hi;rw[<-kQw,toList_madeCells_one];unfold atL;rw[xB,if_pos hi,xB,if_pos hi];rfl
theorem dK.rdT{w}{g:Nat}{l:LN}(h:dK w g l):RdT w 3 (sA g) (ints l):=fun _=>by
 obtain⟨cs,h1,h2⟩:=h;refine⟨g,0,cs,(0,0),rfl,h1,fun i hi=>?_⟩;rw[iQ]at hi;rw[kQu,h2 i hi];unfold ints;rw[yW,wH hi];rfl
structure FrS(S:Nat->Prop)(w w':World):Prop where
 os:w'.os=w.os
 tape:w'.tape=w.tape
 output:w'.output=w.output
 size:w.heap.size<=w'.heap.size
 block:∀b,b<w.heap.size->¬S b->w'.heap[b]?=w.heap[b]?
def NoT(S:Nat->Prop)(w:World)(t:TypeId):Prop:=∀b,S b->∀cs fr,w.heap[b]?≠some (.cells cs t fr)
section
variable {S S':Nat->Prop} {w w' w2:World}
theorem FrS.of_ext(h:Ext w w'):FrS S w w':=⟨h.os,h.tape,h.output,h.size,fun b hb _=>h.block b hb⟩
theorem eE:type_of% @FrS.of_ext:=@FrS.of_ext
theorem FrS.refl(S:Nat->Prop)w:FrS S w w:=eE (eR w)
theorem FrS.of_grown{row:Option Nat}(h:w.grownBy w' row)(hs:∀g,row=some g->S g):FrS S w w':=⟨h.os,h.tape,h.output,h.size,fun b hb hn=>h.block b hb (fun e=>hn (hs b e.symm))⟩
theorem eG:type_of% @FrS.of_grown:=@FrS.of_grown
theorem FrS.tr(h:FrS S w w')(k:FrS S' w' w2)(hs:∀b,S' b->S b\/w.heap.size<=b):FrS S w w2:=
 ⟨k.os.trans h.os,k.tape.trans h.tape,k.output.trans h.output,yY h.size k.size,fun b hb hn=>(k.block b (yL hb h.size) (fun h1=>by
  rcases hs b h1 with h2|h2
  ·exact hn h2
  ·omega)).trans (h.block b hb hn)⟩
theorem FrS.mono(h:FrS S w w')(hs:∀b,S b->S' b):FrS S' w w':=⟨h.os,h.tape,h.output,h.size,fun b hb hn=>h.block b hb fun h1=>hn (hs b h1)⟩
theorem FrS.ext{w0}(k:FrS S w w')(h:Ext w0 w)(hs:∀b,S b->w0.heap.size<=b):Ext w0 w':=
 ⟨k.os.trans h.os,k.tape.trans h.tape,k.output.trans h.output,yY h.size k.size,fun b hb=>(k.block b (yL hb h.size) (fun h1=>by have:=hs b h1;omega)).trans (h.block b hb)⟩
theorem FrS.blk{b:Nat}{t:TypeId}{cs:Array Value}(k:FrS S w w')(h:Blk w b t cs)(hb:¬S b):Blk w' b t cs:=(k.block b h.lt hb).trans h
theorem FrS.rdT{t:TypeId}{A}{xs:List Value}(k:FrS S w w')(hn:NoT S w t)(h:RdT w t A xs):RdT w' t A xs:=fun hx=>by
 obtain⟨b,o,cs,fr,e1,e2,e3⟩:=h hx;refine⟨b,o,cs,fr,e1,(k.block b (rA e2) (fun h1=>?_)).trans e2,e3⟩;exact hn b h1 cs fr e2
theorem FrS.natR{A}{n c N:Nat}(k:FrS S w w')(hn:NoT S w 168)(h:aB w A n c N):aB w' A n c N:=by
 obtain⟨ds,h1,h2,h3,h4,h5⟩:=h;exact⟨ds,h1,h2,h3,h4,k.rdT hn h5⟩
theorem FrS.ratR{neg:Bool}{A}{n c:Nat}{A'}{n' c':Nat}{q:Rat}(k:FrS S w w')(hn:NoT S w 168)(h:aO w neg A n c A' n' c' q):aO w' neg A n c A' n' c' q:=
 ⟨h.1,k.natR hn h.2.1,k.natR hn h.2.2⟩
theorem FrS.qr{cs:List Value}{q:Rat}(k:FrS S w w')(hn:NoT S w 168)(h:QR w cs q):QR w' cs q:=by
 obtain⟨neg,A,n,c,A',n',c',e,h1⟩:=h;exact⟨neg,A,n,c,A',n',c',e,k.ratR hn h1⟩
theorem FrS.own{B n s:Nat}{e:TypeId}{v:Value}{xs:List Value}(k:FrS S w w')(h:w.ownsRow B e s v n xs)(hn:∀g,v.ownBlock=some g->¬S g):w'.ownsRow B e s v n xs:=by
 refine⟨h.1,?_⟩;rcases h.2 with h1|⟨g,cap,cur,h1,h2,h3,h4⟩
 ·exact .inl h1
 exact .inr ⟨g,cap,cur,h1,h2,(k.block g (rA h3) (hn g (by rw[h1];rfl))).trans h3,h4⟩
theorem aW{B n s:Nat}{e:TypeId}{v:Value}{xs:List Value}(h:w.ownsRow B e s v n xs){g:Nat}(hg:v.ownBlock=some g){t:TypeId}(ht:e≠t):∀cs fr,w.heap[g]?≠some (.cells cs t fr):=fun cs fr e2=>by
 (rcases h.2 with⟨h1,_⟩|⟨g',cap,cur,h1,h2,h3,h4⟩);{rw[h1]at hg;cases hg};{rw[h1]at hg;(injection hg with hg);(have hg:g'=g:=hg;subst hg;rw[h3]at e2;injection e2 with e2);(injection e2 with _ e2);exact ht e2}
theorem NoT.one{g:Nat}{t t':TypeId}{cs:Array Value}(h:Blk w g t cs)(ht:t≠t'):NoT (fun b=>b=g) w t':=fun b hb cs' fr e=>by
 subst hb;unfold Blk at h;rw[h]at e;injection e with e
 injection e with _ e
 exact ht e
theorem rN{B n s:Nat}{e:TypeId}{v:Value}{xs:List Value}(h:w.ownsRow B e s v n xs){g:Nat}(hg:v.ownBlock=some g):∃cs,Blk w g e cs:=by
 rcases h.2 with⟨h1,_⟩|⟨g',cap,cur,h1,h2,h3,h4⟩
 ·rw[h1]at hg;cases hg
 rw[h1]at hg;injection hg with hg
 have hg:g'=g:=hg;subst hg;exact⟨cur,h3⟩
theorem rO{B g n c s k:Nat}{e:TypeId}{xs:List Value}(h:w.ownsRow B e s (.s (sA g) n c) n xs)(u:Value):(w.setCell (aD g k) u).ownsRow B e s (.s (sA g) n c) n (xs.set k u):=by
 refine⟨by rw[yV];exact h.1,?_⟩;rcases h.2 with⟨h3,h4⟩|⟨g',cap,cur,h3,h4,h5,h6,h7,h8,h9⟩
 ·cases h3
 have qa:=h3;injection h3 with e1 e2 e3
 injection e1 with e1
 injection e1 with e1
 subst e1;refine .inr ⟨g,cap,cur.setIfInBounds k u,qa,h4,(show Blk w g e cur from h5).sT k u,h6,h7,by simpa using h8,?_⟩;rw[Array.toList_setIfInBounds, <-h9,List.take_set]
theorem nF(w:World)(g i:Nat)(v0 v1 v2:Value):w.grownBy (((w.setCell (aD g i) v0).setCell (aD g (i+1)) v1).setCell (aD g (i+2)) v2) (some g):=
 ((bI w g i v0).trans (bI _ g (i+1) v1)).trans (bI _ g (i+2) v2)
end
namespace Fo
theorem oFA{w:World}{B n s:Nat}{e:TypeId}{v:Value}{xs:List Value}(h:w.ownsRow B e s v n xs):∃A c,v=.s A n c/\n<=c:=by
 rcases h.2 with⟨h3,h4⟩|⟨g',cap,cur,h3,h4,h5,h6,_⟩
 ·exact⟨none,0,by rw[h3,h4],by omega⟩
 exact⟨_,cap,h3,h6⟩
theorem oFT{w:World}{B n s:Nat}{e:TypeId}{v:Value}{xs:List Value}(h:w.ownsRow B e s v n xs)(hn:0<n):∃g c cur,v=.s (sA g) n c/\B<=g/\Blk w g e cur/\n<=c/\c<=maxLen/\cur.size=c*s/\cur.toList.take (n*s)=xs:=by
 rcases h.2 with⟨_,h1⟩|⟨g,cap,cur,h1,h2,h3,h4,h5,h6,h7⟩
 ·omega
 exact⟨g,cap,cur,h1,h2,h3,h4,h5,h6,h7⟩
def OwL{α:Type}(R:World->List Value->α->Prop)(e:TypeId)(s:Nat)(w:World)(B:Nat)(v:Value)(l:List α):Prop:=
 ∃css:List (List Value),css.length=l.length/\(∀cs∈css,cs.length=s)/\w.ownsRow B e s v l.length css.flatten/\∀(i:Nat) (x:α),l[i]?=some x->∃cs,css[i]?=some cs/\R w cs x
section
variable {α:Type} {R R':World->List Value->α->Prop} {e:TypeId} {s:Nat} {w w':World} {B:Nat} {v:Value} {l:List α}
theorem OwL.nil(R:World->List Value->α->Prop)(e:TypeId)(s:Nat)w(B:Nat):OwL R e s w B zN []:=
 ⟨[],rfl,(fun _ h=>by cases h),World.ownsRow_nil _ _ _ _,fun i x h=>by simp at h⟩
theorem OwL.own(h:OwL R e s w B v l):∃xs,w.ownsRow B e s v l.length xs:=by
 obtain⟨qa,_,_,h3,_⟩:=h;exact⟨_,h3⟩
theorem OwL.form(h:OwL R e s w B v l):∃A c,v=.s A l.length c/\l.length<=c:=by
 obtain⟨xs,h⟩:=h.own;exact oFA h
theorem OwL.fr{S:Nat->Prop}(h:OwL R e s w B v l)(k:FrS S w w')(hv:∀g,v.ownBlock=some g->¬S g)(hR:∀cs x,x∈l->R w cs x->R' w' cs x):OwL R' e s w' B v l:=by
 obtain⟨qa,h1,h2,h3,h4⟩:=h;refine⟨qa,h1,h2,k.own h3 hv,fun i x hx=>?_⟩;obtain⟨cs,k1,k2⟩:=h4 i x hx;exact⟨cs,k1,hR cs x (yJ hx) k2⟩
theorem OwL.K(h:OwL R e s w B v l)(hx:Ext w w')(hR:∀cs x,R w cs x->R w' cs x):OwL R e s w' B v l:=h.fr (S:=fun _=>False) (eE hx) (fun _ _ h=>h) fun cs x _=>hR cs x
theorem OwL.at_(h:OwL R e s w B v l){i:Nat}{x:α}(hi:l[i]?=some x):∃(g cap:Nat) (cs:List Value),v=.s (sA g) l.length cap/\g<w.heap.size/\cs.length=s/\(∀k,k<s->w.cell? (aD g (i*s+k))=cs[k]?)/\R w cs x:=by
 have qf:=(yH.1 hi).1;obtain⟨qa,h1,h2,h3,h4⟩:=h;obtain⟨g,cap,qh,rfl,_,hb,_,_,_,qe⟩:=oFT h3 (by omega);obtain⟨cs,k1,k2⟩:=h4 i x hi;refine⟨g,cap,cs,rfl,hb.lt,h2 cs (yJ k1),fun k hk=>?_,k2⟩;have h5:=lN qa h2 i k (by omega) hk;rw[k1,kQ1]at h5;have qg:i*s+k<l.length*s:=(by have:(i+1)*s<=l.length*s:=xS s qf;rw[xP,xQ]at this;omega);rw[hb.cell, <-h5, <-qe,xG,if_pos qg];simp
theorem OwL.pushed{x:α}{v':Value}{css:List (List Value)}{us:List Value}(h1:css.length=l.length)(h2:∀cs∈css,cs.length=s)(h4:∀(i:Nat) (y:α),l[i]?=some y->∃cs,css[i]?=some cs/\R w cs y)(hus:us.length=s)(hR:∀cs y,y∈l->R w cs y->R w' cs y)(hx:R w' us x)(own':w'.ownsRow B e s v' (l.length+1) (css.flatten++us)):OwL R e s w' B v' (l++[x]):=by
 refine⟨css++[us],by simp[h1],fun cs hc=>?_,by rw[List.flatten_append,yQ];simpa using own',fun i y hi=>?_⟩;{(rcases xY.1 hc with hc|hc);{exact h2 cs hc};rw[xD.1 hc];exact hus};by_cases e:i<l.length;{rw[yR e]at hi;obtain⟨cs,k1,k2⟩:=h4 i y hi;exact⟨cs,by rw[yR (by omega)];exact k1,hR cs y (yJ hi) k2⟩};(have hl:=(yH.1 hi).1;rw[yQ]at hl;have hl:i<l.length+1:=hl;have e2:i=l.length:=(by omega);subst e2;rw[yS (by omega),Nat.sub_self]at hi;injection hi with hi);subst hi;exact⟨us,by rw[yS (by omega),h1,Nat.sub_self];rfl,hx⟩
theorem dX{n c:Nat}{A}{xs:List Value}(h:w.ownsRow B e s (.s A n c) n xs):RdT w e A xs:=by
 (obtain⟨h1,h2⟩:=h;rcases h2 with⟨h3,h4⟩|⟨g,cap,cur,h3,_,h5,h6,_,_,h9⟩);{subst h4;rw[Nat.zero_mul]at h1;obtain rfl:xs=[]:=kQz h1;exact RdT.nil _ _ _};(injection h3 with e1 _ _);subst e1;refine fun _=>⟨g,0,cur,(0,0),rfl,h5,fun i hi=>?_⟩;rw[kQu, <-h9,xG,if_pos (by omega)];simp
end
end Fo
end Go.Proofs.YtllmekijiohgmaaGreatDoor
