/- Part 7 of 26 of what the Flows claims share (the white space is struck, the texts are joined). -/
import Derived.Lib.ItoaNum
import Derived.Lib.Builder
import Derived.Lib.AppendStr
import Derived.Lib.Repeat
import Derived.Lib.SmallJoins
import Derived.Test.YtojpooidhilnfaaGreatDoorRows
import Derived.ProofKit
import Derived.LaidMore
import Derived.OpenShut
import Derived.Stop.Joined
import Derived.Carry
import Derived.Lib.LaidTab
import Derived.Stop.LaidErr
import Derived.Laws.MakeOwn
import Derived.Test.YtojpooidhilnfaaGreatDoorH06
set_option linter.unusedVariables false
set_option linter.unusedSimpArgs false
set_option maxRecDepth 100000
set_option maxHeartbeats 8000000
namespace Go.Proofs.YtojpooidhilnfaaGreatDoor.Dig
open Go.Proofs.Tryz
open Go.Lib
def fixD:Nat->Nat->List UInt8
 |0,_=>[]
 |k+1,r=>fixD k (r/10)++[UInt8.ofNat (48+r%10)]
theorem jza4(q:Nat)(hq:0<q):∀(k r:Nat),r<10^k->decDigits (q*10^k+r)=decDigits q++fixD k r
 |0,r,h=>by simp at h;subst h;simp[fixD]
 |k+1,r,h=>by
  have hp:1<=10^k:=Nat.one_le_pow _ _ (by decide);have e:q*10^(k+1)=q*10^k*10:=(by rw[vD,kQg]);have h1:1<=q*10^k:=Nat.mul_pos hq (by omega);rw[vD]at h;rw[e,decDigits,dif_neg (by omega),fixD,show(q*10^k*10+r)/10=q*10^k+r/10 by omega,jza4 q hq k (r/10) (by omega),List.append_assoc,show(q*10^k*10+r)%10=r%10 by omega]
theorem jza5:∀k,fixD k 0=List.replicate k 48
 |0=>rfl
 |k+1=>by
  rw[fixD,Nat.zero_div,jza5 k,List.replicate_succ'];rfl
theorem fixD_pad:∀(k r:Nat),r<10^(k+1)->fixD (k+1) r=List.replicate (k+1-(decDigits r).length) 48++decDigits r
 |k,r,h=>by
  by_cases h1:r<10
  ·rw[fixD,Nat.div_eq_of_lt h1,jza5,decDigits_one h1,kQv h1]
   simp
  ·cases k with
   |zero=>simp at h;omega
   |succ k=>
    have ih:=fixD_pad k (r/10) (by rw[vD]at h;omega);rw[fixD,ih,decDigits.eq_1 r,dif_neg h1,List.append_assoc]
    congr 2
    simp
theorem dec_nine(N:Nat)(h:1000000000<=N):decDigits N=decDigits (N/1000000000)++(List.replicate (9-(decDigits (N%1000000000)).length) 48++decDigits (N%1000000000)):=by
 have h1:=jza4 (N/1000000000) (by omega) 9 (N%1000000000) (by simp;omega);have h2:=fixD_pad 8 (N%1000000000) (by simp;omega);rw[h2]at h1;rw[<-h1];congr 1;omega
theorem dec_len_nine(r:Nat)(h:r<1000000000):(decDigits r).length<=9/\1<=(decDigits r).length:=by
 rw[decDigits_length];refine⟨?_,nDigits_pos r⟩;have h1:=fixD_pad 8 r (by simp;omega);have h2:∀k r,(fixD k r).length=k:=fun k=>(by (induction k with|zero=>intro r;rfl|succ k ih=>intro r;rw[fixD,yQ,ih];rfl));have h3:=congrArg List.length h1;rw[h2,yQ,xC,decDigits_length]at h3;omega
end Go.Proofs.YtojpooidhilnfaaGreatDoor.Dig
namespace Go.Proofs.YtojpooidhilnfaaGreatDoor
open Go.Proofs.Tryz
open Go.RowKit Go.Lib
theorem jza6:(prog.info? 196).map (·.size)=some 2:=by kernel_rfl
theorem jzio:liesAt prog prog.depth 196 (2/prog.cellsOf 196) 0 196 1=true:=by kernel_rfl
theorem jza7:(prog.info? 5).map (fun i=>(i.zero,i.size,i.bytes))=some (some (.int .u8 0),1,1):=by kernel_rfl
theorem jzip(b:Nat)(w:World)(h0:w.cell? (aD b 0)=some (.pointer (sA b))):
  Calls prog 181 #[.pointer (sA b)] w fun e w'=>e=.returned (.tuple #[])/\w'=w:=by
 obtain⟨j,hj,_⟩:=Option.map_eq_some_iff.1 jza6;go_enter func181,ntmps181;go_wp2;rw[Lib.run_neq_ptr_same w _ underlying193 hj];go_wp2;(go_end0);exact⟨rfl,rfl⟩
theorem jziq(b:Nat)(w:World)(h0:w.cell? (aD b 0)=some (.pointer none))(hsh:w.shape? b=some (196,2))(hfz:w.frozen? (aD b 0)=false):
  Calls prog 181 #[.pointer (sA b)] w fun e w'=>e=.returned (.tuple #[])/\w'=w.setCell (aD b 0) (.pointer (sA b)):=by
 obtain⟨j,hj,qa⟩:=Option.map_eq_some_iff.1 jza6;go_enter func181,ntmps181;go_wp2;rw[Lib.run_to_unsafe w (aD b 0) underlying193 underlying299 hj (by rw[qa];decide) hsh (Nat.zero_lt_succ 1)];simp only[Result.andThen];rw[Oper.upon_value];go_wp2;rw[run_callFunc_extern func218 (by kernel_rfl) (by kernel_rfl) (by kernel_rfl) (e:=Extern.AbiNoEscape.same) (by kernel_rfl)];rw[Lib.run_noEscape];simp only[Result.andThen];rw[Oper.upon_value];go_wp2;rw[Lib.run_from_unsafe w (aD b 0) underlying299 underlying193 hj hsh jzio];simp only[Result.andThen];rw[Oper.upon_value];go_wp2;(go_end0);exact⟨rfl,rfl⟩
theorem jza8(B b:Nat)(bs:List Value)w(h:Lib.IsBuilder 196 5 B b bs w):
  Calls prog 181 #[.pointer (sA b)] w fun e w'=>e=.returned (.tuple #[])/\(Lib.BuilderAt 196 5 B b (.pointer (sA b)) bs w'/\Below B w w'):=by
 (rcases h with h|h);{refine(jziq b w h.cell0 h.shape h.frozen0).mono ?_;rintro e w' ⟨rfl,rfl⟩;exact⟨rfl,h.used _,(Below.refl B w).setCell (p:=(aD b 0)) h.1 _⟩};refine(jzip b w h.cell0).mono ?_;rintro e w' ⟨rfl,rfl⟩;exact⟨rfl,h,Below.refl B _⟩
theorem tT(B b:Nat)(bs:List Value)(s:ByteArray)w(h:Lib.IsBuilder 196 5 B b bs w)(hlen:bs.length+s.size<=140737488355328)(hBw:B<=w.heap.size):
  Calls prog 121 #[.pointer (sA b),.string s] w fun e w'=>e=.returned (.tuple #[vI s.size,.nilIface])/\(Lib.BuilderAt 196 5 B b (.pointer (sA b)) (bs++Lib.strCells s) w'/\Below B w w'):=by
 obtain⟨i0,hi,qn,qo,qj⟩:=info_parts jza7;go_enter func121,ntmps121;(go_wp2_with fail);(refine(jza8 B b bs _ h).mono ?_;rintro e w1 ⟨rfl,h1,qi⟩;obtain⟨hB,v,qg,qf,qm⟩:=h1;have c0:w1.cell? (aD b 0)=some (.pointer (sA b)):=(by rw[Lib.cell_of_heap qg];rfl);have c1:w1.cell? (aD b 1)=some v:=by rw[Lib.cell_of_heap qg];rfl);(go_wp2_with (at_builtin;refine Lib.wpList_append_own_string _ rfl _ _ 194 9 rfl B 5 i0 underlying194 underlying9 hi qn qo qj _ _ _ rfl qf s rfl ?c3 ?c4 ?c5 ?_));(case c3=>unfold maxLen;omega);(case c4=>omega);(case c5=>have:=qi.size;omega);intro v' w2 qa qe _;have qk:b<w1.heap.size:=(by (rcases kQd b w1.heap.size with h'|h');{exact h'};simp[kQn h']at qg);have qh:w2.heap[b]?=some (.cells #[.pointer (sA b),v] 196 (0,0)):=(by rw[qe.block b qk (fun e=>qm e.symm)];exact qg);have d0:w2.cell? (aD b 0)=some (.pointer (sA b)):=(by rw[Lib.cell_of_heap qh];rfl);have d1:w2.cell? (aD b 1)=some v:=(by rw[Lib.cell_of_heap qh];rfl);have f1:w2.frozen? (aD b 1)=false:=Lib.frozen_of_heap qh 1;obtain⟨ao,n',cap,rfl⟩:∃ao n' cap,v'=.s ao n' cap:=(by (rcases qa.2 with⟨hv,_⟩|⟨g,cap,cur,hv,_⟩);{exact⟨_,_,_,hv⟩};exact⟨_,_,_,hv⟩);go_wp2;(go_ret2);refine⟨rfl,?_,?_⟩;{exact Lib.BuilderAt.put (T:=196) (e:=5) hB qh (bs':=bs++Lib.strCells s) (by simpa [Lib.strCells_length]using qa) (by decide)};exact(qi.grown qe (by have:=qi.size;omega) (fun k hk=>(qf.lt k hk).1)).setCell (p:=(aD b 1)) hB _
end Go.Proofs.YtojpooidhilnfaaGreatDoor
namespace Go.Proofs.YtojpooidhilnfaaGreatDoor
open Go.Proofs.Tryz
open Go.RowKit Go.Sort
theorem Tryz.info9:(prog.info? 9).map (fun i=>(i.zero,i.size,i.bytes))=some (some (.string ⟨#[]⟩),1,16):=by kernel_rfl
def lL(l:List (List UInt8)):List Value:=l.map fun s=>Value.string ⟨s.toArray⟩
theorem jzir(l:List (List UInt8))(s:List UInt8):lL (l++[s])=lL l++[.string ⟨s.toArray⟩]:=by simp[lL]
theorem jzis(l:List (List UInt8))(i:Nat)(h:i<l.length):(lL l)[i]?=some (.string ⟨(l[i]?.getD []).toArray⟩):=by simp[lL,h]
def Tab(w:World):Prop:=Lib.TabIs prog w "internal/strconv.uint64pow10" .u64 Lib.pow10Tab
theorem jzit:∃g,prog.globalNamed "internal/strconv.uint64pow10" =some g:=by
 have h:(prog.globalNamed "internal/strconv.uint64pow10").isSome=true:=(by kernel_rfl);exact Option.isSome_iff_exists.1 h
theorem Tab.K{w w'}(h:Tab w)(hx:Ext w w'):Tab w':=by
 obtain⟨g,hg⟩:=jzit;exact Joins.tab_stays hg h hx (yX _)
theorem jza9 w(k:Nat)(os:Array Obj):Ext w (grow (w.drewN k) os):=
 ⟨rfl,rfl,rfl,by simp[grow],fun i hi=>by
  show((w.drewN k).heap++os)[i]?=_;rw[Array.getElem?_append_left (by show i<w.heap.size;omega)];rfl⟩
theorem jziu(r:Nat)w(ht:Tab w)(hr:r<1000000000):
  Calls prog 119 #[vI r] w fun e w'=>e=.returned (.string ⟨(Lib.decDigits r).toArray⟩)/\Ext w w':=by
 refine(Tryz.strconv_Itoa r (by omega) (by omega) w ht).mono ?_;rintro e w' ⟨rfl,k,os,rfl⟩;refine⟨?_,jza9 _ _ _⟩;unfold Lib.itoa;rw[if_neg (by omega),xL]
theorem jziv(k:Nat)w(hk:k<=9):
  Calls prog 120 #[.string ⟨#[48]⟩,vI k] w fun e w'=>e=.returned (.string ⟨(List.replicate k (48:UInt8)).toArray⟩)/\Ext w w':=by
 refine(Tryz.strings_Repeat ⟨#[48]⟩ k w (by omega) (by show 1*k<=_;omega)).mono ?_;rintro e w' ⟨rfl,hb⟩;refine⟨?_,hb⟩;have:=Lib.repeatL_replicate 48 1 k;rw[Nat.mul_one]at this;rw[<-this];rfl
def gG(N M:Nat)(ps:List (List UInt8)):Prop:=Lib.decDigits N=(if M=0 then []else Lib.decDigits M)++ps.reverse.flatten
theorem jziw{N M:Nat}{ps:List (List UInt8)}(h:gG N M ps)(hM:0<M)(hl:M/1000000000=0):gG N 0 (ps++[Lib.decDigits (M%1000000000)]):=by
 unfold gG at*;rw[h,if_neg (by omega),if_pos rfl,List.reverse_append];rw[kQv (by omega)];simp
theorem jzix{N M:Nat}{ps:List (List UInt8)}(h:gG N M ps)(hl:0<M/1000000000):
  gG N (M/1000000000) (ps++[List.replicate (9-(Lib.decDigits (M%1000000000)).length) 48++Lib.decDigits (M%1000000000)]):=by
 unfold gG at*;rw[h,if_neg (by omega),if_neg (by omega),Dig.dec_nine M (by omega),List.reverse_append];simp
theorem jziy(a b:Array UInt8):((⟨a⟩:ByteArray)++⟨b⟩)=⟨a++b⟩:=ByteArray.ext (by simp[ByteArray.data_append])
def fJ(M:Nat):List UInt8:=if M/1000000000=0 then Lib.decDigits (M%1000000000)else List.replicate (9-(Lib.decDigits (M%1000000000)).length) 48++Lib.decDigits (M%1000000000)
theorem jziz(M:Nat):(fJ M).length<=9:=by
 have:=Dig.dec_len_nine (M%1000000000) (xT _ (by decide));unfold fJ;split;{omega};simp only[yQ,xC];omega
theorem jzi0{N M:Nat}{ps:List (List UInt8)}(h:gG N M ps)(hM:0<M):gG N (M/1000000000) (ps++[fJ M]):=by
 unfold fJ;split;{rename_i e;rw[e];exact jziw h hM e};exact jzix h (by omega)
theorem jzi1(l:List (List UInt8))(h:∀p∈l,p.length<=9):l.flatten.length<=9*l.length:=by
 (induction l with|nil=>simp|cons a l ih=>have h1:=h a (by simp);have h2:=ih (fun p hp=>h p (by simp[hp]));simp only[List.flatten_cons,yQ,kQo];omega)
structure tU(w wr:World)(N K k M:Nat)(ps:List (List UInt8))(v:Value)(A:OA)(n c:Nat):Prop where
 lt:M<10^(9*k)
 cnt:ps.length+k<=K
 txt:gG N M ps
 own:wr.ownsRow (w.heap.size+1) 9 1 v ps.length (lL ps)
 len:∀p∈ps,p.length<=9
 blk:Blk wr w.heap.size 33 #[.s A n c]
 num:aF wr A n c M
 nle:n<=1048576
 ext:Ext w wr
theorem tV A(n c N:Nat)w(h:aF w A n c N)(hn:n<=1048576)(ht:Tab w):
  Calls prog 63 #[.agg #[.s A n c]] w fun e w'=>e=.returned (.string ⟨(Lib.decDigits N).toArray⟩)/\Ext w w':=by
 obtain⟨hb,e0⟩:=aV w #[.s A n c] 33;have hz:=h.eq_zero;by_cases hN:N=0;{(have zb:((n:Int)==0)=true:=by have:=hz.2 hN;subst this;rfl);subst hN;have cb:=hb.one.1;clear hz h ht;go_enter func63,ntmps63;(go_wp2_with fail);refine(bI A n c _).mono ?_;rintro e w1 ⟨rfl,qm⟩;have HX:=Hx (e0.tr qm);clear qm e0 hb cb;go_wp2;go_ret;exact⟨by rw[Lib.decDigits_one (by decide)];rfl,HX.o⟩};have zb:((n:Int)==0)=false:=yK.2 (by omega);have hK:N<10^(9*(2*n)):=(by obtain⟨ds,hl,_,qC,hv,_⟩:=h;have h1:=Dig.val_lt aZ qC.lt;rw[hv,hl]at h1;refine yL h1 ?_;rw[show 9*(2*n)=18*n by omega,Nat.pow_mul];exact Nat.pow_le_pow_left (by decide) _);have cb:=hb.one.1;have H:=Hx h;have HT:=Hx ht;have HK:=Hx hK;have q7:2*n<=2097152:=(by omega);obtain⟨ti,hi,qT,qU,qP⟩:=info_parts Tryz.info9;clear h ht hz hN hK;go_enter func63,ntmps63;(go_wp2_with fail);refine(bI A n c _).mono ?_;rintro e w1 ⟨rfl,qm⟩;have HX:=Hx (e0.tr qm);have HB:=Hx (hb.K qm);clear qm e0 hb cb;go_wp2;generalize hKK:2*n=K at*;have S0:Hid (tU w w1 N K K N [] zN A n c):=Hx (⟨HK.o,by simp,by unfold gG;have:=H.o.eq_zero;rw[if_neg (by intro e;rw[this.2 e]at zb;cases zb)];simp,World.ownsRow_nil _ _ _ _,fun p hp=>by simp at hp,HB.o,H.o.K HX.o,hn,HX.o⟩);clear hKK HK HB H hn zb;go_loopg [3,4,5] K (fun k v _ _ wr=>∃(j M:Nat) (ps:List (List UInt8)) (A:OA) (n c:Nat),j=k/\tU w wr N K j M ps v A n c);(case atStart=>exact⟨K,N,[],A,n,c,rfl,S0.o⟩);clear S0;obtain⟨k,M,ps,A,n,c,rfl,qy⟩:=hrel;have ca:=qy.blk.one.1;have hz:=qy.num.eq_zero;have ST:=Hx qy;clear qy;by_cases hM:M=0;{(have zb:((n:Int)==0)=true:=by have:=hz.2 hM;subst this;rfl);clear hz;(go_wp2_with fail);refine(bI A n c _).mono ?_;rintro e w2 ⟨rfl,qk⟩;have qB:=Hx qk;clear qk ca;subst hM;have qe:=ST.o.txt;unfold gG at qe;rw[if_pos rfl,List.nil_append]at qe;have qX:=Hx qe;have O2:=Hx (ST.o.own.kept (bW qB.o) (bX _));have E2:=Hx (ST.o.ext.tr qB.o);have qO:ps.length<=2097152:=(by have:=ST.o.cnt;omega);have qH:=Hx ST.o.len;obtain⟨AV,cv,rfl⟩:=jzin O2.o;clear qe ST qB;go_wp2;clear zb;(go_loopw [7,36] (fun _ it wr=>∃i:Nat,i<=ps.length/\it=vI i/\Lib.IsBuilder 196 5 w2.heap.size w2.heap.size (Lib.byteCells ((ps.reverse.take i).flatten)) wr/\Below w2.heap.size w2 wr) (fun _ i _=>ps.length-(intOf i).toNat));(case atStart=>refine⟨0,yZ _,rfl,.inl ⟨yX _,zN,heap_alloc_new w2 _,World.ownsRow_nil _ _ _ _,by simp[Value.ownBlock]⟩,(eR w2).alloc _⟩);obtain⟨i,hi,rfl,qK,qE⟩:=hrel;have BD:=Hx qK;have BL:=Hx qE;clear qK qE;by_cases va:i<ps.length;{obtain⟨m,hm⟩:∃m,ps.length=m+1+i:=⟨ps.length-1-i,by omega⟩;have qD:m<ps.length:=(by omega);obtain⟨g,rfl,qW,qh⟩:∃g,AV=(sA g)/\g<w2.heap.size/\w2.cell? (aD g m)=some (.string ⟨(ps[m]?.getD []).toArray⟩):=(by (rcases O2.o.2 with⟨_,e⟩|⟨g,cap,cur,e,_⟩);{omega};(injection e with e1 e2 e3);subst e1 e3;exact⟨g,rfl,(O2.o.lt g rfl).2,(O2.o.cellAt m (by omega)).trans (jzis ps m qD)⟩);have q6:=(BL.o.cell (p:=(aD g m)) qW).trans qh;have hx:((ps.length:Int)-1-(i:Int))=(m:Int):=(by omega);have qV:(m:Int)<(ps.length:Int):=(by omega);have qn:ps.reverse[i]?=some (ps[m]?.getD []):=(by rw[List.getElem?_reverse (by omega),show ps.length-1-i=m by omega,yG qD];rfl);have qY:(ps[m]?.getD []).length<=9:=(by rw[yG qD];exact qH.o _ (xR _));have qA:=Hx (show Lib.byteCells ((ps.reverse.take (i+1)).flatten)=Lib.byteCells ((ps.reverse.take i).flatten)++Lib.strCells ⟨(ps[m]?.getD []).toArray⟩ by rw[kQr,qn,List.flatten_append,Lib.byteCells_append];simp;rfl);have q9:((ps.reverse.take i).flatten).length<=9*ps.length:=(by have:=jzi1 (ps.reverse.take i) (fun p hp=>qH.o p (List.mem_reverse.1 (xM hp)));simp only[xF,List.length_reverse]at this;omega);generalize ps[m]?.getD []=pm at*;clear hm qh qn;(go_wp2_with fail);refine(tT w2.heap.size w2.heap.size _ ⟨pm.toArray⟩ _ BD.o (by rw[Lib.byteCells_length];show _+pm.toArray.size<=_;rw[show pm.toArray.size=pm.length by simp];omega) BL.o.size).mono ?_;rintro e w9 ⟨rfl,qM,qt⟩;have B9:=Hx qM;have L9:=Hx (BL.o.trans qt);clear qM qt hx;go_wp2;go_roundw;(case rel=>exact⟨i+1,by omega,by go_num,.inr (by rw[qA.o];exact B9.o),L9.o⟩);simp[intOf];omega};have qR:i=ps.length:=(by omega);subst qR;(go_wp2_with fail);refine(Tryz.Builder_String_any w2.heap.size w2.heap.size _ _ BD.o BL.o.size).mono ?_;rintro e w9 ⟨rfl,qt⟩;have HE:=Hx (E2.o.tr (BL.o.trans qt));clear qt;go_wp2;go_ret;refine⟨?_,HE.o⟩;rw[qX.o,yU (by simp)];rfl};have zb:((n:Int)==0)=false:=yK.2 (by omega);clear hz;(go_wp2_with fail);refine(bI A n c _).mono ?_;rintro e w2 ⟨rfl,qk⟩;have ca:=(ST.o.blk.K qk).one.1;have X2:=Hx qk;clear qk;(go_wp2_with fail);refine(sX A n c M 1000000000 _ (ST.o.num.K X2.o) (by have:=ST.o.nle;omega) (by decide) (by decide)).mono ?_;rintro e w3 ⟨A3,n3,c3,rfl,qx,qL⟩;have X3:=Hx (X2.o.tr qL);have R3:=Hx qx;have B3:=Hx (ST.o.blk.K X3.o);obtain⟨ca,fa⟩:=B3.o.one;have qN:M%1000000000<1000000000:=xT _ (by decide);have q8:n3<=n:=aF.len_le qx ST.o.num (kZi _ _);have qI:=qx.eq_zero;clear qL qx X2;have X4:Hid (Ext w (w3.setCell (aD w.heap.size 0) (.s A3 n3 c3))):=Hx (Ext.sT (ST.o.ext.tr X3.o) (p:=(aD w.heap.size 0)) (yX _) _);generalize hrm:M%1000000000=r at*;have HR:=Hx hrm;clear hrm;(go_wp2_with fail);refine(jziu r _ (HT.o.K X4.o) qN).mono ?_;rintro e w5 ⟨rfl,qp⟩;have X5:=Hx (X4.o.tr qp);have B5:=Hx ((B3.o.sT 0 (.s A3 n3 c3)).K qp);have R5:=Hx ((R3.o.sT (p:=(aD w.heap.size 0)) B3.o (by decide) (.s A3 n3 c3)).K qp);have g4:w3.grownBy (w3.setCell (aD w.heap.size 0) (.s A3 n3 c3)) (some w.heap.size):=aO w3 w.heap.size 0 _;have O5:=Hx (((ST.o.own.kept (bW X3.o) (bX _)).kept g4 (jzh9 (ST.o.own.kept (bW X3.o) (bX _)) (by omega))).kept (bW qp) (bX _));have ca:=B5.o.one.1;clear qp g4 X4 X3 B3 R3 fa;have vd:=Dig.dec_len_nine r qN;generalize hdr:Lib.decDigits r=dr at*;have qS:=Hx hdr;clear hdr;(go_wp2_with fail);refine(bI A3 n3 c3 _).mono ?_;rintro e w6 ⟨rfl,qo⟩;have X6:=Hx (X5.o.tr qo);have B6:=Hx (B5.o.K qo);have R6:=Hx (R5.o.K qo);have O6:=Hx (O5.o.kept (bW qo) (bX _));clear qo X5 B5 R5 O5 ca;have PP:=Hx (show fJ M=if M/1000000000=0 then dr else List.replicate (9-dr.length) 48++dr by unfold fJ;rw[HR.o,qS.o]);have qJ:((n3:Int)==0)=decide (M/1000000000=0):=(by by_cases hq:M/1000000000=0;{have:=qI.2 hq;subst this;rw[yO hq];rfl};rw[yP hq];exact yK.2 (by omega));rw[qJ];generalize hz9:decide (M/1000000000=0)=zz at*;have qz:=Hx hz9;clear qJ hz9 qI;(go_upto_if 23 with fail);go_cut [5] (fun s wx=>s=.string ⟨(fJ M).toArray⟩/\Ext w6 wx);(case first=>cases zz;(case true=>have hp:=PP.o;rw[if_pos (of_decide_eq_true qz.o)]at hp;have HP:=Hx hp;clear hp;go_wp2;go_meet;exact⟨by rw[HP.o],eR _⟩);have hp:=PP.o;rw[if_neg (of_decide_eq_false qz.o)]at hp;have HP:=Hx hp;clear hp;(go_wp2_with fail);rw[show(9-(dr.length:Int))=((9-dr.length:Nat):Int) by omega];refine(jziv (9-dr.length) _ (by omega)).mono ?_;rintro e w7 ⟨rfl,qg⟩;have X7:=Hx qg;clear qg;go_wp2;go_meet;refine⟨?_,X7.o⟩;rw[HP.o,jziy];congr 2;apply Array.ext';simp);obtain⟨rfl,qg⟩:=hcut;have X7:=Hx (X6.o.tr qg);have B7:=Hx (B6.o.K qg);have R7:=Hx (R6.o.K qg);have O7:=Hx (O6.o.kept (bW qg) (bX _));have vc:=ST.o.cnt;clear qg X6 B6 R6 O6 qz PP;(go_wp2_with (at_builtin;go_must (refine nL _ rfl (.tmp 30) (.tmp 32) 187 rfl (w.heap.size+1) 9 ti (.string ⟨#[]⟩) 16 underlying187 hi qT qU qP rfl u3 ps.length (lL ps) rfl ?c0 (sA wc.heap.size) 1 1 [.string ⟨(fJ M).toArray⟩] rfl rfl ?c1 ?c2 ?c3 ?c4 ?c5 ?c6 ?_)));(case c0=>exact O7.o.alloc _);(case c1=>exact Rd.new _ _ _ rfl rfl);(case c2=>intro h;cases h);(case c3=>intro u hu;simp at hu;subst hu;rfl);(case c4=>unfold maxLen;omega);(case c5=>omega);(case c6=>have:=B7.o.lt;simp;omega);intro v8 w8 qf qa _;have qw:(wc.alloc (.cells #[.string ⟨(fJ M).toArray⟩] 9)).grownBy w8 u3.ownBlock:=qa;have qj:∀k,u3.ownBlock=some k->w.heap.size+1<=k:=fun k hk=>(O7.o.lt k hk).1;have qi:Blk w8 w.heap.size 33 #[.s A3 n3 c3]:=(qw.block _ (B7.o.alloc _).lt (fun e=>by have:=qj _ e.symm;omega)).trans (B7.o.alloc _);have q0:1<=k:=(by (rcases kQm k with e|e);{exfalso;have:=ST.o.lt;rw[e]at this;simp at this;omega};exact e);have qF:Ext w w8:=Below.grown (X7.o.alloc _) qw (X7.o.alloc _).size (fun k hk=>by have:=qj k hk;omega);have qG:aF w8 A3 n3 c3 (M/1000000000):=(by obtain⟨ds,q1,q2,q3,q4,q5⟩:=R7.o.K ((eR wc).alloc (.cells #[.string ⟨(fJ M).toArray⟩] 9));refine⟨ds,q1,q2,q3,q4,q5.grown qw (fun hx ad had e=>?_)⟩;obtain⟨bb,oo,cs,fr,e1,e2,_⟩:=q5 hx;rw[had]at e1;injection e1 with e1;(subst e1;obtain⟨c9,f9,e9⟩:=Lib.ownsRow_kind (O7.o.alloc (.cells #[.string ⟨(fJ M).toArray⟩] 9)) _ e.symm;rw[e2]at e9;injection e9 with e9);(injection e9 with _ e9);revert e9;decide)
 have SN:=Hx (show tU w w8 N K (k-1) (M/1000000000) (ps++[fJ M]) v8 A3 n3 c3 from
  ⟨by
   rw[kZp (by decide)];have:=ST.o.lt;rw[show 9*k=9*(k-1)+9 by omega,Nat.pow_add]at this;exact this,by rw[yQ,kZd];omega,jzi0 ST.o.txt (by omega),by rw[yQ,kZd,jzir];exact qf,fun p hp=>by
    rcases xY.1 hp with h|h
    ·
     exact ST.o.len p h
    rw[xD.1 h];exact jziz M,qi,qG,by have:=ST.o.nle;omega,qF⟩)
 clear qf qa qw qj qi qF qG;go_wp2;go_roundg (k-1);(case measure=>omega);exact⟨k-1,M/1000000000,ps++[fJ M],A3,n3,c3,rfl,SN.o⟩
def eA(q:Rat):List UInt8:=(if q.num<0 then [45]else [])++Lib.decDigits q.num.natAbs++(if q.den=1 then []else [47]++Lib.decDigits q.den)
theorem jzba:∀(k N:Nat),N<10^(k+1)->Lib.nDigits N<=k+1
 |0,N,h=>by rw[Lib.nDigits_small (by simpa using h)];exact yX _
 |k+1,N,h=>by
  by_cases hN:N<10
  ·rw[Lib.nDigits_small hN];omega
  ·rw[Lib.nDigits_big hN]
   have:=jzba k (N/10) (by rw[vD]at h;omega);omega
theorem jzbb{w}{A}{n c N:Nat}(h:aF w A n c N)(hn:n<=1048576):(Lib.decDigits N).length<=20000000:=by
 obtain⟨ds,hl,_,qa,hv,_⟩:=h;have h1:=Dig.val_lt aZ qa.lt;rw[hv,hl]at h1;have h2:N<10^(18*n+1):=(by refine yL h1 (yY (Nat.pow_le_pow_left (show B32<=10^18 by decide) n) ?_);rw[<-Nat.pow_mul];exact kQk (by decide) (by omega));rw[Lib.decDigits_length];have:=jzba _ _ h2;omega
theorem jzbc(neg:Bool)A(n c:Nat)A'(n' c':Nat)(q:Rat)w(h:aE w neg A n c A' n' c' q)(hn:n<=1048576)(hn':n'<=1048576)(ht:Tab w):
  Calls prog 23 #[.agg #[.bool neg,.s A n c,.s A' n' c']] w fun e w'=>e=.returned (.string ⟨(eA q).toArray⟩)/\Ext w w':=by
 obtain⟨qa,e0⟩:=aV w #[.bool neg,.s A n c,.s A' n' c'] 35;have hz:=h.2.2.eq_zero;have qg:(((n':Int)==0)=true/\q.den=1)\/(((n':Int)==0)=false/\q.den≠1/\dk q=q.den):=(by have hd:=q.den_nz;unfold dk at hz⊢;by_cases h1:q.den=1;{rw[if_pos h1]at hz;have:=hz.2 rfl;subst this;exact .inl ⟨rfl,h1⟩};rw[if_neg h1]at hz⊢;exact .inr ⟨yK.2 (by omega),h1,rfl⟩);have qx:=jzbb h.2.1 hn;have qo:=jzbb h.2.2 hn';have H:=Hx h;have HT:=Hx ht;have qj:=h.1;have SG:=Hx (show(if q.num<0 then [45]else([]:List UInt8))=if neg then [45]else [] by rw[qj];simp);clear h ht hz qj;obtain⟨⟨i0,i1,i2⟩,g0,g1,g2⟩:=qa.t3;have goal:∀(s:ByteArray),s.data.toList=eA q->s=⟨(eA q).toArray⟩:=fun s hs=>(by rw[<-hs])
 have qi:=Hx goal;clear goal;have qp:∀b1:Bool,neg=b1->Calls prog 23 #[.agg #[.bool neg,.s A n c,.s A' n' c']] w fun e w'=>e=.returned (.string ⟨(eA q).toArray⟩)/\Ext w w':=by
  intro b1 qt;subst qt;rcases qg with⟨zb,hd⟩|⟨zb,hd,hdk⟩
  ·have HD:=Hx hd;clear hd;cases neg
   all_goals
    go_enter func23,ntmps23
    go_wp2_with fail
    refine(tV A n c q.num.natAbs _ (H.o.2.1.K e0) hn (HT.o.K e0)).mono ?_;rintro e w1 ⟨rfl,qe⟩;have qa:=qa.K qe;obtain⟨⟨i0,i1,i2⟩,g0,g1,g2⟩:=qa.t3;have HX:=Hx (e0.tr qe);clear qe
    go_wp2_with fail
    refine(bI A' n' c' _).mono ?_;rintro e w2 ⟨rfl,qf⟩;have qh:=Hx (HX.o.tr qf);clear qf;go_wp2;go_ret;refine⟨congrArg (fun s=>Ending.returned (.string s)) (qi.o _ ?_),qh.o⟩;unfold eA;rw[SG.o,HD.o];simp[ByteArray.data_append]
  have HD:=Hx hd;have qm:=Hx hdk;clear hd hdk;cases neg
  all_goals
   go_enter func23,ntmps23
   go_wp2_with fail
   refine(tV A n c q.num.natAbs _ (H.o.2.1.K e0) hn (HT.o.K e0)).mono ?_;rintro e w1 ⟨rfl,qe⟩;have qa:=qa.K qe;obtain⟨⟨i0,i1,i2⟩,g0,g1,g2⟩:=qa.t3;have HX:=Hx (e0.tr qe);clear qe
   go_wp2_with fail
   refine(bI A' n' c' _).mono ?_;rintro e w2 ⟨rfl,qf⟩;have qh:=Hx (HX.o.tr qf);have qa:=qa.K qf;obtain⟨⟨i0,i1,i2⟩,g0,g1,g2⟩:=qa.t3;clear qf
   go_wp2_with fail
   refine(tV A' n' c' (dk q) _ (H.o.2.2.K qh.o) hn' (HT.o.K qh.o)).mono ?_;rintro e w3 ⟨rfl,qk⟩;have qw:=qo;have qn:=Hx (qh.o.tr qk);clear qk;go_wp2;go_ret;refine⟨congrArg (fun s=>Ending.returned (.string s)) (qi.o _ ?_),qn.o⟩;unfold eA;rw[SG.o,if_neg HD.o,qm.o];simp[ByteArray.data_append]
 exact qp neg rfl
end Go.Proofs.YtojpooidhilnfaaGreatDoor
namespace Go.Proofs.YtojpooidhilnfaaGreatDoor
open Go.Proofs.Tryz
open Go.ChangeShapes Go.WideShapes Go.ChangeAt Go.RowKit
theorem Tryz.own:ownKnob prog.godebug=none:=by kernel_rfl
theorem Tryz.laidOut:laidOutB prog=true:=by kernel_rfl
abbrev mL:List (String×DataW Unit):=Rows.flowsCutRow.laid
theorem jzi2{W}(h:laidMetH prog mL W):Tab W:=by
 rw[MakeChecks.laidMetH_plain _ _ _ (by kernel_rfl)]at h;have h0:laidMet prog mL W:=h;have h3:laidMet prog [("internal/strconv.uint64pow10",Lib.tabData .u64 Lib.pow10Tab)] W:=h0.tail.tail;exact Lib.tabIs_of_head (g:=2) (t:=327) (by kernel_rfl) (by kernel_rfl) underlying327 underlying176 (by kernel_rfl) (by kernel_rfl) h3
theorem jzi3(os:Os)(args:Array Value):laidMetH prog mL ((World.doorLaid prog 24 os).forCall (fun _ _=>0) ⟨#[],args,[]⟩).memory:=
 laidMetH_of_parts3 (fuel:=8) (laidMet_of_run' 8 (by kernel_rfl) (by kernel_rfl)) (by kernel_rfl) (by kernel_rfl)
end Go.Proofs.YtojpooidhilnfaaGreatDoor
namespace Go.Proofs.YtojpooidhilnfaaGreatDoor
open Go.Proofs.Tryz
open Go.RowKit
def SzQ(q:Rat)(k:Nat):Prop:=q.num.natAbs<B32^k/\q.den<B32^k
def QR(w:World)(cs:List Value)(q:Rat):Prop:=
 ∃(neg:Bool) (A:OA) (n c:Nat) (A':OA) (n' c':Nat),cs=[.bool neg,.s A n c,.s A' n' c']/\aE w neg A n c A' n' c' q
theorem QR.K{w w'}{cs:List Value}{q:Rat}(h:QR w cs q)(hx:Ext w w'):QR w' cs q:=by
 obtain⟨neg,A,n,c,A',n',c',e,h1⟩:=h;exact⟨neg,A,n,c,A',n',c',e,h1.K hx⟩
theorem aF.lenOf{w}{A}{n c N k:Nat}(h:aF w A n c N)(hN:N<B32^k):n<=k:=by
 obtain⟨ds,rfl,_,qa,rfl,_⟩:=h;exact qa.len_le kE hN
theorem aE.lens{w}{neg:Bool}{A}{n c:Nat}{A'}{n' c':Nat}{q:Rat}{k:Nat}(h:aE w neg A n c A' n' c' q)(hs:SzQ q k):n<=k/\n'<=k:=by
 refine⟨h.2.1.lenOf hs.1,h.2.2.lenOf ?_⟩;unfold dk;split;{exact kQy aZ};exact hs.2
theorem eL{m:Nat}:∀(css:List (List Value)),(∀cs∈css,cs.length=m)->∀(i k:Nat),i<css.length->k<m->css.flatten[i*m+k]?=(css[i]?.getD [])[k]?
 | [],_,i,k,hi,_=>by simp at hi
 |cs::css,h,0,k,_,hk=>by
  rw[Nat.zero_mul,kQu,List.flatten_cons,yR (by rw[h cs (by simp)];exact hk)];rfl
 |cs::css,h,i+1,k,hi,hk=>by
  have hl:=h cs (by simp);rw[List.flatten_cons,yS (by rw[hl,xP,xQ];omega),hl,show(i+1)*m+k-m=i*m+k by rw[xP,xQ];omega];rw[eL css (fun c hc=>h c (by simp[hc])) i k (by simpa using hi) hk];simp
theorem gH{m:Nat}(css:List (List Value))(h:∀cs∈css,cs.length=m):css.flatten.length=css.length*m:=by
 (induction css with|nil=>simp|cons a l ih=>rw[List.flatten_cons,yQ,h a (by simp),ih (fun c hc=>h c (by simp[hc])),kQo,xP,xQ,kZl])
def QL(w:World)(P:OA)(qs:LQ):Prop:=
 ∃css:List (List Value),css.length=qs.length/\(∀cs∈css,cs.length=3)/\Rd w P css.flatten/\∀(i:Nat) (q:Rat),qs[i]?=some q->∃cs,css[i]?=some cs/\QR w cs q
theorem QL.K{w w'}{P}{qs:LQ}(h:QL w P qs)(hx:Ext w w'):QL w' P qs:=by
 obtain⟨css,h1,h2,h3,h4⟩:=h;refine⟨css,h1,h2,h3.K hx,fun i q hq=>?_⟩;obtain⟨cs,k1,k2⟩:=h4 i q hq;exact⟨cs,k1,k2.K hx⟩
theorem QL.at_{w}{P}{qs:LQ}(h:QL w P qs){i:Nat}{q:Rat}(hq:qs[i]?=some q):
  ∃(b o:Nat) (neg:Bool) (A:OA) (n c:Nat) (A':OA) (n' c':Nat),P=some (aD b o)/\b<w.heap.size/\w.cell? (aD b (o+i*3))=some (.bool neg)/\w.cell? (aD b (o+i*3+1))=some (.s A n c)/\w.cell? (aD b (o+i*3+2))=some (.s A' n' c')/\aE w neg A n c A' n' c' q:=by
 obtain⟨css,h1,h2,h3,h4⟩:=h;obtain⟨cs,k1,neg,A,n,c,A',n',c',rfl,k2⟩:=h4 i q hq;have hi:=(yH.1 hq).1;have hl:=gH css h2;have qa:∀k,k<3->css.flatten[i*3+k]?=([.bool neg,.s A n c,.s A' n' c']:List Value)[k]?:=fun k hk=>(by rw[eL css h2 i k (by omega) hk,k1];rfl);obtain⟨b,o,rfl,hb,hc⟩:=h3.at_ (i:=i*3) (by omega);refine⟨b,o,neg,A,n,c,A',n',c',rfl,hb,?_,?_,?_,k2⟩;{have:=hc (i*3+0) (by omega);rw[qa 0 (by omega)]at this;exact this};{have:=hc (i*3+1) (by omega);rw[qa 1 (by omega)]at this;exact this};have:=hc (i*3+2) (by omega);rw[qa 2 (by omega)]at this;exact this
theorem jzi4(neg:Bool)A(n c:Nat)A'(n' c':Nat)(q:Rat)w(h:aE w neg A n c A' n' c' q):
  Calls prog 186 #[.agg #[.bool neg,.s A n c,.s A' n' c']] w fun e w'=>e=.returned (.bool (decide (aC q<0)))/\Ext w w':=by
 obtain⟨qe,e0⟩:=aV w #[.bool neg,.s A n c,.s A' n' c'] 35;obtain⟨⟨i0,i1,i2⟩,g0,g1,g2⟩:=qe.t3;have H:=Hx h;clear h;go_enter func186,ntmps186;(go_wp2_with fail);refine(dA neg A n c A' n' c' q _ (H.o.K e0)).mono ?_;rintro e w1 ⟨rfl,qa⟩;have HX:=Hx (e0.tr qa);clear qa;go_wp2;go_ret;exact⟨rfl,HX.o⟩
def jzi5(w:World)(qs:LQ)(e:Ending)(w':World):Prop:=∃r:Int,e=.returned (vI r)/\decide (0<=r)=qs.any (fun q=>decide (aC q<0))/\Ext w w'
theorem jzi6 P(cp:Nat)(qs:LQ)w(h:QL w P qs)(hl:qs.length<=1000000):
  Calls prog 224 #[.s P qs.length cp,.func (.func 186) #[] #[]] w (jzi5 w qs):=by
 have H:=Hx h;clear h;go_enter func224,ntmps224;go_wp2;(go_loopw [5,8] (fun _ it wr=>∃k:Nat,k<=qs.length/\it=vI k/\(qs.take k).any (fun q=>decide (aC q<0))=false/\Ext w wr) (fun _ i _=>qs.length-(intOf i).toNat));(case atStart=>exact⟨0,yZ _,rfl,rfl,eR _⟩);obtain⟨k,hk,rfl,qh,hx⟩:=hrel;have qf:=Hx qh;have HX:=Hx hx;clear qh hx;by_cases qk:k<qs.length;{obtain⟨q,hq⟩:∃q,qs[k]?=some q:=⟨_,yG qk⟩;obtain⟨b,o,neg,A,n,c,A',n',c',rfl,hb,i0,i1,i2,hR⟩:=(H.o.K HX.o).at_ hq;have R:=Hx hR;have qe:=Hx (show(qs.take (k+1)).any (fun q=>decide (aC q<0))=decide (aC q<0) by rw[kQr,hq,List.any_append,qf.o];simp);have qm:Hid (decide (aC q<0)=true->qs.any (fun q=>decide (aC q<0))=true):=Hx (fun e=>List.any_eq_true.2 ⟨q,yJ hq,e⟩);clear hq hR;(go_wp2_with fail);refine(jzi4 neg A n c A' n' c' q _ R.o).mono ?_;rintro e w1 ⟨rfl,qj⟩;have qi:=Hx (HX.o.tr qj);clear qj i0 i1 i2;cases hs:decide (aC q<0);(case true=>have qa:=qm.o hs;have qg:=Hx qa;clear qa hs;go_wp2;go_ret;exact⟨(k:Int),rfl,by rw[qg.o];simp,qi.o⟩);have HS:=Hx (qe.o.trans hs);clear hs;go_wp2;go_roundw;(case rel=>exact⟨k+1,by omega,by go_num,HS.o,qi.o⟩);simp[intOf];omega};have qn:k=qs.length:=(by omega);subst qn;rw[yU (yX _)]at qf;go_wp2;go_ret;exact⟨-1,rfl,by rw[qf.o];rfl,HX.o⟩
theorem jzi7 P(cp:Nat)(qs:LQ)w(h:QL w P qs)(hl:qs.length<=1000000):
  Calls prog 187 #[.s P qs.length cp,.func (.func 186) #[] #[]] w fun e w'=>e=.returned (.bool (qs.any (fun q=>decide (aC q<0))))/\Ext w w':=by
 have H:=Hx h;clear h;generalize hB:qs.any (fun q=>decide (aC q<0))=B;have HB:=Hx hB;clear hB;go_enter func187,ntmps187;(go_wp2_with fail);refine(jzi6 P cp qs _ H.o hl).mono ?_;rintro e w1 ⟨r,rfl,hr,qa⟩;rw[HB.o]at hr;subst hr;go_wp2;go_ret;exact⟨rfl,qa⟩
def eM(t:Tp)(qs:LQ):Bool:=decide (qs.length=2*t.links.length)&&!qs.any (fun q=>decide (aC q<0))
theorem jzi8 t AO(co:Nat)AL(cl:Nat)P(cp:Nat)(qs:LQ)w(ht:aX w t AO co AL cl)(h:QL w P qs)(hl:qs.length<=1000000):
  Calls prog 136 #[.agg #[vI t.nodes,.s AO t.over.length co,.s AL t.links.length cl],.s P qs.length cp] w fun e w'=>e=.returned (.bool (eM t qs))/\Ext w w':=by
 obtain⟨qg,e0⟩:=aV w #[vI t.nodes,.s AO t.over.length co,.s AL t.links.length cl] 25;obtain⟨⟨i0,i1,i2⟩,g0,g1,g2⟩:=qg.t3;have H:=Hx h;have HT:=Hx ht;have h3:=ht.ll;have h4:=ht.cl;generalize hB:eM t qs=B;have HB:=Hx hB;clear h ht hB;go_enter func136,ntmps136;(go_wp2_with fail);refine(fW t AO co AL cl _ (HT.o.K e0)).mono ?_;rintro e w1 ⟨rfl,qf⟩;have HX:=Hx (e0.tr qf);clear qf i0 i1 i2 g0 g1 g2;by_cases he:qs.length=2*t.links.length;{(have qi:((qs.length:Int)==2*(t.links.length:Int))=true:=by simp;omega);have qa:B=!qs.any (fun q=>decide (aC q<0)):=(by rw[<-HB.o];unfold eM;rw[yO he];rfl);subst qa;clear he HB;(go_wp2_with fail);refine(jzi7 P cp qs _ (H.o.K HX.o) hl).mono ?_;rintro e w2 ⟨rfl,qe⟩;have qh:=Hx (HX.o.tr qe);clear qe;generalize hZ:qs.any (fun q=>decide (aC q<0))=Z at*;have HZ:=Hx hZ;clear hZ;go_wp2;go_ret;exact⟨by rw[HZ.o];rfl,qh.o⟩};have qi:((qs.length:Int)==2*(t.links.length:Int))=false:=yK.2 (by omega);have qa:B=false:=(by rw[<-HB.o];unfold eM;rw[yP he];rfl);subst qa;clear he HB;go_wp2;go_ret;exact⟨rfl,HX.o⟩
def or3(x y z:Int):Int:=if x≠0 then x else if y≠0 then y else z
def bJ:LN->LN->Int
 | [],[]=>0
 | [],_::_=> -1
 |_::_,[]=>1
 |a::x,b::y=>if a<b then-1 else if a=b then bJ x y else 1
theorem jzbd(g:Nat)(x y z:Int)w(h:Blk w g 3 #[vI x,vI y,vI z]):
  Calls prog 188 #[.s (sA g) 3 3] w fun e w'=>e=.returned (vI (or3 x y z))/\w=w':=by
 obtain⟨⟨i0,i1,i2⟩,_⟩:=h.t3;have hR:∃R,R=or3 x y z:=⟨_,rfl⟩;obtain⟨R,hR⟩:=hR;have HR:=Hx hR;rw[<-hR];clear h hR;go_enter func188,ntmps188;go_wp2;(go_loop [5,8] (fun _ it=>∃k:Nat,k<=3/\it=vI k/\(1<=k->x=0)/\(2<=k->y=0)/\(3<=k->z=0)) (fun _ i=>3-(intOf i).toNat));(case atStart=>exact⟨0,by omega,rfl,by omega,by omega,by omega⟩);(obtain⟨k,hk,rfl,h1,h2,h3⟩:=hrel;have H1:=Hx h1;have H2:=Hx h2;have H3:=Hx h3;clear h1 h2 h3;obtain rfl|rfl|rfl|rfl:k=0\/k=1\/k=2\/k=3:=by omega);{by_cases hx:x=0;{(have hb:(x !=0)=false:=by simp[hx]);have HX:=Hx hx;clear hx;go_wp2;(go_round);(case rel=>exact⟨1,by omega,rfl,fun _=>HX.o,by omega,by omega⟩);simp[intOf]};have hb:(x !=0)=true:=bne_iff_ne.2 hx;have HX:=Hx (show x=R by rw[HR.o];unfold or3;rw[if_pos hx]);go_wp2;go_ret;exact⟨by rw[<-HX.o];rfl,rfl⟩};{by_cases hx:y=0;{(have hb:(y !=0)=false:=by simp[hx]);have HX:=Hx hx;clear hx;go_wp2;(go_round);(case rel=>exact⟨2,by omega,rfl,fun _=>H1.o (by omega),fun _=>HX.o,by omega⟩);simp[intOf]};have hb:(y !=0)=true:=bne_iff_ne.2 hx;have HX:=Hx (show y=R by rw[HR.o];unfold or3;rw[if_neg (by simpa using H1.o (by omega)),if_pos hx]);go_wp2;go_ret;exact⟨by rw[<-HX.o];rfl,rfl⟩};{by_cases hx:z=0;{(have hb:(z !=0)=false:=by simp[hx]);have HX:=Hx hx;clear hx;go_wp2;(go_round);(case rel=>exact⟨3,by omega,rfl,fun _=>H1.o (by omega),fun _=>H2.o (by omega),fun _=>HX.o⟩);simp[intOf]};have hb:(z !=0)=true:=bne_iff_ne.2 hx;have HX:=Hx (show z=R by rw[HR.o];unfold or3;rw[if_neg (by simpa using H1.o (by omega)),if_neg (by simpa using H2.o (by omega))]);go_wp2;go_ret;exact⟨by rw[<-HX.o];rfl,rfl⟩};have HX:=Hx (show 0=R by rw[HR.o];unfold or3;rw[if_neg (by simpa using H1.o (by omega)),if_neg (by simpa using H2.o (by omega)),H3.o (by omega)]);go_wp2;go_ret;exact⟨by rw[<-HX.o];rfl,rfl⟩
theorem jzi9(x y:Nat):Lib.compareInt (x:Int) (y:Int)=aK x y:=by
 unfold Lib.compareInt aK;split <;> split <;> (try split) <;> omega
theorem rC(x y:Nat)w:Calls prog 189 #[vI x,vI y] w fun e w'=>e=.returned (vI (aK x y))/\w=w':=by
 refine(Tryz.cmp_Compare_int x y w).mono ?_;rintro e w' ⟨rfl,rfl⟩;exact⟨by rw[jzi9],rfl⟩
theorem jzja{l1 l2:LN}{k a b:Nat}(h1:l1[k]?=some a)(h2:l2[k]?=some b):bJ (l1.drop k) (l2.drop k)=if a<b then-1 else if a=b then bJ (l1.drop (k+1)) (l2.drop (k+1))else 1:=by
 obtain⟨qe,e1⟩:=yH.1 h1;obtain⟨qa,e2⟩:=yH.1 h2;rw[kQ6 qe,kQ6 qa,bJ,e1,e2]
theorem jzbe A1 A2(c1 c2:Nat)(l1 l2:LN)w(hr1:Rd w A1 (ints l1))(hr2:Rd w A2 (ints l2))(hl1:l1.length<=1000000)(hl2:l2.length<=1000000):
  Calls prog 190 #[.s A1 l1.length c1,.s A2 l2.length c2] w fun e w'=>e=.returned (vI (bJ l1 l2))/\w=w':=by
 have R1:=Hx hr1;have R2:=Hx hr2;obtain⟨R,hR⟩:∃R,R=bJ l1 l2:=⟨_,rfl⟩;have HR:=Hx hR;rw[<-hR];clear hr1 hr2 hR;go_enter func190,ntmps190;go_wp2;(go_loop [5,6,7,8,11] (fun _ _ _ _ it=>∃k:Nat,k<=l1.length/\k<=l2.length/\it=vI k/\bJ (l1.drop k) (l2.drop k)=R) (fun _ _ _ _ i=>l1.length-(intOf i).toNat));(case atStart=>exact⟨0,yZ _,yZ _,rfl,HR.o.symm⟩);obtain⟨k,qt,qp,rfl,qh⟩:=hrel;have HL:=Hx qh;clear qh;by_cases qi:k<l1.length;{obtain⟨a,ha⟩:∃a,l1[k]?=some a:=⟨_,yG qi⟩;obtain⟨b,o,rfl,hb,qn⟩:=R1.o.ints_ qi;rw[ha,kQ1]at qn;by_cases qe:k<l2.length;{obtain⟨a2,qj⟩:∃a,l2[k]?=some a:=⟨_,yG qe⟩;obtain⟨b2,o2,rfl,qw,qm⟩:=R2.o.ints_ qe;rw[qj,kQ1]at qm;have hl:=HL.o;rw[jzja ha qj]at hl;have qk:=Hx hl;clear hl ha qj;(go_wp2_with fail);refine(rC a a2 _).mono ?_;rintro e w1 ⟨rfl,rfl⟩;by_cases qf:a<a2;{(have hv:aK a a2= -1:=by unfold aK;rw[if_pos qf]);have qa:=Hx (show-1=R by rw[<-qk.o,if_pos qf]);rw[hv];clear hv;go_wp2;go_ret;exact⟨by rw[<-qa.o];rfl,rfl⟩};by_cases qg:a=a2;{(have hv:aK a a2=0:=by unfold aK;rw[if_neg qf,if_pos qg]);have qa:=Hx (show bJ (l1.drop (k+1)) (l2.drop (k+1))=R by rw[<-qk.o,if_neg qf,if_pos qg]);rw[hv];clear hv qg;go_wp2;(go_round);(case rel=>exact⟨k+1,by omega,by omega,by go_num,qa.o⟩);simp[intOf];omega};have hv:aK a a2=1:=(by unfold aK;rw[if_neg qf,if_neg qg]);have qa:=Hx (show 1=R by rw[<-qk.o,if_neg qf,if_neg qg]);rw[hv];clear hv;go_wp2;go_ret;exact⟨by rw[<-qa.o];rfl,rfl⟩};have qa:=Hx (show 1=R by rw[<-HL.o,kQ6 qi,kQf (show l2.length<=k by omega)];rfl);clear ha;go_wp2;go_ret;exact⟨by rw[<-qa.o];rfl,rfl⟩};have qo:k=l1.length:=(by omega);subst qo;by_cases qe:l1.length<l2.length;{have qa:=Hx (show-1=R by rw[<-HL.o,kQf (yX _),kQ6 qe];rfl);go_wp2;go_ret;exact⟨by rw[<-qa.o];rfl,rfl⟩};have qa:=Hx (show 0=R by rw[<-HL.o,kQf (yX _),kQf (show l2.length<=l1.length by omega)];rfl);go_wp2;go_ret;exact⟨by rw[<-qa.o];rfl,rfl⟩
def nP(p q:Rat)(x y:LN):Int:=or3 (aW p q) (aK x.length y.length) (bJ x y)
theorem jzbf(k1 d1 na k2 d2 nb:Bool)A1(n1 c1:Nat)A1'(n1' c1':Nat)A2(n2 c2:Nat)A2'(n2' c2':Nat)AX AY(cx cy:Nat)(p q:Rat)(x y:LN)w
  (ha:aE w na A1 n1 c1 A1' n1' c1' p) (hb:aE w nb A2 n2 c2 A2' n2' c2' q) (l1:n1<=268435456) (l1':n1'<=268435456) (l2:n2<=268435456) (l2':n2'<=268435456) (hx:Rd w AX (ints x)) (hy:Rd w AY (ints y)) (hxl:x.length<=1000000) (hyl:y.length<=1000000):
  Calls prog 140 #[.agg #[.bool k1,.bool d1,.bool na,.s A1 n1 c1,.s A1' n1' c1',.s AX x.length cx],.agg #[.bool k2,.bool d2,.bool nb,.s A2 n2 c2,.s A2' n2' c2',.s AY y.length cy]] w fun e w'=>e=.returned (vI (nP p q x y))/\Ext w w':=by
 obtain⟨qe,qa,e0⟩:=dH w #[.bool k1,.bool d1,.bool na,.s A1 n1 c1,.s A1' n1' c1',.s AX x.length cx] 216 #[.bool k2,.bool d2,.bool nb,.s A2 n2 c2,.s A2' n2' c2',.s AY y.length cy] 216;have HA:=Hx ha;have HB:=Hx hb;have HX:=Hx hx;have HY:=Hx hy;obtain⟨R,hR⟩:∃R,R=nP p q x y:=⟨_,rfl⟩;have HR:=Hx hR;rw[<-hR];clear ha hb hx hy hR;generalize hW:(w.alloc (.cells #[.bool k1,.bool d1,.bool na,.s A1 n1 c1,.s A1' n1' c1',.s AX x.length cx] 216)).alloc (.cells #[.bool k2,.bool d2,.bool nb,.s A2 n2 c2,.s A2' n2' c2',.s AY y.length cy] 216)=W at*;have qm:=qe.cell 2;have qg:=qe.cell 3;have qh:=qe.cell 4;have qj:=qe.cell 5;have qn:=qa.cell 2;have qi:=qa.cell 3;have qf:=qa.cell 4;have qk:=qa.cell 5;simp only[xI,kQi,List.getElem?_cons_succ]at qm qg qh qj qn qi qf qk;have BA:=Hx qe;have BB:=Hx qa;have E0:=Hx e0;clear qe qa e0;go_enter func140,ntmps140;go_wp2;clear hW;have W0:Hid (Ext w W.drew):=Hx (E0.o.drewN 1);have BA:Hid (Blk W.drew _ _ _):=BA.o;have BB:Hid (Blk W.drew _ _ _):=BB.o
 go_region_held3 (fun w'=>w'.cell? (aD w.heap.size 2)=some (.bool na)/\w'.cell? (aD w.heap.size 3)=some (.s A1 n1 c1)/\w'.cell? (aD w.heap.size 4)=some (.s A1' n1' c1')/\w'.cell? (aD w.heap.size 5)=some (.s AX x.length cx)/\
   w'.cell? (aD (w.heap.size+1) 2)=some (.bool nb)/\w'.cell? (aD (w.heap.size+1) 3)=some (.s A2 n2 c2)/\w'.cell? (aD (w.heap.size+1) 4)=some (.s A2' n2' c2')/\w'.cell? (aD (w.heap.size+1) 5)=some (.s AY y.length cy))
  (first|exact⟨qm,qg,qh,qj,qn,qi,qf,qk⟩|exact⟨aJ qm _,aJ qg _,aJ qh _,aJ qj _,aJ qn _,aJ qi _,aJ qf _,aJ qk _⟩)
  (first
   |(go_at_call 30
     refine(iB na nb A1 n1 c1 A1' n1' c1' A2 n2 c2 A2' n2' c2' p q _ (by exact HA.o.K W0.o) (by exact HB.o.K W0.o) l1 l1' l2 l2').mono ?_;rintro e w5 ⟨rfl,qo⟩;have X5:=Hx (W0.o.tr qo);have B5:=Hx (BA.o.K qo);have C5:=Hx (BB.o.K qo);have qm:=B5.o.cell 2;have qg:=B5.o.cell 3;have qh:=B5.o.cell 4;have qj:=B5.o.cell 5;have qn:=C5.o.cell 2;have qi:=C5.o.cell 3;have qf:=C5.o.cell 4;have qk:=C5.o.cell 5;simp only[xI,kQi,List.getElem?_cons_succ]at qm qg qh qj qn qi qf qk;clear qo)
   |(go_at_call 189
     refine(rC x.length y.length _).mono ?_;rintro e w6 ⟨rfl,rfl⟩)
   |(go_at_call 190
     refine(jzbe AX AY cx cy x y _ (by exact HX.o.K X5.o) (by exact HY.o.K X5.o) hxl hyl).mono ?_;rintro e w6 ⟨rfl,rfl⟩)
   |(go_at_call 188
     refine(jzbd w5.heap.size (aW p q) (aK x.length y.length) (bJ x y) _ (eN _ _ _)).mono ?_;rintro e w7 ⟨rfl,rfl⟩;have qp:=Hx (X5.o.alloc (.cells #[vI (aW p q),vI (aK x.length y.length),vI (bJ x y)] 3))))
 all_goals
  go_wp2;go_ret;exact⟨by rw[HR.o];rfl,qp.o⟩
def prQ(ps:LQ)(arcs:LN):Rat:=arcs.foldl (fun s a=>s+ps[a]?.getD 0) 0
theorem nQ(ps:LQ)(arcs:LN)(a:Nat):prQ ps (arcs++[a])=prQ ps arcs+ps[a]?.getD 0:=by unfold prQ;rw[kZt];rfl
structure Lb where
 known:Bool
 done:Bool
 arcs:LN
def LbR(w:World)(ps:LQ)(cs:List Value)(lb:Lb):Prop:=
 ∃(neg:Bool) (A:OA) (n c:Nat) (A':OA) (n' c':Nat) (AX:OA) (cx:Nat),cs=[.bool lb.known,.bool lb.done,.bool neg,.s A n c,.s A' n' c',.s AX lb.arcs.length cx]/\aE w neg A n c A' n' c' (prQ ps lb.arcs)/\lb.arcs.length<=cx/\RdT w 3 AX (ints lb.arcs)
theorem LbR.K{w w'}{ps:LQ}{cs:List Value}{lb:Lb}(h:LbR w ps cs lb)(hx:Ext w w'):LbR w' ps cs lb:=by
 obtain⟨neg,A,n,c,A',n',c',AX,cx,e,h1,h2,h3⟩:=h;exact⟨neg,A,n,c,A',n',c',AX,cx,e,h1.K hx,h2,h3.K hx⟩
def cV(w:World)(ps:LQ)(g:Nat)(ls:List Lb):Prop:=
 ∃css:List (List Value),css.length=ls.length/\(∀cs∈css,cs.length=6)/\Blk w g 216 css.flatten.toArray/\∀(i:Nat) (lb:Lb),ls[i]?=some lb->∃cs,css[i]?=some cs/\LbR w ps cs lb
theorem cV.K{w w'}{ps:LQ}{g:Nat}{ls:List Lb}(h:cV w ps g ls)(hx:Ext w w'):cV w' ps g ls:=by
 obtain⟨css,h1,h2,h3,h4⟩:=h;refine⟨css,h1,h2,h3.K hx,fun i lb hl=>?_⟩;obtain⟨cs,k1,k2⟩:=h4 i lb hl;exact⟨cs,k1,k2.K hx⟩
theorem cV.lt{w}{ps:LQ}{g:Nat}{ls:List Lb}(h:cV w ps g ls):g<w.heap.size:=by
 obtain⟨css,_,_,h3,_⟩:=h;exact h3.lt
theorem cV.at_{w}{ps:LQ}{g:Nat}{ls:List Lb}(h:cV w ps g ls){i:Nat}{lb:Lb}(hl:ls[i]?=some lb):
  ∃(neg:Bool) (A:OA) (n c:Nat) (A':OA) (n' c':Nat) (AX:OA) (cx:Nat),
   (w.cell? (aD g (i*6))=some (.bool lb.known)/\w.cell? (aD g (i*6+1))=some (.bool lb.done)/\w.cell? (aD g (i*6+2))=some (.bool neg)/\w.cell? (aD g (i*6+3))=some (.s A n c)/\w.cell? (aD g (i*6+4))=some (.s A' n' c')/\w.cell? (aD g (i*6+5))=some (.s AX lb.arcs.length cx))/\
   aE w neg A n c A' n' c' (prQ ps lb.arcs)/\lb.arcs.length<=cx/\RdT w 3 AX (ints lb.arcs):=by
 obtain⟨css,h1,h2,h3,h4⟩:=h;obtain⟨cs,k1,neg,A,n,c,A',n',c',AX,cx,rfl,k2,k3,k4⟩:=h4 i lb hl;have hi:=(yH.1 hl).1;have qa:∀k,k<6->w.cell? (aD g (i*6+k))=([.bool lb.known,.bool lb.done,.bool neg,.s A n c,.s A' n' c',.s AX lb.arcs.length cx]:List Value)[k]?:=fun k hk=>(by rw[h3.cell,xI,eL css h2 i k (by omega) hk,k1];rfl);exact⟨neg,A,n,c,A',n',c',AX,cx,⟨qa 0 (by omega),qa 1 (by omega),qa 2 (by omega),qa 3 (by omega),qa 4 (by omega),qa 5 (by omega)⟩,k2,k3,k4⟩
def cI(ps:LQ)(x y:LN):Bool:=decide (nP (prQ ps x) (prQ ps y) x y<0)
def cB(ps:LQ)(ls:List Lb):Nat->Int
 |0=> -1
 |k+1=>match ls[k]? with
  |none=>cB ps ls k
  |some l=>if l.known&&!l.done&&(decide (cB ps ls k<0)||cI ps l.arcs ((ls[(cB ps ls k).toNat]?.map Lb.arcs).getD []))then(k:Int)else cB ps ls k
def bU(ps:LQ)(ls:List Lb):Int:=cB ps ls ls.length
theorem tW(ps:LQ)(ls:List Lb):∀k,cB ps ls k= -1\/(0<=cB ps ls k/\(cB ps ls k).toNat<k/\(cB ps ls k).toNat<ls.length)
 |0=>.inl rfl
 |k+1=>by
  have ih:=tW ps ls k;unfold cB
  split
  ·rcases ih with h|h
   ·exact .inl h
   ·exact .inr ⟨h.1,by omega,h.2.2⟩
  ·rename_i l hl
   split
   ·have:=(yH.1 hl).1
    exact .inr ⟨by omega,by omega,by omega⟩
   ·rcases ih with h|h
    ·exact .inl h
    ·exact .inr ⟨h.1,by omega,h.2.2⟩
def SzL(ps:LQ)(ls:List Lb):Prop:=∀lb∈ls,SzQ (prQ ps lb.arcs) 268435456/\lb.arcs.length<=1000
theorem jzjb(g:Nat)(ps:LQ)(ls:List Lb)w(h:cV w ps g ls)(hsz:SzL ps ls)(hl:ls.length<=1000):
  Calls prog 137 #[.s (sA g) ls.length ls.length] w fun e w'=>e=.returned (vI (bU ps ls))/\Ext w w':=by
 have H:=Hx h;have SZ:=Hx hsz;clear h hsz;go_enter func137,ntmps137;go_wp2;go_loopg [3,4,5,8] ls.length (fun m bt _ _ it wr=>∃k:Nat,ls.length-k=m/\k<=ls.length/\it=vI k/\bt=vI (cB ps ls k)/\Ext w wr);(case atStart=>exact⟨0,rfl,yZ _,rfl,rfl,eR _⟩)
 obtain⟨k,rfl,hk,rfl,rfl,hx⟩:=hrel;have EX:=Hx hx;have qF:=tW ps ls k;have qk:=Hx (show cB ps ls (k+1)=match ls[k]? with
  |none=>cB ps ls k
  |some l=>if l.known&&!l.done&&(decide (cB ps ls k<0)||cI ps l.arcs ((ls[(cB ps ls k).toNat]?.map Lb.arcs).getD []))then(k:Int)else cB ps ls k from rfl)
 generalize hbb:cB ps ls k=b at*;have qJ:=Hx hbb;clear hbb;clear hx;by_cases qG:k<ls.length;{obtain⟨lb,qh⟩:∃lb,ls[k]?=some lb:=⟨_,yG qG⟩;obtain⟨neg,A,n,c,A',n',c',AX,cx,⟨i0,i1,i2,i3,i4,i5⟩,hR,qz,qw⟩:=(H.o.K EX.o).at_ qh;have qa:=qk.o;rw[qh]at qa;have qe:=Hx qa;have qp:=Hx (SZ.o lb (yJ qh));have R:=Hx hR;have X:=Hx qw;clear qa hR qw qh qk;(go_upto_region 5 with fail);obtain⟨kn,dn,arcs⟩:=lb;simp only[]at i0 i1 i5 qz;obtain⟨bx,e0⟩:=aV wr #[.bool kn,.bool dn,.bool neg,.s A n c,.s A' n' c',.s AX arcs.length cx] 216;generalize wr.alloc (.cells #[.bool kn,.bool dn,.bool neg,.s A n c,.s A' n' c',.s AX arcs.length cx] 216)=W at*;have y0:=XW.cell _ _ _ bx.lt (bx.cell 0);have y1:=XW.cell _ _ _ bx.lt (bx.cell 1);have EW:=Hx (EX.o.tr e0);have E0:=Hx e0;have BX:=Hx bx;clear e0 bx i0 i1 i2 i3 i4 i5 EX;go_cut [32] (fun s wx=>s=.bool (kn&&!dn&&(decide (b<0)||cI ps arcs ((ls[b.toNat]?.map Lb.arcs).getD [])))/\Ext w wx);(case first=>cases kn;(case false=>refine cT (by kernel_rfl) (by kernel_rfl) ?_;(repeat (go_big_quiet_step (fail)));refine wpQuiet_nil ?_;rintro _ ⟨x,rfl⟩;go_wp2;go_meet;exact⟨rfl,EW.o.tr x.ext⟩);cases dn;(case true=>refine cT (by kernel_rfl) (by kernel_rfl) ?_;(repeat (go_big_quiet_step (fail)));refine wpQuiet_nil ?_;rintro _ ⟨x,rfl⟩;go_wp2;go_meet;exact⟨rfl,EW.o.tr x.ext⟩);(rcases qF with hb|⟨hb0,hbk,hbl⟩);{subst hb;have qC:decide ((-1:Int)<0)=true:=rfl;refine cT (by kernel_rfl) (by kernel_rfl) ?_;(repeat (go_big_quiet_step (fail)));refine wpQuiet_nil ?_;rintro _ ⟨x,rfl⟩;go_wp2;go_meet;exact⟨rfl,EW.o.tr x.ext⟩};obtain⟨m,rfl⟩:∃m:Nat,b=(m:Int):=⟨b.toNat,by omega⟩;rw[xL]at hbk hbl;obtain⟨lm,qi⟩:∃lm,ls[m]?=some lm:=⟨_,yG hbl⟩;have qn:=Hx (SZ.o lm (yJ qi));have HV:=Hx (show cI ps arcs ((ls[m]?.map Lb.arcs).getD [])=cI ps arcs lm.arcs by rw[qi];rfl);obtain⟨qj,A2,n2,c2,qA,qE,qI,qD,qB,⟨j0,j1,j2,j3,j4,j5⟩,qy,qH,qg⟩:=(H.o.K EW.o).at_ qi;have qf:=(H.o.K EW.o).lt;have z0:=XW.cell _ _ _ qf j0;have z1:=XW.cell _ _ _ qf j1;have z2:=XW.cell _ _ _ qf j2;have z3:=XW.cell _ _ _ qf j3;have z4:=XW.cell _ _ _ qf j4;have z5:=XW.cell _ _ _ qf j5;have y2:=XW.cell _ _ _ BX.o.lt (BX.o.cell 2);have y3:=XW.cell _ _ _ BX.o.lt (BX.o.cell 3);have y4:=XW.cell _ _ _ BX.o.lt (BX.o.cell 4);have y5:=XW.cell _ _ _ BX.o.lt (BX.o.cell 5);have R2:=Hx qy;have X2:=Hx qg;have qN:(m:Int)<(ls.length:Int):=(by omega);have qM:(0:Int)<=(m:Int):=(by omega);have qC:decide ((m:Int)<0)=false:=(by simp);have qt:=R.o.lens qp.o.1;have qo:=R2.o.lens qn.o.1;clear qi qy qg j0 j1 j2 j3 j4 j5;refine cT (by kernel_rfl) (by kernel_rfl) ?_;(repeat (go_big_quiet_step ((go_at_call 140;exact Calls.ext_of (jzbf _ _ neg _ _ qj A n c A' n' c' A2 n2 c2 qA qE qI AX qD cx qB (prQ ps arcs) (prQ ps lm.arcs) arcs lm.arcs _ (R.o.K (E0.o.tr (XW.ext _))) (R2.o.K (XW.ext _)) qt.1 qt.2 qo.1 qo.2 (X.o.rd.K (E0.o.tr (XW.ext _))) (X2.o.rd.K (XW.ext _)) (by have:=qp.o.2;simp only[]at this;omega) (by have:=qn.o.2;omega))))));refine wpQuiet_nil ?_;rintro _ ⟨x,rfl⟩;go_wp2;go_meet;refine⟨?_,EW.o.tr x.ext⟩;rw[xL,HV.o];rfl);obtain⟨rfl,qm⟩:=hcut;have qx:=Hx qm;clear qm y0 y1 EW E0 BX;have qa:=qe.o;simp only[]at qa;generalize (kn&&!dn&&(decide (b<0)||cI ps arcs ((ls[b.toNat]?.map Lb.arcs).getD [])))=cond at*;cases cond;(case false=>have HS:=Hx (show cB ps ls (k+1)=b by rw[qa];rfl);clear qa qe;go_wp2;go_roundg (ls.length-(k+1));(case measure=>omega);exact⟨k+1,rfl,by omega,by go_num,by rw[HS.o],qx.o⟩);have HS:=Hx (show cB ps ls (k+1)=(k:Int) by rw[qa];rfl);clear qa qe;go_wp2;go_roundg (ls.length-(k+1));(case measure=>omega);exact⟨k+1,rfl,by omega,by go_num,by rw[HS.o],qx.o⟩};have qK:k=ls.length:=(by omega);subst qK;go_wp2;go_ret;exact⟨by unfold bU;rw[qJ.o];rfl,EX.o⟩
theorem SzQ.mono{q:Rat}{k m:Nat}(h:SzQ q k)(hm:k<=m):SzQ q m:=⟨yL h.1 (kQk aZ hm),yL h.2 (kQk aZ hm)⟩
theorem SzQ.zero:SzQ 0 1:=⟨by decide,by decide⟩
theorem SzQ.add{a b:Rat}{k m:Nat}(ha:SzQ a k)(hb:SzQ b m):SzQ (a+b) (k+m+1):=by
 have hd:a.den*b.den≠0:=kQx a.den_nz b.den_nz;have e:=Rat.add_def' a b;obtain⟨g,hg,e1,e2⟩:∃g:Nat,g≠0/\a.num*b.den+b.num*a.den=(a+b).num*g/\a.den*b.den=(a+b).den*g:=(by have hq:mkRat (a.num*b.den+b.num*a.den) (a.den*b.den)=⟨(a+b).num,(a+b).den,(a+b).den_nz,(a+b).reduced⟩:=e.symm;exact Rat.mkRat_num_den hd hq);have h1:1<=g:=(by omega);have hk:0<B32^k:=kQy aZ;have hm:0<B32^m:=kQy aZ;have p1:a.num.natAbs*b.den<B32^k*B32^m:=kZb ha.1 (kQe hb.2) hm;have p2:b.num.natAbs*a.den<B32^m*B32^k:=kZb hb.1 (kQe ha.2) hk;have p3:a.den*b.den<B32^k*B32^m:=kZb ha.2 (kQe hb.2) hm;have hB:B32^(k+m+1)=B32^k*B32^m*B32:=(by rw[vD,Nat.pow_add]);rw[vE (B32^m)]at p2;unfold SzQ;rw[hB];generalize B32^k*B32^m=Z at*;have hZ:2*Z<=Z*B32:=(by rw[vE];exact kQh _ (by decide));constructor;{(have q1:(a.num*b.den+b.num*a.den).natAbs=(a+b).num.natAbs*g:=by rw[e1,Int.natAbs_mul];rfl);have q2:(a.num*b.den+b.num*a.den).natAbs<=a.num.natAbs*b.den+b.num.natAbs*a.den:=(by refine yY (Int.natAbs_add_le _ _) ?_;rw[Int.natAbs_mul,Int.natAbs_mul];exact yX _);have q3:(a+b).num.natAbs*1<=(a+b).num.natAbs*g:=kQh _ h1;omega};have q3:(a+b).den*1<=(a+b).den*g:=kQh _ h1;omega
theorem SzQ.pr{ps:LQ}{P:Nat}(hP:1<=P)(h:∀q∈ps,SzQ q P)(arcs:LN):SzQ (prQ ps arcs) (1+arcs.length*(P+1)):=by
 have qa:∀(l:LN) (s:Rat) (k:Nat),SzQ s k->SzQ (l.foldl (fun s a=>s+ps[a]?.getD 0) s) (k+l.length*(P+1)):=(by intro l;(induction l with|nil=>intro s k hs;simpa using hs|cons a l ih=>intro s k hs;have h1:SzQ (ps[a]?.getD 0) P:=(by by_cases ha:a<ps.length;{rw[yG ha];exact h _ (xR ha)};rw[yI (by omega)];exact SzQ.zero.mono hP);have:=ih _ _ (hs.add h1);rw[List.foldl_cons];refine this.mono ?_;rw[kQo,xP,xQ];omega));exact qa arcs 0 1 SzQ.zero
def dE(ls:List Lb)(n:Nat):LN:=(ls[n]?.map Lb.arcs).getD []
def dS(t:Tp)(down:List Bool)(ps:LQ)(d n:Nat)(ls:List Lb)(a:Nat):List Lb:=
 match ls[(aH t a).toNat]? with
 |none=>ls
 |some lm=>if lm.done||!cM t down a d then ls else if !lm.known||cI ps (dE ls n++[a]) lm.arcs then ls.set (aH t a).toNat ⟨true,false,dE ls n++[a]⟩else ls
def eB(ls:List Lb)(n:Nat):List Lb:=match ls[n]? with
 |none=>ls
 |some l=>ls.set n ⟨l.known,true,l.arcs⟩
def cF(ls:List Lb):Nat:=ls.countP (fun l=>!l.done)
def iF(t:Tp)(down:List Bool)(ps:LQ)(d:Nat):Nat->List Lb->Option (LN)
 |0,_=>none
 |f+1,ls=>if bU ps ls<0 then none else if(bU ps ls).toNat=d then some (dE ls (bU ps ls).toNat)else
  iF t down ps d f ((aM t (bU ps ls).toNat).foldl (dS t down ps d (bU ps ls).toNat) (eB ls (bU ps ls).toNat))
def cN(N s:Nat):List Lb:=(List.replicate N ⟨false,false,[]⟩).set s ⟨true,false,[]⟩
def dL(t:Tp)(down:List Bool)(ps:LQ)(s d:Nat):Option (LN):=iF t down ps d (t.nodes.toNat+1) (cN t.nodes.toNat s)
theorem nS(ps:LQ)(ls:List Lb):∀k,0<=cB ps ls k->∃l,ls[(cB ps ls k).toNat]?=some l/\l.known=true/\l.done=false
 |0,h=>by simp[cB]at h
 |k+1,h=>by
  have ih:=nS ps ls k;unfold cB at h⊢
  split
  ·rename_i hl
   rw[hl]at h;exact ih h
  ·rename_i l hl
   rw[hl]at h;simp only[]at h
   split
   ·rename_i hc
    simp only[vM,Bool.not_eq_true']at hc;refine⟨l,by rw[xL];exact hl,hc.1.1,hc.1.2⟩
   ·rename_i hc
    rw[if_neg hc]at h;exact ih h
theorem jzbg{ls:List Lb}{m:Nat}{lm l:Lb}(h:ls[m]?=some lm)(hd:lm.done=false)(hl:l.done=false):cF (ls.set m l)=cF ls:=by
 unfold cF;(induction ls generalizing m with|nil=>simp at h|cons x ls ih=>(cases m with|zero=>simp at h;subst h;simp[List.countP_cons,hd,hl]|succ m=>simp at h;simp[List.countP_cons,ih h]))
theorem jzbh{ls:List Lb}{n:Nat}{l:Lb}(h:ls[n]?=some l)(hd:l.done=false):cF (eB ls n)+1=cF ls:=by
 unfold eB;rw[h];simp only[];unfold cF;(induction ls generalizing n with|nil=>simp at h|cons x ls ih=>(cases n with|zero=>simp at h;subst h;simp[List.countP_cons,hd]|succ n=>simp at h;have:=ih h;simp[List.countP_cons];omega))
theorem jzbi t(down:List Bool)(ps:LQ)(d n:Nat)(ls:List Lb)(a:Nat):cF (dS t down ps d n ls a)=cF ls:=by
 unfold dS;split;{rfl};rename_i lm hlm;split;{rfl};rename_i hc;simp only[Bool.or_eq_true,not_or,Bool.not_eq_true]at hc;split;{exact jzbg hlm hc.1 rfl};rfl
def nT(ls:List Lb):Prop:=∀l∈ls,l.arcs.length+cF ls<=ls.length
theorem rD(ls:List Lb):cF ls<=ls.length:=List.countP_le_length
theorem RdT.other{w w'}{t t':TypeId}{A}{xs:List Value}{g:Nat}{cs':Array Value}(h:RdT w t A xs)(hg:w.grownBy w' (some g))(hb:Blk w g t' cs')(hne:t≠t'):RdT w' t A xs:=
 h.grown hg (fun hx ad had e=>by
  obtain⟨b,o,cs,fr,e1,e2,_⟩:=h hx;rw[had]at e1;injection e1 with e1
  subst e1;injection e with e
  subst e;unfold Blk at hb;rw[e2]at hb;injection hb with hb
  injection hb with _ hb
  exact hne hb)
theorem aF.other{w w'}{A}{n c N g:Nat}{t':TypeId}{cs':Array Value}(h:aF w A n c N)(hg:w.grownBy w' (some g))(hb:Blk w g t' cs')(hne:188≠t'):aF w' A n c N:=by
 obtain⟨ds,h1,h2,h3,h4,h5⟩:=h;exact⟨ds,h1,h2,h3,h4,h5.other hg hb hne⟩
theorem aE.other{w w'}{neg:Bool}{A}{n c:Nat}{A'}{n' c':Nat}{q:Rat}{g:Nat}{t':TypeId}{cs':Array Value}(h:aE w neg A n c A' n' c' q)(hg:w.grownBy w' (some g))(hb:Blk w g t' cs')(hne:188≠t'):aE w' neg A n c A' n' c' q:=
 ⟨h.1,h.2.1.other hg hb hne,h.2.2.other hg hb hne⟩
theorem LbR.other{w w'}{ps:LQ}{cs:List Value}{lb:Lb}{g:Nat}{cs':Array Value}(h:LbR w ps cs lb)(hg:w.grownBy w' (some g))(hb:Blk w g 216 cs'):LbR w' ps cs lb:=by
 obtain⟨neg,A,n,c,A',n',c',AX,cx,e,h1,h2,h3⟩:=h;exact⟨neg,A,n,c,A',n',c',AX,cx,e,h1.other hg hb (by decide),h2,h3.other hg hb (by decide)⟩
theorem LL.other{w w'}{gl N g:Nat}{X:Nat->LN}{t':TypeId}{cs':Array Value}(h:LL w gl N X)(hg:w.grownBy w' (some g))(hb:Blk w g t' cs')(h1:44≠t')(h2:3≠t'):LL w' gl N X:=by
 obtain⟨V,k1,k2⟩:=h;refine⟨V,(hg.block gl k1.lt (fun e=>k1.ne_ hb h1 (by injection e))).trans k1,fun i hi=>?_⟩;obtain⟨A,c,k3,k4,k5⟩:=k2 i hi;exact⟨A,c,k3,k4,k5.other hg hb h2⟩
theorem nU{m:Nat}:∀(css:List (List Value)),(∀cs∈css,cs.length=m)->∀(i k:Nat) (v:Value),i<css.length->k<m->css.flatten.set (i*m+k) v=(css.set i ((css[i]?.getD []).set k v)).flatten
 | [],_,i,k,v,hi,_=>by simp at hi
 |cs::css,h,0,k,v,_,hk=>by
  rw[Nat.zero_mul,kQu,List.flatten_cons,List.set_append_left _ _ (by rw[h cs (by simp)];exact hk)];rfl
 |cs::css,h,i+1,k,v,hi,hk=>by
  have hl:=h cs (by simp);rw[List.flatten_cons,List.set_append_right _ _ (by rw[hl,xP,xQ];omega),hl,show(i+1)*m+k-m=i*m+k by rw[xP,xQ];omega];rw[nU css (fun c hc=>h c (by simp[hc])) i k v (by simpa using hi) hk];simp
theorem cV.upd{w w'}{ps:LQ}{g m:Nat}{ls:List Lb}{lb:Lb}{cs:List Value}{css:List (List Value)}(h1:css.length=ls.length)(h2:∀cs∈css,cs.length=6)(h3:Blk w g 216 css.flatten.toArray)(h4:∀(i:Nat) (lb:Lb),ls[i]?=some lb->∃cs,css[i]?=some cs/\LbR w ps cs lb)
  (hg:w.grownBy w' (some g)) (hb:Blk w' g 216 (css.set m cs).flatten.toArray) (hc:cs.length=6) (hl:LbR w' ps cs lb) (hm:m<ls.length):cV w' ps g (ls.set m lb):=by
 refine⟨css.set m cs,by simp[h1],fun c hcc=>?_,hb,fun i l hi=>?_⟩;{(rcases xE hcc with h|h);{exact h2 c h};rw[h];exact hc};by_cases e:m=i;{subst e;(rw[yM hm]at hi;injection hi with hi);subst hi;exact⟨cs,by rw[yM (by omega)],hl⟩};rw[vN e]at hi;obtain⟨c,k1,k2⟩:=h4 i l hi;exact⟨c,by rw[vN e];exact k1,k2.other hg h3⟩
theorem cV.mark{w}{ps:LQ}{g n:Nat}{ls:List Lb}{l:Lb}(h:cV w ps g ls)(hl:ls[n]?=some l):cV (w.setCell (aD g (n*6+1)) (.bool true)) ps g (eB ls n):=by
 have hn:=(yH.1 hl).1;obtain⟨css,h1,h2,h3,h4⟩:=h;obtain⟨cs,k1,k2⟩:=h4 n l hl;have hg:=aO w g (n*6+1) (.bool true);have qa:cs.length=6:=h2 cs (yJ k1);unfold eB;rw[hl];refine cV.upd (cs:=cs.set 1 (.bool true)) h1 h2 h3 h4 hg ?_ (by simp[qa]) ?_ hn;{have:=h3.sT (n*6+1) (.bool true);rw[yD,nU css h2 n 1 _ (by omega) (by omega),k1]at this;exact this};have:=k2.other hg h3;obtain⟨neg,A,n,c,A',n',c',AX,cx,e,q1,q2,q3⟩:=this;exact⟨neg,A,n,c,A',n',c',AX,cx,by rw[e];rfl,q1,q2,q3⟩
theorem jzjc(cs:List Value)(h:cs.length=6):∃a0 a1 a2 a3 a4 a5,cs=[a0,a1,a2,a3,a4,a5]:=by
 rcases cs with _|⟨a0,_|⟨a1,_|⟨a2,_|⟨a3,_|⟨a4,_|⟨a5,_|⟨a6,r⟩⟩⟩⟩⟩⟩⟩
 all_goals first|(simp at h;done)|exact⟨_,_,_,_,_,_,rfl⟩
theorem mM(css:List (List Value))(h2:∀cs∈css,cs.length=6)(m:Nat)(hml:m<css.length)(c1:List Value)(k:Nat)(v:Value)(hc:c1.length=6)(hk:k<6):((css.set m c1).flatten).set (m*6+k) v=(css.set m (c1.set k v)).flatten:=by
 have qa:∀c∈css.set m c1,c.length=6:=fun c hcc=>(by (rcases xE hcc with h|h);{exact h2 c h};rw[h];exact hc);have h:=nU (css.set m c1) qa m k v (by rw[yV];exact hml) hk;rw[yM hml,kQ1,List.set_set]at h;exact h
theorem jzjd(css:List (List Value))(h2:∀cs∈css,cs.length=6)(m:Nat)(hml:m<css.length){a0 a1 a2 a3 a4 a5:Value}(hcs:css[m]?=some [a0,a1,a2,a3,a4,a5])(v0 v1 v2 v3 v4 v5:Value):
  (((((css.flatten.set (m*6+0) v0).set (m*6+1) v1).set (m*6+2) v2).set (m*6+3) v3).set (m*6+4) v4).set (m*6+5) v5=(css.set m [v0,v1,v2,v3,v4,v5]).flatten:=by
 have e0:css.flatten=(css.set m [a0,a1,a2,a3,a4,a5]).flatten:=(by congr 1;apply uK;intro i;rw[kZs];split;{rename_i e;subst e;rw[hcs]};rfl);rw[e0,mM css h2 m hml _ 0 v0 rfl (by omega),mM css h2 m hml _ 1 v1 rfl (by omega),mM css h2 m hml _ 2 v2 rfl (by omega),mM css h2 m hml _ 3 v3 rfl (by omega),mM css h2 m hml _ 4 v4 rfl (by omega),mM css h2 m hml _ 5 v5 rfl (by omega)];rfl
theorem cV.put{w}{ps:LQ}{g m:Nat}{ls:List Lb}{lb:Lb}{v0 v1 v2 v3 v4 v5:Value}(h:cV w ps g ls)(hm:m<ls.length)(hl:LbR w ps [v0,v1,v2,v3,v4,v5] lb):
  cV ((((((w.setCell (aD g (m*6)) v0).setCell (aD g (m*6+1)) v1).setCell (aD g (m*6+2)) v2).setCell (aD g (m*6+3)) v3).setCell (aD g (m*6+4)) v4).setCell (aD g (m*6+5)) v5) ps g (ls.set m lb):=by
 obtain⟨css,h1,h2,h3,h4⟩:=h;have g0:=aO w g (m*6) v0;have g1:=g0.trans (aO _ g (m*6+1) v1);have g2:=g1.trans (aO _ g (m*6+2) v2);have g3:=g2.trans (aO _ g (m*6+3) v3);have g4:=g3.trans (aO _ g (m*6+4) v4);have g5:=g4.trans (aO _ g (m*6+5) v5);refine cV.upd (cs:=[v0,v1,v2,v3,v4,v5]) h1 h2 h3 h4 g5 ?_ rfl (hl.other g5 h3) hm;have b:=(((((h3.sT (m*6+0) v0).sT (m*6+1) v1).sT (m*6+2) v2).sT (m*6+3) v3).sT (m*6+4) v4).sT (m*6+5) v5;have qe:m<css.length:=(by omega);obtain⟨cs,qf⟩:∃cs,css[m]?=some cs:=⟨_,yG qe⟩;have qg:cs.length=6:=h2 cs (yJ qf);obtain⟨a0,a1,a2,a3,a4,a5,rfl⟩:∃a0 a1 a2 a3 a4 a5,cs=[a0,a1,a2,a3,a4,a5]:=jzjc cs qg;have qa:=jzjd css h2 m qe qf v0 v1 v2 v3 v4 v5;simp only[yD]at b;rw[qa]at b;exact b
theorem Tryz.info104:(prog.info? 216).map (fun i=>(i.zero,i.size,i.bytes))=some (some (.agg #[.bool false,.bool false,.bool false,zN,zN,zN]),6,88):=by kernel_rfl
theorem jzje(n:Nat)(hn:n<=1000)w:
  (Instr.makeSlice 214 (vI (n:Int)) (vI (n:Int))).run prog w=.ok (.s (sA w.heap.size) n n) (w.alloc (.cells (madeCells #[.bool false,.bool false,.bool false,zN,zN,zN] (n*6)) 216)):=by
 obtain⟨i,hi,hz,hs,hb⟩:=info_parts Tryz.info104;have qa:(i.bytes:Int)*(n:Int)<=281474976710656:=(by rw[hb];omega);have hr:=run_make (P:=prog) w 214 216 i _ underlying214 hi hz .i64 .i64 n n (by omega) (by omega) qa (by omega);simp only[xL]at hr;rw[hs]at hr;exact hr
def zeroCells:List Value:=[.bool false,.bool false,.bool false,zN,zN,zN]
theorem tX(N:Nat):madeCells #[.bool false,.bool false,.bool false,zN,zN,zN] (N*6)=(List.replicate N zeroCells).flatten.toArray:=by
 apply Array.ext';apply uK;intro i;have qa:∀cs∈List.replicate N zeroCells,cs.length=6:=fun cs h=>(by rw[uF h];rfl);have hl:=gH _ qa;rw[xC]at hl;by_cases hi:i<N*6;{have h1:=eL _ qa (i/6) (i%6) (by rw[xC];omega) (by omega);rw[show i/6*6+i%6=i by omega,xB,if_pos (by omega),kQ1]at h1;simp only[];rw[h1];have h2:(madeCells #[.bool false,.bool false,.bool false,zN,zN,zN] (N*6)).toList[i]?=some ((#[.bool false,.bool false,.bool false,zN,zN,zN]:Array Value)[i%6]!):=(by simp[madeCells,hi]);rw[h2];have h6:i%6=0\/i%6=1\/i%6=2\/i%6=3\/i%6=4\/i%6=5:=(by omega);rcases h6 with e|e|e|e|e|e <;> rw[e] <;> rfl};rw[yI (by simp[madeCells];omega),yI (by simp only[];omega)]
theorem fA w:aE w false none 0 0 none 0 0 0:=⟨by decide,aF.zero _ _ _,aF.zero _ _ _⟩
theorem LbR.zero w(ps:LQ):LbR w ps zeroCells ⟨false,false,[]⟩:=⟨false,none,0,0,none,0,0,none,0,rfl,fA w,yX _,RdT.nil _ _ _⟩
theorem jzjf(w:World)(ps:LQ)(N n:Nat)(hn:n<N):
  cV (w.alloc (.cells ((madeCells #[.bool false,.bool false,.bool false,zN,zN,zN] (N*6)).setIfInBounds (n*6) (.bool true)) 216)) ps w.heap.size (cN N n):=by
 have qa:∀cs∈List.replicate N zeroCells,cs.length=6:=fun cs h=>(by rw[uF h];rfl);have hf:=nU _ qa n 0 (.bool true) (by rw[xC];exact hn) (by omega);rw[kQ3,xB,if_pos hn,kQ1]at hf;rw[tX,yD,hf];refine⟨_,by simp[cN],fun cs h=>?_,eN _ _ _,fun i lb hl=>?_⟩;{(rcases xE h with h|h);{exact qa cs h};rw[h];rfl};unfold cN at hl;by_cases e:n=i;{subst e;(rw[yM (by simpa using hn)]at hl;injection hl with hl);subst hl;exact⟨_,yM (by simpa using hn),false,none,0,0,none,0,0,none,0,rfl,fA _,yX _,RdT.nil _ _ _⟩};rw[vN e,xB]at hl;split at hl;{rename_i hi;(injection hl with hl);subst hl;exact⟨zeroCells,by rw[vN e,xB,if_pos hi],LbR.zero _ _⟩};cases hl
def ArF(w:World)(g B:Nat):Prop:=∀(i:Nat) (AX:OA) (n cx:Nat),w.cell? (aD g (i*6+5))=some (.s AX n cx)->∀p,AX=some p->B<=p.block
theorem ArF.K{w w'}{g B:Nat}(h:ArF w g B)(hg:g<w.heap.size)(hx:Ext w w'):ArF w' g B:=fun i AX n cx hc=>h i AX n cx ((hx.cell (p:=(aD g (i*6+5))) hg).symm.trans hc)
theorem ArF.mark{w}{ps:LQ}{g B n:Nat}{ls:List Lb}(h:ArF w g B)(hl:cV w ps g ls)(u:Value):ArF (w.setCell (aD g (n*6+1)) u) g B:=fun i AX m cx hc=>by
 obtain⟨css,_,_,h3,_⟩:=hl;refine h i AX m cx ?_;rw[(h3.sT (n*6+1) u).cell,xH (by omega), <-h3.cell]at hc;exact hc
theorem ArF.put{w}{ps:LQ}{g B m:Nat}{ls:List Lb}(h:ArF w g B)(hl:cV w ps g ls)(v0 v1 v2 v3 v4:Value){AX:OA}{n cx:Nat}(hA:∀p,AX=some p->B<=p.block):
  ArF ((((((w.setCell (aD g (m*6)) v0).setCell (aD g (m*6+1)) v1).setCell (aD g (m*6+2)) v2).setCell (aD g (m*6+3)) v3).setCell (aD g (m*6+4)) v4).setCell (aD g (m*6+5)) (.s AX n cx)) g B:=fun i AX' n' cx' hc=>by
 obtain⟨css,_,_,h3,_⟩:=hl;have b:=(((((h3.sT (m*6) v0).sT (m*6+1) v1).sT (m*6+2) v2).sT (m*6+3) v3).sT (m*6+4) v4).sT (m*6+5) (.s AX n cx);rw[b.cell]at hc;by_cases e:i=m;{subst e;rw[Array.getElem?_setIfInBounds_self]at hc;split at hc;{(injection hc with hc);(injection hc with hc _ _);exact fun p hp=>hA p (hc.trans hp)};{cases hc}};{rw[xH (by omega),xH (by omega),xH (by omega),xH (by omega),xH (by omega),xH (by omega), <-h3.cell]at hc;exact h i AX' n' cx' hc}
theorem ArF.made(w:World)(N n B:Nat):ArF (w.alloc (.cells ((madeCells #[.bool false,.bool false,.bool false,zN,zN,zN] (N*6)).setIfInBounds (n*6) (.bool true)) 216)) w.heap.size B:=fun i AX m cx hc p hp=>by
 have qa:∀cs∈List.replicate N zeroCells,cs.length=6:=fun cs h=>(by rw[uF h];rfl);rw[(eN w _ _).cell,xH (by omega),tX,xI]at hc;by_cases hi:i<N;{rw[eL _ qa i 5 (by rw[xC];exact hi) (by omega),xB,if_pos hi]at hc;(injection hc with hc);(injection hc with hc);rw[<-hc]at hp;cases hp};{have hl:=gH _ qa;rw[xC]at hl;rw[yI (by omega)]at hc;cases hc}
structure iG(w wr:World)(t:Tp)(AO:OA)(co:Nat)(AL:OA)(cl:Nat)(ps:LQ)(g gll N:Nat)(ls:List Lb):Prop where
 tt:Blk wr w.heap.size 25 #[vI t.nodes,.s AO t.over.length co,.s AL t.links.length cl]
 rr:Blk wr (w.heap.size+1) 35 #[.bool false,zN,zN]
 lab:cV wr ps g ls
 len:ls.length=N
 ok:nT ls
 ll:LL wr gll N (aM t)
 gg:w.heap.size+2<=g
 ext:Ext w wr
 fa:ArF wr g w.heap.size
theorem iG.K{w wr w'}{t}{AO}{co:Nat}{AL}{cl:Nat}{ps:LQ}{g gll N:Nat}{ls:List Lb}(h:iG w wr t AO co AL cl ps g gll N ls)(hx:Ext wr w'):iG w w' t AO co AL cl ps g gll N ls:=
 ⟨h.tt.K hx,h.rr.K hx,h.lab.K hx,h.len,h.ok,h.ll.K hx,h.gg,h.ext.tr hx,h.fa.K h.lab.lt hx⟩
theorem iG.turn{w wr w'}{t}{AO}{co:Nat}{AL}{cl:Nat}{ps:LQ}{g gll N:Nat}{ls ls':List Lb}(h:iG w wr t AO co AL cl ps g gll N ls)(hg:wr.grownBy w' (some g))(hl:cV w' ps g ls')(hlen:ls'.length=N)(hok:nT ls')(hfa:ArF w' g w.heap.size):iG w w' t AO co AL cl ps g gll N ls':=by
 obtain⟨css,h1,h2,h3,h4⟩:=h.lab;have qa:=h.gg;exact⟨(hg.block _ h.tt.lt (fun e=>by injection e with e;omega)).trans h.tt,(hg.block _ h.rr.lt (fun e=>by injection e with e;omega)).trans h.rr,hl,hlen,hok,h.ll.other hg h3 (by decide) (by decide),qa,Below.grown h.ext hg h.ext.size (fun k hk=>by injection hk with hk;omega),hfa⟩
theorem jzbj{ps:LQ}{P N:Nat}{ls:List Lb}(hP:1<=P)(hP2:P<=1000000)(h:∀q∈ps,SzQ q P)(hok:nT ls)(hl:ls.length=N)(hN:N<=64):SzL ps ls:=fun lb hlb=>by
 have h1:=hok lb hlb;refine⟨(SzQ.pr hP h lb.arcs).mono ?_,by omega⟩;have h2:lb.arcs.length*(P+1)<=64*1000001:=kQq (by omega) (by omega);omega
theorem RdT.gK{w w'}{t t':TypeId}{A}{xs:List Value}{row:Option Nat}(h:RdT w t A xs)(hg:w.grownBy w' row)(hr:∀k,row=some k->∃cs fr,w.heap[k]?=some (.cells cs t' fr))(hne:t≠t'):RdT w' t A xs:=
 h.grown hg (fun hx ad had e=>by
  obtain⟨b,o,cs,fr,e1,e2,_⟩:=h hx;rw[had]at e1;injection e1 with e1
  subst e1;obtain⟨c9,f9,e9⟩:=hr _ e.symm;rw[e2]at e9;injection e9 with e9
  injection e9 with _ e9
  exact hne e9)
theorem aE.gK{w w'}{t':TypeId}{neg:Bool}{A}{n c:Nat}{A'}{n' c':Nat}{q:Rat}{row:Option Nat}(h:aE w neg A n c A' n' c' q)(hg:w.grownBy w' row)(hr:∀k,row=some k->∃cs fr,w.heap[k]?=some (.cells cs t' fr))(hne:188≠t'):aE w' neg A n c A' n' c' q:=by
 obtain⟨h1,⟨ds,a1,a2,a3,a4,a5⟩,⟨es,b1,b2,b3,b4,b5⟩⟩:=h;exact⟨h1,⟨ds,a1,a2,a3,a4,a5.gK hg hr hne⟩,⟨es,b1,b2,b3,b4,b5.gK hg hr hne⟩⟩
theorem Blk.gK{w w'}{t t':TypeId}{g:Nat}{cs:Array Value}{row:Option Nat}(h:Blk w g t cs)(hg:w.grownBy w' row)(hr:∀k,row=some k->∃cs fr,w.heap[k]?=some (.cells cs t' fr))(hne:t≠t'):Blk w' g t cs:=
 (hg.block g h.lt (fun e=>by
  obtain⟨c9,f9,e9⟩:=hr _ e.symm;unfold Blk at h;rw[h]at e9;injection e9 with e9
  injection e9 with _ e9
  exact hne e9)).trans h
theorem mN AX(cx:Nat)(l:LN)w(hq:RdT w 3 AX (ints l))(hl:l.length<=1000):
  Calls prog 70 #[.s AX l.length cx] w fun e w'=>∃v,e=.returned v/\w'.ownsRow w.heap.size 3 1 v l.length (ints l)/\Ext w w':=by
 (obtain⟨ti,hi,qi,qg,qh⟩:=info_parts Tryz.info3;cases AX with|none=>have hn:l=[]:=(by (cases l with|nil=>rfl|cons a l=>obtain⟨_,_,_,_,e,_⟩:=hq (by simp[ints]);cases e));subst hn;refine(Tryz.slices_Clone_nil 0 cx w).mono ?_;rintro e w' ⟨rfl,rfl⟩;exact⟨_,rfl,World.ownsRow_nil _ _ _ _,eR _⟩|some ad=>by_cases qf:l=[];{subst qf;refine(Tryz.slices_Clone_int_zero ad cx w).mono ?_;rintro e w' ⟨v',rfl,qa,_,qe⟩;exact⟨v',rfl,qa,qe⟩};obtain⟨b,o,cs,fr,e,hb,hc⟩:=hq (by simpa [ints]using qf);injection e with e;subst e;refine(Tryz.slices_Clone ti (vI 0) 1 8 hi qi qg qh rfl (by decide) (fun w=>by simp[Go.sizeOf,typeInfo,hi,qg]) b o l.length cx (ints l) w (by simp[ints]) (by unfold maxLen;omega) (by omega) ?_ (iD _)).mono ?_;{intro j u hj;have qj:=(yH.1 hj).1;rw[cell_of_row w b (o+j) cs _ fr hb,hc j qj];exact hj};rintro e w' ⟨v',rfl,qa,_,qe⟩;exact⟨v',rfl,qa,qe⟩)
theorem jzbk(w:World)(g m:Nat)(v0 v1 v2 v3 v4 v5:Value):w.grownBy ((((((w.setCell (aD g (m*6)) v0).setCell (aD g (m*6+1)) v1).setCell (aD g (m*6+2)) v2).setCell (aD g (m*6+3)) v3).setCell (aD g (m*6+4)) v4).setCell (aD g (m*6+5)) v5) (some g):=
 (((((aO w g (m*6) v0).trans (aO _ g (m*6+1) v1)).trans (aO _ g (m*6+2) v2)).trans (aO _ g (m*6+3) v3)).trans (aO _ g (m*6+4) v4)).trans (aO _ g (m*6+5) v5)
theorem cW{w:World}{p:Addr}{v:Value}(h:w.cell? p=some v):w.drew.cell? p=some v:=h
theorem gI{w}{g:Nat}{a:Int}(h:Blk w g 3 #[vI a]):Rd w (sA g) [vI a]:=(RdT.of_blk h rfl).rd
def RdN(B:Nat)(w:World)(A:OA)(xs:List Value):Prop:=RdT w 3 A xs/\∀p,A=some p->B<=p.block
theorem nV{w:World}{B g c a:Nat}{l:LN}(h:w.ownsRow B 3 1 (.s (sA g) (l.length+1) c) (l.length+1) (ints l++[vI (a:Int)])):RdN B w (sA g) (ints (l++[a])):=by
 obtain⟨A',c',q1,q2,q3⟩:=fF (l:=l++[a]) (by rw[iC];exact h) (by simp);injection q1 with q1 _ q4;subst q1 q4;exact⟨q3,fun p hp=>by injection hp with hp;rw[<-hp];exact(h.lt g rfl).1⟩
def tY(w:World)(ps:LQ)(arcs:LN)(p:Value)(wx:World):Prop:=
 ∃(gl:Nat) (neg:Bool) (A:OA) (n c:Nat) (A':OA) (n' c':Nat) (AX:OA) (cx:Nat),p=.pointer (sA gl)/\Blk wx gl 216 #[.bool true,.bool false,.bool neg,.s A n c,.s A' n' c',.s AX arcs.length cx]/\aE wx neg A n c A' n' c' (prQ ps arcs)/\arcs.length<=cx/\RdN w.heap.size wx AX (ints arcs)/\w.heap.size<=gl/\Ext w wx
theorem nW{W w:World}{ps:LQ}{arcs:LN}{neg:Bool}{A}{n c:Nat}{A'}{n' c':Nat}{AX}{cx k:Nat}(hk:arcs.length=k)(hR:aE w neg A n c A' n' c' (prQ ps arcs))(hc:arcs.length<=cx)(hX:RdN W.heap.size w AX (ints arcs))(hx:Ext W w):
  tY W ps arcs (.pointer (sA w.heap.size)) (w.alloc (.cells #[.bool true,.bool false,.bool neg,.s A n c,.s A' n' c',.s AX k cx] 216)):=by
 subst hk;exact⟨w.heap.size,neg,A,n,c,A',n',c',AX,cx,rfl,eN _ _ _,hR.K ((eR w).alloc _),hc,⟨hX.1.K ((eR w).alloc _),hX.2⟩,hx.size,hx.alloc _⟩
theorem nX{W w:World}{ps:LQ}{arcs:LN}{neg:Bool}{A}{n c:Nat}{A'}{n' c':Nat}{AX}{cx gl k:Nat}{z0 z1 z2 z3 z4 z5:Value}(hk:arcs.length=k)(hb:Blk w gl 216 #[z0,z1,z2,z3,z4,z5])(hR:aE w neg A n c A' n' c' (prQ ps arcs))(hc:arcs.length<=cx)(hX:RdN W.heap.size w AX (ints arcs))(hg:W.heap.size<=gl)(hx:Ext W w):
  tY W ps arcs (.pointer (sA gl)) ((((((w.setCell (aD gl 0) (.bool true)).setCell (aD gl 1) (.bool false)).setCell (aD gl 2) (.bool neg)).setCell (aD gl 3) (.s A n c)).setCell (aD gl 4) (.s A' n' c')).setCell (aD gl 5) (.s AX k cx)):=by
 subst hk;have b0:=hb.sT 0 (.bool true);have b1:=b0.sT 1 (.bool false);have b2:=b1.sT 2 (.bool neg);have b3:=b2.sT 3 (.s A n c);have b4:=b3.sT 4 (.s A' n' c');have b5:=b4.sT 5 (.s AX arcs.length cx);refine⟨gl,neg,A,n,c,A',n',c',AX,cx,rfl,b5,?_,hc,?_,hg,?_⟩;{exact(((((hR.sT (p:=(aD gl 0)) hb (by decide) _).sT (p:=(aD gl 1)) b0 (by decide) _).sT (p:=(aD gl 2)) b1 (by decide) _).sT (p:=(aD gl 3)) b2 (by decide) _).sT (p:=(aD gl 4)) b3 (by decide) _).sT (p:=(aD gl 5)) b4 (by decide) _};{refine⟨?_,hX.2⟩;exact(((((hX.1.sT (p:=(aD gl 0)) hb (by decide) _).sT (p:=(aD gl 1)) b0 (by decide) _).sT (p:=(aD gl 2)) b1 (by decide) _).sT (p:=(aD gl 3)) b2 (by decide) _).sT (p:=(aD gl 4)) b3 (by decide) _).sT (p:=(aD gl 5)) b4 (by decide) _};exact(((((hx.sT (p:=(aD gl 0)) hg _).sT (p:=(aD gl 1)) hg _).sT (p:=(aD gl 2)) hg _).sT (p:=(aD gl 3)) hg _).sT (p:=(aD gl 4)) hg _).sT (p:=(aD gl 5)) hg _
end Go.Proofs.YtojpooidhilnfaaGreatDoor
