/- Walks, part 7. -/
import Derived.Lib.ItoaNum
import Derived.Lib.Builder
import Derived.Lib.AppendStr
import Derived.Lib.Repeat
import Derived.Lib.SmallJoins
import Derived.Test.YtfeeacaofjpkaaaGreatDoorRows
import Derived.ProofKit
import Derived.LaidMore
import Derived.OpenShut
import Derived.Stop.Joined
import Derived.Carry
import Derived.Lib.LaidTab
import Derived.Stop.LaidErr
import Derived.OrdersHeld
import Derived.Below
import Derived.Laws.IdiomStrings
import Derived.Test.YtfeeacaofjpkaaaGreatDoorK06
set_option linter.unusedVariables false
set_option linter.unusedSimpArgs false
set_option maxRecDepth 100000
set_option maxHeartbeats 8000000
namespace Go.Proofs.YtfeeacaofjpkaaaGreatDoor.Dig
open Go.Proofs.Tryz
open Go.Lib
def fixD:Nat->Nat->List UInt8
 |0,_=>[]
 |k+1,r=>fixD k (r/10)++[UInt8.ofNat (48+r%10)]
theorem jzal(q:Nat)(hq:0<q):∀(k r:Nat),r<10^k->decDigits (q*10^k+r)=decDigits q++fixD k r
 |0,r,h=>by simp at h;subst h;simp[fixD]
 |k+1,r,h=>by
  have hp:1<=10^k:=Nat.one_le_pow _ _ qD;have e:q*10^(k+1)=q*10^k*10:=(by rw[vD,kQg]);have h1:1<=q*10^k:=Nat.mul_pos hq qO;rw[vD]at h;rw[e,decDigits,dif_neg qO,fixD,show(q*10^k*10+r)/10=q*10^k+r/10 by omega,jzal q hq k (r/10) qO,List.append_assoc,show(q*10^k*10+r)%10=r%10 by omega]
theorem jzam:∀k,fixD k 0=List.replicate k 48
 |0=>rfl
 |k+1=>by
  rw[fixD,Nat.zero_div,jzam k,List.replicate_succ'];rfl
theorem fixD_pad:∀(k r:Nat),r<10^(k+1)->fixD (k+1) r=List.replicate (k+1-(decDigits r).length) 48++decDigits r
 |k,r,h=>by
  by_cases h1:r<10
  ·rw[fixD,Nat.div_eq_of_lt h1,jzam,decDigits_one h1,kQv h1]
   simp
  ·cases k with
   |zero=>simp at h;omega
   |succ k=>
    have ih:=fixD_pad k (r/10) (by rw[vD]at h;omega);rw[fixD,ih,decDigits.eq_1 r,dif_neg h1,List.append_assoc]
    congr 2
    simp
theorem dec_nine(N:Nat)(h:1000000000<=N):decDigits N=decDigits (N/1000000000)++(List.replicate (9-(decDigits (N%1000000000)).length) 48++decDigits (N%1000000000)):=by
 have h1:=jzal (N/1000000000) qO 9 (N%1000000000) (by simp;omega);have h2:=fixD_pad 8 (N%1000000000) (by simp;omega);rw[h2]at h1;rw[<-h1];congr 1;omega
theorem dec_len_nine(r:Nat)(h:r<1000000000):(decDigits r).length<=9/\1<=(decDigits r).length:=by
 rw[decDigits_length];refine⟨?_,nDigits_pos r⟩;have h1:=fixD_pad 8 r (by simp;omega);have h2:∀k r,(fixD k r).length=k:=fun k=>(by (induction k with|zero=>intro r;rfl|succ k ih=>intro r;rw[fixD,yQ,ih];rfl));have h3:=congrArg List.length h1;rw[h2,yQ,xC,decDigits_length]at h3;omega
end Go.Proofs.YtfeeacaofjpkaaaGreatDoor.Dig
namespace Go.Proofs.YtfeeacaofjpkaaaGreatDoor
open Go.Proofs.Tryz
open Go.RowKit Go.Lib
theorem jzan:(prog.info? 180).map (·.size)=some 2:=by kernel_rfl
theorem jzh2:liesAt prog prog.depth 180 (2/prog.cellsOf 180) 0 180 1=true:=by kernel_rfl
theorem jzao:(prog.info? 5).map (fun i=>(i.zero,i.size,i.bytes))=some (some (.int .u8 0),1,1):=by kernel_rfl
theorem jzh3(b:Nat)(w:World)(h0:w.cell? (aD b 0)=some (.pointer (sA b))):
  Calls prog 167 #[.pointer (sA b)] w fun e w'=>e=.returned (.tuple #[])/\w'=w:=by
 obtain⟨j,hj,_⟩:=Option.map_eq_some_iff.1 jzan;go_enter func167,ntmps167;go_wp2;rw[Lib.run_neq_ptr_same w _ underlying177 hj];go_wp2;(go_end0);exact⟨rfl,rfl⟩
theorem jzh4(b:Nat)(w:World)(h0:w.cell? (aD b 0)=some (.pointer none))(hsh:w.shape? b=some (180,2))(hfz:w.frozen? (aD b 0)=false):
  Calls prog 167 #[.pointer (sA b)] w fun e w'=>e=.returned (.tuple #[])/\w'=w.setCell (aD b 0) (.pointer (sA b)):=by
 obtain⟨j,hj,qa⟩:=Option.map_eq_some_iff.1 jzan;go_enter func167,ntmps167;go_wp2;rw[Lib.run_to_unsafe w (aD b 0) underlying177 underlying283 hj (by rw[qa];decide) hsh (Nat.zero_lt_succ 1)];simp only[Result.andThen];rw[Oper.upon_value];go_wp2;rw[run_callFunc_extern func204 qK qK qK (e:=Extern.AbiNoEscape.same) qK];rw[Lib.run_noEscape];simp only[Result.andThen];rw[Oper.upon_value];go_wp2;rw[Lib.run_from_unsafe w (aD b 0) underlying283 underlying177 hj hsh jzh2];simp only[Result.andThen];rw[Oper.upon_value];go_wp2;(go_end0);exact⟨rfl,rfl⟩
theorem jzap(B b:Nat)(bs:List Value)w(h:Lib.IsBuilder 180 5 B b bs w):
  Calls prog 167 #[.pointer (sA b)] w fun e w'=>e=.returned (.tuple #[])/\(Lib.BuilderAt 180 5 B b (.pointer (sA b)) bs w'/\Below B w w'):=by
 (rcases h with h|h);{refine(jzh4 b w h.cell0 h.shape h.frozen0).mono ?_;rintro e w' ⟨rfl,rfl⟩;exact⟨rfl,h.used _,(Below.refl B w).setCell (p:=(aD b 0)) h.1 _⟩};refine(jzh3 b w h.cell0).mono ?_;rintro e w' ⟨rfl,rfl⟩;exact⟨rfl,h,Below.refl B _⟩
theorem tG(B b:Nat)(bs:List Value)(s:ByteArray)w(h:Lib.IsBuilder 180 5 B b bs w)(hlen:bs.length+s.size<=140737488355328)(hBw:B<=w.heap.size):
  Calls prog 110 #[.pointer (sA b),.string s] w fun e w'=>e=.returned (.tuple #[vI s.size,.nilIface])/\(Lib.BuilderAt 180 5 B b (.pointer (sA b)) (bs++Lib.strCells s) w'/\Below B w w'):=by
 obtain⟨i0,hi,qn,qo,qj⟩:=info_parts jzao;go_enter func110,ntmps110;go_wp2_with fail;(refine(jzap B b bs _ h).mono ?_;rintro e w1 ⟨rfl,h1,qi⟩;obtain⟨hB,v,qg,qf,qm⟩:=h1;have c0:w1.cell? (aD b 0)=some (.pointer (sA b)):=(by rw[Lib.cell_of_heap qg];rfl);have c1:w1.cell? (aD b 1)=some v:=by rw[Lib.cell_of_heap qg];rfl);(go_wp2_with (at_builtin;refine Lib.wpList_append_own_string _ rfl _ _ 178 9 rfl B 5 i0 underlying178 underlying9 hi qn qo qj _ _ _ rfl qf s rfl ?c3 ?c4 ?c5 ?_));(case c3=>unfold maxLen;omega);(case c4=>omega);(case c5=>have:=qi.size;omega);intro v' w2 qa qe _;have qk:b<w1.heap.size:=(by (rcases kQd b w1.heap.size with h'|h');{exact h'};simp[kQn h']at qg);have qh:w2.heap[b]?=some (.cells #[.pointer (sA b),v] 180 (0,0)):=(by rw[qe.block b qk (fun e=>qm e.symm)];exact qg);have d0:w2.cell? (aD b 0)=some (.pointer (sA b)):=(by rw[Lib.cell_of_heap qh];rfl);have d1:w2.cell? (aD b 1)=some v:=(by rw[Lib.cell_of_heap qh];rfl);have f1:w2.frozen? (aD b 1)=false:=Lib.frozen_of_heap qh 1;obtain⟨ao,n',cap,rfl⟩:∃ao n' cap,v'=.s ao n' cap:=(by (rcases qa.2 with⟨hv,_⟩|⟨g,cap,cur,hv,_⟩);{exact⟨_,_,_,hv⟩};exact⟨_,_,_,hv⟩);go_wp2;(go_ret2);refine⟨rfl,?_,?_⟩;{exact Lib.BuilderAt.put (T:=180) (e:=5) hB qh (bs':=bs++Lib.strCells s) (by simpa [Lib.strCells_length]using qa) qD};exact(qi.grown qe (by have:=qi.size;omega) (fun k hk=>(qf.lt k hk).1)).setCell (p:=(aD b 1)) hB _
end Go.Proofs.YtfeeacaofjpkaaaGreatDoor
namespace Go.Proofs.YtfeeacaofjpkaaaGreatDoor
open Go.Proofs.Tryz
open Go.RowKit Go.Sort
theorem Tryz.info9:(prog.info? 9).map (fun i=>(i.zero,i.size,i.bytes))=some (some (.string ⟨#[]⟩),1,16):=by kernel_rfl
def lL(l:List (List UInt8)):List Value:=l.map fun s=>Value.string ⟨s.toArray⟩
theorem jzh5(l:List (List UInt8))(s:List UInt8):lL (l++[s])=lL l++[.string ⟨s.toArray⟩]:=by simp[lL]
theorem jzh6(l:List (List UInt8))(i:Nat)(h:i<l.length):(lL l)[i]?=some (.string ⟨(l[i]?.getD []).toArray⟩):=by simp[lL,h]
def Tab(w:World):Prop:=Lib.TabIs prog w "internal/strconv.uint64pow10" .u64 Lib.pow10Tab
theorem jzh7:∃g,prog.globalNamed "internal/strconv.uint64pow10" =some g:=by
 have h:(prog.globalNamed "internal/strconv.uint64pow10").isSome=true:=qK;exact Option.isSome_iff_exists.1 h
theorem Tab.K{w w'}(h:Tab w)(hx:Ext w w'):Tab w':=by
 obtain⟨g,hg⟩:=jzh7;exact Joins.tab_stays hg h hx (yX _)
theorem jzaq w(k:Nat)(os:Array Obj):Ext w (grow (w.drewN k) os):=
 ⟨rfl,rfl,rfl,by simp[grow],fun i hi=>by
  show((w.drewN k).heap++os)[i]?=_;rw[Array.getElem?_append_left (by show i<w.heap.size;omega)];rfl⟩
theorem jzh8(r:Nat)w(ht:Tab w)(hr:r<1000000000):
  Calls prog 111 #[vI r] w fun e w'=>e=.returned (.string ⟨(Lib.decDigits r).toArray⟩)/\Ext w w':=by
 refine(Tryz.strconv_Itoa r qO qO w ht).mono ?_;rintro e w' ⟨rfl,k,os,rfl⟩;refine⟨?_,jzaq _ _ _⟩;unfold Lib.itoa;rw[qF qO,xL]
theorem jzh9(k:Nat)w(hk:k<=9):
  Calls prog 133 #[.string ⟨#[48]⟩,vI k] w fun e w'=>e=.returned (.string ⟨(List.replicate k (48:UInt8)).toArray⟩)/\Ext w w':=by
 refine(Tryz.strings_Repeat ⟨#[48]⟩ k w qO (by show 1*k<=_;omega)).mono ?_;rintro e w' ⟨rfl,hb⟩;refine⟨?_,hb⟩;have:=Lib.repeatL_replicate 48 1 k;rw[Nat.mul_one]at this;rw[<-this];rfl
def gJ(N M:Nat)(ps:List (List UInt8)):Prop:=Lib.decDigits N=(if M=0 then []else Lib.decDigits M)++ps.reverse.flatten
theorem jzia{N M:Nat}{ps:List (List UInt8)}(h:gJ N M ps)(hM:0<M)(hl:M/1000000000=0):gJ N 0 (ps++[Lib.decDigits (M%1000000000)]):=by
 unfold gJ at*;rw[h,qF qO,qE rfl,List.reverse_append];rw[kQv qO];simp
theorem jzib{N M:Nat}{ps:List (List UInt8)}(h:gJ N M ps)(hl:0<M/1000000000):
  gJ N (M/1000000000) (ps++[List.replicate (9-(Lib.decDigits (M%1000000000)).length) 48++Lib.decDigits (M%1000000000)]):=by
 unfold gJ at*;rw[h,qF qO,qF qO,Dig.dec_nine M qO,List.reverse_append];simp
theorem jzic(a b:Array UInt8):((⟨a⟩:ByteArray)++⟨b⟩)=⟨a++b⟩:=ByteArray.ext (by simp[ByteArray.data_append])
def fL(M:Nat):List UInt8:=if M/1000000000=0 then Lib.decDigits (M%1000000000)else List.replicate (9-(Lib.decDigits (M%1000000000)).length) 48++Lib.decDigits (M%1000000000)
theorem jzid(M:Nat):(fL M).length<=9:=by
 have:=Dig.dec_len_nine (M%1000000000) (xT _ qD);unfold fL;split;{omega};simp only[yQ,xC];omega
theorem jzie{N M:Nat}{ps:List (List UInt8)}(h:gJ N M ps)(hM:0<M):gJ N (M/1000000000) (ps++[fL M]):=by
 unfold fL;split;{rename_i e;rw[e];exact jzia h hM e};exact jzib h qO
theorem jzif(l:List (List UInt8))(h:∀p∈l,p.length<=9):l.flatten.length<=9*l.length:=by
 (induction l with|nil=>simp|cons a l ih=>have h1:=h a qS;have h2:=ih (fun p hp=>h p (by simp[hp]));simp only[List.flatten_cons,yQ,kQo];omega)
structure tH(w wr:World)(N K k M:Nat)(ps:List (List UInt8))(v:Value)(A:OA)(n c:Nat):Prop where
 lt:M<10^(9*k)
 cnt:ps.length+k<=K
 txt:gJ N M ps
 own:wr.ownsRow (w.heap.size+1) 9 1 v ps.length (lL ps)
 len:∀p∈ps,p.length<=9
 blk:Blk wr w.heap.size 31 #[.s A n c]
 num:aE wr A n c M
 nle:n<=1048576
 ext:Ext w wr
theorem tI A(n c N:Nat)w(h:aE w A n c N)(hn:n<=1048576)(ht:Tab w):
  Calls prog 67 #[.agg #[.s A n c]] w fun e w'=>e=.returned (.string ⟨(Lib.decDigits N).toArray⟩)/\Ext w w':=by
 obtain⟨hb,e0⟩:=bA w #[.s A n c] 31;have hz:=h.eq_zero;by_cases hN:N=0;{(have zb:((n:Int)==0)=true:=by have:=hz.2 hN;subst this;rfl);subst hN;have cb:=hb.one.1;clear hz h ht;go_enter func67,ntmps67;go_wp2_with fail;refine(bO A n c _).mono ?_;rintro e w1 ⟨rfl,qm⟩;have HX:=Hx (e0.tr qm);clear qm e0 hb cb;go_wp2;go_ret;exact⟨by rw[Lib.decDigits_one qD];rfl,HX.o⟩};have zb:((n:Int)==0)=false:=yK.2 qO;have hK:N<10^(9*(2*n)):=(by obtain⟨ds,hl,_,qC,hv,_⟩:=h;have h1:=Dig.val_lt bB qC.lt;rw[hv,hl]at h1;refine yL h1 ?_;rw[show 9*(2*n)=18*n by omega,Nat.pow_mul];exact Nat.pow_le_pow_left qD _);have cb:=hb.one.1;have H:=Hx h;have HT:=Hx ht;have HK:=Hx hK;have vl:2*n<=2097152:=qO;obtain⟨ti,hi,va,vc,q6⟩:=info_parts Tryz.info9;clear h ht hz hN hK;go_enter func67,ntmps67;go_wp2_with fail;refine(bO A n c _).mono ?_;rintro e w1 ⟨rfl,qm⟩;have HX:=Hx (e0.tr qm);have HB:=Hx (hb.K qm);clear qm e0 hb cb;go_wp2;generalize hKK:2*n=K at*;have S0:Hid (tH w w1 N K K N [] zN A n c):=Hx (⟨HK.o,qS,by unfold gJ;have:=H.o.eq_zero;rw[qF (by intro e;rw[this.2 e]at zb;cases zb)];simp,World.ownsRow_nil _ _ _ _,fun p hp=>by simp at hp,HB.o,H.o.K HX.o,hn,HX.o⟩);clear hKK HK HB H hn zb;go_loopg [3,4,5] K (fun k v _ _ wr=>∃(j M:Nat) (ps:List (List UInt8)) (A:OA) (n c:Nat),j=k/\tH w wr N K j M ps v A n c);exact⟨K,N,[],A,n,c,rfl,S0.o⟩;clear S0;obtain⟨k,M,ps,A,n,c,rfl,qy⟩:=hrel;have ca:=qy.blk.one.1;have hz:=qy.num.eq_zero;have ST:=Hx qy;clear qy;by_cases hM:M=0;{(have zb:((n:Int)==0)=true:=by have:=hz.2 hM;subst this;rfl);clear hz;go_wp2_with fail;refine(bO A n c _).mono ?_;rintro e w2 ⟨rfl,qk⟩;have qB:=Hx qk;clear qk ca;subst hM;have qe:=ST.o.txt;unfold gJ at qe;rw[qE rfl,List.nil_append]at qe;have vg:=Hx qe;have O2:=Hx (ST.o.own.kept (eZ qB.o) (fA _));have E2:=Hx (ST.o.ext.tr qB.o);have qZ:ps.length<=2097152:=(by have:=ST.o.cnt;omega);have qQ:=Hx ST.o.len;obtain⟨AV,cv,rfl⟩:=jzh1 O2.o;clear qe ST qB;go_wp2;clear zb;(go_loopw [7,36] (fun _ it wr=>∃i:Nat,i<=ps.length/\it=vI i/\Lib.IsBuilder 180 5 w2.heap.size w2.heap.size (Lib.byteCells ((ps.reverse.take i).flatten)) wr/\Below w2.heap.size w2 wr) (fun _ i _=>ps.length-(intOf i).toNat));(case atStart=>refine⟨0,yZ _,rfl,.inl ⟨yX _,zN,heap_alloc_new w2 _,World.ownsRow_nil _ _ _ _,by simp[Value.ownBlock]⟩,(eR w2).alloc _⟩);obtain⟨i,hi,rfl,qV,qI⟩:=hrel;have BD:=Hx qV;have BL:=Hx qI;clear qV qI;by_cases vo:i<ps.length;{obtain⟨m,hm⟩:∃m,ps.length=m+1+i:=⟨ps.length-1-i,qO⟩;have qH:m<ps.length:=qO;obtain⟨g,rfl,ve,qh⟩:∃g,AV=(sA g)/\g<w2.heap.size/\w2.cell? (aD g m)=some (.string ⟨(ps[m]?.getD []).toArray⟩):=(by (rcases O2.o.2 with⟨_,e⟩|⟨g,cap,cur,e,_⟩);{omega};(injection e with e1 e2 e3);subst e1 e3;exact⟨g,rfl,(O2.o.lt g rfl).2,(O2.o.cellAt m qO).trans (jzh6 ps m qH)⟩);have vk:=(BL.o.cell (p:=(aD g m)) ve).trans qh;have hx:((ps.length:Int)-1-(i:Int))=(m:Int):=qO;have vd:(m:Int)<(ps.length:Int):=qO;have qn:ps.reverse[i]?=some (ps[m]?.getD []):=(by rw[List.getElem?_reverse qO,show ps.length-1-i=m by omega,yG qH];rfl);have vh:(ps[m]?.getD []).length<=9:=(by rw[yG qH];exact qQ.o _ (xR _));have qA:=Hx (show Lib.byteCells ((ps.reverse.take (i+1)).flatten)=Lib.byteCells ((ps.reverse.take i).flatten)++Lib.strCells ⟨(ps[m]?.getD []).toArray⟩ by rw[kQr,qn,List.flatten_append,Lib.byteCells_append];simp;rfl);have vn:((ps.reverse.take i).flatten).length<=9*ps.length:=(by have:=jzif (ps.reverse.take i) (fun p hp=>qQ.o p (List.mem_reverse.1 (xM hp)));simp only[xF,List.length_reverse]at this;omega);generalize ps[m]?.getD []=pm at*;clear hm qh qn;go_wp2_with fail;refine(tG w2.heap.size w2.heap.size _ ⟨pm.toArray⟩ _ BD.o (by rw[Lib.byteCells_length];show _+pm.toArray.size<=_;rw[show pm.toArray.size=pm.length by simp];omega) BL.o.size).mono ?_;rintro e w9 ⟨rfl,qX,qt⟩;have B9:=Hx qX;have L9:=Hx (BL.o.trans qt);clear qX qt hx;go_wp2;go_roundw;(case rel=>exact⟨i+1,qO,by go_num,.inr (by rw[qA.o];exact B9.o),L9.o⟩);simp[intOf];omega};have q8:i=ps.length:=qO;subst q8;go_wp2_with fail;refine(Tryz.Builder_String_any w2.heap.size w2.heap.size _ _ BD.o BL.o.size).mono ?_;rintro e w9 ⟨rfl,qt⟩;have HE:=Hx (E2.o.tr (BL.o.trans qt));clear qt;go_wp2;go_ret;refine⟨?_,HE.o⟩;rw[vg.o,yU qS];rfl};have zb:((n:Int)==0)=false:=yK.2 qO;clear hz;go_wp2_with fail;refine(bO A n c _).mono ?_;rintro e w2 ⟨rfl,qk⟩;have ca:=(ST.o.blk.K qk).one.1;have X2:=Hx qk;clear qk;go_wp2_with fail;refine(sM A n c M 1000000000 _ (ST.o.num.K X2.o) (by have:=ST.o.nle;omega) qD qD).mono ?_;rintro e w3 ⟨A3,n3,c3,rfl,qx,qW⟩;have X3:=Hx (X2.o.tr qW);have R3:=Hx qx;have B3:=Hx (ST.o.blk.K X3.o);obtain⟨ca,fa⟩:=B3.o.one;have qY:M%1000000000<1000000000:=xT _ qD;have vm:n3<=n:=aE.len_le qx ST.o.num (kZi _ _);have qT:=qx.eq_zero;clear qW qx X2;have X4:Hid (Ext w (w3.setCell (aD w.heap.size 0) (.s A3 n3 c3))):=Hx (Ext.sT (ST.o.ext.tr X3.o) (p:=(aD w.heap.size 0)) (yX _) _);generalize hrm:M%1000000000=r at*;have HR:=Hx hrm;clear hrm;go_wp2_with fail;refine(jzh8 r _ (HT.o.K X4.o) qY).mono ?_;rintro e w5 ⟨rfl,qp⟩;have X5:=Hx (X4.o.tr qp);have B5:=Hx ((B3.o.sT 0 (.s A3 n3 c3)).K qp);have R5:=Hx ((R3.o.sT (p:=(aD w.heap.size 0)) B3.o qD (.s A3 n3 c3)).K qp);have g4:w3.grownBy (w3.setCell (aD w.heap.size 0) (.s A3 n3 c3)) (some w.heap.size):=aM w3 w.heap.size 0 _;have O5:=Hx (((ST.o.own.kept (eZ X3.o) (fA _)).kept g4 (jzhm (ST.o.own.kept (eZ X3.o) (fA _)) qO)).kept (eZ qp) (fA _));have ca:=B5.o.one.1;clear qp g4 X4 X3 B3 R3 fa;have vq:=Dig.dec_len_nine r qY;generalize hdr:Lib.decDigits r=dr at*;have q9:=Hx hdr;clear hdr;go_wp2_with fail;refine(bO A3 n3 c3 _).mono ?_;rintro e w6 ⟨rfl,qo⟩;have X6:=Hx (X5.o.tr qo);have B6:=Hx (B5.o.K qo);have R6:=Hx (R5.o.K qo);have O6:=Hx (O5.o.kept (eZ qo) (fA _));clear qo X5 B5 R5 O5 ca;have PP:=Hx (show fL M=if M/1000000000=0 then dr else List.replicate (9-dr.length) 48++dr by unfold fL;rw[HR.o,q9.o]);have qU:((n3:Int)==0)=decide (M/1000000000=0):=(by by_cases hq:M/1000000000=0;{have:=qT.2 hq;subst this;rw[yO hq];rfl};rw[yP hq];exact yK.2 qO);rw[qU];generalize hz9:decide (M/1000000000=0)=zz at*;have qz:=Hx hz9;clear qU hz9 qT;(go_upto_if 23 with fail);go_cut [5] (fun s wx=>s=.string ⟨(fL M).toArray⟩/\Ext w6 wx);(case first=>cases zz;(case true=>have hp:=PP.o;rw[qE (of_decide_eq_true qz.o)]at hp;have HP:=Hx hp;clear hp;go_wp2;go_meet;exact⟨by rw[HP.o],eR _⟩);have hp:=PP.o;rw[qF (of_decide_eq_false qz.o)]at hp;have HP:=Hx hp;clear hp;go_wp2_with fail;rw[show(9-(dr.length:Int))=((9-dr.length:Nat):Int) by omega];refine(jzh9 (9-dr.length) _ qO).mono ?_;rintro e w7 ⟨rfl,qg⟩;have X7:=Hx qg;clear qg;go_wp2;go_meet;refine⟨?_,X7.o⟩;rw[HP.o,jzic];congr 2;apply Array.ext';simp);obtain⟨rfl,qg⟩:=hcut;have X7:=Hx (X6.o.tr qg);have B7:=Hx (B6.o.K qg);have R7:=Hx (R6.o.K qg);have O7:=Hx (O6.o.kept (eZ qg) (fA _));have vp:=ST.o.cnt;clear qg X6 B6 R6 O6 qz PP;(go_wp2_with (at_builtin;go_must (refine pK _ rfl (.tmp 30) (.tmp 32) 203 rfl (w.heap.size+1) 9 ti (.string ⟨#[]⟩) 16 underlying203 hi va vc q6 rfl u3 ps.length (lL ps) rfl ?c0 (sA wc.heap.size) 1 1 [.string ⟨(fL M).toArray⟩] rfl rfl ?c1 ?c2 ?c3 ?c4 ?c5 ?c6 ?_)));(case c0=>exact O7.o.alloc _);(case c1=>exact Rd.new _ _ _ rfl rfl);(case c2=>intro h;cases h);(case c3=>intro u hu;simp at hu;subst hu;rfl);(case c4=>unfold maxLen;omega);(case c5=>omega);(case c6=>have:=B7.o.lt;simp;omega);intro v8 w8 qf qa _;have qw:(wc.alloc (.cells #[.string ⟨(fL M).toArray⟩] 9)).grownBy w8 u3.ownBlock:=qa;have qj:∀k,u3.ownBlock=some k->w.heap.size+1<=k:=fun k hk=>(O7.o.lt k hk).1;have qi:Blk w8 w.heap.size 31 #[.s A3 n3 c3]:=(qw.block _ (B7.o.alloc _).lt (fun e=>by have:=qj _ e.symm;omega)).trans (B7.o.alloc _);have vj:1<=k:=(by (rcases kQm k with e|e);{exfalso;have:=ST.o.lt;rw[e]at this;simp at this;omega};exact e);have qJ:Ext w w8:=Below.grown (X7.o.alloc _) qw (X7.o.alloc _).size (fun k hk=>by have:=qj k hk;omega);have qM:aE w8 A3 n3 c3 (M/1000000000):=(by obtain⟨ds,q1,q2,q3,q4,q5⟩:=R7.o.K ((eR wc).alloc (.cells #[.string ⟨(fL M).toArray⟩] 9));refine⟨ds,q1,q2,q3,q4,q5.grown qw (fun hx ad had e=>?_)⟩;obtain⟨bb,oo,cs,fr,e1,e2,_⟩:=q5 hx;rw[had]at e1;injection e1 with e1;(subst e1;obtain⟨c9,f9,e9⟩:=Lib.ownsRow_kind (O7.o.alloc (.cells #[.string ⟨(fL M).toArray⟩] 9)) _ e.symm;rw[e2]at e9;injection e9 with e9);(injection e9 with _ e9);revert e9;decide)
 have SN:=Hx (show tH w w8 N K (k-1) (M/1000000000) (ps++[fL M]) v8 A3 n3 c3 from
  ⟨by
   rw[kZp qD];have:=ST.o.lt;rw[show 9*k=9*(k-1)+9 by omega,Nat.pow_add]at this;exact this,by rw[yQ,kZd];omega,jzie ST.o.txt qO,by rw[yQ,kZd,jzh5];exact qf,fun p hp=>by
    rcases xY.1 hp with h|h
    ·
     exact ST.o.len p h
    rw[xD.1 h];exact jzid M,qi,qM,by have:=ST.o.nle;omega,qJ⟩)
 clear qf qa qw qj qi qJ qM;go_wp2;go_roundg (k-1);exact⟨k-1,M/1000000000,ps++[fL M],A3,n3,c3,rfl,SN.o⟩;omega
def kW(q:Rat):List UInt8:=(if q.num<0 then [45]else [])++Lib.decDigits q.num.natAbs++(if q.den=1 then []else [47]++Lib.decDigits q.den)
theorem jzar:∀(k N:Nat),N<10^(k+1)->Lib.nDigits N<=k+1
 |0,N,h=>by rw[Lib.nDigits_small (by simpa using h)];exact yX _
 |k+1,N,h=>by
  by_cases hN:N<10
  ·rw[Lib.nDigits_small hN];omega
  ·rw[Lib.nDigits_big hN]
   have:=jzar k (N/10) (by rw[vD]at h;omega);omega
theorem jzas{w}{A}{n c N:Nat}(h:aE w A n c N)(hn:n<=1048576):(Lib.decDigits N).length<=20000000:=by
 obtain⟨ds,hl,_,qa,hv,_⟩:=h;have h1:=Dig.val_lt bB qa.lt;rw[hv,hl]at h1;have h2:N<10^(18*n+1):=(by refine yL h1 (yY (Nat.pow_le_pow_left (show B32<=10^18 by decide) n) ?_);rw[<-Nat.pow_mul];exact kQk qD qO);rw[Lib.decDigits_length];have:=jzar _ _ h2;omega
theorem jzig(neg:Bool)A(n c:Nat)A'(n' c':Nat)(q:Rat)w(h:aB w neg A n c A' n' c' q)(hn:n<=1048576)(hn':n'<=1048576)(ht:Tab w):
  Calls prog 23 #[.agg #[.bool neg,.s A n c,.s A' n' c']] w fun e w'=>e=.returned (.string ⟨(kW q).toArray⟩)/\Ext w w':=by
 obtain⟨qa,e0⟩:=bA w #[.bool neg,.s A n c,.s A' n' c'] 33;have hz:=h.2.2.eq_zero;have qg:(((n':Int)==0)=true/\q.den=1)\/(((n':Int)==0)=false/\q.den≠1/\dk q=q.den):=(by have hd:=q.den_nz;unfold dk at hz⊢;by_cases h1:q.den=1;{rw[qE h1]at hz;have:=hz.2 rfl;subst this;exact .inl ⟨rfl,h1⟩};rw[qF h1]at hz⊢;exact .inr ⟨yK.2 qO,h1,rfl⟩);have qx:=jzas h.2.1 hn;have qo:=jzas h.2.2 hn';have H:=Hx h;have HT:=Hx ht;have qj:=h.1;have SG:=Hx (show(if q.num<0 then [45]else([]:List UInt8))=if neg then [45]else [] by rw[qj];simp);clear h ht hz qj;obtain⟨⟨i0,i1,i2⟩,g0,g1,g2⟩:=qa.t3;have goal:∀(s:ByteArray),s.data.toList=kW q->s=⟨(kW q).toArray⟩:=fun s hs=>(by rw[<-hs])
 have qi:=Hx goal;clear goal;have qp:∀b1:Bool,neg=b1->Calls prog 23 #[.agg #[.bool neg,.s A n c,.s A' n' c']] w fun e w'=>e=.returned (.string ⟨(kW q).toArray⟩)/\Ext w w':=by
  intro b1 qt;subst qt;rcases qg with⟨zb,hd⟩|⟨zb,hd,hdk⟩
  ·have HD:=Hx hd;clear hd;cases neg
   all_goals
    go_enter func23,ntmps23
    go_wp2_with fail
    refine(tI A n c q.num.natAbs _ (H.o.2.1.K e0) hn (HT.o.K e0)).mono ?_;rintro e w1 ⟨rfl,qe⟩;have qa:=qa.K qe;obtain⟨⟨i0,i1,i2⟩,g0,g1,g2⟩:=qa.t3;have HX:=Hx (e0.tr qe);clear qe
    go_wp2_with fail
    refine(bO A' n' c' _).mono ?_;rintro e w2 ⟨rfl,qf⟩;have qh:=Hx (HX.o.tr qf);clear qf;go_wp2;go_ret;refine⟨congrArg (fun s=>Ending.returned (.string s)) (qi.o _ ?_),qh.o⟩;unfold kW;rw[SG.o,HD.o];simp[ByteArray.data_append]
  have HD:=Hx hd;have qm:=Hx hdk;clear hd hdk;cases neg
  all_goals
   go_enter func23,ntmps23
   go_wp2_with fail
   refine(tI A n c q.num.natAbs _ (H.o.2.1.K e0) hn (HT.o.K e0)).mono ?_;rintro e w1 ⟨rfl,qe⟩;have qa:=qa.K qe;obtain⟨⟨i0,i1,i2⟩,g0,g1,g2⟩:=qa.t3;have HX:=Hx (e0.tr qe);clear qe
   go_wp2_with fail
   refine(bO A' n' c' _).mono ?_;rintro e w2 ⟨rfl,qf⟩;have qh:=Hx (HX.o.tr qf);have qa:=qa.K qf;obtain⟨⟨i0,i1,i2⟩,g0,g1,g2⟩:=qa.t3;clear qf
   go_wp2_with fail
   refine(tI A' n' c' (dk q) _ (H.o.2.2.K qh.o) hn' (HT.o.K qh.o)).mono ?_;rintro e w3 ⟨rfl,qk⟩;have qw:=qo;have qn:=Hx (qh.o.tr qk);clear qk;go_wp2;go_ret;refine⟨congrArg (fun s=>Ending.returned (.string s)) (qi.o _ ?_),qn.o⟩;unfold kW;rw[SG.o,qF HD.o,qm.o];simp[ByteArray.data_append]
 exact qp neg rfl
end Go.Proofs.YtfeeacaofjpkaaaGreatDoor
namespace Go.Proofs.YtfeeacaofjpkaaaGreatDoor
open Go.Proofs.Tryz
open Go.ChangeShapes Go.WideShapes Go.ChangeAt Go.RowKit
theorem Tryz.own:ownKnob prog.godebug=none:=by kernel_rfl
theorem Tryz.laidOut:laidOutB prog=true:=by kernel_rfl
abbrev mG:List (String×DataW Unit):=Rows.flowsSolveRow.laid
theorem jzih{W}(h:laidMetH prog mG W):Tab W:=by
 rw[MakeChecks.laidMetH_plain _ _ _ qK]at h;have h0:laidMet prog mG W:=h;have h3:laidMet prog [("internal/strconv.uint64pow10",Lib.tabData .u64 Lib.pow10Tab)] W:=h0.tail.tail;exact Lib.tabIs_of_head (g:=1) (t:=310) qK qK underlying310 underlying189 qK qK h3
theorem jzii(os:Os)(args:Array Value):laidMetH prog mG ((World.doorLaid prog 24 os).forCall (fun _ _=>0) ⟨#[],args,[]⟩).memory:=
 laidMetH_of_parts3 (fuel:=8) (laidMet_of_run' 8 qK qK) qK qK
end Go.Proofs.YtfeeacaofjpkaaaGreatDoor
namespace Go.Proofs.YtfeeacaofjpkaaaGreatDoor
open Go.Proofs.Tryz
open Go Go.RowKit
variable {P:Program} {md:Region.Mode} {ops:Array Oper} {Q:Exit->Act->World->Prop} {S:World->Prop} {L:Nat}
def wpAnyL(P:Program)(md:Region.Mode)(ops:Array Oper)(Q:Exit->Act->World->Prop)(S:World->Prop)(L:Nat):Nat->Array Bool->Act->World->Prop
 |0,listed,a,w=>Region.ready md ops listed=[]/\Q .normal a w
 |fuel+1,listed,a,w=>
  (Region.ready md ops listed=[]->Q .normal a w)/\
  ∀i∈Region.ready md ops listed,wpOp P ops Q i (fun a' w'=>(i=L->wpAny P md ops Q fuel (listed.setIfInBounds i true) a' w')/\(i≠L->S w'/\wpAnyL P md ops Q S L fuel (listed.setIfInBounds i true) a' w')) a w
theorem jzat:∀(fuel:Nat) (listed:Array Bool) (a:Act) (w:World),wpAnyL P md ops Q S L fuel listed a w->wpAny P md ops Q fuel listed a w
 |0,_,_,_,h=>h
 |fuel+1,_,_,_,h=>⟨h.1,fun i hi=>wpOp_mono (fun a' w' h'=>by
  by_cases e:i=L
  ·exact h'.1 e
  ·exact jzat fuel _ a' w' (h'.2 e).2) (h.2 i hi)⟩
def awaitB(md:Region.Mode)(ops:Array Oper)(L i:Nat):Bool:=match ops[L]? with
 |none=>false
 |some o=>o.after.any fun e=>Region.binds md e&&e.on==i
theorem nG{i:Nat}(h:awaitB md ops L i=true){listed:Array Bool}(hr:L∈Region.ready md ops listed)(hsz:listed.getD i true=false):False:=by
 unfold awaitB at h;obtain⟨_,oj,qe,qa⟩:=mem_ready.1 hr;rw[qe]at h;obtain⟨e,he,hb⟩:=Array.any_eq_true'.1 h;rw[vM,beq_iff_eq]at hb;have h2:=qa e he hb.1;rw[hb.2]at h2;rcases kQd i listed.size with h'|h'
 ·simp[h']at hsz h2;rw[hsz]at h2;cases h2
 simp[kQn h']at hsz
theorem jzij{i:Nat}{oi:Oper}{v:Value}(hL:awaitB md ops L i=true)(hi:ops[i]?=some oi)(hiL:i≠L)(hsel:∀(j:Nat) (o:Oper) cs b,ops[j]?=some o->o.op≠.select cs b)
  (hQ:∀c a w,Q (.panic c) (a.put oi.dst v) w->Q (.panic c) a w):
  ∀(qe:Nat) (qa:Array Bool) (a:Act) (w:World),
   (∀j oj,ops[j]?=some oj->j≠i->qa.getD j true=false->(∀e∈oj.after,Region.binds md e=true->e.on≠i)->oi.apart ops oj=true)->
   i∈Region.ready md ops qa->YieldsIf P ops S oi v a->S w->
   wpAnyL P md ops Q S L qe (qa.setIfInBounds i true) (a.put oi.dst v) w->wpAnyL P md ops Q S L (qe+1) qa a w:=by
 intro qe
 induction qe with
 |zero=>
  intro qa a w _ hr hy hS H;refine⟨fun h=>(by rw[h]at hr;cases hr),fun j hj=>?_⟩;by_cases qg:j=i
  ·subst qg;exact hy.wpOp hi hS ⟨fun e=>absurd e hiL,fun _=>⟨hS,H⟩⟩
  have:=ready_mono hj qg;rw[H.1]at this;cases this
 |succ qe ih=>
  intro qa a w qf hr hy hS H;refine⟨fun h=>(by rw[h]at hr;cases hr),fun j hj=>?_⟩;by_cases qg:j=i
  ·subst qg;exact hy.wpOp hi hS ⟨fun e=>absurd e hiL,fun _=>⟨hS,H⟩⟩
  have qj:j≠L:=fun e=>by
   rw[e]at hj;exact nG hL hj (mem_ready.1 hr).1
  have h1:=H.2 j (ready_mono hj qg);obtain⟨qi,oj,qk,qm⟩:=mem_ready.1 hj;have qn:∀e∈oj.after,Region.binds md e=true->e.on≠i:=fun e he hb heq=>by
   have h1:=qm e he hb;have h0:=(mem_ready.1 hr).1;rw[heq]at h1;rcases kQd i qa.size with h'|h'
   ·simp[h']at h0 h1;rw[h0]at h1;cases h1
   simp[kQn h']at h1
  have h2:=wpOp_putIf qk (qf j oj qk qg qi qn) (fun cs b=>hsel i oi cs b hi) (fun cs b=>hsel j oj cs b qk) hQ hy h1;have qh:∀k ok,ops[k]?=some ok->k≠i->(qa.setIfInBounds j true).getD k true=false->
    (∀e∈ok.after,Region.binds md e=true->e.on≠i)->oi.apart ops ok=true:=fun k ok hk hki hun hno=>by
   refine qf k ok hk hki ?_ hno;by_cases qo:j=k
   ·subst qo;exact qi
   rw[getD_set_ne true qo]at hun;exact hun
  refine wpOp_mono (fun a' w' h3=>⟨fun e=>absurd e qj,fun _=>⟨(h3.2.2 qj).1,ih (qa.setIfInBounds j true) a' w' qh (ready_mono hr (Ne.symm qg)) h3.1 (h3.2.2 qj).1 ?_⟩⟩) h2;rw[Array.setIfInBounds_comm _ _ qg];exact(h3.2.2 qj).2
theorem wpAnyL_take{i:Nat}{oi:Oper}{v:Value}{fuel:Nat}{listed:Array Bool}{a:Act}{w}(hi:ops[i]?=some oi)(hL:awaitB md ops L i=true)(hiL:i≠L)
  (hs:Region.noSelect ops=true) (hf:Region.free md ops listed i=true) (hr:(Region.ready md ops listed).contains i=true)
  (hQ:∀c a w,Q (.panic c) (a.put oi.dst v) w->Q (.panic c) a w) (hy:YieldsIf P ops S oi v a) (hS:S w)
  (h:wpAnyL P md ops Q S L fuel (listed.setIfInBounds i true) (a.put oi.dst v) w):wpAnyL P md ops Q S L (fuel+1) listed a w:=
 jzij hL hi hiL (Region.noSelect_spec hs) hQ fuel listed a w (Region.free_spec hi hf) (by simpa using hr) hy hS h
theorem jzik{oi:Oper}{v:Value}{a:Act}(h:YieldsIf P ops (fun _=>True) oi v a):Yields P ops oi v a:=h.imp (fun⟨hw,hv⟩=>⟨hw,fun w=>hv w trivial⟩) id
theorem jzil{i:Nat}{oi:Oper}{v:Value}(hi:ops[i]?=some oi)(hiL:i≠L)(hsel:∀(j:Nat) (o:Oper) cs b,ops[j]?=some o->o.op≠.select cs b)
  (hQ:∀c a w,Q (.panic c) (a.put oi.dst v) w->Q (.panic c) a w):
  ∀(qe:Nat) (qa:Array Bool) (a:Act) (w:World),
   (∀j oj,ops[j]?=some oj->j≠i->qa.getD j true=false->(∀e∈oj.after,Region.binds md e=true->e.on≠i)->oi.apart ops oj=true)->
   i∈Region.ready md ops qa->YieldsIf P ops (fun _=>True) oi v a->S w->
   wpAnyL P md ops Q S L qe (qa.setIfInBounds i true) (a.put oi.dst v) w->wpAnyL P md ops Q S L (qe+1) qa a w:=by
 intro qe
 induction qe with
 |zero=>
  intro qa a w _ hr hy hS H;refine⟨fun h=>(by rw[h]at hr;cases hr),fun j hj=>?_⟩;by_cases qg:j=i
  ·subst qg;exact hy.wpOp hi trivial ⟨fun e=>absurd e hiL,fun _=>⟨hS,H⟩⟩
  have:=ready_mono hj qg;rw[H.1]at this;cases this
 |succ qe ih=>
  intro qa a w qh hr hy hS H;refine⟨fun h=>(by rw[h]at hr;cases hr),fun j hj=>?_⟩;by_cases qg:j=i
  ·subst qg;exact hy.wpOp hi trivial ⟨fun e=>absurd e hiL,fun _=>⟨hS,H⟩⟩
  have h1:=H.2 j (ready_mono hj qg);obtain⟨qi,oj,qj,qk⟩:=mem_ready.1 hj;have qm:∀e∈oj.after,Region.binds md e=true->e.on≠i:=fun e he hb heq=>by
   have h1:=qk e he hb;have h0:=(mem_ready.1 hr).1;rw[heq]at h1;rcases kQd i qa.size with h'|h'
   ·simp[h']at h0 h1;rw[h0]at h1;cases h1
   simp[kQn h']at h1
  have h2:=wpOp_putIf qj (qh j oj qj qg qi qm) (fun cs b=>hsel i oi cs b hi) (fun cs b=>hsel j oj cs b qj) hQ hy h1;have qf:∀k ok,ops[k]?=some ok->k≠i->(qa.setIfInBounds j true).getD k true=false->
    (∀e∈ok.after,Region.binds md e=true->e.on≠i)->oi.apart ops ok=true:=fun k ok hk hki hun hno=>by
   refine qh k ok hk hki ?_ hno;by_cases qn:j=k
   ·subst qn;exact qi
   rw[getD_set_ne true qn]at hun;exact hun
  refine wpOp_mono (fun a' w' h3=>⟨fun e=>?_,fun e=>⟨(h3.2.2 e).1,ih (qa.setIfInBounds j true) a' w' qf (ready_mono hr (Ne.symm qg)) h3.1 (h3.2.2 e).1 ?_⟩⟩) h2
  ·refine wpAny_first hi hsel hQ qe (qa.setIfInBounds j true) a' w' qf (ready_mono hr (Ne.symm qg)) (jzik h3.1) ?_
   rw[Array.setIfInBounds_comm _ _ qg];exact h3.2.1 e
  rw[Array.setIfInBounds_comm _ _ qg];exact(h3.2.2 e).2
theorem wpAnyL_pure{i:Nat}{oi:Oper}{v:Value}{fuel:Nat}{listed:Array Bool}{a:Act}{w}(hi:ops[i]?=some oi)(hiL:i≠L)
  (hs:Region.noSelect ops=true) (hf:Region.free md ops listed i=true) (hr:(Region.ready md ops listed).contains i=true)
  (hQ:∀c a w,Q (.panic c) (a.put oi.dst v) w->Q (.panic c) a w) (hy:YieldsIf P ops (fun _=>True) oi v a) (hS:S w)
  (h:wpAnyL P md ops Q S L fuel (listed.setIfInBounds i true) (a.put oi.dst v) w):wpAnyL P md ops Q S L (fuel+1) listed a w:=
 jzil hi hiL (Region.noSelect_spec hs) hQ fuel listed a w (Region.free_spec hi hf) (by simpa using hr) hy hS h
theorem jzau{i:Nat}{fuel:Nat}{listed:Array Bool}{a:Act}{w}(hr:Region.ready md ops listed=[i])
  (h:wpOp P ops Q i (fun a' w'=>(i=L->wpAny P md ops Q fuel (listed.setIfInBounds i true) a' w')/\(i≠L->S w'/\wpAnyL P md ops Q S L fuel (listed.setIfInBounds i true) a' w')) a w):wpAnyL P md ops Q S L (fuel+1) listed a w:=
 ⟨fun h0=>(by rw[hr]at h0;cases h0),fun j hj=>(by rw[hr]at hj;obtain rfl:j=i:=(by simpa using hj);exact h)⟩
theorem wpAnyL_call{i:Nat}{o:Oper}{fuel:Nat}{listed:Array Bool}{a:Act}{w}(hiL:i≠L)(hr:Region.ready md ops listed=[i])(ho:ops[i]?=some o)(hw:Region.wanted o (yielded ops a.tmps)=true)
  (h:∀K':Act->World->Prop,Hid (∀a w,S w->wpAnyL P md ops Q S L fuel (listed.setIfInBounds i true) a w->K' a w)->Oper.wp P o a w K' Q):wpAnyL P md ops Q S L (fuel+1) listed a w:=
 jzau hr (wpOp_step ho fun K' hK=>by rw[qE hw];exact h K' (Hx fun a w h1 h2=>hK a w ⟨fun e=>absurd e hiL,fun _=>⟨h1,h2⟩⟩))
theorem aY{o:Oper}{fuel:Nat}{listed:Array Bool}{a:Act}{w}(hr:Region.ready md ops listed=[L])(ho:ops[L]?=some o)(hw:Region.wanted o (yielded ops a.tmps)=true)
  (h:∀K':Act->World->Prop,Hid (∀a w,wpAny P md ops Q fuel (listed.setIfInBounds L true) a w->K' a w)->Oper.wp P o a w K' Q):wpAnyL P md ops Q S L (fuel+1) listed a w:=
 jzau hr (wpOp_step ho fun K' hK=>by rw[qE hw];exact h K' (Hx fun a w h2=>hK a w ⟨fun _=>h2,fun e=>absurd rfl e⟩))
theorem kX{i:Nat}{o:Oper}{fuel:Nat}{listed:Array Bool}{a:Act}{w}(hr:Region.ready md ops listed=[i])(ho:ops[i]?=some o)(hw:Region.wanted o (yielded ops a.tmps)=true)
  (h:∀K':Act->World->Prop,Hid (∀a w,wpAny P md ops Q fuel (listed.setIfInBounds i true) a w->K' a w)->Oper.wp P o a w K' Q):wpAny P md ops Q (fuel+1) listed a w:=
 ⟨fun h0=>(by rw[hr]at h0;cases h0),fun j hj=>(by
  rw[hr]at hj;obtain rfl:j=i:=(by simpa using hj);exact wpOp_step ho fun K' hK=>by rw[qE hw];exact h K' (Hx hK))⟩
theorem wp_region_last{id:Nat}{a:Act}{w:World}(S:World->Prop)(L:Nat)(hm:P.follows .mixedOrders=true)
  (h:wpAnyL P .any ops Q S L ops.size (Array.replicate ops.size false) a w.drew):(Code.region id ops true).wp P Q a w:=
 wp_region_any hm (jzat _ _ _ _ h)
theorem wP(i:Nat){oi:Oper}{v:Value}{fuel:Nat}{listed:Array Bool}{a:Act}{w:World}(hi:ops[i]?=some oi)(hS:S w)(h:wpAnyL P md ops Q S L fuel (listed.setIfInBounds i true) (a.put oi.dst v) w)(hv:∀ w,True->(execOp a.eval oi).run P w=.ok (.value v) w:=by intro w _;go_simp;try with_reducible rfl)(hiL:i≠L:=by decide)(hs:Region.noSelect ops=true:=by kernel_rfl)(hf:Region.free md ops listed i=true:=by kernel_rfl)(hr:(Region.ready md ops listed).contains i=true:=by kernel_rfl)(hQ:∀ c a w,Q (.panic c) (a.put oi.dst v) w->Q (.panic c) a w:=by exact fun _ _ _ h=>h)(hw:Region.wanted oi (yielded ops a.tmps)=true:=by rfl):wpAnyL P md ops Q S L (fuel+1) listed a w:=wpAnyL_pure hi hiL hs hf hr hQ (kZe ⟨hw,hv⟩) hS h
theorem wT(i:Nat){oi:Oper}{v:Value}{fuel:Nat}{listed:Array Bool}{a:Act}{w:World}(hi:ops[i]?=some oi)(hv:∀ w,S w->(execOp a.eval oi).run P w=.ok (.value v) w)(hS:S w)(h:wpAnyL P md ops Q S L fuel (listed.setIfInBounds i true) (a.put oi.dst v) w)(hL:awaitB md ops L i=true:=by kernel_rfl)(hiL:i≠L:=by decide)(hs:Region.noSelect ops=true:=by kernel_rfl)(hf:Region.free md ops listed i=true:=by kernel_rfl)(hr:(Region.ready md ops listed).contains i=true:=by kernel_rfl)(hQ:∀ c a w,Q (.panic c) (a.put oi.dst v) w->Q (.panic c) a w:=by exact fun _ _ _ h=>h)(hw:Region.wanted oi (yielded ops a.tmps)=true:=by rfl):wpAnyL P md ops Q S L (fuel+1) listed a w:=wpAnyL_take hi hL hiL hs hf hr hQ (kZe ⟨hw,hv⟩) hS h
theorem wC(i:Nat){o:Oper}{fuel:Nat}{listed:Array Bool}{a:Act}{w:World}(ho:ops[i]?=some o)(h:∀ K':Act->World->Prop,Hid (∀ a w,S w->wpAnyL P md ops Q S L fuel (listed.setIfInBounds i true) a w->K' a w)->Oper.wp P o a w K' Q)(hiL:i≠L:=by decide)(hr:Region.ready md ops listed=[i]:=by kernel_rfl)(hw:Region.wanted o (yielded ops a.tmps)=true:=by rfl):wpAnyL P md ops Q S L (fuel+1) listed a w:=wpAnyL_call hiL hr ho hw h
theorem wV(i:Nat){oi:Oper}{v:Value}{fuel:Nat}{listed:Array Bool}{a:Act}{w:World}(hi:ops[i]?=some oi)(hS:S w)(h:wpAnyL P md ops Q S L fuel (listed.setIfInBounds i true) (a.put oi.dst v) w)(hv:∀ w,S w->(execOp a.eval oi).run P w=.ok (.value v) w:=by intro w h;revert h;(try simp only [and_imp]);intros;go_simp;try with_reducible rfl)(hL:awaitB md ops L i=true:=by kernel_rfl)(hiL:i≠L:=by decide)(hs:Region.noSelect ops=true:=by kernel_rfl)(hf:Region.free md ops listed i=true:=by kernel_rfl)(hr:(Region.ready md ops listed).contains i=true:=by kernel_rfl)(hQ:∀ c a w,Q (.panic c) (a.put oi.dst v) w->Q (.panic c) a w:=by exact fun _ _ _ h=>h)(hw:Region.wanted oi (yielded ops a.tmps)=true:=by rfl):wpAnyL P md ops Q S L (fuel+1) listed a w:=wpAnyL_take hi hL hiL hs hf hr hQ (kZe ⟨hw,hv⟩) hS h
theorem wX{R:World->Prop}{id:Nat}{a:Act}{w:World}(_k:Hid (∀ x,R x->S x))(L:Nat)(h:wpAnyL P .any ops Q S L ops.size (Array.replicate ops.size false) a w.drew)(hm:P.follows .mixedOrders=true:=by kernel_rfl):(Code.region id ops true).wp P Q a w:=wp_region_last S L hm h
end Go.Proofs.YtfeeacaofjpkaaaGreatDoor
namespace Go.Proofs.YtfeeacaofjpkaaaGreatDoor
open Go.Proofs.Tryz
open Go.RowKit
theorem tJ(a b:Rat):a*b=mkQ (decide (a.num<0) !=decide (b.num<0)) (a.num.natAbs*b.num.natAbs) (a.den*b.den):=by
 have hs:(if(decide (a.num<0) !=decide (b.num<0))=true then-((a.num.natAbs*b.num.natAbs:Nat):Int)else((a.num.natAbs*b.num.natAbs:Nat):Int))=a.num*b.num:=(by (rw[kZk];rcases Int.lt_or_le a.num 0 with ha|ha <;> rcases Int.lt_or_le b.num 0 with hb|hb);{rw[show((a.num.natAbs:Nat):Int)= -a.num by omega,show((b.num.natAbs:Nat):Int)= -b.num by omega];simp only[ha,hb,decide_true,bne_self_eq_false,kZq,if_false,Int.neg_mul_neg]};{rw[show((a.num.natAbs:Nat):Int)= -a.num by omega,show((b.num.natAbs:Nat):Int)=b.num by omega];simp only[ha,show¬b.num<0 by omega,decide_true,decide_false,Bool.true_bne,Bool.not_false,if_true,Int.neg_mul,Int.neg_neg]};{rw[show((a.num.natAbs:Nat):Int)=a.num by omega,show((b.num.natAbs:Nat):Int)= -b.num by omega];simp only[hb,show¬a.num<0 by omega,decide_true,decide_false,Bool.false_bne,if_true,Int.mul_neg,Int.neg_neg]};rw[show((a.num.natAbs:Nat):Int)=a.num by omega,show((b.num.natAbs:Nat):Int)=b.num by omega];simp[show¬a.num<0 by omega,show¬b.num<0 by omega]);unfold mkQ;rw[hs];(conv=>lhs;rw[<-Rat.mkRat_self a, <-Rat.mkRat_self b]);rw[Rat.mkRat_mul_mkRat]
theorem fY(na nb:Bool)A1(n1 c1:Nat)A1'(n1' c1':Nat)A2(n2 c2:Nat)A2'(n2' c2':Nat)(a b:Rat)w
  (ha:aB w na A1 n1 c1 A1' n1' c1' a) (hb:aB w nb A2 n2 c2 A2' n2' c2' b) (l1:n1<=134217728) (l1':n1'<=134217728) (l2:n2<=134217728) (l2':n2'<=134217728):
  Calls prog 47 #[.agg #[.bool na,.s A1 n1 c1,.s A1' n1' c1'],.agg #[.bool nb,.s A2 n2 c2,.s A2' n2' c2']] w (cO w (a*b)):=by
 obtain⟨qa,qe,qf,e0⟩:=iD w #[.bool na,.s A1 n1 c1,.s A1' n1' c1'] 33 #[.bool nb,.s A2 n2 c2,.s A2' n2' c2'] 33 rV 33;have hq:=tJ a b;rw[<-ha.1, <-hb.1]at hq;have qB:=Hx (gI (N:=a.num.natAbs*b.num.natAbs) (D:=a.den*b.den) (kQx a.den_nz b.den_nz));have za:=ha.2.2.eq_zero;have zb:=hb.2.2.eq_zero;rw[lX]at za zb;have ZA:=Hx (za);have ZB:=Hx (zb);have HA:=Hx (ha);have HB:=Hx (hb);have HQ:=Hx (hq);clear ha hb hq za zb;obtain⟨⟨i0,i1,i2⟩,h0,h1,h2⟩:=qa.t3;obtain⟨⟨j0,j1,j2⟩,qw,qp,qt⟩:=qe.t3;go_enter func47,ntmps47;go_wp2_with fail;refine(jzz A1 A2 n1 c1 n2 c2 a.num.natAbs b.num.natAbs _ (HA.o.2.1.K e0) (HB.o.2.1.K e0) qO qO).mono ?_;rintro e w1 ⟨A,n,c,rfl,hN,qo⟩;have L1:=jz4 hN (HA.o.2.1) (HB.o.2.1);have xb:=(eR w1).alloc (.cells #[.s A n c] 31);have qg:=eN w1 31 #[.s A n c];have qa:=(qa.K qo).K xb;have qe:=(qe.K qo).K xb;have qf:=(qf.K qo).K xb;have E5:=Hx ((e0.tr qo).tr xb);have R5:=Hx (hN.K xb);have qI:w.heap.size+1+1<w1.heap.size:=(by have:=qo.size;simp at this;omega);clear qo hN xb e0 i0 i1 i2 h0 h1 h2 j0 j1 j2 qw qp qt;(go_upto_region 2 with fail);generalize hW1:w1.alloc (.cells #[.s A n c] 31)=W1 at*;clear hW1;generalize hgg:w1.heap.size=g at*;clear hgg;have qy:(a.den=1/\b.den=1)\/(a.den=1/\b.den≠1)\/a.den≠1:=qO;rcases qy with⟨hda,hdb⟩|⟨hda,hdb⟩|hda
 case' inl=>
  have za:((n1':Int)==0)=true:=(by rw[ZA.o.2 hda];rfl);have zb:((n2':Int)==0)=true:=(by rw[ZB.o.2 hdb];rfl);have qx:a*b=mkQ (na !=nb) (a.num.natAbs*b.num.natAbs) 1:=(by rw[HQ.o,hda,hdb]);have HF:=Hx (qx);obtain⟨⟨i0,i1,i2⟩,h0,h1,h2⟩:=qa.t3;clear qx hda hdb
  go_wp2_with fail
  refine(bO A1' n1' c1' _).mono ?_;rintro e w6 ⟨rfl,qh⟩;have qa:=qa.K qh;have qe:=qe.K qh;have qf:=qf.K qh;have qg:=qg.K qh;obtain⟨⟨j0,j1,j2⟩,qw,qp,qt⟩:=qe.t3;have E6:=Hx (E5.o.tr qh);have R6:=Hx (R5.o.K qh);clear qh
  go_wp2_with fail
  refine(bO A2' n2' c2' _).mono ?_;rintro e w7 ⟨rfl,qi⟩;have qa:=qa.K qi;have qe:=qe.K qi;have qf:=qf.K qi;have qg:=qg.K qi;clear i0 i1 i2 h0 h1 h2 j0 j1 j2 qw qp qt;obtain⟨⟨i0,i1,i2⟩,h0,h1,h2⟩:=qa.t3;obtain⟨⟨j0,j1,j2⟩,qw,qp,qt⟩:=qe.t3;have cg:=qg.one.1;have E7:=Hx (E6.o.tr qi);have R7:=Hx (R6.o.K qi);clear qi
  go_wp2_with fail
  refine(lY (na !=nb) A n c _ _ R7.o).mono ?_;rintro e w8 ⟨ng,B,m,d,B',m',d',rfl,qm,qk⟩;have qf:=qf.K qk;obtain⟨⟨k0,k1,k2⟩,f0,f1,f2⟩:=qf.t3;have E8:=Hx (E7.o.tr qk);have R8:=Hx (qm);clear qk qm;go_wp2;exact bodyPost_ret (v:=.agg #[.bool ng,.s B m d,.s B' m' d']) (by simp[results,results47,go_sem,(((qf.sT 0 _).sT 1 _).sT 2 _).cell]) rfl (by rw[HF.o];exact fI qf qD R8.o E8.o qO)
 case' inr.inl=>
  have za:((n1':Int)==0)=true:=(by rw[ZA.o.2 hda];rfl);have zb:((n2':Int)==0)=false:=yK.2 (fun h=>hdb (ZB.o.1 qO));obtain⟨⟨i0,i1,i2⟩,h0,h1,h2⟩:=qa.t3;clear hda hdb
  go_wp2_with fail
  refine(bO A1' n1' c1' _).mono ?_;rintro e w6 ⟨rfl,qh⟩;have qa:=qa.K qh;have qe:=qe.K qh;have qf:=qf.K qh;have qg:=qg.K qh;obtain⟨⟨j0,j1,j2⟩,qw,qp,qt⟩:=qe.t3;have E6:=Hx (E5.o.tr qh);have R6:=Hx (R5.o.K qh);clear qh
  go_wp2_with fail
  refine(bO A2' n2' c2' _).mono ?_;rintro e wz ⟨rfl,qj⟩;have qa:=qa.K qj;have qe:=qe.K qj;have qf:=qf.K qj;have qg:=qg.K qj;have EZ:=Hx (E6.o.tr qj);have RZ:=Hx (R6.o.K qj);clear qj i0 i1 i2 h0 h1 h2 j0 j1 j2 qw qp qt
 case' inr.inr=>
  have za:((n1':Int)==0)=false:=yK.2 (fun h=>hda (ZA.o.1 qO));obtain⟨⟨i0,i1,i2⟩,h0,h1,h2⟩:=qa.t3;clear hda
  go_wp2_with fail
  refine(bO A1' n1' c1' _).mono ?_;rintro e wz ⟨rfl,qj⟩;have qa:=qa.K qj;have qe:=qe.K qj;have qf:=qf.K qj;have qg:=qg.K qj;have EZ:=Hx (E5.o.tr qj);have RZ:=Hx (R5.o.K qj);clear qj i0 i1 i2 h0 h1 h2
 all_goals
  have qa:Blk wz.drew _ _ _:=qa;have qe:Blk wz.drew _ _ _:=qe;have qf:Blk wz.drew _ _ _:=qf;have qg:Blk wz.drew _ _ _:=qg;have EZ:=Hx (EZ.o.drewN 1);have RZ:=Hx (RZ.o.K ((eR wz).drewN 1));obtain⟨⟨i0,i1,i2⟩,_⟩:=qa.t3;obtain⟨⟨j0,j1,j2⟩,_⟩:=qe.t3;obtain⟨cg,_⟩:=qg.one;go_wp2
  go_region_held3 (fun w'=>w'.cell? (aD w.heap.size 0)=some (.bool na)/\w'.cell? (aD w.heap.size 1)=some (.s A1 n1 c1)/\w'.cell? (aD w.heap.size 2)=some (.s A1' n1' c1')/\
    w'.cell? (aD (w.heap.size+1) 0)=some (.bool nb)/\w'.cell? (aD (w.heap.size+1) 2)=some (.s A2' n2' c2')/\w'.cell? (aD g 0)=some (.s A n c)) (first|exact⟨i0,i1,i2,j0,j2,cg⟩|exact⟨(fa _ _ _).cell 0,(fa _ _ _).cell 1,(fa _ _ _).cell 2,(fb _ _ _).cell 0,(fb _ _ _).cell 2,(fg _ _ _).cell 0⟩)
   (first
    |(go_at_call 60
      refine(jz3 na A1 n1 c1 A1' n1' c1' a _ (HA.o.K EZ.o)).mono ?_;rintro e w7 ⟨A7,n7,c7,rfl,qz,qi⟩;have qa:=qa.K qi;have qe:=qe.K qi;have qf:=qf.K qi;have qg:=qg.K qi;have E7:=Hx (EZ.o.tr qi);have qC:=Hx (RZ.o.K qi);have R7:=Hx qz;have L7:=jz6 qz HA.o.2.2;obtain⟨⟨i0,i1,i2⟩,_⟩:=qa.t3;obtain⟨⟨j0,j1,j2⟩,_⟩:=qe.t3;obtain⟨cg,_⟩:=qg.one;clear qi qz)
    |(go_at_call 57
      refine(kS A7 A2' n7 c7 n2' c2' a.den (dk b) _ R7.o (HB.o.2.2.K E7.o) qO qO).mono ?_;rintro e w8 ⟨A8,n8,c8,rfl,qm,qk⟩;have qa:=qa.K qk;have qe:=qe.K qk;have qf:=qf.K qk;have qg:=qg.K qk;have E8:=Hx (E7.o.tr qk);have qH:=Hx (qC.o.K qk);have L8:=kE qm R7.o (HB.o.2.2.K E7.o);have qm:aE w8 A8 n8 c8 (a.den*b.den):=(by rw[kD]at qm;exact qm);have R8:=Hx qm;obtain⟨⟨i0,i1,i2⟩,_⟩:=qa.t3;obtain⟨⟨j0,j1,j2⟩,_⟩:=qe.t3;obtain⟨cg,_⟩:=qg.one;clear qk qm)
    |(go_at_call 59
      refine(qB.o (na !=nb) A A8 n c n8 c8 _ qH.o R8.o qO qO).mono ?_;rintro e w9 ⟨ng,B,m,d,B',m',d',rfl,qA,qn⟩;have qa:=qa.K qn;have qe:=qe.K qn;have qf:=qf.K qn;have qg:=qg.K qn;have E9:=Hx (E8.o.tr qn);have R9:=Hx qA;obtain⟨⟨i0,i1,i2⟩,_⟩:=qa.t3;obtain⟨⟨j0,j1,j2⟩,_⟩:=qe.t3;obtain⟨⟨k0,k1,k2⟩,f0,f1,f2⟩:=qf.t3;obtain⟨cg,_⟩:=qg.one;have fa:=fun u0 u1 u2=>((qa.far (p:=(aD (w.heap.size+1+1) 0)) (by simp;omega) u0).far (p:=(aD (w.heap.size+1+1) 1)) (by simp;omega) u1).far (p:=(aD (w.heap.size+1+1) 2)) (by simp;omega) u2;have fb:=fun u0 u1 u2=>((qe.far (p:=(aD (w.heap.size+1+1) 0)) qS u0).far (p:=(aD (w.heap.size+1+1) 1)) qS u1).far (p:=(aD (w.heap.size+1+1) 2)) qS u2;have fg:=fun u0 u1 u2=>((qg.far (p:=(aD (w.heap.size+1+1) 0)) (by simp;omega) u0).far (p:=(aD (w.heap.size+1+1) 1)) (by simp;omega) u1).far (p:=(aD (w.heap.size+1+1) 2)) (by simp;omega) u2;clear qn qA))
  go_wp2;exact bodyPost_ret (v:=.agg #[.bool ng,.s B m d,.s B' m' d']) (by simp[results,results47,go_sem,(((qf.sT 0 _).sT 1 _).sT 2 _).cell]) rfl (by rw[HQ.o];exact fI qf qD R9.o E9.o qO)
def G6:Nat:=1000000
section
variable {P:Program} (w:World)
end
theorem Rd.ints{w}{A}{ds:LN}(h:Rd w A (ints ds)){k:Nat}(hk:k<ds.length):
  ∃b o:Nat,A=some (aD b o)/\b<w.heap.size/\∀i,i<ds.length->w.cell? (aD b (o+i))=some (vI ((ds[i]?.getD 0:Nat):Int)):=by
 obtain⟨b,o,e,qa,hc⟩:=h.at_ (i:=k) (by rw[cW];exact hk);refine⟨b,o,e,qa,fun i hi=>(hc i (by rw[cW];exact hi)).trans ?_⟩;simp[Go.Proofs.YtfeeacaofjpkaaaGreatDoor.ints,hi]
def OI(w:World)(B:Nat)(v:Value)(l:LN):Prop:=w.ownsRow B 3 1 v l.length (ints l)
theorem OI.nil w(B:Nat):OI w B zN []:=World.ownsRow_nil _ _ _ _
theorem OI.K{w w'}{B:Nat}{v:Value}{l:LN}(h:OI w B v l)(hx:Ext w w'):OI w' B v l:=
 World.ownsRow.kept (row:=none) h ⟨hx.os,hx.tape,hx.output,hx.size,fun k hk _=>hx.block k hk⟩ (by
  by_cases e:v.ownBlock=none
  ·exact .inl e
  ·exact .inr e)
theorem OI.rdT{w}{B:Nat}{v:Value}{l:LN}(h:OI w B v l):∃(A:OA) (c:Nat),v=.s A l.length c/\l.length<=c/\RdT w 3 A (ints l):=iE h rfl
section
variable {w w':World} {g n:Nat} {f f':Nat->Int}
end
end Go.Proofs.YtfeeacaofjpkaaaGreatDoor
namespace Go.Proofs.YtfeeacaofjpkaaaGreatDoor
open Go.Proofs.Tryz
open Go.RowKit Go.Sort
end Go.Proofs.YtfeeacaofjpkaaaGreatDoor
