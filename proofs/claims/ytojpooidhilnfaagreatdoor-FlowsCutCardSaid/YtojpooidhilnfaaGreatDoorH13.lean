/- Part 13 of 26 of what the Flows claims share (the white space is struck, the texts are joined). -/
import Derived.OrdersHeld
import Derived.Below
import Derived.Test.YtojpooidhilnfaaGreatDoorH12
set_option linter.unusedVariables false
set_option linter.unusedSimpArgs false
set_option maxRecDepth 100000
set_option maxHeartbeats 8000000
namespace Go.Proofs.YtojpooidhilnfaaGreatDoor
open Go.Proofs.Tryz
namespace Sx
def prTo(T:Tb)(J:Nat):LQ:=(List.range T.rows.length).map fun i=>sm J fun j=>if atN T.fre j=i then at_ T.goal.co j else 0
def prT(T:Tb):LQ:=prTo T T.fre.length
def ptTo(T:Tb)(I:Nat):LQ:=(List.range T.cols).map fun k=>sm I fun l=>if atN T.bas l=T.rows.length+k then(T.row l).re else 0
def ptT(T:Tb):LQ:=ptTo T T.rows.length
theorem prTo_len(T:Tb)(J:Nat):(prTo T J).length=T.rows.length:=by unfold prTo;simp
theorem ptTo_len(T:Tb)(I:Nat):(ptTo T I).length=T.cols:=by unfold ptTo;simp
theorem fZ(n:Nat)(f:Nat->Rat)(k:Nat):((List.range n).map f)[k]?=if k<n then some (f k)else none:=by
 by_cases h:k<n;{rw[if_pos h,yW,xJ h];rfl};rw[if_neg h];exact yI (by simp;omega)
theorem prTo_zero(T:Tb):prTo T 0=List.replicate T.rows.length 0:=by
 apply uK;intro k;unfold prTo;rw[fZ,xB];rfl
theorem ptTo_zero(T:Tb):ptTo T 0=List.replicate T.cols 0:=by
 apply uK;intro k;unfold ptTo;rw[fZ,xB];rfl
theorem prTo_skip(T:Tb){J:Nat}(h:T.rows.length<=atN T.fre J):prTo T (J+1)=prTo T J:=by
 apply uK;intro k;unfold prTo;rw[fZ,fZ];by_cases hk:k<T.rows.length;{rw[if_pos hk,if_pos hk];congr 1;show sm J _+(if atN T.fre J=k then _ else 0)=_;rw[if_neg (by omega)];grind};rw[if_neg hk,if_neg hk]
theorem prTo_put(T:Tb){J:Nat}(_h:atN T.fre J<T.rows.length)(hi:∀j,j<J->atN T.fre j≠atN T.fre J):prTo T (J+1)=(prTo T J).set (atN T.fre J) (at_ T.goal.co J):=by
 apply uK;intro k;by_cases hk:k<T.rows.length;{by_cases e:k=atN T.fre J;{subst e;rw[yM (by rw[prTo_len];exact hk)];unfold prTo;rw[fZ,if_pos hk];congr 1;show sm J _+(if atN T.fre J=atN T.fre J then _ else 0)=_;rw[if_pos rfl,sm_zero J fun j hj=>if_neg (hi j hj)];grind};rw[vN (fun e2=>e e2.symm)];unfold prTo;rw[fZ,fZ,if_pos hk,if_pos hk];congr 1;show sm J _+(if atN T.fre J=k then _ else 0)=_;rw[if_neg (fun e2=>e e2.symm)];grind};rw[yI (by rw[prTo_len];omega),yI (by rw[yV,prTo_len];omega)]
theorem ptTo_skip(T:Tb){I:Nat}(h:atN T.bas I<T.rows.length):ptTo T (I+1)=ptTo T I:=by
 apply uK;intro k;unfold ptTo;rw[fZ,fZ];by_cases hk:k<T.cols;{rw[if_pos hk,if_pos hk];congr 1;show sm I _+(if atN T.bas I=T.rows.length+k then _ else 0)=_;rw[if_neg (by omega)];grind};rw[if_neg hk,if_neg hk]
theorem ptTo_put(T:Tb){I:Nat}(h:T.rows.length<=atN T.bas I)(hi:∀j,j<I->atN T.bas j≠atN T.bas I):ptTo T (I+1)=(ptTo T I).set (atN T.bas I-T.rows.length) (T.row I).re:=by
 apply uK;intro k;by_cases hk:k<T.cols;{by_cases e:k=atN T.bas I-T.rows.length;{subst e;rw[yM (by rw[ptTo_len];exact hk)];unfold ptTo;rw[fZ,if_pos hk];congr 1;show sm I _+(if atN T.bas I=_ then _ else 0)=_;rw[if_pos (by omega),sm_zero I fun j hj=>if_neg (fun e2=>hi j hj (by omega))];grind};rw[vN (fun e2=>e e2.symm)];unfold ptTo;rw[fZ,fZ,if_pos hk,if_pos hk];congr 1;show sm I _+(if atN T.bas I=_ then _ else 0)=_;rw[if_neg (by omega)];grind};rw[yI (by rw[ptTo_len];omega),yI (by rw[yV,ptTo_len];omega)]
theorem jzda{T:Tb}{m nv:Nat}{M:Nat->Nat->Rat}(h:Rep T m nv M){i:Nat}(hi:i<m):at_ (prT T) i=M m i:=by
 (unfold prT prTo;rw[h.rl,rR m _ hi];have hf:=h.fl;rcases h.all (show i<nv by omega)with⟨l,hl,e⟩|⟨j,hj,e⟩);{rw[sm_zero _ fun k hk=>if_neg (fun e2=>h.fb k l hk hl (by rw[e2,e]))];have:=h.di.unit l hl m (yX m);rw[e,if_neg (by omega)]at this;exact this.symm};rw[sm_one _ hj fun k hk hkj=>if_neg (fun e2=>hkj (h.fi k j hk hj (by rw[e2,e]))),if_pos e,h.go j hj,e]
theorem wJ{T:Tb}{m nv:Nat}{M:Nat->Nat->Rat}(h:Rep T m nv M){k:Nat}(hk:k<T.cols):at_ (ptT T) k=xOf T m nv M (m+k):=by
 unfold ptT ptTo xOf;rw[rR _ _ hk,h.rl];exact sm_congr m fun l hl=>by rw[h.re l hl]
section
variable {L2 D:Nat} {am cap:Nat->Rat} {P:List (Nat×List Nat)} {T:Tb}
def ptZ(T:Tb)(P:List (Nat×LN)):List ((Nat×LN)×Rat):=zipF P ((ptT T).drop 1)
theorem FLP.cols(h:FLP L2 D am cap T P):T.cols=P.length+1/\T.rows.length=L2+D:=by
 obtain⟨M,h⟩:=h;have h1:=h.cols;have h2:=h.rep.fl;exact⟨by omega,h.rep.rl⟩
theorem at_drop(l:LQ)(n k:Nat):at_ (l.drop n) k=at_ l (n+k):=by unfold at_;rw[List.getElem?_drop]
theorem FLP.drop_len(h:FLP L2 D am cap T P):((ptT T).drop 1).length=P.length:=by
 rw[List.length_drop];unfold ptT;rw[ptTo_len,h.cols.1];omega
theorem zipF_flow:∀(P:List (Nat×LN)) (fl:LQ),fl.length=P.length->∀(k:Nat) {p:Nat×LN} {f:Rat},(zipF P fl)[k]?=some (p,f)->at_ fl k=f
 | [],_,_,_,_,_,h=>by cases h
 |p::P,q::fl,hl,k,p',f,h=>by
  have hl:fl.length+1=P.length+1:=hl;cases k with
  |zero=>
   have h:some (p,q)=some (p',f):=h;injection h with h
   injection h with _ h
  |succ k=>exact zipF_flow P fl (by omega) k h
structure Best(L2 D:Nat)(am cap:Nat->Rat)(T:Tb)(P:List (Nat×LN)):Prop where
 adm:Adm L2 D am cap T.goal.re (planZ D am T.goal.re (ptZ T P))
 pos:∀i,i<L2+D->0<=at_ (prT T) i
 worth:(sm L2 fun a=>at_ (prT T) a*cap a)=T.goal.re
 need:1<=sm D fun d=>am d*at_ (prT T) (L2+d)
 path:∀p∈P,at_ (prT T) (L2+p.1)<=sm L2 fun a=>if a∈p.2 then at_ (prT T) a else 0
 vnn:0<=T.goal.re
 fnn:∀z∈ptZ T P,0<=z.2
theorem FLP.best(h:FLP L2 D am cap T P)(he:entT T=none)(hD:0<D)(ham:∀d,d<D->0<am d)(hd:P.Nodup)(hP:∀p∈P,p.1<D):Best L2 D am cap T P:=by
 have qa:=h.drop_len;have qf:=h.cols.1;obtain⟨M,h⟩:=h;have hg:∀v,v<L2+D+1+P.length->0<=M (L2+D) v:=fun v hv=>(by (rcases h.rep.all hv with⟨l,hl,e⟩|⟨j,hj,e⟩);{have:=h.rep.di.unit l hl (L2+D) (yX _);rw[e,if_neg (by omega)]at this;rw[this];exact vC};have:=jzc0 T _ he j (by rw[h.rep.gl];exact hj);rw[h.rep.go j hj,e]at this;exact this);obtain⟨o1,o2,o3⟩:=jzle h hg;obtain⟨p1,p2,p3,p4⟩:=jzlf h;have hp:∀i,i<L2+D->at_ (prT T) i=M (L2+D) i:=fun i hi=>jzda h.rep hi;have hv:T.goal.re=M (L2+D) (L2+D+1+P.length):=h.rep.gr;have hx:∀k,k<P.length->at_ ((ptT T).drop 1) k=xOf T (L2+D) (L2+D+1+P.length) M (L2+D+1+k):=fun k hk=>(by rw[at_drop,wJ h.rep (by omega), <-kZw]);have qe:0<=T.goal.re:=(by rw[hv,p2];exact p1 _);have hz:∀z∈ptZ T P,0<=z.2:=fun z hz=>(by obtain⟨_,h2⟩:=zipF_mem P _ hz;obtain⟨k,hk,e⟩:=List.getElem_of_mem h2;have:at_ ((ptT T).drop 1) k=z.2:=(by unfold at_;rw[yG hk,e];rfl);rw[<-this,hx k (by omega)];exact p1 _);refine⟨jzlg hz (by unfold ptZ;rw[zipF_keys P _ qa];exact hd) (fun d hd=>vA qe (vB (ham d hd))) (fun d hd=>?_) (fun a ha=>?_),fun i hi=>by rw[hp i hi];exact hg i (by omega),?_,?_,fun p hp2=>?_,qe,hz⟩;{unfold ptZ;rw[wH (fun p f=>if p.1=d then f else 0) (0,[]) P _ qa,hv];refine kQs (p4 d hd) ?_;rw[sm_congr P.length fun k hk=>by rw[<-hx k hk]];exact vC};{unfold ptZ;rw[wH (fun p f=>if a∈p.2 then f else 0) (0,[]) P _ qa];refine kQs ?_ (p3 a ha);rw[sm_congr P.length fun k hk=>by rw[hx k hk]];exact vC};{rw[hv, <-o1];exact sm_congr L2 fun a ha=>by rw[hp a (by omega)]};{rw[sm_congr D fun d hd=>show am d*at_ (prT T) (L2+d)=M (L2+D) (L2+d)*am d by rw[hp _ (by omega)];grind];exact o2};(obtain⟨k,hk,e⟩:=List.getElem_of_mem hp2;have h1:=o3 k hk;rw[yG hk,e]at h1;have h1:=h1 (hP p hp2);rw[hp _ (by have:=hP p hp2;omega)];refine kQs h1 (sm_le L2 fun a ha=>?_);show(if a∈p.2 then M (L2+D) a else 0)<=if a∈p.2 then at_ (prT T) a else 0);rw[hp a (by omega)];exact vC
theorem nodup_le{α:Type}[DecidableEq α]:∀{l k:List α},l.Nodup->(∀a∈l,a∈k)->l.length<=k.length
 | [],_,_,_=>yZ _
 |a::l,k,h,hs=>by
  have h1:=kZo.1 h;have h2:=nodup_le (l:=l) (k:=k.erase a) h1.2 fun b hb=>by
   have qa:b≠a:=fun e=>h1.1 (e▸hb);exact(List.mem_erase_of_ne qa).2 (hs b (by simp[hb]))
  rw[List.length_erase_of_mem (hs a (by simp))]at h2;have:=List.length_pos_of_mem (hs a (by simp));show l.length+1<=k.length;omega
theorem planZ_nn{D:Nat}{am:Nat->Rat}{v:Rat}{Z:List ((Nat×LN)×Rat)}{z:(Nat×LN)×Rat}(h:z∈planZ D am v Z):0<z.2/\∃f,(z.1,f)∈Z/\z.2<=f:=by
 obtain⟨d,_,h2⟩:=kZx.1 h;exact⟨(cut_mem h2).2.1,(cut_mem h2).2.2⟩
theorem FLP.few(h:FLP L2 D am cap T P)(hd:P.Nodup):(planZ D am T.goal.re (ptZ T P)).length<=L2+D:=by
 have qa:=h.drop_len;have qf:=h.cols.1;obtain⟨M,h⟩:=h;have h1:=nodup_le (l:=(planZ D am T.goal.re (ptZ T P)).map (·.1)) (k:=(List.range (L2+D)).map fun l=>P[atN T.bas l-(L2+D+1)]?.getD (0,[])) (jzc9 (by unfold ptZ;rw[zipF_keys P _ qa];exact hd)) fun p hp=>(by obtain⟨z,hz,rfl⟩:=kQl.1 hp;obtain⟨a1,f,a2,a3⟩:=planZ_nn hz;have hf:0<f:=(by grind);obtain⟨k,hk,e⟩:=List.getElem_of_mem a2;have qe:k<P.length:=(by have:(ptZ T P).length=P.length:=(by rw[<-xV (f:=(·.1))];unfold ptZ;rw[zipF_keys P _ qa]);omega);have e1:P[k]=z.1:=(by have h2:((ptZ T P).map (·.1))[k]?=some z.1:=(by rw[yW,yG hk,e];rfl);unfold ptZ at h2;rw[zipF_keys P _ qa,yG qe]at h2;exact Option.some.inj h2);have e2:at_ ((ptT T).drop 1) k=f:=zipF_flow P _ qa k (show(ptZ T P)[k]?=some (z.1,f) by rw[yG hk,e]);rw[at_drop,wJ h.rep (by omega)]at e2;have e3:xOf T (L2+D) (L2+D+1+P.length) M (L2+D+(1+k))≠0:=fun e4=>(by rw[e4]at e2;grind);refine kQl.2 ?_;refine Classical.byContradiction fun hn=>e3 (jzc3 fun l hl e4=>hn ⟨l,vX.2 hl,?_⟩);rw[e4,show L2+D+(1+k)-(L2+D+1)=k by omega,yG qe];exact e1);rw[xV,xV,kZm]at h1;exact h1
def Qn(Dn:Int)(N:Nat)(q:Rat):Prop:=isI (q*(Dn:Rat))/\SzZ q N
theorem Qn.zero(Dn:Int){N:Nat}(hN:1<=N):Qn Dn N 0:=⟨by rw[Rat.zero_mul];exact isI.zero,by show 0<=N/\1<=N;omega⟩
theorem FLP.sizes(h:FLP L2 D am cap T P)(C:Nat)(hC:L2+D<=C)(hC1:1<=C)(hca:∀a,a<L2->isI (cap a)/\0<=cap a)(ham:∀d,d<D->isI (am d)/\0<=am d)(hsc:sm L2 cap<=((C:Int):Rat))(hsa:sm D am<=((C:Int):Rat)):
  ∃Dn:Int,Dn≠0/\Dn.natAbs<=C^(L2+D)/\
   (∀i,i<T.rows.length->(∀q∈(T.row i).co,Qn Dn ((L2+D+1)*C^(L2+D)) q)/\Qn Dn ((L2+D+1)*C^(L2+D)) (T.row i).re)/\
   (∀q∈T.goal.co,Qn Dn ((L2+D+1)*C^(L2+D)) q)/\Qn Dn ((L2+D+1)*C^(L2+D)) T.goal.re/\
   (∀q∈prT T,Qn Dn ((L2+D+1)*C^(L2+D)) q)/\∀q∈ptT T,Qn Dn ((L2+D+1)*C^(L2+D)) q:=by
 have qf:=h.cols.1;obtain⟨M,h,Dn,h0,h1,h2⟩:=h.size C hC hC1 hca ham hsc hsa;have qa:∀{l:LQ} {q:Rat},q∈l->∃k,k<l.length/\at_ l k=q:=fun {l q} hq=>(by obtain⟨k,hk,e⟩:=List.getElem_of_mem hq;exact⟨k,hk,by unfold at_;rw[yG hk,e];rfl⟩);have qg:=h.rep.rl;have hN:1<=(L2+D+1)*C^(L2+D):=Nat.mul_pos (by omega) (kQy (by omega));refine⟨Dn,h0,h1,fun i hi=>⟨fun q hq=>?_,?_⟩,fun q hq=>?_,?_,fun q hq=>?_,fun q hq=>?_⟩;{obtain⟨k,hk,e⟩:=qa hq;rw[h.rep.cl i (by omega)]at hk;rw[<-e,h.rep.co i k (by omega) hk];exact h2 _ _ (by omega) (kQe (h.rep.fv k hk))};{rw[h.rep.re i (by omega)];exact h2 _ _ (by omega) (yX _)};{obtain⟨k,hk,e⟩:=qa hq;rw[h.rep.gl]at hk;rw[<-e,h.rep.go k hk];exact h2 _ _ (yX _) (kQe (h.rep.fv k hk))};{rw[h.rep.gr];exact h2 _ _ (yX _) (yX _)};{obtain⟨k,hk,e⟩:=qa hq;have qe:k<L2+D:=(by unfold prT at hk;rw[prTo_len]at hk;omega);rw[<-e,jzda h.rep qe];exact h2 _ _ (yX _) (by omega)};obtain⟨k,hk,e⟩:=qa hq;have qe:k<T.cols:=(by unfold ptT at hk;rw[ptTo_len]at hk;exact hk);rw[<-e,wJ h.rep qe];by_cases hb:∃l,l<L2+D/\atN T.bas l=L2+D+k;{obtain⟨l,hl,e⟩:=hb;rw[<-e,h.x_bas hl];exact h2 _ _ (by omega) (yX _)};rw[jzc3 fun l hl e=>hb ⟨l,hl,e⟩];exact Qn.zero Dn hN
theorem FLP.shape(h:FLP L2 D am cap T P):(∀i,i<T.rows.length->(T.row i).co.length=T.fre.length)/\T.goal.co.length=T.fre.length/\T.fre.length=P.length+1/\T.bas.length=L2+D/\
  (∀j k,j<T.fre.length->k<T.fre.length->atN T.fre j=atN T.fre k->j=k)/\(∀j,j<T.fre.length->atN T.fre j<L2+D+1+P.length)/\
  (∀j k,j<T.bas.length->k<T.bas.length->atN T.bas j=atN T.bas k->j=k)/\∀j,j<T.bas.length->atN T.bas j<L2+D+1+P.length:=by
 have hc:=h.cols;obtain⟨M,h⟩:=h;have hb:=h.rep.bl;exact⟨fun i hi=>h.rep.cl i (by omega),h.rep.gl,by have:=h.cols;omega,hb,h.rep.fi,h.rep.fv,fun j k hj hk e=>h.rep.di.inj (by omega) (by omega) e,fun j hj=>h.rep.di.lt j (by omega)⟩
end
end Sx
namespace Sx
def eX(L:Nat):Nat->List (LN)
 |0=>[[]]
 |n+1=>(List.range L).flatMap fun a=>(eX L n).map (a:: ·)
theorem jzdb(L:Nat):∀{l:LN},(∀a∈l,a<L)->l∈eX L l.length
 | [],_=>by simp[eX]
 |a::l,h=>kZx.2 ⟨a,vX.2 (h a (by simp)),kQl.2 ⟨l,jzdb L fun b hb=>h b (by simp[hb]),rfl⟩⟩
theorem rV{α β:Type}(f:α->List β)(c:Nat):∀{l:List α},(∀a∈l,(f a).length<=c)->(l.flatMap f).length<=l.length*c
 | [],_=>yZ _
 |a::l,h=>by
  rw[xU,yQ,kQo,Nat.succ_mul];have h1:=h a (by simp);have h2:=rV f c (l:=l) fun b hb=>h b (by simp[hb]);omega
theorem jzdc(L:Nat):∀n,(eX L n).length<=L^n
 |0=>yX _
 |n+1=>by
  have:=rV (fun a=>(eX L n).map (a:: ·)) (L^n) (l:=List.range L) fun a _=>(by rw[xV];exact jzdc L n);rw[kZm]at this;rw[vD,vE];exact this
def cands(D L n:Nat):List (Nat×LN):=(List.range D).flatMap fun d=>(List.range (n+1)).flatMap fun k=>(eX L k).map fun l=>(d,l)
theorem jzlh{D L n:Nat}{p:Nat×LN}(h1:p.1<D)(h2:∀a∈p.2,a<L)(h3:p.2.length<=n):p∈cands D L n:=
 kZx.2 ⟨p.1,vX.2 h1,kZx.2 ⟨p.2.length,vX.2 (by omega),kQl.2 ⟨p.2,jzdb L h2,rfl⟩⟩⟩
theorem cands_len(D L n:Nat)(hL:1<=L):(cands D L n).length<=D*((n+1)*L^n):=by
 have:=rV (fun d=>(List.range (n+1)).flatMap fun k=>(eX L k).map fun l=>(d,l)) ((n+1)*L^n) (l:=List.range D) fun d _=>(by have:=rV (fun k=>(eX L k).map fun l=>(d,l)) (L^n) (l:=List.range (n+1)) fun k hk=>(by rw[xV];exact yY (jzdc L k) (kQk hL (by have:=vX.1 hk;omega)));rw[kZm]at this;exact this);rw[kZm]at this;exact this
theorem paths_few{D L n:Nat}{P:List (Nat×LN)}(hd:P.Nodup)(h:∀p∈P,p.1<D/\(∀a∈p.2,a<L)/\p.2.length<=n):P.length<=(cands D L n).length:=
 nodup_le hd fun p hp=>jzlh (h p hp).1 (h p hp).2.1 (h p hp).2.2
end Sx
open Go.RowKit
theorem wK{t}{down:List Bool}{ps:LQ}{s d:Nat}(hv:aI t=true)(hp:dO ps)(hs:s<t.nodes.toNat):match dL t down ps s d with
  |none=>∀p,¬FW t down d s p d
  |some p=>FW t down d s p d/\∀q,FW t down d s q d->leL ps p q:=by
 unfold dL;exact uN hv hp (t.nodes.toNat+1) (cN t.nodes.toNat s) (jzcb hs) (by have:=rD (cN t.nodes.toNat s);have h2:(cN t.nodes.toNat s).length=t.nodes.toNat:=(by unfold cN;simp);omega)
theorem jzdd{t}{down:List Bool}{ps:LQ}{s d:Nat}{x:LN}(hv:aI t=true)(hp:dO ps)(h1:FW t down d s x d)(h2:∀q,FW t down d s q d->leL ps x q):PO t s true x d:=by
 refine FW.po hv x true h1 (.inl rfl) (fun q z w e hq hz hw hwd=>?_);subst hwd;have h3:=h2 q hw;have h4:=leL.ext hp q z;rw[<-e]at h4;have h5:=h3.anti h4;rw[e]at h5;have:z=[]:=(by simpa using h5);exact hz this
def nds(t:Tp):Nat->LN->LN
 |u,[]=>[u]
 |u,a::p=>u::nds t (aH t a).toNat p
theorem lX t:∀(x:LN) (u:Nat),nds t u x=u::x.map fun a=>(aH t a).toNat
 | [],_=>rfl
 |a::x,u=>by
  show u::nds t _ x=_;rw[lX t x];rfl
theorem jzli t(u:Nat)(x:LN):(nds t u x).length=x.length+1:=by rw[lX];simp
theorem jzde{t}{down:List Bool}{d:Nat}:∀(x:LN) {u v s:Nat},FW t down d u x v->s∈nds t u x->∃y z,x=y++z/\FW t down d u y s/\FW t down d s z v
 | [],u,v,s,h,hs=>by
   have e:s=u:=xD.1 hs;subst e;exact⟨[],[],rfl,rfl,h⟩
 |a::x,u,v,s,h,hs=>by
  rcases xZ.1 hs with e|e
  ·subst e;exact⟨[],a::x,rfl,rfl,h⟩
  ·obtain⟨y,z,e1,e2,e3⟩:=jzde x h.2.2 e
   exact⟨a::y,z,by rw[e1];rfl,⟨h.1,h.2.1,e2⟩,e3⟩
theorem jzdf{t}{down:List Bool}{d:Nat}:∀(x:LN) {u v:Nat},FW t down d u x v->¬(nds t u x).Nodup->∃p y z m,x=p++y++z/\y≠ []/\FW t down d u p m/\FW t down d m y m/\FW t down d m z v
 | [],u,v,_,hn=>by
   exact absurd (by show [u].Nodup;simp) hn
 |a::x,u,v,h,hn=>by
  by_cases hm:u∈nds t (aH t a).toNat x
  ·obtain⟨y,z,e1,e2,e3⟩:=jzde x h.2.2 hm
   exact⟨[],a::y,z,u,by rw[e1];rfl,by simp,rfl,⟨h.1,h.2.1,e2⟩,e3⟩
  ·have qa:¬(nds t (aH t a).toNat x).Nodup:=fun h2=>hn (kZo.2 ⟨hm,h2⟩)
   obtain⟨p,y,z,m,e1,e2,e3,e4,e5⟩:=jzdf x h.2.2 qa;exact⟨a::p,y,z,m,by rw[e1];rfl,e2,⟨h.1,h.2.1,e3⟩,e4,e5⟩
theorem jzdg{t}{down:List Bool}{ps:LQ}{s d:Nat}{x:LN}(hp:dO ps)(h1:FW t down d s x d)(h2:∀q,FW t down d s q d->leL ps x q):(nds t s x).Nodup:=by
 refine Classical.byContradiction fun hn=>?_;obtain⟨p,y,z,m,e1,e2,e3,e4,e5⟩:=jzdf x h1 hn;have h3:cI ps x (p++z)=true\/True:=.inr trivial;have h4:=h2 (p++z) (e3.app p e5);have h5:=jzb8 hp p y z e2;rw[<-e1]at h5;unfold leL at h4;rw[h5]at h4;cases h4
def Lpl(t:Tp)(s d:Nat)(x:LN):Prop:=PO t s true x d/\(nds t s x).Nodup
theorem oN{t}(hv:aI t=true){d:Nat}:∀(x:LN) (u:Nat) (first:Bool),PO t u first x d->FW t [] d u x d
 | [],_,_,h=>h
 |a::x,u,first,h=>by
  refine⟨h.1,?_,oN hv x _ false h.2.2⟩;have hd:=eD hv h.1;have qa:bZ [] a=false:=rfl;unfold cM;rw[qa,Bool.not_false,kZg,Bool.or_eq_true,beq_iff_eq,Bool.not_eq_true'];cases x with
  |nil=>
   have:(aH t a).toNat=d:=h.2.2;exact .inl (by omega)
  |cons b x=>
   rcases h.2.2.2.1 with h2|h2
   ·cases h2
   ·refine .inr ?_
    rw[show(((aH t a).toNat:Nat):Int)=aH t a by omega]at h2;exact h2
theorem gT{t}:∀(x:LN) {u v:Nat} {first:Bool},PO t u first x v->∀a∈x,a<2*t.links.length
 | [],_,_,_,_,_,h=>by cases h
 |b::x,_,_,_,h,a,ha=>by
  rcases xZ.1 ha with e|e
  ·have:=h.1
   unfold aM cA at this;rw[e];exact vX.1 (List.mem_filter.1 this).1
  ·exact gT x h.2.2 a e
theorem jzdh{t}(hv:aI t=true):∀(x:LN) {u v:Nat} {first:Bool},u<t.nodes.toNat->PO t u first x v->∀n∈nds t u x,n<t.nodes.toNat
 | [],u,_,_,hu,_,n,hn=>by
   rw[xD.1 hn];exact hu
 |a::x,u,_,_,hu,h,n,hn=>by
  rcases xZ.1 hn with e|e
  ·rw[e];exact hu
  ·exact jzdh hv x (eD hv h.1).2.2.1 h.2.2 n e
theorem Lpl.len{t}(hv:aI t=true){s d:Nat}{x:LN}(hs:s<t.nodes.toNat)(h:Lpl t s d x):x.length+1<=t.nodes.toNat:=by
 have:=Sx.nodup_le (k:=List.range t.nodes.toNat) h.2 fun n hn=>vX.2 (jzdh hv x hs h.1 n hn);rw[jzli,kZm]at this;exact this
theorem Lpl.nodup{t}{s d:Nat}{x:LN}(h:Lpl t s d x):x.Nodup:=by
 have h1:=h.2;rw[lX]at h1;have h2:=(kZo.1 h1).2;exact List.Pairwise.imp (fun {a b} hab e=>hab (by rw[e])) (List.pairwise_map.1 h2)
theorem Lpl.ne{t}{s d:Nat}{x:LN}(h:Lpl t s d x)(hsd:s≠d):x≠ []:=fun e=>by
 have:=h.1;rw[e]at this;exact hsd this
theorem oO(ps:LQ):∀x:LN,prQ ps x=Sx.ls (fun a=>Sx.at_ ps a) x
 | []=>rfl
 |a::x=>by
  rw[show a::x=[a]++x from rfl,lS,oO ps x,Sx.ls_app];show prQ ps [a]+_=(Sx.at_ ps a+0)+_;have:prQ ps [a]=0+Sx.at_ ps a:=rfl;rw[this];grind
theorem jzdi(f:Nat->Rat)(n:Nat):∀x:LN,x.Nodup->(∀a∈x,a<n)->Sx.ls f x=Sx.sm n fun a=>if a∈x then f a else 0
 | [],_,_=>by
   show(0:Rat)=_;rw[Sx.sm_zero n fun k _=>by simp]
 |b::x,hd,h=>by
  obtain⟨h1,h2⟩:=kZo.1 hd;show f b+Sx.ls f x=_;rw[jzdi f n x h2 fun a ha=>h a (by simp[ha])];have e1:Sx.sm n (fun a=>if a=b then f a else 0)=f b:=by
   rw[Sx.sm_one n (h b (by simp)) fun k _ hk=>if_neg hk,if_pos rfl]
  rw[<-e1, <-Sx.sm_add];refine Sx.sm_congr n fun a _=>?_;by_cases e:a=b
  ·subst e
   rw[if_pos rfl,if_neg h1,if_pos (by simp)];grind
  rw[if_neg e];by_cases e2:a∈x
  ·rw[if_pos e2,if_pos (by simp[e2])];grind
  rw[if_neg e2,if_neg (by simp[e,e2])];grind
theorem Lpl.prQ_sm{t}{s d:Nat}{x:LN}(h:Lpl t s d x)(ps:LQ):prQ ps x=Sx.sm (2*t.links.length) fun a=>if a∈x then Sx.at_ ps a else 0:=by
 rw[oO];exact jzdi _ _ x h.nodup (gT x h.1)
theorem iR{t}{ps:LQ}{s d:Nat}(hv:aI t=true)(hp:eM t ps=true)(hs:s<t.nodes.toNat)(hd:d<t.nodes.toNat):
  (∃x,chP t [] ps (s:Int) (d:Int)=(x,0)/\Lpl t s d x/\∀y,Lpl t s d y->prQ ps x<=prQ ps y)\/(chP t [] ps (s:Int) (d:Int)=([],11)/\∀y,¬Lpl t s d y):=by
 (have hb:eC t [] ps=false:=(by unfold eC dI;rw[hv,hp];rfl);have qa:dZ t (s:Int) (d:Int)=false:=(by unfold dZ;simp;omega);have h:=wK (down:=[]) (d:=d) hv (oF hp) hs;unfold chP;rw[hb,qa];simp only[kZq,if_false,xL];cases hc:dL t [] ps s d with|none=>rw[hc]at h;exact .inr ⟨rfl,fun y hy=>h y (oN hv y s true hy.1)⟩|some x=>(rw[hc]at h;refine .inl ⟨x,rfl,⟨jzdd hv (oF hp) h.1 h.2,jzdg (oF hp) h.1 h.2⟩,fun y hy=>?_⟩;rcases(lR ps x y).1 (h.2 y (oN hv y s true hy.1))with e|e);{rw[e];exact vC};(rcases(gM ps x y).1 e with e|e);{exact vB e};rw[e.1];exact vC)
structure Dm where
 src:Int
 dst:Int
 amount:Int
 prio:Int
def Dm.cells(d:Dm):List Value:=[vI d.src,vI d.dst,vI d.amount,vI d.prio]
def Dm.wf(d:Dm):Prop:=i64 d.src/\i64 d.dst/\i64 d.amount/\i64 d.prio
def Dm.ok(N:Int)(d:Dm):Bool:= !(d.src==d.dst)&&inB d.src 0 (N-1)&&inB d.dst 0 (N-1)&&inB d.amount 1 1048576&&inB d.prio 0 7
def bE(l:List Dm)(d:Nat):Nat:=match l[d]? with
 |some x=>x.src.toNat
 |none=>0
def bC(l:List Dm)(d:Nat):Nat:=match l[d]? with
 |some x=>x.dst.toNat
 |none=>0
def amQ(l:List Dm)(d:Nat):Rat:=match l[d]? with
 |some x=>(x.amount:Rat)
 |none=>0
def aR(t:Tp)(a:Nat):Rat:=match t.links[a/2]? with
 |some x=>(x.cap:Rat)
 |none=>0
def chQ(t:Tp)(pr:LQ)(s d:Nat):Rat:=prQ pr (chP t [] pr (s:Int) (d:Int)).1
structure Fit(t:Tp)(l:List Dm):Prop where
 v:aI t=true
 n:0<l.length
 ok:∀x∈l,Dm.ok t.nodes x=true
section
variable {t:Tp} {l:List Dm}
theorem Fit.nodes(h:Fit t l){d:Nat}(hd:d<l.length):bE l d<t.nodes.toNat/\bC l d<t.nodes.toNat/\bE l d≠bC l d/\l[d].src=(bE l d:Int)/\l[d].dst=(bC l d:Int):=by
 have h1:=h.ok _ (xR hd);unfold Dm.ok inB at h1;simp at h1;unfold bE bC;rw[yG hd];simp only[];omega
theorem Fit.am(h:Fit t l){d:Nat}(hd:d<l.length):0<amQ l d/\Sx.isI (amQ l d)/\amQ l d<=((1048576:Int):Rat)/\amQ l d=(l[d].amount:Rat)/\1<=l[d].amount/\l[d].amount<=1048576:=by
 have h1:=h.ok _ (xR hd);unfold Dm.ok inB at h1;simp at h1;have e:amQ l d=(l[d].amount:Rat):=(by unfold amQ;rw[yG hd]);refine⟨?_,⟨_,e⟩,?_,e,by omega,by omega⟩;{rw[e];exact Rat.intCast_lt_intCast.2 (show(0:Int)<l[d].amount by omega)};rw[e];exact kQt.2 (by omega)
theorem iS(hv:aI t=true){a:Nat}(ha:a<2*t.links.length):∃h:a/2<t.links.length,0<=aR t a/\Sx.isI (aR t a)/\aR t a<=((1048576:Int):Rat)/\aR t a=(t.links[a/2].cap:Rat)/\0<=t.links[a/2].cap/\t.links[a/2].cap<=1048576:=by
 have hl:a/2<t.links.length:=(by omega);unfold aI at hv;rw[vM,xW]at hv;have qa:=hv.2 _ (xR hl);unfold Lk.ok inB at qa;simp at qa;have e:aR t a=(t.links[a/2].cap:Rat):=(by unfold aR;rw[yG hl]);refine⟨hl,?_,⟨_,e⟩,?_,e,by omega,by omega⟩;{rw[e];exact kQt.2 (show(0:Int)<=t.links[a/2].cap by omega)};rw[e];exact kQt.2 (by omega)
end
structure bP(t:Tp)(l:List Dm)(v:Rat)(Z:List ((Nat×LN)×Rat))(pr:LQ):Prop where
 adm:Sx.Adm (2*t.links.length) l.length (amQ l) (aR t) v Z
 loop:∀z∈Z,Lpl t (bE l z.1.1) (bC l z.1.1) z.1.2
 plen:pr.length=2*t.links.length
 pnn:∀q∈pr,0<=q
 worth:(Sx.sm (2*t.links.length) fun a=>Sx.at_ pr a*aR t a)=v
 need:1<=Sx.sm l.length fun d=>amQ l d*chQ t pr (bE l d) (bC l d)
 conn:∀d,d<l.length->∃x,Lpl t (bE l d) (bC l d) x
theorem oP(q:Rat):aC q<0↔q<0:=by
 have h:q.num<0↔q<0:=(by rw[<-Int.not_le,Rat.num_nonneg,Rat.not_le]);unfold aC;split;{rename_i h0;rw[<-h,h0]};split;{rename_i h1;exact⟨fun _=>h.1 h1,fun _=>by decide⟩};rename_i h1;exact⟨fun x=>by omega,fun x=>absurd (h.2 x) h1⟩
theorem iT{t:Tp}{pr:LQ}(h1:pr.length=2*t.links.length)(h2:∀q∈pr,0<=q):eM t pr=true:=by
 unfold eM;rw[vM,decide_eq_true_eq,Bool.not_eq_true'];refine⟨h1,?_⟩;rw[<-Bool.not_eq_true];intro hn;obtain⟨q,hq,hs⟩:=List.any_eq_true.1 hn;have:=(oP q).1 (of_decide_eq_true hs);have:=h2 q hq;grind
theorem lY{pr:LQ}(h:∀q∈pr,0<=q)(a:Nat):0<=Sx.at_ pr a:=by
 unfold Sx.at_;by_cases e:a<pr.length;{rw[yG e];exact h _ (xR e)};rw[yI (by omega)];exact vC
theorem bP.unique{t}{l:List Dm}(hf:Fit t l){v v':Rat}{Z Z':List ((Nat×LN)×Rat)}{pr pr':LQ}(h:bP t l v Z pr)(h':bP t l v' Z' pr'):v=v':=by
 have qa:∀{v v':Rat} {Z Z':List ((Nat×LN)×Rat)} {pr pr':LQ},bP t l v Z pr->bP t l v' Z' pr'->v<=v':=fun {v v' Z Z' pr pr'} h h'=>(by (rw[<-h'.worth];refine h.adm.weak hf.n (fun d hd=>(hf.am hd).1) (ch:=fun d=>chQ t pr' (bE l d) (bC l d)) (fun a _=>lY h'.pnn a) (fun z hz=>?_) h'.need;have hd:=h.adm.dem z hz;obtain⟨n1,n2,_⟩:=hf.nodes hd;have hl:=h.loop z hz;rcases iR hf.v (iT h'.plen h'.pnn) n1 n2 with⟨x,e,_,e2⟩|⟨_,e⟩);{show chQ t pr' _ _<=_;unfold chQ;rw[e, <-hl.prQ_sm];exact e2 _ hl};exact absurd hl (e _));exact Rat.le_antisymm (qa h h') (qa h' h)
theorem jzlj{t}{l:List Dm}(hf:Fit t l){T:Sx.Tb}{P:List (Nat×LN)}(hb:Sx.Best (2*t.links.length) l.length (amQ l) (aR t) T P)(hrl:T.rows.length=2*t.links.length+l.length)
  (hP:∀p∈P,Lpl t (bE l p.1) (bC l p.1) p.2) (hpl:Sx.ptZ T P |>.map (·.1) |>.all (fun p=>decide (p∈P)))
  (hg:∀d,d<l.length->Sx.at_ (Sx.prT T) (2*t.links.length+d)<=chQ t ((Sx.prT T).take (2*t.links.length)) (bE l d) (bC l d)) (hc:∀d,d<l.length->∃x,Lpl t (bE l d) (bC l d) x):
  bP t l T.goal.re (Sx.planZ l.length (amQ l) T.goal.re (Sx.ptZ T P)) ((Sx.prT T).take (2*t.links.length)):=by
 have qa:(Sx.prT T).length=2*t.links.length+l.length:=(by unfold Sx.prT;rw[Sx.prTo_len,hrl]);have qe:∀a,a<2*t.links.length->Sx.at_ ((Sx.prT T).take (2*t.links.length)) a=Sx.at_ (Sx.prT T) a:=fun a ha=>(by unfold Sx.at_;rw[xG,if_pos ha]);refine⟨hb.adm,fun z hz=>?_,by rw[xF];omega,fun q hq=>?_,?_,?_,hc⟩;{obtain⟨_,f,h1,_⟩:=Sx.planZ_nn hz;have:=of_decide_eq_true (xW.1 hpl z.1 (kQl.2 ⟨_,h1,rfl⟩));exact hP _ this};{obtain⟨k,hk,e⟩:=List.getElem_of_mem hq;rw[xF]at hk;have:=hb.pos k (by omega);unfold Sx.at_ at this;rw[yG (by omega)]at this;rw[<-e,List.getElem_take];exact this};{rw[<-hb.worth];exact Sx.sm_congr _ fun a ha=>by rw[qe a ha]};refine kQs hb.need (Sx.sm_le _ fun d hd=>?_);exact yT (hg d hd) (vB (hf.am hd).1)
theorem wL{α:Type}(f:α->List Value)(m:Nat)(hf:∀x,(f x).length=m):∀(l:List α) (i k:Nat) {x:α},l[i]?=some x->k<m->(l.flatMap f)[i*m+k]?=(f x)[k]?
 | [],i,k,x,h,_=>by simp at h
 |y::l,0,k,x,h,hk=>by
  injection h with h
  subst h;rw[xU,Nat.zero_mul,kQu,yR (by rw[hf];exact hk)]
 |y::l,i+1,k,x,h,hk=>by
  rw[xU,yS (by rw[hf,xP,xQ];omega),hf,show(i+1)*m+k-m=i*m+k by rw[xP,xQ];omega];exact wL f m hf l i k (by simpa using h) hk
theorem jzdj{α:Type}(f:α->List Value)(m:Nat)(hf:∀x,(f x).length=m)(l:List α):(l.flatMap f).length=l.length*m:=by
 (induction l with|nil=>simp|cons y l ih=>rw[xU,yQ,ih,hf,kQo,xP,xQ];omega)
structure DmR(w:World)(l:List Dm)(A:OA)(c:Nat):Prop where
 len:l.length<=c
 cap:l.length<=281474976710656
 rd:Rd w A (l.flatMap Dm.cells)
 wf:∀d∈l,d.wf
theorem DmR.K{w w'}{l:List Dm}{A}{c:Nat}(h:DmR w l A c)(hx:Ext w w'):DmR w' l A c:=⟨h.len,h.cap,h.rd.K hx,h.wf⟩
theorem DmR.at_{w}{l:List Dm}{A}{c:Nat}(h:DmR w l A c){i:Nat}{d:Dm}(hl:l[i]?=some d):
  ∃b o:Nat,A=some (aD b o)/\b<w.heap.size/\w.cell? (aD b (o+i*4))=some (vI d.src)/\w.cell? (aD b (o+i*4+1))=some (vI d.dst)/\w.cell? (aD b (o+i*4+2))=some (vI d.amount)/\w.cell? (aD b (o+i*4+3))=some (vI d.prio):=by
 have hi:=(yH.1 hl).1;have qa:=jzdj Dm.cells 4 (fun _=>rfl) l;obtain⟨b,o,e,hb,hc⟩:=h.rd.at_ (i:=i*4) (by rw[qa];omega);have qe:∀k,k<4->w.cell? (aD b (o+(i*4+k)))=(Dm.cells d)[k]?:=fun k hk=>(by rw[hc (i*4+k) (by rw[qa];omega)];exact wL Dm.cells 4 (fun _=>rfl) l i k hl hk);exact⟨b,o,e,hb,qe 0 (by omega),qe 1 (by omega),qe 2 (by omega),qe 3 (by omega)⟩
def dF(N:Int)(l:List Dm):Bool:=inB N 0 64&&decide (l.length<=64)&&l.all (Dm.ok N)
def cY(t:Tp)(l:List Dm):Bool:=aI t&&decide (0<l.length)&&dF t.nodes l
theorem lZ{t}{l:List Dm}(hl:l.length<=64):cY t l=true↔Fit t l:=by
 constructor;{intro h;unfold cY dF at h;rw[vM,vM,vM,xW]at h;exact⟨h.1.1,by simpa using h.1.2,h.2.2⟩};intro h;have hn:inB t.nodes 0 64=true:=(by have:=h.v;unfold aI cG inB at this;unfold inB;simp at this⊢;omega);unfold cY dF;rw[h.v,hn,yO h.n,yO hl,xW.2 h.ok];rfl
theorem mU(n lo hi:Int)w:Calls prog 141 #[vI n,vI lo,vI hi] w fun e w'=>e=.returned (.bool (inB n lo hi))/\w=w':=by
 have hd:inB n lo hi=(decide (lo<=n)&&decide (n<=hi)):=(by unfold inB;simp);rw[hd];clear hd;by_cases h1:lo<=n;{(have qa:decide (lo<=n)=true:=by simpa using h1);rw[qa];go_enter func141,ntmps141;go_wp2;go_ret;exact⟨by simp,rfl⟩};have qa:decide (lo<=n)=false:=(by simpa using h1);rw[qa];go_enter func141,ntmps141;go_wp2;go_ret;exact⟨by simp,rfl⟩
theorem gU{l:List Dm}{N:Int}{k:Nat}{d:Dm}(hl:l[k]?=some d)(hb:d.ok N=false):l.all (Dm.ok N)=false:=by
 obtain⟨hk,he⟩:=yH.1 hl;rw[List.all_eq_false];exact⟨d,by rw[<-he];exact xR hk,by simp[hb]⟩
theorem jzdk{l:List Dm}{N:Int}(h:∀(j:Nat) (d:Dm),l[j]?=some d->d.ok N=true):l.all (Dm.ok N)=true:=by
 rw[xW];intro d hd;obtain⟨j,hj,rfl⟩:=List.mem_iff_getElem.1 hd;exact h j _ (yG hj)
theorem jzlk(N:Int)A(c:Nat)(l:List Dm)w(hd:DmR w l A c):
  Calls prog 83 #[vI N,.s A l.length c] w fun e w'=>e=.returned (.bool (dF N l))/\Ext w w':=by
 have HD:=Hx hd;have qj:=hd.len;have qg:=hd.cap;clear hd;cases k1:inB N 0 64
 ·have HR:=Hx (show dF N l=false by unfold dF;rw[k1];rfl)
  go_enter func83,ntmps83
  go_wp2_with (go_at_call 141;refine(mU _ _ _ _).mono ?_;rintro e w' ⟨rfl,rfl⟩)
  go_ret;rw[HR.o];exact⟨rfl,eR _⟩
 by_cases k2:l.length<=64
 case neg=>
  have qh:64<l.length:=(by omega);have HR:=Hx (show dF N l=false by unfold dF;rw[yP k2];simp)
  go_enter func83,ntmps83
  go_wp2_with (go_at_call 141;refine(mU _ _ _ _).mono ?_;rintro e w' ⟨rfl,rfl⟩)
  go_ret;rw[HR.o];exact⟨rfl,eR _⟩
 have HR:=Hx (show dF N l=l.all (Dm.ok N) by unfold dF;rw[k1,yO k2];rfl);have hN:0<=N/\N<=64:=(by unfold inB at k1;simpa using k1);obtain⟨qi,qf⟩:=hN
 go_enter func83,ntmps83
 go_wp2_with (go_at_call 141;refine(mU _ _ _ _).mono ?_;rintro e w' ⟨rfl,rfl⟩)
 clear k1
 go_loopg [17] l.length (fun q it wx=>∃n:Nat,l.length-n=q/\n<=l.length/\it=vI (n:Int)/\Hid ((∀j d,j<n->l[j]?=some d->d.ok N=true)/\Ext w wx))
 case atStart=>exact⟨0,rfl,yZ _,rfl,Hx ⟨fun j d h=>by omega,eR _⟩⟩
 obtain⟨n,rfl,hn,rfl,I⟩:=hrel;by_cases qe:n<l.length
 ·obtain⟨d,hd⟩:∃d,l[n]?=some d:=⟨_,yG qe⟩
  have HL:=Hx hd;obtain⟨b,o,rfl,hb,c0,c1,c2,c3⟩:=(HD.o.K I.o.2).at_ hd;have nN:(n:Int)<(l.length:Int):=(by omega);have n0:(0:Int)<=(n:Int):=(by omega);have X9:=Hx (I.o.2.alloc (.cells #[vI d.src,vI d.dst,vI d.amount,vI d.prio] 27));have qa:((d.src==d.dst)=true/\d.ok N=false)\/((d.src==d.dst)=false/\inB d.src 0 (N-1)=false/\d.ok N=false)\/((d.src==d.dst)=false/\inB d.src 0 (N-1)=true/\inB d.dst 0 (N-1)=false/\d.ok N=false)\/
    ((d.src==d.dst)=false/\inB d.src 0 (N-1)=true/\inB d.dst 0 (N-1)=true/\inB d.amount 1 1048576=false/\d.ok N=false)\/
    ((d.src==d.dst)=false/\inB d.src 0 (N-1)=true/\inB d.dst 0 (N-1)=true/\inB d.amount 1 1048576=true/\inB d.prio 0 7=d.ok N):=by
   unfold Dm.ok;cases d.src==d.dst <;> cases inB d.src 0 (N-1) <;> cases inB d.dst 0 (N-1) <;> cases inB d.amount 1 1048576 <;> simp
  clear hd;rcases qa with⟨d1,hf⟩|⟨d1,d2,hf⟩|⟨d1,d2,d3,hf⟩|⟨d1,d2,d3,d4,hf⟩|⟨d1,d2,d3,d4,d5⟩
  case inr.inr.inr.inr=>
   cases hg:inB d.prio 0 7
   ·have HF:=Hx (gU HL.o (d5.symm.trans hg))
    clear d5
    go_wp2_with (go_at_call 141;refine(mU _ _ _ _).mono ?_;rintro e w' ⟨rfl,rfl⟩)
    go_ret;rw[HR.o,HF.o];exact⟨rfl,X9.o⟩
   have OK:=Hx (d5.symm.trans hg);clear d5
   go_wp2_with (go_at_call 141;refine(mU _ _ _ _).mono ?_;rintro e w' ⟨rfl,rfl⟩)
   go_roundg (l.length-(n+1))
   case measure=>omega
   case rel=>exact⟨n+1,rfl,by omega,by go_num,Hx ⟨fun j d' hj hd'=>by
    by_cases e:j=n
    ·subst e;have:=HL.o;rw[this]at hd';injection hd' with hd';subst hd';exact OK.o
    exact I.o.1 j d' (by omega) hd',X9.o⟩⟩
  all_goals
   have HF:=Hx (gU HL.o hf);clear hf
   go_wp2_with (go_at_call 141;refine(mU _ _ _ _).mono ?_;rintro e w' ⟨rfl,rfl⟩)
   go_ret;rw[HR.o,HF.o];exact⟨rfl,X9.o⟩
 obtain rfl:n=l.length:=(by omega);have HF:=Hx (jzdk (l:=l) (N:=N) (fun j d hj=>I.o.1 j d (yH.1 hj).1 hj));go_wp2;go_ret;rw[HR.o,HF.o];exact⟨rfl,I.o.2⟩
theorem jzdl t AO(co:Nat)AL(cl:Nat)(l:List Dm)A(c:Nat)w(ht:aX w t AO co AL cl)(hd:DmR w l A c):
  Calls prog 39 #[.agg #[vI t.nodes,.s AO t.over.length co,.s AL t.links.length cl],.s A l.length c] w fun e w'=>e=.returned (.bool (cY t l))/\Ext w w':=by
 have HT:=Hx (kQa ht hd);clear ht hd;obtain⟨qa,e0⟩:=aV w #[vI t.nodes,.s AO t.over.length co,.s AL t.links.length cl] 25;have BA:=Hx (kQa qa e0);obtain⟨⟨i0,i1,i2⟩,_⟩:=qa.t3;clear qa e0;go_enter func39,ntmps39;(go_wp2_with fail);refine(pV t AO co AL cl _ (HT.o.1.K BA.o.2)).mono ?_;rintro e w1 ⟨rfl,qe⟩;have E1:=Hx (kQa (BA.o.1.K qe) (BA.o.2.tr qe));clear qe BA i0 i1 i2;obtain⟨⟨i0,i1,i2⟩,_⟩:=E1.o.1.t3;cases hv:aI t;{have HR:=Hx (show cY t l=false by unfold cY;rw[hv];rfl);(go_wp2_with fail);go_ret;rw[HR.o];exact⟨rfl,E1.o.2⟩};by_cases hl:0<l.length;{have HR:=Hx (show cY t l=dF t.nodes l by unfold cY;rw[hv,yO hl];rfl);have qg:decide ((0:Int)<(l.length:Int))=true:=yO (by omega);(go_wp2_with fail);refine(jzlk t.nodes A c l _ (HT.o.2.K E1.o.2)).mono ?_;rintro e w2 ⟨rfl,qf⟩;have E2:=Hx (E1.o.2.tr qf);clear qf;(go_wp2_with fail);go_ret;rw[HR.o];exact⟨rfl,E2.o⟩};have HR:=Hx (show cY t l=false by unfold cY;rw[yP hl];simp);have qg:decide ((0:Int)<(l.length:Int))=false:=yP (by omega);(go_wp2_with fail);go_ret;rw[HR.o];exact⟨rfl,E1.o.2⟩
structure iU(w:World)(t:Tp)(AO:OA)(co:Nat)(AL:OA)(cl:Nat)(l:List Dm)(AD:OA)(cd:Nat):Prop where
 nodes:i64 t.nodes
 lo:t.over.length<=co
 ll:t.links.length<=cl
 over:Rd w AO (bD t.over)
 links:Rd w AL (t.links.flatMap Lk.cells)
 wf:∀x∈t.links,x.wf
 ld:l.length<=cd
 lm:l.length<=9223372036854775807
 dr:Rd w AD (l.flatMap Dm.cells)
 dwf:∀x∈l,x.wf
section
variable {w w':World} {t:Tp} {AO:Option Addr} {co:Nat} {AL:Option Addr} {cl:Nat} {l:List Dm} {AD:Option Addr} {cd:Nat}
theorem iU.K(h:iU w t AO co AL cl l AD cd)(hx:Ext w w'):iU w' t AO co AL cl l AD cd:=⟨h.nodes,h.lo,h.ll,h.over.K hx,h.links.K hx,h.wf,h.ld,h.lm,h.dr.K hx,h.dwf⟩
theorem iU.top(h:iU w t AO co AL cl l AD cd)(h1:t.links.length<=10)(h2:t.over.length<=20):aX w t AO co AL cl:=⟨h.nodes,h.lo,h.ll,by omega,by omega,h.over,h.links,h.wf⟩
theorem iU.dem(h:iU w t AO co AL cl l AD cd)(h1:l.length<=4):DmR w l AD cd:=⟨h.ld,by omega,h.dr,h.dwf⟩
theorem Rd.dm{A}(h:Rd w A (l.flatMap Dm.cells)){i:Nat}{d:Dm}(hl:l[i]?=some d):∃b o:Nat,A=some (aD b o)/\b<w.heap.size/\w.cell? (aD b (o+i*4+2))=some (vI d.amount):=by
 have hi:=(yH.1 hl).1;have qa:=jzdj Dm.cells 4 (fun _=>rfl) l;obtain⟨b,o,e,hb,hc⟩:=h.at_ (i:=i*4) (by rw[qa];omega);have qe:w.cell? (aD b (o+(i*4+2)))=(Dm.cells d)[2]?:=(by rw[hc (i*4+2) (by rw[qa];omega)];exact wL Dm.cells 4 (fun _=>rfl) l i 2 hl (by decide));exact⟨b,o,e,hb,qe⟩
end
def dP(t:Tp)(l:List Dm):Bool:=l.all (fun d=>decide (d.amount<=1000))&&decide (t.links.length<=10)&&decide (t.over.length<=20)&&decide (l.length<=4)&&(!aI t||decide (t.nodes<=7))
theorem jzll{l:List Dm}{k:Nat}{d:Dm}(hl:l[k]?=some d)(hb:¬d.amount<=1000):l.all (fun d=>decide (d.amount<=1000))=false:=by
 obtain⟨hk,he⟩:=yH.1 hl;rw[List.all_eq_false];exact⟨d,by rw[<-he];exact xR hk,by simpa using hb⟩
theorem jzlm{l:List Dm}(h:∀(j:Nat) (d:Dm),l[j]?=some d->d.amount<=1000):l.all (fun d=>decide (d.amount<=1000))=true:=by
 rw[xW];intro d hd;obtain⟨j,hj,rfl⟩:=List.mem_iff_getElem.1 hd;exact yO (h j _ (yG hj))
theorem jzln t AO(co:Nat)AL(cl:Nat)(l:List Dm)AD(cd:Nat)w(h:iU w t AO co AL cl l AD cd):
  Calls prog 8 #[.agg #[vI t.nodes,.s AO t.over.length co,.s AL t.links.length cl],.s AD l.length cd] w fun e w'=>e=.returned (.bool (dP t l))/\Ext w w':=by
 have qi:=h.ld;have qh:=h.lm;have HA:=Hx h;obtain⟨qe,e0⟩:=aV w #[vI t.nodes,.s AO t.over.length co,.s AL t.links.length cl] 25;obtain⟨⟨i0,i1,i2⟩,_⟩:=qe.t3;have E0:=Hx (kQa qe e0);clear h qe e0;go_enter func8,ntmps8;go_wp2;go_loopg [5] l.length (fun q it wx=>∃n:Nat,l.length-n=q/\n<=l.length/\it=vI (n:Int)/\Hid (∀(j:Nat) (d:Dm),j<n->l[j]?=some d->d.amount<=1000)/\wx=w.alloc (.cells #[vI t.nodes,.s AO t.over.length co,.s AL t.links.length cl] 25));(case atStart=>exact⟨0,rfl,yZ _,rfl,Hx fun j d h=>by omega,rfl⟩);obtain⟨n,rfl,hn,rfl,I,rfl⟩:=hrel;by_cases qg:n<l.length
 ·obtain⟨d,hd⟩:∃d,l[n]?=some d:=⟨_,yG qg⟩;have HL:=Hx hd;obtain⟨b,o,rfl,hb,c2⟩:=(HA.o.dr.K E0.o.2).dm hd;have nN:(n:Int)<(l.length:Int):=(by omega);have n0:(0:Int)<=(n:Int):=(by omega);clear hd;by_cases ha:d.amount<=1000
  ·have HJ:=Hx ha;have d1:decide (1000<d.amount)=false:=yP (by omega);clear ha;go_wp2;go_roundg (l.length-(n+1));(case measure=>omega)
   case rel=>
    exact⟨n+1,rfl,by omega,by go_num,Hx fun j d' hj hd'=>by
    by_cases e:j=n;{subst e;have:=HL.o;rw[this]at hd';injection hd' with hd';subst hd';exact HJ.o}
    exact I.o j d' (by omega) hd',rfl⟩
  have HF:=Hx (show dP t l=false by unfold dP;rw[jzll HL.o ha];simp);have d1:decide (1000<d.amount)=true:=yO (by omega);clear ha;go_wp2;go_ret;rw[HF.o];exact⟨rfl,E0.o.2⟩
 obtain rfl:n=l.length:=(by omega);have HF:=Hx (jzlm (l:=l) fun j d hj=>I.o j d (yH.1 hj).1 hj);by_cases h1:t.links.length<=10;(case neg=>have qa:=Hx (show dP t l=false by simp[dP,h1]);have d1:decide ((t.links.length:Int)<=10)=false:=(by simp;omega);go_wp2;go_ret;rw[qa.o];exact⟨rfl,E0.o.2⟩);have d1:decide ((t.links.length:Int)<=10)=true:=(by simp;omega);by_cases h2:t.over.length<=20;(case neg=>have qa:=Hx (show dP t l=false by simp[dP,h2]);have d2:decide ((t.over.length:Int)<=20)=false:=(by simp;omega);go_wp2;go_ret;rw[qa.o];exact⟨rfl,E0.o.2⟩);have d2:decide ((t.over.length:Int)<=20)=true:=(by simp;omega);by_cases h3:l.length<=4;(case neg=>have qa:=Hx (show dP t l=false by simp[dP,h3]);have d3:decide ((l.length:Int)<=4)=false:=(by simp;omega);go_wp2;go_ret;rw[qa.o];exact⟨rfl,E0.o.2⟩);(have d3:decide ((l.length:Int)<=4)=true:=by simp;omega);(go_wp2_with fail);refine(nH t AO co AL cl _ ((HA.o.top h1 h2).K E0.o.2)).mono ?_;rintro e w1 ⟨rfl,qf⟩;obtain⟨⟨k0,_,_⟩,_⟩:=(E0.o.1.K qf).t3;have E1:=Hx (E0.o.2.tr qf);clear qf i0 i1 i2;cases hvv:aI t;(case false=>have qa:=Hx (show dP t l=true by simp only[dP,HF.o,hvv,h1,h2,h3];rfl);go_wp2;go_ret;rw[qa.o];exact⟨rfl,E1.o⟩);by_cases h5:t.nodes<=7;{have qa:=Hx (show dP t l=true by simp only[dP,HF.o,hvv,h1,h2,h3,h5];rfl);have d5:decide (t.nodes<=7)=true:=(by simp;omega);go_wp2;go_ret;rw[qa.o];exact⟨rfl,E1.o⟩};have qa:=Hx (show dP t l=false by simp only[dP,HF.o,hvv,h1,h2,h3,h5];rfl);have d5:decide (t.nodes<=7)=false:=(by simp;omega);go_wp2;go_ret;rw[qa.o];exact⟨rfl,E1.o⟩
def dD(t:Tp)(n s d:Nat):Bool:=decide ((n:Int)≠(s:Int))&&(decide ((n:Int)≠(d:Int))&&bH t n)
theorem jzdm t AO(co:Nat)AL(cl:Nat)(n s d:Nat)w(ht:aX w t AO co AL cl)(hv:aI t=true):
  Calls prog 54 #[.agg #[vI t.nodes,.s AO t.over.length co,.s AL t.links.length cl],vI (n:Int),vI (s:Int),vI (d:Int)] w fun e w'=>e=.returned (.bool (dD t n s d))/\Ext w w':=by
 obtain⟨qa,e0⟩:=aV w #[vI t.nodes,.s AO t.over.length co,.s AL t.links.length cl] 25;obtain⟨⟨i0,i1,i2⟩,_⟩:=qa.t3;have HT:=Hx (kQa ht hv);have E0:=Hx e0;clear ht hv qa e0;by_cases h1:(n:Int)=(s:Int);{have HR:=Hx (show dD t n s d=false by unfold dD;simp[h1]);have n1:((n:Int) !=(s:Int))=false:=(by simp[h1]);clear h1;go_enter func54,ntmps54;go_wp2;go_ret;rw[HR.o];exact⟨rfl,E0.o⟩};have n1:((n:Int) !=(s:Int))=true:=(by simpa using h1);by_cases h2:(n:Int)=(d:Int);{have HR:=Hx (show dD t n s d=false by unfold dD;simp[h2]);have n2:((n:Int) !=(d:Int))=false:=(by simp[h2]);clear h1 h2;go_enter func54,ntmps54;go_wp2;go_ret;rw[HR.o];exact⟨rfl,E0.o⟩};have n2:((n:Int) !=(d:Int))=true:=(by simpa using h2);have HR:=Hx (show dD t n s d=bH t n by unfold dD;simp[h1,h2]);clear h1 h2;go_enter func54,ntmps54;(go_wp2_with fail);refine(jzav t AO co AL cl n _ (HT.o.1.K E0.o) HT.o.2).mono ?_;rintro e w1 ⟨rfl,x1⟩;have E1:=Hx (E0.o.tr x1);clear x1 i0 i1 i2;go_wp2;go_ret;rw[HR.o];exact⟨rfl,E1.o⟩
end Go.Proofs.YtojpooidhilnfaaGreatDoor
namespace Go.Proofs.YtojpooidhilnfaaGreatDoor
open Go.Proofs.Tryz
open Go Go.RowKit
variable {P:Program} {md:Region.Mode} {ops:Array Oper} {Q:Exit->Act->World->Prop} {S:World->Prop} {L:Nat}
def wpAnyL(P:Program)(md:Region.Mode)(ops:Array Oper)(Q:Exit->Act->World->Prop)(S:World->Prop)(L:Nat):Nat->Array Bool->Act->World->Prop
 |0,listed,a,w=>Region.ready md ops listed=[]/\Q .normal a w
 |fuel+1,listed,a,w=>
  (Region.ready md ops listed=[]->Q .normal a w)/\
  ∀i∈Region.ready md ops listed,wpOp P ops Q i (fun a' w'=>(i=L->wpAny P md ops Q fuel (listed.setIfInBounds i true) a' w')/\(i≠L->S w'/\wpAnyL P md ops Q S L fuel (listed.setIfInBounds i true) a' w')) a w
theorem jzdn:∀(fuel:Nat) (listed:Array Bool) (a:Act) (w:World),wpAnyL P md ops Q S L fuel listed a w->wpAny P md ops Q fuel listed a w
 |0,_,_,_,h=>h
 |fuel+1,_,_,_,h=>⟨h.1,fun i hi=>wpOp_mono (fun a' w' h'=>by
  by_cases e:i=L
  ·exact h'.1 e
  ·exact jzdn fuel _ a' w' (h'.2 e).2) (h.2 i hi)⟩
def awaitB(md:Region.Mode)(ops:Array Oper)(L i:Nat):Bool:=match ops[L]? with
 |none=>false
 |some o=>o.after.any fun e=>Region.binds md e&&e.on==i
theorem oQ{i:Nat}(h:awaitB md ops L i=true){listed:Array Bool}(hr:L∈Region.ready md ops listed)(hsz:listed.getD i true=false):False:=by
 unfold awaitB at h;obtain⟨_,oj,qe,qa⟩:=mem_ready.1 hr;rw[qe]at h;obtain⟨e,he,hb⟩:=Array.any_eq_true'.1 h;rw[vM,beq_iff_eq]at hb;have h2:=qa e he hb.1;rw[hb.2]at h2;rcases kQd i listed.size with h'|h'
 ·simp[h']at hsz h2;rw[hsz]at h2;cases h2
 simp[kQn h']at hsz
theorem jzlo{i:Nat}{oi:Oper}{v:Value}(hL:awaitB md ops L i=true)(hi:ops[i]?=some oi)(hiL:i≠L)(hsel:∀(j:Nat) (o:Oper) cs b,ops[j]?=some o->o.op≠.select cs b)
  (hQ:∀c a w,Q (.panic c) (a.put oi.dst v) w->Q (.panic c) a w):
  ∀(qe:Nat) (qa:Array Bool) (a:Act) (w:World),
   (∀j oj,ops[j]?=some oj->j≠i->qa.getD j true=false->(∀e∈oj.after,Region.binds md e=true->e.on≠i)->oi.apart ops oj=true)->
   i∈Region.ready md ops qa->YieldsIf P ops S oi v a->S w->
   wpAnyL P md ops Q S L qe (qa.setIfInBounds i true) (a.put oi.dst v) w->wpAnyL P md ops Q S L (qe+1) qa a w:=by
 intro qe
 induction qe with
 |zero=>
  intro qa a w _ hr hy hS H;refine⟨fun h=>(by rw[h]at hr;cases hr),fun j hj=>?_⟩;by_cases qg:j=i
  ·subst qg;exact hy.wpOp hi hS ⟨fun e=>absurd e hiL,fun _=>⟨hS,H⟩⟩
  have:=ready_mono hj qg;rw[H.1]at this;cases this
 |succ qe ih=>
  intro qa a w qf hr hy hS H;refine⟨fun h=>(by rw[h]at hr;cases hr),fun j hj=>?_⟩;by_cases qg:j=i
  ·subst qg;exact hy.wpOp hi hS ⟨fun e=>absurd e hiL,fun _=>⟨hS,H⟩⟩
  have qj:j≠L:=fun e=>by
   rw[e]at hj;exact oQ hL hj (mem_ready.1 hr).1
  have h1:=H.2 j (ready_mono hj qg);obtain⟨qi,oj,qk,qm⟩:=mem_ready.1 hj;have qn:∀e∈oj.after,Region.binds md e=true->e.on≠i:=fun e he hb heq=>by
   have h1:=qm e he hb;have h0:=(mem_ready.1 hr).1;rw[heq]at h1;rcases kQd i qa.size with h'|h'
   ·simp[h']at h0 h1;rw[h0]at h1;cases h1
   simp[kQn h']at h1
  have h2:=wpOp_putIf qk (qf j oj qk qg qi qn) (fun cs b=>hsel i oi cs b hi) (fun cs b=>hsel j oj cs b qk) hQ hy h1;have qh:∀k ok,ops[k]?=some ok->k≠i->(qa.setIfInBounds j true).getD k true=false->
    (∀e∈ok.after,Region.binds md e=true->e.on≠i)->oi.apart ops ok=true:=fun k ok hk hki hun hno=>by
   refine qf k ok hk hki ?_ hno;by_cases qo:j=k
   ·subst qo;exact qi
   rw[getD_set_ne true qo]at hun;exact hun
  refine wpOp_mono (fun a' w' h3=>⟨fun e=>absurd e qj,fun _=>⟨(h3.2.2 qj).1,ih (qa.setIfInBounds j true) a' w' qh (ready_mono hr (Ne.symm qg)) h3.1 (h3.2.2 qj).1 ?_⟩⟩) h2;rw[Array.setIfInBounds_comm _ _ qg];exact(h3.2.2 qj).2
theorem wpAnyL_take{i:Nat}{oi:Oper}{v:Value}{fuel:Nat}{listed:Array Bool}{a:Act}{w}(hi:ops[i]?=some oi)(hL:awaitB md ops L i=true)(hiL:i≠L)
  (hs:Region.noSelect ops=true) (hf:Region.free md ops listed i=true) (hr:(Region.ready md ops listed).contains i=true)
  (hQ:∀c a w,Q (.panic c) (a.put oi.dst v) w->Q (.panic c) a w) (hy:YieldsIf P ops S oi v a) (hS:S w)
  (h:wpAnyL P md ops Q S L fuel (listed.setIfInBounds i true) (a.put oi.dst v) w):wpAnyL P md ops Q S L (fuel+1) listed a w:=
 jzlo hL hi hiL (Region.noSelect_spec hs) hQ fuel listed a w (Region.free_spec hi hf) (by simpa using hr) hy hS h
theorem jzlp{oi:Oper}{v:Value}{a:Act}(h:YieldsIf P ops (fun _=>True) oi v a):Yields P ops oi v a:=h.imp (fun⟨hw,hv⟩=>⟨hw,fun w=>hv w trivial⟩) id
theorem jzlq{i:Nat}{oi:Oper}{v:Value}(hi:ops[i]?=some oi)(hiL:i≠L)(hsel:∀(j:Nat) (o:Oper) cs b,ops[j]?=some o->o.op≠.select cs b)
  (hQ:∀c a w,Q (.panic c) (a.put oi.dst v) w->Q (.panic c) a w):
  ∀(qe:Nat) (qa:Array Bool) (a:Act) (w:World),
   (∀j oj,ops[j]?=some oj->j≠i->qa.getD j true=false->(∀e∈oj.after,Region.binds md e=true->e.on≠i)->oi.apart ops oj=true)->
   i∈Region.ready md ops qa->YieldsIf P ops (fun _=>True) oi v a->S w->
   wpAnyL P md ops Q S L qe (qa.setIfInBounds i true) (a.put oi.dst v) w->wpAnyL P md ops Q S L (qe+1) qa a w:=by
 intro qe
 induction qe with
 |zero=>
  intro qa a w _ hr hy hS H;refine⟨fun h=>(by rw[h]at hr;cases hr),fun j hj=>?_⟩;by_cases qg:j=i
  ·subst qg;exact hy.wpOp hi trivial ⟨fun e=>absurd e hiL,fun _=>⟨hS,H⟩⟩
  have:=ready_mono hj qg;rw[H.1]at this;cases this
 |succ qe ih=>
  intro qa a w qh hr hy hS H;refine⟨fun h=>(by rw[h]at hr;cases hr),fun j hj=>?_⟩;by_cases qg:j=i
  ·subst qg;exact hy.wpOp hi trivial ⟨fun e=>absurd e hiL,fun _=>⟨hS,H⟩⟩
  have h1:=H.2 j (ready_mono hj qg);obtain⟨qi,oj,qj,qk⟩:=mem_ready.1 hj;have qm:∀e∈oj.after,Region.binds md e=true->e.on≠i:=fun e he hb heq=>by
   have h1:=qk e he hb;have h0:=(mem_ready.1 hr).1;rw[heq]at h1;rcases kQd i qa.size with h'|h'
   ·simp[h']at h0 h1;rw[h0]at h1;cases h1
   simp[kQn h']at h1
  have h2:=wpOp_putIf qj (qh j oj qj qg qi qm) (fun cs b=>hsel i oi cs b hi) (fun cs b=>hsel j oj cs b qj) hQ hy h1;have qf:∀k ok,ops[k]?=some ok->k≠i->(qa.setIfInBounds j true).getD k true=false->
    (∀e∈ok.after,Region.binds md e=true->e.on≠i)->oi.apart ops ok=true:=fun k ok hk hki hun hno=>by
   refine qh k ok hk hki ?_ hno;by_cases qn:j=k
   ·subst qn;exact qi
   rw[getD_set_ne true qn]at hun;exact hun
  refine wpOp_mono (fun a' w' h3=>⟨fun e=>?_,fun e=>⟨(h3.2.2 e).1,ih (qa.setIfInBounds j true) a' w' qf (ready_mono hr (Ne.symm qg)) h3.1 (h3.2.2 e).1 ?_⟩⟩) h2
  ·refine wpAny_first hi hsel hQ qe (qa.setIfInBounds j true) a' w' qf (ready_mono hr (Ne.symm qg)) (jzlp h3.1) ?_
   rw[Array.setIfInBounds_comm _ _ qg];exact h3.2.1 e
  rw[Array.setIfInBounds_comm _ _ qg];exact(h3.2.2 e).2
theorem wpAnyL_pure{i:Nat}{oi:Oper}{v:Value}{fuel:Nat}{listed:Array Bool}{a:Act}{w}(hi:ops[i]?=some oi)(hiL:i≠L)
  (hs:Region.noSelect ops=true) (hf:Region.free md ops listed i=true) (hr:(Region.ready md ops listed).contains i=true)
  (hQ:∀c a w,Q (.panic c) (a.put oi.dst v) w->Q (.panic c) a w) (hy:YieldsIf P ops (fun _=>True) oi v a) (hS:S w)
  (h:wpAnyL P md ops Q S L fuel (listed.setIfInBounds i true) (a.put oi.dst v) w):wpAnyL P md ops Q S L (fuel+1) listed a w:=
 jzlq hi hiL (Region.noSelect_spec hs) hQ fuel listed a w (Region.free_spec hi hf) (by simpa using hr) hy hS h
theorem jzdo{i:Nat}{fuel:Nat}{listed:Array Bool}{a:Act}{w}(hr:Region.ready md ops listed=[i])
  (h:wpOp P ops Q i (fun a' w'=>(i=L->wpAny P md ops Q fuel (listed.setIfInBounds i true) a' w')/\(i≠L->S w'/\wpAnyL P md ops Q S L fuel (listed.setIfInBounds i true) a' w')) a w):wpAnyL P md ops Q S L (fuel+1) listed a w:=
 ⟨fun h0=>(by rw[hr]at h0;cases h0),fun j hj=>(by rw[hr]at hj;obtain rfl:j=i:=(by simpa using hj);exact h)⟩
theorem wpAnyL_call{i:Nat}{o:Oper}{fuel:Nat}{listed:Array Bool}{a:Act}{w}(hiL:i≠L)(hr:Region.ready md ops listed=[i])(ho:ops[i]?=some o)(hw:Region.wanted o (yielded ops a.tmps)=true)
  (h:∀K':Act->World->Prop,Hid (∀a w,S w->wpAnyL P md ops Q S L fuel (listed.setIfInBounds i true) a w->K' a w)->Oper.wp P o a w K' Q):wpAnyL P md ops Q S L (fuel+1) listed a w:=
 jzdo hr (wpOp_step ho fun K' hK=>by rw[if_pos hw];exact h K' (Hx fun a w h1 h2=>hK a w ⟨fun e=>absurd e hiL,fun _=>⟨h1,h2⟩⟩))
theorem bY{o:Oper}{fuel:Nat}{listed:Array Bool}{a:Act}{w}(hr:Region.ready md ops listed=[L])(ho:ops[L]?=some o)(hw:Region.wanted o (yielded ops a.tmps)=true)
  (h:∀K':Act->World->Prop,Hid (∀a w,wpAny P md ops Q fuel (listed.setIfInBounds L true) a w->K' a w)->Oper.wp P o a w K' Q):wpAnyL P md ops Q S L (fuel+1) listed a w:=
 jzdo hr (wpOp_step ho fun K' hK=>by rw[if_pos hw];exact h K' (Hx fun a w h2=>hK a w ⟨fun _=>h2,fun e=>absurd rfl e⟩))
theorem mA{i:Nat}{o:Oper}{fuel:Nat}{listed:Array Bool}{a:Act}{w}(hr:Region.ready md ops listed=[i])(ho:ops[i]?=some o)(hw:Region.wanted o (yielded ops a.tmps)=true)
  (h:∀K':Act->World->Prop,Hid (∀a w,wpAny P md ops Q fuel (listed.setIfInBounds i true) a w->K' a w)->Oper.wp P o a w K' Q):wpAny P md ops Q (fuel+1) listed a w:=
 ⟨fun h0=>(by rw[hr]at h0;cases h0),fun j hj=>(by
  rw[hr]at hj;obtain rfl:j=i:=(by simpa using hj);exact wpOp_step ho fun K' hK=>by rw[if_pos hw];exact h K' (Hx hK))⟩
theorem wp_region_last{id:Nat}{a:Act}{w:World}(S:World->Prop)(L:Nat)(hm:P.follows .mixedOrders=true)
  (h:wpAnyL P .any ops Q S L ops.size (Array.replicate ops.size false) a w.drew):(Code.region id ops true).wp P Q a w:=
 wp_region_any hm (jzdn _ _ _ _ h)
theorem wP(i:Nat){oi:Oper}{v:Value}{fuel:Nat}{listed:Array Bool}{a:Act}{w:World}(hi:ops[i]?=some oi)(hS:S w)(h:wpAnyL P md ops Q S L fuel (listed.setIfInBounds i true) (a.put oi.dst v) w)(hv:∀ w,True->(execOp a.eval oi).run P w=.ok (.value v) w:=by intro w _;go_simp;try with_reducible rfl)(hiL:i≠L:=by decide)(hs:Region.noSelect ops=true:=by kernel_rfl)(hf:Region.free md ops listed i=true:=by kernel_rfl)(hr:(Region.ready md ops listed).contains i=true:=by kernel_rfl)(hQ:∀ c a w,Q (.panic c) (a.put oi.dst v) w->Q (.panic c) a w:=by exact fun _ _ _ h=>h)(hw:Region.wanted oi (yielded ops a.tmps)=true:=by rfl):wpAnyL P md ops Q S L (fuel+1) listed a w:=wpAnyL_pure hi hiL hs hf hr hQ (kZe ⟨hw,hv⟩) hS h
theorem wT(i:Nat){oi:Oper}{v:Value}{fuel:Nat}{listed:Array Bool}{a:Act}{w:World}(hi:ops[i]?=some oi)(hv:∀ w,S w->(execOp a.eval oi).run P w=.ok (.value v) w)(hS:S w)(h:wpAnyL P md ops Q S L fuel (listed.setIfInBounds i true) (a.put oi.dst v) w)(hL:awaitB md ops L i=true:=by kernel_rfl)(hiL:i≠L:=by decide)(hs:Region.noSelect ops=true:=by kernel_rfl)(hf:Region.free md ops listed i=true:=by kernel_rfl)(hr:(Region.ready md ops listed).contains i=true:=by kernel_rfl)(hQ:∀ c a w,Q (.panic c) (a.put oi.dst v) w->Q (.panic c) a w:=by exact fun _ _ _ h=>h)(hw:Region.wanted oi (yielded ops a.tmps)=true:=by rfl):wpAnyL P md ops Q S L (fuel+1) listed a w:=wpAnyL_take hi hL hiL hs hf hr hQ (kZe ⟨hw,hv⟩) hS h
theorem wC(i:Nat){o:Oper}{fuel:Nat}{listed:Array Bool}{a:Act}{w:World}(ho:ops[i]?=some o)(h:∀ K':Act->World->Prop,Hid (∀ a w,S w->wpAnyL P md ops Q S L fuel (listed.setIfInBounds i true) a w->K' a w)->Oper.wp P o a w K' Q)(hiL:i≠L:=by decide)(hr:Region.ready md ops listed=[i]:=by kernel_rfl)(hw:Region.wanted o (yielded ops a.tmps)=true:=by rfl):wpAnyL P md ops Q S L (fuel+1) listed a w:=wpAnyL_call hiL hr ho hw h
theorem wV(i:Nat){oi:Oper}{v:Value}{fuel:Nat}{listed:Array Bool}{a:Act}{w:World}(hi:ops[i]?=some oi)(hS:S w)(h:wpAnyL P md ops Q S L fuel (listed.setIfInBounds i true) (a.put oi.dst v) w)(hv:∀ w,S w->(execOp a.eval oi).run P w=.ok (.value v) w:=by intro w h;revert h;(try simp only [and_imp]);intros;go_simp;try with_reducible rfl)(hL:awaitB md ops L i=true:=by kernel_rfl)(hiL:i≠L:=by decide)(hs:Region.noSelect ops=true:=by kernel_rfl)(hf:Region.free md ops listed i=true:=by kernel_rfl)(hr:(Region.ready md ops listed).contains i=true:=by kernel_rfl)(hQ:∀ c a w,Q (.panic c) (a.put oi.dst v) w->Q (.panic c) a w:=by exact fun _ _ _ h=>h)(hw:Region.wanted oi (yielded ops a.tmps)=true:=by rfl):wpAnyL P md ops Q S L (fuel+1) listed a w:=wpAnyL_take hi hL hiL hs hf hr hQ (kZe ⟨hw,hv⟩) hS h
theorem wX{R:World->Prop}{id:Nat}{a:Act}{w:World}(_k:Hid (∀ x,R x->S x))(L:Nat)(h:wpAnyL P .any ops Q S L ops.size (Array.replicate ops.size false) a w.drew)(hm:P.follows .mixedOrders=true:=by kernel_rfl):(Code.region id ops true).wp P Q a w:=wp_region_last S L hm h
end Go.Proofs.YtojpooidhilnfaaGreatDoor
namespace Go.Proofs.YtojpooidhilnfaaGreatDoor
open Go.Proofs.Tryz
open Go.RowKit
structure FrS(S:Nat->Prop)(w w':World):Prop where
 os:w'.os=w.os
 tape:w'.tape=w.tape
 output:w'.output=w.output
 size:w.heap.size<=w'.heap.size
 block:∀b,b<w.heap.size->¬S b->w'.heap[b]?=w.heap[b]?
def NoT(S:Nat->Prop)(w:World)(t:TypeId):Prop:=∀b,S b->∀cs fr,w.heap[b]?≠some (.cells cs t fr)
section
variable {S S':Nat->Prop} {w w' w2:World}
theorem FrS.of_ext(h:Ext w w'):FrS S w w':=⟨h.os,h.tape,h.output,h.size,fun b hb _=>h.block b hb⟩
theorem eE:type_of% @FrS.of_ext:=@FrS.of_ext
theorem FrS.refl(S:Nat->Prop)w:FrS S w w:=eE (eR w)
theorem FrS.of_grown{row:Option Nat}(h:w.grownBy w' row)(hs:∀g,row=some g->S g):FrS S w w':=⟨h.os,h.tape,h.output,h.size,fun b hb hn=>h.block b hb (fun e=>hn (hs b e.symm))⟩
theorem eG:type_of% @FrS.of_grown:=@FrS.of_grown
theorem FrS.tr(h:FrS S w w')(k:FrS S' w' w2)(hs:∀b,S' b->S b\/w.heap.size<=b):FrS S w w2:=
 ⟨k.os.trans h.os,k.tape.trans h.tape,k.output.trans h.output,yY h.size k.size,fun b hb hn=>(k.block b (yL hb h.size) (fun h1=>by
  rcases hs b h1 with h2|h2
  ·exact hn h2
  ·omega)).trans (h.block b hb hn)⟩
theorem FrS.mono(h:FrS S w w')(hs:∀b,S b->S' b):FrS S' w w':=⟨h.os,h.tape,h.output,h.size,fun b hb hn=>h.block b hb fun h1=>hn (hs b h1)⟩
theorem FrS.ext{w0}(k:FrS S w w')(h:Ext w0 w)(hs:∀b,S b->w0.heap.size<=b):Ext w0 w':=
 ⟨k.os.trans h.os,k.tape.trans h.tape,k.output.trans h.output,yY h.size k.size,fun b hb=>(k.block b (yL hb h.size) (fun h1=>by have:=hs b h1;omega)).trans (h.block b hb)⟩
theorem FrS.blk{b:Nat}{t:TypeId}{cs:Array Value}(k:FrS S w w')(h:Blk w b t cs)(hb:¬S b):Blk w' b t cs:=(k.block b h.lt hb).trans h
theorem FrS.rdT{t:TypeId}{A}{xs:List Value}(k:FrS S w w')(hn:NoT S w t)(h:RdT w t A xs):RdT w' t A xs:=fun hx=>by
 obtain⟨b,o,cs,fr,e1,e2,e3⟩:=h hx;refine⟨b,o,cs,fr,e1,(k.block b (iE e2) (fun h1=>?_)).trans e2,e3⟩;exact hn b h1 cs fr e2
theorem FrS.natR{A}{n c N:Nat}(k:FrS S w w')(hn:NoT S w 188)(h:aF w A n c N):aF w' A n c N:=by
 obtain⟨ds,h1,h2,h3,h4,h5⟩:=h;exact⟨ds,h1,h2,h3,h4,k.rdT hn h5⟩
theorem FrS.ratR{neg:Bool}{A}{n c:Nat}{A'}{n' c':Nat}{q:Rat}(k:FrS S w w')(hn:NoT S w 188)(h:aE w neg A n c A' n' c' q):aE w' neg A n c A' n' c' q:=
 ⟨h.1,k.natR hn h.2.1,k.natR hn h.2.2⟩
theorem FrS.qr{cs:List Value}{q:Rat}(k:FrS S w w')(hn:NoT S w 188)(h:QR w cs q):QR w' cs q:=by
 obtain⟨neg,A,n,c,A',n',c',e,h1⟩:=h;exact⟨neg,A,n,c,A',n',c',e,k.ratR hn h1⟩
theorem FrS.own{B n s:Nat}{e:TypeId}{v:Value}{xs:List Value}(k:FrS S w w')(h:w.ownsRow B e s v n xs)(hn:∀g,v.ownBlock=some g->¬S g):w'.ownsRow B e s v n xs:=by
 refine⟨h.1,?_⟩;rcases h.2 with h1|⟨g,cap,cur,h1,h2,h3,h4⟩
 ·exact .inl h1
 exact .inr ⟨g,cap,cur,h1,h2,(k.block g (iE h3) (hn g (by rw[h1];rfl))).trans h3,h4⟩
theorem FrS.oq{B:Nat}{v:Value}{qs:LQ}(k:FrS S w w')(hn:NoT S w 188)(h:OQ QR 35 w B v qs)(hv:∀g,v.ownBlock=some g->¬S g):OQ QR 35 w' B v qs:=by
 obtain⟨css,h1,h2,h3,h4⟩:=h;refine⟨css,h1,h2,k.own h3 hv,fun i q hq=>?_⟩;obtain⟨cs,k1,k2⟩:=h4 i q hq;exact⟨cs,k1,k.qr hn k2⟩
theorem cC{B n s:Nat}{e:TypeId}{v:Value}{xs:List Value}(h:w.ownsRow B e s v n xs){g:Nat}(hg:v.ownBlock=some g){t:TypeId}(ht:e≠t):∀cs fr,w.heap[g]?≠some (.cells cs t fr):=fun cs fr e2=>by
 (rcases h.2 with⟨h1,_⟩|⟨g',cap,cur,h1,h2,h3,h4⟩);{rw[h1]at hg;cases hg};{rw[h1]at hg;(injection hg with hg);(have hg:g'=g:=hg;subst hg;rw[h3]at e2;injection e2 with e2);(injection e2 with _ e2);exact ht e2}
theorem NoT.one{g:Nat}{t t':TypeId}{cs:Array Value}(h:Blk w g t cs)(ht:t≠t'):NoT (fun b=>b=g) w t':=fun b hb cs' fr e=>by
 subst hb;unfold Blk at h;rw[h]at e;injection e with e
 injection e with _ e
 exact ht e
theorem aT{B n s:Nat}{e:TypeId}{v:Value}{xs:List Value}(h:w.ownsRow B e s v n xs){g:Nat}(hg:v.ownBlock=some g):∃cs,Blk w g e cs:=by
 rcases h.2 with⟨h1,_⟩|⟨g',cap,cur,h1,h2,h3,h4⟩
 ·rw[h1]at hg;cases hg
 rw[h1]at hg;injection hg with hg
 have hg:g'=g:=hg;subst hg;exact⟨cur,h3⟩
theorem OQ.cell{B g c:Nat}{qs:LQ}{n:Nat}(h:OQ QR 35 w B (.s (sA g) n c) qs){i:Nat}{q:Rat}(hl:qs[i]?=some q):
  ∃(neg:Bool) (A:OA) (n c:Nat) (A':OA) (n' c':Nat),
   (w.cell? (aD g (i*3))=some (.bool neg)/\w.cell? (aD g (i*3+1))=some (.s A n c)/\w.cell? (aD g (i*3+2))=some (.s A' n' c'))/\
   (w.frozen? (aD g (i*3))=false/\w.frozen? (aD g (i*3+1))=false/\w.frozen? (aD g (i*3+2))=false)/\aE w neg A n c A' n' c' q:=by
 obtain⟨css,h1,h2,h3,h4⟩:=h;obtain⟨cs,k1,neg,A,n1,c1,A',n',c',rfl,k2⟩:=h4 i q hl;have hi:=(yH.1 hl).1;obtain⟨cb,hb⟩:=aT h3 (g:=g) rfl;have qa:∀k,k<3->w.cell? (aD g (i*3+k))=([.bool neg,.s A n1 c1,.s A' n' c']:List Value)[k]?:=fun k hk=>(by (have hf:=eL css h2 i k (by omega) hk;rw[k1]at hf;rcases h3.2 with⟨e,_⟩|⟨g',cap,cur,e,_,h5,h6,h7,h8,h9⟩);{cases e};(injection e with e1 e2 e3);(injection e1 with e1);(injection e1 with e1);subst e1;have qe:Blk w g 35 cur:=h5;rw[qe.cell, <-kQw];rw[<-h9,xG,if_pos (by omega)]at hf;exact hf);exact⟨neg,A,n1,c1,A',n',c',⟨qa 0 (by omega),qa 1 (by omega),qa 2 (by omega)⟩,⟨hb.frozen _,hb.frozen _,hb.frozen _⟩,k2⟩
theorem oS{B g n c s k:Nat}{e:TypeId}{xs:List Value}(h:w.ownsRow B e s (.s (sA g) n c) n xs)(u:Value):(w.setCell (aD g k) u).ownsRow B e s (.s (sA g) n c) n (xs.set k u):=by
 refine⟨by rw[yV];exact h.1,?_⟩;rcases h.2 with⟨h3,h4⟩|⟨g',cap,cur,h3,h4,h5,h6,h7,h8,h9⟩
 ·cases h3
 have qa:=h3;injection h3 with e1 e2 e3
 injection e1 with e1
 injection e1 with e1
 subst e1;refine .inr ⟨g,cap,cur.setIfInBounds k u,qa,h4,(show Blk w g e cur from h5).sT k u,h6,h7,by simpa using h8,?_⟩;rw[Array.toList_setIfInBounds, <-h9,List.take_set]
theorem fC(w:World)(g i:Nat)(v0 v1 v2:Value):w.grownBy (((w.setCell (aD g i) v0).setCell (aD g (i+1)) v1).setCell (aD g (i+2)) v2) (some g):=
 ((aO w g i v0).trans (aO _ g (i+1) v1)).trans (aO _ g (i+2) v2)
theorem OQ.put{B g n c m:Nat}{qs:LQ}{q:Rat}{neg:Bool}{A}{n1 c1:Nat}{A'}{n' c':Nat}(h:OQ QR 35 w B (.s (sA g) n c) qs)(hn:qs.length=n)(hm:m<qs.length)(hl:aE w neg A n1 c1 A' n' c' q):
  OQ QR 35 (((w.setCell (aD g (m*3)) (.bool neg)).setCell (aD g (m*3+1)) (.s A n1 c1)).setCell (aD g (m*3+2)) (.s A' n' c')) B (.s (sA g) n c) (qs.set m q):=by
 obtain⟨css,h1,h2,h3,h4⟩:=h;rw[hn]at h3;obtain⟨cb,hb⟩:=aT h3 (g:=g) rfl;have g2:=fC w g (m*3) (.bool neg) (.s A n1 c1) (.s A' n' c');have qa:m<css.length:=(by omega);obtain⟨cs,qf⟩:∃cs,css[m]?=some cs:=⟨_,yG qa⟩;have qe:cs.length=3:=h2 cs (yJ qf);have e0:css=css.set m cs:=(by apply uK;intro i;by_cases e:m=i;{subst e;rw[yM qa];exact qf};rw[vN e]);have b:=oS (k:=m*3+2) (oS (k:=m*3+1) (oS (k:=m*3+0) h3 (.bool neg)) (.s A n1 c1)) (.s A' n' c');rw[e0,iJ css h2 m qa cs 0 _ qe (by omega),iJ css h2 m qa _ 1 _ (by simp[qe]) (by omega),iJ css h2 m qa _ 2 _ (by simp[qe]) (by omega)]at b;have e3:((cs.set 0 (.bool neg)).set 1 (.s A n1 c1)).set 2 (.s A' n' c')=[.bool neg,.s A n1 c1,.s A' n' c']:=(by (rcases cs with _|⟨a0,_|⟨a1,_|⟨a2,_|⟨a3,r⟩⟩⟩⟩);all_goals first|(simp at qe;done)|rfl);rw[e3]at b;refine⟨css.set m [.bool neg,.s A n1 c1,.s A' n' c'],by simp[h1],fun c hcc=>?_,by rw[yV,hn];exact b,fun i p hi=>?_⟩;{(rcases xE hcc with h|h);{exact h2 c h};rw[h];rfl};by_cases e:m=i;{subst e;(rw[yM hm]at hi;injection hi with hi);subst hi;exact⟨_,yM qa,neg,A,n1,c1,A',n',c',rfl,hl.other g2 hb (by decide)⟩};rw[vN e]at hi;obtain⟨qg,k1,k2⟩:=h4 i p hi;exact⟨qg,by rw[vN e];exact k1,k2.other g2 hb (by decide)⟩
def RwC(w:World)(cs:List Value)(V:Value)(q:Rat):Prop:=
 ∃(neg:Bool) (A:OA) (n c:Nat) (A':OA) (n' c':Nat),cs=[V,.bool neg,.s A n c,.s A' n' c']/\aE w neg A n c A' n' c' q
theorem RwC.K{cs:List Value}{V:Value}{q:Rat}(h:RwC w cs V q)(hx:Ext w w'):RwC w' cs V q:=by
 obtain⟨neg,A,n,c,A',n',c',e,h1⟩:=h;exact⟨neg,A,n,c,A',n',c',e,h1.K hx⟩
theorem FrS.rwc{cs:List Value}{V:Value}{q:Rat}(k:FrS S w w')(hn:NoT S w 188)(h:RwC w cs V q):RwC w' cs V q:=by
 obtain⟨neg,A,n,c,A',n',c',e,h1⟩:=h;exact⟨neg,A,n,c,A',n',c',e,k.ratR hn h1⟩
end
structure aS where
 p:Nat
 vr:Value
 vb:Value
 vf:Value
 V:Nat->Value
 m:Nat
def aS.S(L:aS)(b:Nat):Prop:=b=L.p\/L.vr.ownBlock=some b\/L.vb.ownBlock=some b\/L.vf.ownBlock=some b\/∃i,i<=L.m/\(L.V i).ownBlock=some b
structure aG(w:World)(B:Nat)(L:aS)(T:Sx.Tb):Prop where
 rl:T.rows.length=L.m
 lo:B<=L.p
 box:∃gs,RwC w gs (L.V L.m) T.goal.re/\Blk w L.p 165 ([L.vr,L.vb,L.vf]++gs++[Value.int .i64 (T.cols:Int)]).toArray
 rows:∃css:List (List Value),css.length=L.m/\(∀cs∈css,cs.length=4)/\w.ownsRow B 163 4 L.vr L.m css.flatten/\∀i,i<L.m->∃cs,css[i]?=some cs/\RwC w cs (L.V i) (T.row i).re
 bl:T.bas.length=L.m
 bas:w.ownsRow B 3 1 L.vb L.m (ints T.bas)
 fre:w.ownsRow B 3 1 L.vf T.fre.length (ints T.fre)
 bf:L.vb.ownBlock=none\/L.vb.ownBlock≠L.vf.ownBlock
 co:∀i,i<L.m->OQ QR 35 w B (L.V i) (T.row i).co
 go:OQ QR 35 w B (L.V L.m) T.goal.co
 sep:∀i k,i<=L.m->k<=L.m->i≠k->(L.V i).ownBlock=none\/(L.V i).ownBlock≠(L.V k).ownBlock
theorem QR.keep_:∀(w w':World) (cs:List Value) (q:Rat),QR w cs q->Ext w w'->QR w' cs q:=fun _ _ _ _ h hx=>h.K hx
theorem OQ.own{w}{B:Nat}{v:Value}{qs:LQ}(h:OQ QR 35 w B v qs):∃xs,w.ownsRow B 35 3 v qs.length xs:=by
 obtain⟨css,_,_,h3,_⟩:=h;exact⟨_,h3⟩
section
variable {w w':World} {B:Nat} {L:aS} {T:Sx.Tb}
theorem aG.oq(h:aG w B L T){i:Nat}(hi:i<=L.m):∃qs,OQ QR 35 w B (L.V i) qs:=by
 by_cases e:i<L.m;{exact⟨_,h.co i e⟩};obtain rfl:i=L.m:=(by omega);exact⟨_,h.go⟩
theorem aG.ty(h:aG w B L T){b:Nat}(hb:L.S b):B<=b/\b<w.heap.size/\∃cs t,Blk w b t cs/\(t=165\/t=163\/t=3\/t=35):=by
 (rcases hb with rfl|hb|hb|hb|⟨i,hi,hb⟩);{obtain⟨gs,_,h2⟩:=h.box;exact⟨h.lo,h2.lt,_,_,h2,.inl rfl⟩};{obtain⟨css,_,_,h3,_⟩:=h.rows;obtain⟨cs,h4⟩:=aT h3 hb;exact⟨(h3.lt b hb).1,h4.lt,_,_,h4,.inr (.inl rfl)⟩};{obtain⟨cs,h4⟩:=aT h.bas hb;exact⟨(h.bas.lt b hb).1,h4.lt,_,_,h4,.inr (.inr (.inl rfl))⟩};{obtain⟨cs,h4⟩:=aT h.fre hb;exact⟨(h.fre.lt b hb).1,h4.lt,_,_,h4,.inr (.inr (.inl rfl))⟩};obtain⟨qs,h1⟩:=h.oq hi;obtain⟨xs,h3⟩:=h1.own;obtain⟨cs,h4⟩:=aT h3 hb;exact⟨(h3.lt b hb).1,h4.lt,_,_,h4,.inr (.inr (.inr rfl))⟩
theorem aG.noT(h:aG w B L T){t:TypeId}(h1:165≠t)(h2:163≠t)(h3:3≠t)(h4:35≠t):NoT L.S w t:=fun b hb cs fr e=>by
 obtain⟨_,_,qa,t',k1,k2⟩:=h.ty hb;unfold Blk at k1;rw[k1]at e;injection e with e;(injection e with _ e);(rcases k2 with k2|k2|k2|k2);{exact h1 (by rw[<-k2,e])};{exact h2 (by rw[<-k2,e])};{exact h3 (by rw[<-k2,e])};{exact h4 (by rw[<-k2,e])}
theorem aG.no32(h:aG w B L T):NoT L.S w 188:=h.noT (by decide) (by decide) (by decide) (by decide)
theorem aG.far{S:Nat->Prop}(h:aG w B L T)(k:FrS S w w')(hn:NoT S w 188)(hs:∀b,S b->¬L.S b):aG w' B L T:=by
 have hS:∀{b:Nat},L.S b->¬S b:=fun hb h1=>hs _ h1 hb;refine⟨h.rl,h.lo,?_,?_,h.bl,k.own h.bas fun g hg=>hS (.inr (.inr (.inl hg))),k.own h.fre fun g hg=>hS (.inr (.inr (.inr (.inl hg)))),h.bf,fun i hi=>k.oq hn (h.co i hi) fun g hg=>hS (.inr (.inr (.inr (.inr ⟨i,kQe hi,hg⟩)))),k.oq hn h.go fun g hg=>hS (.inr (.inr (.inr (.inr ⟨L.m,yX _,hg⟩)))),h.sep⟩;{obtain⟨gs,h1,h2⟩:=h.box;exact⟨gs,k.rwc hn h1,k.blk h2 (hS (.inl rfl))⟩};obtain⟨css,h1,h2,h3,h4⟩:=h.rows;refine⟨css,h1,h2,k.own h3 fun g hg=>hS (.inr (.inl hg)),fun i hi=>?_⟩;obtain⟨cs,h5,h6⟩:=h4 i hi;exact⟨cs,h5,k.rwc hn h6⟩
theorem aG.K(h:aG w B L T)(hx:Ext w w'):aG w' B L T:=h.far (S:=fun _=>False) (eE hx) (fun b hb=>hb.elim) (fun b hb=>hb.elim)
end
section
variable {o:Oper} {a:Act} {Q:Exit->Act->World->Prop}
theorem jzdp{w:World}{B n s:Nat}{e:TypeId}{v:Value}{xs:List Value}(h:w.ownsRow B e s v (n+1) xs):∃g c,v=.s (sA g) (n+1) c/\n+1<=c:=by
 rcases h.2 with⟨_,h4⟩|⟨g',cap,cur,h3,h4,h5,h6,_⟩
 ·omega
 exact⟨g',cap,h3,h6⟩
theorem oT{K:Act->World->Prop}(W:World)(tS e:TypeId)(z:Value)(sz bytes:Nat)(s x:Operand)
  (ho:o.op=.call {callee:=.builtin .append,args:=#[s,x],argTypes:=#[tS,tS]})
  (ht:prog.underlying tS=some (.slice e)) (hinfo:(prog.info? e).map (fun i=>(i.zero,i.size,i.bytes))=some (some z,sz,bytes)) (hzs:z.cells.size=sz) (hsz:0<sz)
  (B:Nat) (v:Value) (n:Nat) (xs:List Value) (hs:a.eval s=v) (hown:W.ownsRow B e sz v n xs) (us:List Value) (hus:us.length=sz) (hone:∀u∈us,u.oneCell'=true) (g:Nat) (hx:a.eval x=.s (sA g) 1 1)
  (hblk:Blk W g e us.toArray) (hl:n+1<=maxLen) (hb:(n+1)*bytes<=140737488355328) (hB:B<=W.heap.size)
  (h:∀g' c' w',w'.ownsRow B e sz (.s (sA g') (n+1) c') (n+1) (xs++us)->W.grownBy w' v.ownBlock->(some g'=v.ownBlock\/g'=W.heap.size)->K (a.put o.dst (.s (sA g') (n+1) c')) w'):o.wp prog a W K Q:=by
 obtain⟨ti,hi,qf,qg,qe⟩:=info_parts hinfo;obtain⟨v',w',qa,k1,k2,k3,k4⟩:=run_append_own_at (P:=prog) W B tS o.type e ti z sz bytes ht hi qf qg qe hzs hsz v n xs hown (aD g 0) 1 1 us (by omega) (fun j u hj=>by rw[nJ,kQu];exact(hblk.cell j).trans (by simpa using hj)) hone hl hb hB;(unfold Oper.wp execOp;simp only[ho,resolve,invoke,builtin,Sem.run_bind,Sem.run_pure,Result.andThen_ok,List.map_toArray,kZa,List.map_nil,hs,hx,qa];obtain⟨g',c',rfl,_⟩:=jzdp k1;refine h g' c' w' k1 k2 ?_;rcases k4 with k4|k4);{exact .inl k4};(have k4:some g'=some W.heap.size:=k4;injection k4 with k4);exact .inr k4
theorem kY{ops:Array Oper}{rest:List Oper}(W:World)(tS e:TypeId)(z:Value)(sz bytes:Nat)(hgd:o.guard=none)(s x:Operand)
  (ho:o.op=.call {callee:=.builtin .append,args:=#[s,x],argTypes:=#[tS,tS]})
  (ht:prog.underlying tS=some (.slice e)) (hinfo:(prog.info? e).map (fun i=>(i.zero,i.size,i.bytes))=some (some z,sz,bytes)) (hzs:z.cells.size=sz) (hsz:0<sz)
  (B:Nat) (v:Value) (n:Nat) (xs:List Value) (hs:a.eval s=v) (hown:W.ownsRow B e sz v n xs) (us:List Value) (hus:us.length=sz) (hone:∀u∈us,u.oneCell'=true) (g:Nat) (hx:a.eval x=.s (sA g) 1 1)
  (hblk:Blk W g e us.toArray) (hl:n+1<=maxLen) (hb:(n+1)*bytes<=140737488355328) (hB:B<=W.heap.size)
  (h:∀g' c' w',w'.ownsRow B e sz (.s (sA g') (n+1) c') (n+1) (xs++us)->W.grownBy w' v.ownBlock->(some g'=v.ownBlock\/g'=W.heap.size)->wpList prog ops Q rest (a.put o.dst (.s (sA g') (n+1) c')) w'):wpList prog ops Q (o::rest) a W:=by
 obtain⟨ti,hi,qe,qf,qa⟩:=info_parts hinfo;refine wpList_append_own_at _ hgd s x tS ho B e ti z sz bytes ht hi qe qf qa hzs hsz v n xs hs hown (aD g 0) 1 1 us hx (by omega) ?_ hone hl hb hB ?_;{intro j u hj;rw[nJ,kQu];exact(hblk.cell j).trans (by simpa using hj)};(intro v' w' k1 k2 _ k4;obtain⟨g',c',rfl,_⟩:=jzdp k1;refine h g' c' w' k1 k2 ?_;rcases k4 with k4|k4);{exact .inl k4};(have k4:some g'=some W.heap.size:=k4;injection k4 with k4);exact .inr k4
end
end Go.Proofs.YtojpooidhilnfaaGreatDoor
