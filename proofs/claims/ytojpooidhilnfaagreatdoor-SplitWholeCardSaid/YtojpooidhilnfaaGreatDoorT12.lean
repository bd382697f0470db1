/- Walks, part 12. -/
import Derived.Test.YtojpooidhilnfaaGreatDoorT11
set_option linter.unusedVariables false
set_option linter.unusedSimpArgs false
set_option maxRecDepth 100000
set_option maxHeartbeats 8000000
namespace Go.Proofs.YtojpooidhilnfaaGreatDoor
open Go.Proofs.Tryz
namespace Sx
def ls{α:Type}(f:α->Rat):List α->Rat
 | []=>0
 |a::l=>f a+ls f l
section
variable {α:Type}
theorem ls_app(f:α->Rat):∀l k:List α,ls f (l++k)=ls f l+ls f k
 | [],k=>by show ls f k=0+ls f k;grind
 |a::l,k=>by
  show f a+ls f (l++k)=f a+ls f l+ls f k;rw[ls_app f l k];grind
theorem nO{f g:α->Rat}:∀{l:List α},(∀a∈l,f a=g a)->ls f l=ls g l
 | [],_=>rfl
 |a::l,h=>by
  show f a+ls f l=g a+ls g l;rw[h a qS,nO fun b hb=>h b (by simp[hb])]
theorem jzdf{f:α->Rat}{l:List α}(h:∀a∈l,f a=0):ls f l=0:=by
 (induction l with|nil=>rfl|cons a l ih=>show f a+ls f l=0;rw[h a qS,ih fun b hb=>h b (by simp[hb])];grind)
theorem sB{f g:α->Rat}:∀{l:List α},(∀a∈l,f a<=g a)->ls f l<=ls g l
 | [],_=>vC
 |a::l,h=>by
  show f a+ls f l<=g a+ls g l;have h1:=h a qS;have h2:=sB (l:=l) fun b hb=>h b (by simp[hb]);grind
theorem pC{f:α->Rat}:∀{l:List α},(∀a∈l,0<=f a)->0<=ls f l
 | [],_=>vC
 |a::l,h=>by
  show 0<=f a+ls f l;have h1:=h a qS;have h2:=pC (l:=l) fun b hb=>h b (by simp[hb]);grind
theorem pD(c:Rat)(f:α->Rat):∀l:List α,ls (fun a=>c*f a) l=c*ls f l
 | []=>by show(0:Rat)=c*0;grind
 |a::l=>by
  show c*f a+ls _ l=c*(f a+ls f l);rw[pD c f l];grind
theorem nQ(n:Nat)(f:α->Nat->Rat):∀l:List α,ls (fun a=>sm n (f a)) l=sm n fun k=>ls (fun a=>f a k) l
 | []=>by
   show(0:Rat)=_;exact(sm_zero n fun k _=>rfl).symm
 |a::l=>by
  show sm n (f a)+ls _ l=sm n fun k=>f a k+ls (fun a=>f a k) l;rw[nQ n f l,sm_add]
theorem wO{β:Type}(f:α->Rat)(g:β->List α):∀l:List β,ls f (l.flatMap g)=ls (fun b=>ls f (g b)) l
 | []=>rfl
 |b::l=>by
  rw[xU,ls_app,wO f g l];rfl
theorem wQ(f:Nat->Rat):∀n:Nat,ls f (List.range n)=sm n f
 |0=>rfl
 |n+1=>by
  rw[kZc,ls_app,wQ f n];show sm n f+(f n+0)=sm n f+f n;grind
end
theorem wS:∀(n:Nat) (f:Nat->Rat),sm (n+1) f=f 0+sm n fun k=>f (k+1)
 |0,f=>by show 0+f 0=f 0+0;grind
 |n+1,f=>by
  show sm (n+1) f+f (n+1)=f 0+((sm n fun k=>f (k+1))+f (n+1));rw[wS n f];grind
def zipF:List (Nat×LN)->LQ->List ((Nat×LN)×Rat)
 |p::l,q::k=>(p,q)::zipF l k
 |_,_=>[]
theorem wW(F:Nat×LN->Rat->Rat)(d0:Nat×LN):∀(P:List (Nat×LN)) (fl:LQ),fl.length=P.length->ls (fun z=>F z.1 z.2) (zipF P fl)=sm P.length fun k=>F (P[k]?.getD d0) (at_ fl k)
 | [],[],_=>rfl
 |p::P,q::fl,h=>by
  have h:fl.length+1=P.length+1:=h;show F p q+ls (fun z=>F z.1 z.2) (zipF P fl)=sm (P.length+1) _;rw[wS,wW F d0 P fl qO];rfl
theorem zipF_keys:∀(P:List (Nat×LN)) (fl:LQ),fl.length=P.length->(zipF P fl).map (·.1)=P
 | [],[],_=>rfl
 |p::P,q::fl,h=>by
  have h:fl.length+1=P.length+1:=h;show p::(zipF P fl).map (·.1)=_;rw[zipF_keys P fl qO]
theorem zipF_mem:∀(P:List (Nat×LN)) (fl:LQ) {z:(Nat×LN)×Rat},z∈zipF P fl->z.1∈P/\z.2∈fl
 | [],_,_,h=>by cases h
 |_::_,[],_,h=>by cases h
 |p::P,q::fl,z,h=>by
  have h:z∈(p,q)::zipF P fl:=h;rcases xZ.1 h with e|e
  ·rw[e];exact⟨qS,qS⟩
  ·have:=zipF_mem P fl e
   exact⟨by simp[this.1],by simp[this.2]⟩
def cut(d:Nat):Rat->List ((Nat×LN)×Rat)->List ((Nat×LN)×Rat)
 |_,[]=>[]
 |r,z::l=>if z.1.1=d then(if 0<(if r<z.2 then r else z.2)then [(z.1,if r<z.2 then r else z.2)]else [])++cut d (r-(if r<z.2 then r else z.2)) l else cut d r l
theorem cut_mem{d:Nat}:∀{r:Rat} {l:List ((Nat×LN)×Rat)} {z:(Nat×LN)×Rat},z∈cut d r l->z.1.1=d/\0<z.2/\∃f,(z.1,f)∈l/\z.2<=f
 |_,[],_,h=>by cases h
 |r,y::l,z,h=>by
  unfold cut at h;by_cases hd:y.1.1=d
  ·rw[qE hd]at h
   rcases xY.1 h with h1|h1
   ·by_cases hp:0<(if r<y.2 then r else y.2)
    ·rw[qE hp]at h1
     have h1:=xD.1 h1;subst h1;refine⟨hd,hp,y.2,qS,?_⟩;show(if r<y.2 then r else y.2)<=y.2
     split <;> grind
    ·rw[qF hp]at h1
     cases h1
   ·obtain⟨a1,a2,f,a4,a5⟩:=cut_mem h1
    exact⟨a1,a2,f,by simp[a4],a5⟩
  ·rw[qF hd]at h
   obtain⟨a1,a2,f,a4,a5⟩:=cut_mem h;exact⟨a1,a2,f,by simp[a4],a5⟩
theorem cut_keys(d:Nat):∀(r:Rat) (l:List ((Nat×LN)×Rat)),((cut d r l).map (·.1)).Sublist (l.map (·.1))
 |_,[]=>List.Sublist.slnil
 |r,z::l=>by
  unfold cut;by_cases hd:z.1.1=d
  ·rw[qE hd,List.map_append]
   by_cases hp:0<(if r<z.2 then r else z.2)
   ·rw[qE hp];exact(cut_keys d _ l).cons_cons _
   ·rw[qF hp];exact(cut_keys d _ l).cons _
  ·rw[qF hd];exact(cut_keys d _ l).cons _
theorem wY(d:Nat):∀(r:Rat) (l:List ((Nat×LN)×Rat)),0<=r->(∀z∈l,0<=z.2)->r<=ls (fun z=>if z.1.1=d then z.2 else 0) l->ls (fun z=>z.2) (cut d r l)=r
 |r,[],h0,_,h=>by
  have h:r<=0:=h;show(0:Rat)=r;grind
 |r,z::l,h0,hz,h=>by
  have h:r<=(if z.1.1=d then z.2 else 0)+ls _ l:=h;have qa:=hz z qS;unfold cut
  split
  ·rename_i hd
   rw[qE hd]at h;rw[ls_app];have hr:0<=r-(if r<z.2 then r else z.2):=(by split <;> grind);have hl:∀z∈l,0<=z.2:=fun y hy=>hz y (by simp[hy]);have qe:0<=ls (fun z:(Nat×LN)×Rat=>if z.1.1=d then z.2 else 0) l:=pC fun y hy=>by
    split
    ·exact hl y hy
    ·exact vC
   rw[wY d _ l hr hl (by split <;> grind)];by_cases e:r<z.2
   ·rw[qE e]
    by_cases e2:0<r
    ·rw[qE e2];show r+0+_=_;grind
    ·rw[qF e2];show 0+_=_;grind
   ·rw[qF e]
    by_cases e2:0<z.2
    ·rw[qE e2];show z.2+0+_=_;grind
    ·rw[qF e2];show 0+_=_;grind
  ·rename_i hd
   rw[qF hd]at h;exact wY d r l h0 (fun y hy=>hz y (by simp[hy])) qG
theorem jzdg(d a:Nat):∀(r:Rat) (l:List ((Nat×LN)×Rat)),(∀z∈l,0<=z.2)->ls (fun z=>if a∈z.1.2 then z.2 else 0) (cut d r l)<=ls (fun z=>if z.1.1=d then(if a∈z.1.2 then z.2 else 0)else 0) l
 |r,[],_=>vC
 |r,z::l,hz=>by
  have qa:=hz z qS;have ih:=fun r=>jzdg d a r l fun y hy=>hz y (by simp[hy]);show ls _ (cut d r (z::l))<=(if z.1.1=d then(if a∈z.1.2 then z.2 else 0)else 0)+ls _ l;unfold cut;by_cases hd:z.1.1=d
  ·rw[qE hd,qE hd,ls_app]
   have ih:=ih (r-(if r<z.2 then r else z.2));have:ls (fun z:(Nat×LN)×Rat=>if a∈z.1.2 then z.2 else 0) (if 0<(if r<z.2 then r else z.2)then [(z.1,if r<z.2 then r else z.2)]else [])<=if a∈z.1.2 then z.2 else 0:=by
    by_cases e:0<(if r<z.2 then r else z.2)
    ·rw[qE e]
     show(if a∈z.1.2 then(if r<z.2 then r else z.2)else 0)+0<=_;by_cases ea:a∈z.1.2
     ·rw[qE ea,qE ea];split <;> grind
     rw[qF ea,qF ea];grind
    rw[qF e];show(0:Rat)<=_
    split <;> grind
   grind
  rw[qF hd,qF hd];have ih:=ih r;grind
structure Adm(L2 D:Nat)(am cap:Nat->Rat)(v:Rat)(Z:List ((Nat×LN)×Rat)):Prop where
 dem:∀z∈Z,z.1.1<D
 pos:∀z∈Z,0<z.2
 dif:(Z.map (·.1)).Nodup
 sum:∀d,d<D->ls (fun z=>if z.1.1=d then z.2 else 0) Z=v*am d
 cap:∀a,a<L2->ls (fun z=>if a∈z.1.2 then z.2 else 0) Z<=cap a
theorem Adm.weak{L2 D:Nat}{am cap:Nat->Rat}{v:Rat}{Z:List ((Nat×LN)×Rat)}(h:Adm L2 D am cap v Z)(hD:0<D)(ham:∀d,d<D->0<am d){pr ch:Nat->Rat}(hp:∀a,a<L2->0<=pr a)
  (hch:∀z∈Z,ch z.1.1<=sm L2 fun a=>if a∈z.1.2 then pr a else 0) (hn:1<=sm D fun d=>am d*ch d):v<=sm L2 fun a=>pr a*cap a:=by
 have hv:0<=v:=(by have h1:=h.sum 0 hD;have h2:=ham 0 hD;have h3:0<=ls (fun z:(Nat×LN)×Rat=>if z.1.1=0 then z.2 else 0) Z:=pC fun z hz=>(by split;{exact vB (h.pos z hz)};exact vC);rw[h1]at h3;exact kQ4.1 fun h4=>(by have:=Rat.mul_lt_mul_of_pos_right h4 h2;grind));have e1:v*(sm D fun d=>am d*ch d)=ls (fun z=>z.2*ch z.1.1) Z:=(by rw[<-eT];have:(sm D fun d=>v*(am d*ch d))=sm D fun d=>ls (fun z=>(if z.1.1=d then z.2 else 0)*ch d) Z:=sm_congr D fun d hd=>(by have e:=pD (ch d) (fun z:(Nat×LN)×Rat=>if z.1.1=d then z.2 else 0) Z;rw[h.sum d hd]at e;have e2:ls (fun z:(Nat×LN)×Rat=>(if z.1.1=d then z.2 else 0)*ch d) Z=ls (fun z=>ch d*(if z.1.1=d then z.2 else 0)) Z:=nO fun z _=>qG;rw[e2,e];grind);rw[this, <-nQ];exact nO fun z hz=>(by rw[sm_one D (h.dem z hz) fun d _ hd=>by rw[qF (fun e=>hd e.symm)];grind,qE rfl]));have e2:ls (fun z=>z.2*ch z.1.1) Z<=ls (fun z=>sm L2 fun a=>pr a*(if a∈z.1.2 then z.2 else 0)) Z:=sB fun z hz=>(by have h1:=yT (hch z hz) (vB (h.pos z hz));rw[<-eT]at h1;have:(sm L2 fun a=>z.2*(if a∈z.1.2 then pr a else 0))=sm L2 fun a=>pr a*(if a∈z.1.2 then z.2 else 0):=sm_congr L2 fun a _=>(by split <;> grind);rw[this]at h1;exact h1);have e3:ls (fun z=>sm L2 fun a=>pr a*(if a∈z.1.2 then z.2 else 0)) Z<=sm L2 fun a=>pr a*cap a:=(by rw[nQ];refine sm_le L2 fun a ha=>?_;rw[pD];exact yT (h.cap a ha) (hp a ha));have e4:v*1<=v*(sm D fun d=>am d*ch d):=yT hn hv;grind
def planZ(D:Nat)(am:Nat->Rat)(v:Rat)(Z:List ((Nat×LN)×Rat)):List ((Nat×LN)×Rat):=(List.range D).flatMap fun d=>cut d (v*am d) Z
theorem jzdh{D:Nat}{am:Nat->Rat}{v:Rat}{Z:List ((Nat×LN)×Rat)}(h:(Z.map (·.1)).Nodup):((planZ D am v Z).map (·.1)).Nodup:=by
 unfold planZ;(induction D with|zero=>exact List.nodup_nil|succ D ih=>rw[kZc,List.flatMap_append,List.map_append,List.nodup_append];refine⟨ih,?_,fun x hx y hy=>?_⟩;{simp only[xU,List.flatMap_nil,List.append_nil];exact(cut_keys D _ Z).nodup h};obtain⟨z,hz,rfl⟩:=kQl.1 hx;obtain⟨z',qa,rfl⟩:=kQl.1 hy;simp only[xU,List.flatMap_nil,List.append_nil]at qa;obtain⟨d,hd,hz⟩:=kZx.1 hz;have h1:=(cut_mem hz).1;have h2:=(cut_mem qa).1;have h3:=vX.1 hd;intro e;rw[e]at h1;omega)
theorem jzl5{L2 D:Nat}{am cap:Nat->Rat}{v:Rat}{Z:List ((Nat×LN)×Rat)}(hz:∀z∈Z,0<=z.2)(hd:(Z.map (·.1)).Nodup)(hv:∀d,d<D->0<=v*am d)
  (hs:∀d,d<D->v*am d<=ls (fun z=>if z.1.1=d then z.2 else 0) Z) (hc:∀a,a<L2->ls (fun z=>if a∈z.1.2 then z.2 else 0) Z<=cap a):Adm L2 D am cap v (planZ D am v Z):=by
 refine⟨fun z h=>?_,fun z h=>?_,jzdh hd,fun d h=>?_,fun a h=>?_⟩;{obtain⟨d,h1,h2⟩:=kZx.1 h;rw[(cut_mem h2).1];exact vX.1 h1};{obtain⟨d,h1,h2⟩:=kZx.1 h;exact(cut_mem h2).2.1};{unfold planZ;rw[wO,wQ,sm_one D h fun k hk hkd=>jzdf fun z hz2=>by rw[qF];rw[(cut_mem hz2).1];exact hkd];refine Eq.trans ?_ (wY d (v*am d) Z (hv d h) hz (hs d h));refine nO fun z hz2=>?_;rw[qE (cut_mem hz2).1]};refine kQs ?_ (hc a h);unfold planZ;rw[wO,wQ];refine kQs (sm_le D fun d _=>jzdg d a _ Z hz) ?_;rw[<-nQ];refine sB fun z hz2=>?_;by_cases e:z.1.1<D;{rw[sm_one D e fun k _ hk=>qF (fun h=>hk h.symm),qE rfl];exact vC};rw[sm_zero D fun k hk=>qF qO];split;{exact hz z hz2};exact vC
end Sx
namespace Sx
def prTo(T:Tb)(J:Nat):LQ:=(List.range T.rows.length).map fun i=>sm J fun j=>if atN T.fre j=i then at_ T.goal.co j else 0
def prT(T:Tb):LQ:=prTo T T.fre.length
def ptTo(T:Tb)(I:Nat):LQ:=(List.range T.cols).map fun k=>sm I fun l=>if atN T.bas l=T.rows.length+k then(T.row l).re else 0
def ptT(T:Tb):LQ:=ptTo T T.rows.length
theorem prTo_len(T:Tb)(J:Nat):(prTo T J).length=T.rows.length:=by unfold prTo;simp
theorem ptTo_len(T:Tb)(I:Nat):(ptTo T I).length=T.cols:=by unfold ptTo;simp
theorem gR(n:Nat)(f:Nat->Rat)(k:Nat):((List.range n).map f)[k]?=if k<n then some (f k)else none:=by
 by_cases h:k<n;{rw[qE h,yW,xJ h];rfl};rw[qF h];exact yI (by simp;omega)
theorem prTo_zero(T:Tb):prTo T 0=List.replicate T.rows.length 0:=by
 apply uK;intro k;unfold prTo;rw[gR,xB];rfl
theorem ptTo_zero(T:Tb):ptTo T 0=List.replicate T.cols 0:=by
 apply uK;intro k;unfold ptTo;rw[gR,xB];rfl
theorem prTo_skip(T:Tb){J:Nat}(h:T.rows.length<=atN T.fre J):prTo T (J+1)=prTo T J:=by
 apply uK;intro k;unfold prTo;rw[gR,gR];by_cases hk:k<T.rows.length;{rw[qE hk,qE hk];congr 1;show sm J _+(if atN T.fre J=k then _ else 0)=_;rw[qF qO];grind};rw[qF hk,qF hk]
theorem prTo_put(T:Tb){J:Nat}(_h:atN T.fre J<T.rows.length)(hi:∀j,j<J->atN T.fre j≠atN T.fre J):prTo T (J+1)=(prTo T J).set (atN T.fre J) (at_ T.goal.co J):=by
 apply uK;intro k;by_cases hk:k<T.rows.length;{by_cases e:k=atN T.fre J;{subst e;rw[yM (by rw[prTo_len];exact hk)];unfold prTo;rw[gR,qE hk];congr 1;show sm J _+(if atN T.fre J=atN T.fre J then _ else 0)=_;rw[qE rfl,sm_zero J fun j hj=>qF (hi j hj)];grind};rw[vN (fun e2=>e e2.symm)];unfold prTo;rw[gR,gR,qE hk,qE hk];congr 1;show sm J _+(if atN T.fre J=k then _ else 0)=_;rw[qF (fun e2=>e e2.symm)];grind};rw[yI (by rw[prTo_len];omega),yI (by rw[yV,prTo_len];omega)]
theorem ptTo_skip(T:Tb){I:Nat}(h:atN T.bas I<T.rows.length):ptTo T (I+1)=ptTo T I:=by
 apply uK;intro k;unfold ptTo;rw[gR,gR];by_cases hk:k<T.cols;{rw[qE hk,qE hk];congr 1;show sm I _+(if atN T.bas I=T.rows.length+k then _ else 0)=_;rw[qF qO];grind};rw[qF hk,qF hk]
theorem ptTo_put(T:Tb){I:Nat}(h:T.rows.length<=atN T.bas I)(hi:∀j,j<I->atN T.bas j≠atN T.bas I):ptTo T (I+1)=(ptTo T I).set (atN T.bas I-T.rows.length) (T.row I).re:=by
 apply uK;intro k;by_cases hk:k<T.cols;{by_cases e:k=atN T.bas I-T.rows.length;{subst e;rw[yM (by rw[ptTo_len];exact hk)];unfold ptTo;rw[gR,qE hk];congr 1;show sm I _+(if atN T.bas I=_ then _ else 0)=_;rw[qE qO,sm_zero I fun j hj=>qF (fun e2=>hi j hj qO)];grind};rw[vN (fun e2=>e e2.symm)];unfold ptTo;rw[gR,gR,qE hk,qE hk];congr 1;show sm I _+(if atN T.bas I=_ then _ else 0)=_;rw[qF qO];grind};rw[yI (by rw[ptTo_len];omega),yI (by rw[yV,ptTo_len];omega)]
theorem jzdi{T:Tb}{m nv:Nat}{M:Nat->Nat->Rat}(h:Rep T m nv M){i:Nat}(hi:i<m):at_ (prT T) i=M m i:=by
 (unfold prT prTo;rw[h.rl,rU m _ hi];have hf:=h.fl;rcases h.all (show i<nv by omega)with⟨l,hl,e⟩|⟨j,hj,e⟩);{rw[sm_zero _ fun k hk=>qF (fun e2=>h.fb k l hk hl (by rw[e2,e]))];have:=h.di.unit l hl m (yX m);rw[e,qF qO]at this;exact this.symm};rw[sm_one _ hj fun k hk hkj=>qF (fun e2=>hkj (h.fi k j hk hj (by rw[e2,e]))),qE e,h.go j hj,e]
theorem wZ{T:Tb}{m nv:Nat}{M:Nat->Nat->Rat}(h:Rep T m nv M){k:Nat}(hk:k<T.cols):at_ (ptT T) k=xOf T m nv M (m+k):=by
 unfold ptT ptTo xOf;rw[rU _ _ hk,h.rl];exact sm_congr m fun l hl=>by rw[h.re l hl]
section
variable {L2 D:Nat} {am cap:Nat->Rat} {P:List (Nat×List Nat)} {T:Tb}
def ptZ(T:Tb)(P:List (Nat×LN)):List ((Nat×LN)×Rat):=zipF P ((ptT T).drop 1)
theorem FLP.cols(h:FLP L2 D am cap T P):T.cols=P.length+1/\T.rows.length=L2+D:=by
 obtain⟨M,h⟩:=h;have h1:=h.cols;have h2:=h.rep.fl;exact⟨qO,h.rep.rl⟩
theorem at_drop(l:LQ)(n k:Nat):at_ (l.drop n) k=at_ l (n+k):=by unfold at_;rw[List.getElem?_drop]
theorem FLP.drop_len(h:FLP L2 D am cap T P):((ptT T).drop 1).length=P.length:=by
 rw[List.length_drop];unfold ptT;rw[ptTo_len,h.cols.1];omega
theorem zipF_flow:∀(P:List (Nat×LN)) (fl:LQ),fl.length=P.length->∀(k:Nat) {p:Nat×LN} {f:Rat},(zipF P fl)[k]?=some (p,f)->at_ fl k=f
 | [],_,_,_,_,_,h=>by cases h
 |p::P,q::fl,hl,k,p',f,h=>by
  have hl:fl.length+1=P.length+1:=hl;cases k with
  |zero=>
   have h:some (p,q)=some (p',f):=h;injection h with h
   injection h with _ h
  |succ k=>exact zipF_flow P fl qO k h
structure Best(L2 D:Nat)(am cap:Nat->Rat)(T:Tb)(P:List (Nat×LN)):Prop where
 adm:Adm L2 D am cap T.goal.re (planZ D am T.goal.re (ptZ T P))
 pos:∀i,i<L2+D->0<=at_ (prT T) i
 worth:(sm L2 fun a=>at_ (prT T) a*cap a)=T.goal.re
 need:1<=sm D fun d=>am d*at_ (prT T) (L2+d)
 path:∀p∈P,at_ (prT T) (L2+p.1)<=sm L2 fun a=>if a∈p.2 then at_ (prT T) a else 0
 vnn:0<=T.goal.re
 fnn:∀z∈ptZ T P,0<=z.2
theorem FLP.best(h:FLP L2 D am cap T P)(he:entT T=none)(hD:0<D)(ham:∀d,d<D->0<am d)(hd:P.Nodup)(hP:∀p∈P,p.1<D):Best L2 D am cap T P:=by
 have qa:=h.drop_len;have qf:=h.cols.1;obtain⟨M,h⟩:=h;have hg:∀v,v<L2+D+1+P.length->0<=M (L2+D) v:=fun v hv=>(by (rcases h.rep.all hv with⟨l,hl,e⟩|⟨j,hj,e⟩);{have:=h.rep.di.unit l hl (L2+D) (yX _);rw[e,qF qO]at this;rw[this];exact vC};have:=jzcy T _ he j (by rw[h.rep.gl];exact hj);rw[h.rep.go j hj,e]at this;exact this);obtain⟨o1,o2,o3⟩:=jzlz h hg;obtain⟨p1,p2,p3,p4⟩:=jzl0 h;have hp:∀i,i<L2+D->at_ (prT T) i=M (L2+D) i:=fun i hi=>jzdi h.rep hi;have hv:T.goal.re=M (L2+D) (L2+D+1+P.length):=h.rep.gr;have hx:∀k,k<P.length->at_ ((ptT T).drop 1) k=xOf T (L2+D) (L2+D+1+P.length) M (L2+D+1+k):=fun k hk=>(by rw[at_drop,wZ h.rep qO, <-kZw]);have qe:0<=T.goal.re:=(by rw[hv,p2];exact p1 _);have hz:∀z∈ptZ T P,0<=z.2:=fun z hz=>(by obtain⟨_,h2⟩:=zipF_mem P _ hz;obtain⟨k,hk,e⟩:=List.getElem_of_mem h2;have:at_ ((ptT T).drop 1) k=z.2:=(by unfold at_;rw[yG hk,e];rfl);rw[<-this,hx k qO];exact p1 _);refine⟨jzl5 hz (by unfold ptZ;rw[zipF_keys P _ qa];exact hd) (fun d hd=>vA qe (vB (ham d hd))) (fun d hd=>?_) (fun a ha=>?_),fun i hi=>by rw[hp i hi];exact hg i qO,?_,?_,fun p hp2=>?_,qe,hz⟩;{unfold ptZ;rw[wW (fun p f=>if p.1=d then f else 0) (0,[]) P _ qa,hv];refine kQs (p4 d hd) ?_;rw[sm_congr P.length fun k hk=>by rw[<-hx k hk]];exact vC};{unfold ptZ;rw[wW (fun p f=>if a∈p.2 then f else 0) (0,[]) P _ qa];refine kQs ?_ (p3 a ha);rw[sm_congr P.length fun k hk=>by rw[hx k hk]];exact vC};{rw[hv, <-o1];exact sm_congr L2 fun a ha=>by rw[hp a qO]};{rw[sm_congr D fun d hd=>show am d*at_ (prT T) (L2+d)=M (L2+D) (L2+d)*am d by rw[hp _ qO];grind];exact o2};(obtain⟨k,hk,e⟩:=List.getElem_of_mem hp2;have h1:=o3 k hk;rw[yG hk,e]at h1;have h1:=h1 (hP p hp2);rw[hp _ (by have:=hP p hp2;omega)];refine kQs h1 (sm_le L2 fun a ha=>?_);show(if a∈p.2 then M (L2+D) a else 0)<=if a∈p.2 then at_ (prT T) a else 0);rw[hp a qO];exact vC
theorem nodup_le{α:Type}[DecidableEq α]:∀{l k:List α},l.Nodup->(∀a∈l,a∈k)->l.length<=k.length
 | [],_,_,_=>yZ _
 |a::l,k,h,hs=>by
  have h1:=kZo.1 h;have h2:=nodup_le (l:=l) (k:=k.erase a) h1.2 fun b hb=>by
   have qa:b≠a:=fun e=>h1.1 (e▸hb);exact(List.mem_erase_of_ne qa).2 (hs b (by simp[hb]))
  rw[List.length_erase_of_mem (hs a qS)]at h2;have:=List.length_pos_of_mem (hs a qS);show l.length+1<=k.length;omega
theorem planZ_nn{D:Nat}{am:Nat->Rat}{v:Rat}{Z:List ((Nat×LN)×Rat)}{z:(Nat×LN)×Rat}(h:z∈planZ D am v Z):0<z.2/\∃f,(z.1,f)∈Z/\z.2<=f:=by
 obtain⟨d,_,h2⟩:=kZx.1 h;exact⟨(cut_mem h2).2.1,(cut_mem h2).2.2⟩
theorem FLP.few(h:FLP L2 D am cap T P)(hd:P.Nodup):(planZ D am T.goal.re (ptZ T P)).length<=L2+D:=by
 have qa:=h.drop_len;have qf:=h.cols.1;obtain⟨M,h⟩:=h;have h1:=nodup_le (l:=(planZ D am T.goal.re (ptZ T P)).map (·.1)) (k:=(List.range (L2+D)).map fun l=>P[atN T.bas l-(L2+D+1)]?.getD (0,[])) (jzdh (by unfold ptZ;rw[zipF_keys P _ qa];exact hd)) fun p hp=>(by obtain⟨z,hz,rfl⟩:=kQl.1 hp;obtain⟨a1,f,a2,a3⟩:=planZ_nn hz;have hf:0<f:=qG;obtain⟨k,hk,e⟩:=List.getElem_of_mem a2;have qe:k<P.length:=(by have:(ptZ T P).length=P.length:=(by rw[<-xV (f:=(·.1))];unfold ptZ;rw[zipF_keys P _ qa]);omega);have e1:P[k]=z.1:=(by have h2:((ptZ T P).map (·.1))[k]?=some z.1:=(by rw[yW,yG hk,e];rfl);unfold ptZ at h2;rw[zipF_keys P _ qa,yG qe]at h2;exact Option.some.inj h2);have e2:at_ ((ptT T).drop 1) k=f:=zipF_flow P _ qa k (show(ptZ T P)[k]?=some (z.1,f) by rw[yG hk,e]);rw[at_drop,wZ h.rep qO]at e2;have e3:xOf T (L2+D) (L2+D+1+P.length) M (L2+D+(1+k))≠0:=fun e4=>(by rw[e4]at e2;grind);refine kQl.2 ?_;refine Classical.byContradiction fun hn=>e3 (jzc1 fun l hl e4=>hn ⟨l,vX.2 hl,?_⟩);rw[e4,show L2+D+(1+k)-(L2+D+1)=k by omega,yG qe];exact e1);rw[xV,xV,kZm]at h1;exact h1
def Qn(Dn:Int)(N:Nat)(q:Rat):Prop:=isI (q*(Dn:Rat))/\SzZ q N
theorem Qn.zero(Dn:Int){N:Nat}(hN:1<=N):Qn Dn N 0:=⟨by rw[Rat.zero_mul];exact isI.zero,by show 0<=N/\1<=N;omega⟩
theorem FLP.sizes(h:FLP L2 D am cap T P)(C:Nat)(hC:L2+D<=C)(hC1:1<=C)(hca:∀a,a<L2->isI (cap a)/\0<=cap a)(ham:∀d,d<D->isI (am d)/\0<=am d)(hsc:sm L2 cap<=((C:Int):Rat))(hsa:sm D am<=((C:Int):Rat)):
  ∃Dn:Int,Dn≠0/\Dn.natAbs<=C^(L2+D)/\
   (∀i,i<T.rows.length->(∀q∈(T.row i).co,Qn Dn ((L2+D+1)*C^(L2+D)) q)/\Qn Dn ((L2+D+1)*C^(L2+D)) (T.row i).re)/\
   (∀q∈T.goal.co,Qn Dn ((L2+D+1)*C^(L2+D)) q)/\Qn Dn ((L2+D+1)*C^(L2+D)) T.goal.re/\
   (∀q∈prT T,Qn Dn ((L2+D+1)*C^(L2+D)) q)/\∀q∈ptT T,Qn Dn ((L2+D+1)*C^(L2+D)) q:=by
 have qf:=h.cols.1;obtain⟨M,h,Dn,h0,h1,h2⟩:=h.size C hC hC1 hca ham hsc hsa;have qa:∀{l:LQ} {q:Rat},q∈l->∃k,k<l.length/\at_ l k=q:=fun {l q} hq=>(by obtain⟨k,hk,e⟩:=List.getElem_of_mem hq;exact⟨k,hk,by unfold at_;rw[yG hk,e];rfl⟩);have qg:=h.rep.rl;have hN:1<=(L2+D+1)*C^(L2+D):=Nat.mul_pos qO (kQy qO);refine⟨Dn,h0,h1,fun i hi=>⟨fun q hq=>?_,?_⟩,fun q hq=>?_,?_,fun q hq=>?_,fun q hq=>?_⟩;{obtain⟨k,hk,e⟩:=qa hq;rw[h.rep.cl i qO]at hk;rw[<-e,h.rep.co i k qO hk];exact h2 _ _ qO (kQe (h.rep.fv k hk))};{rw[h.rep.re i qO];exact h2 _ _ qO (yX _)};{obtain⟨k,hk,e⟩:=qa hq;rw[h.rep.gl]at hk;rw[<-e,h.rep.go k hk];exact h2 _ _ (yX _) (kQe (h.rep.fv k hk))};{rw[h.rep.gr];exact h2 _ _ (yX _) (yX _)};{obtain⟨k,hk,e⟩:=qa hq;have qe:k<L2+D:=(by unfold prT at hk;rw[prTo_len]at hk;omega);rw[<-e,jzdi h.rep qe];exact h2 _ _ (yX _) qO};obtain⟨k,hk,e⟩:=qa hq;have qe:k<T.cols:=(by unfold ptT at hk;rw[ptTo_len]at hk;exact hk);rw[<-e,wZ h.rep qe];by_cases hb:∃l,l<L2+D/\atN T.bas l=L2+D+k;{obtain⟨l,hl,e⟩:=hb;rw[<-e,h.x_bas hl];exact h2 _ _ qO (yX _)};rw[jzc1 fun l hl e=>hb ⟨l,hl,e⟩];exact Qn.zero Dn hN
theorem FLP.shape(h:FLP L2 D am cap T P):(∀i,i<T.rows.length->(T.row i).co.length=T.fre.length)/\T.goal.co.length=T.fre.length/\T.fre.length=P.length+1/\T.bas.length=L2+D/\
  (∀j k,j<T.fre.length->k<T.fre.length->atN T.fre j=atN T.fre k->j=k)/\(∀j,j<T.fre.length->atN T.fre j<L2+D+1+P.length)/\
  (∀j k,j<T.bas.length->k<T.bas.length->atN T.bas j=atN T.bas k->j=k)/\∀j,j<T.bas.length->atN T.bas j<L2+D+1+P.length:=by
 have hc:=h.cols;obtain⟨M,h⟩:=h;have hb:=h.rep.bl;exact⟨fun i hi=>h.rep.cl i qO,h.rep.gl,by have:=h.cols;omega,hb,h.rep.fi,h.rep.fv,fun j k hj hk e=>h.rep.di.inj qO qO e,fun j hj=>h.rep.di.lt j qO⟩
end
end Sx
open Go.RowKit
theorem mG(n:Nat)(hn:n<=1000000000000)w:
  (Instr.makeSlice 37 (vI (n:Int)) (vI (n:Int))).run prog w=.ok (.s (sA w.heap.size) n n) (w.alloc (.cells (madeCells rV (n*3)) 35)):=by
 obtain⟨i,hi,hz,hs,hb⟩:=info_parts Tryz.info44;have qa:(i.bytes:Int)*(n:Int)<=281474976710656:=(by rw[hb];omega);have hr:=run_make (P:=prog) w 37 35 i _ underlying37 hi hz .i64 .i64 n n qO qO qa qO;simp only[xL]at hr;rw[hs]at hr;exact hr
theorem jzl6(B:Nat)(L:aR)(T:Sx.Tb)w(h:aG w B L T)(qw:T.goal.co.length=T.fre.length)(hm0:0<L.m)(hm:L.m<=1000000)(hK0:0<T.fre.length)(hK:T.fre.length<=1000000000000)
  (qg:∀j k,j<T.fre.length->k<T.fre.length->Sx.atN T.fre j=Sx.atN T.fre k->j=k) (qx:∀j,j<T.fre.length->Sx.atN T.fre j<=1000000000000) (gv cv:Nat) (hV:L.V L.m=.s (sA gv) T.fre.length cv)
  (ni:Bool) AI (li ci:Nat) AI' (li' ci':Nat):
  Calls prog 98 #[.pointer (sA L.p),.agg #[.s (sA gv) T.fre.length cv,.bool ni,.s AI li ci,.s AI' li' ci']] w fun e w'=>∃gl,e=.returned (.s (sA gl) L.m L.m)/\QB w' gl (Sx.prT T)/\w.heap.size<=gl/\Ext w w':=by
 have qa:=h.go;rw[hV]at qa;obtain⟨g,cr,qy,qQ⟩:=h.vr_form hm0;obtain⟨cp,qp,qz,p0,p1,p2,p7⟩:=h.goa;obtain⟨gf,cf,qo,qH⟩:=h.vf_form hK0;rw[qo]at p2;rw[qy]at p0;have qe:=h.fre;rw[qo]at qe;have q0:=(qp.cell 0).trans p0;have q2:=(qp.cell 2).trans p2;have qk:=h.rl;have HC:=Hx (kQa qa (kQa qe qw));have HI:=Hx (kQa qg qx);have qA:=mG L.m qO;obtain⟨bx,e0⟩:=bB w #[.s (sA gv) T.fre.length cv,.bool ni,.s AI li ci,.s AI' li' ci'] 163;have q0:=aB e0 q0;have q2:=aB e0 q2;clear h hV qp qz p0 p1 p2 p7 qy qo qa qe qw qg qx;have HE:Hid (Sx.prT T=Sx.prTo T T.fre.length):=Hx (rfl);generalize hKK:T.fre.length=K at*;clear hKK;have qh:(w.alloc (.cells #[.s (sA gv) K cv,.bool ni,.s AI li ci,.s AI' li' ci'] 163)).heap.size=w.heap.size+1:=qS;have qm:=QB.made (w.alloc (.cells #[.s (sA gv) K cv,.bool ni,.s AI li ci,.s AI' li' ci'] 163)) L.m;rw[qh]at qm;have QM:=Hx qm;clear qm;have xb:=(eR (w.alloc (.cells #[.s (sA gv) K cv,.bool ni,.s AI li ci,.s AI' li' ci'] 163))).alloc (.cells (madeCells rV (L.m*3)) 35);have q2:=aB xb q2;have BX:=Hx (bx.K xb);have E0:=Hx (e0.tr xb);have qj:w.heap.size<=w.heap.size+1:=Nat.le_succ _;have qn:w.heap.size≠w.heap.size+1:=qO;clear bx e0 xb;go_enter func98,ntmps98;(go_upto_region 2 with fail);generalize (w.alloc (.cells #[.s (sA gv) K cv,.bool ni,.s AI li ci,.s AI' li' ci'] 163))=W1 at*;clear qh;have I0:Hid (QB (W1.alloc (.cells (madeCells rV (L.m*3)) 35)) (w.heap.size+1) (Sx.prTo T 0)/\Blk (W1.alloc (.cells (madeCells rV (L.m*3)) 35)) w.heap.size 163 #[.s (sA gv) K cv,.bool ni,.s AI li ci,.s AI' li' ci']/\Ext w (W1.alloc (.cells (madeCells rV (L.m*3)) 35))):=Hx (⟨by rw[Sx.prTo_zero,qk];exact QM.o,BX.o,E0.o⟩);clear QM BX E0;go_wp2;go_loopg [6,7,19] K (fun q _ _ it wr=>∃n:Nat,K-n=q/\n<=K/\it=vI (n:Int)/\Hid (QB wr (w.heap.size+1) (Sx.prTo T n)/\Blk wr w.heap.size 163 #[.s (sA gv) K cv,.bool ni,.s AI li ci,.s AI' li' ci']/\Ext w wr));exact⟨0,rfl,yZ _,rfl,I0⟩;obtain⟨n,rfl,hn,rfl,I⟩:=hrel;clear I0 q0 q2 qA;by_cases qi:n<K
 ·(have nK:(n:Int)<(K:Int):=by omega);have n0:(0:Int)<=(n:Int):=qO;have qf:=aB I.o.2.2 (iA HC.o.2.1 qi);have qI:=HI.o.2 n (qi);have SK:=Hx (fun(h:T.rows.length<=Sx.atN T.fre n)=>Sx.prTo_skip T h);have SP:=Hx (fun(h:Sx.atN T.fre n<T.rows.length)=>Sx.prTo_put T h fun j hj e=>by have:=HI.o.1 j n qO (qi) e;omega);generalize hx:Sx.atN T.fre n=x at*;have x0:decide ((0:Int)<=(x:Int))=true:=yO qO;by_cases qt:x<L.m
  ·have x1:decide ((x:Int)<(L.m:Int))=true:=yO qO
   have xm:(x:Int)<(L.m:Int):=qO;have xp:(0:Int)<=(x:Int):=qO;have b0:wr.cell? (aD w.heap.size 0)=some (.s (sA gv) K cv):=I.o.2.1.cell 0;obtain⟨neg,A,l,c,A',l',c',⟨i0,i1,i2⟩,_,hR⟩:=HC.o.1.cell (aV (show n<T.goal.co.length by rw[HC.o.2.2];exact qi));have i0:=aB I.o.2.2 i0;have i1:=aB I.o.2.2 i1;have i2:=aB I.o.2.2 i2;have hR:=hR.K I.o.2.2;obtain⟨ny,Y1,my,fy,qJ,qM,qC,⟨s0,s1,s2⟩,⟨z0,z1,z2⟩,_⟩:=I.o.1.at_ (aV (show x<(Sx.prTo T n).length by rw[Sx.prTo_len,qk];exact qt));have I2:=Hx (show QB (((wr.setCell (aD (w.heap.size+1) (x*3)) (.bool neg)).setCell (aD (w.heap.size+1) (x*3+1)) (.s A l c)).setCell (aD (w.heap.size+1) (x*3+2)) (.s A' l' c')) (w.heap.size+1) (Sx.prTo T (n+1))/\
     Blk (((wr.setCell (aD (w.heap.size+1) (x*3)) (.bool neg)).setCell (aD (w.heap.size+1) (x*3+1)) (.s A l c)).setCell (aD (w.heap.size+1) (x*3+2)) (.s A' l' c')) w.heap.size 163 #[.s (sA gv) K cv,.bool ni,.s AI li ci,.s AI' li' ci']/\
     Ext w (((wr.setCell (aD (w.heap.size+1) (x*3)) (.bool neg)).setCell (aD (w.heap.size+1) (x*3+1)) (.s A l c)).setCell (aD (w.heap.size+1) (x*3+2)) (.s A' l' c'))from
    ⟨by rw[SP.o (by rw[qk];exact qt)];exact I.o.1.put (by rw[Sx.prTo_len,qk];exact qt) hR,((I.o.2.1.far (p:=(aD (w.heap.size+1) (x*3))) qn _).far (p:=(aD (w.heap.size+1) (x*3+1))) qn _).far (p:=(aD (w.heap.size+1) (x*3+2))) qn _,
     ((I.o.2.2.sT (p:=(aD (w.heap.size+1) (x*3))) qj _).sT (p:=(aD (w.heap.size+1) (x*3+1))) qj _).sT (p:=(aD (w.heap.size+1) (x*3+2))) qj _⟩)
   clear hR I SK SP hx;go_wp2;go_roundg (K-(n+1));exact⟨n+1,rfl,qO,by go_num,I2⟩;omega
  have x1:decide ((x:Int)<(L.m:Int))=false:=yP qO;have I2:Hid (QB wr (w.heap.size+1) (Sx.prTo T (n+1))/\Blk wr w.heap.size 163 #[.s (sA gv) K cv,.bool ni,.s AI li ci,.s AI' li' ci']/\Ext w wr):=Hx (⟨by rw[SK.o qO];exact I.o.1,I.o.2⟩);clear I SK SP hx;go_wp2;go_roundg (K-(n+1));exact⟨n+1,rfl,qO,by go_num,I2⟩;omega
 obtain rfl:n=K:=qO;go_wp2;go_ret;exact⟨w.heap.size+1,rfl,by rw[HE.o];exact I.o.1,qj,I.o.2.2⟩
theorem jzdj(B:Nat)(L:aR)(T:Sx.Tb)w(h:aG w B L T)(hgl:T.goal.co.length=T.fre.length)(hm0:0<L.m)(hm:L.m<=1000000)(hK0:0<T.fre.length)(hK:T.fre.length<=1000000000000)
  (hinj:∀j k,j<T.fre.length->k<T.fre.length->Sx.atN T.fre j=Sx.atN T.fre k->j=k) (hbd:∀j,j<T.fre.length->Sx.atN T.fre j<=1000000000000):
  Calls prog 45 #[.pointer (sA L.p)] w fun e w'=>∃gl,e=.returned (.s (sA gl) L.m L.m)/\QB w' gl (Sx.prT T)/\w.heap.size<=gl/\Ext w w':=by
 obtain⟨gv,cv,hV,qj,qi⟩:=h.go.form qO;rw[hgl]at hV;obtain⟨cp,qa,qg,_⟩:=h.goa;obtain⟨ni,AI,li,ci,qf,qh,qe,a0,a1,a2,a3,ra⟩:=qg;rw[hV]at a0;have q3:=(qa.cell 3).trans a0;have q4:=(qa.cell (3+1)).trans a1;have q5:=(qa.cell (3+2)).trans a2;have q6:=(qa.cell (3+3)).trans a3;have PR:=Hx (jzl6 B L T w h hgl hm0 hm hK0 hK hinj hbd gv cv hV ni AI li ci qf qh qe);clear h hgl hV qa a0 a1 a2 a3 ra hinj hbd;go_enter func45,ntmps45;go_wp2_with fail;refine PR.o.mono ?_;rintro e w2 ⟨gl,rfl,h1,h2,h3⟩;have F:=Hx (kQa h1 (kQa h2 h3));clear h1 h2 h3 PR;go_wp2;go_ret;exact⟨gl,rfl,F.o⟩
theorem jzl7(B:Nat)(L:aR)(T:Sx.Tb)w(h:aG w B L T):
  Calls prog 99 #[.pointer (sA L.p)] w (dY w T.goal.re):=by
 obtain⟨cp,qa,qh,_⟩:=h.goa;obtain⟨ni,AI,li,ci,qe,qg,qf,a0,a1,a2,a3,ra⟩:=qh;have q4:=(qa.cell (3+1)).trans a1;have q5:=(qa.cell (3+2)).trans a2;have q6:=(qa.cell (3+3)).trans a3;clear h qa a0 a1 a2 a3;obtain⟨bx,e0⟩:=bB w rV 35;have q4:=aB e0 q4;have q5:=aB e0 q5;have q6:=aB e0 q6;obtain⟨⟨p0,p1,p2⟩,f0,f1,f2⟩:=bx.t3;obtain⟨b2,e2⟩:=bB w #[.bool ni,.s AI li ci,.s qe qg qf] 35;have F:=Hx (kQa (ra.K e2) e2);clear e0 ra;go_enter func99,ntmps99;go_wp2;exact bodyPost_ret (v:=.agg #[.bool ni,.s AI li ci,.s qe qg qf]) (by simp[results,results99,go_sem,b2.cell]) rfl (⟨ni,AI,li,ci,qe,qg,qf,rfl,F.o⟩)
theorem jzl8(B:Nat)(L:aR)(T:Sx.Tb)w(h:aG w B L T)(hm0:0<L.m)(hm:L.m<=1000000)(hc:T.cols<=1000000000000)
  (qe:∀j k,j<L.m->k<L.m->Sx.atN T.bas j=Sx.atN T.bas k->j=k) (qt:∀j,j<L.m->Sx.atN T.bas j<L.m+T.cols) (qy:∀i,i<L.m->0<(T.row i).co.length):
  Calls prog 100 #[.pointer (sA L.p)] w fun e w'=>∃gl,e=.returned (.s (sA gl) T.cols T.cols)/\QB w' gl (Sx.ptT T)/\w.heap.size<=gl/\Ext w w':=by
 obtain⟨g,cr,qo,qU⟩:=h.vr_form hm0;obtain⟨gb,cb,qn,qI⟩:=h.vb_form hm0;obtain⟨cp,qi,qB,p0,p1,p2,p7⟩:=h.goa;rw[qn]at p1;rw[qo]at p0;have qa:=h.bas;rw[qn]at qa;have q0:=(qi.cell 0).trans p0;have q1:=(qi.cell 1).trans p1;have q7:=(qi.cell 7).trans p7;have qA:=h.rl;have HC:=Hx (kQa qa (kQa h qo));have HI:=Hx (kQa qe (kQa qt qy));have HE:=Hx (show Sx.ptT T=Sx.ptTo T L.m by unfold Sx.ptT;rw[qA]);have qC:=mG T.cols hc;have QM:=Hx (QB.made w T.cols);have xb:=(eR w).alloc (.cells (madeCells rV (T.cols*3)) 35);have q1:=aB xb q1;have qp:=q0;have E0:=Hx xb;clear h qi qB p0 p1 p2 p7 qo qn qa qe qt qy xb;go_enter func100,ntmps100;(go_upto_region 2 with fail);have I0:Hid (QB (w.alloc (.cells (madeCells rV (T.cols*3)) 35)) w.heap.size (Sx.ptTo T 0)/\Ext w (w.alloc (.cells (madeCells rV (T.cols*3)) 35))):=Hx (⟨by rw[Sx.ptTo_zero];exact QM.o,E0.o⟩);have Q0:=Hx qp;clear QM E0 q0 qp q7;go_wp2;go_loopg [4,5,16] L.m (fun q _ _ it wr=>∃n:Nat,L.m-n=q/\n<=L.m/\it=vI (n:Int)/\Hid (QB wr w.heap.size (Sx.ptTo T n)/\Ext w wr));exact⟨0,rfl,yZ _,rfl,I0⟩;obtain⟨n,rfl,hn,rfl,I⟩:=hrel;clear I0 q1 qC;by_cases qg:n<L.m
 ·(have nK:(n:Int)<(L.m:Int):=by omega);have n0:(0:Int)<=(n:Int):=qO;have qf:=aB I.o.2 (iA HC.o.1 qg);have q0:=aB I.o.2 Q0.o;have qJ:=HI.o.2.1 n qg;have SK:=Hx (fun(h:Sx.atN T.bas n<T.rows.length)=>Sx.ptTo_skip T h);have SP:=Hx (fun(h:T.rows.length<=Sx.atN T.bas n)=>Sx.ptTo_put T h fun j hj e=>by have:=HI.o.1 j n qO qg e;omega);generalize hx:Sx.atN T.bas n=x at*;by_cases qT:x<L.m;{have x1:decide ((L.m:Int)<=(x:Int))=false:=yP qO;have I2:Hid (QB wr w.heap.size (Sx.ptTo T (n+1))/\Ext w wr):=Hx (⟨by rw[SK.o qO];exact I.o.1,I.o.2⟩);clear I SK SP hx;go_wp2;go_roundg (L.m-(n+1));exact⟨n+1,rfl,qO,by go_num,I2⟩;omega}
  obtain⟨y,rfl⟩:∃y,x=L.m+y:=⟨x-L.m,qO⟩;have x1:decide ((L.m:Int)<=((L.m+y:Nat):Int))=true:=yO qO;have qx:y<T.cols:=qO;have yN:(y:Int)<(T.cols:Int):=qO;have y0:(0:Int)<=(y:Int):=qO;have qz:IntKind.i64.wrap ((L.m:Int)+(y:Int)-(L.m:Int))=(y:Int):=(by rw[show(L.m:Int)+(y:Int)-(L.m:Int)=(y:Int) by omega,IntKind.wrap_i64];omega);obtain⟨ca,hb,nr,R1,m1,d1,qk,qj,qh,r0,r1,r2,r3,rr⟩:=HC.o.2.1.rwa qg HC.o.2.2;have k1:=aB I.o.2 ((hb.cell _).trans r1);have k2:=aB I.o.2 ((hb.cell _).trans r2);have k3:=aB I.o.2 ((hb.cell _).trans r3);obtain⟨ny,Y1,my,fy,qM,qQ,qH,⟨s0,s1,s2⟩,⟨z0,z1,z2⟩,_⟩:=I.o.1.at_ (aV (show y<(Sx.ptTo T n).length by rw[Sx.ptTo_len];exact qx));have qm:w.heap.size<=w.heap.size:=yX _;have RR:=Hx (rr.K I.o.2);have qw:=Hx (show∀wx,Ext wr wx->QB (((wx.setCell (aD w.heap.size (y*3)) (.bool nr)).setCell (aD w.heap.size (y*3+1)) (.s R1 m1 d1)).setCell (aD w.heap.size (y*3+2)) (.s qk qj qh)) w.heap.size (Sx.ptTo T (n+1))/\
    Ext w (((wx.setCell (aD w.heap.size (y*3)) (.bool nr)).setCell (aD w.heap.size (y*3+1)) (.s R1 m1 d1)).setCell (aD w.heap.size (y*3+2)) (.s qk qj qh))from fun wx hx2=>by
   have h1:=(I.o.1.K hx2).put (m:=y) (by rw[Sx.ptTo_len];exact qx) (RR.o.K hx2);have h2:=SP.o qO;rw[show L.m+y-T.rows.length=y by omega]at h2;rw[h2];exact⟨h1,(((I.o.2.tr hx2).sT (p:=(aD w.heap.size (y*3))) qm _).sT (p:=(aD w.heap.size (y*3+1))) qm _).sT (p:=(aD w.heap.size (y*3+2))) qm _⟩)
  (clear rr hb r0 r1 r2 r3 hx;have XD:Hid (Ext wr wr.drew):=Hx ((eR wr).drewN 1);have HSW:Hid (wr.drew.cell? (aD L.p 0)=some (.s (sA g) L.m cr)/\wr.drew.cell? (aD g (n*4+1))=some (.bool nr)/\wr.drew.cell? (aD g (n*4+2))=some (.s R1 m1 d1)/\wr.drew.cell? (aD g (n*4+3))=some (.s qk qj qh)):=Hx (⟨q0,k1,k2,k3⟩);go_wp2;refine wp_region_last (fun w'=>w'.cell? (aD L.p 0)=some (.s (sA g) L.m cr)/\w'.cell? (aD g (n*4+1))=some (.bool nr)/\w'.cell? (aD g (n*4+2))=some (.s R1 m1 d1)/\w'.cell? (aD g (n*4+3))=some (.s qk qj qh)) 17 qK ?_;refine wP 0 rfl HSW.o ?_;try simp only[qN]);refine wP 1 rfl HSW.o ?_;refine wP 2 rfl HSW.o ?_;refine wP 3 rfl HSW.o ?_;refine wP 4 rfl HSW.o ?_;refine wV 5 rfl HSW.o ?_;refine wP 6 rfl HSW.o ?_;refine wP 7 rfl HSW.o ?_;refine wP 8 rfl HSW.o ?_;refine wP 9 rfl HSW.o ?_;refine wP 10 rfl HSW.o ?_;refine wV 11 rfl HSW.o ?_;refine wP 12 rfl HSW.o ?_;refine wP 13 rfl HSW.o ?_;refine wP 14 rfl HSW.o ?_;refine wV 15 rfl HSW.o ?_;(refine wP 16 rfl HSW.o ?_;try simp only[qN]);refine cY qK rfl qR (fun KK hK=>?_);go_simp;refine hK.o _ _ ?_;clear hK KK;refine wpAny_done qK ?_ _;have I2:=Hx (qw.o _ XD.o);clear qw HSW XD SK SP I;go_wp2;go_roundg (L.m-(n+1));exact⟨n+1,rfl,qO,by go_num,I2⟩;omega
 obtain rfl:n=L.m:=qO;go_wp2;go_ret;exact⟨w.heap.size,rfl,by rw[HE.o];exact I.o.1,yX _,I.o.2⟩
theorem Tryz.infoRow:(prog.info? 163).map (fun i=>(i.zero,i.size,i.bytes))=some (some (.agg #[zN,bF,zN,zN]),4,80):=by kernel_rfl
theorem Tryz.infoInt:(prog.info? 3).map (fun i=>(i.zero,i.size,i.bytes))=some (some (vI 0),1,8):=by kernel_rfl
def NwR(w:World)(B:Nat)(vr:Value)(l:LQ):Prop:=
 ∃css:List (List Value),css.length=l.length/\(∀cs∈css,cs.length=4)/\w.ownsRow B 163 4 vr l.length css.flatten/\∀i,i<l.length->∃cs,css[i]?=some cs/\RwC w cs zN (Sx.at_ l i)
theorem jzl9{w:World}{B n s:Nat}{e t:TypeId}{v:Value}{xs:List Value}(h:w.ownsRow B e s v n xs)(ht:e≠t):NoT (fun b=>v.ownBlock=some b) w t:=fun _ hb=>bE h hb ht
theorem NwR.push{W w':World}{B:Nat}{vr:Value}{l:LQ}{css:List (List Value)}(h1:css.length=l.length)(h2:∀cs∈css,cs.length=4)(hown:W.ownsRow B 163 4 vr l.length css.flatten)
  (h4:∀i,i<l.length->∃cs,css[i]?=some cs/\RwC W cs zN (Sx.at_ l i)) {neg:Bool} {A} {n c:Nat} {A'} {n' c':Nat} {q:Rat} (hq:aC W neg A n c A' n' c' q) {v':Value}
  (own':w'.ownsRow B 163 4 v' (l.length+1) (css.flatten++[zN,.bool neg,.s A n c,.s A' n' c'])) (grow:W.grownBy w' vr.ownBlock):NwR w' B v' (l++[q]):=by
 have k:FrS (fun b=>vr.ownBlock=some b) W w':=eG grow fun g e=>e;have hn:=jzl9 (t:=188) hown qD;refine⟨css++[[zN,.bool neg,.s A n c,.s A' n' c']],by simp[h1],fun cs hc=>?_,by rw[List.flatten_append,yQ];simpa using own',fun i hi=>?_⟩;{(rcases xY.1 hc with hc|hc);{exact h2 cs hc};rw[xD.1 hc];rfl};by_cases e:i<l.length;{obtain⟨cs,k1,k2⟩:=h4 i e;refine⟨cs,by rw[yR qO];exact k1,?_⟩;have:Sx.at_ (l++[q]) i=Sx.at_ l i:=(by unfold Sx.at_;rw[yR e]);rw[this];exact k.rwc hn k2};rw[yQ]at hi;have hi:i<l.length+1:=hi;have e2:i=l.length:=qO;subst e2;refine⟨_,by rw[yS qO,h1,Nat.sub_self];rfl,?_⟩;have:Sx.at_ (l++[q]) l.length=q:=(by unfold Sx.at_;rw[yS qO,Nat.sub_self];rfl);rw[this];exact⟨neg,A,n,c,A',n',c',rfl,k.ratR hn hq⟩
theorem NwR.fr{S:Nat->Prop}{w w'}{B:Nat}{vr:Value}{l:LQ}(h:NwR w B vr l)(k:FrS S w w')(hn:NoT S w 188)(hr:∀b,vr.ownBlock=some b->¬S b):NwR w' B vr l:=by
 obtain⟨css,h1,h2,h3,h4⟩:=h;refine⟨css,h1,h2,k.own h3 hr,fun i hi=>?_⟩;obtain⟨cs,k1,k2⟩:=h4 i hi;exact⟨cs,k1,k.rwc hn k2⟩
theorem NwR.K{w w'}{B:Nat}{vr:Value}{l:LQ}(h:NwR w B vr l)(hx:Ext w w'):NwR w' B vr l:=h.fr (S:=fun _=>False) (eE hx) (fun b hb=>hb.elim) (fun _ _ hb=>hb)
def lJ(vr vb:Value):Array Value:=#[vr,vb,zN,zN,bF,zN,zN,vI 0]
theorem NwR.tab{w}{B p:Nat}{vr vb:Value}{l:LQ}(h:NwR w B vr l)(hB:B<=p)(hb:Blk w p 165 (lJ vr vb))(hv:w.ownsRow B 3 1 vb l.length (ints (List.range l.length))):
  aG w B ⟨p,vr,vb,zN,fun _=>zN,l.length⟩ (Sx.newT l):=by
 have qa:∀i,i<l.length->(Sx.newT l).row i=⟨[],Sx.at_ l i⟩:=fun i hi=>(by unfold Sx.newT Sx.Tb.row Sx.at_;show((l.map fun b=>(⟨[],b⟩:Sx.Rw))[i]?).getD _=_;rw[yW,yG hi];rfl);refine⟨by unfold Sx.newT;simp,hB,⟨[zN,bF,zN,zN],⟨false,none,0,0,none,0,0,rfl,fD w⟩,hb⟩,?_,by unfold Sx.newT;simp,hv,World.ownsRow_nil _ _ _ _,?_,fun i hi=>?_,OQ.nil,fun i k _ _ _=>.inl rfl⟩;{obtain⟨css,h1,h2,h3,h4⟩:=h;refine⟨css,h1,h2,h3,fun i hi=>?_⟩;obtain⟨cs,k1,k2⟩:=h4 i hi;exact⟨cs,k1,by rw[qa i hi];exact k2⟩};{show vb.ownBlock=none\/vb.ownBlock≠none;exact Classical.em _};rw[qa i hi];exact OQ.nil
theorem jzdk(m cb:Nat)PB(bs:LQ)(hbl:bs.length=m)w(hq:QL w PB bs)(hm:m<=1000000):
  Calls prog 84 #[.s PB m cb] w fun e w'=>∃L:aR,e=.returned (.pointer (sA L.p))/\L.m=m/\L.p=w.heap.size/\aG w' w.heap.size L (Sx.newT bs)/\Ext w w':=by
 have HQ:=Hx hq;clear hq;obtain⟨b0,e0⟩:=bB w (lJ zN zN) 165;have I0:=Hx (show Blk (w.alloc (.cells (lJ zN zN) 165)) w.heap.size 165 (lJ zN zN)/\NwR (w.alloc (.cells (lJ zN zN) 165)) w.heap.size zN (bs.take 0)/\
   (w.alloc (.cells (lJ zN zN) 165)).ownsRow w.heap.size 3 1 zN 0 (ints (List.range 0))/\Ext w (w.alloc (.cells (lJ zN zN) 165))from
  ⟨b0,⟨[],qS,(fun _ h=>by cases h),by rw[List.take_zero];exact World.ownsRow_nil _ _ _ _,fun i hi=>by simp at hi⟩,World.ownsRow_nil _ _ _ _,e0⟩)
 clear b0 e0;unfold lJ at I0;go_enter func84,ntmps84;go_wp2;go_loopg [4,5,10] m (fun q _ _ it wr=>∃(n:Nat) (vr vb:Value),m-n=q/\n<=m/\it=vI (n:Int)/\Hid (Blk wr w.heap.size 165 #[vr,vb,zN,zN,bF,zN,zN,vI 0]/\NwR wr w.heap.size vr (bs.take n)/\wr.ownsRow w.heap.size 3 1 vb n (ints (List.range n))/\Ext w wr));exact⟨0,_,_,rfl,yZ _,rfl,I0⟩;obtain⟨n,vr,vb,rfl,hn,rfl,I⟩:=hrel;clear I0;by_cases qA:n<m
 ·have nM:(n:Int)<(m:Int):=by omega
  have n0:(0:Int)<=(n:Int):=qO;obtain⟨bq,oq,neg,A,l,c,A',l',c',rfl,qB,i0,i1,i2,hR⟩:=(HQ.o.K I.o.2.2.2).at_ (aV (show n<bs.length by omega));obtain⟨bx,e0⟩:=bB wr #[.bool neg,.s A l c,.s A' l' c'] 35;have W4:=Hx (show Blk (wr.alloc (.cells #[.bool neg,.s A l c,.s A' l' c'] 35)) w.heap.size 165 #[vr,vb,zN,zN,bF,zN,zN,vI 0]/\NwR (wr.alloc (.cells #[.bool neg,.s A l c,.s A' l' c'] 35)) w.heap.size vr (bs.take n)/\
    (wr.alloc (.cells #[.bool neg,.s A l c,.s A' l' c'] 35)).ownsRow w.heap.size 3 1 vb n (ints (List.range n))/\Ext w (wr.alloc (.cells #[.bool neg,.s A l c,.s A' l' c'] 35))/\aC (wr.alloc (.cells #[.bool neg,.s A l c,.s A' l' c'] 35)) neg A l c A' l' c' (Sx.at_ bs n)from
   ⟨I.o.1.K e0,I.o.2.1.K e0,(eE (S:=fun _=>False) e0).own I.o.2.2.1 (fun _ _ h=>h),I.o.2.2.2.tr e0,hR.K e0⟩)
  have BX:=Hx bx;clear hR e0 bx I;(go_upto_region 5 with fail);(have qw:(wr.alloc (.cells #[.bool neg,.s A l c,.s A' l' c'] 35)).heap.size=wr.heap.size+1:=qS;generalize wr.alloc (.cells #[.bool neg,.s A l c,.s A' l' c'] 35)=W at*;generalize wr.heap.size=gx at*;have HSW:Hid (W.drew.cell? (aD w.heap.size 0)=some vr/\W.drew.cell? (aD gx 0)=some (.bool neg)/\W.drew.cell? (aD gx 1)=some (.s A l c)/\W.drew.cell? (aD gx 2)=some (.s A' l' c')):=Hx (⟨W4.o.1.cell 0,BX.o.cell 0,BX.o.cell 1,BX.o.cell 2⟩);refine wp_region_last (fun w'=>w'.cell? (aD w.heap.size 0)=some vr/\w'.cell? (aD gx 0)=some (.bool neg)/\w'.cell? (aD gx 1)=some (.s A l c)/\w'.cell? (aD gx 2)=some (.s A' l' c')) 11 qK ?_;refine wP 0 rfl HSW.o ?_;try simp only[qN]);refine wP 1 rfl HSW.o ?_;refine wP 2 rfl HSW.o ?_;refine wP 3 rfl HSW.o ?_;refine wV 4 rfl HSW.o ?_;(refine wV 5 rfl HSW.o ?_;try simp only[qN]);refine wP 6 rfl HSW.o ?_;try simp only[qN]
  refine wC 7 rfl (fun KK hK=>?_);go_simp;have XB:Hid (Ext W (W.alloc (.cells #[zN,.bool neg,.s A l c,.s A' l' c'] 163)).drew):=Hx (((eR W).alloc _).drewN 1);have qj:=Hx (show(W.alloc (.cells #[zN,.bool neg,.s A l c,.s A' l' c'] 163)).drew.cell? (aD w.heap.size 0)=some vr/\(W.alloc (.cells #[zN,.bool neg,.s A l c,.s A' l' c'] 163)).drew.cell? (aD gx 0)=some (.bool neg)/\(W.alloc (.cells #[zN,.bool neg,.s A l c,.s A' l' c'] 163)).drew.cell? (aD gx 1)=some (.s A l c)/\(W.alloc (.cells #[zN,.bool neg,.s A l c,.s A' l' c'] 163)).drew.cell? (aD gx 2)=some (.s A' l' c')from
   ⟨(W4.o.1.K XB.o).cell 0,(BX.o.K XB.o).cell 0,(BX.o.K XB.o).cell 1,(BX.o.K XB.o).cell 2⟩)
  refine hK.o _ _ qj.o ?_;clear hK KK HSW;have HSW:=qj;have BW:Hid (Blk (W.alloc (.cells #[zN,.bool neg,.s A l c,.s A' l' c'] 163)).drew (gx+1) 163 #[zN,.bool neg,.s A l c,.s A' l' c']):=Hx (by rw[<-qw];exact eN W _ _);clear qj;generalize (W.alloc (.cells #[zN,.bool neg,.s A l c,.s A' l' c'] 163)).drew=W6 at*;obtain⟨css,h1,h2,qa,h4⟩:=W4.o.2.1.K XB.o;rw[xF,kZh qO]at h1 qa h4;refine wC 8 rfl (fun KK hK=>?_);refine nJ W6 161 163 _ 4 80 _ _ rfl underlying161 Tryz.infoRow rfl qD w.heap.size vr n css.flatten qR qa [zN,.bool neg,.s A l c,.s A' l' c'] rfl (by simp[Value.oneCell']) (gx+1) qR BW.o (by unfold maxLen;omega) qO (by have:=(W4.o.2.2.2.1.tr XB.o).size;omega) ?_;intro g7 c7 w7 qk qf qp;have k7:Hid (FrS (fun x=>vr.ownBlock=some x) W6 w7):=Hx (eG qf fun g e=>e);have NP:Hid (¬vr.ownBlock=some w.heap.size):=Hx (fun e=>bE qa e (t:=165) qD _ _ (W4.o.1.K XB.o));have NX:Hid (¬vr.ownBlock=some gx):=Hx (fun e=>bE qa e (t:=35) qD _ _ (BX.o.K XB.o));have qh:=Hx (show w7.cell? (aD w.heap.size 0)=some vr/\w7.cell? (aD gx 0)=some (.bool neg)/\w7.cell? (aD gx 1)=some (.s A l c)/\w7.cell? (aD gx 2)=some (.s A' l' c')from
   ⟨(k7.o.blk (W4.o.1.K XB.o) NP.o).cell 0,(k7.o.blk (BX.o.K XB.o) NX.o).cell 0,(k7.o.blk (BX.o.K XB.o) NX.o).cell 1,(k7.o.blk (BX.o.K XB.o) NX.o).cell 2⟩)
  have NW:Hid (NwR w7 w.heap.size (.s (sA g7) (n+1) c7) (bs.take (n+1))):=Hx (by have h5:=NwR.push (l:=bs.take n) (by rw[xF,kZh qO];exact h1) h2 (by rw[xF,kZh qO];exact qa) (fun i hi=>h4 i (by rw[xF]at hi;omega)) (W4.o.2.2.2.2.K XB.o) (v':=.s (sA g7) (n+1) c7) (by rw[xF,kZh qO];exact qk) qf;rw[show bs.take (n+1)=bs.take n++[Sx.at_ bs n] by rw[kQr,aV (show n<bs.length by omega)];rfl];exact h5);have VB:Hid (w7.ownsRow w.heap.size 3 1 vb n (ints (List.range n))):=Hx (k7.o.own ((eE (S:=fun _=>False) XB.o).own W4.o.2.2.1 (fun _ _ h=>h)) fun x hx hr=>by obtain⟨qn,qe⟩:=aS ((eE (S:=fun _=>False) XB.o).own W4.o.2.2.1 (fun _ _ h=>h)) hx;exact bE qa hr (t:=3) qD _ _ qe);(have BP:=Hx (k7.o.blk (W4.o.1.K XB.o) NP.o);have EW:Hid (Ext w w7):=Hx (k7.o.ext (W4.o.2.2.2.1.tr XB.o) fun x hx=>(qa.lt x hx).1);refine hK.o _ _ qh.o ?_;clear hK KK HSW qk qf qa h1 h2 h4;have HSW:=qh;try simp only[qN]);(have z0:w7.frozen? (aD w.heap.size 0)=false:=BP.o.frozen _;have t0:w7.cell? (aD w.heap.size 0)=some vr:=BP.o.cell 0;refine wP 9 rfl HSW.o ?_;try simp only[qN]);refine wP 10 rfl HSW.o ?_;try simp only[qN]
  refine cY qK rfl qR (fun KK hK=>?_);go_simp;refine hK.o _ _ ?_;clear hK KK HSW qh;refine wpAny_done qK ?_ _;have k8:Hid (FrS (fun x=>x=w.heap.size) w7 (w7.setCell (aD w.heap.size 0) (.s (sA g7) (n+1) c7))):=Hx (eG (aM w7 w.heap.size 0 _) fun g e=>by injection e with e;exact e.symm);have np:NoT (fun x=>x=w.heap.size) w7 188:=NoT.one BP.o qD;have I8:=Hx (show Blk (w7.setCell (aD w.heap.size 0) (.s (sA g7) (n+1) c7)) w.heap.size 165 #[.s (sA g7) (n+1) c7,vb,zN,zN,bF,zN,zN,vI 0]/\
    NwR (w7.setCell (aD w.heap.size 0) (.s (sA g7) (n+1) c7)) w.heap.size (.s (sA g7) (n+1) c7) (bs.take (n+1))/\
    (w7.setCell (aD w.heap.size 0) (.s (sA g7) (n+1) c7)).ownsRow w.heap.size 3 1 vb n (ints (List.range n))/\Ext w (w7.setCell (aD w.heap.size 0) (.s (sA g7) (n+1) c7))from
   ⟨BP.o.sT 0 _,NW.o.fr k8.o np (fun x hx e=>by
    obtain⟨qm,_,_,h9,_⟩:=NW.o;obtain⟨qn,qe⟩:=aS h9 hx;rw[e]at qe;exact absurd (bJ qe BP.o).2 qD),k8.o.own VB.o (fun x hx e=>by
    obtain⟨qn,qe⟩:=aS VB.o hx;rw[e]at qe;exact absurd (bJ qe BP.o).2 qD),k8.o.ext EW.o (fun x e=>by rw[e];exact yX _)⟩)
  clear z0 t0 np k8 k7 NP NX NW VB BP EW W4 BX BW XB css qp qw;generalize w7.setCell (aD w.heap.size 0) (.s (sA g7) (n+1) c7)=W8 at*;have p1:W8.cell? (aD w.heap.size 1)=some vb:=I8.o.1.cell 1;have qx:w.heap.size<W8.heap.size:=I8.o.1.lt;have XC:=Hx ((eR W8).alloc (.cells #[vI (n:Int)] 3));have BC:=Hx (eN W8 3 #[vI (n:Int)]);have VB:=Hx ((eE (S:=fun _=>False) XC.o).own I8.o.2.2.1 (fun _ _ h=>h));(go_wp2_with (at_builtin;refine lI _ 44 3 _ 1 8 rfl _ _ rfl underlying44 Tryz.infoInt rfl qD w.heap.size vb n (ints (List.range n)) rfl VB.o [vI (n:Int)] rfl (by simp[Value.oneCell']) W8.heap.size rfl BC.o (by unfold maxLen;omega) qO (by have:=XC.o.size;omega) ?_));intro g9 c9 w9 qi qg qt;have k9:Hid (FrS (fun x=>vb.ownBlock=some x) (W8.alloc (.cells #[vI (n:Int)] 3)) w9):=Hx (eG qg fun g e=>e);have NP:Hid (¬vb.ownBlock=some w.heap.size):=Hx (fun e=>bE VB.o e (t:=165) qD _ _ (I8.o.1.K XC.o));have BP:=Hx (k9.o.blk (I8.o.1.K XC.o) NP.o);have F:Hid (NwR w9 w.heap.size (.s (sA g7) (n+1) c7) (bs.take (n+1))/\Ext w w9):=Hx (⟨(I8.o.2.1.K XC.o).fr k9.o (fun b hb=>bE VB.o hb qD) (fun x hx hr=>by obtain⟨qm,_,_,h9,_⟩:=I8.o.2.1.K XC.o;obtain⟨qn,qe⟩:=aS h9 hx;exact bE VB.o hr (t:=163) qD _ _ qe),k9.o.ext (I8.o.2.2.2.tr XC.o) fun x hx=>(VB.o.lt x hx).1⟩)
  have qo:Hid (FrS (fun x=>x=w.heap.size) w9 (w9.setCell (aD w.heap.size 1) (.s (sA g9) (n+1) c9))):=Hx (eG (aM w9 w.heap.size 1 _) fun g e=>by injection e with e;exact e.symm);have qy:=Hx (show Blk (w9.setCell (aD w.heap.size 1) (.s (sA g9) (n+1) c9)) w.heap.size 165 #[.s (sA g7) (n+1) c7,.s (sA g9) (n+1) c9,zN,zN,bF,zN,zN,vI 0]/\
    NwR (w9.setCell (aD w.heap.size 1) (.s (sA g9) (n+1) c9)) w.heap.size (.s (sA g7) (n+1) c7) (bs.take (n+1))/\
    (w9.setCell (aD w.heap.size 1) (.s (sA g9) (n+1) c9)).ownsRow w.heap.size 3 1 (.s (sA g9) (n+1) c9) (n+1) (ints (List.range (n+1)))/\Ext w (w9.setCell (aD w.heap.size 1) (.s (sA g9) (n+1) c9))from
   ⟨BP.o.sT 1 _,F.o.1.fr qo.o (NoT.one BP.o qD) (fun x hx e=>by
    obtain⟨qm,_,_,h9,_⟩:=F.o.1;obtain⟨qn,qe⟩:=aS h9 hx;rw[e]at qe;exact absurd (bJ qe BP.o).2 qD),by
    rw[kZc,lU];exact qo.o.own qi (fun x hx e=>by
     obtain⟨qn,qe⟩:=aS qi hx;rw[e]at qe;exact absurd (bJ qe BP.o).2 qD),qo.o.ext F.o.2 (fun x e=>by rw[e];exact yX _)⟩)
  have z1:w9.frozen? (aD w.heap.size 1)=false:=BP.o.frozen _;have t1:w9.cell? (aD w.heap.size 1)=some vb:=BP.o.cell 1;clear qi qg qt k9 NP BP F qo VB BC XC I8 p1 qx;go_wp2;go_roundg (m-(n+1));exact⟨n+1,_,_,rfl,qO,by go_num,qy⟩;omega
 obtain rfl:n=m:=qO;have qz:Hid (aG wr w.heap.size ⟨w.heap.size,vr,vb,zN,fun _=>zN,n⟩ (Sx.newT bs)):=Hx (by have h1:=I.o.2.1;rw[yU qO]at h1;have h2:=I.o.2.2.1;have h3:=h1.tab (yX _) I.o.1 (by rw[hbl];exact h2);rw[hbl]at h3;exact h3);have EX:=Hx I.o.2.2.2;clear I;go_wp2;go_ret;exact⟨⟨w.heap.size,vr,vb,zN,fun _=>zN,n⟩,rfl,rfl,rfl,qz.o,EX.o⟩
def aR.setV(L:aR)(k:Nat)(v:Value):aR:=⟨L.p,L.vr,L.vb,L.vf,fun i=>if i=k then v else L.V i,L.m⟩
def aR.setF(L:aR)(v:Value):aR:=⟨L.p,L.vr,L.vb,v,L.V,L.m⟩
def gE(T:Sx.Tb)(c:Nat):Sx.Tb:=⟨T.rows,T.bas,T.fre,T.goal,c⟩
section
variable {w w':World} {B:Nat} {L:aR} {T:Sx.Tb}
theorem aR.setV_same(L:aR)(k:Nat)(v:Value):(L.setV k v).V k=v:=qE rfl
theorem aR.setV_ne(L:aR){i k:Nat}(v:Value)(h:i≠k):(L.setV k v).V i=L.V i:=qF h
theorem jzdl(h:aG w B L T){k g' n c':Nat}(hk:k<=L.m)(hg:some g'=(L.V k).ownBlock\/w.heap.size<=g'):∀i j,i<=L.m->j<=L.m->i≠j->((L.setV k (.s (sA g') n c')).V i).ownBlock=none\/((L.setV k (.s (sA g') n c')).V i).ownBlock≠((L.setV k (.s (sA g') n c')).V j).ownBlock:=by
 have qe:∀j,j<=L.m->j≠k->some g'≠(L.V j).ownBlock:=fun j hj hne e=>(by (rcases hg with h1|h1);{(rcases h.sep j k hj hk hne with h2|h2);{rw[h2]at e;cases e};exact h2 (e.symm.trans h1)};obtain⟨qs,h2⟩:=h.oq hj;obtain⟨xs,h3⟩:=h2.own;have:=(h3.lt g' e.symm).2;omega);intro i j hi hj qa;by_cases e1:i=k;{subst e1;rw[L.setV_same,L.setV_ne _ (fun e=>qa e.symm)];exact .inr (qe j hj fun e=>qa e.symm)};rw[L.setV_ne _ e1];by_cases e2:j=k;{subst e2;rw[L.setV_same];exact .inr fun e=>qe i hi e1 e.symm};rw[L.setV_ne _ e2];exact h.sep i j hi hj qa
theorem aG.row_push(h:aG w B L T){k:Nat}(hk:k<L.m){g cr g' n c':Nat}{cs:Array Value}{X':LQ}(hvr:L.vr=.s (sA g) L.m cr)(hb:Blk w g 163 cs)
  (hb':Blk w' g 163 (cs.setIfInBounds (k*4) (.s (sA g') n c'))) (ho:OQ QR 35 w' B (.s (sA g') n c') X') (hf:FrS (fun x=>x=g\/(L.V k).ownBlock=some x) w w') (hg:some g'=(L.V k).ownBlock\/w.heap.size<=g'):
  aG w' B (L.setV k (.s (sA g') n c')) (cK T k ⟨X',(T.row k).re⟩):=by
 obtain⟨qw,qh⟩:=(h.co k hk).own;have qk:∀t,163≠t->35≠t->NoT (fun x=>x=g\/(L.V k).ownBlock=some x) w t:=fun t h1 h2 b hbb c fr e=>(by (rcases hbb with rfl|hbb);{exact NoT.one hb h1 b rfl c fr e};exact bE qh hbb h2 c fr e);have qa:=qk 188 qD qD;have far:∀{t:TypeId} {b:Nat} {c:Array Value},Blk w b t c->t≠163->t≠35->¬(b=g\/(L.V k).ownBlock=some b):=fun hbb h1 h2 e=>(by (rcases e with rfl|e);{exact h1 (bJ hbb hb).2};exact bE qh e (fun e2=>h2 e2.symm) _ _ hbb);have qj:∀i,i<=L.m->i≠k->∀qs,OQ QR 35 w B (L.V i) qs->OQ QR 35 w' B (L.V i) qs:=fun i hi hne qs hq=>hf.oq qa hq fun b hbb e=>(by (obtain⟨xs,h1⟩:=hq.own;obtain⟨c,h2⟩:=aS h1 hbb;rcases e with rfl|e);{have:=(bJ h2 hb).2;exact absurd this qD};(rcases h.sep i k hi (kQe hk) hne with h3|h3);{rw[h3]at hbb;cases hbb};exact h3 (by rw[hbb,e]));have qf:k<T.rows.length:=(by rw[h.rl];exact hk);have qo:(cK T k ⟨X',(T.row k).re⟩).rows.length=L.m:=(by show(T.rows.set k _).length=_;rw[yV];exact h.rl);refine⟨qo,h.lo,?_,?_,h.bl,?_,?_,h.bf,fun i hi=>?_,?_,jzdl h (kQe hk) hg⟩;{obtain⟨gs,h1,h2⟩:=h.box;refine⟨gs,?_,hf.blk h2 (far h2 qD qD)⟩;show RwC w' gs ((L.setV k _).V L.m) _;rw[L.setV_ne _ qO];exact hf.rwc qa h1};{obtain⟨css,h1,h2,h3,h4⟩:=h.rows;obtain⟨c0,k1,k2⟩:=h4 k hk;obtain⟨neg,A,n0,c,A',qy,qx,rfl,rr⟩:=k2;obtain⟨cb,qp,nr,R1,m1,d1,qi,qg,qe,r0,r1,r2,r3,qm⟩:=h.rwa hk hvr;obtain⟨qn,_⟩:=bJ hb qp;rw[<-qn]at r0 r1 r2 r3;have qt:k*4+3<cs.size:=(kZn.1 r3).1;refine⟨css.set k [.s (sA g') n c',.bool nr,.s R1 m1 d1,.s qi qg qe],by rw[yV];exact h1,fun c hc=>?_,?_,fun i hi=>?_⟩;{(rcases xE hc with h5|h5);{exact h2 c h5};rw[h5];rfl};{show w'.ownsRow B 163 4 L.vr L.m _;rw[hvr]at h3⊢;refine jzc8 h3 h1 h2 hk hb hb' qS rfl (fun j hj=>?_) fun i hi=>?_;{(rcases(show j=0\/j=1\/j=2\/j=3 by omega)with rfl|rfl|rfl|rfl);{show(cs.setIfInBounds (k*4) _)[k*4]?=_;rw[kQ0 qO];rfl};{rw[xH qO];exact r1};{rw[xH qO];exact r2};rw[xH qO];exact r3};rw[xH qO]};rw[pB T _ i qf];by_cases e:i=k;{subst e;refine⟨_,yM qO,?_⟩;rw[qE rfl,L.setV_same];exact⟨nr,R1,m1,d1,qi,qg,qe,rfl,hf.ratR qa qm⟩};obtain⟨c,h5,h6⟩:=h4 i hi;refine⟨c,by rw[vN (fun e2=>e e2.symm)];exact h5,?_⟩;rw[qF e,L.setV_ne _ e];exact hf.rwc qa h6};{refine hf.own h.bas fun b hbb=>?_;obtain⟨c,h1⟩:=aS h.bas hbb;exact far h1 qD qD};{refine hf.own h.fre fun b hbb=>?_;obtain⟨c,h1⟩:=aS h.fre hbb;exact far h1 qD qD};{rw[pB T _ i qf];by_cases e:i=k;{subst e;rw[qE rfl,L.setV_same];exact ho};rw[qF e,L.setV_ne _ e];exact qj i (kQe hi) e _ (h.co i hi)};show OQ QR 35 w' B ((L.setV k _).V L.m) T.goal.co;rw[L.setV_ne _ qO];exact qj L.m (yX _) qO _ h.go
theorem aG.goal_push(h:aG w B L T){g' n c':Nat}{cs:Array Value}{X':LQ}(hb:Blk w L.p 165 cs)
  (hb':Blk w' L.p 165 (cs.setIfInBounds 3 (.s (sA g') n c'))) (ho:OQ QR 35 w' B (.s (sA g') n c') X') (hf:FrS (fun x=>x=L.p\/(L.V L.m).ownBlock=some x) w w') (hg:some g'=(L.V L.m).ownBlock\/w.heap.size<=g'):
  aG w' B (L.setV L.m (.s (sA g') n c')) (gD T ⟨X',T.goal.re⟩):=by
 obtain⟨qj,qg⟩:=h.go.own;have qa:NoT (fun x=>x=L.p\/(L.V L.m).ownBlock=some x) w 188:=fun b hbb c fr e=>(by (rcases hbb with rfl|hbb);{exact NoT.one hb qD _ rfl c fr e};exact bE qg hbb qD c fr e);have far:∀{t:TypeId} {b:Nat} {c:Array Value},Blk w b t c->t≠165->t≠35->¬(b=L.p\/(L.V L.m).ownBlock=some b):=fun hbb h1 h2 e=>(by (rcases e with rfl|e);{exact h1 (bJ hbb hb).2};exact bE qg e (fun e2=>h2 e2.symm) _ _ hbb);refine⟨h.rl,h.lo,?_,?_,h.bl,?_,?_,h.bf,fun i hi=>?_,?_,jzdl h (yX _) hg⟩;{obtain⟨gs,h1,h2⟩:=h.box;obtain⟨e1,_⟩:=bJ hb h2;obtain⟨n0,A0,m0,d0,qf,qh,qe,rfl,rr⟩:=h1;refine⟨[.s (sA g') n c',.bool n0,.s A0 m0 d0,.s qf qh qe],?_,?_⟩;{show RwC w' _ ((L.setV L.m _).V L.m) _;rw[L.setV_same];exact⟨n0,A0,m0,d0,qf,qh,qe,rfl,hf.ratR qa rr⟩};rw[e1]at hb';exact hb'};{obtain⟨css,h1,h2,h3,h4⟩:=h.rows;refine⟨css,h1,h2,hf.own h3 fun b hbb=>?_,fun i hi=>?_⟩;{obtain⟨c,h5⟩:=aS h3 hbb;exact far h5 qD qD};obtain⟨c,h5,h6⟩:=h4 i hi;have qi:i<L.m:=hi;exact⟨c,h5,by rw[L.setV_ne _ qO];exact hf.rwc qa h6⟩};{refine hf.own h.bas fun b hbb=>?_;obtain⟨c,h1⟩:=aS h.bas hbb;exact far h1 qD qD};{refine hf.own h.fre fun b hbb=>?_;obtain⟨c,h1⟩:=aS h.fre hbb;exact far h1 qD qD};{have qi:i<L.m:=hi;(rw[L.setV_ne _ qO];refine hf.oq qa (h.co i hi) fun b hbb e=>?_;obtain⟨xs,h1⟩:=(h.co i hi).own;obtain⟨c,h2⟩:=aS h1 hbb;rcases e with rfl|e);{have:=(bJ h2 hb).2;exact absurd this qD};(rcases h.sep i L.m (kQe hi) (yX _) qO with h3|h3);{rw[h3]at hbb;cases hbb};exact h3 (by rw[hbb,e])};show OQ QR 35 w' B ((L.setV L.m _).V L.m) X';rw[L.setV_same];exact ho
theorem aG.box_set(h:aG w B L T){k:Nat}{u:Value}(hk:k=7\/k=2):FrS (fun b=>b=L.p) w (w.setCell (aD L.p k) u)/\NoT (fun b=>b=L.p) w 188/\(∀{b:Nat} {t:TypeId} {cs:Array Value},Blk w b t cs->t≠165->¬b=L.p):=by
 obtain⟨gs,_,h2⟩:=h.box;exact⟨eG (aM w L.p k u) fun g e=>by injection e with e;exact e.symm,NoT.one h2 qD,fun hb ht e=>by rw[e]at hb;exact ht (bJ hb h2).2⟩
theorem aG.cols_set(h:aG w B L T)(c:Nat):aG (w.setCell (aD L.p 7) (vI (c:Int))) B L (gE T c)/\FrS L.S w (w.setCell (aD L.p 7) (vI (c:Int))):=by
 obtain⟨hf,qa,far⟩:=h.box_set (k:=7) (u:=vI (c:Int)) (.inl rfl);refine⟨⟨h.rl,h.lo,?_,?_,h.bl,hf.own h.bas fun b hb=>?_,hf.own h.fre fun b hb=>?_,h.bf,fun i hi=>hf.oq qa (h.co i hi) fun b hb=>?_,hf.oq qa h.go fun b hb=>?_,h.sep⟩,hf.mono fun b hb=>.inl hb⟩;{obtain⟨gs,h1,h2⟩:=h.box;obtain⟨n0,A0,m0,d0,qf,qg,qe,rfl,rr⟩:=h1;exact⟨_,⟨n0,A0,m0,d0,qf,qg,qe,rfl,hf.ratR qa rr⟩,h2.sT 7 _⟩};{obtain⟨css,h1,h2,h3,h4⟩:=h.rows;refine⟨css,h1,h2,hf.own h3 fun b hb=>?_,fun i hi=>?_⟩;{obtain⟨c,h5⟩:=aS h3 hb;exact far h5 qD};obtain⟨c,h5,h6⟩:=h4 i hi;exact⟨c,h5,hf.rwc qa h6⟩};{obtain⟨c,h1⟩:=aS h.bas hb;exact far h1 qD};{obtain⟨c,h1⟩:=aS h.fre hb;exact far h1 qD};{obtain⟨xs,h1⟩:=(h.co i hi).own;obtain⟨c,h2⟩:=aS h1 hb;exact far h2 qD};obtain⟨xs,h1⟩:=h.go.own;obtain⟨c,h2⟩:=aS h1 hb;exact far h2 qD
end
def aP(m:Nat)(ts:List (Nat×Rat)):LQ:=ts.foldl (fun v t=>v.set t.1 t.2) (List.replicate m 0)
theorem kU(m:Nat)(ts:List (Nat×Rat)):(aP m ts).length=m:=by
 have qa:∀(ts:List (Nat×Rat)) (v:LQ),(ts.foldl (fun v t=>v.set t.1 t.2) v).length=v.length:=fun ts=>(by (induction ts with|nil=>intro v;rfl|cons t ts ih=>intro v;show(ts.foldl _ (v.set t.1 t.2)).length=_;rw[ih,yV]));unfold aP;rw[qa,xC]
def dO(T:Sx.Tb)(vals:LQ)(n:Nat):Sx.Tb:=
 ⟨(List.range T.rows.length).map fun i=>if i<n then Sx.addR T vals (T.row i) (if Sx.atN T.bas i<vals.length then Sx.at_ vals (Sx.atN T.bas i)else 0)else T.row i,T.bas,T.fre,T.goal,T.cols+1⟩
theorem jzma(T:Sx.Tb)(vals:LQ)(n:Nat){i:Nat}(hi:i<T.rows.length):(dO T vals n).row i=if i<n then Sx.addR T vals (T.row i) (if Sx.atN T.bas i<vals.length then Sx.at_ vals (Sx.atN T.bas i)else 0)else T.row i:=by
 unfold dO;show((List.range T.rows.length).map _)[i]?.getD _=_;rw[yW,xJ hi];rfl
theorem jzmb(T:Sx.Tb){n:Nat}(hn:n<T.rows.length):T.rows[n]?=some (T.row n):=by
 unfold Sx.Tb.row;rw[yG hn];rfl
theorem jzmc(T:Sx.Tb)(vals:LQ):dO T vals 0=gE T (T.cols+1):=by
 unfold dO gE;congr 1;apply uK;intro n;by_cases hn:n<T.rows.length;{rw[yW,xJ hn,jzmb T hn];simp};rw[yI (by simp;omega),yI qO]
theorem jzmd(T:Sx.Tb)(vals:LQ){n:Nat}(hn:n<T.rows.length):dO T vals (n+1)=cK (dO T vals n) n (Sx.addR T vals (T.row n) (if Sx.atN T.bas n<vals.length then Sx.at_ vals (Sx.atN T.bas n)else 0)):=by
 unfold dO cK;congr 1;apply uK;intro k;by_cases hk:k<T.rows.length;{rw[yW,xJ hk];by_cases e:n=k;{subst e;rw[yM (by simp;omega)];simp};rw[vN e,yW,xJ hk];have:(k<n+1↔k<n):=qO;simp only[kQ9];by_cases h:k<n;{rw[qE (this.2 h),qE h]};rw[qF (fun h2=>h (this.1 h2)),qF h]};rw[yI (by simp;omega),yI (by simp;omega)]
theorem jzme(T:Sx.Tb)(vals:LQ):(dO T vals T.rows.length).rows=(List.range T.rows.length).map (fun i=>Sx.addR T vals (T.row i) (if Sx.atN T.bas i<vals.length then Sx.at_ vals (Sx.atN T.bas i)else 0)):=by
 unfold dO;refine List.map_congr_left fun i hi=>?_;rw[qE (vX.1 hi)]
def cL(T:Sx.Tb)(i j k:Nat):Sx.Tb:=
 ⟨(List.range T.rows.length).map (fun n=>if n=i then Sx.sclR (T.row i) j else if n<k then Sx.subR (T.row n) j (Sx.sclR (T.row i) j)else T.row n),T.bas.set i (Sx.atN T.fre j),T.fre.set j (Sx.atN T.bas i),T.goal,T.cols⟩
theorem jzmf(T:Sx.Tb){n:Nat}(hn:n<T.rows.length):T.rows[n]?=some (T.row n):=by
 unfold Sx.Tb.row;rw[yG hn];rfl
theorem jza(T:Sx.Tb)(i j k:Nat){n:Nat}(hn:n<T.rows.length):(cL T i j k).row n=if n=i then Sx.sclR (T.row i) j else if n<k then Sx.subR (T.row n) j (Sx.sclR (T.row i) j)else T.row n:=by
 unfold cL;show((List.range T.rows.length).map _)[n]?.getD _=_;rw[yW,xJ hn];rfl
theorem jzmg(T:Sx.Tb)(i j:Nat)(hi:i<T.rows.length):cL T i j 0=wM (rZ (cK T i (Sx.sclR (T.row i) j)) (T.bas.set i (Sx.atN T.fre j))) (T.fre.set j (Sx.atN T.bas i)):=by
 unfold cL wM rZ cK;congr 1;apply uK;intro n;by_cases hn:n<T.rows.length;{rw[yW,xJ hn];simp only[kQ9,Nat.not_lt_zero,if_false];by_cases e:n=i;{subst e;rw[qE rfl,yM hn]};rw[qF e,vN (fun e2=>e e2.symm),jzmf T hn]};rw[yI (by simp;omega),yI (by rw[yV];omega)]
theorem jzmh(T:Sx.Tb)(i j:Nat):cL T i j (i+1)=cL T i j i:=by
 unfold cL;congr 1;apply List.map_congr_left;intro n _;by_cases e:n=i;{rw[qE e,qE e]};rw[qF e,qF e];have:(n<i+1↔n<i):=qO;by_cases h:n<i;{rw[qE (this.2 h),qE h]};rw[qF (fun h2=>h (this.1 h2)),qF h]
theorem jzmi(T:Sx.Tb)(i j:Nat){k:Nat}(hk:k<T.rows.length)(hki:k≠i):cL T i j (k+1)=cK (cL T i j k) k (Sx.subR (T.row k) j (Sx.sclR (T.row i) j)):=by
 unfold cL cK;simp only[];congr 1;apply uK;intro n;by_cases hn:n<T.rows.length;{by_cases e:n=k;{subst e;rw[yM (by simpa using hn),yW,xJ hn];simp only[kQ9];rw[qF hki,qE qO]};rw[vN (fun e2=>e e2.symm),yW,yW,xJ hn];simp only[kQ9];have:(n<k+1↔n<k):=qO;by_cases h:n<k;{rw[qE (this.2 h),qE h]};rw[qF (fun h2=>h (this.1 h2)),qF h]};rw[yI (by simp;omega),yI (by simp;omega)]
theorem jzmj(T:Sx.Tb)(i j:Nat):gD (cL T i j T.rows.length) (Sx.subR T.goal j (Sx.sclR (T.row i) j))=Sx.pivT T i j:=by
 unfold cL gD Sx.pivT;simp only[];congr 1;apply List.map_congr_left;intro n hn;have:=vX.1 hn;by_cases e:n=i;{rw[qE e,qE e]};rw[qF e,qF e,qE this]
theorem jzmk w(B:Nat)(L:aR)(T:Sx.Tb)(h:aG w B L T)(k i j K P g cr gv cv:Nat)(hk:k<L.m)(hi:i<L.m)(hki:k≠i)(hj:j<K)(hK:K<=1000000000000)(hP:P<=1000000)
  (hvr:L.vr=.s (sA g) L.m cr) (hV:L.V i=.s (sA gv) K cv) (hck:(T.row k).co.length=K) (hci:(T.row i).co.length=K)
  (s1:∀q∈(T.row k).co,SzQ q P) (s2:SzQ (T.row k).re P) (s3:∀q∈(T.row i).co,SzQ q P) (s4:SzQ (T.row i).re P)
  (ni:Bool) AI (li ci:Nat) AI' (li' ci':Nat) (ra:aC w ni AI li ci AI' li' ci' (T.row i).re):
  Calls prog 159 #[.pointer (some (aD g (k*4))),vI (j:Int),.agg #[.s (sA gv) K cv,.bool ni,.s AI li ci,.s AI' li' ci']] w
   (fun e w'=>e=.returned (.tuple #[])/\aG w' B L (cK T k (Sx.subR (T.row k) j (T.row i)))/\FrS L.S w w'):=by
 have hX:=h.co k hk;have hY:=h.co i hi;rw[hV]at hY;obtain⟨qg,qj,qa,_,_⟩:=hX.form (by rw[hck];omega);rw[hck]at qa;obtain⟨cs,qi,qe⟩:=h.rwa hk hvr;have qf:qg≠gv:=fun e=>(by (rcases h.sep k i (kQe hk) (kQe hi) hki with h1|h1);{rw[qa]at h1;cases h1};exact h1 (by rw[qa,hV,e];rfl));have qh:=hX;rw[qa]at qh qe;refine(jzc7 B B g (k*4) 163 cs qg K qj gv cv j P (T.row k).co (T.row i).co (T.row k).re (T.row i).re ni AI li ci AI' li' ci' w qi qe qh hck hY hci ra qf qD qD hj hK hP s1 s2 s3 s4).mono ?_;rintro e w' ⟨rfl,qk,c1,c2,c3,c4,c5⟩;refine⟨rfl,?_,c5.mono fun b hb=>by (rcases hb with rfl|rfl);{exact .inr (.inl (by rw[hvr];rfl))};exact .inr (.inr (.inr (.inr ⟨k,kQe hk,by rw[qa];rfl⟩)))⟩;rw[<-qa]at c3 c4;exact h.row_upd hk hvr qa qi c1 c2 c3 c4 c5
theorem jzml w(B:Nat)(L:aR)(T:Sx.Tb)(h:aG w B L T)(i j K P g cr gv cv:Nat)(hi:i<L.m)(hj:j<K)(hK:K<=1000000000000)(hP:P<=1000000)
  (hvr:L.vr=.s (sA g) L.m cr) (hV:L.V i=.s (sA gv) K cv) (hck:T.goal.co.length=K) (hci:(T.row i).co.length=K)
  (s1:∀q∈T.goal.co,SzQ q P) (s2:SzQ T.goal.re P) (s3:∀q∈(T.row i).co,SzQ q P) (s4:SzQ (T.row i).re P)
  (ni:Bool) AI (li ci:Nat) AI' (li' ci':Nat) (ra:aC w ni AI li ci AI' li' ci' (T.row i).re):
  Calls prog 159 #[.pointer (some (aD L.p 3)),vI (j:Int),.agg #[.s (sA gv) K cv,.bool ni,.s AI li ci,.s AI' li' ci']] w
   (fun e w'=>e=.returned (.tuple #[])/\aG w' B L (gD T (Sx.subR T.goal j (T.row i)))/\FrS L.S w w'):=by
 have hX:=h.go;have hY:=h.co i hi;rw[hV]at hY;obtain⟨qg,qj,qa,_,_⟩:=hX.form (by rw[hck];omega);rw[hck]at qa;obtain⟨cs,qi,qe,_⟩:=h.goa;have qf:qg≠gv:=fun e=>(by (rcases h.sep L.m i (yX _) (kQe hi) qO with h1|h1);{rw[qa]at h1;cases h1};exact h1 (by rw[qa,hV,e];rfl));have qh:=hX;rw[qa]at qh qe;refine(jzc7 B B L.p 3 165 cs qg K qj gv cv j P T.goal.co (T.row i).co T.goal.re (T.row i).re ni AI li ci AI' li' ci' w qi qe qh hck hY hci ra qf qD qD hj hK hP s1 s2 s3 s4).mono ?_;rintro e w' ⟨rfl,qk,c1,c2,c3,c4,c5⟩;refine⟨rfl,?_,c5.mono fun b hb=>by (rcases hb with rfl|rfl);{exact .inl rfl};exact .inr (.inr (.inr (.inr ⟨L.m,yX _,by rw[qa];rfl⟩)))⟩;rw[<-qa]at c3 c4;exact h.goal_upd qa qi c1 c2 c3 c4 c5
end Go.Proofs.YtojpooidhilnfaaGreatDoor
namespace Go.Proofs.YtojpooidhilnfaaGreatDoor
open Go.Proofs.Tryz
open Go Go.RowKit
variable {P:Program} {md:Region.Mode} {ops:Array Oper} {Q:Exit->Act->World->Prop} {S:World->Prop} {L:Nat}
theorem jzmm{m i:Nat}{oi:Oper}{v:Value}(hL:awaitB md ops L m=true)(hm:awaitB md ops m i=true)(hi:ops[i]?=some oi)(hiL:i≠L)(hsel:∀(j:Nat) (o:Oper) cs b,ops[j]?=some o->o.op≠.select cs b)
  (hQ:∀c a w,Q (.panic c) (a.put oi.dst v) w->Q (.panic c) a w):
  ∀(qe:Nat) (qa:Array Bool) (a:Act) (w:World),qa.getD m true=false->
   (∀j oj,ops[j]?=some oj->j≠i->qa.getD j true=false->(∀e∈oj.after,Region.binds md e=true->e.on≠i)->oi.apart ops oj=true)->
   i∈Region.ready md ops qa->YieldsIf P ops S oi v a->S w->
   wpAnyL P md ops Q S L qe (qa.setIfInBounds i true) (a.put oi.dst v) w->wpAnyL P md ops Q S L (qe+1) qa a w:=by
 intro qe
 induction qe with
 |zero=>
  intro qa a w _ _ hr hy hS H;refine⟨fun h=>(by rw[h]at hr;cases hr),fun j hj=>?_⟩;by_cases qg:j=i
  ·subst qg;exact hy.wpOp hi hS ⟨fun e=>absurd e hiL,fun _=>⟨hS,H⟩⟩
  have:=ready_mono hj qg;rw[H.1]at this;cases this
 |succ qe ih=>
  intro qa a w qj qf hr hy hS H;refine⟨fun h=>(by rw[h]at hr;cases hr),fun j hj=>?_⟩;by_cases qg:j=i
  ·subst qg;exact hy.wpOp hi hS ⟨fun e=>absurd e hiL,fun _=>⟨hS,H⟩⟩
  have qk:j≠L:=fun e=>by
   rw[e]at hj;have qw:qa.getD m false=false:=by
    rcases kQd m qa.size with h'|h'
    ·simp[h']at qj⊢;exact qj
    simp[kQn h']
   exact oG hL hj (by simpa using qj)
  have qx:j≠m:=fun e=>by
   rw[e]at hj;exact oG hm hj (mem_ready.1 hr).1
  have h1:=H.2 j (ready_mono hj qg);obtain⟨qi,oj,qm,qn⟩:=mem_ready.1 hj;have qo:∀e∈oj.after,Region.binds md e=true->e.on≠i:=fun e he hb heq=>by
   have h1:=qn e he hb;have h0:=(mem_ready.1 hr).1;rw[heq]at h1;rcases kQd i qa.size with h'|h'
   ·simp[h']at h0 h1;rw[h0]at h1;cases h1
   simp[kQn h']at h1
  have h2:=wpOp_putIf qm (qf j oj qm qg qi qo) (fun cs b=>hsel i oi cs b hi) (fun cs b=>hsel j oj cs b qm) hQ hy h1;have qh:∀k ok,ops[k]?=some ok->k≠i->(qa.setIfInBounds j true).getD k true=false->
    (∀e∈ok.after,Region.binds md e=true->e.on≠i)->oi.apart ops ok=true:=fun k ok hk hki hun hno=>by
   refine qf k ok hk hki ?_ hno;by_cases qt:j=k
   ·subst qt;exact qi
   rw[getD_set_ne true qt]at hun;exact hun
  have qp:(qa.setIfInBounds j true).getD m true=false:=(by rw[getD_set_ne true qx];exact qj);refine wpOp_mono (fun a' w' h3=>⟨fun e=>absurd e qk,fun _=>⟨(h3.2.2 qk).1,ih (qa.setIfInBounds j true) a' w' qp qh (ready_mono hr (Ne.symm qg)) h3.1 (h3.2.2 qk).1 ?_⟩⟩) h2;rw[Array.setIfInBounds_comm _ _ qg];exact(h3.2.2 qk).2
theorem jzb{m i:Nat}{oi:Oper}{v:Value}{fuel:Nat}{listed:Array Bool}{a:Act}{w}(hi:ops[i]?=some oi)(hL:awaitB md ops L m=true)(hm:awaitB md ops m i=true)(hlm:listed.getD m true=false)(hiL:i≠L)
  (hs:Region.noSelect ops=true) (hf:Region.free md ops listed i=true) (hr:(Region.ready md ops listed).contains i=true)
  (hQ:∀c a w,Q (.panic c) (a.put oi.dst v) w->Q (.panic c) a w) (hy:YieldsIf P ops S oi v a) (hS:S w)
  (h:wpAnyL P md ops Q S L fuel (listed.setIfInBounds i true) (a.put oi.dst v) w):wpAnyL P md ops Q S L (fuel+1) listed a w:=
 jzmm hL hm hi hiL (Region.noSelect_spec hs) hQ fuel listed a w hlm (Region.free_spec hi hf) (by simpa using hr) hy hS h
end Go.Proofs.YtojpooidhilnfaaGreatDoor
