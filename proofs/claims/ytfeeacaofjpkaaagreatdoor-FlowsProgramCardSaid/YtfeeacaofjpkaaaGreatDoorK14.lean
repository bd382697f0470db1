/- Walks, part 14. -/
import Derived.Maps.OwnOps
import Derived.Maps.Views
import Derived.Test.YtfeeacaofjpkaaaGreatDoorK13
set_option linter.unusedVariables false
set_option linter.unusedSimpArgs false
set_option maxRecDepth 100000
set_option maxHeartbeats 8000000
namespace Go.Proofs.YtfeeacaofjpkaaaGreatDoor
open Go.Proofs.Tryz
open Go.RowKit
theorem FW.lt{t}{down:List Bool}{d:Nat}(hv:aH t=true):∀(p:LN) {u v:Nat},u<t.nodes.toNat->FW t down d u p v->v<t.nodes.toNat
 | [],_,_,hu,h=>by
   have h:_=_:=h;rw[<-h];exact hu
 |_::p,_,_,_,h=>FW.lt hv p (gW hv h.1).2.2.1 h.2.2
theorem jzcv{α:Type}:∀(p:List α),p=[]\/∃q a,p=q++[a]:=fun p=>by
 by_cases h:p=[];{exact .inl h};{exact .inr ⟨p.dropLast,p.getLast h,(List.dropLast_concat_getLast h).symm⟩}
theorem uY{t}(hv:aH t=true){u a:Nat}(h:a∈aL t u):((aK t a).toNat:Int)=aK t a:=by
 have:=(gW hv h).1;omega
theorem FW.alive{t}{down:List Bool}{s d:Nat}(hv:aH t=true){p:LN}{v:Nat}(h:FW t down d s p v):v=s\/v=d\/bT t (v:Int)=false:=by
 rcases jzcv p with rfl|⟨q,a,rfl⟩
 ·exact .inl (show s=v from h).symm
 obtain⟨u,_,h2,h3,rfl⟩:=FW.snoc_inv q h;unfold dF at h3;rw[<-uY hv h2,vM,Bool.or_eq_true,Bool.not_eq_true',Bool.not_eq_true',beq_iff_eq]at h3;rcases h3.2 with h4|h4
 ·exact .inr (.inl qO)
 exact .inr (.inr h4)
def KL(t:Tp)(down:List Bool)(s d n:Nat)(x:LN):Prop:=
 (x=[]/\n=s)\/∃(y:LN) (a u:Nat),x=y++[a]/\FW t down d s y u/\a∈aL t u/\bZ down a=false/\n=(aK t a).toNat
theorem KL.fw{t}{down:List Bool}{s d n:Nat}{x:LN}(hv:aH t=true)(h:KL t down s d n x)(hl:x=[]\/n=d\/bT t (n:Int)=false):FW t down d s x n:=by
 (rcases h with⟨rfl,rfl⟩|⟨y,a,u,rfl,h1,h2,h3,rfl⟩);{rfl};(refine FW.app y h1 (FW.one h2 ?_);unfold dF;rw[<-uY hv h2,h3];rcases hl with hl|hl|hl);{simp at hl};{rw[hl];simp};rw[hl];simp
structure KI(t:Tp)(down:List Bool)(ps:LQ)(s d:Nat)(V:List Bool)(fin:Nat->LN)(H:List (Nat×LN))(n:Nat)(todo:LN):Prop where
 len:V.length=t.nodes.toNat
 lab:∀m x,(m,x)∈H->KL t down s d m x
 size:∀m x,(m,x)∈H->x.length<=V.count true
 best:∀u,V[u]?=some true->u=s\/bT t (u:Int)=false->FW t down d s (fin u) u/\(fin u).length<V.count true/\∀p,FW t down d s p u->leL ps (fin u) p
 front:∀u a,V[u]?=some true->u=s\/bT t (u:Int)=false->a∈aL t u->bZ down a=false->V[(aK t a).toNat]?=some false->(u=n/\a∈todo)\/((aK t a).toNat,fin u++[a])∈H
 src:V[s]?=some false->(s,[])∈H
 dd:V[d]?=some false
theorem KI.low{t}{down:List Bool}{ps:LQ}{s d n:Nat}{V:List Bool}{fin:Nat->LN}{H:List (Nat×LN)}(h:KI t down ps s d V fin H n [])(hv:aH t=true)(hp:eD ps)(hs:s<t.nodes.toNat):∀(k:Nat) (p:LN) (v:Nat),p.length=k->FW t down d s p v->V[v]?=some false->∃m y,(m,y)∈H/\leL ps y p
 |0,p,v,hk,hw,hV=>by
  have:p=[]:=kQp.1 hk;subst this;have hw:s=v:=hw;subst hw;exact⟨s,[],h.src hV,leL.refl _ _⟩
 |k+1,p,v,hk,hw,hV=>by
  obtain⟨q,a,rfl⟩:∃q a,p=q++[a]:=by
   rcases jzcv p with rfl|h1
   ·simp at hk
   exact h1
  obtain⟨u,h1,h2,h3,rfl⟩:=FW.snoc_inv q hw;have hu:=FW.lt hv q hs h1;obtain⟨b,hb⟩:∃b,V[u]?=some b:=⟨_,yG (by rw[h.len];exact hu)⟩;cases b
  case false=>
   obtain⟨m,y,i1,i2⟩:=h.low hv hp hs k q u (by simpa using hk) h1 hb;exact⟨m,y,i1,i2.trans (leL.ext hp q [a])⟩
  have qa:u=s\/bT t (u:Int)=false:=by
   rcases h1.alive hv with h4|h4|h4
   ·exact .inl h4
   ·subst h4;rw[h.dd]at hb;cases hb
   exact .inr h4
  have qe:bZ down a=false:=by
   unfold dF at h3;simp at h3;exact h3.1
  rcases h.front u a hb qa h2 qe hV with⟨_,h4⟩|h4
  ·cases h4
  exact⟨_,_,h4,((h.best u hb qa).2.2 q h1).app [a]⟩
theorem KI.none_{t}{down:List Bool}{ps:LQ}{s d n:Nat}{V:List Bool}{fin:Nat->LN}(h:KI t down ps s d V fin [] n [])(hv:aH t=true)(hp:eD ps)(hs:s<t.nodes.toNat)(p:LN):¬FW t down d s p d:=fun hw=>by
 obtain⟨m,y,h1,_⟩:=h.low hv hp hs _ p d rfl hw h.dd;cases h1
section
variable {t:Tp} {down:List Bool} {ps:List Rat} {s d n k:Nat} {V:List Bool} {fin:Nat->List Nat} {H H':List (Nat×List Nat)} {x:List Nat}
theorem KI.skip(h:KI t down ps s d V fin H k [])(h1:∀z,z∈H->z=(n,x)\/z∈H')(h2:∀z,z∈H'->z∈H)(hV:V[n]?=some true)(m:Nat):KI t down ps s d V fin H' m []:=by
 refine⟨h.len,fun m x hx=>h.lab m x (h2 _ hx),fun m x hx=>h.size m x (h2 _ hx),h.best,fun u a g1 g2 g3 g4 g5=>.inr ?_,fun hS=>?_,h.dd⟩;{(rcases h.front u a g1 g2 g3 g4 g5 with⟨_,g6⟩|g6);{cases g6};(rcases h1 _ g6 with e|e);{(injection e with e1 e2);rw[e1,hV]at g5;cases g5};exact e};(rcases h1 _ (h.src hS)with e|e);{(injection e with e1 e2);rw[e1,hV]at hS;cases hS};exact e
theorem KI.least(h:KI t down ps s d V fin H k [])(hv:aH t=true)(hp:eD ps)(hs:s<t.nodes.toNat)(hx:(n,x)∈H)(hm:∀m y,(m,y)∈H->leL ps x y)(hV:V[n]?=some false):∀p,FW t down d s p n->leL ps x p:=fun p hw=>by
 obtain⟨m,y,h1,h2⟩:=h.low hv hp hs _ p n rfl hw hV;exact(hm m y h1).trans h2
theorem KI.found(h:KI t down ps s d V fin H k [])(hv:aH t=true)(hp:eD ps)(hs:s<t.nodes.toNat)(hx:(d,x)∈H)(hm:∀m y,(m,y)∈H->leL ps x y):FW t down d s x d/\∀p,FW t down d s p d->leL ps x p:=
 ⟨(h.lab _ _ hx).fw hv (.inr (.inl rfl)),h.least hv hp hs hx hm h.dd⟩
theorem jzk3{V:List Bool}{n:Nat}(hV:V[n]?=some false):(V.set n true).count true=V.count true+1:=by
 have hl:=(yH.1 hV).1;have he:=(yH.1 hV).2;rw[List.count_set hl,he];simp
theorem KI.reach(h:KI t down ps s d V fin H k [])(hv:aH t=true)(hp:eD ps)(hs:s<t.nodes.toNat)(hx:(n,x)∈H)(h1:∀z,z∈H->z=(n,x)\/z∈H')(h2:∀z,z∈H'->z∈H)(hm:∀m y,(m,y)∈H->leL ps x y)(hV:V[n]?=some false)(hd:n≠d):
  KI t down ps s d (V.set n true) (fun u=>if u=n then x else fin u) H' n (aL t n):=by
 have hc:=jzk3 hV;have hl:=(yH.1 hV).1;have hg:∀u b,u≠n->(V.set n true)[u]?=some b->V[u]?=some b:=fun u b hu hb=>(by rwa [vN (fun e=>hu e.symm)]at hb);have qa:∀u,(V.set n true)[u]?=some false->u≠n/\V[u]?=some false:=fun u hb=>(by have hu:u≠n:=fun e=>(by subst e;rw[yM hl]at hb;cases hb);exact⟨hu,hg u false hu hb⟩);refine⟨by rw[yV];exact h.len,fun m x hx=>h.lab m x (h2 _ hx),fun m x hx=>by rw[hc];have:=h.size m x (h2 _ hx);omega,fun u hu hal=>?_,fun u a g1 g2 g3 g4 g5=>?_,fun hS=>?_,by rw[vN hd];exact h.dd⟩;{by_cases e:u=n;{subst e;simp only[if_true];have qe:u=s->x=[]:=fun e=>(by subst e;exact((hm _ _ (h.src hV)).anti (leL.nil hp x)));(refine⟨(h.lab _ _ hx).fw hv ?_,by have:=h.size _ _ hx;omega,h.least hv hp hs hx hm hV⟩;rcases hal with e|e);{exact .inl (qe e)};exact .inr (.inr e)};simp only[qF e];obtain⟨i1,i2,i3⟩:=h.best u (hg u true e hu) hal;exact⟨i1,qO,i3⟩};{obtain⟨g6,g7⟩:=qa _ g5;by_cases e:u=n;{subst e;exact .inl ⟨rfl,g3⟩};(simp only[qF e];rcases h.front u a (hg u true e g1) g2 g3 g4 g7 with⟨_,g8⟩|g8);{cases g8};(rcases h1 _ g8 with e2|e2);{(injection e2 with e3 e4);exact absurd e3 g6};exact .inr e2};(obtain⟨g6,g7⟩:=qa _ hS;rcases h1 _ (h.src g7)with e2|e2);{(injection e2 with e3 e4);exact absurd e3 g6};exact e2
theorem KI.dead{todo:LN}(h:KI t down ps s d V fin H n todo)(hn:n≠s)(ho:bT t (n:Int)=true)(m:Nat):KI t down ps s d V fin H m []:=by
 (refine⟨h.len,h.lab,h.size,h.best,fun u a g1 g2 g3 g4 g5=>.inr ?_,h.src,h.dd⟩;rcases h.front u a g1 g2 g3 g4 g5 with⟨rfl,_⟩|g6);{(rcases g2 with g2|g2);{exact absurd g2 hn};rw[ho]at g2;cases g2};exact g6
theorem KI.off{a:Nat}{todo:LN}(h:KI t down ps s d V fin H n (a::todo))(hd:bZ down a=true):KI t down ps s d V fin H n todo:=by
 (refine⟨h.len,h.lab,h.size,h.best,fun u b g1 g2 g3 g4 g5=>?_,h.src,h.dd⟩;rcases h.front u b g1 g2 g3 g4 g5 with⟨rfl,g6⟩|g6);{(rcases xZ.1 g6 with rfl|g6);{rw[hd]at g4;cases g4};exact .inl ⟨rfl,g6⟩};exact .inr g6
theorem KI.push{a:Nat}{todo:LN}(h:KI t down ps s d V fin H n (a::todo))(hn:V[n]?=some true)(hal:n=s\/bT t (n:Int)=false)(ha:a∈aL t n)(hd:bZ down a=false)(hH:∀z,z∈H'↔z=((aK t a).toNat,fin n++[a])\/z∈H):KI t down ps s d V fin H' n todo:=by
 obtain⟨b1,b2,_⟩:=h.best n hn hal;refine⟨h.len,fun m x hx=>?_,fun m x hx=>?_,h.best,fun u b g1 g2 g3 g4 g5=>?_,fun hS=>(hH _).2 (.inr (h.src hS)),h.dd⟩;{(rcases(hH _).1 hx with e|e);{(injection e with e1 e2);subst e1 e2;exact .inr ⟨fin n,a,n,rfl,b1,ha,hd,rfl⟩};exact h.lab _ _ e};{(rcases(hH _).1 hx with e|e);{(injection e with e1 e2);subst e2;simp;omega};exact h.size _ _ e};(rcases h.front u b g1 g2 g3 g4 g5 with⟨rfl,g6⟩|g6);{(rcases xZ.1 g6 with rfl|g6);{exact .inr ((hH _).2 (.inl rfl))};exact .inl ⟨rfl,g6⟩};exact .inr ((hH _).2 (.inr g6))
theorem KI.start(hs:s<t.nodes.toNat)(hd:d<t.nodes.toNat)(m:Nat):KI t down ps s d (List.replicate t.nodes.toNat false) fin [(s,[])] m []:=by
 have qa:∀u b,(List.replicate t.nodes.toNat false)[u]?=some b->b=false:=fun u b h=>(by rw[xB]at h;split at h;{injection h with h;exact h.symm};cases h);refine⟨qS,fun m x hx=>?_,fun m x hx=>?_,fun u hu=>?_,fun u a hu=>?_,fun _=>qS,by rw[xB,qE hd]⟩;{simp at hx;exact .inl ⟨hx.2,hx.1⟩};{simp at hx;rw[hx.2];simp};{cases qa _ _ hu};cases qa _ _ hu
end
theorem jzk4 t:(bS t).length=2*t.links.length:=by unfold bS;simp
theorem oC t:eD (bS t):=fun a=>by
 (cases h:(bS t)[a]? with|none=>exact vC|some q=>(unfold bS at h;rw[yW]at h;cases h2:(List.range (2*t.links.length))[a]? with|none=>rw[h2]at h;cases h|some b=>(rw[h2]at h;injection h with h);show(0:Rat)<=q;rw[<-h];exact Rat.intCast_nonneg.2 qO))
theorem jzcw t:eM t (bS t)=true:=by
 unfold eM;rw[jzk4,yO rfl];have:(bS t).any (fun q=>decide (aC q<0))=false:=(by rw[List.any_eq_false];intro q hq;unfold bS at hq;obtain⟨a,_,rfl⟩:=kQl.1 hq;simp only[decide_eq_true_eq];rw[jzck,kQ4];exact Rat.intCast_nonneg.2 qO);rw[this];rfl
theorem jzcx{t}(hv:aH t=true)(a:Nat):eQ t a<=65535:=by
 (unfold eQ;cases h:t.links[a/2]? with|none=>simp|some l=>unfold aH at hv;rw[vM,xW]at hv;have qa:=hv.2 l (yJ h);unfold Lk.ok inB at qa;simp at qa;simp only[];split <;> omega)
theorem jzk5{t}(hv:aH t=true):∀x:LN,bI t x<=65535*x.length:=fun x=>by
 have qa:∀(y:LN) (s:Nat),y.foldl (fun s a=>s+eQ t a) s<=s+65535*y.length:=(by intro y;(induction y with|nil=>intro s;simp|cons a y ih=>intro s;have:=ih (s+eQ t a);have h2:=jzcx hv a;rw[List.foldl_cons,kQo];omega));have:=qa x 0;unfold bI;omega
theorem jzcy{t}{down:List Bool}{s d:Nat}(hv:aH t=true)(hs:s<t.nodes.toNat):match fF t down (bS t) s d with
  |none=>∀p,¬FW t down d s p d
  |some p=>FW t down d s p d/\∀q,FW t down d s q d->leL (bS t) p q:=by
 unfold fF;exact uX hv (oC t) (t.nodes.toNat+1) (cZ t.nodes.toNat s) (jzct hs) (by have:=pR (cZ t.nodes.toNat s);have h2:(cZ t.nodes.toNat s).length=t.nodes.toNat:=(by unfold cZ;simp);omega)
theorem jzk6{t}{down:List Bool}{s d:Nat}{x:LN}(hv:aH t=true)(hs:s<t.nodes.toNat)(h1:FW t down d s x d)(h2:∀q,FW t down d s q d->leL (bS t) x q):fF t down (bS t) s d=some x:=by
 (have h:=jzcy (down:=down) (d:=d) hv hs;cases hc:fF t down (bS t) s d with|none=>rw[hc]at h;exact absurd h1 (h x)|some p=>rw[hc]at h;rw[(h.2 x h1).anti (h2 p h.1)])
theorem jzk7{t}{down:List Bool}{s d:Nat}(hv:aH t=true)(hs:s<t.nodes.toNat)(h1:∀p,¬FW t down d s p d):fF t down (bS t) s d=none:=by
 (have h:=jzcy (down:=down) (d:=d) hv hs;cases hc:fF t down (bS t) s d with|none=>rfl|some p=>rw[hc]at h;exact absurd h.1 (h1 p))
theorem jzk8 t:LeO (fun x y:Nat×LN=>leL (bS t) x.2 y.2):=⟨fun x=>leL.refl _ _,fun x y z h1 h2=>h1.trans h2,fun x y=>by
 by_cases h:cM (bS t) x.2 y.2=true
 ·exact .inl (leL.of_bef h)
 ·exact .inr (leL.of_not h)⟩
theorem jzcz t(x y:LN):leL (bS t) x y↔¬dI t y x<0:=by
 unfold leL;rw[jzkn,decide_eq_false_iff_not]
def PO(t:Tp):Nat->Bool->LN->Nat->Prop
 |u,_,[],v=>u=v
 |u,first,a::p,v=>a∈aL t u/\(first=true\/bT t (u:Int)=false)/\PO t (aK t a).toNat false p v
theorem FW.po{t}{down:List Bool}{d:Nat}(hv:aH t=true):∀(p:LN) {u v:Nat} (first:Bool),FW t down d u p v->(first=true\/p=[]\/bT t (u:Int)=false)->(∀q z w,p=q++z->q≠ []->z≠ []->FW t down d u q w->w≠d)->PO t u first p v
 | [],_,_,_,h,_,_=>h
 |a::p,u,v,first,h,ho,hm=>by
  refine⟨h.1,?_,FW.po hv p false h.2.2 ?_ ?_⟩
  ·rcases ho with h1|h1|h1
   ·exact .inl h1
   ·cases h1
   ·exact .inr h1
  ·by_cases e:p=[]
   ·exact .inr (.inl e)
   ·have h1:=hm [a] p _ rfl qS e (FW.one h.1 h.2.1)
    have h2:=h.2.1;unfold dF at h2;rw[<-uY hv h.1,vM,Bool.or_eq_true,Bool.not_eq_true',Bool.not_eq_true',beq_iff_eq]at h2;rcases h2.2 with h3|h3
    ·exact absurd qO h1
    ·exact .inr (.inr h3)
  ·intro q z w e hq hz hw
   exact hm (a::q) z w (by rw[e];rfl) qS hz ⟨h.1,h.2.1,hw⟩
end Go.Proofs.YtfeeacaofjpkaaaGreatDoor
namespace Go.Proofs.YtfeeacaofjpkaaaGreatDoor
open Go.Proofs.Tryz
namespace Sx
def eS(L:Nat):Nat->List (LN)
 |0=>[[]]
 |n+1=>(List.range L).flatMap fun a=>(eS L n).map (a:: ·)
theorem jzc0(L:Nat):∀{l:LN},(∀a∈l,a<L)->l∈eS L l.length
 | [],_=>by simp[eS]
 |a::l,h=>kZx.2 ⟨a,vX.2 (h a qS),kQl.2 ⟨l,jzc0 L fun b hb=>h b (by simp[hb]),rfl⟩⟩
theorem rE{α β:Type}(f:α->List β)(c:Nat):∀{l:List α},(∀a∈l,(f a).length<=c)->(l.flatMap f).length<=l.length*c
 | [],_=>yZ _
 |a::l,h=>by
  rw[xU,yQ,kQo,Nat.succ_mul];have h1:=h a qS;have h2:=rE f c (l:=l) fun b hb=>h b (by simp[hb]);omega
theorem jzc1(L:Nat):∀n,(eS L n).length<=L^n
 |0=>yX _
 |n+1=>by
  have:=rE (fun a=>(eS L n).map (a:: ·)) (L^n) (l:=List.range L) fun a _=>(by rw[xV];exact jzc1 L n);rw[kZm]at this;rw[vD,vE];exact this
def cands(D L n:Nat):List (Nat×LN):=(List.range D).flatMap fun d=>(List.range (n+1)).flatMap fun k=>(eS L k).map fun l=>(d,l)
theorem jzk9{D L n:Nat}{p:Nat×LN}(h1:p.1<D)(h2:∀a∈p.2,a<L)(h3:p.2.length<=n):p∈cands D L n:=
 kZx.2 ⟨p.1,vX.2 h1,kZx.2 ⟨p.2.length,vX.2 qO,kQl.2 ⟨p.2,jzc0 L h2,rfl⟩⟩⟩
theorem cands_len(D L n:Nat)(hL:1<=L):(cands D L n).length<=D*((n+1)*L^n):=by
 have:=rE (fun d=>(List.range (n+1)).flatMap fun k=>(eS L k).map fun l=>(d,l)) ((n+1)*L^n) (l:=List.range D) fun d _=>(by have:=rE (fun k=>(eS L k).map fun l=>(d,l)) (L^n) (l:=List.range (n+1)) fun k hk=>(by rw[xV];exact yY (jzc1 L k) (kQk hL (by have:=vX.1 hk;omega)));rw[kZm]at this;exact this);rw[kZm]at this;exact this
theorem paths_few{D L n:Nat}{P:List (Nat×LN)}(hd:P.Nodup)(h:∀p∈P,p.1<D/\(∀a∈p.2,a<L)/\p.2.length<=n):P.length<=(cands D L n).length:=
 nodup_le hd fun p hp=>jzk9 (h p hp).1 (h p hp).2.1 (h p hp).2.2
end Sx
open Go.RowKit
theorem jzla{t}{down:List Bool}{ps:LQ}{s d:Nat}(hv:aH t=true)(hp:eD ps)(hs:s<t.nodes.toNat):match fF t down ps s d with
  |none=>∀p,¬FW t down d s p d
  |some p=>FW t down d s p d/\∀q,FW t down d s q d->leL ps p q:=by
 unfold fF;exact uX hv hp (t.nodes.toNat+1) (cZ t.nodes.toNat s) (jzct hs) (by have:=pR (cZ t.nodes.toNat s);have h2:(cZ t.nodes.toNat s).length=t.nodes.toNat:=(by unfold cZ;simp);omega)
theorem jzlb{t}{down:List Bool}{ps:LQ}{s d:Nat}{x:LN}(hv:aH t=true)(hp:eD ps)(h1:FW t down d s x d)(h2:∀q,FW t down d s q d->leL ps x q):PO t s true x d:=by
 refine FW.po hv x true h1 (.inl rfl) (fun q z w e hq hz hw hwd=>?_);subst hwd;have h3:=h2 q hw;have h4:=leL.ext hp q z;rw[<-e]at h4;have h5:=h3.anti h4;rw[e]at h5;have:z=[]:=(by simpa using h5);exact hz this
def nds(t:Tp):Nat->LN->LN
 |u,[]=>[u]
 |u,a::p=>u::nds t (aK t a).toNat p
theorem mQ t:∀(x:LN) (u:Nat),nds t u x=u::x.map fun a=>(aK t a).toNat
 | [],_=>rfl
 |a::x,u=>by
  show u::nds t _ x=_;rw[mQ t x];rfl
theorem jzlc t(u:Nat)(x:LN):(nds t u x).length=x.length+1:=by rw[mQ];simp
theorem jzc2{t}{down:List Bool}{d:Nat}:∀(x:LN) {u v s:Nat},FW t down d u x v->s∈nds t u x->∃y z,x=y++z/\FW t down d u y s/\FW t down d s z v
 | [],u,v,s,h,hs=>by
   have e:s=u:=xD.1 hs;subst e;exact⟨[],[],rfl,rfl,h⟩
 |a::x,u,v,s,h,hs=>by
  rcases xZ.1 hs with e|e
  ·subst e;exact⟨[],a::x,rfl,rfl,h⟩
  ·obtain⟨y,z,e1,e2,e3⟩:=jzc2 x h.2.2 e
   exact⟨a::y,z,by rw[e1];rfl,⟨h.1,h.2.1,e2⟩,e3⟩
theorem jzc3{t}{down:List Bool}{d:Nat}:∀(x:LN) {u v:Nat},FW t down d u x v->¬(nds t u x).Nodup->∃p y z m,x=p++y++z/\y≠ []/\FW t down d u p m/\FW t down d m y m/\FW t down d m z v
 | [],u,v,_,hn=>by
   exact absurd (by show [u].Nodup;simp) hn
 |a::x,u,v,h,hn=>by
  by_cases hm:u∈nds t (aK t a).toNat x
  ·obtain⟨y,z,e1,e2,e3⟩:=jzc2 x h.2.2 hm
   exact⟨[],a::y,z,u,by rw[e1];rfl,qS,rfl,⟨h.1,h.2.1,e2⟩,e3⟩
  ·have qa:¬(nds t (aK t a).toNat x).Nodup:=fun h2=>hn (kZo.2 ⟨hm,h2⟩)
   obtain⟨p,y,z,m,e1,e2,e3,e4,e5⟩:=jzc3 x h.2.2 qa;exact⟨a::p,y,z,m,by rw[e1];rfl,e2,⟨h.1,h.2.1,e3⟩,e4,e5⟩
theorem jzld{t}{down:List Bool}{ps:LQ}{s d:Nat}{x:LN}(hp:eD ps)(h1:FW t down d s x d)(h2:∀q,FW t down d s q d->leL ps x q):(nds t s x).Nodup:=by
 refine Classical.byContradiction fun hn=>?_;obtain⟨p,y,z,m,e1,e2,e3,e4,e5⟩:=jzc3 x h1 hn;have h3:cM ps x (p++z)=true\/True:=.inr trivial;have h4:=h2 (p++z) (e3.app p e5);have h5:=jzcq hp p y z e2;rw[<-e1]at h5;unfold leL at h4;rw[h5]at h4;cases h4
def Lpl(t:Tp)(s d:Nat)(x:LN):Prop:=PO t s true x d/\(nds t s x).Nodup
theorem uZ{t}(hv:aH t=true){d:Nat}:∀(x:LN) (u:Nat) (first:Bool),PO t u first x d->FW t [] d u x d
 | [],_,_,h=>h
 |a::x,u,first,h=>by
  refine⟨h.1,?_,uZ hv x _ false h.2.2⟩;have hd:=gW hv h.1;have qa:bZ [] a=false:=rfl;unfold dF;rw[qa,Bool.not_false,kZg,Bool.or_eq_true,beq_iff_eq,Bool.not_eq_true'];cases x with
  |nil=>
   have:(aK t a).toNat=d:=h.2.2;exact .inl qO
  |cons b x=>
   rcases h.2.2.2.1 with h2|h2
   ·cases h2
   ·refine .inr ?_
    rw[show(((aK t a).toNat:Nat):Int)=aK t a by omega]at h2;exact h2
theorem iV{t}:∀(x:LN) {u v:Nat} {first:Bool},PO t u first x v->∀a∈x,a<2*t.links.length
 | [],_,_,_,_,_,h=>by cases h
 |b::x,_,_,_,h,a,ha=>by
  rcases xZ.1 ha with e|e
  ·have:=h.1
   unfold aL cE at this;rw[e];exact vX.1 (List.mem_filter.1 this).1
  ·exact iV x h.2.2 a e
theorem jzc4{t}(hv:aH t=true):∀(x:LN) {u v:Nat} {first:Bool},u<t.nodes.toNat->PO t u first x v->∀n∈nds t u x,n<t.nodes.toNat
 | [],u,_,_,hu,_,n,hn=>by
   rw[xD.1 hn];exact hu
 |a::x,u,_,_,hu,h,n,hn=>by
  rcases xZ.1 hn with e|e
  ·rw[e];exact hu
  ·exact jzc4 hv x (gW hv h.1).2.2.1 h.2.2 n e
theorem Lpl.len{t}(hv:aH t=true){s d:Nat}{x:LN}(hs:s<t.nodes.toNat)(h:Lpl t s d x):x.length+1<=t.nodes.toNat:=by
 have:=Sx.nodup_le (k:=List.range t.nodes.toNat) h.2 fun n hn=>vX.2 (jzc4 hv x hs h.1 n hn);rw[jzlc,kZm]at this;exact this
theorem Lpl.nodup{t}{s d:Nat}{x:LN}(h:Lpl t s d x):x.Nodup:=by
 have h1:=h.2;rw[mQ]at h1;have h2:=(kZo.1 h1).2;exact List.Pairwise.imp (fun {a b} hab e=>hab (by rw[e])) (List.pairwise_map.1 h2)
theorem Lpl.ne{t}{s d:Nat}{x:LN}(h:Lpl t s d x)(hsd:s≠d):x≠ []:=fun e=>by
 have:=h.1;rw[e]at this;exact hsd this
theorem jzc5(ps:LQ):∀x:LN,prQ ps x=Sx.ls (fun a=>Sx.at_ ps a) x
 | []=>rfl
 |a::x=>by
  rw[show a::x=[a]++x from rfl,lR,jzc5 ps x,Sx.ls_app];show prQ ps [a]+_=(Sx.at_ ps a+0)+_;have:prQ ps [a]=0+Sx.at_ ps a:=rfl;rw[this];grind
theorem jzc6(f:Nat->Rat)(n:Nat):∀x:LN,x.Nodup->(∀a∈x,a<n)->Sx.ls f x=Sx.sm n fun a=>if a∈x then f a else 0
 | [],_,_=>by
   show(0:Rat)=_;rw[Sx.sm_zero n fun k _=>qS]
 |b::x,hd,h=>by
  obtain⟨h1,h2⟩:=kZo.1 hd;show f b+Sx.ls f x=_;rw[jzc6 f n x h2 fun a ha=>h a (by simp[ha])];have e1:Sx.sm n (fun a=>if a=b then f a else 0)=f b:=by
   rw[Sx.sm_one n (h b qS) fun k _ hk=>qF hk,qE rfl]
  rw[<-e1, <-Sx.sm_add];refine Sx.sm_congr n fun a _=>?_;by_cases e:a=b
  ·subst e
   rw[qE rfl,qF h1,qE qS];grind
  rw[qF e];by_cases e2:a∈x
  ·rw[qE e2,qE (by simp[e2])];grind
  rw[qF e2,qF (by simp[e,e2])];grind
theorem Lpl.prQ_sm{t}{s d:Nat}{x:LN}(h:Lpl t s d x)(ps:LQ):prQ ps x=Sx.sm (2*t.links.length) fun a=>if a∈x then Sx.at_ ps a else 0:=by
 rw[jzc5];exact jzc6 _ _ x h.nodup (iV x h.1)
theorem kJ{t}{ps:LQ}{s d:Nat}(hv:aH t=true)(hp:eM t ps=true)(hs:s<t.nodes.toNat)(hd:d<t.nodes.toNat):
  (∃x,chP t [] ps (s:Int) (d:Int)=(x,0)/\Lpl t s d x/\∀y,Lpl t s d y->prQ ps x<=prQ ps y)\/(chP t [] ps (s:Int) (d:Int)=([],11)/\∀y,¬Lpl t s d y):=by
 (have hb:fR t [] ps=false:=(by unfold fR dX;rw[hv,hp];rfl);have qa:fK t (s:Int) (d:Int)=false:=(by unfold fK;simp;omega);have h:=jzla (down:=[]) (d:=d) hv (rD hp) hs;unfold chP;rw[hb,qa];simp only[kZq,if_false,xL];cases hc:fF t [] ps s d with|none=>rw[hc]at h;exact .inr ⟨rfl,fun y hy=>h y (uZ hv y s true hy.1)⟩|some x=>(rw[hc]at h;refine .inl ⟨x,rfl,⟨jzlb hv (rD hp) h.1 h.2,jzld (rD hp) h.1 h.2⟩,fun y hy=>?_⟩;rcases(mP ps x y).1 (h.2 y (uZ hv y s true hy.1))with e|e);{rw[e];exact vC};(rcases(iU ps x y).1 e with e|e);{exact vB e};rw[e.1];exact vC)
structure Dm where
 src:Int
 dst:Int
 amount:Int
 prio:Int
def Dm.cells(d:Dm):List Value:=[vI d.src,vI d.dst,vI d.amount,vI d.prio]
def Dm.wf(d:Dm):Prop:=i64 d.src/\i64 d.dst/\i64 d.amount/\i64 d.prio
def Dm.ok(N:Int)(d:Dm):Bool:= !(d.src==d.dst)&&inB d.src 0 (N-1)&&inB d.dst 0 (N-1)&&inB d.amount 1 1048576&&inB d.prio 0 7
def bE(l:List Dm)(d:Nat):Nat:=match l[d]? with
 |some x=>x.src.toNat
 |none=>0
def bC(l:List Dm)(d:Nat):Nat:=match l[d]? with
 |some x=>x.dst.toNat
 |none=>0
def amQ(l:List Dm)(d:Nat):Rat:=match l[d]? with
 |some x=>(x.amount:Rat)
 |none=>0
def aP(t:Tp)(a:Nat):Rat:=match t.links[a/2]? with
 |some x=>(x.cap:Rat)
 |none=>0
def chQ(t:Tp)(pr:LQ)(s d:Nat):Rat:=prQ pr (chP t [] pr (s:Int) (d:Int)).1
structure Fit(t:Tp)(l:List Dm):Prop where
 v:aH t=true
 n:0<l.length
 ok:∀x∈l,Dm.ok t.nodes x=true
section
variable {t:Tp} {l:List Dm}
theorem Fit.nodes(h:Fit t l){d:Nat}(hd:d<l.length):bE l d<t.nodes.toNat/\bC l d<t.nodes.toNat/\bE l d≠bC l d/\l[d].src=(bE l d:Int)/\l[d].dst=(bC l d:Int):=by
 have h1:=h.ok _ (xR hd);unfold Dm.ok inB at h1;simp at h1;unfold bE bC;rw[yG hd];simp only[];omega
theorem Fit.am(h:Fit t l){d:Nat}(hd:d<l.length):0<amQ l d/\Sx.isI (amQ l d)/\amQ l d<=((1048576:Int):Rat)/\amQ l d=(l[d].amount:Rat)/\1<=l[d].amount/\l[d].amount<=1048576:=by
 have h1:=h.ok _ (xR hd);unfold Dm.ok inB at h1;simp at h1;have e:amQ l d=(l[d].amount:Rat):=(by unfold amQ;rw[yG hd]);refine⟨?_,⟨_,e⟩,?_,e,qO,qO⟩;{rw[e];exact Rat.intCast_lt_intCast.2 (show(0:Int)<l[d].amount by omega)};rw[e];exact kQt.2 qO
theorem lB(hv:aH t=true){a:Nat}(ha:a<2*t.links.length):∃h:a/2<t.links.length,0<=aP t a/\Sx.isI (aP t a)/\aP t a<=((1048576:Int):Rat)/\aP t a=(t.links[a/2].cap:Rat)/\0<=t.links[a/2].cap/\t.links[a/2].cap<=1048576:=by
 have hl:a/2<t.links.length:=qO;unfold aH at hv;rw[vM,xW]at hv;have qa:=hv.2 _ (xR hl);unfold Lk.ok inB at qa;simp at qa;have e:aP t a=(t.links[a/2].cap:Rat):=(by unfold aP;rw[yG hl]);refine⟨hl,?_,⟨_,e⟩,?_,e,qO,qO⟩;{rw[e];exact kQt.2 (show(0:Int)<=t.links[a/2].cap by omega)};rw[e];exact kQt.2 qO
end
structure cN(t:Tp)(l:List Dm)(v:Rat)(Z:List ((Nat×LN)×Rat))(pr:LQ):Prop where
 adm:Sx.Adm (2*t.links.length) l.length (amQ l) (aP t) v Z
 loop:∀z∈Z,Lpl t (bE l z.1.1) (bC l z.1.1) z.1.2
 plen:pr.length=2*t.links.length
 pnn:∀q∈pr,0<=q
 worth:(Sx.sm (2*t.links.length) fun a=>Sx.at_ pr a*aP t a)=v
 need:1<=Sx.sm l.length fun d=>amQ l d*chQ t pr (bE l d) (bC l d)
 conn:∀d,d<l.length->∃x,Lpl t (bE l d) (bC l d) x
theorem oD(q:Rat):aC q<0↔q<0:=by
 have h:q.num<0↔q<0:=(by rw[<-Int.not_le,Rat.num_nonneg,Rat.not_le]);unfold aC;split;{rename_i h0;rw[<-h,h0]};split;{rename_i h1;exact⟨fun _=>h.1 h1,fun _=>qD⟩};rename_i h1;exact⟨fun x=>qO,fun x=>absurd (h.2 x) h1⟩
theorem kK{t:Tp}{pr:LQ}(h1:pr.length=2*t.links.length)(h2:∀q∈pr,0<=q):eM t pr=true:=by
 unfold eM;rw[vM,decide_eq_true_eq,Bool.not_eq_true'];refine⟨h1,?_⟩;rw[<-Bool.not_eq_true];intro hn;obtain⟨q,hq,hs⟩:=List.any_eq_true.1 hn;have:=(oD q).1 (of_decide_eq_true hs);have:=h2 q hq;grind
theorem oE{pr:LQ}(h:∀q∈pr,0<=q)(a:Nat):0<=Sx.at_ pr a:=by
 unfold Sx.at_;by_cases e:a<pr.length;{rw[yG e];exact h _ (xR e)};rw[yI qO];exact vC
theorem cN.unique{t}{l:List Dm}(hf:Fit t l){v v':Rat}{Z Z':List ((Nat×LN)×Rat)}{pr pr':LQ}(h:cN t l v Z pr)(h':cN t l v' Z' pr'):v=v':=by
 have qa:∀{v v':Rat} {Z Z':List ((Nat×LN)×Rat)} {pr pr':LQ},cN t l v Z pr->cN t l v' Z' pr'->v<=v':=fun {v v' Z Z' pr pr'} h h'=>(by (rw[<-h'.worth];refine h.adm.weak hf.n (fun d hd=>(hf.am hd).1) (ch:=fun d=>chQ t pr' (bE l d) (bC l d)) (fun a _=>oE h'.pnn a) (fun z hz=>?_) h'.need;have hd:=h.adm.dem z hz;obtain⟨n1,n2,_⟩:=hf.nodes hd;have hl:=h.loop z hz;rcases kJ hf.v (kK h'.plen h'.pnn) n1 n2 with⟨x,e,_,e2⟩|⟨_,e⟩);{show chQ t pr' _ _<=_;unfold chQ;rw[e, <-hl.prQ_sm];exact e2 _ hl};exact absurd hl (e _));exact Rat.le_antisymm (qa h h') (qa h' h)
theorem jzle{t}{l:List Dm}(hf:Fit t l){T:Sx.Tb}{P:List (Nat×LN)}(hb:Sx.Best (2*t.links.length) l.length (amQ l) (aP t) T P)(hrl:T.rows.length=2*t.links.length+l.length)
  (hP:∀p∈P,Lpl t (bE l p.1) (bC l p.1) p.2) (hpl:Sx.ptZ T P |>.map (·.1) |>.all (fun p=>decide (p∈P)))
  (hg:∀d,d<l.length->Sx.at_ (Sx.prT T) (2*t.links.length+d)<=chQ t ((Sx.prT T).take (2*t.links.length)) (bE l d) (bC l d)) (hc:∀d,d<l.length->∃x,Lpl t (bE l d) (bC l d) x):
  cN t l T.goal.re (Sx.planZ l.length (amQ l) T.goal.re (Sx.ptZ T P)) ((Sx.prT T).take (2*t.links.length)):=by
 have qa:(Sx.prT T).length=2*t.links.length+l.length:=(by unfold Sx.prT;rw[Sx.prTo_len,hrl]);have qe:∀a,a<2*t.links.length->Sx.at_ ((Sx.prT T).take (2*t.links.length)) a=Sx.at_ (Sx.prT T) a:=fun a ha=>(by unfold Sx.at_;rw[xG,qE ha]);refine⟨hb.adm,fun z hz=>?_,by rw[xF];omega,fun q hq=>?_,?_,?_,hc⟩;{obtain⟨_,f,h1,_⟩:=Sx.planZ_nn hz;have:=of_decide_eq_true (xW.1 hpl z.1 (kQl.2 ⟨_,h1,rfl⟩));exact hP _ this};{obtain⟨k,hk,e⟩:=List.getElem_of_mem hq;rw[xF]at hk;have:=hb.pos k qO;unfold Sx.at_ at this;rw[yG qO]at this;rw[<-e,List.getElem_take];exact this};{rw[<-hb.worth];exact Sx.sm_congr _ fun a ha=>by rw[qe a ha]};refine kQs hb.need (Sx.sm_le _ fun d hd=>?_);exact yT (hg d hd) (vB (hf.am hd).1)
theorem rF(l:LQ)(i k:Nat)(q:Rat)(hk:k<l.length):Sx.at_ (l.set i q) k=if i=k then q else Sx.at_ l k:=by
 unfold Sx.at_;by_cases e:i=k;{subst e;rw[yM hk,qE rfl];rfl};rw[vN e,qF e]
theorem jzc7(k:Nat):∀(arcs:LN) (v:LQ),k<v.length->Sx.at_ ((arcs.map fun a=>(a,(1:Rat))).foldl (fun v t=>v.set t.1 t.2) v) k=if k∈arcs then 1 else Sx.at_ v k
 | [],v,_=>by simp
 |a::arcs,v,hk=>by
  show Sx.at_ ((arcs.map fun a=>(a,(1:Rat))).foldl _ (v.set a 1)) k=_;rw[jzc7 k arcs _ (by rw[yV];exact hk),rF _ _ _ _ hk];by_cases e:k∈arcs
  ·simp[e]
  ·by_cases e2:a=k
   ·subst e2;simp
   ·have e3:¬k=a:=fun h=>e2 h.symm
    simp[e,e2,e3]
theorem wB(m k:Nat):Sx.at_ (List.replicate m 0) k=0:=by
 unfold Sx.at_;rw[xB];split <;> rfl
def pTs(L2:Nat)(p:Nat×LN):List (Nat×Rat):=(L2+p.1, -1)::p.2.map fun a=>(a,1)
theorem jzc8(L2 D:Nat)(p:Nat×LN)(hp:∀a∈p.2,a<L2)(k:Nat)(hk:k<L2+D):Sx.at_ (aQ (L2+D) (pTs L2 p)) k=Sx.pcol L2 p k:=by
 unfold aQ pTs Sx.pcol;show Sx.at_ ((p.2.map fun a=>(a,(1:Rat))).foldl _ ((List.replicate (L2+D) 0).set (L2+p.1) (-1))) k=_;rw[jzc7 k p.2 _ (by simpa using hk),rF _ _ _ _ (by simpa using hk),wB];by_cases h1:k<L2;{rw[qE h1,qF (show¬L2+p.1=k by omega)]};rw[qF h1,qF (fun h=>h1 (hp k h))];by_cases e:k=L2+p.1;{rw[qE e,qE e.symm]};rw[qF e,qF (fun h=>e h.symm)]
def vTs(L2:Nat)(am:Nat->Rat)(n:Nat):List (Nat×Rat):=(List.range n).map fun d=>(L2+d,am d)
theorem jzc9(L2:Nat)(am:Nat->Rat)(n:Nat):vTs L2 am (n+1)=vTs L2 am n++[(L2+n,am n)]:=by unfold vTs;rw[kZc,List.map_append];rfl
theorem jzda(L2 D:Nat)(am:Nat->Rat)(k:Nat)(hk:k<L2+D):∀n,Sx.at_ (aQ (L2+D) (vTs L2 am n)) k=if L2<=k/\k<L2+n then am (k-L2)else 0
 |0=>by
  rw[qF qO];exact wB _ _
 |n+1=>by
  have ih:=jzda L2 D am k hk n;have hl:∀(ts:List (Nat×Rat)) (v:LQ),(ts.foldl (fun v t=>v.set t.1 t.2) v).length=v.length:=fun ts=>by
   induction ts with
   |nil=>intro v;rfl
   |cons t ts ih=>intro v;show(ts.foldl _ (v.set t.1 t.2)).length=_;rw[ih,yV]
  unfold aQ at ih⊢;rw[jzc9,kZt];show Sx.at_ ((List.foldl (fun(v:LQ) (t:Nat×Rat)=>v.set t.1 t.2) (List.replicate (L2+D) 0) (vTs L2 am n)).set (L2+n) (am n)) k=_;rw[rF _ _ _ _ (by rw[hl];simpa using hk),ih];by_cases e:L2+n=k
  ·rw[qE e,qE qO]
   rw[show k-L2=n by omega]
  ·rw[qF e]
   by_cases h:L2<=k/\k<L2+n
   ·rw[qE h,qE qO]
   ·rw[qF h,qF qO]
theorem jzlf(L2 D:Nat)(am:Nat->Rat)(k:Nat)(hk:k<L2+D):Sx.at_ (aQ (L2+D) (vTs L2 am D)) k=Sx.vcol L2 am k:=by
 rw[jzda L2 D am k hk D];unfold Sx.vcol;by_cases h:k<L2;{rw[qF qO,qE h]};rw[qE qO,qF h]
theorem jzdb{P:Rat->Prop}(m:Nat)(ts:List (Nat×Rat))(h0:P 0)(h:∀t∈ts,P t.2):∀q∈aQ m ts,P q:=by
 have qa:∀(ts:List (Nat×Rat)) (v:LQ),(∀t∈ts,P t.2)->(∀q∈v,P q)->∀q∈ts.foldl (fun v t=>v.set t.1 t.2) v,P q:=fun ts=>(by (induction ts with|nil=>intro v _ hv;exact hv|cons t ts ih=>(intro v ht hv;refine ih _ (fun t' h'=>ht t' (xO _ h')) fun q hq=>?_;rcases xE hq with h1|h1);{exact hv q h1};rw[h1];exact ht t qS));exact qa ts _ h fun q hq=>by rw[uF hq];exact h0
theorem wD(c:Rat):∀(n:Nat) {f:Nat->Rat},(∀k,k<n->f k<=c)->Sx.sm n f<=((n:Int):Rat)*c
 |0,f,_=>by
  show(0:Rat)<=((0:Int):Rat)*c;grind
 |n+1,f,h=>by
  have h1:=wD c n (f:=f) fun k hk=>h k qO;have h2:=h n (Nat.lt_succ_self n);show Sx.sm n f+f n<=(((n+1:Nat):Int):Rat)*c;have e:(((n+1:Nat):Int):Rat)=((n:Int):Rat)+1:=by
   rw[kZv,Rat.intCast_add];rfl
  rw[e,Rat.add_mul,Rat.one_mul];grind
def ZB:Nat:=25*33554432^24
theorem jzdc:ZB<B32^20:=by unfold ZB B32;decide
theorem mR{q:Rat}{N:Nat}(h:Sx.SzZ q N)(hN:N<=ZB):SzQ q 20:=⟨kQ2 (yY h.1 hN) jzdc,kQ2 (yY h.2 hN) jzdc⟩
theorem jzlg{m:Nat}(hm:m<=24):(m+1)*33554432^m<=ZB:=kQq qO (kQk qD hm)
theorem oF{t}{l:List Dm}{T:Sx.Tb}{P:List (Nat×LN)}(hf:Fit t l)(hl:t.links.length<=10)(hD:l.length<=4)(h:Sx.FLP (2*t.links.length) l.length (amQ l) (aP t) T P):
  OkT T/\SzT T 20/\(∀q∈Sx.prT T,SzQ q 20)/\(∀q∈Sx.ptT T,SzQ q 20)/\∃Dn:Int,Dn≠0/\Dn.natAbs<=33554432^24/\Sx.Qn Dn ZB T.goal.re/\∀q∈Sx.ptT T,Sx.Qn Dn ZB q:=by
 have hm:2*t.links.length+l.length<=24:=qO;obtain⟨Dn,d1,d2,d3,d4,d5,d6,d7⟩:=h.sizes 33554432 qO qD (fun a ha=>by
  obtain⟨_,h1,h2,_⟩:=lB hf.v ha;exact⟨h2,h1⟩) (fun d hd=>⟨(hf.am hd).2.1,by have:=(hf.am hd).1;grind⟩) (by
  have h1:=wD ((1048576:Int):Rat) (2*t.links.length) (f:=aP t) fun a ha=>(by obtain⟨_,_,_,h3,_⟩:=lB hf.v ha;exact h3)
  refine kQs h1 ?_;rw[<-kZu];exact kQt.2 qO) (by
  have h1:=wD ((1048576:Int):Rat) l.length (f:=amQ l) fun d hd=>(hf.am hd).2.2.1;refine kQs h1 ?_;rw[<-kZu];exact kQt.2 qO)
 obtain⟨s1,s2,_⟩:=h.shape;have hz:=jzlg hm;have up:∀{q:Rat},Sx.Qn Dn ((2*t.links.length+l.length+1)*33554432^(2*t.links.length+l.length)) q->Sx.Qn Dn ZB q:=fun hq=>⟨hq.1,yY hq.2.1 hz,yY hq.2.2 hz⟩;exact⟨⟨s1,s2⟩,⟨fun i hi q hq=>mR ((d3 i hi).1 q hq).2 hz,fun i hi=>mR (d3 i hi).2.2 hz,fun q hq=>mR (d4 q hq).2 hz,mR d5.2 hz⟩,fun q hq=>mR (d6 q hq).2 hz,fun q hq=>mR (d7 q hq).2 hz,
  Dn,d1,yY d2 (kQk qD hm),up d5,fun q hq=>up (d7 q hq)⟩
open Go.Maps (Keyed)
def MpS(w:World)(b n:Nat)(ks:List (List UInt8)):Prop:=
 ∃D:DataW Unit,w.ownsMap prog 9 (plainElem prog 4) b n D/\Maps.IsMap D/\∀k,D.atKey (.string k) (.lit (.bool false))=.lit (.bool (decide (k∈ks)))
theorem jzlh w:(zeroValue 4).run prog w=.ok bF w:=by kernel_rfl
theorem MpS.lt{w}{b n:Nat}{ks:List (List UInt8)}(h:MpS w b n ks):b<w.heap.size:=by
 obtain⟨D,h1,_⟩:=h;exact h1.lt
theorem MpS.same{w w':World}{b n:Nat}{ks:List (List UInt8)}(h:MpS w b n ks)(hb:w'.heap[b]?=w.heap[b]?):MpS w' b n ks:=by
 obtain⟨D,⟨es,qa,h1,h2⟩,h3⟩:=h;exact⟨D,⟨es,qa,hb.trans h1,h2⟩,h3⟩
theorem MpS.K{w w'}{b n:Nat}{ks:List (List UInt8)}(h:MpS w b n ks)(hx:Ext w w'):MpS w' b n ks:=h.same (hx.block b h.lt)
theorem MpS.made(w:World):MpS (w.alloc (.map #[] 0)) w.heap.size 0 []:=
 ⟨.map [],World.ownsMap_made w _ _ _,⟨[],rfl⟩,fun k=>by simp;rfl⟩
theorem MpS.not{w}{b n:Nat}{ks:List (List UInt8)}(h:MpS w b n ks){t:TypeId}{cs:Array Value}:¬Blk w b t cs:=fun e=>by
 obtain⟨D,⟨es,qa,h1,_⟩,_⟩:=h;unfold Blk at e;rw[h1]at e;injection e with e;cases e
section
variable {ops:Array Oper} {rest:List Oper} {o:Oper} {a:Act} {Q:Exit->Act->World->Prop} {w:World} {b n:Nat} {ks:List (List UInt8)}
theorem MpS.look(h:MpS w b n ks)(key:ByteArray)(hs:key.size<=maxLen):(Instr.lookup 81 (.map (some b)) (.string key) false).run prog w=.ok (.bool (decide (key.data.toList∈ks))) w:=by
 obtain⟨D,h1,_,h3⟩:=h;have qa:prog.underlying 4=some .bool:=qK;have qe:prog.underlying 9=some .string:=qK;have qf:prog.underlying 81=some (.map 9 4):=qK;obtain⟨v,ps,qg,hv⟩:=h1.lookup (Maps.string_keyed qe) qf (jzlh w) (plainElem_bool qa false) (WideMaps.keyOf_string_mk qe hs);rw[h3]at hv;unfold plainElem at hv;rw[qa]at hv;cases v <;> simp at hv;rw[qg];rename_i x;obtain⟨hv,_⟩:=hv;by_cases hm:key.data.toList∈ks <;> simp_all
theorem jzli(hg:o.guard=none)(m x v:Operand)(hop:o.op=Op.mapUpdate 81 m x v)(b n:Nat)(ks:List (List UInt8))(hm:a.eval m=.map (some b))(h:MpS w b n ks)(hn:n<maxLen)(key:ByteArray)(hx:a.eval x=.string key)(hs:key.size<=maxLen)(hv:a.eval v=.bool true)
  (hK:∀w',MpS w' b (n+1) (key.data.toList::ks)->w.grownBy w' (some b)->wpList prog ops Q rest (a.put o.dst undef) w'):wpList prog ops Q (o::rest) a w:=by
 obtain⟨D,h1,h2,h3⟩:=h;have qe:prog.underlying 4=some .bool:=qK;have qa:prog.underlying 9=some .string:=qK;refine wpList_mapUpdate_own w hg m x v 81 hop 9 4 (Maps.string_keyed qa) qK (plainElem prog 4) b n D hm h1 hn (.string key) (.bool true) (.string key.data.toList) hx hv (WideMaps.keyOf_string_mk qa hs) (.lit (.bool true)) [] (plainElem_bool qe true) ?_;intro w' k1 k2;refine hK w' ⟨_,k1,?_,fun k=>?_⟩ k2;{obtain⟨es,rfl⟩:=h2;exact⟨_,DataW.put_eq es _ _⟩};by_cases e:k=key.data.toList;{subst e;rw[Maps.atKey_put_same h2 (by simp[WideAt.IsKeyLit])];simp};rw[Maps.atKey_put_other (fun e2=>e (by injection e2)),h3];simp[e]
theorem jzlj{K:Act->World->Prop}(m x:Operand)(hop:o.op=Op.lookup 81 m x false)(b n:Nat)(ks:List (List UInt8))(hm:a.eval m=.map (some b))(h:MpS w b n ks)(key:ByteArray)(hx:a.eval x=.string key)(hs:key.size<=maxLen)
  (hK:K (a.put o.dst (.bool (decide (key.data.toList∈ks)))) w):o.wp prog a w K Q:=by
 have qa:=h.look key hs;unfold Oper.wp;simp[execOp,hop,hm,hx,qa,Result.andThen];exact hK
theorem jzlk{K:Act->World->Prop}(m x v:Operand)(hop:o.op=Op.mapUpdate 81 m x v)(b n:Nat)(ks:List (List UInt8))(hm:a.eval m=.map (some b))(h:MpS w b n ks)(hn:n<maxLen)(key:ByteArray)(hx:a.eval x=.string key)(hs:key.size<=maxLen)(hv:a.eval v=.bool true)
  (hK:∀w',MpS w' b (n+1) (key.data.toList::ks)->w.grownBy w' (some b)->K (a.put o.dst undef) w'):o.wp prog a w K Q:=by
 obtain⟨D,h1,h2,h3⟩:=h;have qe:prog.underlying 4=some .bool:=qK;have qa:prog.underlying 9=some .string:=qK;obtain⟨w',qf,k1,k2⟩:=h1.update (t:=81) (e:=4) (Maps.string_keyed qa) qK hn (key:=.string key) (val:=.bool true) (kl:=.string key.data.toList) (d:=.lit (.bool true)) (ps:=[]) (WideMaps.keyOf_string_mk qa hs) (plainElem_bool qe true);unfold Oper.wp;simp[execOp,hop,hm,hx,hv,qf,Result.andThen];refine hK w' ⟨_,k1,?_,fun k=>?_⟩ k2;{obtain⟨es,rfl⟩:=h2;exact⟨_,DataW.put_eq es _ _⟩};by_cases e:k=key.data.toList;{subst e;rw[Maps.atKey_put_same h2 (by simp[WideAt.IsKeyLit])];simp};rw[Maps.atKey_put_other (fun e2=>e (by injection e2)),h3];simp[e]
end
theorem MpS.congr{w}{b n m:Nat}{ks js:List (List UInt8)}(h:MpS w b n ks)(hn:n<=m)(hk:∀k,k∈ks↔k∈js):MpS w b m js:=by
 obtain⟨D,h1,h2,h3⟩:=h;exact⟨D,h1.mono hn,h2,fun k=>by rw[h3];simp[hk]⟩
end Go.Proofs.YtfeeacaofjpkaaaGreatDoor
namespace Go.Proofs.YtfeeacaofjpkaaaGreatDoor
open Go.Proofs.Tryz
open Go.RowKit
def fB(l:List Int):List Value:=l.map fun a=>Value.int .i64 a
theorem Rd.iint{w}{A}{l:List Int}(h:Rd w A (fB l)){k:Nat}{x:Int}(hx:l[k]?=some x):∃b o:Nat,A=some (aD b o)/\b<w.heap.size/\w.cell? (aD b (o+k))=some (vI x):=by
 have hk:=(yH.1 hx).1;obtain⟨b,o,e,hb,hc⟩:=h.at_ (i:=k) (by unfold fB;simpa using hk);refine⟨b,o,e,hb,?_⟩;rw[hc k (by unfold fB;simpa using hk)];unfold fB;rw[yW,hx];rfl
end Go.Proofs.YtfeeacaofjpkaaaGreatDoor
namespace Go.Proofs.YtfeeacaofjpkaaaGreatDoor
open Go.Proofs.Tryz
namespace Sx
open Go.Lib
def rG(l:List UInt8):Nat:=l.foldl (fun n c=>10*n+(c.toNat-48)) 0
theorem rH{n:Nat}(h:n<256):(UInt8.ofNat n).toNat=n:=by
 rw[UInt8.toNat_ofNat'];omega
theorem rI(u:Nat):rG (decDigits u)=u:=by
 (induction u using Nat.strongRecOn with|_ u ih=>by_cases h:u<10;{rw[decDigits,dif_pos h];show 10*0+((UInt8.ofNat (48+u)).toNat-48)=u;rw[rH qO];omega};have h1:=ih (u/10) qO;rw[decDigits,dif_neg h];unfold rG at h1⊢;rw[kZt,h1];show 10*(u/10)+((UInt8.ofNat (48+u%10)).toNat-48)=u;rw[rH qO];omega)
theorem tM(u:Nat):∀c∈decDigits u,48<=c.toNat:=by
 (induction u using Nat.strongRecOn with|_ u ih=>intro c hc;rw[decDigits]at hc;by_cases h:u<10;{rw[dif_pos h]at hc;rw[xD.1 hc,rH qO];omega};(rw[dif_neg h]at hc;rcases xY.1 hc with h1|h1);{exact ih (u/10) qO c h1};rw[xD.1 h1,rH qO];omega)
theorem rJ(n:Int):∀c∈itoa n,c≠32:=by
 have qa:∀u,∀c∈decDigits u,c≠32:=fun u c hc e=>(by have:=tM u c hc;rw[e]at this;exact absurd this qD);intro c hc;unfold itoa at hc;split at hc;{(rcases xZ.1 hc with rfl|h);{decide};exact qa _ c h};exact qa _ c hc
theorem jzdd{a b:Int}(h:itoa a=itoa b):a=b:=by
 have no:∀(u v:Nat),(45:UInt8)::decDigits u≠decDigits v:=fun u v e=>(by have:=tM v 45 (by rw[<-e];simp);exact absurd this qD);unfold itoa at h;by_cases ha:a<0;{rw[qE ha]at h;by_cases hb:b<0;{rw[qE hb]at h;have h1:=congrArg rG (List.cons.inj h).2;rw[rI,rI]at h1;omega};rw[qF hb]at h;exact absurd h (no _ _)};rw[qF ha]at h;by_cases hb:b<0;{rw[qE hb]at h;exact absurd h.symm (no _ _)};rw[qF hb]at h;have h1:=congrArg rG h;rw[rI,rI]at h1;omega
def fS(l:List Int):List UInt8:=l.flatMap fun a=>32::itoa a
def nameL(d:Int)(l:List Int):List UInt8:=itoa d++fS l
theorem wE:∀{x y:List UInt8} {u v:List UInt8},(∀c∈x,c≠32)->(∀c∈y,c≠32)->(u=[]\/∃u',u=32::u')->(v=[]\/∃v',v=32::v')->x++u=y++v->x=y/\u=v
 | [],[],u,v,_,_,_,_,h=>⟨rfl,h⟩
 | [],b::y,u,v,_,hy,hu,_,h=>by
   have h:u=b::(y++v):=h;rcases hu with e|⟨u',e⟩
   ·rw[e]at h;cases h
   ·rw[e]at h
    exact absurd (List.cons.inj h).1.symm (hy b qS)
 |a::x,[],u,v,hx,_,_,hv,h=>by
  have h:a::(x++u)=v:=h;rcases hv with e|⟨v',e⟩
  ·rw[e]at h;cases h
  ·rw[e]at h
   exact absurd (List.cons.inj h).1 (hx a qS)
 |a::x,b::y,u,v,hx,hy,hu,hv,h=>by
  have h:a::(x++u)=b::(y++v):=h;obtain⟨h1,h2⟩:=List.cons.inj h;obtain⟨h3,h4⟩:=wE (fun c hc=>hx c (by simp[hc])) (fun c hc=>hy c (by simp[hc])) hu hv h2;exact⟨by rw[h1,h3],h4⟩
theorem rK(l:List Int):fS l=[]\/∃u,fS l=32::u:=by
 (cases l with|nil=>exact .inl rfl|cons a l=>exact .inr ⟨_,rfl⟩)
theorem jzde:∀{l k:List Int},fS l=fS k->l=k
 | [],[],_=>rfl
 | [],_::_,h=>by cases h
 |_::_,[],h=>by cases h
 |a::l,b::k,h=>by
  have h:(32:UInt8)::(itoa a++fS l)=32::(itoa b++fS k):=h;obtain⟨h1,h2⟩:=wE (rJ a) (rJ b) (rK l) (rK k) (List.cons.inj h).2;rw[jzdd h1,jzde h2]
theorem jzll{d e:Int}{l k:List Int}(h:nameL d l=nameL e k):d=e/\l=k:=by
 obtain⟨h1,h2⟩:=wE (rJ d) (rJ e) (rK l) (rK k) h;exact⟨jzdd h1,jzde h2⟩
end Sx
end Go.Proofs.YtfeeacaofjpkaaaGreatDoor
namespace Go.Proofs.YtfeeacaofjpkaaaGreatDoor
open Go.Proofs.Tryz
open Go.RowKit Go.Lib Sx
theorem jzlm(B b:Nat)(bs:List Value)(c:Int)w(h:Lib.IsBuilder 180 5 B b bs w)(hlen:bs.length+1<=140737488355328)(hBw:B<=w.heap.size):
  Calls prog 112 #[.pointer (sA b),.int .u8 c] w fun e w'=>e=.returned .nilIface/\(Lib.BuilderAt 180 5 B b (.pointer (sA b)) (bs++[.int .u8 c]) w'/\Below B w w'):=by
 go_enter func112,ntmps112;go_wp2_with fail;refine(jzap B b bs _ h).mono ?_;rintro e w1 ⟨rfl,h1,qj⟩;obtain⟨hB,v,qg,qe,qn⟩:=h1;have c0:w1.cell? (aD b 0)=some (.pointer (sA b)):=(by rw[Lib.cell_of_heap qg];rfl);have c1:w1.cell? (aD b 1)=some v:=(by rw[Lib.cell_of_heap qg];rfl);have qk:b<w1.heap.size:=(by (rcases kQd b w1.heap.size with h'|h');{exact h'};simp[kQn h']at qg);have qm:B<=w1.heap.size:=yY hBw qj.size;(go_wp2_with (at_builtin;refine kZ _ 178 5 _ 1 1 rfl _ _ rfl underlying178 jzao rfl qD B v bs.length bs rfl (qe.kept (eZ ((eR w1).alloc (.cells #[.int .u8 c] 5))) (fA _)) [.int .u8 c] rfl (by simp[Value.oneCell']) w1.heap.size rfl (eN w1 5 #[.int .u8 c]) (by unfold maxLen;omega) qO (by simp;omega) ?_));intro g9 c9 w2 qf qa _;have qo:(w1.alloc (.cells #[.int .u8 c] 5)).heap[b]?=some (.cells #[.pointer (sA b),v] 180 (0,0)):=(Lib.alloc_old w1 _ b qk).trans qg;have qi:b<(w1.alloc (.cells #[.int .u8 c] 5)).heap.size:=(by simp;omega);have qh:w2.heap[b]?=some (.cells #[.pointer (sA b),v] 180 (0,0)):=(by rw[qa.block b qi (fun e=>qn e.symm)];exact qo);have d0:w2.cell? (aD b 0)=some (.pointer (sA b)):=(by rw[Lib.cell_of_heap qh];rfl);have d1:w2.cell? (aD b 1)=some v:=(by rw[Lib.cell_of_heap qh];rfl);have f1:w2.frozen? (aD b 1)=false:=Lib.frozen_of_heap qh 1;go_wp2;go_ret;refine⟨rfl,?_,?_⟩;{exact Lib.BuilderAt.put (T:=180) (e:=5) hB qh (bs':=bs++[.int .u8 c]) (by simpa using qf) qD};exact((qj.alloc qm _).grown qa (by simp;omega) (fun k hk=>(qe.lt k hk).1)).setCell (p:=(aD b 1)) hB _
theorem jzdf(r:Int)w(ht:Tab w)(hr:i64 r):
  Calls prog 111 #[vI r] w fun e w'=>e=.returned (.string ⟨(Lib.itoa r).toArray⟩)/\Ext w w':=by
 unfold i64 at hr;refine(Tryz.strconv_Itoa r qO qO w ht).mono ?_;rintro e w' ⟨rfl,k,os,rfl⟩;exact⟨rfl,jzaq _ _ _⟩
theorem jzln(r:Nat)(h:r<10000000000000000000):(Lib.decDigits r).length<=19:=by
 rw[Lib.decDigits_length];have h1:=Dig.fixD_pad 18 r (by simp;omega);have h2:∀k r,(Dig.fixD k r).length=k:=fun k=>(by (induction k with|zero=>intro r;rfl|succ k ih=>intro r;rw[Dig.fixD,yQ,ih];rfl));have h3:=congrArg List.length h1;rw[h2,yQ,xC,Lib.decDigits_length]at h3;omega
theorem rL(r:Int)(hr:i64 r):(Lib.itoa r).length<=20:=by
 unfold i64 at hr;unfold Lib.itoa;have h1:∀n:Nat,n<=9223372036854775808->(Lib.decDigits n).length<=19:=fun n hn=>(by exact jzln n qO);split;{rw[kQo];have:=h1 r.natAbs qO;omega};have:=h1 r.toNat qO;omega
theorem wF(d:Int)(l:List Int)(hd:i64 d)(hl:∀a∈l,i64 a):(nameL d l).length<=20+21*l.length:=by
 have qa:∀l:List Int,(∀a∈l,i64 a)->(fS l).length<=21*l.length:=fun l=>(by (induction l with|nil=>intro _;exact yX _|cons a l ih=>intro h;have h1:=ih fun b hb=>h b (xO _ hb);have h2:=rL a (h a qS);have e:fS (a::l)=(32::Lib.itoa a)++fS l:=(by unfold fS;rw[xU]);rw[e,yQ,kQo,kQo];omega));unfold nameL;rw[yQ];have h1:=qa l hl;have h2:=rL d hd;omega
theorem jzlo(d:Int)(l:List Int)(a:Int):nameL d (l++[a])=nameL d l++[32]++Lib.itoa a:=by
 unfold nameL fS;rw[List.flatMap_append];simp
theorem jzdg(d:Int)(l:List Int)A(n c:Nat)(hn:l.length=n)(neg:Bool)A1(n1 c1:Nat)A2(n2 c2:Nat)w(ht:Tab w)(hr:Rd w A (fB l))(hll:n<=1000000)(hd:i64 d)(hi:∀a∈l,i64 a):
  Calls prog 50 #[.agg #[vI d,.s A n c,.bool neg,.s A1 n1 c1,.s A2 n2 c2]] w fun e w'=>e=.returned (.string ⟨(nameL d l).toArray⟩)/\Ext w w':=by
 have HT:=Hx ht;have HR:=Hx hr;have HI:=Hx (kQa hd hi);clear ht hr hd hi;obtain⟨qf,e0⟩:=bA w #[vI d,.s A n c,.bool neg,.s A1 n1 c1,.s A2 n2 c2] 98;have i0:=qf.cell 0;have i1:=qf.cell 1;have E0:=Hx (kQa qf e0);have qm:(w.alloc (.cells #[vI d,.s A n c,.bool neg,.s A1 n1 c1,.s A2 n2 c2] 98)).heap.size=w.heap.size+1:=qS;have BD:Hid (Lib.IsBuilder 180 5 (w.alloc (.cells #[vI d,.s A n c,.bool neg,.s A1 n1 c1,.s A2 n2 c2] 98)).heap.size (w.alloc (.cells #[vI d,.s A n c,.bool neg,.s A1 n1 c1,.s A2 n2 c2] 98)).heap.size [] ((w.alloc (.cells #[vI d,.s A n c,.bool neg,.s A1 n1 c1,.s A2 n2 c2] 98)).alloc (.cells #[.pointer none,zN] 180))):=Hx (Lib.fresh_isBuilder _ _ _);have X0:=Hx ((eR (w.alloc (.cells #[vI d,.s A n c,.bool neg,.s A1 n1 c1,.s A2 n2 c2] 98))).alloc (.cells #[.pointer none,zN] 180));clear qf e0;go_enter func50,ntmps50;(go_upto_region 2 with fail);rw[<-qm];generalize w.alloc (.cells #[vI d,.s A n c,.bool neg,.s A1 n1 c1,.s A2 n2 c2] 98)=W0 at*;have qh:w.heap.size<W0.heap.size:=E0.o.1.lt;clear qm;have i0:=aU i0 (.cells #[.pointer none,zN] 180);go_wp2_with fail;refine(jzdf d _ ((HT.o.K E0.o.2).K X0.o) HI.o.1).mono ?_;rintro e w1 ⟨rfl,qe⟩;have B1:Hid (Lib.IsBuilder 180 5 W0.heap.size W0.heap.size [] w1):=Hx (by (rcases BD.o with⟨h1,v,h2,h3,h4⟩|⟨h1,v,h2,h3,h4⟩);{exact .inl ⟨h1,v,(qe.block _ qS).trans h2,h3.kept (eZ qe) (fA _),h4⟩};exact .inr ⟨h1,v,(qe.block _ qS).trans h2,h3.kept (eZ qe) (fA _),h4⟩);(have X1:=Hx (X0.o.tr qe);clear qe BD X0;have qg:=rL d HI.o.1;have e9:(⟨(Lib.itoa d).toArray⟩:ByteArray).size=(Lib.itoa d).length:=by show(Lib.itoa d).toArray.size=_;simp);go_wp2_with fail;refine(tG W0.heap.size W0.heap.size [] ⟨(Lib.itoa d).toArray⟩ _ B1.o (by rw[e9];simp;omega) X1.o.size).mono ?_;rintro e w2 ⟨rfl,qp,qj⟩;have B2:Hid (Lib.IsBuilder 180 5 W0.heap.size W0.heap.size (Lib.byteCells (nameL d (l.take 0))) w2):=Hx (.inr (by have e:nameL d (l.take 0)=Lib.itoa d:=(by unfold nameL fS;simp);rw[e];exact qp));have L2:Hid (Below W0.heap.size W0 w2):=Hx (Below.trans X1.o qj);clear qp qj B1 X1 qg e9;have i1:=(L2.o.cell (p:=(aD w.heap.size 1)) qh).trans i1;go_wp2;go_loopg [13] n (fun q it wx=>∃m:Nat,n-m=q/\m<=n/\it=vI (m:Int)/\Hid (Lib.IsBuilder 180 5 W0.heap.size W0.heap.size (Lib.byteCells (nameL d (l.take m))) wx/\Below W0.heap.size W0 wx));exact⟨0,rfl,yZ _,rfl,Hx ⟨B2.o,L2.o⟩⟩;obtain⟨m,rfl,hm,rfl,I⟩:=hrel;clear B2 L2 i0 i1;by_cases qx:m<n;{obtain⟨a,ha⟩:∃a,l[m]?=some a:=⟨_,yG qO⟩;have HA:Hid (i64 a):=Hx (HI.o.2 a (yJ ha));have NX:=Hx (show nameL d (l.take (m+1))=nameL d (l.take m)++[32]++Lib.itoa a by rw[kQr,ha];exact jzlo d _ a);obtain⟨b,o,rfl,hb,ca⟩:=((HR.o.K E0.o.2).K I.o.2).iint ha;have qk:Hid ((nameL d (l.take m)).length<=20+21*n):=Hx (yY (wF d _ HI.o.1 fun a h=>HI.o.2 a (xM h)) (by rw[xF];omega));have nN:(m:Int)<(n:Int):=qO;have n0:(0:Int)<=(m:Int):=qO;clear ha;go_wp2_with fail;refine(jzlm W0.heap.size W0.heap.size _ 32 _ I.o.1 (by rw[Lib.byteCells_length];have:=qk.o;omega) I.o.2.size).mono ?_;rintro e w3 ⟨rfl,qw,qi⟩;have B3:Hid (Lib.IsBuilder 180 5 W0.heap.size W0.heap.size (Lib.byteCells (nameL d (l.take m)++[32])) w3):=Hx (.inr (by rw[Lib.byteCells_append];exact qw));have L3:=Hx (I.o.2.trans qi);clear qw qi ca;go_wp2_with fail;refine(jzdf a _ ((HT.o.K E0.o.2).K L3.o) HA.o).mono ?_;rintro e w4 ⟨rfl,qa⟩;have B4:Hid (Lib.IsBuilder 180 5 W0.heap.size W0.heap.size (Lib.byteCells (nameL d (l.take m)++[32])) w4):=Hx (by (rcases B3.o with h|h);{have hl:=h.lt;obtain⟨h1,v,h2,h3,h4⟩:=h;exact .inl ⟨h1,v,(qa.block _ hl).trans h2,h3.kept (eZ qa) (fA _),h4⟩};have hl:=h.lt;obtain⟨h1,v,h2,h3,h4⟩:=h;exact .inr ⟨h1,v,(qa.block _ hl).trans h2,h3.kept (eZ qa) (fA _),h4⟩);(have L4:Hid (Below W0.heap.size W0 w4):=Hx (Ext.tr (show Ext W0 w3 from L3.o) qa);clear qa B3 L3;have qg:=rL a HA.o;have e9:(⟨(Lib.itoa a).toArray⟩:ByteArray).size=(Lib.itoa a).length:=by show(Lib.itoa a).toArray.size=_;simp);go_wp2_with fail;refine(tG W0.heap.size W0.heap.size _ ⟨(Lib.itoa a).toArray⟩ _ B4.o (by rw[Lib.byteCells_length,yQ,e9];have:=qk.o;simp;omega) L4.o.size).mono ?_;rintro e w5 ⟨rfl,qn,qo⟩;have B5:Hid (Lib.IsBuilder 180 5 W0.heap.size W0.heap.size (Lib.byteCells (nameL d (l.take (m+1)))) w5):=Hx (.inr (by rw[NX.o,Lib.byteCells_append];exact qn));have L5:=Hx (L4.o.trans qo);clear qn qo qg e9;go_wp2;go_roundg (n-(m+1));exact⟨m+1,rfl,qO,by go_num,Hx ⟨B5.o,L5.o⟩⟩;omega};obtain rfl:m=n:=qO;rw[yU qO]at I;go_wp2_with fail;refine(Tryz.Builder_String_any W0.heap.size W0.heap.size _ _ I.o.1 I.o.2.size).mono ?_;rintro e w9 ⟨rfl,qt⟩;have HE:Hid (Ext w w9):=Hx (E0.o.2.tr (I.o.2.trans qt));clear qt;go_wp2;go_ret;exact⟨rfl,HE.o⟩
def dJ(p:Nat×LN):List UInt8:=nameL (p.1:Int) (p.2.map fun a:Nat=>(a:Int))
theorem jzdh{p q:Nat×LN}(h:dJ p=dJ q):p=q:=by
 obtain⟨h1,h2⟩:=jzll h;have e1:p.1=q.1:=qO;have e2:p.2=q.2:=(by have:=congrArg (List.map Int.toNat) h2;simpa [List.map_map,Function.comp_def]using this);exact Prod.ext e1 e2
theorem jzdi(p:Nat×LN)(P:List (Nat×LN)):dJ p∈P.map dJ↔p∈P:=by
 constructor;{intro h;obtain⟨q,hq,e⟩:=kQl.1 h;rw[<-jzdh e];exact hq};exact fun h=>kQl.2 ⟨p,h,rfl⟩
end Go.Proofs.YtfeeacaofjpkaaaGreatDoor
namespace Go.Proofs.YtfeeacaofjpkaaaGreatDoor
open Go.Proofs.Tryz
open Go.RowKit
theorem wG{α:Type}(f:α->List Value)(m:Nat)(hf:∀x,(f x).length=m):∀(l:List α) (i k:Nat) {x:α},l[i]?=some x->k<m->(l.flatMap f)[i*m+k]?=(f x)[k]?
 | [],i,k,x,h,_=>by simp at h
 |y::l,0,k,x,h,hk=>by
  injection h with h
  subst h;rw[xU,Nat.zero_mul,kQu,yR (by rw[hf];exact hk)]
 |y::l,i+1,k,x,h,hk=>by
  rw[xU,yS (by rw[hf,xP,xQ];omega),hf,show(i+1)*m+k-m=i*m+k by rw[xP,xQ];omega];exact wG f m hf l i k (by simpa using h) hk
theorem jzdj{α:Type}(f:α->List Value)(m:Nat)(hf:∀x,(f x).length=m)(l:List α):(l.flatMap f).length=l.length*m:=by
 (induction l with|nil=>simp|cons y l ih=>rw[xU,yQ,ih,hf,kQo,xP,xQ];omega)
structure DmR(w:World)(l:List Dm)(A:OA)(c:Nat):Prop where
 len:l.length<=c
 cap:l.length<=281474976710656
 rd:Rd w A (l.flatMap Dm.cells)
 wf:∀d∈l,d.wf
theorem DmR.K{w w'}{l:List Dm}{A}{c:Nat}(h:DmR w l A c)(hx:Ext w w'):DmR w' l A c:=⟨h.len,h.cap,h.rd.K hx,h.wf⟩
theorem DmR.at_{w}{l:List Dm}{A}{c:Nat}(h:DmR w l A c){i:Nat}{d:Dm}(hl:l[i]?=some d):
  ∃b o:Nat,A=some (aD b o)/\b<w.heap.size/\w.cell? (aD b (o+i*4))=some (vI d.src)/\w.cell? (aD b (o+i*4+1))=some (vI d.dst)/\w.cell? (aD b (o+i*4+2))=some (vI d.amount)/\w.cell? (aD b (o+i*4+3))=some (vI d.prio):=by
 have hi:=(yH.1 hl).1;have qa:=jzdj Dm.cells 4 (fun _=>rfl) l;obtain⟨b,o,e,hb,hc⟩:=h.rd.at_ (i:=i*4) (by rw[qa];omega);have qe:∀k,k<4->w.cell? (aD b (o+(i*4+k)))=(Dm.cells d)[k]?:=fun k hk=>(by rw[hc (i*4+k) (by rw[qa];omega)];exact wG Dm.cells 4 (fun _=>rfl) l i k hl hk);exact⟨b,o,e,hb,qe 0 qO,qe 1 qO,qe 2 qO,qe 3 qO⟩
def dO(N:Int)(l:List Dm):Bool:=inB N 0 64&&decide (l.length<=64)&&l.all (Dm.ok N)
def dT(t:Tp)(l:List Dm):Bool:=aH t&&decide (0<l.length)&&dO t.nodes l
theorem rM{t}{l:List Dm}(hl:l.length<=64):dT t l=true↔Fit t l:=by
 constructor;{intro h;unfold dT dO at h;rw[vM,vM,vM,xW]at h;exact⟨h.1.1,by simpa using h.1.2,h.2.2⟩};intro h;have hn:inB t.nodes 0 64=true:=(by have:=h.v;unfold aH cS inB at this;unfold inB;simp at this⊢;omega);unfold dT dO;rw[h.v,hn,yO h.n,yO hl,xW.2 h.ok];rfl
theorem mS(n lo hi:Int)w:Calls prog 135 #[vI n,vI lo,vI hi] w fun e w'=>e=.returned (.bool (inB n lo hi))/\w=w':=by
 have hd:inB n lo hi=(decide (lo<=n)&&decide (n<=hi)):=(by unfold inB;simp);rw[hd];clear hd;by_cases h1:lo<=n;{(have qa:decide (lo<=n)=true:=by simpa using h1);rw[qa];go_enter func135,ntmps135;go_wp2;go_ret;exact⟨qS,rfl⟩};have qa:decide (lo<=n)=false:=(by simpa using h1);rw[qa];go_enter func135,ntmps135;go_wp2;go_ret;exact⟨qS,rfl⟩
theorem gX{l:List Dm}{N:Int}{k:Nat}{d:Dm}(hl:l[k]?=some d)(hb:d.ok N=false):l.all (Dm.ok N)=false:=by
 obtain⟨hk,he⟩:=yH.1 hl;rw[List.all_eq_false];exact⟨d,by rw[<-he];exact xR hk,by simp[hb]⟩
theorem jzdk{l:List Dm}{N:Int}(h:∀(j:Nat) (d:Dm),l[j]?=some d->d.ok N=true):l.all (Dm.ok N)=true:=by
 rw[xW];intro d hd;obtain⟨j,hj,rfl⟩:=List.mem_iff_getElem.1 hd;exact h j _ (yG hj)
theorem jzlp(N:Int)A(c:Nat)(l:List Dm)w(hd:DmR w l A c):
  Calls prog 70 #[vI N,.s A l.length c] w fun e w'=>e=.returned (.bool (dO N l))/\Ext w w':=by
 have HD:=Hx hd;have qj:=hd.len;have qg:=hd.cap;clear hd;cases k1:inB N 0 64
 ·have HR:=Hx (show dO N l=false by unfold dO;rw[k1];rfl)
  go_enter func70,ntmps70
  go_wp2_with (go_at_call 135;refine(mS _ _ _ _).mono ?_;rintro e w' ⟨rfl,rfl⟩)
  go_ret;rw[HR.o];exact⟨rfl,eR _⟩
 by_cases k2:l.length<=64
 case neg=>
  have qh:64<l.length:=qO;have HR:=Hx (show dO N l=false by unfold dO;rw[yP k2];simp)
  go_enter func70,ntmps70
  go_wp2_with (go_at_call 135;refine(mS _ _ _ _).mono ?_;rintro e w' ⟨rfl,rfl⟩)
  go_ret;rw[HR.o];exact⟨rfl,eR _⟩
 have HR:=Hx (show dO N l=l.all (Dm.ok N) by unfold dO;rw[k1,yO k2];rfl);have hN:0<=N/\N<=64:=(by unfold inB at k1;simpa using k1);obtain⟨qi,qf⟩:=hN
 go_enter func70,ntmps70
 go_wp2_with (go_at_call 135;refine(mS _ _ _ _).mono ?_;rintro e w' ⟨rfl,rfl⟩)
 clear k1
 go_loopg [17] l.length (fun q it wx=>∃n:Nat,l.length-n=q/\n<=l.length/\it=vI (n:Int)/\Hid ((∀j d,j<n->l[j]?=some d->d.ok N=true)/\Ext w wx))
 case atStart=>exact⟨0,rfl,yZ _,rfl,Hx ⟨fun j d h=>qO,eR _⟩⟩
 obtain⟨n,rfl,hn,rfl,I⟩:=hrel;by_cases qe:n<l.length
 ·obtain⟨d,hd⟩:∃d,l[n]?=some d:=⟨_,yG qe⟩
  have HL:=Hx hd;obtain⟨b,o,rfl,hb,c0,c1,c2,c3⟩:=(HD.o.K I.o.2).at_ hd;have nN:(n:Int)<(l.length:Int):=qO;have n0:(0:Int)<=(n:Int):=qO;have X9:=Hx (I.o.2.alloc (.cells #[vI d.src,vI d.dst,vI d.amount,vI d.prio] 60));have qa:((d.src==d.dst)=true/\d.ok N=false)\/((d.src==d.dst)=false/\inB d.src 0 (N-1)=false/\d.ok N=false)\/((d.src==d.dst)=false/\inB d.src 0 (N-1)=true/\inB d.dst 0 (N-1)=false/\d.ok N=false)\/
    ((d.src==d.dst)=false/\inB d.src 0 (N-1)=true/\inB d.dst 0 (N-1)=true/\inB d.amount 1 1048576=false/\d.ok N=false)\/
    ((d.src==d.dst)=false/\inB d.src 0 (N-1)=true/\inB d.dst 0 (N-1)=true/\inB d.amount 1 1048576=true/\inB d.prio 0 7=d.ok N):=by
   unfold Dm.ok;cases d.src==d.dst <;> cases inB d.src 0 (N-1) <;> cases inB d.dst 0 (N-1) <;> cases inB d.amount 1 1048576 <;> simp
  clear hd;rcases qa with⟨d1,hf⟩|⟨d1,d2,hf⟩|⟨d1,d2,d3,hf⟩|⟨d1,d2,d3,d4,hf⟩|⟨d1,d2,d3,d4,d5⟩
  case inr.inr.inr.inr=>
   cases hg:inB d.prio 0 7
   ·have HF:=Hx (gX HL.o (d5.symm.trans hg))
    clear d5
    go_wp2_with (go_at_call 135;refine(mS _ _ _ _).mono ?_;rintro e w' ⟨rfl,rfl⟩)
    go_ret;rw[HR.o,HF.o];exact⟨rfl,X9.o⟩
   have OK:=Hx (d5.symm.trans hg);clear d5
   go_wp2_with (go_at_call 135;refine(mS _ _ _ _).mono ?_;rintro e w' ⟨rfl,rfl⟩)
   go_roundg (l.length-(n+1))
   case measure=>omega
   case rel=>exact⟨n+1,rfl,qO,by go_num,Hx ⟨fun j d' hj hd'=>by
    by_cases e:j=n
    ·subst e;have:=HL.o;rw[this]at hd';injection hd' with hd';subst hd';exact OK.o
    exact I.o.1 j d' qO hd',X9.o⟩⟩
  all_goals
   have HF:=Hx (gX HL.o hf);clear hf
   go_wp2_with (go_at_call 135;refine(mS _ _ _ _).mono ?_;rintro e w' ⟨rfl,rfl⟩)
   go_ret;rw[HR.o,HF.o];exact⟨rfl,X9.o⟩
 obtain rfl:n=l.length:=qO;have HF:=Hx (jzdk (l:=l) (N:=N) (fun j d hj=>I.o.1 j d (yH.1 hj).1 hj));go_wp2;go_ret;rw[HR.o,HF.o];exact⟨rfl,I.o.2⟩
theorem jzdl t AO(co:Nat)AL(cl:Nat)(l:List Dm)A(c:Nat)w(ht:bD w t AO co AL cl)(hd:DmR w l A c):
  Calls prog 26 #[.agg #[vI t.nodes,.s AO t.over.length co,.s AL t.links.length cl],.s A l.length c] w fun e w'=>e=.returned (.bool (dT t l))/\Ext w w':=by
 have HT:=Hx (kQa ht hd);clear ht hd;obtain⟨qa,e0⟩:=bA w #[vI t.nodes,.s AO t.over.length co,.s AL t.links.length cl] 25;have BA:=Hx (kQa qa e0);obtain⟨⟨i0,i1,i2⟩,_⟩:=qa.t3;clear qa e0;go_enter func26,ntmps26;go_wp2_with fail;refine(pH t AO co AL cl _ (HT.o.1.K BA.o.2)).mono ?_;rintro e w1 ⟨rfl,qe⟩;have E1:=Hx (kQa (BA.o.1.K qe) (BA.o.2.tr qe));clear qe BA i0 i1 i2;obtain⟨⟨i0,i1,i2⟩,_⟩:=E1.o.1.t3;cases hv:aH t;{have HR:=Hx (show dT t l=false by unfold dT;rw[hv];rfl);go_wp2_with fail;go_ret;rw[HR.o];exact⟨rfl,E1.o.2⟩};by_cases hl:0<l.length;{have HR:=Hx (show dT t l=dO t.nodes l by unfold dT;rw[hv,yO hl];rfl);have qg:decide ((0:Int)<(l.length:Int))=true:=yO qO;go_wp2_with fail;refine(jzlp t.nodes A c l _ (HT.o.2.K E1.o.2)).mono ?_;rintro e w2 ⟨rfl,qf⟩;have E2:=Hx (E1.o.2.tr qf);clear qf;go_wp2_with fail;go_ret;rw[HR.o];exact⟨rfl,E2.o⟩};have HR:=Hx (show dT t l=false by unfold dT;rw[yP hl];simp);have qg:decide ((0:Int)<(l.length:Int))=false:=yP qO;go_wp2_with fail;go_ret;rw[HR.o];exact⟨rfl,E1.o.2⟩
section
variable {w w7:World} {B:Nat} {L:aT} {T:Sx.Tb}
def wH(T:Sx.Tb)(l:LN):Sx.Tb:=⟨T.rows,T.bas,l,T.goal,T.cols⟩
theorem aF.fre_push(h:aF w B L T){g7 c7 num:Nat}(own7:w7.ownsRow B 3 1 (.s (sA g7) (T.fre.length+1) c7) (T.fre.length+1) (ints T.fre++[vI (num:Int)]))(grow:w.grownBy w7 L.vf.ownBlock)(new7:some g7=L.vf.ownBlock\/w.heap.size<=g7):
  aF (w7.setCell (aD L.p 2) (.s (sA g7) (T.fre.length+1) c7)) B (L.setF (.s (sA g7) (T.fre.length+1) c7)) (wH T (T.fre++[num]))/\
   FrS L.S w (w7.setCell (aD L.p 2) (.s (sA g7) (T.fre.length+1) c7)):=by
 have k7:FrS (fun b=>L.vf.ownBlock=some b) w w7:=eG grow fun g e=>e;have n7:NoT (fun b=>L.vf.ownBlock=some b) w 196:=fun b hb=>bK h.fre hb qD;have qe:∀{b:Nat} {t:TypeId} {cs:Array Value},Blk w b t cs->3≠t->¬L.vf.ownBlock=some b:=fun hb ht e=>bK h.fre e ht _ _ hb;obtain⟨gs,h1,h2⟩:=h.box;have qg:=k7.blk h2 (qe h2 qD);have k8:FrS (fun b=>b=L.p) w7 (w7.setCell (aD L.p 2) (.s (sA g7) (T.fre.length+1) c7)):=eG (aM w7 L.p 2 _) fun g e=>(by injection e with e;exact e.symm);have n8:NoT (fun b=>b=L.p) w7 196:=NoT.one qg qD;have qa:∀{b:Nat} {t:TypeId} {cs:Array Value},Blk w7 b t cs->t≠147->¬b=L.p:=fun hb ht e=>(by rw[e]at hb;exact ht (aZ hb qg).2);have qh:∀{t:TypeId} {v:Value} {n s:Nat} {xs:List Value},w.ownsRow B t s v n xs->3≠t->t≠147->(w7.setCell (aD L.p 2) (.s (sA g7) (T.fre.length+1) c7)).ownsRow B t s v n xs:=fun ho ht ht2=>(by have qf:=k7.own ho fun b hb=>(by obtain⟨c,hc⟩:=aW ho hb;exact qe hc ht);exact k8.own qf fun b hb=>(by obtain⟨c,hc⟩:=aW qf hb;exact qa hc ht2));have qj:∀{v:Value} {qs:LQ},OQ QR 33 w B v qs->OQ QR 33 (w7.setCell (aD L.p 2) (.s (sA g7) (T.fre.length+1) c7)) B v qs:=fun {v qs} ho=>(by obtain⟨xs,hx⟩:=ho.own;have qf:=k7.oq n7 ho fun b hb=>(by obtain⟨c,hc⟩:=aW hx hb;exact qe hc qD);obtain⟨qp,qo⟩:=qf.own;exact k8.oq n8 qf fun b hb=>(by obtain⟨c,hc⟩:=aW qo hb;exact qa hc qD));obtain⟨n0,A0,m0,d0,qm,qn,qk,rfl,rr⟩:=h1;refine⟨⟨h.rl,h.lo,⟨_,⟨n0,A0,m0,d0,qm,qn,qk,rfl,k8.ratR n8 (k7.ratR n7 rr)⟩,qg.sT 2 _⟩,?_,h.bl,?_,?_,?_,fun i hi=>qj (h.co i hi),qj h.go,h.sep⟩,(k7.mono (S':=L.S) fun b hb=>.inr (.inr (.inr (.inl hb)))).tr k8 fun b hb=>.inl (.inl hb)⟩;{obtain⟨css,h1,h3,h4,h5⟩:=h.rows;refine⟨css,h1,h3,qh h4 qD qD,fun i hi=>?_⟩;obtain⟨c,h6,h7⟩:=h5 i hi;exact⟨c,h6,k8.rwc n8 (k7.rwc n7 h7)⟩};{have qi:=k7.own h.bas fun b hb e=>(by (rcases h.bf with h9|h9);{rw[h9]at hb;cases hb};exact h9 (hb.trans e.symm));exact k8.own qi fun b hb=>(by obtain⟨c,hc⟩:=aW qi hb;exact qa hc qD)};{show(w7.setCell _ _).ownsRow B 3 1 _ (T.fre++[num]).length (ints (T.fre++[num]));rw[kU,yQ];exact k8.own own7 fun b hb=>(by obtain⟨c,hc⟩:=aW own7 hb;exact qa hc qD)};(show L.vb.ownBlock=none\/L.vb.ownBlock≠some g7;rcases new7 with e|e);{rw[e];exact h.bf};refine .inr fun e2=>?_;have:=(h.bas.lt g7 e2).2;omega
end
def TmR(w:World)(PT:OA)(ts:List (Nat×Rat)):Prop:=
 ∃css:List (List Value),css.length=ts.length/\(∀cs∈css,cs.length=4)/\RdT w 128 PT css.flatten/\∀(i:Nat) (t:Nat×Rat),ts[i]?=some t->∃cs,css[i]?=some cs/\∃(neg:Bool) (A:OA) (n c:Nat) (A':OA) (n' c':Nat),cs=[vI (t.1:Int),.bool neg,.s A n c,.s A' n' c']/\aB w neg A n c A' n' c' t.2
theorem TmR.K{w w'}{PT}{ts:List (Nat×Rat)}(h:TmR w PT ts)(hx:Ext w w'):TmR w' PT ts:=by
 obtain⟨css,h1,h2,h3,h4⟩:=h;refine⟨css,h1,h2,h3.K hx,fun i t ht=>?_⟩;obtain⟨cs,k1,neg,A,n,c,A',n',c',k2,k3⟩:=h4 i t ht;exact⟨cs,k1,neg,A,n,c,A',n',c',k2,k3.K hx⟩
theorem TmR.fr{S:Nat->Prop}{w w'}{PT}{ts:List (Nat×Rat)}(h:TmR w PT ts)(k:FrS S w w')(n1:NoT S w 128)(n2:NoT S w 196):TmR w' PT ts:=by
 obtain⟨css,h1,h2,h3,h4⟩:=h;refine⟨css,h1,h2,k.rdT n1 h3,fun i t ht=>?_⟩;obtain⟨cs,k1,neg,A,n,c,A',n',c',k2,k3⟩:=h4 i t ht;exact⟨cs,k1,neg,A,n,c,A',n',c',k2,k.ratR n2 k3⟩
theorem TmR.at_{w}{PT}{ts:List (Nat×Rat)}(h:TmR w PT ts){i:Nat}{t:Nat×Rat}(ht:ts[i]?=some t):
  ∃(b o:Nat) (neg:Bool) (A:OA) (n c:Nat) (A':OA) (n' c':Nat),PT=some (aD b o)/\b<w.heap.size/\
   (w.cell? (aD b (o+i*4))=some (vI (t.1:Int))/\w.cell? (aD b (o+i*4+1))=some (.bool neg)/\w.cell? (aD b (o+i*4+2))=some (.s A n c)/\w.cell? (aD b (o+i*4+3))=some (.s A' n' c'))/\aB w neg A n c A' n' c' t.2:=by
 obtain⟨css,h1,h2,h3,h4⟩:=h;obtain⟨cs,k1,neg,A,n,c,A',n',c',rfl,k3⟩:=h4 i t ht;have hi:=(yH.1 ht).1;have qa:=fZ css h2;obtain⟨b,o,e,qf,hc⟩:=h3.rd (by intro e;rw[e]at qa;simp at qa;omega);have qe:∀k,k<4->w.cell? (aD b (o+i*4+k))=([vI (t.1:Int),.bool neg,.s A n c,.s A' n' c']:List Value)[k]?:=fun k hk=>(by rw[kZw,hc (i*4+k) (by rw[qa];omega),eL css h2 i k qO hk,k1];rfl);exact⟨b,o,neg,A,n,c,A',n',c',e,qf,⟨qe 0 qO,qe 1 qO,qe 2 qO,qe 3 qO⟩,k3⟩
theorem oG{w:World}{B n s:Nat}{e:TypeId}{v:Value}{xs:List Value}(h:w.ownsRow B e s v n xs):∃A c,v=.s A n c/\n<=c:=by
 rcases h.2 with⟨h3,h4⟩|⟨g',cap,cur,h3,h4,h5,h6,_⟩
 ·exact⟨none,0,by rw[h3,h4],qO⟩
 exact⟨_,cap,h3,h6⟩
theorem QB.fr{S:Nat->Prop}{w w'}{g:Nat}{qs:LQ}(h:QB w g qs)(k:FrS S w w')(hn:NoT S w 196)(hg:¬S g):QB w' g qs:=by
 obtain⟨css,h1,h2,h3,h4⟩:=h;refine⟨css,h1,h2,k.blk h3 hg,fun i q hq=>?_⟩;obtain⟨cs,k1,k2⟩:=h4 i q hq;exact⟨cs,k1,k.qr hn k2⟩
theorem jzlq(m:Nat)(ts:List (Nat×Rat)){n:Nat}{t:Nat×Rat}(h:ts[n]?=some t):aQ m (ts.take (n+1))=(aQ m (ts.take n)).set t.1 t.2:=by
 unfold aQ;rw[kQr,h];show(ts.take n++[t]).foldl _ _=_;rw[kZt];rfl
end Go.Proofs.YtfeeacaofjpkaaaGreatDoor
