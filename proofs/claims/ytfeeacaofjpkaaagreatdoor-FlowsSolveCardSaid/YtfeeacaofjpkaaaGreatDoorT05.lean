/- Walks, part 5. -/
import Derived.Maps.OwnOps
import Derived.Maps.Views
import Derived.Test.YtfeeacaofjpkaaaGreatDoorT04
set_option linter.defProp false set_option linter.unusedVariables false
set_option linter.unusedSimpArgs false
set_option maxRecDepth 100000
set_option maxHeartbeats 8000000
namespace Go.Proofs.YtfeeacaofjpkaaaGreatDoor
open Go.Proofs.Tryz
open Go.RowKit
def jzea{a b c:Rat}(h1:a<b)(h2:b<c):a<c:=by
 have h3:=Dv (vB h1) (vB h2);refine Rat.lt_of_le_of_ne h3 ?_;rintro rfl;exact(Dy.2 (vB h1)) h2
def jzm3(a b:Rat):a<b\/a=b\/b<a:=by
 by_cases h:a<b;{exact .inl h};by_cases h2:b<a;{exact .inr (.inr h2)};exact .inr (.inl (Rat.le_antisymm (Dy.1 h2) (Dy.1 h)))
def iG(ps:LQ)(x y:LN):bJ ps x y=true↔nu ps x<nu ps y\/(nu ps x=nu ps y/\(x.length<y.length\/(x.length=y.length/\bG x y<0))):=by
 unfold bJ kP FH aW aI;rw[decide_eq_true_iff];by_cases h1:nu ps x<nu ps y;{simp[h1]};by_cases h2:nu ps x=nu ps y;{by_cases h3:x.length<y.length;{simp[h1,h2,h3,Gt]};by_cases h4:x.length=y.length;{simp[h1,h2,h3,h4,Gt]};simp[h1,h2,h3,h4,Gt]};simp[h1,h2]
def jzeb:∀x y:LN,x.length=y.length->¬bG x y<0->¬bG y x<0->x=y
 | [],[],_,_,_=>rfl
 |a::x,b::y,hl,h1,h2=>by
  unfold bG at h1 h2;by_cases e:a<b
  ·rw[qE e]at h1;omega
  ·by_cases e2:a=b
   ·subst e2
    simp at h1 h2 hl;rw[jzeb x y hl qO qO]
   ·rw[qE qO]at h2;omega
def jzm4:∀x y:LN,x.length=y.length->x=y\/bG x y<0\/bG y x<0:=fun x y h=>by
 by_cases h1:bG x y<0;{exact .inr (.inl h1)};{by_cases h2:bG y x<0;{exact .inr (.inr h2)};{exact .inl (jzeb x y h h1 h2)}}
def jzd:∀x y z:LN,x.length=y.length->y.length=z.length->bG x y<0->bG y z<0->bG x z<0
 | [],[],[],_,_,h,_=>h
 |a::x,b::y,c::z,hl,hl2,h1,h2=>by
  unfold bG at h1 h2⊢;simp only[Dw]at hl hl2;by_cases e1:a<b <;> by_cases e2:b<c <;> by_cases e3:a=b <;> by_cases e4:b=c <;> simp[e1,e2,e3,e4]at h1 h2⊢ <;> try omega
  ·subst e3 e4
   exact jzd x y z qO qO h1 h2
def jze:∀x:LN,bG x x=0
 | []=>rfl
 |a::x=>by unfold bG;simp[jze x]
def jzec:∀(x y z:LN),x.length=y.length->bG x y<0->bG (x++z) (y++z)<0
 | [],[],_,_,h=>by simp[bG]at h
 |a::x,b::y,z,hl,h=>by
  simp only[List.cons_append];unfold bG at h⊢;by_cases e:a<b
  ·simp[e]
  ·by_cases e2:a=b
   ·subst e2
    simp at h⊢;exact jzec x y z (by simpa using hl) h
   ·simp[e,e2]at h
def ou(ps:LQ)(x y:LN):Prop:=bJ ps y x=false
def mQ(ps:LQ)(x y:LN):ou ps x y↔x=y\/bJ ps x y=true:=by
 unfold ou;constructor;{intro h;(have h':¬bJ ps y x=true:=(by simp[h]);rw[iG]at h';rcases jzm3 (nu ps x) (nu ps y)with h1|h1|h1);{exact .inr ((iG ps x y).2 (.inl h1))};{(rcases Nat.lt_trichotomy x.length y.length with h2|h2|h2);{exact .inr ((iG ps x y).2 (.inr ⟨h1,.inl h2⟩))};{(rcases jzm4 x y h2 with h3|h3|h3);{exact .inl h3};{exact .inr ((iG ps x y).2 (.inr ⟨h1,.inr ⟨h2,h3⟩⟩))};exact absurd (.inr ⟨h1.symm,.inr ⟨h2.symm,h3⟩⟩) h'};exact absurd (.inr ⟨h1.symm,.inl h2⟩) h'};exact absurd (.inl h1) h'};(intro h;apply Bool.eq_false_iff.2;intro hb;rw[iG]at hb;rcases h with h|h);{subst h;(rcases hb with h1|⟨_,h1|⟨_,h1⟩⟩);{exact Gt h1};{omega};rw[jze]at h1;omega};(rw[iG]at h;rcases h with h1|⟨h1,h2⟩);{(rcases hb with h3|⟨h3,_⟩);{exact Gt (jzea h1 h3)};rw[h3]at h1;exact Gt h1};(rcases hb with h3|⟨_,h3⟩);{rw[h1]at h3;exact Gt h3};(rcases h2 with h2|⟨h2,h4⟩ <;> rcases h3 with h3|⟨h3,h5⟩ <;> try omega);have:=jzd x y x h2 h3 h4 h5;rw[jze]at this;omega
def jzm5{ps:LQ}{x y z:LN}(h1:bJ ps x y=true)(h2:bJ ps y z=true):bJ ps x z=true:=by
 (rw[iG]at*;rcases h1 with h1|⟨h1,h1'⟩ <;> rcases h2 with h2|⟨h2,h2'⟩);{exact .inl (jzea h1 h2)};{exact .inl (by rw[<-h2];exact h1)};{exact .inl (by rw[h1];exact h2)};(refine .inr ⟨h1.trans h2,?_⟩;rcases h1' with h1'|⟨h1',g1⟩ <;> rcases h2' with h2'|⟨h2',g2⟩);{exact .inl qO};{exact .inl qO};{exact .inl qO};exact .inr ⟨qO,jzd x y z h1' h2' g1 g2⟩
def ou.refl(ps:LQ)(x:LN):ou ps x x:=(mQ ps x x).2 (.inl rfl)
def ou.trans{ps:LQ}{x y z:LN}(h1:ou ps x y)(h2:ou ps y z):ou ps x z:=by
 rw[mQ]at*;rcases h1 with rfl|h1
 ·exact h2
 rcases h2 with rfl|h2
 ·exact .inr h1
 exact .inr (jzm5 h1 h2)
def ou.anti{ps:LQ}{x y:LN}(h1:ou ps x y)(h2:ou ps y x):x=y:=by
 rcases(mQ ps x y).1 h1 with h|h
 ·exact h
 unfold ou at h2;rw[h]at h2;cases h2
def ou.CX{ps:LQ}{x y:LN}(h:bJ ps x y=true):ou ps x y:=(mQ ps x y).2 (.inr h)
def ou.Gf{ps:LQ}{x y:LN}(h:¬bJ ps x y=true):ou ps y x:=by unfold ou;simpa using h
def lW(ps:LQ)(x y:LN):nu ps (x++y)=nu ps x+nu ps y:=by
 have qa:∀(l:LN) (s:Rat),l.foldl (fun s a=>s+ps[a]?.getD 0) s=s+nu ps l:=(by intro l;unfold nu;(induction l with|nil=>intro s;simp[Rat.add_zero]|cons a l ih=>intro s;rw[List.foldl_cons,List.foldl_cons,ih,ih (0+_),Rat.zero_add,Rat.add_assoc]));unfold nu;rw[Jq,qa];rfl
def dP(ps:LQ):Prop:=∀a:Nat,(0:Rat)<=ps[a]?.getD 0
def jzed{ps:LQ}(h:dP ps):∀x:LN,0<=nu ps x:=by
 intro x;(induction x with|nil=>exact vC|cons a x ih=>rw[show a::x=[a]++x from rfl,lW];have:nu ps [a]=0+ps[a]?.getD 0:=rfl;rw[this,Rat.zero_add];have h1:=Rat.add_le_add_left (c:=nu ps x) |>.2 (h a);rw[Rat.add_zero,Rat.add_comm]at h1;exact Dv ih h1)
def rK{ps:LQ}(h:dP ps)(x y z:LN)(hy:y≠ []):bJ ps (x++z) (x++y++z)=true:=by
 rw[iG];have h1:nu ps (x++z)<=nu ps (x++y++z):=(by rw[lW,lW,lW];have h2:=Rat.add_le_add_left (c:=nu ps x) |>.2 (jzed h y);rw[Rat.add_zero]at h2;exact(Rat.add_le_add_right (c:=nu ps z)).2 h2);have h3:(x++z).length<(x++y++z).length:=(by have:=List.length_pos_iff.2 hy;simp;omega);by_cases h4:nu ps (x++z)=nu ps (x++y++z);{exact .inr ⟨h4,.inl h3⟩};exact .inl (Rat.lt_of_le_of_ne h1 h4)
def ou.ext{ps:LQ}(h:dP ps)(x y:LN):ou ps x (x++y):=by
 by_cases hy:y=[];{subst hy;rw[List.append_nil];exact ou.refl ps x};have:=rK h x y [] hy;simp at this;exact ou.CX this
def ou.app{ps:LQ}{x y:LN}(h:ou ps x y)(z:LN):ou ps (x++z) (y++z):=by
 rcases(mQ ps x y).1 h with rfl|h
 ·exact ou.refl _ _
 apply ou.CX;rw[iG]at*;rw[lW,lW];rcases h with h|⟨h,h'⟩
 ·exact .inl (Rat.add_lt_add_right.2 h)
 refine .inr ⟨by rw[h],?_⟩;rcases h' with h'|⟨h',g⟩
 ·exact .inl (by simp;omega)
 exact .inr ⟨by simp;omega,jzec x y z h' g⟩
def ou.nil{ps:LQ}(h:dP ps)(x:LN):ou ps [] x:=by
 have:=ou.ext h [] x;simpa using this
def FW(t:Tp)(down:List Bool)(d:Nat):Nat->LN->Nat->Prop
 |u,[],v=>u=v
 |u,a::p,v=>a∈aL t u/\cV t down a d=true/\FW t down d (aK t a).toNat p v
def FW.app{t}{down:List Bool}{d:Nat}:∀(p:LN) {q:LN} {u v x:Nat},FW t down d u p v->FW t down d v q x->FW t down d u (p++q) x
 | [],_,_,_,_,h1,h2=>by
   have h1:_=_:=h1;subst h1;exact h2
 |_::p,_,_,_,_,h1,h2=>⟨h1.1,h1.2.1,FW.app p h1.2.2 h2⟩
def FW.Cv{t}{down:List Bool}{d:Nat}:∀(p:LN) {a u v:Nat},FW t down d u (p++[a]) v->∃m,FW t down d u p m/\a∈aL t m/\cV t down a d=true/\v=(aK t a).toNat
 | [],a,u,v,h=>⟨u,rfl,h.1,h.2.1,h.2.2.symm⟩
 |b::p,a,u,v,h=>by
  obtain⟨m,h1,h2⟩:=FW.Cv p h.2.2;exact⟨m,⟨h.1,h.2.1,h1⟩,h2⟩
def FW.one{t}{down:List Bool}{d a u:Nat}(h1:a∈aL t u)(h2:cV t down a d=true):FW t down d u [a] (aK t a).toNat:=⟨h1,h2,rfl⟩
def gM{t}(hv:aG t=true){n a:Nat}(h:a∈aL t n):0<=aK t a/\aK t a<t.nodes/\(aK t a).toNat<t.nodes.toNat/\dG t a=(n:Int):=by
 unfold aL cG at h;rw[List.mem_filter,vX]at h;obtain⟨h1,h2⟩:=h;have h2:dG t a=(n:Int):=(by simpa using h2);have hl:a/2<t.links.length:=qO;unfold aG at hv;rw[vM,xW]at hv;have qa:=hv.2 _ (xR hl);unfold Lk.ok Cr at qa;simp at qa;have:0<=aK t a/\aK t a<t.nodes:=(by unfold aK;rw[yG hl];simp only[];split <;> omega);exact⟨this.1,this.2,qO,h2⟩
def jzee(ps:LQ)(ls:List Lb):∀k,∀(m:Nat) (l:Lb),m<k->ls[m]?=some l->l.known=true->l.done=false->0<=cI ps ls k/\ou ps (dH ls (cI ps ls k).toNat) l.aj
 |0,m,_,h,_,_,_=>by omega
 |k+1,m,l,hm,hl,h1,h2=>by
  have ih:=jzee ps ls k m l;by_cases e:m=k
  ·subst e
   unfold cI;rw[hl];simp only[h1,h2,Bool.not_false,Bool.and_true,IX]
   split
   ·refine⟨qO,?_⟩
    rw[xL];unfold dH;rw[hl];exact ou.refl _ _
   rename_i hc
   simp only[Bool.or_eq_true,not_or,decide_eq_true_eq]at hc;refine⟨qO,ou.Gf (by exact hc.2)⟩
  obtain⟨i1,i2⟩:=ih qO hl h1 h2;unfold cI
  split
  ·exact⟨i1,i2⟩
  rename_i lk hk
  split
  ·rename_i hc
   refine⟨qO,?_⟩;rw[xL];simp only[vM,Bool.or_eq_true,decide_eq_true_eq]at hc;have hb:bJ ps lk.aj ((ls[(cI ps ls k).toNat]?.map Lb.aj).getD [])=true:=by
    rcases hc.2 with h|h
    ·omega
    exact h
   have:dH ls k=lk.aj:=(by unfold dH;rw[hk];rfl);rw[this];exact(ou.CX hb).trans i2
  exact⟨i1,i2⟩
def jzf{ps:LQ}{ls:List Lb}{m:Nat}{l:Lb}(hl:ls[m]?=some l)(h1:l.known=true)(h2:l.done=false):0<=bZ ps ls/\ou ps (dH ls (bZ ps ls).toNat) l.aj:=
 jzee ps ls _ m l (yH.1 hl).1 hl h1 h2
structure DI(t:Tp)(down:List Bool)(ps:LQ)(s d:Nat)(ls:List Lb):Prop where
 len:ls.length=t.nodes.toNat
 walk:∀(v:Nat) (l:Lb),ls[v]?=some l->l.known=true->FW t down d s l.aj v
 src:∃l,ls[s]?=some l/\l.known=true/\l.aj=[]
 dd:∀l,ls[d]?=some l->l.done=false
 kn:∀(v:Nat) (l:Lb),ls[v]?=some l->l.done=true->l.known=true
 lo:∀(v m:Nat) (l k:Lb),ls[v]?=some l->l.done=true->ls[m]?=some k->k.known=true->k.done=false->ou ps l.aj k.aj
 step:∀(u a:Nat) (l:Lb),ls[u]?=some l->l.done=true->a∈aL t u->cV t down a d=true->∃k,ls[(aK t a).toNat]?=some k/\k.known=true/\ou ps k.aj (l.aj++[a])
def DI.low{t}{down:List Bool}{ps:LQ}{s d:Nat}{ls:List Lb}(h:DI t down ps s d ls)(hp:dP ps):∀(n:Nat) (p:LN) (v:Nat),p.length=n->FW t down d s p v->
  (∃l,ls[v]?=some l/\l.done=true/\ou ps l.aj p)\/(∃(m:Nat) (k:Lb),ls[m]?=some k/\k.known=true/\k.done=false/\ou ps k.aj p)
 |0,p,v,hn,hw=>by
  have:p=[]:=FJ.1 hn;subst this;have hw:s=v:=hw;subst hw;obtain⟨l,h1,h2,h3⟩:=h.src;cases hd:l.done
  ·exact .inr ⟨s,l,h1,h2,hd,by rw[h3];exact ou.refl _ _⟩
  exact .inl ⟨l,h1,hd,by rw[h3];exact ou.refl _ _⟩
 |n+1,p,v,hn,hw=>by
  obtain⟨q,a,rfl⟩:∃q a,p=q++[a]:=by
   have:p≠ []:=(by rintro rfl;simp at hn);exact⟨p.dropLast,p.getLast this,(List.dropLast_concat_getLast this).symm⟩
  obtain⟨u,h1,h2,h3,rfl⟩:=FW.Cv q hw;rcases h.low hp n q u (by simpa using hn) h1 with⟨l,k1,k2,k3⟩|⟨m,k,k1,k2,k3,k4⟩
  ·obtain⟨k,j1,j2,j3⟩:=h.step u a l k1 k2 h2 h3
   have qa:=j3.trans (k3.app [a]);cases hd:k.done
   ·exact .inr ⟨_,k,j1,j2,hd,qa⟩
   exact .inl ⟨k,j1,hd,qa⟩
  exact .inr ⟨m,k,k1,k2,k3,k4.trans (ou.ext hp q [a])⟩
structure DJ(t:Tp)(down:List Bool)(ps:LQ)(s d n:Nat)(X:LN)(done:LN)(ls:List Lb):Prop where
 len:ls.length=t.nodes.toNat
 walk:∀(v:Nat) (l:Lb),ls[v]?=some l->l.known=true->FW t down d s l.aj v
 src:∃l,ls[s]?=some l/\l.known=true/\l.aj=[]
 dd:∀l,ls[d]?=some l->l.done=false
 kn:∀(v:Nat) (l:Lb),ls[v]?=some l->l.done=true->l.known=true
 lo:∀(v m:Nat) (l k:Lb),ls[v]?=some l->l.done=true->ls[m]?=some k->k.known=true->k.done=false->ou ps l.aj k.aj
 step:∀(u a:Nat) (l:Lb),u≠n->ls[u]?=some l->l.done=true->a∈aL t u->cV t down a d=true->∃k,ls[(aK t a).toNat]?=some k/\k.known=true/\ou ps k.aj (l.aj++[a])
 own:∃l,ls[n]?=some l/\l.done=true/\l.known=true/\l.aj=X
 all:∀(v:Nat) (l:Lb),ls[v]?=some l->l.done=true->ou ps l.aj X
 past:∀a∈done,cV t down a d=true->∃k,ls[(aK t a).toNat]?=some k/\k.known=true/\ou ps k.aj (X++[a])
def DI.mark{t}{down:List Bool}{ps:LQ}{s d:Nat}{ls:List Lb}(h:DI t down ps s d ls)(h0:0<=bZ ps ls)(hd:(bZ ps ls).toNat≠d):
  DJ t down ps s d (bZ ps ls).toNat (dH ls (bZ ps ls).toNat) [] (eF ls (bZ ps ls).toNat):=by
 obtain⟨l,h1,h2,h3⟩:=nL ps ls ls.length h0;have h1:ls[(bZ ps ls).toNat]?=some l:=h1;have qg:∀(m:Nat) (k:Lb),ls[m]?=some k->k.known=true->k.done=false->ou ps l.aj k.aj:=fun m k e1 e2 e3=>(by have:=(jzf (ps:=ps) e1 e2 e3).2;unfold dH at this;rw[h1]at this;exact this);have hX:dH ls (bZ ps ls).toNat=l.aj:=(by unfold dH;rw[h1];rfl);rw[hX];generalize (bZ ps ls).toNat=n at*;have qe:=(yH.1 h1).1;have hm:eF ls n=ls.set n ⟨l.known,true,l.aj⟩:=(by unfold eF;rw[h1]);rw[hm];have qa:∀(v:Nat) (k:Lb),(ls.set n ⟨l.known,true,l.aj⟩)[v]?=some k->(v=n/\k=⟨l.known,true,l.aj⟩)\/(v≠n/\ls[v]?=some k):=fun v k e=>(by by_cases hv:v=n;{subst hv;(rw[yM qe]at e;injection e with e);exact .inl ⟨rfl,e.symm⟩};rw[vN (fun h=>hv h.symm)]at e;exact .inr ⟨hv,e⟩);have put:∀(v:Nat) (k:Lb),ls[v]?=some k->∃k',(ls.set n ⟨l.known,true,l.aj⟩)[v]?=some k'/\k'.known=k.known/\k'.aj=k.aj:=fun v k e=>(by by_cases hv:v=n;{subst hv;(rw[h1]at e;injection e with e);subst e;exact⟨_,yM qe,rfl,rfl⟩};exact⟨k,by rw[vN (fun h=>hv h.symm)];exact e,rfl,rfl⟩);refine⟨by rw[yV];exact h.len,?_,?_,?_,?_,?_,?_,⟨_,yM qe,rfl,h2,rfl⟩,?_,qS⟩;{intro v k e hk;(rcases qa v k e with⟨rfl,rfl⟩|⟨_,e'⟩);{exact h.walk _ l h1 h2};exact h.walk v k e' hk};{obtain⟨k,e1,e2,e3⟩:=h.src;obtain⟨k',f1,f2,f3⟩:=put s k e1;exact⟨k',f1,f2.trans e2,f3.trans e3⟩};{intro k e;(rcases qa d k e with⟨rfl,rfl⟩|⟨_,e'⟩);{exact absurd rfl hd};exact h.dd k e'};{intro v k e hk;(rcases qa v k e with⟨rfl,rfl⟩|⟨_,e'⟩);{exact h2};exact h.kn v k e' hk};{intro v m x k ev hx em qh qf;(rcases qa m k em with⟨rfl,rfl⟩|⟨_,em'⟩);{cases qf};(rcases qa v x ev with⟨rfl,rfl⟩|⟨_,ev'⟩);{exact qg m k em' qh qf};exact h.lo v m x k ev' hx em' qh qf};{intro u a x hu e hx ha qi;(rcases qa u x e with⟨rfl,rfl⟩|⟨_,e'⟩);{exact absurd rfl hu};obtain⟨k,f1,f2,f3⟩:=h.step u a x e' hx ha qi;obtain⟨k',g1,g2,g3⟩:=put _ k f1;exact⟨k',g1,g2.trans f2,by rw[g3];exact f3⟩};(intro v x e hx;rcases qa v x e with⟨rfl,rfl⟩|⟨_,e'⟩);{exact ou.refl _ _};exact h.lo v n x l e' hx h1 h2 h3
def DJ.relax{t}{down:List Bool}{ps:LQ}{s d n:Nat}{X done:LN}{ls:List Lb}(h:DJ t down ps s d n X done ls)(hv:aG t=true)(hp:dP ps){a:Nat}(ha:a∈aL t n):
  DJ t down ps s d n X (done++[a]) (dW t down ps d n ls a):=by
 obtain⟨qA,qB,qy,_⟩:=gM hv ha;obtain⟨ln,qh,qo,qm,qi⟩:=h.own;have hX:dH ls n=X:=(by unfold dH;rw[qh];exact qi);obtain⟨lm,qe⟩:∃lm,ls[(aK t a).toNat]?=some lm:=⟨_,yG (by rw[h.len];exact qy)⟩;have qj:=(yH.1 qe).1;unfold dW;rw[qe,hX];simp only[];split;{rename_i hc;(refine⟨h.len,h.walk,h.src,h.dd,h.kn,h.lo,h.step,h.own,h.all,fun b hb qf=>?_⟩;rcases xY.1 hb with hb|hb);{exact h.past b hb qf};have:b=a:=(by simpa using hb);subst this;rw[qf]at hc;have qn:lm.done=true:=(by simpa using hc);exact⟨lm,qe,h.kn _ lm qe qn,(h.all _ lm qe qn).trans (ou.ext hp X [b])⟩};rename_i hc;(simp only[Bool.or_eq_true,not_or,Bool.not_eq_true,Bool.not_eq_false']at hc;obtain⟨qt,qk⟩:=hc;have qk:cV t down a d=true:=by simpa using qk);split;{rename_i hb;have qp:lm.known=true->ou ps (X++[a]) lm.aj:=fun hk=>(by rw[hk]at hb;exact ou.CX (by simpa using hb));generalize hM:(aK t a).toNat=M at*;have qg:∀(v:Nat) (k:Lb),(ls.set M ⟨true,false,X++[a]⟩)[v]?=some k->(v=M/\k=⟨true,false,X++[a]⟩)\/(v≠M/\ls[v]?=some k):=fun v k e=>(by by_cases hv:v=M;{subst hv;(rw[yM qj]at e;injection e with e);exact .inl ⟨rfl,e.symm⟩};rw[vN (fun h=>hv h.symm)]at e;exact .inr ⟨hv,e⟩);have put:∀(v:Nat) (k:Lb),ls[v]?=some k->k.known=true->∃k',(ls.set M ⟨true,false,X++[a]⟩)[v]?=some k'/\k'.known=true/\ou ps k'.aj k.aj:=fun v k e hk=>(by by_cases hv:v=M;{subst hv;(rw[qe]at e;injection e with e);subst e;exact⟨_,yM qj,rfl,qp hk⟩};exact⟨k,by rw[vN (fun h=>hv h.symm)];exact e,hk,ou.refl _ _⟩);have qz:n≠M:=(by (rintro rfl;rw[qh]at qe;injection qe with e);rw[<-e,qo]at qt;cases qt);refine⟨by rw[yV];exact h.len,?_,?_,?_,?_,?_,?_,⟨ln,by rw[vN (fun h=>qz h.symm)];exact qh,qo,qm,qi⟩,?_,?_⟩;{intro v k e hk;(rcases qg v k e with⟨rfl,rfl⟩|⟨_,e'⟩);{have:=FW.app X (by rw[<-qi];exact h.walk n ln qh qm) (FW.one ha qk);rw[hM]at this;exact this};exact h.walk v k e' hk};{obtain⟨k,e1,e2,e3⟩:=h.src;by_cases hs:s=M;{subst hs;(rw[qe]at e1;injection e1 with e1);subst e1;have h9:=(qp e2).anti (by rw[e3];exact ou.nil hp _);rw[e3]at h9;simp at h9};exact⟨k,by rw[vN (fun h=>hs h.symm)];exact e1,e2,e3⟩};{intro k e;(rcases qg d k e with⟨rfl,rfl⟩|⟨_,e'⟩);{rfl};exact h.dd k e'};{intro v k e hk;(rcases qg v k e with⟨rfl,rfl⟩|⟨_,e'⟩);{rfl};exact h.kn v k e' hk};{intro v m x k ev hx em qx qw;(rcases qg v x ev with⟨rfl,rfl⟩|⟨_,ev'⟩);{cases hx};(rcases qg m k em with⟨rfl,rfl⟩|⟨_,em'⟩);{exact(h.all v x ev' hx).trans (ou.ext hp X [a])};exact h.lo v m x k ev' hx em' qx qw};{intro u b x hu e hx qa qf;(rcases qg u x e with⟨rfl,rfl⟩|⟨_,e'⟩);{cases hx};obtain⟨k,f1,f2,f3⟩:=h.step u b x hu e' hx qa qf;obtain⟨k',g1,g2,g3⟩:=put _ k f1 f2;exact⟨k',g1,g2,g3.trans f3⟩};{intro v x e hx;(rcases qg v x e with⟨rfl,rfl⟩|⟨_,e'⟩);{cases hx};exact h.all v x e' hx};(intro b qa qf;rcases xY.1 qa with qa|qa);{obtain⟨k,f1,f2,f3⟩:=h.past b qa qf;obtain⟨k',g1,g2,g3⟩:=put _ k f1 f2;exact⟨k',g1,g2,g3.trans f3⟩};have:b=a:=(by simpa using qa);subst this;rw[hM];exact⟨_,yM qj,rfl,ou.refl _ _⟩};rename_i hb;(simp only[Bool.or_eq_true,not_or,Bool.not_eq_true,Bool.not_eq_false']at hb;refine⟨h.len,h.walk,h.src,h.dd,h.kn,h.lo,h.step,h.own,h.all,fun b qa qf=>?_⟩;rcases xY.1 qa with qa|qa);{exact h.past b qa qf};have:b=a:=(by simpa using qa);subst this;exact⟨lm,qe,by simpa using hb.1,hb.2⟩
def DJ.fold{t}{down:List Bool}{ps:LQ}{s d n:Nat}{X:LN}(hv:aG t=true)(hp:dP ps):∀(al done:LN) (ls:List Lb),DJ t down ps s d n X done ls->(∀a∈al,a∈aL t n)->DJ t down ps s d n X (done++al) (al.foldl (dW t down ps d n) ls)
 | [],done,ls,h,_=>by rw[List.append_nil];exact h
 |a::al,done,ls,h,ha=>by
  have:=DJ.fold hv hp al (done++[a]) _ (h.relax hv hp (ha a qS)) (fun b hb=>ha b (by simp[hb]));rw[List.append_assoc]at this;exact this
def DJ.di{t}{down:List Bool}{ps:LQ}{s d n:Nat}{X:LN}{ls:List Lb}(h:DJ t down ps s d n X (aL t n) ls):DI t down ps s d ls:=by
 refine⟨h.len,h.walk,h.src,h.dd,h.kn,h.lo,fun u a l e hl ha Ez=>?_⟩;by_cases hu:u=n;{subst hu;obtain⟨ln,qe,_,_,qa⟩:=h.own;rw[qe]at e;injection e with e;subst e;rw[qa];exact h.past a ha Ez};exact h.step u a l hu e hl ha Ez
def jzef t(down:List Bool)(ps:LQ)(d n:Nat):∀(al:LN) (ls:List Lb),cM (al.foldl (dW t down ps d n) ls)=cM ls
 | [],_=>rfl
 |a::al,ls=>by rw[List.foldl_cons,jzef t down ps d n al,jzcd]
def rL{t}{down:List Bool}{ps:LQ}{s d:Nat}(hv:aG t=true)(hp:dP ps):∀(f:Nat) (ls:List Lb),DI t down ps s d ls->cM ls<f->
  match gD t down ps d f ls with
  |none=>∀p,¬FW t down d s p d
  |some p=>FW t down d s p d/\∀q,FW t down d s q d->ou ps p q
 |0,ls,_,h=>by omega
 |f+1,ls,hi,hf=>by
  unfold gD;by_cases h1:bZ ps ls<0
  ·rw[qE h1]
   simp only[];intro p hw;rcases hi.low hp _ p d rfl hw with⟨l,k1,k2,_⟩|⟨m,k,k1,k2,k3,_⟩
   ·rw[hi.dd l k1]at k2;cases k2
   ·have:=(jzf (ps:=ps) k1 k2 k3).1
    omega
  ·rw[qF h1]
   by_cases h2:(bZ ps ls).toNat=d
   ·rw[qE h2]
    simp only[];obtain⟨l,e1,e2,e3⟩:=nL ps ls ls.length (show 0<=bZ ps ls by omega);have e1:ls[(bZ ps ls).toNat]?=some l:=e1;have hX:dH ls (bZ ps ls).toNat=l.aj:=(by unfold dH;rw[e1];rfl);refine⟨?_,fun q hw=>?_⟩
    ·rw[hX]
     have:=hi.walk _ l e1 e2;rw[h2]at this;exact this
    ·rcases hi.low hp _ q d rfl hw with⟨l,k1,k2,_⟩|⟨m,k,k1,k2,k3,k4⟩
     ·rw[hi.dd l k1]at k2;cases k2
     ·exact(jzf k1 k2 k3).2.trans k4
   ·rw[qF h2]
    have hj:=(DJ.fold hv hp (aL t (bZ ps ls).toNat) [] _ (hi.mark qO h2) (fun _ h=>h));rw[List.nil_append]at hj;refine rL hv hp f _ hj.di ?_;rw[jzef];obtain⟨l,e1,e2,e3⟩:=nL ps ls ls.length (show 0<=bZ ps ls by omega);have:=jzcc (ls:=ls) e1 e3;unfold bZ at*;omega
def jzg{t:Tp}{down:List Bool}{ps:LQ}{s d:Nat}(hs:s<t.nodes.toNat):DI t down ps s d (cC t.nodes.toNat s):=by
 unfold cC;have qa:∀(v:Nat) (k:Lb),((List.replicate t.nodes.toNat (⟨false,false,[]⟩:Lb)).set s ⟨true,false,[]⟩)[v]?=some k->k.done=false/\k.aj=[]/\(k.known=true->v=s):=fun v k e=>(by by_cases hv:v=s;{subst hv;(rw[yM (by simp[hs])]at e;injection e with e);subst e;exact⟨rfl,rfl,fun _=>rfl⟩};rw[vN (fun h=>hv h.symm)]at e;have:=uF (yJ e);subst this;exact⟨rfl,rfl,fun h=>by cases h⟩);refine⟨qS,?_,⟨_,yM (by simp[hs]),rfl,rfl⟩,fun l e=>(qa d l e).1,?_,?_,?_⟩;{intro v k e hk;have:=qa v k e;rw[this.2.1,this.2.2 hk];exact rfl};{intro v k e hk;rw[(qa v k e).1]at hk;cases hk};{intro v m l k e hk;rw[(qa v l e).1]at hk;cases hk};intro u a l e hk;rw[(qa u l e).1]at hk;cases hk
def rM{t}{down:List Bool}{s d:Nat}(hv:aG t=true):∀(f:Nat) (path:LN) (u:Nat) (seen:List Bool) (q:LN),FW t down d s path u->q∈cB t down d f path u seen->FW t down d s q d
 |0,_,_,_,_,_,h=>by simp[cB]at h
 |f+1,path,u,seen,q,hw,h=>by
  unfold cB at h;by_cases h1:u=d
  ·rw[qE h1]at h
   have:q=path:=(by simpa using h);subst this;rw[<-h1];rw[<-h1]at hw;exact hw
  rw[qF h1]at h;by_cases h2:0<path.length/\bP t u=true
  ·rw[qE h2]at h;simp at h
  rw[qF h2]at h;rw[Hl]at h;obtain⟨a,ha,hq⟩:=h;by_cases h3:(cE down a||seen[(aK t a).toNat]?.getD false)=true
  ·rw[qE h3]at hq;simp at hq
  rw[qF h3]at hq;simp only[Bool.or_eq_true,not_or,Bool.not_eq_true]at h3;obtain⟨g1,g2,g3,_⟩:=gM hv ha;have qa:cV t down a d=true:=by
   unfold cV;rw[h3.1];by_cases h4:aK t a=(d:Int)
   ·simp[h4]
   cases h5:bP t (aK t a)
   ·simp
   exfalso;cases f with
   |zero=>simp[cB]at hq
   |succ f=>
    unfold cB at hq;rw[qF qO,qE ⟨qS,by rw[Int.toNat_of_nonneg g1];exact h5⟩]at hq;simp at hq
  exact rM hv f (path++[a]) _ _ q (FW.app path hw (FW.one ha qa)) hq
def jzeg{t}{down:List Bool}{ps:LQ}{s d:Nat}(hv:aG t=true)(hp:dP ps){p:LN}(hmin:∀q,FW t down d s q d->ou ps p q):∀(y x:LN) (u f:Nat) (seen:List Bool),p=x++y->FW t down d s x u->FW t down d u y d->
  (∀v,seen[v]?.getD false=true->∃x1 x2,x=x1++x2/\FW t down d s x1 v)->(x≠ []->u=d\/bP t (u:Int)=false)->seen.length=t.nodes.toNat->kO seen<f->p∈cB t down d f x u seen
 | [],x,u,f+1,seen,hpx,hx,hy,hs,ho,hsl,hf=>by
   have hy:u=d:=hy;unfold cB;rw[qE hy,hpx];simp
 |a::y,x,u,f+1,seen,hpx,hx,hy,hs,ho,hsl,hf=>by
  obtain⟨ha,qa,hw⟩:=hy;obtain⟨g1,g2,g3,_⟩:=gM hv ha;have qi:u≠d:=by
   rintro rfl;have h1:=hmin x hx;have h2:=rK hp x (a::y) [] qS;rw[List.append_nil,List.append_nil, <-hpx]at h2;unfold ou at h1;rw[h2]at h1;cases h1
  have qf:∃b,seen[(aK t a).toNat]?=some b:=⟨_,yG qO⟩;have qe:seen[(aK t a).toNat]?.getD false=false:=by
   apply Bool.eq_false_iff.2;intro qf;obtain⟨x1,x2,e,qj⟩:=hs _ qf;have h1:=hmin (x1++y) (FW.app x1 qj hw);have h2:=rK hp x1 (x2++[a]) y qS;have e2:x1++(x2++[a])++y=p:=(by rw[hpx,e];simp);rw[e2]at h2;unfold ou at h1;rw[h2]at h1;cases h1
  unfold cB;rw[qF qi,qF (by
   rintro ⟨h1,h2⟩;rcases ho (List.length_pos_iff.1 h1)with h3|h3
   ·exact qi h3
   rw[h2]at h3;cases h3)]
  rw[Hl];refine⟨a,ha,?_⟩;have qh:cE down a=false/\(aK t a=(d:Int)\/bP t (aK t a)=false):=by
   unfold cV at qa
   simpa using qa
  rw[qh.1,qe];simp only[Bool.or_self,Jr,if_false];refine jzeg hv hp hmin y (x++[a]) _ f _ (by rw[hpx];simp) (FW.app x hx (FW.one ha qa)) hw ?_ ?_ (by rw[yV];exact hsl) (by
   obtain⟨b,hb⟩:=qf;rw[hb,DL]at qe;rw[qe]at hb;have:=pM hb;omega)
  ·intro v qg
   by_cases e:v=(aK t a).toNat
   ·subst e
    exact⟨x++[a],[],qS,FW.app x hx (FW.one ha qa)⟩
   rw[vN (fun h=>e h.symm)]at qg;obtain⟨x1,x2,e1,e2⟩:=hs v qg;exact⟨x1,x2++[a],by rw[e1];simp,e2⟩
  intro _;rcases qh.2 with h|h
  ·left;omega
  right
  rw[Int.toNat_of_nonneg g1];exact h
def fX(ps:LQ)(b:LN)(l:List (LN)):LN:=l.foldl (fun b q=>if bJ ps q b then q else b) b
def rN(ps:LQ):∀(l:List (LN)) (b:LN),(fX ps b l=b\/fX ps b l∈l)/\ou ps (fX ps b l) b/\∀q∈l,ou ps (fX ps b l) q
 | [],b=>⟨.inl rfl,ou.refl _ _,qS⟩
 |x::l,b=>by
  unfold fX;rw[List.foldl_cons];by_cases h:bJ ps x b=true
  ·rw[qE h]
   obtain⟨h1,h2,h3⟩:=rN ps l x;refine⟨.inr ?_,h2.trans (ou.CX h),fun q hq=>?_⟩
   ·rcases h1 with h1|h1
    ·rw[show l.foldl (fun b q=>if bJ ps q b=true then q else b) x=fX ps x l from rfl,h1];simp
    ·exact xO _ h1
   ·rcases xZ.1 hq with rfl|hq
    ·exact h2
    ·exact h3 q hq
  ·rw[qF h]
   obtain⟨h1,h2,h3⟩:=rN ps l b;refine⟨?_,h2,fun q hq=>?_⟩
   ·rcases h1 with h1|h1
    ·exact .inl h1
    ·exact .inr (xO _ h1)
   ·rcases xZ.1 hq with rfl|hq
    ·exact h2.trans (ou.Gf h)
    ·exact h3 q hq
def jzh(ps:LQ):List (LN)->Option (LN)
 | []=>none
 |x::l=>some (fX ps x l)
def oH{t}{ps:LQ}(h:dL t ps=true):dP ps:=by
 (intro a;cases e:ps[a]? with|none=>exact vC|some q=>unfold dL at h;simp at h;have:=h.2 q (yJ e);rw[DL, <-Dy, <-jzd8];omega)
def jzm6{t}{down:List Bool}{ps:LQ}{s d:Nat}(hv:aG t=true)(hp:dL t ps=true)(hs:s<t.nodes.toNat):eH t down ps s d=jzh ps (cW t down s d):=by
 have hq:=oH hp;have h:=rL (down:=down) (s:=s) (d:=d) hv hq (t.nodes.toNat+1) (cC t.nodes.toNat s) (jzg hs) (by have:=nP (cC t.nodes.toNat s);have h2:(cC t.nodes.toNat s).length=t.nodes.toNat:=(by unfold cC;simp);omega);(unfold eH;have hw:∀q∈cW t down s d,FW t down d s q d:=fun q hq=>rM hv _ [] s _ q rfl hq;cases hd:gD t down ps d (t.nodes.toNat+1) (cC t.nodes.toNat s)with|none=>(rw[hd]at h;cases hl:cW t down s d with|nil=>rfl|cons x l=>exact absurd (hw x (by rw[hl];simp)) (h x))|some p=>rw[hd]at h;obtain⟨h1,h2⟩:=h;have hu:kO ((List.replicate t.nodes.toNat false).set s true)<t.nodes.toNat:=(by have:=pM (l:=List.replicate t.nodes.toNat false) (k:=s) (by simp[hs]);have h3:=jzbj t.nodes.toNat;omega);have qa:p∈cW t down s d:=(by unfold cW;refine jzeg hv hq h2 p [] s _ _ rfl rfl h1 (fun v hve=>?_) qS qS hu;by_cases e:v=s;{subst e;exact⟨[],[],rfl,rfl⟩};rw[vN (fun h=>e h.symm)]at hve;rw[xB]at hve;split at hve <;> simp at hve);(cases hl:cW t down s d with|nil=>rw[hl]at qa;simp at qa|cons x l=>unfold jzh;obtain⟨m1,m2,m3⟩:=rN ps l x;have qe:fX ps x l∈cW t down s d:=(by (rw[hl];rcases m1 with m1|m1);{rw[m1];simp};exact xO _ m1);have qf:ou ps (fX ps x l) p:=(by (rw[hl]at qa;rcases xZ.1 qa with e|e);{rw[e];exact m2};exact m3 p e);rw[(h2 _ (hw _ qe)).anti qf]))
def FW.lt{t}{down:List Bool}{d:Nat}(hv:aG t=true):∀(p:LN) {u v:Nat},u<t.nodes.toNat->FW t down d u p v->v<t.nodes.toNat
 | [],_,_,hu,h=>by
   have h:_=_:=h;rw[<-h];exact hu
 |_::p,_,_,_,h=>FW.lt hv p (gM hv h.1).2.2.1 h.2.2
def jzeh{α:Type}:∀(p:List α),p=[]\/∃q a,p=q++[a]:=fun p=>by
 by_cases h:p=[];{exact .inl h};{exact .inr ⟨p.dropLast,p.getLast h,(List.dropLast_concat_getLast h).symm⟩}
def jzi{t}(hv:aG t=true){u a:Nat}(h:a∈aL t u):((aK t a).toNat:Int)=aK t a:=by
 have:=(gM hv h).1;omega
def FW.alive{t}{down:List Bool}{s d:Nat}(hv:aG t=true){p:LN}{v:Nat}(h:FW t down d s p v):v=s\/v=d\/bP t (v:Int)=false:=by
 rcases jzeh p with rfl|⟨q,a,rfl⟩
 ·exact .inl (show s=v from h).symm
 obtain⟨u,_,h2,h3,rfl⟩:=FW.Cv q h;unfold cV at h3;rw[<-jzi hv h2,vM,Bool.or_eq_true,Bool.not_eq_true',Bool.not_eq_true',beq_iff_eq]at h3;rcases h3.2 with h4|h4
 ·exact .inr (.inl qO)
 exact .inr (.inr h4)
def KL(t:Tp)(down:List Bool)(s d n:Nat)(x:LN):Prop:=
 (x=[]/\n=s)\/∃(y:LN) (a u:Nat),x=y++[a]/\FW t down d s y u/\a∈aL t u/\cE down a=false/\n=(aK t a).toNat
def KL.fw{t}{down:List Bool}{s d n:Nat}{x:LN}(hv:aG t=true)(h:KL t down s d n x)(hl:x=[]\/n=d\/bP t (n:Int)=false):FW t down d s x n:=by
 (rcases h with⟨rfl,rfl⟩|⟨y,a,u,rfl,h1,h2,h3,rfl⟩);{rfl};(refine FW.app y h1 (FW.one h2 ?_);unfold cV;rw[<-jzi hv h2,h3];rcases hl with hl|hl|hl);{simp at hl};{rw[hl];simp};rw[hl];simp
structure KI(t:Tp)(down:List Bool)(ps:LQ)(s d:Nat)(V:List Bool)(fin:Nat->LN)(H:List (Nat×LN))(n:Nat)(todo:LN):Prop where
 len:V.length=t.nodes.toNat
 lab:∀m x,(m,x)∈H->KL t down s d m x
 size:∀m x,(m,x)∈H->x.length<=V.count true
 best:∀u,V[u]?=some true->u=s\/bP t (u:Int)=false->FW t down d s (fin u) u/\(fin u).length<V.count true/\∀p,FW t down d s p u->ou ps (fin u) p
 front:∀u a,V[u]?=some true->u=s\/bP t (u:Int)=false->a∈aL t u->cE down a=false->V[(aK t a).toNat]?=some false->(u=n/\a∈todo)\/((aK t a).toNat,fin u++[a])∈H
 src:V[s]?=some false->(s,[])∈H
 dd:V[d]?=some false
def KI.low{t}{down:List Bool}{ps:LQ}{s d n:Nat}{V:List Bool}{fin:Nat->LN}{H:List (Nat×LN)}(h:KI t down ps s d V fin H n [])(hv:aG t=true)(hp:dP ps)(hs:s<t.nodes.toNat):∀(k:Nat) (p:LN) (v:Nat),p.length=k->FW t down d s p v->V[v]?=some false->∃m y,(m,y)∈H/\ou ps y p
 |0,p,v,hk,hw,hV=>by
  have:p=[]:=FJ.1 hk;subst this;have hw:s=v:=hw;subst hw;exact⟨s,[],h.src hV,ou.refl _ _⟩
 |k+1,p,v,hk,hw,hV=>by
  obtain⟨q,a,rfl⟩:∃q a,p=q++[a]:=by
   rcases jzeh p with rfl|h1
   ·simp at hk
   exact h1
  obtain⟨u,h1,h2,h3,rfl⟩:=FW.Cv q hw;have hu:=FW.lt hv q hs h1;obtain⟨b,hb⟩:∃b,V[u]?=some b:=⟨_,yG (by rw[h.len];exact hu)⟩;cases b
  case false=>
   obtain⟨m,y,i1,i2⟩:=h.low hv hp hs k q u (by simpa using hk) h1 hb;exact⟨m,y,i1,i2.trans (ou.ext hp q [a])⟩
  have qa:u=s\/bP t (u:Int)=false:=by
   rcases h1.alive hv with h4|h4|h4
   ·exact .inl h4
   ·subst h4;rw[h.dd]at hb;cases hb
   exact .inr h4
  have qe:cE down a=false:=by
   unfold cV at h3;simp at h3;exact h3.1
  rcases h.front u a hb qa h2 qe hV with⟨_,h4⟩|h4
  ·cases h4
  exact⟨_,_,h4,((h.best u hb qa).2.2 q h1).app [a]⟩
def KI.none_{t}{down:List Bool}{ps:LQ}{s d n:Nat}{V:List Bool}{fin:Nat->LN}(h:KI t down ps s d V fin [] n [])(hv:aG t=true)(hp:dP ps)(hs:s<t.nodes.toNat)(p:LN):¬FW t down d s p d:=fun hw=>by
 obtain⟨m,y,h1,_⟩:=h.low hv hp hs _ p d rfl hw h.dd;cases h1
section
variable {t:Tp} {down:List Bool} {ps:List Rat} {s d n k:Nat} {V:List Bool} {fin:Nat->List Nat} {H H':List (Nat×List Nat)} {x:List Nat}
def KI.skip(h:KI t down ps s d V fin H k [])(h1:∀z,z∈H->z=(n,x)\/z∈H')(h2:∀z,z∈H'->z∈H)(hV:V[n]?=some true)(m:Nat):KI t down ps s d V fin H' m []:=by
 refine⟨h.len,fun m x hx=>h.lab m x (h2 _ hx),fun m x hx=>h.size m x (h2 _ hx),h.best,fun u a g1 g2 g3 g4 g5=>.inr ?_,fun hS=>?_,h.dd⟩;{(rcases h.front u a g1 g2 g3 g4 g5 with⟨_,g6⟩|g6);{cases g6};(rcases h1 _ g6 with e|e);{(injection e with e1 e2);rw[e1,hV]at g5;cases g5};exact e};(rcases h1 _ (h.src hS)with e|e);{(injection e with e1 e2);rw[e1,hV]at hS;cases hS};exact e
def KI.least(h:KI t down ps s d V fin H k [])(hv:aG t=true)(hp:dP ps)(hs:s<t.nodes.toNat)(hx:(n,x)∈H)(hm:∀m y,(m,y)∈H->ou ps x y)(hV:V[n]?=some false):∀p,FW t down d s p n->ou ps x p:=fun p hw=>by
 obtain⟨m,y,h1,h2⟩:=h.low hv hp hs _ p n rfl hw hV;exact(hm m y h1).trans h2
def KI.found(h:KI t down ps s d V fin H k [])(hv:aG t=true)(hp:dP ps)(hs:s<t.nodes.toNat)(hx:(d,x)∈H)(hm:∀m y,(m,y)∈H->ou ps x y):FW t down d s x d/\∀p,FW t down d s p d->ou ps x p:=
 ⟨(h.lab _ _ hx).fw hv (.inr (.inl rfl)),h.least hv hp hs hx hm h.dd⟩
def jzm7{V:List Bool}{n:Nat}(hV:V[n]?=some false):(V.set n true).count true=V.count true+1:=by
 have hl:=(yH.1 hV).1;have he:=(yH.1 hV).2;rw[List.count_set hl,he];simp
def KI.reach(h:KI t down ps s d V fin H k [])(hv:aG t=true)(hp:dP ps)(hs:s<t.nodes.toNat)(hx:(n,x)∈H)(h1:∀z,z∈H->z=(n,x)\/z∈H')(h2:∀z,z∈H'->z∈H)(hm:∀m y,(m,y)∈H->ou ps x y)(hV:V[n]?=some false)(hd:n≠d):
  KI t down ps s d (V.set n true) (fun u=>if u=n then x else fin u) H' n (aL t n):=by
 have hc:=jzm7 hV;have hl:=(yH.1 hV).1;have hg:∀u b,u≠n->(V.set n true)[u]?=some b->V[u]?=some b:=fun u b hu hb=>(by rwa [vN (fun e=>hu e.symm)]at hb);have qa:∀u,(V.set n true)[u]?=some false->u≠n/\V[u]?=some false:=fun u hb=>(by have hu:u≠n:=fun e=>(by subst e;rw[yM hl]at hb;cases hb);exact⟨hu,hg u false hu hb⟩);refine⟨by rw[yV];exact h.len,fun m x hx=>h.lab m x (h2 _ hx),fun m x hx=>by rw[hc];have:=h.size m x (h2 _ hx);omega,fun u hu hal=>?_,fun u a g1 g2 g3 g4 g5=>?_,fun hS=>?_,by rw[vN hd];exact h.dd⟩;{by_cases e:u=n;{subst e;simp only[if_true];have qe:u=s->x=[]:=fun e=>(by subst e;exact((hm _ _ (h.src hV)).anti (ou.nil hp x)));(refine⟨(h.lab _ _ hx).fw hv ?_,by have:=h.size _ _ hx;omega,h.least hv hp hs hx hm hV⟩;rcases hal with e|e);{exact .inl (qe e)};exact .inr (.inr e)};simp only[qF e];obtain⟨i1,i2,i3⟩:=h.best u (hg u true e hu) hal;exact⟨i1,qO,i3⟩};{obtain⟨g6,g7⟩:=qa _ g5;by_cases e:u=n;{subst e;exact .inl ⟨rfl,g3⟩};(simp only[qF e];rcases h.front u a (hg u true e g1) g2 g3 g4 g7 with⟨_,g8⟩|g8);{cases g8};(rcases h1 _ g8 with e2|e2);{(injection e2 with e3 e4);exact absurd e3 g6};exact .inr e2};(obtain⟨g6,g7⟩:=qa _ hS;rcases h1 _ (h.src g7)with e2|e2);{(injection e2 with e3 e4);exact absurd e3 g6};exact e2
def KI.dead{todo:LN}(h:KI t down ps s d V fin H n todo)(hn:n≠s)(ho:bP t (n:Int)=true)(m:Nat):KI t down ps s d V fin H m []:=by
 (refine⟨h.len,h.lab,h.size,h.best,fun u a g1 g2 g3 g4 g5=>.inr ?_,h.src,h.dd⟩;rcases h.front u a g1 g2 g3 g4 g5 with⟨rfl,_⟩|g6);{(rcases g2 with g2|g2);{exact absurd g2 hn};rw[ho]at g2;cases g2};exact g6
def KI.off{a:Nat}{todo:LN}(h:KI t down ps s d V fin H n (a::todo))(hd:cE down a=true):KI t down ps s d V fin H n todo:=by
 (refine⟨h.len,h.lab,h.size,h.best,fun u b g1 g2 g3 g4 g5=>?_,h.src,h.dd⟩;rcases h.front u b g1 g2 g3 g4 g5 with⟨rfl,g6⟩|g6);{(rcases xZ.1 g6 with rfl|g6);{rw[hd]at g4;cases g4};exact .inl ⟨rfl,g6⟩};exact .inr g6
def KI.push{a:Nat}{todo:LN}(h:KI t down ps s d V fin H n (a::todo))(hn:V[n]?=some true)(hal:n=s\/bP t (n:Int)=false)(ha:a∈aL t n)(hd:cE down a=false)(hH:∀z,z∈H'↔z=((aK t a).toNat,fin n++[a])\/z∈H):KI t down ps s d V fin H' n todo:=by
 obtain⟨b1,b2,_⟩:=h.best n hn hal;refine⟨h.len,fun m x hx=>?_,fun m x hx=>?_,h.best,fun u b g1 g2 g3 g4 g5=>?_,fun hS=>(hH _).2 (.inr (h.src hS)),h.dd⟩;{(rcases(hH _).1 hx with e|e);{(injection e with e1 e2);subst e1 e2;exact .inr ⟨fin n,a,n,rfl,b1,ha,hd,rfl⟩};exact h.lab _ _ e};{(rcases(hH _).1 hx with e|e);{(injection e with e1 e2);subst e2;simp;omega};exact h.size _ _ e};(rcases h.front u b g1 g2 g3 g4 g5 with⟨rfl,g6⟩|g6);{(rcases xZ.1 g6 with rfl|g6);{exact .inr ((hH _).2 (.inl rfl))};exact .inl ⟨rfl,g6⟩};exact .inr ((hH _).2 (.inr g6))
def KI.start(hs:s<t.nodes.toNat)(hd:d<t.nodes.toNat)(m:Nat):KI t down ps s d (List.replicate t.nodes.toNat false) fin [(s,[])] m []:=by
 have qa:∀u b,(List.replicate t.nodes.toNat false)[u]?=some b->b=false:=fun u b h=>(by rw[xB]at h;split at h;{injection h with h;exact h.symm};cases h);refine⟨qS,fun m x hx=>?_,fun m x hx=>?_,fun u hu=>?_,fun u a hu=>?_,fun _=>qS,by rw[xB,qE hd]⟩;{simp at hx;exact .inl ⟨hx.2,hx.1⟩};{simp at hx;rw[hx.2];simp};{cases qa _ _ hu};cases qa _ _ hu
end
def jzm8 t:(bO t).length=2*t.links.length:=by unfold bO;simp
def oI t:dP (bO t):=fun a=>by
 (cases h:(bO t)[a]? with|none=>exact vC|some q=>(unfold bO at h;rw[yW]at h;cases h2:(List.range (2*t.links.length))[a]? with|none=>rw[h2]at h;cases h|some b=>(rw[h2]at h;injection h with h);show(0:Rat)<=q;rw[<-h];exact Rat.intCast_nonneg.2 qO))
def jzei t:dL t (bO t)=true:=by
 unfold dL;rw[jzm8,yO rfl];have:(bO t).any (fun q=>decide (aB q<0))=false:=(by rw[List.any_eq_false];intro q hq;unfold bO at hq;obtain⟨a,_,rfl⟩:=Bv.1 hq;simp only[decide_eq_true_eq];rw[jzd8,Dy];exact Rat.intCast_nonneg.2 qO);rw[this];rfl
def jzj{t}(hv:aG t=true)(a:Nat):dJ t a<=65535:=by
 (unfold dJ;cases h:t.links[a/2]? with|none=>simp|some l=>unfold aG at hv;rw[vM,xW]at hv;have qa:=hv.2 l (yJ h);unfold Lk.ok kg at qa;simp at qa;simp only[];split <;> omega)
def jzej{t}(hv:aG t=true):∀x:LN,bC t x<=65535*x.length:=fun x=>by
 have qa:∀(y:LN) (s:Nat),y.foldl (fun s a=>s+dJ t a) s<=s+65535*y.length:=(by intro y;(induction y with|nil=>intro s;simp|cons a y ih=>intro s;have:=ih (s+dJ t a);have h2:=jzj hv a;rw[List.foldl_cons,Dw];omega));have:=qa x 0;unfold bC;omega
def jzek{t}{down:List Bool}{s d:Nat}(hv:aG t=true)(hs:s<t.nodes.toNat):match eH t down (bO t) s d with
  |none=>∀p,¬FW t down d s p d
  |some p=>FW t down d s p d/\∀q,FW t down d s q d->ou (bO t) p q:=by
 unfold eH;exact rL hv (oI t) (t.nodes.toNat+1) (cC t.nodes.toNat s) (jzg hs) (by have:=nP (cC t.nodes.toNat s);have h2:(cC t.nodes.toNat s).length=t.nodes.toNat:=(by unfold cC;simp);omega)
def jzm9{t}{down:List Bool}{s d:Nat}{x:LN}(hv:aG t=true)(hs:s<t.nodes.toNat)(h1:FW t down d s x d)(h2:∀q,FW t down d s q d->ou (bO t) x q):eH t down (bO t) s d=some x:=by
 (have h:=jzek (down:=down) (d:=d) hv hs;cases hc:eH t down (bO t) s d with|none=>rw[hc]at h;exact absurd h1 (h x)|some p=>rw[hc]at h;rw[(h.2 x h1).anti (h2 p h.1)])
def jzna{t}{down:List Bool}{s d:Nat}(hv:aG t=true)(hs:s<t.nodes.toNat)(h1:∀p,¬FW t down d s p d):eH t down (bO t) s d=none:=by
 (have h:=jzek (down:=down) (d:=d) hv hs;cases hc:eH t down (bO t) s d with|none=>rfl|some p=>rw[hc]at h;exact absurd h.1 (h1 p))
def jznb t:Jy (fun x y:Nat×LN=>ou (bO t) x.2 y.2):=⟨fun x=>ou.refl _ _,fun x y z h1 h2=>h1.trans h2,fun x y=>by
 by_cases h:bJ (bO t) x.2 y.2=true
 ·exact .inl (ou.CX h)
 ·exact .inr (ou.Gf h)⟩
def jzel t(x y:LN):ou (bO t) x y↔¬dD t y x<0:=by
 unfold ou;rw[jzmq,decide_eq_false_iff_not]
def PO(t:Tp):Nat->Bool->LN->Nat->Prop
 |u,_,[],v=>u=v
 |u,first,a::p,v=>a∈aL t u/\(first=true\/bP t (u:Int)=false)/\PO t (aK t a).toNat false p v
def FW.po{t}{down:List Bool}{d:Nat}(hv:aG t=true):∀(p:LN) {u v:Nat} (first:Bool),FW t down d u p v->(first=true\/p=[]\/bP t (u:Int)=false)->(∀q z w,p=q++z->q≠ []->z≠ []->FW t down d u q w->w≠d)->PO t u first p v
 | [],_,_,_,h,_,_=>h
 |a::p,u,v,first,h,ho,hm=>by
  refine⟨h.1,?_,FW.po hv p false h.2.2 ?_ ?_⟩
  ·rcases ho with h1|h1|h1
   ·exact .inl h1
   ·cases h1
   ·exact .inr h1
  ·by_cases e:p=[]
   ·exact .inr (.inl e)
   ·have h1:=hm [a] p _ rfl qS e (FW.one h.1 h.2.1)
    have h2:=h.2.1;unfold cV at h2;rw[<-jzi hv h.1,vM,Bool.or_eq_true,Bool.not_eq_true',Bool.not_eq_true',beq_iff_eq]at h2;rcases h2.2 with h3|h3
    ·exact absurd qO h1
    ·exact .inr (.inr h3)
  ·intro q z w e hq hz hw
   exact hm (a::q) z w (by rw[e];rfl) qS hz ⟨h.1,h.2.1,hw⟩
end Go.Proofs.YtfeeacaofjpkaaaGreatDoor
namespace Go.Proofs.YtfeeacaofjpkaaaGreatDoor
open Go.Proofs.Tryz
namespace Sx
def eJ(L:Nat):Nat->List (LN)
 |0=>[[]]
 |n+1=>(List.range L).flatMap fun a=>(eJ L n).map (a:: ·)
def jzem(L:Nat):∀{l:LN},(∀a∈l,a<L)->l∈eJ L l.length
 | [],_=>by simp[eJ]
 |a::l,h=>Hl.2 ⟨a,vX.2 (h a qS),Bv.2 ⟨l,jzem L fun b hb=>h b (by simp[hb]),rfl⟩⟩
def rO{α β:Type}(f:α->List β)(c:Nat):∀{l:List α},(∀a∈l,(f a).length<=c)->(l.flatMap f).length<=l.length*c
 | [],_=>yZ _
 |a::l,h=>by
  rw[xU,yQ,Dw,Nat.succ_mul];have h1:=h a qS;have h2:=rO f c (l:=l) fun b hb=>h b (by simp[hb]);omega
def jzen(L:Nat):∀n,(eJ L n).length<=L^n
 |0=>yX _
 |n+1=>by
  have:=rO (fun a=>(eJ L n).map (a:: ·)) (L^n) (l:=List.range L) fun a _=>(by rw[xV];exact jzen L n);rw[Jt]at this;rw[vD,vE];exact this
def Df(D L n:Nat):List (Nat×LN):=(List.range D).flatMap fun d=>(List.range (n+1)).flatMap fun k=>(eJ L k).map fun l=>(d,l)
def jznc{D L n:Nat}{p:Nat×LN}(h1:p.1<D)(h2:∀a∈p.2,a<L)(h3:p.2.length<=n):p∈Df D L n:=
 Hl.2 ⟨p.1,vX.2 h1,Hl.2 ⟨p.2.length,vX.2 qO,Bv.2 ⟨p.2,jzem L h2,rfl⟩⟩⟩
def Hy(D L n:Nat)(hL:1<=L):(Df D L n).length<=D*((n+1)*L^n):=by
 have:=rO (fun d=>(List.range (n+1)).flatMap fun k=>(eJ L k).map fun l=>(d,l)) ((n+1)*L^n) (l:=List.range D) fun d _=>(by have:=rO (fun k=>(eJ L k).map fun l=>(d,l)) (L^n) (l:=List.range (n+1)) fun k hk=>(by rw[xV];exact yY (jzen L k) (DU hL (by have:=vX.1 hk;omega)));rw[Jt]at this;exact this);rw[Jt]at this;exact this
def He{D L n:Nat}{P:List (Nat×LN)}(hd:P.Nodup)(h:∀p∈P,p.1<D/\(∀a∈p.2,a<L)/\p.2.length<=n):P.length<=(Df D L n).length:=
 BO hd fun p hp=>jznc (h p hp).1 (h p hp).2.1 (h p hp).2.2
end Sx
open Go.RowKit
def jzeo{t}{down:List Bool}{ps:LQ}{s d:Nat}(hv:aG t=true)(hp:dP ps)(hs:s<t.nodes.toNat):match eH t down ps s d with
  |none=>∀p,¬FW t down d s p d
  |some p=>FW t down d s p d/\∀q,FW t down d s q d->ou ps p q:=by
 unfold eH;exact rL hv hp (t.nodes.toNat+1) (cC t.nodes.toNat s) (jzg hs) (by have:=nP (cC t.nodes.toNat s);have h2:(cC t.nodes.toNat s).length=t.nodes.toNat:=(by unfold cC;simp);omega)
def jzep{t}{down:List Bool}{ps:LQ}{s d:Nat}{x:LN}(hv:aG t=true)(hp:dP ps)(h1:FW t down d s x d)(h2:∀q,FW t down d s q d->ou ps x q):PO t s true x d:=by
 refine FW.po hv x true h1 (.inl rfl) (fun q z w e hq hz hw hwd=>?_);subst hwd;have h3:=h2 q hw;have h4:=ou.ext hp q z;rw[<-e]at h4;have h5:=h3.anti h4;rw[e]at h5;have:z=[]:=(by simpa using h5);exact hz this
def Gg(t:Tp):Nat->LN->LN
 |u,[]=>[u]
 |u,a::p=>u::Gg t (aK t a).toNat p
def mR t:∀(x:LN) (u:Nat),Gg t u x=u::x.map fun a=>(aK t a).toNat
 | [],_=>rfl
 |a::x,u=>by
  show u::Gg t _ x=_;rw[mR t x];rfl
def jznd t(u:Nat)(x:LN):(Gg t u x).length=x.length+1:=by rw[mR];simp
def jzeq{t}{down:List Bool}{d:Nat}:∀(x:LN) {u v s:Nat},FW t down d u x v->s∈Gg t u x->∃y z,x=y++z/\FW t down d u y s/\FW t down d s z v
 | [],u,v,s,h,hs=>by
   have e:s=u:=xD.1 hs;subst e;exact⟨[],[],rfl,rfl,h⟩
 |a::x,u,v,s,h,hs=>by
  rcases xZ.1 hs with e|e
  ·subst e;exact⟨[],a::x,rfl,rfl,h⟩
  ·obtain⟨y,z,e1,e2,e3⟩:=jzeq x h.2.2 e
   exact⟨a::y,z,by rw[e1];rfl,⟨h.1,h.2.1,e2⟩,e3⟩
def jzer{t}{down:List Bool}{d:Nat}:∀(x:LN) {u v:Nat},FW t down d u x v->¬(Gg t u x).Nodup->∃p y z m,x=p++y++z/\y≠ []/\FW t down d u p m/\FW t down d m y m/\FW t down d m z v
 | [],u,v,_,hn=>by
   exact absurd (by show [u].Nodup;simp) hn
 |a::x,u,v,h,hn=>by
  by_cases hm:u∈Gg t (aK t a).toNat x
  ·obtain⟨y,z,e1,e2,e3⟩:=jzeq x h.2.2 hm
   exact⟨[],a::y,z,u,by rw[e1];rfl,qS,rfl,⟨h.1,h.2.1,e2⟩,e3⟩
  ·have qa:¬(Gg t (aK t a).toNat x).Nodup:=fun h2=>hn (J4.2 ⟨hm,h2⟩)
   obtain⟨p,y,z,m,e1,e2,e3,e4,e5⟩:=jzer x h.2.2 qa;exact⟨a::p,y,z,m,by rw[e1];rfl,e2,⟨h.1,h.2.1,e3⟩,e4,e5⟩
def jzes{t}{down:List Bool}{ps:LQ}{s d:Nat}{x:LN}(hp:dP ps)(h1:FW t down d s x d)(h2:∀q,FW t down d s q d->ou ps x q):(Gg t s x).Nodup:=by
 refine Classical.byContradiction fun hn=>?_;obtain⟨p,y,z,m,e1,e2,e3,e4,e5⟩:=jzer x h1 hn;have h3:bJ ps x (p++z)=true\/True:=.inr trivial;have h4:=h2 (p++z) (e3.app p e5);have h5:=rK hp p y z e2;rw[<-e1]at h5;unfold ou at h4;rw[h5]at h4;cases h4
def Az(t:Tp)(s d:Nat)(x:LN):Prop:=PO t s true x d/\(Gg t s x).Nodup
def jzk{t}(hv:aG t=true){d:Nat}:∀(x:LN) (u:Nat) (first:Bool),PO t u first x d->FW t [] d u x d
 | [],_,_,h=>h
 |a::x,u,first,h=>by
  refine⟨h.1,?_,jzk hv x _ false h.2.2⟩;have hd:=gM hv h.1;have qa:cE [] a=false:=rfl;unfold cV;rw[qa,Bool.not_false,IX,Bool.or_eq_true,beq_iff_eq,Bool.not_eq_true'];cases x with
  |nil=>
   have:(aK t a).toNat=d:=h.2.2;exact .inl qO
  |cons b x=>
   rcases h.2.2.2.1 with h2|h2
   ·cases h2
   ·refine .inr ?_
    rw[show(((aK t a).toNat:Nat):Int)=aK t a by omega]at h2;exact h2
def iH{t}:∀(x:LN) {u v:Nat} {first:Bool},PO t u first x v->∀a∈x,a<2*t.links.length
 | [],_,_,_,_,_,h=>by cases h
 |b::x,_,_,_,h,a,ha=>by
  rcases xZ.1 ha with e|e
  ·have:=h.1
   unfold aL cG at this;rw[e];exact vX.1 (List.mem_filter.1 this).1
  ·exact iH x h.2.2 a e
def jzet{t}(hv:aG t=true):∀(x:LN) {u v:Nat} {first:Bool},u<t.nodes.toNat->PO t u first x v->∀n∈Gg t u x,n<t.nodes.toNat
 | [],u,_,_,hu,_,n,hn=>by
   rw[xD.1 hn];exact hu
 |a::x,u,_,_,hu,h,n,hn=>by
  rcases xZ.1 hn with e|e
  ·rw[e];exact hu
  ·exact jzet hv x (gM hv h.1).2.2.1 h.2.2 n e
def Az.len{t}(hv:aG t=true){s d:Nat}{x:LN}(hs:s<t.nodes.toNat)(h:Az t s d x):x.length+1<=t.nodes.toNat:=by
 have:=Sx.BO (k:=List.range t.nodes.toNat) h.2 fun n hn=>vX.2 (jzet hv x hs h.1 n hn);rw[jznd,Jt]at this;exact this
def Az.nodup{t}{s d:Nat}{x:LN}(h:Az t s d x):x.Nodup:=by
 have h1:=h.2;rw[mR]at h1;have h2:=(J4.1 h1).2;exact List.Pairwise.imp (fun {a b} hab e=>hab (by rw[e])) (List.pairwise_map.1 h2)
def Az.ne{t}{s d:Nat}{x:LN}(h:Az t s d x)(hsd:s≠d):x≠ []:=fun e=>by
 have:=h.1;rw[e]at this;exact hsd this
def jzeu(ps:LQ):∀x:LN,nu ps x=Sx.ls (fun a=>Sx.at_ ps a) x
 | []=>rfl
 |a::x=>by
  rw[show a::x=[a]++x from rfl,lW,jzeu ps x,Sx.CY];show nu ps [a]+_=(Sx.at_ ps a+0)+_;have:nu ps [a]=0+Sx.at_ ps a:=rfl;rw[this];grind
def jzev(f:Nat->Rat)(n:Nat):∀x:LN,x.Nodup->(∀a∈x,a<n)->Sx.ls f x=Sx.sm n fun a=>if a∈x then f a else 0
 | [],_,_=>by
   show(0:Rat)=_;rw[Sx.ku n fun k _=>qS]
 |b::x,hd,h=>by
  obtain⟨h1,h2⟩:=J4.1 hd;show f b+Sx.ls f x=_;rw[jzev f n x h2 fun a ha=>h a (by simp[ha])];have e1:Sx.sm n (fun a=>if a=b then f a else 0)=f b:=by
   rw[Sx.iy n (h b qS) fun k _ hk=>qF hk,qE rfl]
  rw[<-e1, <-Sx.u7];refine Sx.au n fun a _=>?_;by_cases e:a=b
  ·subst e
   rw[qE rfl,qF h1,qE qS];grind
  rw[qF e];by_cases e2:a∈x
  ·rw[qE e2,qE (by simp[e2])];grind
  rw[qF e2,qF (by simp[e,e2])];grind
def Az.Gd{t}{s d:Nat}{x:LN}(h:Az t s d x)(ps:LQ):nu ps x=Sx.sm (2*t.links.length) fun a=>if a∈x then Sx.at_ ps a else 0:=by
 rw[jzeu];exact jzev _ _ x h.nodup (iH x h.1)
def iI{t}{ps:LQ}{s d:Nat}(hv:aG t=true)(hp:dL t ps=true)(hs:s<t.nodes.toNat)(hd:d<t.nodes.toNat):
  (∃x,Co t [] ps (s:Int) (d:Int)=(x,0)/\Az t s d x/\∀y,Az t s d y->nu ps x<=nu ps y)\/(Co t [] ps (s:Int) (d:Int)=([],11)/\∀y,¬Az t s d y):=by
 (have hb:cO t [] ps=false:=(by unfold cO bU;rw[hv,hp];rfl);have qa:dR t (s:Int) (d:Int)=false:=(by unfold dR;simp;omega);have h:=jzeo (down:=[]) (d:=d) hv (oH hp) hs;unfold Co;rw[hb,qa];simp only[Jr,if_false,xL];cases hc:eH t [] ps s d with|none=>rw[hc]at h;exact .inr ⟨rfl,fun y hy=>h y (jzk hv y s true hy.1)⟩|some x=>(rw[hc]at h;refine .inl ⟨x,rfl,⟨jzep hv (oH hp) h.1 h.2,jzes (oH hp) h.1 h.2⟩,fun y hy=>?_⟩;rcases(mQ ps x y).1 (h.2 y (jzk hv y s true hy.1))with e|e);{rw[e];exact vC};(rcases(iG ps x y).1 e with e|e);{exact vB e};rw[e.1];exact vC)
structure Dm where
 src:Int
 dst:Int
 amount:Int
 prio:Int
def Dm.cells(d:Dm):List Value:=[vI d.src,vI d.dst,vI d.amount,vI d.prio]
def Dm.wf(d:Dm):Prop:=i64 d.src/\i64 d.dst/\i64 d.amount/\i64 d.prio
def Dm.ok(N:Int)(d:Dm):Bool:= !(d.src==d.dst)&&kg d.src 0 (N-1)&&kg d.dst 0 (N-1)&&kg d.amount 1 1048576&&kg d.prio 0 7
def aY(l:List Dm)(d:Nat):Nat:=match l[d]? with
 |some x=>x.src.toNat
 |none=>0
def aX(l:List Dm)(d:Nat):Nat:=match l[d]? with
 |some x=>x.dst.toNat
 |none=>0
def nk(l:List Dm)(d:Nat):Rat:=match l[d]? with
 |some x=>(x.amount:Rat)
 |none=>0
def aV(t:Tp)(a:Nat):Rat:=match t.links[a/2]? with
 |some x=>(x.cap:Rat)
 |none=>0
def Ea(t:Tp)(pr:LQ)(s d:Nat):Rat:=nu pr (Co t [] pr (s:Int) (d:Int)).1
structure Fit(t:Tp)(l:List Dm):Prop where
 v:aG t=true
 n:0<l.length
 ok:∀x∈l,Dm.ok t.nodes x=true
section
variable {t:Tp} {l:List Dm}
def Fit.nodes(h:Fit t l){d:Nat}(hd:d<l.length):aY l d<t.nodes.toNat/\aX l d<t.nodes.toNat/\aY l d≠aX l d/\l[d].src=(aY l d:Int)/\l[d].dst=(aX l d:Int):=by
 have h1:=h.ok _ (xR hd);unfold Dm.ok kg at h1;simp at h1;unfold aY aX;rw[yG hd];simp only[];omega
def Fit.am(h:Fit t l){d:Nat}(hd:d<l.length):0<nk l d/\Sx.sj (nk l d)/\nk l d<=((1048576:Int):Rat)/\nk l d=(l[d].amount:Rat)/\1<=l[d].amount/\l[d].amount<=1048576:=by
 have h1:=h.ok _ (xR hd);unfold Dm.ok kg at h1;simp at h1;have e:nk l d=(l[d].amount:Rat):=(by unfold nk;rw[yG hd]);refine⟨?_,⟨_,e⟩,?_,e,qO,qO⟩;{rw[e];exact Rat.intCast_lt_intCast.2 (show(0:Int)<l[d].amount by omega)};rw[e];exact Hr.2 qO
def kV(hv:aG t=true){a:Nat}(ha:a<2*t.links.length):∃h:a/2<t.links.length,0<=aV t a/\Sx.sj (aV t a)/\aV t a<=((1048576:Int):Rat)/\aV t a=(t.links[a/2].cap:Rat)/\0<=t.links[a/2].cap/\t.links[a/2].cap<=1048576:=by
 have hl:a/2<t.links.length:=qO;unfold aG at hv;rw[vM,xW]at hv;have qa:=hv.2 _ (xR hl);unfold Lk.ok kg at qa;simp at qa;have e:aV t a=(t.links[a/2].cap:Rat):=(by unfold aV;rw[yG hl]);refine⟨hl,?_,⟨_,e⟩,?_,e,qO,qO⟩;{rw[e];exact Hr.2 (show(0:Int)<=t.links[a/2].cap by omega)};rw[e];exact Hr.2 qO
end
structure cL(t:Tp)(l:List Dm)(v:Rat)(Z:List ((Nat×LN)×Rat))(pr:LQ):Prop where
 adm:Sx.Iu (2*t.links.length) l.length (nk l) (aV t) v Z
 loop:∀z∈Z,Az t (aY l z.1.1) (aX l z.1.1) z.1.2
 Bu:pr.length=2*t.links.length
 GZ:∀q∈pr,0<=q
 worth:(Sx.sm (2*t.links.length) fun a=>Sx.at_ pr a*aV t a)=v
 need:1<=Sx.sm l.length fun d=>nk l d*Ea t pr (aY l d) (aX l d)
 conn:∀d,d<l.length->∃x,Az t (aY l d) (aX l d) x
def rP(q:Rat):aB q<0↔q<0:=by
 have h:q.num<0↔q<0:=(by rw[<-Int.not_le,Rat.num_nonneg,Rat.not_le]);unfold aB;split;{rename_i h0;rw[<-h,h0]};split;{rename_i h1;exact⟨fun _=>h.1 h1,fun _=>qD⟩};rename_i h1;exact⟨fun x=>qO,fun x=>absurd (h.2 x) h1⟩
def fY{t:Tp}{pr:LQ}(h1:pr.length=2*t.links.length)(h2:∀q∈pr,0<=q):dL t pr=true:=by
 unfold dL;rw[vM,decide_eq_true_eq,Bool.not_eq_true'];refine⟨h1,?_⟩;rw[<-Bool.not_eq_true];intro hn;obtain⟨q,hq,hs⟩:=List.any_eq_true.1 hn;have:=(rP q).1 (of_decide_eq_true hs);have:=h2 q hq;grind
def rQ{pr:LQ}(h:∀q∈pr,0<=q)(a:Nat):0<=Sx.at_ pr a:=by
 unfold Sx.at_;by_cases e:a<pr.length;{rw[yG e];exact h _ (xR e)};rw[yI qO];exact vC
def cL.unique{t}{l:List Dm}(hf:Fit t l){v v':Rat}{Z Z':List ((Nat×LN)×Rat)}{pr pr':LQ}(h:cL t l v Z pr)(h':cL t l v' Z' pr'):v=v':=by
 have qa:∀{v v':Rat} {Z Z':List ((Nat×LN)×Rat)} {pr pr':LQ},cL t l v Z pr->cL t l v' Z' pr'->v<=v':=fun {v v' Z Z' pr pr'} h h'=>(by (rw[<-h'.worth];refine h.adm.weak hf.n (fun d hd=>(hf.am hd).1) (ch:=fun d=>Ea t pr' (aY l d) (aX l d)) (fun a _=>rQ h'.GZ a) (fun z hz=>?_) h'.need;have hd:=h.adm.Bd z hz;obtain⟨n1,n2,_⟩:=hf.nodes hd;have hl:=h.loop z hz;rcases iI hf.v (fY h'.Bu h'.GZ) n1 n2 with⟨x,e,_,e2⟩|⟨_,e⟩);{show Ea t pr' _ _<=_;unfold Ea;rw[e, <-hl.Gd];exact e2 _ hl};exact absurd hl (e _));exact Rat.le_antisymm (qa h h') (qa h' h)
def jzne{t}{l:List Dm}(hf:Fit t l){T:Sx.Tb}{P:List (Nat×LN)}(hb:Sx.Best (2*t.links.length) l.length (nk l) (aV t) T P)(hrl:T.rows.length=2*t.links.length+l.length)
  (hP:∀p∈P,Az t (aY l p.1) (aX l p.1) p.2) (hpl:Sx.tq T P |>.map (·.1) |>.all (fun p=>decide (p∈P)))
  (hg:∀d,d<l.length->Sx.at_ (Sx.Ba T) (2*t.links.length+d)<=Ea t ((Sx.Ba T).take (2*t.links.length)) (aY l d) (aX l d)) (hc:∀d,d<l.length->∃x,Az t (aY l d) (aX l d) x):
  cL t l T.goal.re (Sx.uj l.length (nk l) T.goal.re (Sx.tq T P)) ((Sx.Ba T).take (2*t.links.length)):=by
 have qa:(Sx.Ba T).length=2*t.links.length+l.length:=(by unfold Sx.Ba;rw[Sx.Af,hrl]);have qe:∀a,a<2*t.links.length->Sx.at_ ((Sx.Ba T).take (2*t.links.length)) a=Sx.at_ (Sx.Ba T) a:=fun a ha=>(by unfold Sx.at_;rw[xG,qE ha]);refine⟨hb.adm,fun z hz=>?_,by rw[xF];omega,fun q hq=>?_,?_,?_,hc⟩;{obtain⟨_,f,h1,_⟩:=Sx.Fj hz;have:=of_decide_eq_true (xW.1 hpl z.1 (Bv.2 ⟨_,h1,rfl⟩));exact hP _ this};{obtain⟨k,hk,e⟩:=List.getElem_of_mem hq;rw[xF]at hk;have:=hb.pos k qO;unfold Sx.at_ at this;rw[yG qO]at this;rw[<-e,List.getElem_take];exact this};{rw[<-hb.worth];exact Sx.au _ fun a ha=>by rw[qe a ha]};refine Dv hb.need (Sx.Cw _ fun d hd=>?_);exact yT (hg d hd) (vB (hf.am hd).1)
def rR(l:LQ)(i k:Nat)(q:Rat)(hk:k<l.length):Sx.at_ (l.set i q) k=if i=k then q else Sx.at_ l k:=by
 unfold Sx.at_;by_cases e:i=k;{subst e;rw[yM hk,qE rfl];rfl};rw[vN e,qF e]
def jzew(k:Nat):∀(aj:LN) (v:LQ),k<v.length->Sx.at_ ((aj.map fun a=>(a,(1:Rat))).foldl (fun v t=>v.set t.1 t.2) v) k=if k∈aj then 1 else Sx.at_ v k
 | [],v,_=>by simp
 |a::aj,v,hk=>by
  show Sx.at_ ((aj.map fun a=>(a,(1:Rat))).foldl _ (v.set a 1)) k=_;rw[jzew k aj _ (by rw[yV];exact hk),rR _ _ _ _ hk];by_cases e:k∈aj
  ·simp[e]
  ·by_cases e2:a=k
   ·subst e2;simp
   ·have e3:¬k=a:=fun h=>e2 h.symm
    simp[e,e2,e3]
def jzl(m k:Nat):Sx.at_ (List.replicate m 0) k=0:=by
 unfold Sx.at_;rw[xB];split <;> rfl
def Et(L2:Nat)(p:Nat×LN):List (Nat×Rat):=(L2+p.1, -1)::p.2.map fun a=>(a,1)
def jzex(L2 D:Nat)(p:Nat×LN)(hp:∀a∈p.2,a<L2)(k:Nat)(hk:k<L2+D):Sx.at_ (aO (L2+D) (Et L2 p)) k=Sx.Bb L2 p k:=by
 unfold aO Et Sx.Bb;show Sx.at_ ((p.2.map fun a=>(a,(1:Rat))).foldl _ ((List.replicate (L2+D) 0).set (L2+p.1) (-1))) k=_;rw[jzew k p.2 _ (by simpa using hk),rR _ _ _ _ (by simpa using hk),jzl];by_cases h1:k<L2;{rw[qE h1,qF (show¬L2+p.1=k by omega)]};rw[qF h1,qF (fun h=>h1 (hp k h))];by_cases e:k=L2+p.1;{rw[qE e,qE e.symm]};rw[qF e,qF (fun h=>e h.symm)]
def EL(L2:Nat)(am:Nat->Rat)(n:Nat):List (Nat×Rat):=(List.range n).map fun d=>(L2+d,am d)
def jzey(L2:Nat)(am:Nat->Rat)(n:Nat):EL L2 am (n+1)=EL L2 am n++[(L2+n,am n)]:=by unfold EL;rw[IY,List.map_append];rfl
def jzez(L2 D:Nat)(am:Nat->Rat)(k:Nat)(hk:k<L2+D):∀n,Sx.at_ (aO (L2+D) (EL L2 am n)) k=if L2<=k/\k<L2+n then am (k-L2)else 0
 |0=>by
  rw[qF qO];exact jzl _ _
 |n+1=>by
  have ih:=jzez L2 D am k hk n;have hl:∀(ts:List (Nat×Rat)) (v:LQ),(ts.foldl (fun v t=>v.set t.1 t.2) v).length=v.length:=fun ts=>by
   induction ts with
   |nil=>intro v;rfl
   |cons t ts ih=>intro v;show(ts.foldl _ (v.set t.1 t.2)).length=_;rw[ih,yV]
  unfold aO at ih⊢;rw[jzey,Jq];show Sx.at_ ((List.foldl (fun(v:LQ) (t:Nat×Rat)=>v.set t.1 t.2) (List.replicate (L2+D) 0) (EL L2 am n)).set (L2+n) (am n)) k=_;rw[rR _ _ _ _ (by rw[hl];simpa using hk),ih];by_cases e:L2+n=k
  ·rw[qE e,qE qO]
   rw[show k-L2=n by omega]
  ·rw[qF e]
   by_cases h:L2<=k/\k<L2+n
   ·rw[qE h,qE qO]
   ·rw[qF h,qF qO]
def jznf(L2 D:Nat)(am:Nat->Rat)(k:Nat)(hk:k<L2+D):Sx.at_ (aO (L2+D) (EL L2 am D)) k=Sx.BZ L2 am k:=by
 rw[jzez L2 D am k hk D];unfold Sx.BZ;by_cases h:k<L2;{rw[qF qO,qE h]};rw[qE qO,qF h]
def jze0{P:Rat->Prop}(m:Nat)(ts:List (Nat×Rat))(h0:P 0)(h:∀t∈ts,P t.2):∀q∈aO m ts,P q:=by
 have qa:∀(ts:List (Nat×Rat)) (v:LQ),(∀t∈ts,P t.2)->(∀q∈v,P q)->∀q∈ts.foldl (fun v t=>v.set t.1 t.2) v,P q:=fun ts=>(by (induction ts with|nil=>intro v _ hv;exact hv|cons t ts ih=>(intro v ht hv;refine ih _ (fun t' h'=>ht t' (xO _ h')) fun q hq=>?_;rcases xE hq with h1|h1);{exact hv q h1};rw[h1];exact ht t qS));exact qa ts _ h fun q hq=>by rw[uF hq];exact h0
def jzm(c:Rat):∀(n:Nat) {f:Nat->Rat},(∀k,k<n->f k<=c)->Sx.sm n f<=((n:Int):Rat)*c
 |0,f,_=>by
  show(0:Rat)<=((0:Int):Rat)*c;grind
 |n+1,f,h=>by
  have h1:=jzm c n (f:=f) fun k hk=>h k qO;have h2:=h n (Nat.lt_succ_self n);show Sx.sm n f+f n<=(((n+1:Nat):Int):Rat)*c;have e:(((n+1:Nat):Int):Rat)=((n:Int):Rat)+1:=by
   rw[Jo,Rat.intCast_add];rfl
  rw[e,Rat.add_mul,Rat.one_mul];grind
def ZB:Nat:=25*33554432^24
def jze1:ZB<dh^20:=by unfold ZB dh;decide
def mS{q:Rat}{N:Nat}(h:Sx.Kk q N)(hN:N<=ZB):dx q 20:=⟨Im (yY h.1 hN) jze1,Im (yY h.2 hN) jze1⟩
def jzng{m:Nat}(hm:m<=24):(m+1)*33554432^m<=ZB:=DK qO (DU qD hm)
def oJ{t}{l:List Dm}{T:Sx.Tb}{P:List (Nat×LN)}(hf:Fit t l)(hl:t.links.length<=10)(hD:l.length<=4)(h:Sx.BH (2*t.links.length) l.length (nk l) (aV t) T P):
  Km T/\Kl T 20/\(∀q∈Sx.Ba T,dx q 20)/\(∀q∈Sx.Cq T,dx q 20)/\∃Dn:Int,Dn≠0/\Dn.natAbs<=33554432^24/\Sx.Qn Dn ZB T.goal.re/\∀q∈Sx.Cq T,Sx.Qn Dn ZB q:=by
 have hm:2*t.links.length+l.length<=24:=qO;obtain⟨Dn,d1,d2,d3,d4,d5,d6,d7⟩:=h.sizes 33554432 qO qD (fun a ha=>by
  obtain⟨_,h1,h2,_⟩:=kV hf.v ha;exact⟨h2,h1⟩) (fun d hd=>⟨(hf.am hd).2.1,by have:=(hf.am hd).1;grind⟩) (by
  have h1:=jzm ((1048576:Int):Rat) (2*t.links.length) (f:=aV t) fun a ha=>(by obtain⟨_,_,_,h3,_⟩:=kV hf.v ha;exact h3)
  refine Dv h1 ?_;rw[<-Jp];exact Hr.2 qO) (by
  have h1:=jzm ((1048576:Int):Rat) l.length (f:=nk l) fun d hd=>(hf.am hd).2.2.1;refine Dv h1 ?_;rw[<-Jp];exact Hr.2 qO)
 obtain⟨s1,s2,_⟩:=h.shape;have hz:=jzng hm;have up:∀{q:Rat},Sx.Qn Dn ((2*t.links.length+l.length+1)*33554432^(2*t.links.length+l.length)) q->Sx.Qn Dn ZB q:=fun hq=>⟨hq.1,yY hq.2.1 hz,yY hq.2.2 hz⟩;exact⟨⟨s1,s2⟩,⟨fun i hi q hq=>mS ((d3 i hi).1 q hq).2 hz,fun i hi=>mS (d3 i hi).2.2 hz,fun q hq=>mS (d4 q hq).2 hz,mS d5.2 hz⟩,fun q hq=>mS (d6 q hq).2 hz,fun q hq=>mS (d7 q hq).2 hz,
  Dn,d1,yY d2 (DU qD hm),up d5,fun q hq=>up (d7 q hq)⟩
open Go.Maps (Keyed)
def BU(w:World)(b n:Nat)(ks:List (List UInt8)):Prop:=
 ∃D:DataW Unit,w.ownsMap prog 9 (plainElem prog 4) b n D/\Maps.IsMap D/\∀k,D.atKey (.string k) (.lit (.bool false))=.lit (.bool (decide (k∈ks)))
def jznh w:(zeroValue 4).run prog w=.ok bF w:=by kernel_rfl
def BU.lt{w}{b n:Nat}{ks:List (List UInt8)}(h:BU w b n ks):b<w.heap.size:=by
 obtain⟨D,h1,_⟩:=h;exact h1.lt
def BU.same{w w':World}{b n:Nat}{ks:List (List UInt8)}(h:BU w b n ks)(hb:w'.heap[b]?=w.heap[b]?):BU w' b n ks:=by
 obtain⟨D,⟨es,qa,h1,h2⟩,h3⟩:=h;exact⟨D,⟨es,qa,hb.trans h1,h2⟩,h3⟩
def BU.K{w w'}{b n:Nat}{ks:List (List UInt8)}(h:BU w b n ks)(hx:Ext w w'):BU w' b n ks:=h.same (hx.block b h.lt)
def BU.made(w:World):BU (w.alloc (.map #[] 0)) w.heap.size 0 []:=
 ⟨.map [],World.ownsMap_made w _ _ _,⟨[],rfl⟩,fun k=>by simp;rfl⟩
def BU.not{w}{b n:Nat}{ks:List (List UInt8)}(h:BU w b n ks){t:TypeId}{cs:Array Value}:¬ak w b t cs:=fun e=>by
 obtain⟨D,⟨es,qa,h1,_⟩,_⟩:=h;unfold ak at e;rw[h1]at e;injection e with e;cases e
section
variable {ops:Array Oper} {rest:List Oper} {o:Oper} {a:Act} {Q:Exit->Act->World->Prop} {w:World} {b n:Nat} {ks:List (List UInt8)}
def BU.look(h:BU w b n ks)(key:ByteArray)(hs:key.size<=maxLen):(Instr.lookup 81 (.map (some b)) (.string key) false).run prog w=.ok (.bool (decide (key.data.toList∈ks))) w:=by
 obtain⟨D,h1,_,h3⟩:=h;have qa:prog.underlying 4=some .bool:=qK;have qe:prog.underlying 9=some .string:=qK;have qf:prog.underlying 81=some (.map 9 4):=qK;obtain⟨v,ps,qg,hv⟩:=h1.lookup (Maps.string_keyed qe) qf (jznh w) (plainElem_bool qa false) (WideMaps.keyOf_string_mk qe hs);rw[h3]at hv;unfold plainElem at hv;rw[qa]at hv;cases v <;> simp at hv;rw[qg];rename_i x;obtain⟨hv,_⟩:=hv;by_cases hm:key.data.toList∈ks <;> simp_all
def jzni(hg:o.guard=none)(m x v:Operand)(hop:o.op=Op.mapUpdate 81 m x v)(b n:Nat)(ks:List (List UInt8))(hm:a.eval m=.map (some b))(h:BU w b n ks)(hn:n<maxLen)(key:ByteArray)(hx:a.eval x=.string key)(hs:key.size<=maxLen)(hv:a.eval v=.bool true)
  (hK:∀w',BU w' b (n+1) (key.data.toList::ks)->w.grownBy w' (some b)->wpList prog ops Q rest (a.put o.dst undef) w'):wpList prog ops Q (o::rest) a w:=by
 obtain⟨D,h1,h2,h3⟩:=h;have qe:prog.underlying 4=some .bool:=qK;have qa:prog.underlying 9=some .string:=qK;refine wpList_mapUpdate_own w hg m x v 81 hop 9 4 (Maps.string_keyed qa) qK (plainElem prog 4) b n D hm h1 hn (.string key) (.bool true) (.string key.data.toList) hx hv (WideMaps.keyOf_string_mk qa hs) (.lit (.bool true)) [] (plainElem_bool qe true) ?_;intro w' k1 k2;refine hK w' ⟨_,k1,?_,fun k=>?_⟩ k2;{obtain⟨es,rfl⟩:=h2;exact⟨_,DataW.put_eq es _ _⟩};by_cases e:k=key.data.toList;{subst e;rw[Maps.atKey_put_same h2 (by simp[WideAt.IsKeyLit])];simp};rw[Maps.atKey_put_other (fun e2=>e (by injection e2)),h3];simp[e]
def jznj{K:Act->World->Prop}(m x:Operand)(hop:o.op=Op.lookup 81 m x false)(b n:Nat)(ks:List (List UInt8))(hm:a.eval m=.map (some b))(h:BU w b n ks)(key:ByteArray)(hx:a.eval x=.string key)(hs:key.size<=maxLen)
  (hK:K (a.put o.dst (.bool (decide (key.data.toList∈ks)))) w):o.wp prog a w K Q:=by
 have qa:=h.look key hs;unfold Oper.wp;simp[execOp,hop,hm,hx,qa,Result.andThen];exact hK
def jznk{K:Act->World->Prop}(m x v:Operand)(hop:o.op=Op.mapUpdate 81 m x v)(b n:Nat)(ks:List (List UInt8))(hm:a.eval m=.map (some b))(h:BU w b n ks)(hn:n<maxLen)(key:ByteArray)(hx:a.eval x=.string key)(hs:key.size<=maxLen)(hv:a.eval v=.bool true)
  (hK:∀w',BU w' b (n+1) (key.data.toList::ks)->w.grownBy w' (some b)->K (a.put o.dst undef) w'):o.wp prog a w K Q:=by
 obtain⟨D,h1,h2,h3⟩:=h;have qe:prog.underlying 4=some .bool:=qK;have qa:prog.underlying 9=some .string:=qK;obtain⟨w',qf,k1,k2⟩:=h1.update (t:=81) (e:=4) (Maps.string_keyed qa) qK hn (key:=.string key) (val:=.bool true) (kl:=.string key.data.toList) (d:=.lit (.bool true)) (ps:=[]) (WideMaps.keyOf_string_mk qa hs) (plainElem_bool qe true);unfold Oper.wp;simp[execOp,hop,hm,hx,hv,qf,Result.andThen];refine hK w' ⟨_,k1,?_,fun k=>?_⟩ k2;{obtain⟨es,rfl⟩:=h2;exact⟨_,DataW.put_eq es _ _⟩};by_cases e:k=key.data.toList;{subst e;rw[Maps.atKey_put_same h2 (by simp[WideAt.IsKeyLit])];simp};rw[Maps.atKey_put_other (fun e2=>e (by injection e2)),h3];simp[e]
end
def BU.congr{w}{b n m:Nat}{ks js:List (List UInt8)}(h:BU w b n ks)(hn:n<=m)(hk:∀k,k∈ks↔k∈js):BU w b m js:=by
 obtain⟨D,h1,h2,h3⟩:=h;exact⟨D,h1.mono hn,h2,fun k=>by rw[h3];simp[hk]⟩
end Go.Proofs.YtfeeacaofjpkaaaGreatDoor
namespace Go.Proofs.YtfeeacaofjpkaaaGreatDoor
open Go.Proofs.Tryz
open Go.RowKit
def dZ(l:List Int):List Value:=l.map fun a=>Value.int .i64 a
def Rd.Lh{w}{A}{l:List Int}(h:Rd w A (dZ l)){k:Nat}{x:Int}(hx:l[k]?=some x):∃b o:Nat,A=some (aD b o)/\b<w.heap.size/\w.cell? (aD b (o+k))=some (vI x):=by
 have hk:=(yH.1 hx).1;obtain⟨b,o,e,hb,hc⟩:=h.at_ (i:=k) (by unfold dZ;simpa using hk);refine⟨b,o,e,hb,?_⟩;rw[hc k (by unfold dZ;simpa using hk)];unfold dZ;rw[yW,hx];rfl
end Go.Proofs.YtfeeacaofjpkaaaGreatDoor
namespace Go.Proofs.YtfeeacaofjpkaaaGreatDoor
open Go.Proofs.Tryz
namespace Sx
open Go.Lib
def rS(l:List UInt8):Nat:=l.foldl (fun n c=>10*n+(c.toNat-48)) 0
def rT{n:Nat}(h:n<256):(UInt8.ofNat n).toNat=n:=by
 rw[UInt8.toNat_ofNat'];omega
def rU(u:Nat):rS (decDigits u)=u:=by
 (induction u using Nat.strongRecOn with|_ u ih=>by_cases h:u<10;{rw[decDigits,dif_pos h];show 10*0+((UInt8.ofNat (48+u)).toNat-48)=u;rw[rT qO];omega};have h1:=ih (u/10) qO;rw[decDigits,dif_neg h];unfold rS at h1⊢;rw[Jq,h1];show 10*(u/10)+((UInt8.ofNat (48+u%10)).toNat-48)=u;rw[rT qO];omega)
def nU(u:Nat):∀c∈decDigits u,48<=c.toNat:=by
 (induction u using Nat.strongRecOn with|_ u ih=>intro c hc;rw[decDigits]at hc;by_cases h:u<10;{rw[dif_pos h]at hc;rw[xD.1 hc,rT qO];omega};(rw[dif_neg h]at hc;rcases xY.1 hc with h1|h1);{exact ih (u/10) qO c h1};rw[xD.1 h1,rT qO];omega)
def rX(n:Int):∀c∈itoa n,c≠32:=by
 have qa:∀u,∀c∈decDigits u,c≠32:=fun u c hc e=>(by have:=nU u c hc;rw[e]at this;exact absurd this qD);intro c hc;unfold itoa at hc;split at hc;{(rcases xZ.1 hc with rfl|h);{decide};exact qa _ c h};exact qa _ c hc
def jze2{a b:Int}(h:itoa a=itoa b):a=b:=by
 have no:∀(u v:Nat),(45:UInt8)::decDigits u≠decDigits v:=fun u v e=>(by have:=nU v 45 (by rw[<-e];simp);exact absurd this qD);unfold itoa at h;by_cases ha:a<0;{rw[qE ha]at h;by_cases hb:b<0;{rw[qE hb]at h;have h1:=congrArg rS (List.cons.inj h).2;rw[rU,rU]at h1;omega};rw[qF hb]at h;exact absurd h (no _ _)};rw[qF ha]at h;by_cases hb:b<0;{rw[qE hb]at h;exact absurd h.symm (no _ _)};rw[qF hb]at h;have h1:=congrArg rS h;rw[rU,rU]at h1;omega
def fL(l:List Int):List UInt8:=l.flatMap fun a=>32::itoa a
def su(d:Int)(l:List Int):List UInt8:=itoa d++fL l
def jzn:∀{x y:List UInt8} {u v:List UInt8},(∀c∈x,c≠32)->(∀c∈y,c≠32)->(u=[]\/∃u',u=32::u')->(v=[]\/∃v',v=32::v')->x++u=y++v->x=y/\u=v
 | [],[],u,v,_,_,_,_,h=>⟨rfl,h⟩
 | [],b::y,u,v,_,hy,hu,_,h=>by
   have h:u=b::(y++v):=h;rcases hu with e|⟨u',e⟩
   ·rw[e]at h;cases h
   ·rw[e]at h
    exact absurd (List.cons.inj h).1.symm (hy b qS)
 |a::x,[],u,v,hx,_,_,hv,h=>by
  have h:a::(x++u)=v:=h;rcases hv with e|⟨v',e⟩
  ·rw[e]at h;cases h
  ·rw[e]at h
   exact absurd (List.cons.inj h).1 (hx a qS)
 |a::x,b::y,u,v,hx,hy,hu,hv,h=>by
  have h:a::(x++u)=b::(y++v):=h;obtain⟨h1,h2⟩:=List.cons.inj h;obtain⟨h3,h4⟩:=jzn (fun c hc=>hx c (by simp[hc])) (fun c hc=>hy c (by simp[hc])) hu hv h2;exact⟨by rw[h1,h3],h4⟩
def rY(l:List Int):fL l=[]\/∃u,fL l=32::u:=by
 (cases l with|nil=>exact .inl rfl|cons a l=>exact .inr ⟨_,rfl⟩)
def jze3:∀{l k:List Int},fL l=fL k->l=k
 | [],[],_=>rfl
 | [],_::_,h=>by cases h
 |_::_,[],h=>by cases h
 |a::l,b::k,h=>by
  have h:(32:UInt8)::(itoa a++fL l)=32::(itoa b++fL k):=h;obtain⟨h1,h2⟩:=jzn (rX a) (rX b) (rY l) (rY k) (List.cons.inj h).2;rw[jze2 h1,jze3 h2]
def jznl{d e:Int}{l k:List Int}(h:su d l=su e k):d=e/\l=k:=by
 obtain⟨h1,h2⟩:=jzn (rX d) (rX e) (rY l) (rY k) h;exact⟨jze2 h1,jze3 h2⟩
end Sx
end Go.Proofs.YtfeeacaofjpkaaaGreatDoor
namespace Go.Proofs.YtfeeacaofjpkaaaGreatDoor
open Go.Proofs.Tryz
open Go.RowKit Go.Lib Sx
def jznm(B b:Nat)(bs:List Value)(c:Int)w(h:Lib.IsBuilder 180 5 B b bs w)(hlen:bs.length+1<=140737488355328)(hBw:B<=w.heap.size):
  Calls prog 112 #[.pointer (sA b),.int .u8 c] w fun e w'=>e=.returned .nilIface/\(Lib.BuilderAt 180 5 B b (.pointer (sA b)) (bs++[.int .u8 c]) w'/\Below B w w'):=by
 go_enter func112,ntmps112;go_wp2_with fail;refine(jzbt B b bs _ h).mono ?_;rintro e w1 ⟨rfl,h1,qj⟩;obtain⟨hB,v,qg,qe,qn⟩:=h1;have c0:w1.cell? (aD b 0)=some (.pointer (sA b)):=(by rw[Lib.cell_of_heap qg];rfl);have c1:w1.cell? (aD b 1)=some v:=(by rw[Lib.cell_of_heap qg];rfl);have qk:b<w1.heap.size:=(by (rcases Bc b w1.heap.size with h'|h');{exact h'};simp[Fx h']at qg);have qm:B<=w1.heap.size:=yY hBw qj.size;(go_wp2_with (at_builtin;refine kS _ 178 5 _ 1 1 rfl _ _ rfl underlying178 jzbs rfl qD B v bs.length bs rfl (qe.kept (eU ((eR w1).alloc (.cells #[.int .u8 c] 5))) (eV _)) [.int .u8 c] rfl (by simp[Value.oneCell']) w1.heap.size rfl (eN w1 5 #[.int .u8 c]) (by unfold maxLen;omega) qO (by simp;omega) ?_));intro g9 c9 w2 qf qa _;have qo:(w1.alloc (.cells #[.int .u8 c] 5)).heap[b]?=some (.cells #[.pointer (sA b),v] 180 (0,0)):=(Lib.alloc_old w1 _ b qk).trans qg;have qi:b<(w1.alloc (.cells #[.int .u8 c] 5)).heap.size:=(by simp;omega);have qh:w2.heap[b]?=some (.cells #[.pointer (sA b),v] 180 (0,0)):=(by rw[qa.block b qi (fun e=>qn e.symm)];exact qo);have d0:w2.cell? (aD b 0)=some (.pointer (sA b)):=(by rw[Lib.cell_of_heap qh];rfl);have d1:w2.cell? (aD b 1)=some v:=(by rw[Lib.cell_of_heap qh];rfl);have f1:w2.frozen? (aD b 1)=false:=Lib.frozen_of_heap qh 1;go_wp2;go_ret;refine⟨rfl,?_,?_⟩;{exact Lib.BuilderAt.put (T:=180) (e:=5) hB qh (bs':=bs++[.int .u8 c]) (by simpa using qf) qD};exact((qj.alloc qm _).grown qa (by simp;omega) (fun k hk=>(qe.lt k hk).1)).setCell (p:=(aD b 1)) hB _
def jze4(r:Int)w(ht:Tab w)(hr:i64 r):
  Calls prog 111 #[vI r] w fun e w'=>e=.returned (.string ⟨(Lib.itoa r).toArray⟩)/\Ext w w':=by
 unfold i64 at hr;refine(Tryz.strconv_Itoa r qO qO w ht).mono ?_;rintro e w' ⟨rfl,k,os,rfl⟩;exact⟨rfl,jzbu _ _ _⟩
def jznn(r:Nat)(h:r<10000000000000000000):(Lib.decDigits r).length<=19:=by
 rw[Lib.decDigits_length];have h1:=av.CB 18 r (by simp;omega);have h2:∀k r,(av.CZ k r).length=k:=fun k=>(by (induction k with|zero=>intro r;rfl|succ k ih=>intro r;rw[av.CZ,yQ,ih];rfl));have h3:=congrArg List.length h1;rw[h2,yQ,xC,Lib.decDigits_length]at h3;omega
def rZ(r:Int)(hr:i64 r):(Lib.itoa r).length<=20:=by
 unfold i64 at hr;unfold Lib.itoa;have h1:∀n:Nat,n<=9223372036854775808->(Lib.decDigits n).length<=19:=fun n hn=>(by exact jznn n qO);split;{rw[Dw];have:=h1 r.natAbs qO;omega};have:=h1 r.toNat qO;omega
def jzo(d:Int)(l:List Int)(hd:i64 d)(hl:∀a∈l,i64 a):(su d l).length<=20+21*l.length:=by
 have qa:∀l:List Int,(∀a∈l,i64 a)->(fL l).length<=21*l.length:=fun l=>(by (induction l with|nil=>intro _;exact yX _|cons a l ih=>intro h;have h1:=ih fun b hb=>h b (xO _ hb);have h2:=rZ a (h a qS);have e:fL (a::l)=(32::Lib.itoa a)++fL l:=(by unfold fL;rw[xU]);rw[e,yQ,Dw,Dw];omega));unfold su;rw[yQ];have h1:=qa l hl;have h2:=rZ d hd;omega
def jzno(d:Int)(l:List Int)(a:Int):su d (l++[a])=su d l++[32]++Lib.itoa a:=by
 unfold su fL;rw[List.flatMap_append];simp
def jze5(d:Int)(l:List Int)A(n c:Nat)(hn:l.length=n)(neg:Bool)A1(n1 c1:Nat)A2(n2 c2:Nat)w(ht:Tab w)(hr:Rd w A (dZ l))(hll:n<=1000000)(hd:i64 d)(hi:∀a∈l,i64 a):
  Calls prog 50 #[.agg #[vI d,.s A n c,.bool neg,.s A1 n1 c1,.s A2 n2 c2]] w fun e w'=>e=.returned (.string ⟨(su d l).toArray⟩)/\Ext w w':=by
 have HT:=Hx ht;have HR:=Hx hr;have HI:=Hx (ah hd hi);clear ht hr hd hi;obtain⟨qf,e0⟩:=aU w #[vI d,.s A n c,.bool neg,.s A1 n1 c1,.s A2 n2 c2] 98;have i0:=qf.cell 0;have i1:=qf.cell 1;have E0:=Hx (ah qf e0);have qm:(w.alloc (.cells #[vI d,.s A n c,.bool neg,.s A1 n1 c1,.s A2 n2 c2] 98)).heap.size=w.heap.size+1:=qS;have BD:Hid (Lib.IsBuilder 180 5 (w.alloc (.cells #[vI d,.s A n c,.bool neg,.s A1 n1 c1,.s A2 n2 c2] 98)).heap.size (w.alloc (.cells #[vI d,.s A n c,.bool neg,.s A1 n1 c1,.s A2 n2 c2] 98)).heap.size [] ((w.alloc (.cells #[vI d,.s A n c,.bool neg,.s A1 n1 c1,.s A2 n2 c2] 98)).alloc (.cells #[.pointer none,zN] 180))):=Hx (Lib.fresh_isBuilder _ _ _);have X0:=Hx ((eR (w.alloc (.cells #[vI d,.s A n c,.bool neg,.s A1 n1 c1,.s A2 n2 c2] 98))).alloc (.cells #[.pointer none,zN] 180));clear qf e0;go_enter func50,ntmps50;(go_upto_region 2 with fail);rw[<-qm];generalize w.alloc (.cells #[vI d,.s A n c,.bool neg,.s A1 n1 c1,.s A2 n2 c2] 98)=W0 at*;have qh:w.heap.size<W0.heap.size:=E0.o.1.lt;clear qm;have i0:=aS i0 (.cells #[.pointer none,zN] 180);(go_wp2_with fail);refine(jze4 d _ ((HT.o.K E0.o.2).K X0.o) HI.o.1).mono ?_;rintro e w1 ⟨rfl,qe⟩;have B1:Hid (Lib.IsBuilder 180 5 W0.heap.size W0.heap.size [] w1):=Hx (by (rcases BD.o with⟨h1,v,h2,h3,h4⟩|⟨h1,v,h2,h3,h4⟩);{exact .inl ⟨h1,v,(qe.block _ qS).trans h2,h3.kept (eU qe) (eV _),h4⟩};exact .inr ⟨h1,v,(qe.block _ qS).trans h2,h3.kept (eU qe) (eV _),h4⟩);(have X1:=Hx (X0.o.tr qe);clear qe BD X0;have qg:=rZ d HI.o.1;have e9:(⟨(Lib.itoa d).toArray⟩:ByteArray).size=(Lib.itoa d).length:=by show(Lib.itoa d).toArray.size=_;simp);(go_wp2_with fail);refine(uE W0.heap.size W0.heap.size [] ⟨(Lib.itoa d).toArray⟩ _ B1.o (by rw[e9];simp;omega) X1.o.size).mono ?_;rintro e w2 ⟨rfl,qp,qj⟩;have B2:Hid (Lib.IsBuilder 180 5 W0.heap.size W0.heap.size (Lib.byteCells (su d (l.take 0))) w2):=Hx (.inr (by have e:su d (l.take 0)=Lib.itoa d:=(by unfold su fL;simp);rw[e];exact qp));have L2:Hid (Below W0.heap.size W0 w2):=Hx (Below.trans X1.o qj);clear qp qj B1 X1 qg e9;have i1:=(L2.o.cell (p:=(aD w.heap.size 1)) qh).trans i1;go_wp2;go_loopg [13] n (fun q it wx=>∃m:Nat,n-m=q/\m<=n/\it=vI (m:Int)/\Hid (Lib.IsBuilder 180 5 W0.heap.size W0.heap.size (Lib.byteCells (su d (l.take m))) wx/\Below W0.heap.size W0 wx));(case atStart=>exact⟨0,rfl,yZ _,rfl,Hx ⟨B2.o,L2.o⟩⟩);obtain⟨m,rfl,hm,rfl,I⟩:=hrel;clear B2 L2 i0 i1;by_cases qx:m<n;{obtain⟨a,ha⟩:∃a,l[m]?=some a:=⟨_,yG qO⟩;have HA:Hid (i64 a):=Hx (HI.o.2 a (yJ ha));have NX:=Hx (show su d (l.take (m+1))=su d (l.take m)++[32]++Lib.itoa a by rw[Dj,ha];exact jzno d _ a);obtain⟨b,o,rfl,hb,ca⟩:=((HR.o.K E0.o.2).K I.o.2).Lh ha;have qk:Hid ((su d (l.take m)).length<=20+21*n):=Hx (yY (jzo d _ HI.o.1 fun a h=>HI.o.2 a (xM h)) (by rw[xF];omega));have nN:(m:Int)<(n:Int):=qO;have n0:(0:Int)<=(m:Int):=qO;clear ha;(go_wp2_with fail);refine(jznm W0.heap.size W0.heap.size _ 32 _ I.o.1 (by rw[Lib.byteCells_length];have:=qk.o;omega) I.o.2.size).mono ?_;rintro e w3 ⟨rfl,qw,qi⟩;have B3:Hid (Lib.IsBuilder 180 5 W0.heap.size W0.heap.size (Lib.byteCells (su d (l.take m)++[32])) w3):=Hx (.inr (by rw[Lib.byteCells_append];exact qw));have L3:=Hx (I.o.2.trans qi);clear qw qi ca;(go_wp2_with fail);refine(jze4 a _ ((HT.o.K E0.o.2).K L3.o) HA.o).mono ?_;rintro e w4 ⟨rfl,qa⟩;have B4:Hid (Lib.IsBuilder 180 5 W0.heap.size W0.heap.size (Lib.byteCells (su d (l.take m)++[32])) w4):=Hx (by (rcases B3.o with h|h);{have hl:=h.lt;obtain⟨h1,v,h2,h3,h4⟩:=h;exact .inl ⟨h1,v,(qa.block _ hl).trans h2,h3.kept (eU qa) (eV _),h4⟩};have hl:=h.lt;obtain⟨h1,v,h2,h3,h4⟩:=h;exact .inr ⟨h1,v,(qa.block _ hl).trans h2,h3.kept (eU qa) (eV _),h4⟩);(have L4:Hid (Below W0.heap.size W0 w4):=Hx (Ext.tr (show Ext W0 w3 from L3.o) qa);clear qa B3 L3;have qg:=rZ a HA.o;have e9:(⟨(Lib.itoa a).toArray⟩:ByteArray).size=(Lib.itoa a).length:=by show(Lib.itoa a).toArray.size=_;simp);(go_wp2_with fail);refine(uE W0.heap.size W0.heap.size _ ⟨(Lib.itoa a).toArray⟩ _ B4.o (by rw[Lib.byteCells_length,yQ,e9];have:=qk.o;simp;omega) L4.o.size).mono ?_;rintro e w5 ⟨rfl,qn,qo⟩;have B5:Hid (Lib.IsBuilder 180 5 W0.heap.size W0.heap.size (Lib.byteCells (su d (l.take (m+1)))) w5):=Hx (.inr (by rw[NX.o,Lib.byteCells_append];exact qn));have L5:=Hx (L4.o.trans qo);clear qn qo qg e9;go_wp2;go_roundg (n-(m+1));(case measure=>omega);exact⟨m+1,rfl,qO,by go_num,Hx ⟨B5.o,L5.o⟩⟩};obtain rfl:m=n:=qO;rw[yU qO]at I;(go_wp2_with fail);refine(Tryz.Builder_String_any W0.heap.size W0.heap.size _ _ I.o.1 I.o.2.size).mono ?_;rintro e w9 ⟨rfl,qt⟩;have HE:Hid (Ext w w9):=Hx (E0.o.2.tr (I.o.2.trans qt));clear qt;go_wp2;go_ret;exact⟨rfl,HE.o⟩
def dE(p:Nat×LN):List UInt8:=su (p.1:Int) (p.2.map fun a:Nat=>(a:Int))
def jze6{p q:Nat×LN}(h:dE p=dE q):p=q:=by
 obtain⟨h1,h2⟩:=jznl h;have e1:p.1=q.1:=qO;have e2:p.2=q.2:=(by have:=congrArg (List.map Int.toNat) h2;simpa [List.map_map,Function.comp_def]using this);exact Prod.ext e1 e2
def jze7(p:Nat×LN)(P:List (Nat×LN)):dE p∈P.map dE↔p∈P:=by
 constructor;{intro h;obtain⟨q,hq,e⟩:=Bv.1 h;rw[<-jze6 e];exact hq};exact fun h=>Bv.2 ⟨p,h,rfl⟩
end Go.Proofs.YtfeeacaofjpkaaaGreatDoor
namespace Go.Proofs.YtfeeacaofjpkaaaGreatDoor
open Go.Proofs.Tryz
open Go.RowKit
def jzp{α:Type}(f:α->List Value)(m:Nat)(hf:∀x,(f x).length=m):∀(l:List α) (i k:Nat) {x:α},l[i]?=some x->k<m->(l.flatMap f)[i*m+k]?=(f x)[k]?
 | [],i,k,x,h,_=>by simp at h
 |y::l,0,k,x,h,hk=>by
  injection h with h
  subst h;rw[xU,Nat.zero_mul,CU,yR (by rw[hf];exact hk)]
 |y::l,i+1,k,x,h,hk=>by
  rw[xU,yS (by rw[hf,xP,xQ];omega),hf,show(i+1)*m+k-m=i*m+k by rw[xP,xQ];omega];exact jzp f m hf l i k (by simpa using h) hk
def jzq{α:Type}(f:α->List Value)(m:Nat)(hf:∀x,(f x).length=m)(l:List α):(l.flatMap f).length=l.length*m:=by
 (induction l with|nil=>simp|cons y l ih=>rw[xU,yQ,ih,hf,Dw,xP,xQ];omega)
structure CK(w:World)(l:List Dm)(A:OA)(c:Nat):Prop where
 len:l.length<=c
 cap:l.length<=281474976710656
 rd:Rd w A (l.flatMap Dm.cells)
 wf:∀d∈l,d.wf
def CK.K{w w'}{l:List Dm}{A}{c:Nat}(h:CK w l A c)(hx:Ext w w'):CK w' l A c:=⟨h.len,h.cap,h.rd.K hx,h.wf⟩
def CK.at_{w}{l:List Dm}{A}{c:Nat}(h:CK w l A c){i:Nat}{d:Dm}(hl:l[i]?=some d):
  ∃b o:Nat,A=some (aD b o)/\b<w.heap.size/\w.C b (o+i*4) (vI d.src)/\w.C b (o+i*4+1) (vI d.dst)/\w.C b (o+i*4+2) (vI d.amount)/\w.cell? (aD b (o+i*4+3))=some (vI d.prio):=by
 have hi:=(yH.1 hl).1;have qa:=jzq Dm.cells 4 (fun _=>rfl) l;obtain⟨b,o,e,hb,hc⟩:=h.rd.at_ (i:=i*4) (by rw[qa];omega);have qe:∀k,k<4->w.cell? (aD b (o+(i*4+k)))=(Dm.cells d)[k]?:=fun k hk=>(by rw[hc (i*4+k) (by rw[qa];omega)];exact jzp Dm.cells 4 (fun _=>rfl) l i k hl hk);exact⟨b,o,e,hb,qe 0 qO,qe 1 qO,qe 2 qO,qe 3 qO⟩
def dK(N:Int)(l:List Dm):Bool:=kg N 0 64&&decide (l.length<=64)&&l.all (Dm.ok N)
def dQ(t:Tp)(l:List Dm):Bool:=aG t&&decide (0<l.length)&&dK t.nodes l
def mT{t}{l:List Dm}(hl:l.length<=64):dQ t l=true↔Fit t l:=by
 constructor;{intro h;unfold dQ dK at h;rw[vM,vM,vM,xW]at h;exact⟨h.1.1,by simpa using h.1.2,h.2.2⟩};intro h;have hn:kg t.nodes 0 64=true:=(by have:=h.v;unfold aG cF kg at this;unfold kg;simp at this⊢;omega);unfold dQ dK;rw[h.v,hn,yO h.n,yO hl,xW.2 h.ok];rfl
def mU(n lo hi:Int)w:Calls prog 135 #[vI n,vI lo,vI hi] w fun e w'=>e=.returned (.bool (kg n lo hi))/\w=w':=by
 have hd:kg n lo hi=(decide (lo<=n)&&decide (n<=hi)):=(by unfold kg;simp);rw[hd];clear hd;by_cases h1:lo<=n;{(have qa:decide (lo<=n)=true:=by simpa using h1);rw[qa];go_enter func135,ntmps135;go_wp2;go_ret;exact⟨qS,rfl⟩};have qa:decide (lo<=n)=false:=(by simpa using h1);rw[qa];go_enter func135,ntmps135;go_wp2;go_ret;exact⟨qS,rfl⟩
def gN{l:List Dm}{N:Int}{k:Nat}{d:Dm}(hl:l[k]?=some d)(hb:d.ok N=false):l.all (Dm.ok N)=false:=by
 obtain⟨hk,he⟩:=yH.1 hl;rw[List.all_eq_false];exact⟨d,by rw[<-he];exact xR hk,by simp[hb]⟩
def jze8{l:List Dm}{N:Int}(h:∀(j:Nat) (d:Dm),l[j]?=some d->d.ok N=true):l.all (Dm.ok N)=true:=by
 rw[xW];intro d hd;obtain⟨j,hj,rfl⟩:=List.mem_iff_getElem.1 hd;exact h j _ (yG hj)
def jznp(N:Int)A(c:Nat)(l:List Dm)w(hd:CK w l A c):
  Calls prog 70 #[vI N,.s A l.length c] w fun e w'=>e=.returned (.bool (dK N l))/\Ext w w':=by
 have HD:=Hx hd;have qj:=hd.len;have qg:=hd.cap;clear hd;cases k1:kg N 0 64
 ·have HR:=Hx (show dK N l=false by unfold dK;rw[k1];rfl)
  go_enter func70,ntmps70
  go_wp2_with (go_at_call 135;refine(mU _ _ _ _).mono ?_;rintro e w' ⟨rfl,rfl⟩)
  go_ret;rw[HR.o];exact⟨rfl,eR _⟩
 by_cases k2:l.length<=64
 case neg=>
  have qh:64<l.length:=qO;have HR:=Hx (show dK N l=false by unfold dK;rw[yP k2];simp)
  go_enter func70,ntmps70
  go_wp2_with (go_at_call 135;refine(mU _ _ _ _).mono ?_;rintro e w' ⟨rfl,rfl⟩)
  go_ret;rw[HR.o];exact⟨rfl,eR _⟩
 have HR:=Hx (show dK N l=l.all (Dm.ok N) by unfold dK;rw[k1,yO k2];rfl);have hN:0<=N/\N<=64:=(by unfold kg at k1;simpa using k1);obtain⟨qi,qf⟩:=hN
 go_enter func70,ntmps70
 go_wp2_with (go_at_call 135;refine(mU _ _ _ _).mono ?_;rintro e w' ⟨rfl,rfl⟩)
 clear k1
 go_loopg [17] l.length (fun q it wx=>∃n:Nat,l.length-n=q/\n<=l.length/\it=vI (n:Int)/\Hid ((∀j d,j<n->l[j]?=some d->d.ok N=true)/\Ext w wx))
 case atStart=>exact⟨0,rfl,yZ _,rfl,Hx ⟨fun j d h=>qO,eR _⟩⟩
 obtain⟨n,rfl,hn,rfl,I⟩:=hrel;by_cases qe:n<l.length
 ·obtain⟨d,hd⟩:∃d,l[n]?=some d:=⟨_,yG qe⟩
  have HL:=Hx hd;obtain⟨b,o,rfl,hb,c0,c1,c2,c3⟩:=(HD.o.K I.o.2).at_ hd;have nN:(n:Int)<(l.length:Int):=qO;have n0:(0:Int)<=(n:Int):=qO;have X9:=Hx (I.o.2.alloc (.cells #[vI d.src,vI d.dst,vI d.amount,vI d.prio] 60));have qa:((d.src==d.dst)=true/\d.ok N=false)\/((d.src==d.dst)=false/\kg d.src 0 (N-1)=false/\d.ok N=false)\/((d.src==d.dst)=false/\kg d.src 0 (N-1)=true/\kg d.dst 0 (N-1)=false/\d.ok N=false)\/
    ((d.src==d.dst)=false/\kg d.src 0 (N-1)=true/\kg d.dst 0 (N-1)=true/\kg d.amount 1 1048576=false/\d.ok N=false)\/
    ((d.src==d.dst)=false/\kg d.src 0 (N-1)=true/\kg d.dst 0 (N-1)=true/\kg d.amount 1 1048576=true/\kg d.prio 0 7=d.ok N):=by
   unfold Dm.ok;cases d.src==d.dst <;> cases kg d.src 0 (N-1) <;> cases kg d.dst 0 (N-1) <;> cases kg d.amount 1 1048576 <;> simp
  clear hd;rcases qa with⟨d1,hf⟩|⟨d1,d2,hf⟩|⟨d1,d2,d3,hf⟩|⟨d1,d2,d3,d4,hf⟩|⟨d1,d2,d3,d4,d5⟩
  case inr.inr.inr.inr=>
   cases hg:kg d.prio 0 7
   ·have HF:=Hx (gN HL.o (d5.symm.trans hg))
    clear d5
    go_wp2_with (go_at_call 135;refine(mU _ _ _ _).mono ?_;rintro e w' ⟨rfl,rfl⟩)
    go_ret;rw[HR.o,HF.o];exact⟨rfl,X9.o⟩
   have OK:=Hx (d5.symm.trans hg);clear d5
   go_wp2_with (go_at_call 135;refine(mU _ _ _ _).mono ?_;rintro e w' ⟨rfl,rfl⟩)
   go_roundg (l.length-(n+1))
   case measure=>omega
   case rel=>exact⟨n+1,rfl,qO,by go_num,Hx ⟨fun j d' hj hd'=>by
    by_cases e:j=n
    ·subst e;have:=HL.o;rw[this]at hd';injection hd' with hd';subst hd';exact OK.o
    exact I.o.1 j d' qO hd',X9.o⟩⟩
  all_goals
   have HF:=Hx (gN HL.o hf);clear hf
   go_wp2_with (go_at_call 135;refine(mU _ _ _ _).mono ?_;rintro e w' ⟨rfl,rfl⟩)
   go_ret;rw[HR.o,HF.o];exact⟨rfl,X9.o⟩
 obtain rfl:n=l.length:=qO;have HF:=Hx (jze8 (l:=l) (N:=N) (fun j d hj=>I.o.1 j d (yH.1 hj).1 hj));go_wp2;go_ret;rw[HR.o,HF.o];exact⟨rfl,I.o.2⟩
def jze9 t AO(co:Nat)AL(cl:Nat)(l:List Dm)A(c:Nat)w(ht:aR w t AO co AL cl)(hd:CK w l A c):
  Calls prog 26 #[.agg #[vI t.nodes,.s AO t.over.length co,.s AL t.links.length cl],.s A l.length c] w fun e w'=>e=.returned (.bool (dQ t l))/\Ext w w':=by
 have HT:=Hx (ah ht hd);clear ht hd;obtain⟨qa,e0⟩:=aU w #[vI t.nodes,.s AO t.over.length co,.s AL t.links.length cl] 25;have BA:=Hx (ah qa e0);obtain⟨⟨i0,i1,i2⟩,_⟩:=qa.t3;clear qa e0;go_enter func26,ntmps26;go_wp2_with fail;refine(pJ t AO co AL cl _ (HT.o.1.K BA.o.2)).r fun w1 qe=>?_;have E1:=Hx (ah (BA.o.1.K qe) (BA.o.2.tr qe));clear qe i0 i1 i2;obtain⟨⟨i0,i1,i2⟩,_⟩:=E1.o.1.t3;cases hv:aG t;{have HR:=Hx (show dQ t l=false by unfold dQ;rw[hv];rfl);go_wp2_with fail;go_ret;rw[HR.o];exact⟨rfl,E1.o.2⟩};by_cases hl:0<l.length;{have HR:=Hx (show dQ t l=dK t.nodes l by unfold dQ;rw[hv,yO hl];rfl);have qg:decide ((0:Int)<(l.length:Int))=true:=yO qO;go_wp2_with fail;refine(jznp t.nodes A c l _ (HT.o.2.K E1.o.2)).r fun w2 qf=>?_;have E2:=Hx (E1.o.2.tr qf);clear qf;go_wp2_with fail;go_ret;rw[HR.o];exact⟨rfl,E2.o⟩};have HR:=Hx (show dQ t l=false by unfold dQ;rw[yP hl];simp);have qg:decide ((0:Int)<(l.length:Int))=false:=yP qO;go_wp2_with fail;go_ret;rw[HR.o];exact⟨rfl,E1.o.2⟩
section
variable {w w7:World} {B:Nat} {L:aQ} {T:Sx.Tb}
def jzr(T:Sx.Tb)(l:LN):Sx.Tb:=⟨T.rows,T.bn,l,T.goal,T.iq⟩
def aH.Jf(h:aH w B L T){g7 c7 num:Nat}(IQ:w7.ownsRow B 3 1 (.s (sA g7) (T.ay.length+1) c7) (T.ay.length+1) (ints T.ay++[vI (num:Int)]))(grow:w.grownBy w7 L.vf.ownBlock)(new7:some g7=L.vf.ownBlock\/w.heap.size<=g7):
  aH (w7.setCell (aD L.p 2) (.s (sA g7) (T.ay.length+1) c7)) B (L.Jz (.s (sA g7) (T.ay.length+1) c7)) (jzr T (T.ay++[num]))/\
   fu L.S w (w7.setCell (aD L.p 2) (.s (sA g7) (T.ay.length+1) c7)):=by
 have k7:fu (fun b=>L.vf.ownBlock=some b) w w7:=eG grow fun g e=>e;have n7:oh (fun b=>L.vf.ownBlock=some b) w 196:=fun b hb=>bQ h.ay hb qD;have qe:∀{b:Nat} {t:TypeId} {cs:Array Value},ak w b t cs->3≠t->¬L.vf.ownBlock=some b:=fun hb ht e=>bQ h.ay e ht _ _ hb;obtain⟨gs,h1,h2⟩:=h.box;have qg:=k7.blk h2 (qe h2 qD);have k8:fu (fun b=>b=L.p) w7 (w7.setCell (aD L.p 2) (.s (sA g7) (T.ay.length+1) c7)):=eG (aM w7 L.p 2 _) fun g e=>(by injection e with e;exact e.symm);have n8:oh (fun b=>b=L.p) w7 196:=oh.one qg qD;have qa:∀{b:Nat} {t:TypeId} {cs:Array Value},ak w7 b t cs->t≠147->¬b=L.p:=fun hb ht e=>(by rw[e]at hb;exact ht (bI hb qg).2);have qh:∀{t:TypeId} {v:Value} {n s:Nat} {xs:List Value},w.ownsRow B t s v n xs->3≠t->t≠147->(w7.setCell (aD L.p 2) (.s (sA g7) (T.ay.length+1) c7)).ownsRow B t s v n xs:=fun ho ht ht2=>(by have qf:=k7.own ho fun b hb=>(by obtain⟨c,hc⟩:=aT ho hb;exact qe hc ht);exact k8.own qf fun b hb=>(by obtain⟨c,hc⟩:=aT qf hb;exact qa hc ht2));have qj:∀{v:Value} {qs:LQ},OQ QR 33 w B v qs->OQ QR 33 (w7.setCell (aD L.p 2) (.s (sA g7) (T.ay.length+1) c7)) B v qs:=fun {v qs} ho=>(by obtain⟨xs,hx⟩:=ho.own;have qf:=k7.oq n7 ho fun b hb=>(by obtain⟨c,hc⟩:=aT hx hb;exact qe hc qD);obtain⟨qp,qo⟩:=qf.own;exact k8.oq n8 qf fun b hb=>(by obtain⟨c,hc⟩:=aT qo hb;exact qa hc qD));obtain⟨n0,A0,m0,d0,qm,qn,qk,rfl,rr⟩:=h1;refine⟨⟨h.rl,h.lo,⟨_,⟨n0,A0,m0,d0,qm,qn,qk,rfl,k8.oz n8 (k7.oz n7 rr)⟩,qg.sT 2 _⟩,?_,h.bl,?_,?_,?_,fun i hi=>qj (h.co i hi),qj h.go,h.sep⟩,(k7.mono (S':=L.S) fun b hb=>.inr (.inr (.inr (.inl hb)))).tr k8 fun b hb=>.inl (.inl hb)⟩;{obtain⟨css,h1,h3,h4,h5⟩:=h.rows;refine⟨css,h1,h3,qh h4 qD qD,fun i hi=>?_⟩;obtain⟨c,h6,h7⟩:=h5 i hi;exact⟨c,h6,k8.Gc n8 (k7.Gc n7 h7)⟩};{have qi:=k7.own h.bn fun b hb e=>(by (rcases h.bf with h9|h9);{rw[h9]at hb;cases hb};exact h9 (hb.trans e.symm));exact k8.own qi fun b hb=>(by obtain⟨c,hc⟩:=aT qi hb;exact qa hc qD)};{show(w7.setCell _ _).ownsRow B 3 1 _ (T.ay++[num]).length (ints (T.ay++[num]));rw[gU,yQ];exact k8.own IQ fun b hb=>(by obtain⟨c,hc⟩:=aT IQ hb;exact qa hc qD)};(show L.vb.ownBlock=none\/L.vb.ownBlock≠some g7;rcases new7 with e|e);{rw[e];exact h.bf};refine .inr fun e2=>?_;have:=(h.bn.lt g7 e2).2;omega
end
def Ip(w:World)(PT:OA)(ts:List (Nat×Rat)):Prop:=
 ∃css:List (List Value),css.length=ts.length/\(∀cs∈css,cs.length=4)/\og w 128 PT css.flatten/\∀(i:Nat) (t:Nat×Rat),ts[i]?=some t->∃cs,css[i]?=some cs/\∃(neg:Bool) (A:OA) (n c:Nat) (A':OA) (n' c':Nat),cs=[vI (t.1:Int),.bool neg,.s A n c,.s A' n' c']/\aC w neg A n c A' n' c' t.2
def Ip.K{w w'}{PT}{ts:List (Nat×Rat)}(h:Ip w PT ts)(hx:Ext w w'):Ip w' PT ts:=by
 obtain⟨css,h1,h2,h3,h4⟩:=h;refine⟨css,h1,h2,h3.K hx,fun i t ht=>?_⟩;obtain⟨cs,k1,neg,A,n,c,A',n',c',k2,k3⟩:=h4 i t ht;exact⟨cs,k1,neg,A,n,c,A',n',c',k2,k3.K hx⟩
def Ip.fr{S:Nat->Prop}{w w'}{PT}{ts:List (Nat×Rat)}(h:Ip w PT ts)(k:fu S w w')(n1:oh S w 128)(n2:oh S w 196):Ip w' PT ts:=by
 obtain⟨css,h1,h2,h3,h4⟩:=h;refine⟨css,h1,h2,k.Bz n1 h3,fun i t ht=>?_⟩;obtain⟨cs,k1,neg,A,n,c,A',n',c',k2,k3⟩:=h4 i t ht;exact⟨cs,k1,neg,A,n,c,A',n',c',k2,k.oz n2 k3⟩
def Ip.at_{w}{PT}{ts:List (Nat×Rat)}(h:Ip w PT ts){i:Nat}{t:Nat×Rat}(ht:ts[i]?=some t):
  ∃(b o:Nat) (neg:Bool) (A:OA) (n c:Nat) (A':OA) (n' c':Nat),PT=some (aD b o)/\b<w.heap.size/\
   (w.C b (o+i*4) (vI (t.1:Int))/\w.C b (o+i*4+1) (.bool neg)/\w.C b (o+i*4+2) (.s A n c)/\w.C b (o+i*4+3) (.s A' n' c'))/\aC w neg A n c A' n' c' t.2:=by
 obtain⟨css,h1,h2,h3,h4⟩:=h;obtain⟨cs,k1,neg,A,n,c,A',n',c',rfl,k3⟩:=h4 i t ht;have hi:=(yH.1 ht).1;have qa:=fR css h2;obtain⟨b,o,e,qf,hc⟩:=h3.rd (by intro e;rw[e]at qa;simp at qa;omega);have qe:∀k,k<4->w.cell? (aD b (o+i*4+k))=([vI (t.1:Int),.bool neg,.s A n c,.s A' n' c']:List Value)[k]?:=fun k hk=>(by rw[JK,hc (i*4+k) (by rw[qa];omega),dV css h2 i k qO hk,k1];rfl);exact⟨b,o,neg,A,n,c,A',n',c',e,qf,⟨qe 0 qO,qe 1 qO,qe 2 qO,qe 3 qO⟩,k3⟩
def mV{w:World}{B n s:Nat}{e:TypeId}{v:Value}{xs:List Value}(h:w.ownsRow B e s v n xs):∃A c,v=.s A n c/\n<=c:=by
 rcases h.2 with⟨h3,h4⟩|⟨g',cap,cur,h3,h4,h5,h6,_⟩
 ·exact⟨none,0,by rw[h3,h4],qO⟩
 exact⟨_,cap,h3,h6⟩
def QB.fr{S:Nat->Prop}{w w'}{g:Nat}{qs:LQ}(h:QB w g qs)(k:fu S w w')(hn:oh S w 196)(hg:¬S g):QB w' g qs:=by
 obtain⟨css,h1,h2,h3,h4⟩:=h;refine⟨css,h1,h2,k.blk h3 hg,fun i q hq=>?_⟩;obtain⟨cs,k1,k2⟩:=h4 i q hq;exact⟨cs,k1,k.qr hn k2⟩
def jznq(m:Nat)(ts:List (Nat×Rat)){n:Nat}{t:Nat×Rat}(h:ts[n]?=some t):aO m (ts.take (n+1))=(aO m (ts.take n)).set t.1 t.2:=by
 unfold aO;rw[Dj,h];show(ts.take n++[t]).foldl _ _=_;rw[Jq];rfl
def sB(T:Sx.Tb)(vals:LQ)(n:Nat):Sx.Ay T vals (n+1)=if Sx.cu T.ay n<vals.length/\Sx.at_ vals (Sx.cu T.ay n)≠0 then Sx.Ay T vals n++[n]else Sx.Ay T vals n:=rfl
def lX(T:Sx.Tb)(vals:LQ):∀(n:Nat),∀j∈Sx.Ay T vals n,j<n/\Sx.cu T.ay j<vals.length
 |0,_,h=>by cases h
 |n+1,j,h=>by
  rw[sB]at h;by_cases hc:Sx.cu T.ay n<vals.length/\Sx.at_ vals (Sx.cu T.ay n)≠0
  ·rw[qE hc]at h
   rcases xY.1 h with h|h
   ·have:=lX T vals n j h
    exact⟨qO,this.2⟩
   ·rw[xD.1 h]
    exact⟨qO,hc.1⟩
  ·rw[qF hc]at h
   have:=lX T vals n j h;exact⟨qO,this.2⟩
def jzfa(T:Sx.Tb)(vals:LQ):∀(n:Nat),(Sx.Ay T vals n).length<=n
 |0=>yX _
 |n+1=>by
  rw[sB];have:=jzfa T vals n
  split
  ·rw[yQ];simp;omega
  ·omega
structure eP(w wx:World)(B:Nat)(L:aQ)(Tc:Sx.Tb)(gt gl:Nat)(nc:Bool)(AC:OA)(lc cc:Nat)(Dk:OA)(Di cc':Nat)(vs:LQ):Prop where
 tab:aH wx B L Tc
 fr:fu L.S w wx
 bt:ak wx gt 80 #[.pointer (sA L.p)]
 bc:ak wx (gt+1) 33 #[.bool nc,.s AC lc cc,.s Dk Di cc']
 bv:ak wx (gl+1) 35 #[.s (sA gl) L.m L.m]
 qb:QB wx gl vs
section
variable {w wx wy:World} {B:Nat} {L:aQ} {Tc:Sx.Tb} {gt gl:Nat} {nc:Bool} {AC:Option Addr} {lc cc:Nat} {Dk:Option Addr} {Di cc':Nat} {vs:List Rat}
def eP.K(h:eP w wx B L Tc gt gl nc AC lc cc Dk Di cc' vs)(hx:Ext wx wy):eP w wy B L Tc gt gl nc AC lc cc Dk Di cc' vs:=
 ⟨h.tab.K hx,h.fr.tr (eE (S:=L.S) hx) fun b hb=>.inl hb,h.bt.K hx,h.bc.K hx,h.bv.K hx,h.qb.K hx⟩
def eP.put(h:eP w wx B L Tc gt gl nc AC lc cc Dk Di cc' vs)(h1:w.heap.size<=gl)(h2:gt+1<gl)(h0:¬L.S gl){x:Nat}(hx:x<vs.length){neg:Bool}{A}{n c:Nat}{A'}{n' c':Nat}{q:Rat}(hq:aC wx neg A n c A' n' c' q):
  eP w (((wx.setCell (aD gl (x*3)) (.bool neg)).setCell (aD gl (x*3+1)) (.s A n c)).setCell (aD gl (x*3+2)) (.s A' n' c')) B L Tc gt gl nc AC lc cc Dk Di cc' (vs.set x q):=by
 have k:fu (fun b=>b=gl) wx (((wx.setCell (aD gl (x*3)) (.bool neg)).setCell (aD gl (x*3+1)) (.s A n c)).setCell (aD gl (x*3+2)) (.s A' n' c')):=eG (dC wx gl (x*3) _ _ _) fun g e=>(by injection e with e;exact e.symm);obtain⟨cs,hb⟩:=h.qb.blk;have qa:oh (fun b=>b=gl) wx 196:=oh.one hb qD;exact⟨h.tab.far k qa fun b hb hs=>h0 (hb▸hs),(h.fr.tr k fun b hb=>.inr (by rw[hb];exact h1)),k.blk h.bt qO,k.blk h.bc qO,k.blk h.bv qO,h.qb.put hx hq⟩
def eP.far{S:Nat->Prop}(h:eP w wx B L Tc gt gl nc AC lc cc Dk Di cc' vs)(k:fu S wx wy)(n32:oh S wx 196)(hs:∀b,S b->w.heap.size<=b/\¬L.S b/\b≠gt/\b≠gt+1/\b≠gl/\b≠gl+1):eP w wy B L Tc gt gl nc AC lc cc Dk Di cc' vs:=
 ⟨h.tab.far k n32 fun b hb=>(hs b hb).2.1,h.fr.tr k fun b hb=>.inr (hs b hb).1,k.blk h.bt fun hb=>(hs _ hb).2.2.1 rfl,k.blk h.bc fun hb=>(hs _ hb).2.2.2.1 rfl,k.blk h.bv fun hb=>(hs _ hb).2.2.2.2.2 rfl,h.qb.fr k n32 fun hb=>(hs _ hb).2.2.2.2.1 rfl⟩
end
structure gQ(wx:World)(B0:Nat)(L:aQ)(gt gl gs:Nat)(vs:LQ)(vS:Value)(js:LN):Prop where
 bt:ak wx gt 80 #[.pointer (sA L.p)]
 bv:ak wx (gl+1) 35 #[.s (sA gl) L.m L.m]
 qb:QB wx gl vs
 sb:ak wx gs 42 #[vS]
 sr:wx.ownsRow B0 3 1 vS js.length (ints js)
def gQ.fr{S:Nat->Prop}{wx wy}{B0:Nat}{L:aQ}{gt gl gs:Nat}{vs:LQ}{vS:Value}{js:LN}(h:gQ wx B0 L gt gl gs vs vS js)(k:fu S wx wy)(n32:oh S wx 196)(hs:∀b,S b->b≠gt/\b≠gl/\b≠gl+1/\b≠gs/\vS.ownBlock≠some b):gQ wy B0 L gt gl gs vs vS js:=
 ⟨k.blk h.bt fun hb=>(hs _ hb).1 rfl,k.blk h.bv fun hb=>(hs _ hb).2.2.1 rfl,h.qb.fr k n32 fun hb=>(hs _ hb).2.1 rfl,k.blk h.sb fun hb=>(hs _ hb).2.2.2.1 rfl,k.own h.sr fun b hb hS=>(hs _ hS).2.2.2.2 hb⟩
structure gR(W6 wx:World)(B:Nat)(L Ln:aQ)(T':Sx.Tb):Prop where
 tab:aH wx B Ln T'
 loc:Ln.p=L.p/\Ln.vr=L.vr/\Ln.vb=L.vb/\Ln.vf=L.vf/\Ln.m=L.m
 far:∀b,Ln.S b->L.S b\/W6.heap.size<=b
 fr:fu L.S W6 wx
def gR.K{W6 wx wy}{B:Nat}{L Ln:aQ}{T':Sx.Tb}(h:gR W6 wx B L Ln T')(hx:Ext wx wy):gR W6 wy B L Ln T':=⟨h.tab.K hx,h.loc,h.far,h.fr.tr (eE (S:=L.S) hx) fun b hb=>.inl hb⟩
def jzfb{W6 wx:World}{L Ln:aQ}{k g' n c':Nat}(far:∀b,Ln.S b->L.S b\/W6.heap.size<=b)(hk:k<=Ln.m)(hw:W6.heap.size<=wx.heap.size)(hg:some g'=(Ln.V k).ownBlock\/wx.heap.size<=g'):∀b,(Ln.Cx k (.s (sA g') n c')).S b->L.S b\/W6.heap.size<=b:=by
 (intro b hb;rcases hb with rfl|hb|hb|hb|⟨i,hi,hb⟩);{exact far _ (.inl rfl)};{exact far _ (.inr (.inl hb))};{exact far _ (.inr (.inr (.inl hb)))};{exact far _ (.inr (.inr (.inr (.inl hb))))};by_cases e:i=k;{subst e;(rw[Ln.uh]at hb;injection hb with hb);(have hb:g'=b:=hb;subst hb;rcases hg with h1|h1);{exact far _ (.inr (.inr (.inr (.inr ⟨i,hk,h1.symm⟩))))};exact .inr (yY hw h1)};rw[Ln.Ab _ e]at hb;exact far _ (.inr (.inr (.inr (.inr ⟨i,hi,hb⟩))))
def jzs{w:World}{B n c:Nat}{e:TypeId}{A}{xs:List Value}(h:w.ownsRow B e 1 (.s A n c) n xs):og w e A xs:=by
 obtain⟨A',c',e1,_,h2⟩:=jzk3 h;injection e1 with e1;rw[e1];exact h2
section
variable {W6 wx:World} {B B0 P gt gl gs:Nat} {L Ln:aQ} {T T':Sx.Tb} {vals:List Rat} {vS:Value} {js:List Nat}
def jzfc(h:aH wx B Ln T')(hf:T'.ay=T.ay)(hp:Ln.p=L.p)(hjs:∀j∈js,j<T.ay.length):∀j∈js,∃gf K cf,wx.C L.p 2 (.s (sA gf) K cf)/\j<K/\wx.cell? (aD gf j)=some (vI (Sx.cu T.ay j:Nat)):=fun j hj=>by
 have qf:=hjs j hj;obtain⟨gf,cf,qe,_⟩:=h.Dl (by rw[hf];omega);obtain⟨cp,qg,_,p0,p1,p2,p7⟩:=h.DV;have qa:=h.ay;rw[qe,hf]at qa;rw[qe,hf]at p2;exact⟨gf,T.ay.length,cf,by rw[<-hp];exact(qg.cell 2).trans p2,qf,gJ qa qf⟩
def jzfd(h:gR W6 wx B L Ln T'){k g:Nat}{t:TypeId}{cs:Array Value}(hk:k<=Ln.m)(hb:ak wx g t cs)(ht:t≠196)(hg:L.S g)(Je:∀b,L.S b->b≠gt/\b≠gl/\b≠gl+1/\b≠gs/\vS.ownBlock≠some b)(hlt:∀b,W6.heap.size<=b->b≠gt/\b≠gl/\b≠gl+1/\b≠gs/\vS.ownBlock≠some b):
  oh (fun x=>x=g\/(Ln.V k).ownBlock=some x) wx 196/\(∀b,(b=g\/(Ln.V k).ownBlock=some b)->L.S b\/W6.heap.size<=b)/\∀b,(b=g\/(Ln.V k).ownBlock=some b)->b≠gt/\b≠gl/\b≠gl+1/\b≠gs/\vS.ownBlock≠some b:=by
 have h2:∀b,(b=g\/(Ln.V k).ownBlock=some b)->L.S b\/W6.heap.size<=b:=fun b hb=>(by (rcases hb with rfl|hb);{exact .inl hg};exact h.far b (.inr (.inr (.inr (.inr ⟨k,hk,hb⟩)))));refine⟨fun b hbb c fr e=>?_,h2,fun b hbb=>?_⟩;{(rcases hbb with rfl|hbb);{exact oh.one hb ht b rfl c fr e};obtain⟨qs,h3⟩:=h.tab.oq hk;obtain⟨xs,h4⟩:=h3.own;exact bQ h4 hbb qD c fr e};(rcases h2 b hbb with h3|h3);{exact Je b h3};exact hlt b h3
def jznr(n g cr:Nat)(h:gR W6 wx B L Ln (dI T vals n))(hb:gQ wx B0 L gt gl gs vals vS js)(hjs:js=Sx.Ay T vals T.ay.length)(hrl:T.rows.length=L.m)(hB:B<=wx.heap.size)
  (Je:∀b,L.S b->b≠gt/\b≠gl/\b≠gl+1/\b≠gs/\vS.ownBlock≠some b) (hlt:∀b,W6.heap.size<=b->b≠gt/\b≠gl/\b≠gl+1/\b≠gs/\vS.ownBlock≠some b)
  (hn:n<L.m) (D7:L.vr=.s (sA g) L.m cr) (hok:Km T) (hsz:Kl T P) (hP1:1<=P) (hP:P<=10000) (hm:L.m<=1000) (hK:T.ay.length<=100000000000) (hvl:vals.length=L.m) (hvz:∀q∈vals,dx q P) (hjl:js.length<=1000):
  Calls prog 136 #[.pointer (some (aD g (n*4))),vI (Sx.cu T.bn n:Nat),.pointer (sA (gl+1)),.pointer (sA gs),.pointer (sA gt)] wx
   fun e w'=>e=.returned (.tuple #[])/\∃L2,gR W6 w' B L L2 (dI T vals (n+1))/\gQ w' B0 L gt gl gs vals vS js:=by
 obtain⟨e1,e2,e3,e4,e5⟩:=h.loc;have qh:n<T.rows.length:=qO;have qg:(dI T vals n).row n=T.row n:=(by rw[jzl8 _ _ _ qh,qF qO]);have qf:Ln.vr=.s (sA g) Ln.m cr:=(by rw[e2,e5];exact D7);have qe:n<Ln.m:=qO;obtain⟨cb,qj,nr,R1,m1,d1,qy,qw,qt,r0,r1,r2,r3,qx⟩:=h.tab.rwa qe qf;have hX:=h.tab.co n qe;rw[qg]at hX;obtain⟨SA,qo,qn,qz⟩:=mV hb.sr;have qm:=hb.sb;have qk:=hb.sr;rw[qn]at qm qk;have qi:∀j∈js,j<T.ay.length/\Sx.cu T.ay j<L.m:=fun j hj=>(by rw[hjs]at hj;have:=lX T vals _ j hj;rw[hvl]at this;exact this);have qp:=hok.cl n qh;have qa:(∃i:Nat,((Sx.cu T.bn n:Nat):Int)=(i:Int)/\i<L.m/\(if Sx.cu T.bn n<vals.length then Sx.at_ vals (Sx.cu T.bn n)else 0)=Sx.at_ vals i)\/(¬(0<=((Sx.cu T.bn n:Nat):Int)/\((Sx.cu T.bn n:Nat):Int)<(L.m:Int))/\(if Sx.cu T.bn n<vals.length then Sx.at_ vals (Sx.cu T.bn n)else 0)=0):=(by by_cases e:Sx.cu T.bn n<vals.length;{exact .inl ⟨_,rfl,qO,qE e⟩};exact .inr ⟨qO,qF e⟩)
 refine(jzdr T wx B g (n*4) L.p (gl+1) gl gs gt P L.m qo SA 145 cb (Ln.V n) (T.row n).co vals js _ _ hB qj r0 hX qD qD hb.bv hb.qb hvl qm (jzs qk).rd hb.bt
  (jzfc h.tab rfl e1 fun j hj=>(qi j hj).1) (fun j hj=>⟨by rw[qp];exact(qi j hj).1,(qi j hj).2⟩) qa qO (hsz.co n qh) hvz hP hP1 hjl qO).mono ?_
 rintro e w' ⟨g',c',rfl,o9,b9,f9,n9⟩;have ht:=h.tab.IE qe qf qj b9 o9 f9 n9;have hS:L.S g:=.inr (.inl (by rw[D7];rfl));obtain⟨k1,k2,k3⟩:=jzfd (gt:=gt) (gl:=gl) (gs:=gs) (vS:=vS) h (Bg qe) qj qD hS Je hlt;refine⟨rfl,Ln.Cx n (.s (sA g') ((T.row n).co.length+1) c'),⟨?_,⟨e1,e2,e3,e4,e5⟩,jzfb h.far (Bg qe) h.fr.size n9,h.fr.tr f9 k2⟩,hb.fr f9 k1 k3⟩;rw[qg]at ht;rw[jzmb T vals qh];unfold Sx.Gm;rw[<-hjs];exact ht
def jzns(h:gR W6 wx B L Ln (dI T vals L.m))(hb:gQ wx B0 L gt gl gs vals vS js)(hjs:js=Sx.Ay T vals T.ay.length)(hrl:T.rows.length=L.m)(hB:B<=wx.heap.size)
  (Je:∀b,L.S b->b≠gt/\b≠gl/\b≠gl+1/\b≠gs/\vS.ownBlock≠some b) (hlt:∀b,W6.heap.size<=b->b≠gt/\b≠gl/\b≠gl+1/\b≠gs/\vS.ownBlock≠some b)
  (hok:Km T) (hsz:Kl T P) (hP1:1<=P) (hP:P<=10000) (hm:L.m<=1000) (hK:T.ay.length<=100000000000) (hvl:vals.length=L.m) (hvz:∀q∈vals,dx q P) (hjl:js.length<=1000):
  Calls prog 136 #[.pointer (some (aD L.p 3)),vI (-1),.pointer (sA (gl+1)),.pointer (sA gs),.pointer (sA gt)] wx
   fun e w'=>e=.returned (.tuple #[])/\∃(L2:aQ) (g' c':Nat),L2.V L.m=.s (sA g') (T.ay.length+1) c'/\gR W6 w' B L L2 (fJ (dI T vals L.m) ⟨T.goal.co++[Sx.uy T vals T.goal.co 0 js],T.goal.re⟩)/\gQ w' B0 L gt gl gs vals vS js:=by
 obtain⟨e1,e2,e3,e4,e5⟩:=h.loc;obtain⟨cb,qi,⟨nr,R1,m1,d1,qt,qo,qn,r0,r1,r2,r3,qp⟩,p0,p1,p2,p7⟩:=h.tab.DV;have hX:OQ QR 33 wx B (Ln.V Ln.m) T.goal.co:=h.tab.go;obtain⟨SA,qm,qk,qw⟩:=mV hb.sr;have qh:=hb.sb;have qg:=hb.sr;rw[qk]at qh qg;have qe:∀j∈js,j<T.ay.length/\Sx.cu T.ay j<L.m:=fun j hj=>by
  rw[hjs]at hj;have:=lX T vals _ j hj;rw[hvl]at this;exact this
 have qj:=hok.gl;have qa:=qi;rw[e1]at qa;refine(jzdr T wx B L.p 3 L.p (gl+1) gl gs gt P L.m qm SA 147 cb (Ln.V Ln.m) T.goal.co vals js (-1) 0 hB qa r0 hX qD qD hb.bv hb.qb hvl qh (jzs qg).rd hb.bt
  (jzfc h.tab rfl e1 fun j hj=>(qe j hj).1) (fun j hj=>⟨by rw[qj];exact(qe j hj).1,(qe j hj).2⟩) (.inr ⟨qO,rfl⟩) qO hsz.go hvz hP hP1 hjl qO).mono ?_
 rintro e w' ⟨g',c',rfl,o9,b9,f9,n9⟩;obtain⟨k1,k2,k3⟩:=jzfd (gt:=gt) (gl:=gl) (gs:=gs) (vS:=vS) h (yX _) qa qD (.inl rfl) Je hlt;rw[<-e1]at b9;have qf:=f9;rw[<-e1]at qf;have ht:=h.tab.Hu qi b9 o9 qf n9;refine⟨rfl,Ln.Cx Ln.m (.s (sA g') (T.goal.co.length+1) c'),g',c',?_,⟨ht,⟨e1,e2,e3,e4,e5⟩,jzfb h.far (yX _) h.fr.size n9,h.fr.tr f9 k2⟩,hb.fr f9 k1 k3⟩;rw[<-e5,Ln.uh,qj]
end
def aH.Ll{w}{B:Nat}{L:aQ}{T:Sx.Tb}(h:aH w B L T){gv K cv n:Nat}{q:Rat}{neg:Bool}{A}{n1 c1:Nat}{A'}{n1' c1':Nat}(hV:L.V L.m=.s (sA gv) K cv)(hK:T.goal.co.length=K)(hn:n<K)(hq:aC w neg A n1 c1 A' n1' c1' q):
  aH (((w.setCell (aD gv (n*3)) (.bool neg)).setCell (aD gv (n*3+1)) (.s A n1 c1)).setCell (aD gv (n*3+2)) (.s A' n1' c1')) B L (fJ T ⟨T.goal.co.set n q,T.goal.re⟩)/\
  fu L.S w (((w.setCell (aD gv (n*3)) (.bool neg)).setCell (aD gv (n*3+1)) (.s A n1 c1)).setCell (aD gv (n*3+2)) (.s A' n1' c1')):=by
 obtain⟨cs,hb,hr,_⟩:=h.DV;have qj:=dC w gv (n*3) (.bool neg) (.s A n1 c1) (.s A' n1' c1');obtain⟨xs,ho⟩:=h.go.own;obtain⟨cr,qa⟩:=aT ho (show(L.V L.m).ownBlock=some gv by rw[hV];rfl);have qh:L.p≠gv:=fun e=>(by rw[<-e]at qa;have:=(bI hb qa).2;exact absurd this qD);have hF:fu (fun b=>b=gv) w (((w.setCell (aD gv (n*3)) (.bool neg)).setCell (aD gv (n*3+1)) (.s A n1 c1)).setCell (aD gv (n*3+2)) (.s A' n1' c1')):=eG qj fun b e=>(by injection e with e;exact e.symm);have qi:oh (fun b=>b=gv) w 196:=oh.one qa qD;obtain⟨rn,RA,qk,qm,qg,qf,qe,r0,r1,r2,r3,rr⟩:=hr;refine⟨h.FB hV hb (hF.blk hb qh) (lU.refl _ _) ⟨rn,RA,qk,qm,qg,qf,qe,r0,r1,r2,r3,hF.oz qi rr⟩ ?_ (hF.mono fun b hb=>.inr hb),hF.mono fun b hb=>.inr (.inr (.inr (.inr ⟨L.m,yX _,by rw[hV,hb];rfl⟩)))⟩;rw[hV];have:=h.go;rw[hV]at this;exact this.put hK (by rw[hK];exact hn) hq
def jznt{T:Sx.Tb}{vals:LQ}{m:Nat}(hrl:T.rows.length=m)(cost:Rat):jzr (fJ (dI T vals m) ⟨T.goal.co++[Sx.uy T vals T.goal.co 0 (Sx.Ay T vals T.ay.length)-cost],T.goal.re⟩) (T.ay++[m+T.iq])=Sx.Aa T cost vals:=by
 subst hrl;unfold jzr fJ Sx.Aa;rw[jzmc];rfl
def jznu{W6 wx:World}{L Ln:aQ}{g' n c':Nat}(far:∀b,Ln.S b->L.S b\/W6.heap.size<=b)(hw:W6.heap.size<=wx.heap.size)(hg:some g'=Ln.vf.ownBlock\/wx.heap.size<=g'):∀b,(Ln.Jz (.s (sA g') n c')).S b->L.S b\/W6.heap.size<=b:=by
 (intro b hb;rcases hb with rfl|hb|hb|hb|⟨i,hi,hb⟩);{exact far _ (.inl rfl)};{exact far _ (.inr (.inl hb))};{exact far _ (.inr (.inr (.inl hb)))};{(injection hb with hb);(have hb:g'=b:=hb;subst hb;rcases hg with h1|h1);{exact far _ (.inr (.inr (.inr (.inl h1.symm))))};exact .inr (yY hw h1)};exact far _ (.inr (.inr (.inr (.inr ⟨i,hi,hb⟩))))
def jzfe(x:Int):Am (decide (x<0)) x.natAbs 1=(x:Rat):=by
 unfold Am;have e:(if decide (x<0)=true then-((x.natAbs:Nat):Int)else((x.natAbs:Nat):Int))=x:=(by by_cases h:x<0;{rw[qE (yO h)];omega};rw[qF (by simpa using h)];omega);rw[e,Rat.mkRat_one]
def kC(x:Int)w(h:i64 x):Calls prog 15 #[vI x] w (eM w (x:Rat)):=by
 have:=pH x w h.1 h.2;rw[jzfe]at this;exact this
def Ak{α:Type}(R:World->List Value->α->Prop)(e:TypeId)(s:Nat)(w:World)(B:Nat)(v:Value)(l:List α):Prop:=
 ∃css:List (List Value),css.length=l.length/\(∀cs∈css,cs.length=s)/\w.ownsRow B e s v l.length css.flatten/\∀(i:Nat) (x:α),l[i]?=some x->∃cs,css[i]?=some cs/\R w cs x
section
variable {α:Type} {R R':World->List Value->α->Prop} {e:TypeId} {s:Nat} {w w':World} {B:Nat} {v:Value} {l:List α}
def Ak.nil(R:World->List Value->α->Prop)(e:TypeId)(s:Nat)w(B:Nat):Ak R e s w B zN []:=
 ⟨[],rfl,(fun _ h=>by cases h),World.ownsRow_nil _ _ _ _,fun i x h=>by simp at h⟩
def Ak.own(h:Ak R e s w B v l):∃xs,w.ownsRow B e s v l.length xs:=by
 obtain⟨css,_,_,h3,_⟩:=h;exact⟨_,h3⟩
def Ak.form(h:Ak R e s w B v l):∃A c,v=.s A l.length c/\l.length<=c:=by
 obtain⟨xs,h⟩:=h.own;exact mV h
def Ak.fr{S:Nat->Prop}(h:Ak R e s w B v l)(k:fu S w w')(hv:∀g,v.ownBlock=some g->¬S g)(hR:∀cs x,x∈l->R w cs x->R' w' cs x):Ak R' e s w' B v l:=by
 obtain⟨css,h1,h2,h3,h4⟩:=h;refine⟨css,h1,h2,k.own h3 hv,fun i x hx=>?_⟩;obtain⟨cs,k1,k2⟩:=h4 i x hx;exact⟨cs,k1,hR cs x (yJ hx) k2⟩
def Ak.K(h:Ak R e s w B v l)(hx:Ext w w')(hR:∀cs x,R w cs x->R w' cs x):Ak R e s w' B v l:=h.fr (S:=fun _=>False) (eE hx) (fun _ _ h=>h) fun cs x _=>hR cs x
def Ak.at_(h:Ak R e s w B v l){i:Nat}{x:α}(hi:l[i]?=some x):∃(g cap:Nat) (cs:List Value),v=.s (sA g) l.length cap/\g<w.heap.size/\cs.length=s/\(∀k,k<s->w.cell? (aD g (i*s+k))=cs[k]?)/\R w cs x:=by
 have qe:=(yH.1 hi).1;obtain⟨css,h1,h2,h3,h4⟩:=h;obtain⟨g,cap,qg,rfl,_,hb,_,_,_,qa⟩:=iD h3 qO;obtain⟨cs,k1,k2⟩:=h4 i x hi;refine⟨g,cap,cs,rfl,hb.lt,h2 cs (yJ k1),fun k hk=>?_,k2⟩;have h5:=dV css h2 i k qO hk;rw[k1,DL]at h5;have qf:i*s+k<l.length*s:=(by have:(i+1)*s<=l.length*s:=xS s qe;rw[xP,xQ]at this;omega);rw[hb.cell, <-h5, <-qa,xG,qE qf];simp
def Ak.pushed{x:α}{v':Value}{css:List (List Value)}{us:List Value}(h1:css.length=l.length)(h2:∀cs∈css,cs.length=s)(h4:∀(i:Nat) (y:α),l[i]?=some y->∃cs,css[i]?=some cs/\R w cs y)(Ez:us.length=s)(hR:∀cs y,y∈l->R w cs y->R w' cs y)(hx:R w' us x)(own':w'.ownsRow B e s v' (l.length+1) (css.flatten++us)):Ak R e s w' B v' (l++[x]):=by
 refine⟨css++[us],by simp[h1],fun cs hc=>?_,by rw[List.flatten_append,yQ];simpa using own',fun i y hi=>?_⟩;{(rcases xY.1 hc with hc|hc);{exact h2 cs hc};rw[xD.1 hc];exact Ez};by_cases e:i<l.length;{rw[yR e]at hi;obtain⟨cs,k1,k2⟩:=h4 i y hi;exact⟨cs,by rw[yR qO];exact k1,hR cs y (yJ hi) k2⟩};(have hl:=(yH.1 hi).1;rw[yQ]at hl;have hl:i<l.length+1:=hl;have e2:i=l.length:=qO;subst e2;rw[yS qO,Nat.sub_self]at hi;injection hi with hi);subst hi;exact⟨us,by rw[yS qO,h1,Nat.sub_self];rfl,hx⟩
def kW{n c:Nat}{A}{xs:List Value}(h:w.ownsRow B e s (.s A n c) n xs):og w e A xs:=by
 (obtain⟨h1,h2⟩:=h;rcases h2 with⟨h3,h4⟩|⟨g,cap,cur,h3,_,h5,h6,_,_,h9⟩);{subst h4;rw[Nat.zero_mul]at h1;obtain rfl:xs=[]:=Kc h1;exact og.nil _ _ _};(injection h3 with e1 _ _);subst e1;refine fun _=>⟨g,0,cur,(0,0),rfl,h5,fun i hi=>?_⟩;rw[CU, <-h9,xG,qE qO];simp
end
def Lr(w:World)(cs:List Value)(t:Nat×Rat):Prop:=∃(neg:Bool) (A:OA) (n c:Nat) (A':OA) (n' c':Nat),cs=[vI (t.1:Int),.bool neg,.s A n c,.s A' n' c']/\aC w neg A n c A' n' c' t.2
def Lr.K{w w'}{cs:List Value}{t:Nat×Rat}(h:Lr w cs t)(hx:Ext w w'):Lr w' cs t:=by
 obtain⟨neg,A,n,c,A',n',c',h1,h2⟩:=h;exact⟨neg,A,n,c,A',n',c',h1,h2.K hx⟩
def Lr.fr{S:Nat->Prop}{w w'}{cs:List Value}{t:Nat×Rat}(h:Lr w cs t)(k:fu S w w')(n:oh S w 196):Lr w' cs t:=by
 obtain⟨neg,A,n1,c,A',n',c',h1,h2⟩:=h;exact⟨neg,A,n1,c,A',n',c',h1,k.oz n h2⟩
abbrev Jv(w:World)(B:Nat)(v:Value)(ts:List (Nat×Rat)):Prop:=Ak Lr 128 4 w B v ts
def Jv.rd{w}{B c:Nat}{A}{ts:List (Nat×Rat)}(h:Jv w B (.s A ts.length c) ts):Ip w A ts:=by
 obtain⟨css,h1,h2,h3,h4⟩:=h;exact⟨css,h1,h2,kW h3,h4⟩
def Jl(S:Nat->Prop)(w:World)(cs:List Value)(p:Nat×LN):Prop:=∃(A:OA) (c:Nat),cs=[vI (p.1:Int),.s A p.2.length c,bF,zN,zN]/\p.2.length<=c/\og w 3 A (ints p.2)/\(p.2≠ []->∀ad,A=some ad->¬S ad.block)
def jznv{S:Nat->Prop}{w w'}{t:TypeId}{A}{xs:List Value}(h:og w t A xs)(k:fu S w w')(hA:xs≠ []->∀ad,A=some ad->¬S ad.block):og w' t A xs:=fun hx=>by
 obtain⟨b,o,cs,fr,e1,e2,e3⟩:=h hx;exact⟨b,o,cs,fr,e1,(k.block b (gB e2) (hA hx _ e1)).trans e2,e3⟩
def Jl.K{S:Nat->Prop}{w w'}{cs:List Value}{p:Nat×LN}(h:Jl S w cs p)(hx:Ext w w'):Jl S w' cs p:=by
 obtain⟨A,c,h1,h2,h3,h4⟩:=h;exact⟨A,c,h1,h2,h3.K hx,h4⟩
def jzff:(prog.info? 98).map (fun i=>(i.zero,i.size,i.bytes))=some (some (.agg #[vI 0,zN,bF,zN,zN]),5,88):=by kernel_rfl
def jzfg:(prog.info? 128).map (fun i=>(i.zero,i.size,i.bytes))=some (some (.agg #[vI 0,bF,zN,zN]),4,64):=by kernel_rfl
structure CJ(w0 w:World)(x mb:Nat)(t:Tp)(AO:OA)(co:Nat)(AL:OA)(cl:Nat)(l:List Dm)(AD:OA)(cd:Nat)(L:aQ)(T:Sx.Tb)(vP:Value)(P Q:List (Nat×LN)):Prop where
 ext:Ext w0 w
 top:aR w0 t AO co AL cl
 Bd:CK w0 l AD cd
 box:ak w x 83 #[vI t.nodes,.s AO t.over.length co,.s AL t.links.length cl,.s AD l.length cd,.pointer (sA L.p),vP,.map (some mb)]
 xlo:w0.heap.size<=x
 tab:aH w w0.heap.size L T
 m:L.m=2*t.links.length+l.length
 pat:Ak (Jl L.S) 98 5 w w0.heap.size vP P
 map:BU w mb Q.length (Q.map dE)
 KD:w0.heap.size<=mb
def GI(x mb:Nat)(L:aQ)(vP:Value)(b:Nat):Prop:=b=x\/b=mb\/L.S b\/vP.ownBlock=some b
section
variable {w0 w w':World} {x mb:Nat} {t:Tp} {AO:Option Addr} {co:Nat} {AL:Option Addr} {cl:Nat} {l:List Dm} {AD:Option Addr} {cd:Nat} {L:aQ} {T:Sx.Tb} {vP:Value} {P Q:List (Nat×List Nat)}
def CJ.K(h:CJ w0 w x mb t AO co AL cl l AD cd L T vP P Q)(hx:Ext w w'):CJ w0 w' x mb t AO co AL cl l AD cd L T vP P Q:=
 ⟨h.ext.tr hx,h.top,h.Bd,h.box.K hx,h.xlo,h.tab.K hx,h.m,h.pat.K hx fun cs x k=>k.K hx,h.map.K hx,h.KD⟩
def CJ.lo(h:CJ w0 w x mb t AO co AL cl l AD cd L T vP P Q):(∀b,GI x mb L vP b->w0.heap.size<=b/\b<w.heap.size)/\oh (GI x mb L vP) w 196:=by
 obtain⟨xs,qa⟩:=h.pat.own;refine⟨fun b hb=>?_,fun b hb cs fr e=>?_⟩;{(rcases hb with rfl|rfl|hb|hb);{exact⟨h.xlo,h.box.lt⟩};{exact⟨h.KD,h.map.lt⟩};{obtain⟨h1,h2,_⟩:=h.tab.ty hb;exact⟨h1,h2⟩};exact qa.lt b hb};(rcases hb with rfl|rfl|hb|hb);{exact oh.one h.box qD _ rfl cs fr e};{obtain⟨D,⟨es,qe,h1,_⟩,_⟩:=h.map;rw[h1]at e;cases e};{exact h.tab.IV b hb cs fr e};exact bQ qa hb qD cs fr e
def CJ.sep(h:CJ w0 w x mb t AO co AL cl l AD cd L T vP P Q):¬L.S x/\¬L.S mb/\(∀b,vP.ownBlock=some b->¬L.S b/\b≠x/\b≠mb)/\x≠mb:=by
 obtain⟨xs,qa⟩:=h.pat.own;refine⟨fun hs=>?_,fun hs=>?_,fun b hb=>⟨fun hs=>?_,fun e=>?_,fun e=>?_⟩,fun e=>?_⟩;{exact h.tab.noT (t:=83) qD qD qD qD x hs _ _ h.box};{obtain⟨_,_,cs,t',k1,_⟩:=h.tab.ty hs;exact h.map.not k1};{obtain⟨cs,k⟩:=aT qa hb;exact h.tab.noT (t:=98) qD qD qD qD b hs _ _ k};{subst e;exact bQ qa hb qD _ _ h.box};{obtain⟨cs,k⟩:=aT qa hb;rw[e]at k;exact h.map.not k};have:=h.box;rw[e]at this;exact h.map.not this
def Jl.fr{S X:Nat->Prop}{w w'}{cs:List Value}{p:Nat×LN}(h:Jl S w cs p)(k:fu X w w')(hX:oh X w 3):Jl S w' cs p:=by
 obtain⟨A,c,h1,h2,h3,h4⟩:=h;exact⟨A,c,h1,h2,k.Bz hX h3,h4⟩
def BU.noT{b n:Nat}{ks:List (List UInt8)}(h:BU w b n ks)(t:TypeId):oh (fun x=>x=b) w t:=fun x hx cs fr e=>by
 subst hx;obtain⟨D,⟨es,qa,h1,_⟩,_⟩:=h;rw[h1]at e;cases e
def CJ.mapped(h:CJ w0 w x mb t AO co AL cl l AD cd L T vP P Q){p:Nat×LN}(hg:w.grownBy w' (some mb))(hm:BU w' mb (Q.length+1) (dE p::Q.map dE)):CJ w0 w' x mb t AO co AL cl l AD cd L T vP P (Q++[p]):=by
 have k:fu (fun b=>b=mb) w w':=eG hg fun g e=>(by injection e with e;exact e.symm);obtain⟨s1,s2,s3,s4⟩:=h.sep;exact⟨k.ext h.ext fun b hb=>by rw[hb];exact h.KD,h.top,h.Bd,k.blk h.box s4,h.xlo,h.tab.far k (h.map.noT _) fun b hb hs=>s2 (hb▸hs),h.m,h.pat.fr k (fun g hg e=>(s3 g hg).2.2 e) fun cs y _ hy=>hy.fr k (h.map.noT _),
  hm.congr qS (fun j=>by simp[or_comm]),h.KD⟩
def CJ.pushed(h:CJ w0 w x mb t AO co AL cl l AD cd L T vP P Q){p:Nat×LN}{css:List (List Value)}{us:List Value}{g7 c7:Nat}{w7:World}(h1:css.length=P.length)(h2:∀cs∈css,cs.length=5)(h4:∀(i:Nat) (y:Nat×LN),P[i]?=some y->∃cs,css[i]?=some cs/\Jl L.S w cs y)(Ez:us.length=5)(hp:Jl L.S w us p)
  (IQ:w7.ownsRow w0.heap.size 98 5 (.s (sA g7) (P.length+1) c7) (P.length+1) (css.flatten++us)) (grow7:w.grownBy w7 vP.ownBlock):
  CJ w0 (w7.setCell (aD x 5) (.s (sA g7) (P.length+1) c7)) x mb t AO co AL cl l AD cd L T (.s (sA g7) (P.length+1) c7) (P++[p]) Q/\
   fu (fun b=>b=x\/vP.ownBlock=some b) w (w7.setCell (aD x 5) (.s (sA g7) (P.length+1) c7)):=by
 have k7:fu (fun b=>vP.ownBlock=some b) w w7:=eG grow7 fun g e=>e;obtain⟨s1,s2,s3,s4⟩:=h.sep;obtain⟨xs,qa⟩:=h.pat.own;have B7:=k7.blk h.box fun e=>(s3 x e).2.1 rfl;have k8:fu (fun b=>b=x) w7 (w7.setCell (aD x 5) (.s (sA g7) (P.length+1) c7)):=eG (aM w7 x 5 _) fun g e=>(by injection e with e;exact e.symm);have n7:∀t,98≠t->oh (fun b=>vP.ownBlock=some b) w t:=fun t ht b hb=>bQ qa hb ht;have n8:∀t,83≠t->oh (fun b=>b=x) w7 t:=fun t ht=>oh.one B7 ht;have e7:Ext w0 w7:=k7.ext h.ext fun b hb=>(qa.lt b hb).1;have qe:Ak (Jl L.S) 98 5 w7 w0.heap.size (.s (sA g7) (P.length+1) c7) (P++[p]):=
  Ak.pushed h1 h2 h4 Ez (fun cs y _ hy=>hy.fr k7 (n7 _ qD)) (hp.fr k7 (n7 _ qD)) IQ
 have qf:g7≠x:=fun e=>(by obtain⟨cs,hb⟩:=aT IQ (g:=g7) rfl;rw[e]at hb;exact absurd (bI hb B7).2 qD);refine⟨⟨k8.ext e7 fun b hb=>by rw[hb];exact h.xlo,h.top,h.Bd,B7.sT 5 _,h.xlo,?_,h.m,qe.fr k8 (fun g hg e=>?_) fun cs y _ hy=>hy.fr k8 (n8 _ qD),(h.map.same (k7.block mb h.map.lt fun e=>(s3 mb e).2.2 rfl)).same (k8.block mb ?_ fun e=>s4 e.symm),h.KD⟩,(k7.mono fun b hb=>.inr hb).tr k8 fun b hb=>.inl (.inl hb)⟩;{exact(h.tab.far k7 (n7 _ qD) fun b hb=>(s3 b hb).1).far k8 (n8 _ qD) fun b hb hs=>s1 (hb▸hs)};{(injection hg with hg);have hg:g7=g:=hg;exact qf (hg.trans e)};exact yL h.map.lt k7.size
def CJ.Ga(h:CJ w0 w x mb t AO co AL cl l AD cd L T vP P Q){L':aQ}{T':Sx.Tb}(ht:aH w' w0.heap.size L' T')(k:fu L.S w w')(hp:L'.p=L.p)(hm:L'.m=L.m)(hS:∀b,L'.S b->L.S b\/w.heap.size<=b):CJ w0 w' x mb t AO co AL cl l AD cd L' T' vP P Q:=by
 (obtain⟨s1,s2,s3,s4⟩:=h.sep;have bx:=k.blk h.box s1;rw[<-hp]at bx;refine⟨k.ext h.ext fun b hb=>(h.tab.ty hb).1,h.top,h.Bd,bx,h.xlo,ht,hm.trans h.m,?_,h.map.same (k.block mb h.map.lt s2),h.KD⟩;refine h.pat.fr k (fun g hg=>(s3 g hg).1) fun cs y _ hy=>?_;obtain⟨A,c,h1,h2,h3,h4⟩:=hy;have qa:ints y.2≠ []->y.2≠ []:=fun hx e=>hx (by rw[e];rfl);refine⟨A,c,h1,h2,jznv h3 k fun hx=>h4 (qa hx),fun hx ad had hs=>?_⟩;rcases hS _ hs with h5|h5);{exact h4 hx ad had h5};obtain⟨b,o,qe,fr,e1,e2,_⟩:=h3 (fun e=>hx (by have h6:=bX y.2;rw[e]at h6;exact FJ.1 h6.symm));(rw[had]at e1;injection e1 with e1);subst e1;have h7:w.heap.size<=b:=h5;have:=gB e2;omega
end
end Go.Proofs.YtfeeacaofjpkaaaGreatDoor
namespace Go.Proofs.YtfeeacaofjpkaaaGreatDoor
open Go.Proofs.Tryz
open Go Go.RowKit
variable {P:Program} {md:Region.Mode} {ops:Array Oper} {Q:Exit->Act->World->Prop} {S:World->Prop} {L:Nat}
def chainB(md:Region.Mode)(ops:Array Oper)(i:Nat):LN->Bool
 | []=>true
 | [m]=>wu md ops m i
 |m::m2::rest=>wu md ops m m2&&chainB md ops i (m2::rest)
def jzfh{i:Nat}{listed:Array Bool}(hi:listed.getD i true=false):∀(path:LN),chainB md ops i path=true->(∀m∈path,listed.getD m true=false)->∀j∈path,j∉Region.ready md ops listed
 | [],_,_,j,hj,_=>by cases hj
 | [m],hc,_,j,hj,hr=>by
   obtain rfl:j=m:=xD.1 hj;exact nG hc hr hi
 |m::m2::rest,hc,hu,j,hj,hr=>by
  have hc:(wu md ops m m2&&chainB md ops i (m2::rest))=true:=hc;rw[vM]at hc;rcases xZ.1 hj with e|e
  ·subst e
   exact nG hc.1 hr (hu m2 qS)
  ·exact jzfh hi (m2::rest) hc.2 (fun k hk=>hu k (xO _ hk)) j e hr
def jznw{path:LN}{i:Nat}{oi:Oper}{v:Value}(hLp:L∈path)(hc:chainB md ops i path=true)(hi:ops[i]?=some oi)(Cc:i≠L)(hsel:∀(j:Nat) (o:Oper) cs b,ops[j]?=some o->o.op≠.select cs b)
  (hQ:∀c a w,Q (.panic c) (a.put oi.dst v) w->Q (.panic c) a w):
  ∀(qe:Nat) (qa:Array Bool) (a:Act) (w:World),(∀m∈path,qa.getD m true=false)->
   (∀j oj,ops[j]?=some oj->j≠i->qa.getD j true=false->(∀e∈oj.after,Region.binds md e=true->e.on≠i)->oi.apart ops oj=true)->
   i∈Region.ready md ops qa->YieldsIf P ops S oi v a->S w->
   wpAnyL P md ops Q S L qe (qa.setIfInBounds i true) (a.put oi.dst v) w->wpAnyL P md ops Q S L (qe+1) qa a w:=by
 intro qe
 induction qe with
 |zero=>
  intro qa a w _ _ hr hy hS H;refine⟨fun h=>(by rw[h]at hr;cases hr),fun j hj=>?_⟩;by_cases qg:j=i
  ·subst qg;exact hy.wpOp hi hS ⟨fun e=>absurd e Cc,fun _=>⟨hS,H⟩⟩
  have:=ready_mono hj qg;rw[H.1]at this;cases this
 |succ qe ih=>
  intro qa a w qt qf hr hy hS H;refine⟨fun h=>(by rw[h]at hr;cases hr),fun j hj=>?_⟩;by_cases qg:j=i
  ·subst qg;exact hy.wpOp hi hS ⟨fun e=>absurd e Cc,fun _=>⟨hS,H⟩⟩
  have qp:j∉path:=fun e=>jzfh (mem_ready.1 hr).1 path hc qt j e hj;have qj:j≠L:=fun e=>qp (e▸hLp);have h1:=H.2 j (ready_mono hj qg);obtain⟨qi,oj,qk,qm⟩:=mem_ready.1 hj;have qn:∀e∈oj.after,Region.binds md e=true->e.on≠i:=fun e he hb heq=>by
   have h1:=qm e he hb;have h0:=(mem_ready.1 hr).1;rw[heq]at h1;rcases Bc i qa.size with h'|h'
   ·simp[h']at h0 h1;rw[h0]at h1;cases h1
   simp[Fx h']at h1
  have h2:=wpOp_putIf qk (qf j oj qk qg qi qn) (fun cs b=>hsel i oi cs b hi) (fun cs b=>hsel j oj cs b qk) hQ hy h1;have qh:∀k ok,ops[k]?=some ok->k≠i->(qa.setIfInBounds j true).getD k true=false->
    (∀e∈ok.after,Region.binds md e=true->e.on≠i)->oi.apart ops ok=true:=fun k ok hk hki hun hno=>by
   refine qf k ok hk hki ?_ hno;by_cases qw:j=k
   ·subst qw;exact qi
   rw[getD_set_ne true qw]at hun;exact hun
  have qo:∀m∈path,(qa.setIfInBounds j true).getD m true=false:=fun m hm=>by
   have qx:j≠m:=fun e=>qp (e▸hm);rw[getD_set_ne true qx];exact qt m hm
  refine wpOp_mono (fun a' w' h3=>⟨fun e=>absurd e qj,fun _=>⟨(h3.2.2 qj).1,ih (qa.setIfInBounds j true) a' w' qo qh (ready_mono hr (Ne.symm qg)) h3.1 (h3.2.2 qj).1 ?_⟩⟩) h2;rw[Array.setIfInBounds_comm _ _ qg];exact(h3.2.2 qj).2
def Em{path:LN}{i:Nat}{oi:Oper}{v:Value}{fuel:Nat}{listed:Array Bool}{a:Act}{w}(hi:ops[i]?=some oi)(hLp:path.contains L=true)(hc:chainB md ops i path=true)(hlm:path.all (fun m=>!listed.getD m true)=true)(Cc:i≠L)
  (hs:Region.noSelect ops=true) (hf:Region.free md ops listed i=true) (hr:(Region.ready md ops listed).contains i=true)
  (hQ:∀c a w,Q (.panic c) (a.put oi.dst v) w->Q (.panic c) a w) (hy:YieldsIf P ops S oi v a) (hS:S w)
  (h:wpAnyL P md ops Q S L fuel (listed.setIfInBounds i true) (a.put oi.dst v) w):wpAnyL P md ops Q S L (fuel+1) listed a w:=
 jznw (by simpa using hLp) hc hi Cc (Region.noSelect_spec hs) hQ fuel listed a w (fun m hm=>by simpa using xW.1 hlm m hm) (Region.free_spec hi hf) (by simpa using hr) hy hS h
def wU(path:List Nat)(i:Nat){oi:Oper}{v:Value}{fuel:Nat}{listed:Array Bool}{a:Act}{w:World}(h:wpAnyL P md ops Q S L fuel (listed.setIfInBounds i true) (a.put oi.dst v) w)(hi:ops[i]?=some oi:=by exact rfl)(hS:S w:=by exact eu.o)(hv:∀ w,S w->(execOp a.eval oi).run P w=.ok (.value v) w:=by intro w h;revert h;(try simp only [and_imp]);intros;go_simp;try with_reducible rfl)(hLp:path.contains L=true:=by kernel_rfl)(hc:chainB md ops i path=true:=by kernel_rfl)(hlm:path.all (fun m=>!listed.getD m true)=true:=by kernel_rfl)(Cc:i≠L:=by decide)(hs:Region.noSelect ops=true:=by kernel_rfl)(hf:Region.free md ops listed i=true:=by kernel_rfl)(hr:(Region.ready md ops listed).contains i=true:=by kernel_rfl)(hQ:∀ c a w,Q (.panic c) (a.put oi.dst v) w->Q (.panic c) a w:=by exact fun _ _ _ h=>h)(hw:Region.wanted oi (yielded ops a.tmps)=true:=by rfl):wpAnyL P md ops Q S L (fuel+1) listed a w:=Em hi hLp hc hlm Cc hs hf hr hQ (DF ⟨hw,hv⟩) hS h
end Go.Proofs.YtfeeacaofjpkaaaGreatDoor
namespace Go.Proofs.YtfeeacaofjpkaaaGreatDoor
open Go.Proofs.Tryz
open Go.RowKit
def jzfi(B P nt ct:Nat)(L:aQ)(T:Sx.Tb)w(h:aH w B L T)(hB:B<=w.heap.size)(vY:Km T)(vU:Kl T P)(hP1:1<=P)(hP:P<=10000)(hm0:0<L.m)(hm:L.m<=1000)(hK:T.ay.length<=100000000000)(hc:T.iq<=100000000000)
  (cost:Rat) (nc:Bool) AC (lc cc:Nat) Dk (Di cc':Nat) (qY:aC w nc AC lc cc Dk Di cc' cost) (hcsz:dx cost P)
  PT (ts:List (Nat×Rat)) (hnt:ts.length=nt) (ht:Ip w PT ts) (hnt2:nt<=1000000) (vV:∀t∈ts,t.1<L.m) (vT:∀q∈aO L.m ts,dx q P) (hfb:∀j,j<T.ay.length->Sx.cu T.ay j<=1000000000000) (hjl:(Sx.Ay T (aO L.m ts) T.ay.length).length<=1000):
  Calls prog 72 #[.pointer (sA L.p),.agg #[.bool nc,.s AC lc cc,.s Dk Di cc'],.s PT nt ct] w
   fun e w'=>∃L':aQ,e=.returned (.tuple #[])/\L'.p=L.p/\L'.m=L.m/\aH w' B L' (Sx.Aa T cost (aO L.m ts))/\fu L.S w w'/\∀b,L'.S b->L.S b\/w.heap.size<=b:=by
 obtain⟨g,cr,vw,zD⟩:=h.Cu hm0;obtain⟨gb,cb,vH,zw⟩:=h.Dp hm0;obtain⟨cp,qe,_,p0,p1,p2,p7⟩:=h.DV;rw[vw]at p0;have q0:=(qe.cell 0).trans p0;have q7:=(qe.cell 7).trans p7;have vy:=qe.lt;obtain⟨b0,b1,e0⟩:=cN w #[.pointer (sA L.p)] 80 #[.bool nc,.s AC lc cc,.s Dk Di cc'] 33;have H:=Hx (ah h (ah vY vU));have HV:=Hx (ah vw vH);have HT:=Hx (ah qY (ah ht (ah vV vT)));have E0:=Hx (ah e0 (ah b0 b1));have y0:=XW.cell _ _ _ b0.lt (b0.cell 0);have y1:=XW.cell _ _ _ (yL vy e0.size) (aA e0 q0);have y2:=XW.cell _ _ _ (yL vy e0.size) (aA e0 q7);have zs:=h.rl;go_enter func72,ntmps72;(go_upto_region 1 with fail);(generalize (w.alloc (.cells #[.pointer (sA L.p)] 80)).alloc (.cells #[.bool nc,.s AC lc cc,.s Dk Di cc'] 33)=W2 at*;have zi:IntKind.i64.wrap ((L.m:Int)+(T.iq:Int))=((L.m+T.iq:Nat):Int):=by rw[IntKind.wrap_i64];omega);go_cut [6] (fun s wx=>s=vI ((L.m+T.iq:Nat):Int)/\Ext W2 wx);(case first=>refine cA qK qK ?_;(repeat (go_big_quiet_step (fail)));refine wpQuiet_nil ?_;rintro _ ⟨x,rfl⟩;go_wp2;go_meet;first|exact⟨rfl,x.ext⟩|exact⟨qS,x.ext⟩);obtain⟨rfl,q8⟩:=hcut;have EC:=Hx (E0.o.1.tr q8);have BX:=Hx (ah (E0.o.2.1.K q8) (E0.o.2.2.K q8));generalize hgt:w.heap.size=gt at*;have HC:=Hx (H.o.1.K EC.o);obtain⟨cp,qe,_,p0,p1,p2,p7⟩:=HC.o.DV;have q7:=(qe.cell 7).trans p7;have z7:wc.frozen? (aD L.p 7)=false:=qe.frozen _;have t0:wc.cell? (aD gt 0)=some (.pointer (sA L.p)):=BX.o.1.cell 0;have zE:=mP L.m qO;obtain⟨vK,q4⟩:=HC.o.Jj (T.iq+1);rw[show((T.iq+1:Nat):Int)=(T.iq:Int)+1 by omega]at vK q4;have PG:Hid (∀x,w.heap.size<=x->¬L.S x):=Hx (fun x hx hs=>by have:=(H.o.1.ty hs).2.1;omega)
 have I3:=Hx (show aH (wc.setCell (aD L.p 7) (vI ((T.iq:Int)+1))) B L (fK T (T.iq+1))/\fu L.S w (wc.setCell (aD L.p 7) (vI ((T.iq:Int)+1)))/\ak (wc.setCell (aD L.p 7) (vI ((T.iq:Int)+1))) gt 80 #[.pointer (sA L.p)]/\
   ak (wc.setCell (aD L.p 7) (vI ((T.iq:Int)+1))) (gt+1) 33 #[.bool nc,.s AC lc cc,.s Dk Di cc']from
  ⟨vK,(eE EC.o).tr q4 fun b hb=>.inl hb,q4.blk BX.o.1 (PG.o _ qO),q4.blk BX.o.2 (PG.o _ qO)⟩)
 (go_upto_region 3 with fail);generalize wc.setCell (aD L.p 7) (vI ((T.iq:Int)+1))=W3 at*;have t0:W3.cell? (aD gt 0)=some (.pointer (sA L.p)):=I3.o.2.2.1.cell 0;obtain⟨cp,qe,_,p0,p1,p2,p7⟩:=I3.o.1.DV;rw[HV.o.1]at p0;have q0:=(qe.cell 0).trans p0;have QM:=Hx (QB.made W3 L.m);have X4:=Hx ((eR W3).alloc (.cells (madeCells rV (L.m*3)) 33));have vF:(W3.alloc (.cells (madeCells rV (L.m*3)) 33)).heap.size=W3.heap.size+1:=qS;have zo:w.heap.size<=W3.heap.size:=I3.o.2.1.size;go_upto_region 4 with fail
 generalize W3.alloc (.cells (madeCells rV (L.m*3)) 33)=W4 at*;obtain⟨bv,e4⟩:=aU W4 #[.s (sA W3.heap.size) L.m L.m] 35;rw[vF]at bv;generalize qI:W3.heap.size=gl at*;have vh:gt+1<gl:=(by have:=I3.o.2.2.2.lt;omega);have I4:=Hx (show eP w (W4.alloc (.cells #[.s (sA gl) L.m L.m] 35)) B L (fK T (T.iq+1)) gt gl nc AC lc cc Dk Di cc' (aO L.m (ts.take 0))from
  ⟨(I3.o.1.K X4.o).K e4,I3.o.2.1.tr (eE (S:=L.S) (X4.o.tr e4)) fun b hb=>.inl hb,I3.o.2.2.1.K (X4.o.tr e4),I3.o.2.2.2.K (X4.o.tr e4),bv,QM.o.K e4⟩)
 go_wp2;go_loopg [9,41] nt (fun q _ it wx=>∃n:Nat,nt-n=q/\n<=nt/\it=vI (n:Int)/\Hid (eP w wx B L (fK T (T.iq+1)) gt gl nc AC lc cc Dk Di cc' (aO L.m (ts.take n))));exact⟨0,rfl,yZ _,rfl,I4⟩;obtain⟨n,rfl,hn,rfl,I⟩:=hrel;by_cases v4:n<nt;{(have nN:(n:Int)<(nt:Int):=by omega);have n0:(0:Int)<=(n:Int):=qO;obtain⟨t,vn⟩:∃t,ts[n]?=some t:=⟨_,yG qO⟩;have q1:Ip wr PT ts:=HT.o.2.1.fr I.o.fr (H.o.1.noT qD qD qD qD) H.o.1.IV;obtain⟨bq,oq,neg,A,l,c,A',l',c',rfl,zf,⟨i0,i1,i2,i3⟩,hR⟩:=q1.at_ vn;obtain⟨x,q⟩:=t;have qQ:x<L.m:=HT.o.2.2.1 _ (yJ vn);have xN:(x:Int)<(L.m:Int):=qO;have x0:(0:Int)<=(x:Int):=qO;have VT:=Hx (jznq L.m ts vn);have vJ:x<(aO L.m (ts.take n)).length:=(by rw[kB];exact qQ);obtain⟨bx,e0⟩:=aU wr #[vI (x:Int),.bool neg,.s A l c,.s A' l' c'] 128;have v0:wr.cell? (aD (gl+1) 0)=some (.s (sA gl) L.m L.m):=I.o.bv.cell 0;obtain⟨ny,Y1,my,fy,qX,qM,qH,⟨s0,s1,s2⟩,⟨z0,z1,z2⟩,_⟩:=I.o.qb.at_ (aZ vJ);have vH:=I.o.bv.lt;have zg:=I.o.qb.lt;have I9:=Hx ((I.o.put qO vh (PG.o gl qO) vJ hR).K ((eR _).alloc (.cells #[vI (x:Int),.bool neg,.s A l c,.s A' l' c'] 128)));rw[<-VT.o]at I9;go_wp2;go_roundg (nt-(n+1));exact⟨n+1,rfl,qO,by go_num,I9⟩;omega};obtain rfl:n=nt:=qO;rw[yU qO]at I;obtain⟨AF,cf,va,v1⟩:=mV I.o.tab.ay;obtain⟨cp,qe,_,p0,p1,p2,p7⟩:=I.o.tab.DV;rw[va]at p2;have q2:=(qe.cell 2).trans p2;have t0:wr.cell? (aD gt 0)=some (.pointer (sA L.p)):=I.o.bt.cell 0;have zc:gt<wr.heap.size:=I.o.bt.lt;have vW:L.p<wr.heap.size:=qe.lt;have vx:w.heap.size<=wr.heap.size:=I.o.fr.size;have BS:=Hx (eN wr 42 #[zN]);have I5:=Hx (I.o.K ((eR wr).alloc (.cells #[zN] 42)));have qA:(fK T (T.iq+1)).ay.length=T.ay.length:=rfl;rw[qA]at va v1 q2;have qh:=Hx va;have GB:Hid (gt+1<wr.heap.size/\gl+1<wr.heap.size):=Hx (⟨I.o.bc.lt,I.o.bv.lt⟩);have zd:=Hx hfb;generalize hgs:wr.heap.size=gs at*;generalize ES:T.ay.length=K at*;have S0:Hid ((wr.alloc (.cells #[zN] 42)).ownsRow w.heap.size 3 1 zN (Sx.Ay T (aO L.m ts) 0).length (ints (Sx.Ay T (aO L.m ts) 0))):=Hx (World.ownsRow_nil _ _ _ _);(go_upto_region 10 with fail);have q2:=aS q2 (.cells #[zN] 42);have t0:=aS t0 (.cells #[zN] 42);generalize wr.alloc (.cells #[zN] 42)=W5 at*;go_wp2;go_loopg [11,12,57] K (fun q _ _ it wx=>∃(n:Nat) (vS:Value),K-n=q/\n<=K/\it=vI (n:Int)/\Hid (eP w wx B L (fK T (T.iq+1)) gt gl nc AC lc cc Dk Di cc' (aO L.m ts)/\ak wx gs 42 #[vS]/\wx.ownsRow w.heap.size 3 1 vS (Sx.Ay T (aO L.m ts) n).length (ints (Sx.Ay T (aO L.m ts) n))/\∀b,vS.ownBlock=some b->gs<b));exact⟨0,_,rfl,yZ _,rfl,Hx ⟨I5.o,BS.o,S0.o,fun b hb=>by cases hb⟩⟩;obtain⟨n2,vS,rfl,zB,rfl,J⟩:=hrel;by_cases vp:n2<K
 ·(have nN:(n2:Int)<(K:Int):=by omega);have n0:(0:Int)<=(n2:Int):=qO;obtain⟨gf,vZ⟩:∃gf,AF=(sA gf):=(by (have qa:=J.o.1.tab.ay;rw[qh.o]at qa;obtain⟨g',c',zj,e1,_⟩:=iD qa (show 0<T.ay.length by omega);injection e1 with e1);exact⟨g',e1⟩);subst vZ;have qa:=J.o.1.tab.ay;rw[qh.o,show(fK T (T.iq+1)).ay.length=K from ES]at qa;have qf:wr.cell? (aD gf n2)=some (vI (Sx.cu T.ay n2:Nat)):=gJ qa vp;have NX:=Hx (sB T (aO L.m ts) n2);have zv:Sx.cu T.ay n2<=1000000000000:=zd.o n2 vp;generalize hx:Sx.cu T.ay n2=x at*;have x0:decide ((0:Int)<=(x:Int))=true:=yO qO;have b7:wr.cell? (aD (gl+1) 0)=some (.s (sA gl) L.m L.m):=J.o.1.bv.cell 0;by_cases qQ:x<L.m
  ·have x1:decide ((x:Int)<(L.m:Int))=true:=yO qO;have xN:(x:Int)<(L.m:Int):=qO;have xp:(0:Int)<=(x:Int):=qO;obtain⟨ny,Y1,my,fy,qX,qM,qH,⟨s0,s1,s2⟩,_,hy⟩:=J.o.1.qb.at_ (aZ (show x<(aO L.m ts).length by rw[kB];exact qQ));have SG:=Hx (dA ny Y1 my fy qX qM qH (Sx.at_ (aO L.m ts) x) wr hy);go_wp2_with fail;refine SG.o.mono ?_;rintro e w6 ⟨rfl,x6⟩;by_cases q6:Sx.at_ (aO L.m ts) x=0;{have qJ:aB (Sx.at_ (aO L.m ts) x)=0:=(iC _).2 q6;rw[qJ];have J6:Hid (eP w w6 B L (fK T (T.iq+1)) gt gl nc AC lc cc Dk Di cc' (aO L.m ts)/\ak w6 gs 42 #[vS]/\w6.ownsRow w.heap.size 3 1 vS (Sx.Ay T (aO L.m ts) (n2+1)).length (ints (Sx.Ay T (aO L.m ts) (n2+1)))/\∀b,vS.ownBlock=some b->gs<b):=Hx (by rw[NX.o,qF (fun h=>h.2 q6)];exact⟨J.o.1.K x6,J.o.2.1.K x6,(eE (S:=fun _=>False) x6).own J.o.2.2.1 (fun _ _ h=>h),J.o.2.2.2⟩);go_wp2;go_roundg (K-(n2+1));exact⟨n2+1,vS,rfl,qO,by go_num,J6⟩;omega}
   have qJ:¬aB (Sx.at_ (aO L.m ts) x)=0:=fun h=>q6 ((iC _).1 h);have vF:(aB (Sx.at_ (aO L.m ts) x) !=0)=true:=(by simpa using qJ);have zn:decide (aB (Sx.at_ (aO L.m ts) x)=0)=false:=yP qJ;have zk:(aB (Sx.at_ (aO L.m ts) x)==0)=false:=(by simpa using qJ);have v2:=Hx (show Sx.Ay T (aO L.m ts) (n2+1)=Sx.Ay T (aO L.m ts) n2++[n2] by rw[NX.o,qE ⟨by rw[kB];exact qQ,q6⟩]);generalize aB (Sx.at_ (aO L.m ts) x)=sy at*;have J6:=Hx (show eP w w6 B L (fK T (T.iq+1)) gt gl nc AC lc cc Dk Di cc' (aO L.m ts)/\ak w6 gs 42 #[vS]/\w6.ownsRow w.heap.size 3 1 vS (Sx.Ay T (aO L.m ts) n2).length (ints (Sx.Ay T (aO L.m ts) n2))from
    ⟨J.o.1.K x6,J.o.2.1.K x6,(eE (S:=fun _=>False) x6).own J.o.2.2.1 (fun _ _ h=>h)⟩)
   have vg:=Hx J.o.2.2.2;have v6:gs<w6.heap.size:=J6.o.2.1.lt;have g0:w6.cell? (aD gs 0)=some vS:=J6.o.2.1.cell 0;have zp:(Sx.Ay T (aO L.m ts) n2).length<=K:=(by have:=jzfa T (aO L.m ts) n2;omega);have XC:=Hx ((eR w6).alloc (.cells #[vI (n2:Int)] 3));have BC:=Hx (eN w6 3 #[vI (n2:Int)]);have VB:=Hx ((eE (S:=fun _=>False) XC.o).own J6.o.2.2 (fun _ _ h=>h));(go_wp2_with (at_builtin;refine kS _ 42 3 _ 1 8 rfl _ _ rfl underlying42 Tryz.Cz rfl qD w.heap.size vS (Sx.Ay T (aO L.m ts) n2).length (ints (Sx.Ay T (aO L.m ts) n2)) rfl VB.o [vI (n2:Int)] rfl (by simp[Value.oneCell']) w6.heap.size rfl BC.o (by unfold maxLen;omega) qO (by have:=J6.o.1.fr.size;have:=XC.o.size;omega) ?_));intro g9 c9 w9 qm qB vm;have vl:∀b,vS.ownBlock=some b->w.heap.size<=b:=fun b hb=>(VB.o.lt b hb).1;have k9:=eG (S:=fun b=>vS.ownBlock=some b) qB fun g e=>e;have n9:oh (fun b=>vS.ownBlock=some b) (w6.alloc (.cells #[vI (n2:Int)] 3)) 196:=fun b hb=>bQ VB.o hb qD;have J8:=Hx ((J6.o.1.K XC.o).far k9 n9 fun b hb=>by have h1:=vl b hb;have h2:=vg.o b hb;have h3:=GB.o;exact⟨h1,PG.o b h1,qO,qO,qO,qO⟩)
   have qV:=Hx (k9.blk (J6.o.2.1.K XC.o) fun hb=>by have:=vg.o gs hb;omega);have z9:w9.frozen? (aD gs 0)=false:=qV.o.frozen _;have y9:w9.cell? (aD gs 0)=some vS:=qV.o.cell 0;have vz:fu (fun b=>b=gs) w9 (w9.setCell (aD gs 0) (.s (sA g9) ((Sx.Ay T (aO L.m ts) n2).length+1) c9)):=eG (aM w9 gs 0 _) fun g e=>(by injection e with e;exact e.symm);have zb:=Hx (show eP w (w9.setCell (aD gs 0) (.s (sA g9) ((Sx.Ay T (aO L.m ts) n2).length+1) c9)) B L (fK T (T.iq+1)) gt gl nc AC lc cc Dk Di cc' (aO L.m ts)/\ak (w9.setCell (aD gs 0) (.s (sA g9) ((Sx.Ay T (aO L.m ts) n2).length+1) c9)) gs 42 #[.s (sA g9) ((Sx.Ay T (aO L.m ts) n2).length+1) c9]/\
     (w9.setCell (aD gs 0) (.s (sA g9) ((Sx.Ay T (aO L.m ts) n2).length+1) c9)).ownsRow w.heap.size 3 1 (.s (sA g9) ((Sx.Ay T (aO L.m ts) n2).length+1) c9) (Sx.Ay T (aO L.m ts) (n2+1)).length (ints (Sx.Ay T (aO L.m ts) (n2+1)))/\
     ∀b,(Value.slice (sA g9) ((Sx.Ay T (aO L.m ts) n2).length+1) c9).ownBlock=some b->gs<b from by
    refine⟨J8.o.far vz (oh.one qV.o qD) (fun b hb=>?_),qV.o.sT 0 _,?_,fun b hb=>?_⟩
    ·
     subst hb
     have h3:=GB.o;exact⟨vx,PG.o _ vx,qO,qO,qO,qO⟩
    ·
     rw[<-hgt]at qm
     rw[v2.o,yQ,J5,gU];refine vz.own qm fun b hb e=>?_;obtain⟨zA,q1⟩:=aT qm hb;rw[e]at q1;exact absurd (bI q1 qV.o).2 qD
    injection hb with hb
    have hb:g9=b:=hb;subst hb;rcases vm with h1|h1
    ·
     exact vg.o _ h1.symm
    have:=XC.o.size;omega)
   go_wp2;go_roundg (K-(n2+1));exact⟨n2+1,_,rfl,qO,by go_num,zb⟩;omega
  have x1:decide ((x:Int)<(L.m:Int))=false:=yP qO;have J6:Hid (eP w wr B L (fK T (T.iq+1)) gt gl nc AC lc cc Dk Di cc' (aO L.m ts)/\ak wr gs 42 #[vS]/\wr.ownsRow w.heap.size 3 1 vS (Sx.Ay T (aO L.m ts) (n2+1)).length (ints (Sx.Ay T (aO L.m ts) (n2+1)))/\∀b,vS.ownBlock=some b->gs<b):=Hx (by rw[NX.o,qF (fun h=>qQ (by have:=h.1;rw[kB]at this;exact this))];exact J.o);go_wp2;go_roundg (K-(n2+1));exact⟨n2+1,vS,rfl,qO,by go_num,J6⟩;omega
 obtain rfl:K=n2:=qO;generalize wr=W6 at*;have vL:=Hx (kB L.m ts);have ve:=Hx HT.o.2.2.2;generalize hvals:aO L.m ts=vals at*;have q5:=Hx (show Sx.Ay T vals K=Sx.Ay T vals T.ay.length by rw[ES]);generalize Sx.Ay T vals K=js at*;have vo:Hid (∀b,L.S b->b≠gt/\b≠gl/\b≠gl+1/\b≠gs/\vS.ownBlock≠some b):=Hx (fun b hb=>by have h1:=(H.o.1.ty hb).2.1;refine⟨qO,qO,qO,qO,fun e=>?_⟩;have:=(J.o.2.2.1.lt b e).1;omega);have LT:Hid (∀b,W6.heap.size<=b->b≠gt/\b≠gl/\b≠gl+1/\b≠gs/\vS.ownBlock≠some b):=Hx (fun b hb=>by have h1:=J.o.1.bt.lt;have h2:=J.o.1.bv.lt;have h3:=J.o.2.1.lt;refine⟨qO,qO,qO,qO,fun e=>?_⟩;have:=(J.o.2.2.1.lt b e).2;omega)
 have qx:T.rows.length=L.m:=H.o.1.rl;have R0:=Hx (show gR W6 W6 B L L (dI T vals 0)/\gQ W6 w.heap.size L gt gl gs vals vS js from
  ⟨⟨by rw[jzma];exact J.o.1.tab,⟨rfl,rfl,rfl,rfl,rfl⟩,fun b hb=>.inl hb,fu.refl _ _⟩,J.o.1.bt,J.o.1.bv,J.o.1.qb,J.o.2.1,J.o.2.2.1⟩)
 have v3:B<=W6.heap.size:=(by have:=J.o.1.fr.size;omega);obtain⟨cp,qe,_,p0,p1,p2,p7⟩:=J.o.1.tab.DV;rw[HV.o.1]at p0;have q0:=(qe.cell 0).trans p0;have t0:W6.cell? (aD gt 0)=some (.pointer (sA L.p)):=J.o.1.bt.cell 0;go_wp2;go_loopg [14,89] L.m (fun q _ it wx=>∃(n:Nat) (Ln:aQ),L.m-n=q/\n<=L.m/\it=vI (n:Int)/\Hid (gR W6 wx B L Ln (dI T vals n)/\gQ wx w.heap.size L gt gl gs vals vS js));exact⟨0,L,rfl,yZ _,rfl,R0⟩;obtain⟨n,Ln,rfl,hn,rfl,I⟩:=hrel;have vq:B<=wr.heap.size:=yY v3 I.o.1.fr.size;have AK:Hid (∀wx,Ext wr wx->gQ wx w.heap.size L gt gl gs vals vS js):=Hx (fun wx hx=>I.o.2.fr (S:=fun _=>False) (eE hx) (fun b hb=>hb.elim) (fun b hb=>hb.elim));by_cases vu:n<L.m
 ·(have nN:(n:Int)<(L.m:Int):=by omega);have n0:(0:Int)<=(n:Int):=qO;have qg:Hid (∀wx,Ext wr wx->wx.C gt 0 (.pointer (sA L.p))/\wx.C L.p 0 (.s (sA g) L.m cr)/\wx.C L.p 1 (.s (sA gb) L.m cb)/\wx.C gb n (vI (Sx.cu T.bn n:Nat))):=Hx (fun wx hx=>by have I':=I.o.1.K hx;obtain⟨e1,e2,e3,e4,e5⟩:=I'.loc;obtain⟨cp,qe,_,p0,p1,p2,p7⟩:=I'.tab.DV;have qa:=I'.tab.bn;rw[e1]at qe;rw[e2,HV.o.1]at p0;rw[e3,HV.o.2]at p1;rw[e3,HV.o.2,e5]at qa;exact⟨(AK.o wx hx).bt.cell 0,(qe.cell 0).trans p0,(qe.cell 1).trans p1,gJ qa vu⟩)
  have ze:=Hx (show∀wx,Ext wr wx->Calls prog 136 #[.pointer (some (aD g (n*4))),vI (Sx.cu T.bn n:Nat),.pointer (sA (gl+1)),.pointer (sA gs),.pointer (sA gt)] wx
    (fun e w'=>e=.returned (.tuple #[])/\∃L2,gR W6 w' B L L2 (dI T vals (n+1))/\gQ w' w.heap.size L gt gl gs vals vS js)from fun wx hx=>
   jznr n g cr (I.o.1.K hx) (AK.o wx hx) q5.o qx (yY vq hx.size) vo.o LT.o vu HV.o.1 H.o.2.1 H.o.2.2 hP1 hP hm qO vL.o ve.o hjl)
  have XD:Hid (Ext wr wr.drew):=Hx ((eR wr).drewN 1);have eu:=Hx (qg.o _ XD.o);(go_upto_region 20 with fail);refine wX qg 14 ?_;refine wP 0 ?_;refine wU [14,6,4,3,2] 1 ?_;refine wP 2 ?_;refine wP 3 ?_;refine wU [14,6] 4 ?_;refine wP 5 ?_;refine wP 6 ?_;refine wU [14,13,12,10,9,8] 7 ?_;refine wP 8 ?_;refine wP 9 ?_;refine wU [14,13,12] 10 ?_;refine wP 11 ?_;refine wP 12 ?_;refine wV 13 ?_;refine bE qK rfl qR (fun KK hK=>?_);go_simp;refine(ze.o _ XD.o).mono ?_;rintro e w9 ⟨rfl,L2,I9,A9⟩;have I9:=Hx (ah I9 A9);refine hK.o _ _ ?_;refine wpAny_done qK ?_ _;go_wp2;go_roundg (L.m-(n+1));exact⟨n+1,L2,rfl,qO,by go_num,I9⟩;omega
 have e9:n=L.m:=qO;subst e9;have vk:=Hx (jzns (B0:=w.heap.size) I.o.1 I.o.2 q5.o qx vq vo.o LT.o H.o.2.1 H.o.2.2 hP1 hP hm qO vL.o ve.o hjl);have t0:wr.cell? (aD gt 0)=some (.pointer (sA L.p)):=I.o.2.bt.cell 0;go_wp2_with fail;refine(vk.o).mono ?_;rintro e w9 ⟨rfl,L2,g2,c2,vG,I9,A9⟩;rw[ES]at vG;obtain⟨e1,e2,e3,e4,e5⟩:=I9.loc;have I9:=Hx (ah vG (ah I9 A9));have E5:=Hx (ah e1 (ah e4 e5));have t0:w9.cell? (aD gt 0)=some (.pointer (sA L.p)):=I9.o.2.2.bt.cell 0;obtain⟨cp,qe,⟨nr,R1,m1,d1,zq,zx,zt,r0,r1,r2,r3,zy⟩,p0,p1,p2,p7⟩:=I9.o.2.1.tab.DV;rw[e1]at qe;rw[e4,qh.o]at p2;rw[e5,I9.o.1]at r0;have q2:w9.cell? (aD L.p 2)=some (.s AF K cf):=(qe.cell 2).trans p2;have q3:w9.cell? (aD L.p 3)=some (.s (sA g2) (K+1) c2):=(qe.cell 3).trans r0;have qI:T.goal.co.length=K:=(by rw[H.o.2.1.gl];exact ES);have v8:Hid (dx (Sx.uy T vals T.goal.co 0 js) 30000000):=Hx (by have h1:=wK (T:=T) (X:=T.goal.co) (vals:=vals) (base:=0) (js:=js) (P:=P) H.o.2.2.go ve.o ((show dx 0 1 from⟨qD,qD⟩).mono hP1) (fun j hj=>by have h2:=q5.o▸hj;have h3:=lX T vals _ j h2;rw[qI];omega) js.length (yX _);unfold gK at h1;rw[yU (yX _)]at h1;refine h1.mono ?_;have:js.length*(2*P+1)<=1000*20001:=DK qO qO;omega);have vt:(T.goal.co++[Sx.uy T vals T.goal.co 0 js])[K]?=some (Sx.uy T vals T.goal.co 0 js):=(by rw[yS qO,qI,Nat.sub_self];rfl);have qi:=I9.o.2.1.tab.go;rw[e5,I9.o.1]at qi;have qi:OQ QR 33 w9 B (.s (sA g2) (K+1) c2) (T.goal.co++[Sx.uy T vals T.goal.co 0 js]):=qi;obtain⟨ny,Y1,my,fy,qX,qM,qH,⟨s0,s1,s2⟩,_,hy⟩:=qi.cell vt;have FC:Hid (fu L.S w w9/\aC w9 nc AC lc cc Dk Di cc' cost/\ak w9 (gt+1) 33 #[.bool nc,.s AC lc cc,.s Dk Di cc']):=Hx (by have k1:=J.o.1.fr.tr I9.o.2.1.fr fun b hb=>.inl hb;exact⟨k1,k1.oz H.o.1.IV HT.o.1,I9.o.2.1.fr.blk J.o.1.bc (PG.o _ qO)⟩)
 obtain⟨l1,zz⟩:=hy.lens v8.o;obtain⟨l2,zC⟩:=FC.o.2.1.lens hcsz;have RF:=Hx hy;have qg:=Hx (show∀wx,Ext w9 wx->wx.C gt 0 (.pointer (sA L.p))/\wx.C L.p 3 (.s (sA g2) (K+1) c2)/\(wx.C g2 (K*3) (.bool ny)/\wx.C g2 (K*3+1) (.s Y1 my fy)/\wx.C g2 (K*3+2) (.s qX qM qH))/\
   (wx.C (gt+1) 0 (.bool nc)/\wx.C (gt+1) 1 (.s AC lc cc)/\wx.C (gt+1) 2 (.s Dk Di cc'))from fun wx hx=>
  ⟨aA hx t0,aA hx q3,⟨aA hx s0,aA hx s1,aA hx s2⟩,((FC.o.2.2.K hx).t3).1⟩)
 (have XD:Hid (Ext w9 w9.drew):=Hx ((eR w9).drewN 1);have eu:=Hx (qg.o _ XD.o);have zm:(K:Int)<(K:Int)+1:=qO;have zu:(0:Int)<=(K:Int):=by omega);(go_upto_region 24 with fail);refine wX qg 17 ?_;refine wV 0 ?_;refine wP 1 ?_;refine wP 2 ?_;refine wP 3 ?_;refine wV 4 ?_;refine wP 5 ?_;refine wV 6 ?_;refine wP 7 ?_;refine wP 8 ?_;refine wP 9 ?_;refine wV 10 ?_;refine wP 11 ?_;refine wP 12 ?_;refine wV 13 ?_;refine wV 14 ?_;refine wC 15 rfl (fun KK hK=>?_);go_simp;refine(pY ny nc Y1 my fy qX qM qH AC lc cc Dk Di cc' (Sx.uy T vals T.goal.co 0 js) cost _ (RF.o.K XD.o) (FC.o.2.1.K XD.o) qO qO qO qO).mono ?_;rintro e qz ⟨vj,vi,q9,vd,qp,qn,qw,rfl,v5,v7⟩;have qy:Hid (Ext w9 qz):=Hx (XD.o.tr v7);have eu:=Hx (qg.o _ qy.o);have qZ:Hid (aH (((qz.setCell (aD g2 (K*3)) (.bool vj)).setCell (aD g2 (K*3+1)) (.s vi q9 vd)).setCell (aD g2 (K*3+2)) (.s qp qn qw)) B L2 (fJ (dI T vals L.m) ⟨T.goal.co++[Sx.uy T vals T.goal.co 0 js-cost],T.goal.re⟩)/\fu L2.S qz (((qz.setCell (aD g2 (K*3)) (.bool vj)).setCell (aD g2 (K*3+1)) (.s vi q9 vd)).setCell (aD g2 (K*3+2)) (.s qp qn qw))):=Hx (by have h1:=(I9.o.2.1.tab.K qy.o).Ll (gv:=g2) (K:=K+1) (cv:=c2) (n:=K) (by rw[E5.o.2.2];exact I9.o.1) (by show(T.goal.co++[_]).length=_;rw[yQ,qI];rfl) qO v5;have h2:(T.goal.co++[Sx.uy T vals T.goal.co 0 js]).set K (Sx.uy T vals T.goal.co 0 js-cost)=T.goal.co++[Sx.uy T vals T.goal.co 0 js-cost]:=(by rw[List.set_append_right _ _ qO,qI,Nat.sub_self];rfl);have h3:(fJ (dI T vals L.m) ⟨T.goal.co++[Sx.uy T vals T.goal.co 0 js],T.goal.re⟩).goal.co.set K (Sx.uy T vals T.goal.co 0 js-cost)=T.goal.co++[Sx.uy T vals T.goal.co 0 js-cost]:=h2;rw[h3]at h1;exact h1);have qi:=(I9.o.2.1.tab.K qy.o).go;rw[E5.o.2.2,I9.o.1]at qi;have qi:OQ QR 33 qz B (.s (sA g2) (K+1) c2) (T.goal.co++[Sx.uy T vals T.goal.co 0 js]):=qi;obtain⟨_,_,_,_,_,_,_,_,⟨z0,z1,z2⟩,_⟩:=qi.cell vt;refine hK.o _ _ eu.o ?_;refine wP 16 ?_;obtain⟨_,_,⟨t0,t1,t2⟩,_⟩:=eu.o;refine bE qK rfl qR (fun KK hK=>?_);go_simp;refine hK.o _ _ ?_;refine wpAny_done qK ?_ _;generalize ((qz.setCell (aD g2 (K*3)) (.bool vj)).setCell (aD g2 (K*3+1)) (.s vi q9 vd)).setCell (aD g2 (K*3+2)) (.s qp qn qw)=Ia at*;have qU:Hid (∀b,L2.S b->b≠gt):=Hx (fun b hb=>by (rcases I9.o.2.1.far b hb with h1|h1);{exact(vo.o b h1).1};exact(LT.o b h1).1);have vO:=Hx (qZ.o.2.blk (I9.o.2.2.bt.K qy.o) fun hb=>qU.o _ hb rfl);have t0:Ia.cell? (aD gt 0)=some (.pointer (sA L.p)):=vO.o.cell 0;have qg:Hid (∀wx,Ext Ia wx->wx.C gt 0 (.pointer (sA L.p))/\wx.C L.p 2 (.s AF K cf)):=Hx (fun wx hx=>by obtain⟨cp,qe,_,p0,p1,p2,p7⟩:=(qZ.o.1.K hx).DV;rw[E5.o.1]at qe;rw[E5.o.2.1,qh.o]at p2;exact⟨aA hx t0,(qe.cell 2).trans p2⟩);have XD:Hid (Ext Ia Ia.drew):=Hx ((eR Ia).drewN 1);have XB:Hid (Ext Ia (Ia.alloc (.cells #[vI ((L.m:Int)+(T.iq:Int))] 3)).drew):=Hx (((eR Ia).alloc _).drewN 1);have eu:=Hx (qg.o _ XD.o);(go_upto_region 25 with fail);refine wX qg 10 ?_;refine wV 0 ?_;refine wV 1 ?_;refine wP 2 ?_;refine wP 3 ?_;refine wV 4 ?_;refine wP 5 ?_;refine wC 6 rfl (fun KK hK=>?_);go_simp;have qW:=Hx (qg.o _ XB.o);refine hK.o _ _ qW.o ?_;have eu:=qW;have BW:Hid (ak (Ia.alloc (.cells #[vI ((L.m:Int)+(T.iq:Int))] 3)).drew Ia.heap.size 3 #[vI ((L.m:Int)+(T.iq:Int))]):=Hx (eN Ia _ _);generalize (Ia.alloc (.cells #[vI ((L.m:Int)+(T.iq:Int))] 3)).drew=Lp at*;have qT:=Hx (qZ.o.1.K XB.o);have qa:=qT.o.ay;rw[E5.o.2.1,qh.o]at qa;have qa:Lp.ownsRow B 3 1 (.s AF K cf) T.ay.length (ints T.ay):=qa;rw[ES]at qa;have zh:B<=Lp.heap.size:=(by have:=qT.o.lo;have:=(qT.o.ty (.inl rfl)).2.1;omega);refine wC 7 rfl (fun KK hK=>?_);refine lT Lp 42 3 _ 1 8 _ _ rfl underlying42 Tryz.Cz rfl qD B (.s AF K cf) K (ints T.ay) qR qa [vI ((L.m:Int)+(T.iq:Int))] rfl (by simp[Value.oneCell']) Ia.heap.size qR BW.o (by unfold maxLen;omega) qO zh ?_;intro g7 c7 w7 vc qj qC;have k7:Hid (fu (fun b=>(Value.slice AF K cf).ownBlock=some b) Lp w7):=Hx (eG qj fun g e=>e);have za:Hid (∀b,(Value.slice AF K cf).ownBlock=some b->L2.S b):=Hx (fun b hb=>.inr (.inr (.inr (.inl (by rw[E5.o.2.1,qh.o];exact hb)))));obtain⟨cp,qe,_,p0,p1,p2,p7⟩:=qT.o.DV;have qo:=k7.o.blk qe fun hb=>bQ qa hb qD _ _ qe;rw[E5.o.1]at qo;rw[E5.o.2.1,qh.o]at p2;have FP:Hid (aH (w7.setCell (aD L.p 2) (.s (sA g7) (K+1) c7)) B (L2.Jz (.s (sA g7) (K+1) c7)) (Sx.Aa T cost vals)/\fu L2.S Lp (w7.setCell (aD L.p 2) (.s (sA g7) (K+1) c7))):=Hx (by have h1:=qT.o.Jf (g7:=g7) (c7:=c7) (num:=L.m+T.iq) (w7:=w7) (by show w7.ownsRow B 3 1 (.s (sA g7) (T.ay.length+1) c7) (T.ay.length+1) (ints T.ay++[vI ((L.m+T.iq:Nat):Int)]);rw[ES,Jo];exact vc) (by rw[E5.o.2.1,qh.o];exact qj) (by rw[E5.o.2.1,qh.o];exact qC.imp id fun e=>Nat.le_of_eq e.symm);have h2:=jznt (vals:=vals) qx cost;rw[<-q5.o]at h2;have h3:(fJ (dI T vals L.m) ⟨T.goal.co++[Sx.uy T vals T.goal.co 0 js-cost],T.goal.re⟩).ay=T.ay:=rfl;rw[h3,h2,ES,E5.o.1]at h1;exact h1);have qt:Hid (∀b,L2.S b->L.S b\/w.heap.size<=b):=Hx (fun b hb=>(I9.o.2.1.far b hb).imp id fun h=>yY J.o.1.fr.size h);have v9:Hid (∃L':aQ,L'.p=L.p/\L'.m=L.m/\aH (w7.setCell (aD L.p 2) (.s (sA g7) (K+1) c7)) B L' (Sx.Aa T cost vals)/\fu L.S w (w7.setCell (aD L.p 2) (.s (sA g7) (K+1) c7))/\∀b,L'.S b->L.S b\/gt<=b):=Hx (by rw[<-hgt];refine⟨L2.Jz (.s (sA g7) (K+1) c7),E5.o.1,E5.o.2.2,FP.o.1,((((FC.o.1.tr (eE (S:=L.S) qy.o) fun b hb=>.inl hb).tr qZ.o.2 qt.o).tr (eE (S:=L.S) XB.o) fun b hb=>.inl hb).tr FP.o.2 qt.o),?_⟩;refine jznu (W6:=w) (wx:=Lp) qt.o ?_ ?_;{have h1:=FC.o.1.size;have h2:=qy.o.size;have h3:=qZ.o.2.size;have h4:=XB.o.size;omega};rw[E5.o.2.1,qh.o];exact qC.imp id fun e=>Nat.le_of_eq e.symm)
 have qk:=Hx (show w7.C gt 0 (.pointer (sA L.p))/\w7.cell? (aD L.p 2)=some (.s AF K cf)from
  ⟨(k7.o.blk (vO.o.K XB.o) fun hb=>qU.o _ (za.o _ hb) rfl).cell 0,(qo.cell 2).trans p2⟩)
 have z0:w7.frozen? (aD L.p 2)=false:=qo.frozen _;have t0:w7.cell? (aD L.p 2)=some (.s AF K cf):=qk.o.2;refine hK.o _ _ qk.o ?_;have eu:=qk;refine wP 8 ?_;refine wP 9 ?_;refine bE qK rfl qR (fun KK hK=>?_);go_simp;refine hK.o _ _ ?_;refine wpAny_done qK ?_ _;go_wp2;(go_end0);obtain⟨L9,f1,f2,f3,f4,f5⟩:=v9.o;refine⟨L9,rfl,f1,f2,?_,f4,?_⟩;{rw[hvals];exact f3};rw[hgt];exact f5
def sC t AO(co:Nat)AL(cl:Nat)(a:Nat)w(ht:aR w t AO co AL cl)(hv:aG t=true)(ha:a<2*t.links.length):
  Calls prog 48 #[.agg #[vI t.nodes,.s AO t.over.length co,.s AL t.links.length cl],vI (a:Int)] w (eM w (aV t a)):=by
 obtain⟨hl,_,_,_,k5,k6,k7⟩:=kV hv ha;have qf:=ht.ll;have qg:=ht.cl;obtain⟨lk,qe⟩:∃lk,t.links[a/2]?=some lk:=⟨_,yG hl⟩;have e0:t.links[a/2]=lk:=(yH.1 qe).2;rw[e0]at k5 k6 k7;obtain⟨b,o,rfl,hb,_,_,_,_,c4,_,_⟩:=ht.link qe;have HQ:=Hx k5;obtain⟨b0,b1,e1⟩:=cN w #[vI t.nodes,.s AO t.over.length co,.s (some (aD b o)) t.links.length cl] 25 rV 33;have i2:=b0.cell 2;have BB:=Hx (ah b1 e1);have c4:=aA e1 c4;clear ht hv qe e0 k5 b0 b1 e1;go_enter func48,ntmps48;go_wp2_with fail;refine(kC lk.cap _ ⟨qO,qO⟩).mono ?_;rintro e w1 ⟨neg,A,n,c,A',n',c',rfl,hR,hx⟩;have B1:=BB.o.1.K hx;have F:=Hx (eY (w:=w) hR B1 qO (BB.o.2.tr hx));obtain⟨⟨j0,j1,j2⟩,z0,z1,z2⟩:=B1.t3;have qa:=((B1.sT 0 (.bool neg)).sT 1 (.s A n c)).sT 2 (.s A' n' c');have HB:=Hx qa;clear hR hx B1 qa;go_wp2;have qa:=HB.o;refine bodyPost_ret (v:=.agg #[.bool neg,.s A n c,.s A' n' c']) (by simp[results,results48,go_sem,qa.cell]) rfl ⟨neg,A,n,c,A',n',c',rfl,?_⟩;rw[HQ.o];exact F.o
def eX(L2 D:Nat)(cap:Nat->Rat)(n:Nat):LQ:=(List.range (L2+D)).map fun i=>if i<n then cap i else 0
def jzfj(L2 D:Nat)(cap:Nat->Rat)(n:Nat):(eX L2 D cap n).length=L2+D:=by unfold eX;simp
def jznx(L2 D:Nat)(cap:Nat->Rat):eX L2 D cap 0=List.replicate (L2+D) 0:=by
 unfold eX;apply uK;intro i;rw[yW,xB];by_cases h:i<L2+D;{rw[xJ h,qE h];simp};rw[yI (by simp;omega),qF h];rfl
def jzny(L2 D:Nat)(cap:Nat->Rat){n:Nat}(hn:n<L2+D):(eX L2 D cap n).set n (cap n)=eX L2 D cap (n+1):=by
 unfold eX;apply uK;intro i;by_cases h:i<L2+D;{rw[yW,xJ h];by_cases e:n=i;{subst e;rw[yM (by simpa using h)];simp};rw[vN e,yW,xJ h];simp only[Gu];by_cases h2:i<n;{rw[qE h2,qE qO]};rw[qF h2,qF qO]};rw[yI (by simp;omega),yI (by simp;omega)]
def jznz(L2 D:Nat)(cap:Nat->Rat){i:Nat}(hi:i<L2+D):Sx.at_ (eX L2 D cap L2) i=Sx.fb L2 cap i:=by
 unfold eX Sx.at_ Sx.fb;rw[yW,xJ hi];rfl
def dx.int{n:Int}(h:n.natAbs<dh):dx (n:Rat) 1:=by
 refine⟨?_,?_⟩;{rw[Rat.num_intCast,Nat.pow_one];exact h};rw[Rat.den_intCast,Nat.pow_one];unfold dh;omega
def jzfk(bs:LQ){P:Nat}(hP:1<=P)(h:∀q∈bs,dx q P):Km (Sx.newT bs)/\Kl (Sx.newT bs) P:=by
 have h0:dx 0 P:=dx.zero.mono hP;have qa:∀i,i<(Sx.newT bs).rows.length->((Sx.newT bs).row i).co=[]/\dx ((Sx.newT bs).row i).re P:=fun i hi=>(by have hi:i<(bs.map fun b=>(⟨[],b⟩:Sx.Rw)).length:=hi;rw[xV]at hi;have e:(Sx.newT bs).row i=⟨[],bs[i]⟩:=(by show((bs.map fun b=>(⟨[],b⟩:Sx.Rw))[i]?).getD _=_;rw[yW,yG hi];rfl);rw[e];exact⟨rfl,h _ (xR hi)⟩);refine⟨⟨fun i hi=>by rw[(qa i hi).1];rfl,rfl⟩,⟨fun i hi q hq=>?_,fun i hi=>(qa i hi).2,(fun q hq=>by cases hq),h0⟩⟩;rw[(qa i hi).1]at hq;cases hq
def aH.mono{w}{B B':Nat}{L:aQ}{T:Sx.Tb}(h:aH w B L T)(hB:B'<=B):aH w B' L T:=by
 have oq:∀{v:Value} {qs:LQ},OQ QR 33 w B v qs->OQ QR 33 w B' v qs:=fun hq=>(by obtain⟨css,h1,h2,h3,h4⟩:=hq;exact⟨css,h1,h2,h3.mono hB,h4⟩);obtain⟨css,h1,h2,h3,h4⟩:=h.rows;exact⟨h.rl,yY hB h.lo,h.box,⟨css,h1,h2,h3.mono hB,h4⟩,h.bl,h.bn.mono hB,h.ay.mono hB,h.bf,fun i hi=>oq (h.co i hi),oq h.go,h.sep⟩
def jzn0 t AO(co:Nat)AL(cl:Nat)(l:List Dm)AD(cd:Nat)w(ht:aR w t AO co AL cl)(hd:CK w l AD cd)(hf:Fit t l)(hl:t.links.length<=10)(hD:l.length<=4):
  Calls prog 27 #[.agg #[vI t.nodes,.s AO t.over.length co,.s AL t.links.length cl],.s AD l.length cd] w fun e w'=>∃(x mb:Nat) (L:aQ) (T:Sx.Tb),e=.returned (.pointer (sA x))/\CJ w w' x mb t AO co AL cl l AD cd L T zN [] []/\Sx.BH (2*t.links.length) l.length (nk l) (aV t) T []:=by
 have HT:=Hx (ah ht (ah hd hf));have q2:=hd.len;have q4:=ht.ll;obtain⟨qw,e0⟩:=aU w #[vI t.nodes,.s AO t.over.length co,.s AL t.links.length cl] 25;obtain⟨⟨i0,i1,i2⟩,_⟩:=qw.t3;have E0:=Hx (ah qw e0);clear ht hd hf qw e0;have qt:IntKind.i64.wrap (2*(t.links.length:Int)+(l.length:Int))=2*(t.links.length:Int)+(l.length:Int):=(by rw[IntKind.wrap_i64];omega);have qJ:=mP (2*t.links.length+l.length) qO;rw[show((2*t.links.length+l.length:Nat):Int)=2*(t.links.length:Int)+(l.length:Int) by omega]at qJ;go_enter func27,ntmps27;(go_upto_region 1 with fail);generalize w.alloc (.cells #[vI t.nodes,.s AO t.over.length co,.s AL t.links.length cl] 25)=W0 at*;have qV:w.heap.size<W0.heap.size:=E0.o.1.lt;go_wp2_with fail;refine(fQ t AO co AL cl _ (HT.o.1.K E0.o.2)).r fun w1 qx=>?_;have E1:=Hx (ah (E0.o.1.K qx) (E0.o.2.tr qx));clear qx i0 i1 i2;obtain⟨⟨i0,i1,i2⟩,_⟩:=E1.o.1.t3;have Q1:Hid (QB (w1.alloc (.cells (madeCells rV ((2*t.links.length+l.length)*3)) 33)) w1.heap.size (eX (2*t.links.length) l.length (aV t) 0)):=Hx (by rw[jznx];exact QB.made w1 (2*t.links.length+l.length));have X1:=Hx ((eR w1).alloc (.cells (madeCells rV ((2*t.links.length+l.length)*3)) 33));(go_upto_region 2 with fail);generalize w1.alloc (.cells (madeCells rV ((2*t.links.length+l.length)*3)) 33)=W2 at*;have qX:w.heap.size<w1.heap.size:=E1.o.1.lt;have BX:Hid (ak W2 w.heap.size 25 #[vI t.nodes,.s AO t.over.length co,.s AL t.links.length cl]/\Ext w W2):=Hx (⟨E1.o.1.K X1.o,E1.o.2.tr X1.o⟩);clear qJ qt i0 i1 i2;generalize w1.heap.size=g at*;obtain⟨⟨i0,i1,i2⟩,_⟩:=BX.o.1.t3;go_wp2_with fail;refine(fQ t AO co AL cl _ (HT.o.1.K BX.o.2)).r fun w3 qn=>?_;have I3:Hid (QB w3 g (eX (2*t.links.length) l.length (aV t) 0)/\ak w3 w.heap.size 25 #[vI t.nodes,.s AO t.over.length co,.s AL t.links.length cl]/\Ext w w3):=Hx (⟨Q1.o.K qn,BX.o.1.K qn,BX.o.2.tr qn⟩);clear qn i0 i1 i2;go_wp2;go_loopg [6,19] (2*t.links.length) (fun q _ it wx=>∃n:Nat,2*t.links.length-n=q/\n<=2*t.links.length/\it=vI (n:Int)/\Hid (QB wx g (eX (2*t.links.length) l.length (aV t) n)/\ak wx w.heap.size 25 #[vI t.nodes,.s AO t.over.length co,.s AL t.links.length cl]/\Ext w wx));exact⟨0,rfl,yZ _,rfl,I3⟩;obtain⟨n,rfl,hn,rfl,I⟩:=hrel;obtain⟨⟨i0,i1,i2⟩,_⟩:=I.o.2.1.t3;by_cases qy:n<2*t.links.length
 ·(have nN:(n:Int)<2*(t.links.length:Int):=by omega);(have n0:(0:Int)<=(n:Int):=qO;have nM:(n:Int)<2*(t.links.length:Int)+(l.length:Int):=by omega);go_wp2_with fail
  refine(sC t AO co AL cl n _ (HT.o.1.K I.o.2.2) HT.o.2.2.v qy).mono ?_;rintro e w4 ⟨neg,A,k,c,A',k',c',rfl,hR,hx⟩;have qH:n<(eX (2*t.links.length) l.length (aV t) n).length:=(by rw[jzfj];omega);obtain⟨ny,Y1,my,fy,q5,q0,qY,⟨s0,s1,s2⟩,⟨z0,z1,z2⟩,_⟩:=(I.o.1.K hx).at_ (aZ qH);have I4:=Hx (show QB (((w4.setCell (aD g (n*3)) (.bool neg)).setCell (aD g (n*3+1)) (.s A k c)).setCell (aD g (n*3+2)) (.s A' k' c')) g (eX (2*t.links.length) l.length (aV t) (n+1))/\ak (((w4.setCell (aD g (n*3)) (.bool neg)).setCell (aD g (n*3+1)) (.s A k c)).setCell (aD g (n*3+2)) (.s A' k' c')) w.heap.size 25 #[vI t.nodes,.s AO t.over.length co,.s AL t.links.length cl]/\
    Ext w (((w4.setCell (aD g (n*3)) (.bool neg)).setCell (aD g (n*3+1)) (.s A k c)).setCell (aD g (n*3+2)) (.s A' k' c'))from by
   have k3:fu (fun b=>b=g) w4 (((w4.setCell (aD g (n*3)) (.bool neg)).setCell (aD g (n*3+1)) (.s A k c)).setCell (aD g (n*3+2)) (.s A' k' c')):=eG (dC w4 g (n*3) _ _ _) fun g e=>(by injection e with e;exact e.symm);refine⟨?_,k3.blk (I.o.2.1.K hx) qO,k3.ext (I.o.2.2.tr hx) fun b hb=>by rw[hb];omega⟩;rw[<-jzny _ _ _ (show n<2*t.links.length+l.length by omega)];exact(I.o.1.K hx).put qH hR)
  clear hR hx I i0 i1 i2;go_wp2;go_roundg (2*t.links.length-(n+1));exact⟨n+1,rfl,qO,by go_num,I4⟩;omega
 obtain rfl:2*t.links.length=n:=qO;have BL:=Hx (jzfj (2*t.links.length) l.length (aV t) (2*t.links.length));have BA:=Hx (fun i (hi:i<2*t.links.length+l.length)=>jznz (2*t.links.length) l.length (aV t) hi);generalize eX (2*t.links.length) l.length (aV t) (2*t.links.length)=bs at*;have XD:Hid (Ext wr wr.drew):=Hx ((eR wr).drewN 1);have XA:Hid (Ext wr (wr.alloc (.map #[] 0)).drew):=Hx (((eR wr).alloc _).drewN 1);have MA:Hid (BU (wr.alloc (.map #[] 0)).drew wr.heap.size 0 []):=Hx (BU.made wr);have qp:w.heap.size<wr.heap.size:=I.o.2.1.lt;clear hn qy;go_upto_region 7 with fail
 go_cut [7] (fun s wx=>∃(x mb:Nat) (L:aQ),s=.pointer (sA x)/\Hid (ak wx x 83 #[vI t.nodes,.s AO t.over.length co,.s AL t.links.length cl,.s AD l.length cd,.pointer (sA L.p),zN,.map (some mb)]/\BU wx mb 0 []/\aH wx w.heap.size L (Sx.newT bs)/\L.m=2*t.links.length+l.length/\w.heap.size<=x/\w.heap.size<=mb/\
  ak wx w.heap.size 25 #[vI t.nodes,.s AO t.over.length co,.s AL t.links.length cl]/\Ext w wx))
 case first=>
  have qa:Hid (∀wx,Ext wr wx->(wx.C w.heap.size 0 (vI t.nodes)/\wx.C w.heap.size 1 (.s AO t.over.length co)/\wx.C w.heap.size 2 (.s AL t.links.length cl))):=Hx (fun wx hx=>(I.o.2.1.K hx).t3.1);have q1:∀W:World,(Instr.makeMap 81 none).run prog W=.ok (.map (some W.heap.size)) (W.alloc (.map #[] 0)):=fun W=>rfl;obtain⟨c0,c1,c2⟩:=qa.o _ XD.o;obtain⟨y0,y1,y2⟩:=qa.o _ XA.o
  go_region_held3 (fun w'=>w'.C w.heap.size 0 (vI t.nodes)/\w'.C w.heap.size 1 (.s AO t.over.length co)/\w'.C w.heap.size 2 (.s AL t.links.length cl))
   (first|with_reducible exact⟨c0,c1,c2⟩|with_reducible exact⟨y0,y1,y2⟩|with_reducible exact⟨aS c0 _,aS c1 _,aS c2 _⟩|with_reducible exact⟨aS (aS c0 _) _,aS (aS c1 _) _,aS (aS c2 _) _⟩|fail)
   (first
    |(go_at_call 71
      first
      |(with_reducible refine(jzdy (2*t.links.length+l.length) (2*t.links.length+l.length) (sA g) bs BL.o _ (I.o.1.ql.K (by with_reducible exact XD.o)) qO).mono ?_
        rintro e w5 ⟨L,rfl,qj,qz,hT,qm⟩;have E5:=Hx (ah (hT.mono (show w.heap.size<=wr.drew.heap.size from Bg qp)) (ah qj (XD.o.tr qm))))
      |(with_reducible refine(jzdy (2*t.links.length+l.length) (2*t.links.length+l.length) (sA g) bs BL.o _ (I.o.1.ql.K (by with_reducible exact XA.o)) qO).mono ?_
        rintro e w5 ⟨L,rfl,qj,qz,hT,qm⟩;have E5:=Hx (ah (hT.mono (show w.heap.size<=(wr.alloc (.map #[] 0)).drew.heap.size from yY (Bg qp) XA.o.size)) (ah qj (XA.o.tr qm)));have M5:=Hx (MA.o.K qm))
      obtain⟨⟨c0,c1,c2⟩,_⟩:=(I.o.2.1.K E5.o.2.2).t3;clear qm hT qz qj)
    |fail)
  all_goals
   go_wp2;go_meet;have qZ:=E5.o.2.2.size
   first
   |exact⟨_,_,L,rfl,Hx ⟨ak.new' (w5.alloc (.map #[] 0)) _ _ qS,(BU.made w5).K ((eR _).alloc _),(E5.o.1.K ((eR w5).alloc (.map #[] 0))).K ((eR _).alloc _),E5.o.2.1,qO,qO,((I.o.2.1.K E5.o.2.2).K ((eR w5).alloc (.map #[] 0))).K ((eR _).alloc _),((I.o.2.2.tr E5.o.2.2).alloc _).alloc _⟩⟩
   |exact⟨_,_,L,rfl,Hx ⟨eN w5 _ _,M5.o.K ((eR w5).alloc _),E5.o.1.K ((eR w5).alloc _),E5.o.2.1,qO,qO,(I.o.2.1.K E5.o.2.2).K ((eR w5).alloc _),(I.o.2.2.tr E5.o.2.2).alloc _⟩⟩
 obtain⟨x,mb,L,rfl,I7⟩:=hcut;clear I i0 i1 i2 qp;have q6:w.heap.size<=wc.heap.size:=I7.o.2.2.2.2.2.2.2.size;have S0:Hid (Jv wc wc.heap.size zN (EL (2*t.links.length) (nk l) 0)):=Hx (Ak.nil _ _ _ _ _);go_wp2;go_loopg [8,9,10,38] l.length (fun q v8 _ _ it wx=>∃n:Nat,l.length-n=q/\n<=l.length/\it=vI (n:Int)/\Hid (Jv wx wc.heap.size v8 (EL (2*t.links.length) (nk l) n)/\Ext wc wx));exact⟨0,rfl,yZ _,rfl,Hx ⟨S0.o,eR _⟩⟩;obtain⟨n,rfl,hn,rfl,I⟩:=hrel;have q3:wc.heap.size<=wr.heap.size:=I.o.2.size;obtain⟨A8,c8,qC,qT⟩:=I.o.1.form;have qe:(EL (2*t.links.length) (nk l) n).length=n:=(by unfold EL;simp);rw[qe]at qC qT;subst qC;by_cases qI:n<l.length
 ·obtain⟨d,hd⟩:∃d,l[n]?=some d:=⟨_,yG qI⟩;have qQ:=Hx (show((d.amount:Int):Rat)=nk l n by unfold nk;rw[hd]);have qM:i64 d.amount:=(HT.o.2.1.wf d (yJ hd)).2.2.1;obtain⟨b,o,rfl,hb,a0,a1,a2,a3⟩:=(HT.o.2.1.K (I7.o.2.2.2.2.2.2.2.tr I.o.2)).at_ hd;have nN:(n:Int)<(l.length:Int):=qO;have n0:(0:Int)<=(n:Int):=qO;have X8:Hid (Ext wr (wr.alloc (.cells #[vI d.src,vI d.dst,vI d.amount,vI d.prio] 60))):=Hx ((eR wr).alloc _);have B8:=Hx (eN wr 60 #[vI d.src,vI d.dst,vI d.amount,vI d.prio]);clear hd;go_upto_region 12 with fail
  clear a0 a1 a2 a3;generalize wr.alloc (.cells #[vI d.src,vI d.dst,vI d.amount,vI d.prio] 60)=W8 at*;generalize hbd:wr.heap.size=bd at*;have qa:=Hx (show∀wx,Ext W8 wx->(wx.C w.heap.size 0 (vI t.nodes)/\wx.C w.heap.size 1 (.s AO t.over.length co)/\wx.C w.heap.size 2 (.s AL t.links.length cl))/\wx.cell? (aD bd 2)=some (vI d.amount)from fun wx hx=>
   ⟨(((I7.o.2.2.2.2.2.2.1.K I.o.2).K (X8.o.tr hx)).t3).1,(B8.o.K hx).cell 2⟩)
  (have XD:Hid (Ext W8 W8.drew):=Hx ((eR W8).drewN 1);have eu:=Hx (qa.o _ XD.o);refine wX qa 11 ?_;refine wP 0 ?_;try simp only[qN]);refine wV 1 ?_;refine wP 3 ?_;refine wP 5 ?_;(refine wV 6 ?_;try simp only[qN]);(refine wC 2 rfl (fun KK hK=>?_);go_simp;refine(fQ t AO co AL cl _ (HT.o.1.K ((I7.o.2.2.2.2.2.2.2.tr I.o.2).tr (X8.o.tr XD.o)))).r fun w2 x2=>?_;have E2:=Hx (XD.o.tr x2);have eu:=Hx (qa.o _ E2.o);refine hK.o _ _ eu.o ?_;clear hK KK x2;try simp only[qN]);(have qW:IntKind.i64.wrap (2*(t.links.length:Int)+(n:Int))=2*(t.links.length:Int)+(n:Int):=(by rw[IntKind.wrap_i64];omega);refine wP 4 ?_;try simp only[qN]);(refine wC 7 rfl (fun KK hK=>?_);go_simp;refine(kC d.amount _ qM).mono ?_;rintro e w5 ⟨neg,A,k,c,A',k',c',rfl,hR,x5⟩;have E5:=Hx (E2.o.tr x5);have eu:=Hx (qa.o _ E5.o);have R5:=Hx (qQ.o▸hR);refine hK.o _ _ eu.o ?_;clear hK KK x5 hR;try simp only[qN]);(refine wP 8 ?_;try simp only[qN]);refine wC 9 rfl (fun KK hK=>?_);go_simp;have XB:Hid (Ext w5 (w5.alloc (.cells #[vI (2*(t.links.length:Int)+(n:Int)),.bool neg,.s A k c,.s A' k' c'] 128))):=Hx ((eR w5).alloc _);have qi:=Hx (qa.o _ (E5.o.tr XB.o));refine hK.o _ _ qi.o ?_;clear hK KK;have eu:=qi;clear qi;have BW:=Hx (eN w5 128 #[vI (2*(t.links.length:Int)+(n:Int)),.bool neg,.s A k c,.s A' k' c']);have R6:=Hx (R5.o.K XB.o);have E6:=Hx (E5.o.tr XB.o);generalize w5.alloc (.cells #[vI (2*(t.links.length:Int)+(n:Int)),.bool neg,.s A k c,.s A' k' c'] 128)=W6 at*;obtain⟨css,h1,h2,qf,h4⟩:=I.o.1.K (X8.o.tr E6.o) fun cs y hy=>hy.K (X8.o.tr E6.o);rw[qe]at h1 qf;have qU:wc.heap.size<=W6.heap.size:=(by have:=X8.o.size;have:=E6.o.size;omega);refine wC 10 rfl (fun KK hK=>?_);refine lT W6 126 128 _ 4 64 _ _ rfl underlying126 jzfg rfl qD wc.heap.size (.s A8 n c8) n css.flatten qR qf [vI (2*(t.links.length:Int)+(n:Int)),.bool neg,.s A k c,.s A' k' c'] rfl (by simp[Value.oneCell']) w5.heap.size qR BW.o (by unfold maxLen;omega) qO qU ?_;intro g7 c7 w7 qk qg qo;have k7:Hid (fu (fun b=>(Value.slice A8 n c8).ownBlock=some b) W6 w7):=Hx (eG qg fun g e=>e);have n7:Hid (oh (fun b=>(Value.slice A8 n c8).ownBlock=some b) W6 196):=Hx (fun b hb=>bQ qf hb qD);have T7:Hid (Jv w7 wc.heap.size (.s (sA g7) (n+1) c7) (EL (2*t.links.length) (nk l) (n+1))):=Hx (by rw[jzey];refine Ak.pushed (css:=css) (by rw[qe];exact h1) h2 h4 (us:=[vI (2*(t.links.length:Int)+(n:Int)),.bool neg,.s A k c,.s A' k' c']) rfl (fun cs y _ hy=>hy.fr k7.o n7.o) ⟨neg,A,k,c,A',k',c',?_,k7.o.oz n7.o R6.o⟩ (by rw[qe];exact qk);have e9:((2*t.links.length+n:Nat):Int)=2*(t.links.length:Int)+(n:Int):=qO;simp only[e9])
  have X7:Hid (Ext wc w7):=Hx (k7.o.ext (I.o.2.tr (X8.o.tr E6.o)) fun b hb=>(qf.lt b hb).1);have qh:=Hx (show(w7.C w.heap.size 0 (vI t.nodes)/\w7.C w.heap.size 1 (.s AO t.over.length co)/\w7.C w.heap.size 2 (.s AL t.links.length cl))/\w7.cell? (aD bd 2)=some (vI d.amount)from
   ⟨((I7.o.2.2.2.2.2.2.1.K X7.o).t3).1,(k7.o.blk (B8.o.K E6.o) fun hb=>bQ qf hb qD _ _ (B8.o.K E6.o)).cell 2⟩)
  (refine hK.o _ _ qh.o ?_;clear hK KK qk qg qf qo h1 h2 h4 css;have eu:=qh;try simp only[qN]);refine bE qK rfl qR (fun KK hK=>?_);go_simp;refine hK.o _ _ ?_;clear hK KK qh k7 n7 qa;refine wpAny_done qK ?_ _;go_wp2;go_roundg (l.length-(n+1));exact⟨n+1,rfl,qO,by go_num,Hx ⟨T7.o,X7.o⟩⟩;omega
 obtain rfl:l.length=n:=qO;clear hn qI;have qa:Hid (∀wx,Ext wr wx->wx.C x 4 (.pointer (sA L.p))/\True):=Hx (fun wx hx=>⟨(I7.o.1.K (I.o.2.tr hx)).cell 4,trivial⟩);have XD:Hid (Ext wr wr.drew):=Hx ((eR wr).drewN 1);have eu:=Hx (qa.o _ XD.o);(go_upto_region 14 with fail);(refine wX qa 6 ?_;refine wP 0 ?_;try simp only[qN]);refine wP 1 ?_;refine wP 2 ?_;refine wV 3 ?_;(refine wP 5 ?_;try simp only[qN]);refine wC 4 rfl (fun KK hK=>?_);go_simp;refine(kC 1 _ (by unfold i64;omega)).mono ?_;rintro e w5 ⟨neg,A,k,c,A',k',c',rfl,hR,x5⟩;have E5:=Hx (XD.o.tr x5);have eu:=Hx (qa.o _ E5.o);have R5:=Hx hR;refine hK.o _ _ eu.o ?_;clear hK KK x5 hR;try simp only[qN]
 have E7:Hid (Ext wc w5):=Hx (I.o.2.tr E5.o);have FL:=Hx (show CJ w w5 x mb t AO co AL cl l AD cd L (Sx.newT bs) zN [] []from
  ⟨I7.o.2.2.2.2.2.2.2.tr E7.o,HT.o.1,HT.o.2.1,I7.o.1.K E7.o,I7.o.2.2.2.2.1,I7.o.2.2.1.K E7.o,I7.o.2.2.2.1,Ak.nil _ _ _ _ _,I7.o.2.1.K E7.o,I7.o.2.2.2.2.2.1⟩)
 have qj:L.m=2*t.links.length+l.length:=I7.o.2.2.2.1;have TM:Hid (Ip w5 A8 (EL (2*t.links.length) (nk l) l.length)):=Hx (Jv.rd (B:=wc.heap.size) (c:=c8) (by rw[qe];exact I.o.1.K E5.o fun cs y hy=>hy.K E5.o));have SB:Hid (∀q∈bs,dx q 20):=Hx (fun q hq=>by obtain⟨i,hi,rfl⟩:=List.mem_iff_getElem.1 hq;have h1:i<2*t.links.length+l.length:=(by rw[<-BL.o];exact hi);have h2:=BA.o i h1;unfold Sx.at_ Sx.fb at h2;rw[yG hi]at h2;have h2:bs[i]=_:=h2;rw[h2];split;{rename_i h3;obtain⟨h4,_,_,_,h5,h6,h7⟩:=kV HT.o.2.2.v h3;rw[h5];exact(dx.int (by unfold dh;omega)).mono qD};exact dx.zero.mono qD);have AM:Hid (∀d,d<l.length->dx (nk l d) 20):=Hx (fun d hd=>by obtain⟨_,_,_,h4,h5,h6⟩:=HT.o.2.2.am hd;rw[h4];exact(dx.int (by unfold dh;omega)).mono qD)
 have qA:=Hx (jzfi w.heap.size 20 l.length c8 L (Sx.newT bs) w5 FL.o.tab FL.o.ext.size (jzfk bs qD SB.o).1 (jzfk bs qD SB.o).2 qD qD (by have:=HT.o.2.2.n;omega) qO (yZ _) (yZ _)
  1 neg A k c A' k' c' R5.o ((dx.int (n:=1) qD).mono qD) A8 (EL (2*t.links.length) (nk l) l.length) qe TM.o qO (fun tt Gj=>by
    unfold EL at Gj;obtain⟨d,hd,rfl⟩:=Bv.1 Gj;have:=vX.1 hd;simp only;omega) (jze0 _ _ (dx.zero.mono qD) fun tt Gj=>by
    unfold EL at Gj;obtain⟨d,hd,rfl⟩:=Bv.1 Gj;exact AM.o d (vX.1 hd)) (fun j hj=>absurd hj (Nat.not_lt_zero _)) (yZ _))
 have qB:=Hx (show∀(L':aQ) (w9:World),L'.p=L.p->L'.m=L.m->aH w9 w.heap.size L' (Sx.Aa (Sx.newT bs) 1 (aO L.m (EL (2*t.links.length) (nk l) l.length)))->fu L.S w5 w9->(∀b,L'.S b->L.S b\/w5.heap.size<=b)->
   CJ w w9 x mb t AO co AL cl l AD cd L' (Sx.Aa (Sx.newT bs) 1 (aO L.m (EL (2*t.links.length) (nk l) l.length))) zN [] []/\Sx.BH (2*t.links.length) l.length (nk l) (aV t) (Sx.Aa (Sx.newT bs) 1 (aO L.m (EL (2*t.links.length) (nk l) l.length))) []from fun L' w9 h1 h2 h3 h4 h5=>
  ⟨FL.o.Ga h3 h4 h1 h2 h5,by
   rw[qj];exact Sx.BH.start BL.o BA.o (fun a ha=>by
    obtain⟨_,h6,_⟩:=kV HT.o.2.2.v ha;exact h6) (kB _ _) (fun i hi=>jznf _ _ _ i hi)⟩)
 clear TM SB AM FL R5 E7;refine bE qK rfl qR (fun KK hK=>?_);go_simp;refine(qA.o).mono ?_;rintro e w9 ⟨L',rfl,g1,g2,g3,g4,g5⟩;have F9:=Hx (qB.o L' w9 g1 g2 g3 g4 g5);refine hK.o _ _ ?_;clear hK KK qA qB g1 g2 g3 g4 g5 qa;refine wpAny_done qK ?_ _;go_wp2;go_ret;exact⟨x,mb,L',_,rfl,F9.o.1,F9.o.2⟩
def jzfl(p9:LN):dZ (p9.map fun a:Nat=>(a:Int))=ints p9:=by unfold dZ ints;rw[List.map_map];rfl
def jzn1(l:List UInt8):(⟨l.toArray⟩:ByteArray).size=l.length:=by show l.toArray.size=_;simp
def Ak.one{α:Type}{R:World->List Value->α->Prop}{e:TypeId}{s:Nat}{w}{B g:Nat}{us:List Value}{x:α}(hb:ak w g e us.toArray)(hB:B<=g)(Ez:us.length=s)(hR:R w us x):Ak R e s w B (.s (sA g) 1 1) [x]:=by
 refine⟨[us],rfl,fun cs hc=>by rw[xD.1 hc];exact Ez,⟨by simp[Ez],.inr ⟨g,1,us.toArray,rfl,hB,hb,yX _,by unfold maxLen;decide,by simp[Ez],?_⟩⟩,fun i y hi=>?_⟩;{show us.take (1*s)=[us].flatten;rw[xQ,yU qO];simp};(cases i with|zero=>injection hi with hi;subst hi;exact⟨us,rfl,hR⟩|succ i=>cases hi)
def jzn2(L2 i:Nat){p9:LN}{k a:Nat}(h:p9[k]?=some a):Et L2 (i,p9.take (k+1))=Et L2 (i,p9.take k)++[(a,1)]:=by
 unfold Et;rw[Dj,h];simp
def jzn3(T:Sx.Tb)(vals:LQ)(hinj:∀j k,j<T.ay.length->k<T.ay.length->Sx.cu T.ay j=Sx.cu T.ay k->j=k)(n:Nat)(hn:n<=T.ay.length):(Sx.Ay T vals n).length<=vals.length:=by
 have qa:∀n,n<=T.ay.length->((Sx.Ay T vals n).map (Sx.cu T.ay)).Nodup:=fun n=>(by (induction n with|zero=>intro _;exact List.nodup_nil|succ n ih=>intro hn;rw[sB];split;{rw[List.map_append,List.nodup_append];refine⟨ih qO,qS,fun a ha b hb e=>?_⟩;obtain⟨j,hj,rfl⟩:=Bv.1 ha;have hb:b=Sx.cu T.ay n:=(by simpa using hb);have h1:=lX T vals n j hj;have:=hinj j n qO qO (e.trans hb);omega};exact ih qO));have h1:=Sx.BO (k:=List.range vals.length) (qa n hn) fun y hy=>(by obtain⟨j,hj,rfl⟩:=Bv.1 hy;exact vX.2 (lX T vals n j hj).2);rw[xV,Jt]at h1;exact h1
def jzfm{w0 w}{x mb:Nat}{t}{AO}{co:Nat}{AL}{cl:Nat}{l:List Dm}{AD}{cd:Nat}{L:aQ}{T:Sx.Tb}{vP:Value}{P:List (Nat×LN)}(F:CJ w0 w x mb t AO co AL cl l AD cd L T vP P P)
  (hf:Fit t l) (hl:t.links.length<=10) (hD:l.length<=4) (JQ:Sx.BH (2*t.links.length) l.length (nk l) (aV t) T P) (hPl:P.length<=10000000000) (i:Nat) (hi:i<l.length) A (n c:Nat) (p9:LN) (hn:p9.length=n) (hA:og w 3 A (ints p9)) (qU:p9≠ []->∀ad,A=some ad->¬L.S ad.block) (hc:n<=c)
  (has:∀a∈p9,a<2*t.links.length) (hasl:n<=64) (FM:Tab w):
  Calls prog 29 #[.pointer (sA x),vI (i:Int),.s A n c] w fun e w'=>
   ((i,p9)∈P/\e=.returned bF/\Ext w w')\/
   ((i,p9)∉P/\e=.returned (.bool true)/\∃(L':aQ) (En:Value),CJ w0 w' x mb t AO co AL cl l AD cd L' (Sx.Aa T 0 (aO L.m (Et (2*t.links.length) (i,p9)))) En (P++[(i,p9)]) (P++[(i,p9)])/\fu (GI x mb L vP) w w'/\∀b,GI x mb L' En b->GI x mb L vP b\/w.heap.size<=b):=by
 have HF:=Hx (ah F hf);have HA:=Hx (ah hA qU);have HT:=Hx FM;have HS:=Hx has;have qM:=Hx JQ;have B1:=Hx (eN w 98 #[vI (i:Int),.s A n c,bF,zN,zN]);have X1:=Hx ((eR w).alloc (.cells #[vI (i:Int),.s A n c,bF,zN,zN] 98));have qY:Hid ((⟨(Sx.su (i:Int) (p9.map fun a:Nat=>(a:Int))).toArray⟩:ByteArray).data.toList=dE (i,p9)):=Hx (rfl);have qV:(⟨(Sx.su (i:Int) (p9.map fun a:Nat=>(a:Int))).toArray⟩:ByteArray).size<=maxLen:=by
  rw[jzn1];have h1:=jzo (i:Int) (p9.map fun a:Nat=>(a:Int)) (by unfold i64;omega) (fun a ha=>by
   obtain⟨b,hb,rfl⟩:=Bv.1 ha;have:=has b hb;unfold i64;omega)
  rw[xV]at h1;unfold maxLen;omega
 have q5:=Hx qV;clear F hA qU FM has JQ qV hf
 go_enter func29,ntmps29
 go_upto_region 2 with fail
 generalize w.alloc (.cells #[vI (i:Int),.s A n c,bF,zN,zN] 98)=W1 at*;generalize hbp:w.heap.size=bp at*;have qa:=Hx (show∀wx,Ext W1 wx->wx.C x 6 (.map (some mb))/\(wx.C bp 0 (vI (i:Int))/\wx.C bp 1 (.s A n c)/\wx.C bp 2 bF/\wx.C bp 3 zN/\wx.C bp 4 zN)from fun wx hx=>
  ⟨(HF.o.1.box.K (X1.o.tr hx)).cell 6,(B1.o.K hx).cell 0,(B1.o.K hx).cell 1,(B1.o.K hx).cell 2,(B1.o.K hx).cell 3,(B1.o.K hx).cell 4⟩)
 have qt:=Hx (show∀wx,Ext w wx->Calls prog 50 #[.agg #[vI (i:Int),.s A n c,bF,zN,zN]] wx fun e w'=>e=.returned (.string ⟨(Sx.su (i:Int) (p9.map fun a:Nat=>(a:Int))).toArray⟩)/\Ext wx w' from fun wx hx=>
  jze5 (i:Int) (p9.map fun a:Nat=>(a:Int)) A n c (by rw[xV];exact hn) false none 0 0 none 0 0 wx (HT.o.K hx) (by rw[jzfl];exact(HA.o.1.K hx).rd) qO (by unfold i64;omega) (fun a ha=>by
   obtain⟨b,hb,rfl⟩:=Bv.1 ha;have:=HS.o b hb;unfold i64;omega))
 have XD:Hid (Ext W1 W1.drew):=Hx ((eR W1).drewN 1);have eu:=Hx (qa.o _ XD.o);refine wX qa 6 ?_;refine wP 0 ?_;try simp only[qN]
 refine wP 1 ?_;try simp only[qN]
 refine wP 2 ?_;try simp only[qN]
 refine wV 3 ?_;try simp only[qN]
 refine wZ (m:=5) (i:=4) (v:=?_) rfl qK qK qK qD qK qK qK (fun _ _ _ h=>h) (DF ⟨qR,?_⟩) eu.o ?_;rotate_left
 focus (intro w hSw;obtain⟨s1,s2,s3,s4,s5,s6⟩:=hSw;go_simp;try with_reducible rfl)
 try simp only[qN]
 refine wC 5 rfl (fun KK hK=>?_);go_simp;refine(qt.o _ (X1.o.tr XD.o)).r fun w2 x2=>?_;have E2:=Hx (XD.o.tr x2);have eu:=Hx (qa.o _ E2.o);refine hK.o _ _ eu.o ?_;clear hK KK x2;try simp only[qN]
 refine bE qK rfl qR (fun KK hK=>?_);refine jznj _ _ rfl mb P.length (P.map dE) qR (HF.o.1.map.K (X1.o.tr E2.o)) _ qR q5.o ?_;rw[qY.o];refine hK.o _ _ ?_;clear hK KK;refine wpAny_done qK ?_ _;try simp only[qN]
 by_cases qw:(i,p9)∈P
 ·have hd:decide (dE (i,p9)∈List.map dE P)=true:=yO ((jze7 _ _).2 qw)
  have qy:=Hx (ah qw (X1.o.tr E2.o));rw[hd];clear hd qw;go_wp2;go_ret;exact .inl ⟨qy.o.1,rfl,qy.o.2⟩
 have hd:decide (dE (i,p9)∈List.map dE P)=false:=yP fun h=>qw ((jze7 _ _).1 h);have q3:=Hx qw;rw[hd];clear hd qw;have XD:Hid (Ext w2 w2.drew):=Hx ((eR w2).drewN 1);have eu:=Hx (qa.o _ (E2.o.tr XD.o))
 go_upto_region 4 with fail
 refine wX qa 6 ?_;refine wP 0 ?_;try simp only[qN]
 refine wP 1 ?_;try simp only[qN]
 refine wP 2 ?_;try simp only[qN]
 refine wV 3 ?_;try simp only[qN]
 refine wZ (m:=5) (i:=4) (v:=?_) rfl qK qK qK qD qK qK qK (fun _ _ _ h=>h) (DF ⟨qR,?_⟩) eu.o ?_;rotate_left
 focus (intro w hSw;obtain⟨s1,s2,s3,s4,s5,s6⟩:=hSw;go_simp;try with_reducible rfl)
 try simp only[qN]
 refine wC 5 rfl (fun KK hK=>?_);go_simp;refine(qt.o _ (X1.o.tr (E2.o.tr XD.o))).r fun w3 x3=>?_;have E3:=Hx (E2.o.tr (XD.o.tr x3));have eu:=Hx (qa.o _ E3.o);refine hK.o _ _ eu.o ?_;clear hK KK x3;try simp only[qN]
 refine bE qK rfl qR (fun KK hK=>?_);refine jznk _ _ _ rfl mb P.length (P.map dE) qR (HF.o.1.map.K (X1.o.tr E3.o)) (by unfold maxLen;omega) _ qR q5.o qR ?_;intro w4 qI qQ;rw[qY.o]at qI;have F4:=Hx ((HF.o.1.K (X1.o.tr E3.o)).mapped qQ qI);have K4:Hid (fu (fun b=>b=mb) w3 w4):=Hx (eG qQ fun g e=>by injection e with e;exact e.symm);have B4:=Hx (K4.o.blk (B1.o.K E3.o) fun e=>by
  have h1:=(HF.o.1.map.K (X1.o.tr E3.o)).not (t:=98) (cs:=#[vI (i:Int),.s A n c,bF,zN,zN]);rw[<-e]at h1;exact h1 (B1.o.K E3.o))
 have A4:=Hx (K4.o.Bz ((HF.o.1.map.K (X1.o.tr E3.o)).noT _) (HA.o.1.K (X1.o.tr E3.o)));have qW:Hid (fu (GI x mb L vP) w w4):=Hx ((eE (X1.o.tr E3.o)).tr K4.o fun b hb=>.inl (.inr (.inl hb)));refine hK.o _ _ ?_;clear hK KK qI qQ qa qt;refine wpAny_done qK ?_ _;try simp only[qN]
 have qa:=Hx (show∀wx,Ext w4 wx->wx.C x 5 vP/\(wx.C bp 0 (vI (i:Int))/\wx.C bp 1 (.s A n c)/\wx.C bp 2 bF/\wx.C bp 3 zN/\wx.C bp 4 zN)from fun wx hx=>
  ⟨(F4.o.box.K hx).cell 5,(B4.o.K hx).cell 0,(B4.o.K hx).cell 1,(B4.o.K hx).cell 2,(B4.o.K hx).cell 3,(B4.o.K hx).cell 4⟩)
 have XD:Hid (Ext w4 w4.drew):=Hx ((eR w4).drewN 1);have eu:=Hx (qa.o _ XD.o)
 go_upto_region 5 with fail
 refine wX qa 10 ?_;refine wP 0 ?_;try simp only[qN]
 refine wP 1 ?_;try simp only[qN]
 refine wP 2 ?_;try simp only[qN]
 refine wP 3 ?_;try simp only[qN]
 refine wV 4 ?_;try simp only[qN]
 refine wV 5 ?_;try simp only[qN]
 refine wC 6 rfl (fun KK hK=>?_);go_simp;have XB:Hid (Ext w4 (w4.alloc (.cells #[vI (i:Int),.s A n c,bF,zN,zN] 98)).drew):=Hx (((eR w4).alloc _).drewN 1);have qp:=Hx (qa.o _ XB.o);refine hK.o _ _ qp.o ?_;clear hK KK;have eu:=qp;clear qp;have BW:Hid (ak (w4.alloc (.cells #[vI (i:Int),.s A n c,bF,zN,zN] 98)).drew w4.heap.size 98 #[vI (i:Int),.s A n c,bF,zN,zN]):=Hx (eN w4 _ _);generalize (w4.alloc (.cells #[vI (i:Int),.s A n c,bF,zN,zN] 98)).drew=W6 at*;have F6:=Hx (F4.o.K XB.o);obtain⟨css,h1,h2,qg,h4⟩:=F6.o.pat;have qH:w0.heap.size<=W6.heap.size:=F6.o.ext.size;refine wC 7 rfl (fun KK hK=>?_);refine lT W6 34 98 _ 5 88 _ _ rfl underlying34 jzff rfl qD w0.heap.size vP P.length css.flatten qR qg [vI (i:Int),.s A n c,bF,zN,zN] rfl (by simp[Value.oneCell']) w4.heap.size qR BW.o (by unfold maxLen;omega) qO qH ?_;intro g7 c7 w7 qi qe qm;have k7:Hid (fu (fun b=>vP.ownBlock=some b) W6 w7):=Hx (eG qe fun g e=>e);have FP:=Hx (F6.o.pushed (p:=(i,p9)) h1 h2 h4 (us:=[vI (i:Int),.s A n c,bF,zN,zN]) rfl ⟨A,c,by simp only[hn],by rw[hn];exact hc,A4.o.K XB.o,HA.o.2⟩ qi qe);have A7:=Hx (k7.o.Bz (fun b hb=>bQ qg hb qD) (A4.o.K XB.o));obtain⟨s1,s2,s3,s4⟩:=F6.o.sep;have qC:=Hx (k7.o.blk F6.o.box fun e=>(s3 x e).2.1 rfl);have qk:=Hx (show w7.C x 5 vP/\(w7.C bp 0 (vI (i:Int))/\w7.C bp 1 (.s A n c)/\w7.C bp 2 bF/\w7.C bp 3 zN/\w7.C bp 4 zN)from by
  have qB:=k7.o.blk (B4.o.K XB.o) fun e=>by
   obtain⟨xs,ho⟩:=HF.o.1.pat.own;have:=(ho.lt bp e).2;omega
  exact⟨qC.o.cell 5,qB.cell 0,qB.cell 1,qB.cell 2,qB.cell 3,qB.cell 4⟩)
 have N7:Hid (some g7=vP.ownBlock\/bp<=g7):=Hx (qm.imp id fun e=>by have:=(B4.o.K XB.o).lt;omega);refine hK.o _ _ qk.o ?_;clear hK KK qi qe qg qm h1 h2 h4 css s1 s2 s3 s4;have eu:=qk;try simp only[qN]
 have z0:w7.frozen? (aD x 5)=false:=qC.o.frozen _;have y0:w7.cell? (aD x 5)=some vP:=qk.o.1;refine wP 8 ?_;try simp only[qN]
 refine wP 9 ?_;try simp only[qN]
 refine bE qK rfl qR (fun KK hK=>?_);go_simp;refine hK.o _ _ ?_;clear hK KK qk z0 y0;refine wpAny_done qK ?_ _;have A8:Hid (og (w7.setCell (aD x 5) (.s (sA g7) (P.length+1) c7)) 3 A (ints p9)):=Hx (A7.o.sT (p:=(aD x 5)) qC.o qD _);have qJ:Hid (fu (GI x mb L vP) w (w7.setCell (aD x 5) (.s (sA g7) (P.length+1) c7))):=Hx ((qW.o.tr (eE (S:=GI x mb L vP) XB.o) fun b hb=>.inl hb).tr FP.o.2 fun b hb=>.inl (hb.elim (fun h=>.inl h) fun h=>.inr (.inr (.inr h))));have F8:=Hx FP.o.1;clear qC k7 qW qa;generalize w7.setCell (aD x 5) (.s (sA g7) (P.length+1) c7)=W8 at*;have q0:W8.cell? (aD x 0)=some (vI t.nodes):=F8.o.box.cell 0;have q1:W8.cell? (aD x 1)=some (.s AO t.over.length co):=F8.o.box.cell 1;have q2:W8.cell? (aD x 2)=some (.s AL t.links.length cl):=F8.o.box.cell 2;have qT:IntKind.i64.wrap (2*(t.links.length:Int)+(i:Int))=2*(t.links.length:Int)+(i:Int):=by rw[IntKind.wrap_i64];omega
 go_wp2_with fail
 refine(fQ t AO co AL cl _ (F8.o.top.K F8.o.ext)).r fun w9 x9=>?_;have X9:=Hx x9;clear x9 q0 q1 q2
 go_wp2_with fail
 refine(kC (-1) _ (by unfold i64;omega)).mono ?_;rintro e wA ⟨neg,A1,k1,c1,qx,qA,qz,rfl,hR,xA⟩;have XA:=Hx (X9.o.tr xA);have RA:=Hx hR;clear xA hR;have XT:=Hx ((eR wA).alloc (.cells #[vI (2*(t.links.length:Int)+(i:Int)),.bool neg,.s A1 k1 c1,.s qx qA qz] 128));have T0:=Hx (show Jv (wA.alloc (.cells #[vI (2*(t.links.length:Int)+(i:Int)),.bool neg,.s A1 k1 c1,.s qx qA qz] 128)) wA.heap.size (.s (sA wA.heap.size) 1 1) (Et (2*t.links.length) (i,p9.take 0))from by
  refine Ak.one (us:=[vI (2*(t.links.length:Int)+(i:Int)),.bool neg,.s A1 k1 c1,.s qx qA qz]) (eN wA _ _) (yX _) rfl ⟨neg,A1,k1,c1,qx,qA,qz,?_,RA.o.K XT.o⟩;have e9:((2*t.links.length+i:Nat):Int)=2*(t.links.length:Int)+(i:Int):=qO;simp only[e9])
 have va:W8.heap.size<=wA.heap.size:=XA.o.size
 go_upto_region 7 with fail
 clear qT;generalize wA.alloc (.cells #[vI (2*(t.links.length:Int)+(i:Int)),.bool neg,.s A1 k1 c1,.s qx qA qz] 128)=WT at*;generalize wA.heap.size=B8 at*;have E9:=Hx (XA.o.tr XT.o);have qZ:B8<=WT.heap.size:=by
  obtain⟨xs,ho⟩:=T0.o.own;have:=(ho.lt B8 rfl).2;omega
 clear RA XT XA;go_wp2
 go_loopg [8,10,49] n (fun q v8 _ it wx=>∃k:Nat,n-k=q/\k<=n/\it=vI (k:Int)/\Hid (Jv wx B8 v8 (Et (2*t.links.length) (i,p9.take k))/\Ext W8 wx/\B8<=wx.heap.size))
 case atStart=>exact⟨0,rfl,yZ _,rfl,Hx ⟨T0.o,E9.o,qZ⟩⟩
 obtain⟨k,rfl,hk,rfl,I⟩:=hrel;clear qZ;obtain⟨A9,c9,q7,q9⟩:=I.o.1.form;have qh:(Et (2*t.links.length) (i,p9.take k)).length=k+1:=(by unfold Et;simp;omega);rw[qh]at q7 q9;subst q7;have vc:B8<=wr.heap.size:=I.o.2.2;by_cases q8:k<n
 ·obtain⟨a,ha⟩:∃a,p9[k]?=some a:=⟨_,yG qO⟩
  have NX:=Hx (jzn2 (2*t.links.length) i ha);obtain⟨b,o,rfl,hb,ca⟩:=jzdp ((A8.o.K I.o.2.1).rd) ha;have nN:(k:Int)<(n:Int):=qO;have n0:(0:Int)<=(k:Int):=qO;clear ha
  go_wp2_with fail
  refine(kC 1 _ (by unfold i64;omega)).mono ?_;rintro e w5 ⟨qf,A5,k5,c5,qo,qj,qn,rfl,q6,x5⟩;have R5:Hid (aC (w5.alloc (.cells #[vI (a:Int),.bool qf,.s A5 k5 c5,.s qo qj qn] 128)) qf A5 k5 c5 qo qj qn 1):=Hx (q6.K ((eR _).alloc _));have XB:Hid (Ext wr (w5.alloc (.cells #[vI (a:Int),.bool qf,.s A5 k5 c5,.s qo qj qn] 128))):=Hx (x5.alloc _);have BW:=Hx (eN w5 128 #[vI (a:Int),.bool qf,.s A5 k5 c5,.s qo qj qn]);have IB:=Hx (I.o.1.K XB.o fun cs y hy=>hy.K XB.o);obtain⟨css,h1,h2,qg,h4⟩:=IB.o;rw[qh]at h1 qg;have qH:B8<=(w5.alloc (.cells #[vI (a:Int),.bool qf,.s A5 k5 c5,.s qo qj qn] 128)).heap.size:=yY vc XB.o.size;clear q6 x5 ca
  go_wp2_with (at_builtin;refine kS _ 126 128 _ 4 64 rfl _ _ rfl underlying126 jzfg rfl qD B8 (.s A9 (k+1) c9) (k+1) css.flatten rfl qg [vI (a:Int),.bool qf,.s A5 k5 c5,.s qo qj qn] rfl (by simp[Value.oneCell']) w5.heap.size rfl BW.o (by unfold maxLen;omega) qO qH ?_)
  intro g7 c7 w7 qi qe qm;have k7:=eG (S:=fun b=>(Value.slice A9 (k+1) c9).ownBlock=some b) qe fun g e=>e;have n7:oh (fun b=>(Value.slice A9 (k+1) c9).ownBlock=some b) (w5.alloc (.cells #[vI (a:Int),.bool qf,.s A5 k5 c5,.s qo qj qn] 128)) 196:=fun b hb=>bQ qg hb qD;have J:=Hx (show Jv w7 B8 (.s (sA g7) (k+1+1) c7) (Et (2*t.links.length) (i,p9.take (k+1)))/\Ext W8 w7/\B8<=w7.heap.size from by
   refine⟨?_,k7.ext (I.o.2.1.tr XB.o) fun b hb=>yY va (qg.lt b hb).1,yY qH k7.size⟩;rw[NX.o];exact Ak.pushed (css:=css) (by rw[qh];exact h1) h2 h4 (us:=[vI (a:Int),.bool qf,.s A5 k5 c5,.s qo qj qn]) rfl (fun cs y _ hy=>hy.fr k7 n7) ⟨qf,A5,k5,c5,qo,qj,qn,rfl,k7.oz n7 R5.o⟩ (by rw[qh];exact qi))
  clear qi qe qm qg h1 h2 h4 css k7 n7 IB BW XB R5 I;go_wp2
  go_roundg (n-(k+1))
  case measure=>omega
  exact⟨k+1,rfl,qO,by go_num,J⟩
 obtain rfl:k=n:=qO;rw[yU qO]at I qh;clear hk q8;have F9:=Hx (F8.o.K I.o.2.1);have q4:wr.cell? (aD x 4)=some (.pointer (sA L.p)):=F9.o.box.cell 4;have vd:L.m=2*t.links.length+l.length:=F9.o.m;obtain⟨z1,z2,_⟩:=oJ HF.o.2 hl hD qM.o;obtain⟨y1,y2,y3,y4,y5,y6,y7,y8⟩:=qM.o.shape;obtain⟨x1,x2⟩:=qM.o.iq;have qX:=Hx (jzfi w0.heap.size 20 (k+1) c9 L T wr F9.o.tab F9.o.ext.size z1 z2 qD qD qO qO qO qO
  0 false none 0 0 none 0 0 (fE _) (dx.zero.mono qD) A9 (Et (2*t.links.length) (i,p9)) qh (Jv.rd (B:=B8) (c:=c9) (by rw[qh];exact I.o.1)) qO (fun tt Gj=>by
    unfold Et at Gj;rcases xZ.1 Gj with rfl|Gj
    ·simp only;omega
    ·obtain⟨a,ha,rfl⟩:=Bv.1 Gj
     have:=HS.o a ha;simp only;omega) (jze0 _ _ (dx.zero.mono qD) fun tt Gj=>by
    unfold Et at Gj;rcases xZ.1 Gj with rfl|Gj
    ·exact(dx.int (n:= -1) qD).mono qD
    ·obtain⟨a,ha,rfl⟩:=Bv.1 Gj
     exact(dx.int (n:=1) qD).mono qD) (fun j hj=>by have:=y6 j hj;omega) (by
    have:=jzn3 T (aO L.m (Et (2*t.links.length) (i,p9))) y5 T.ay.length (yX _);rw[kB]at this;omega))
 have qy:=Hx (show∀(L':aQ) (w9:World),L'.p=L.p->L'.m=L.m->aH w9 w0.heap.size L' (Sx.Aa T 0 (aO L.m (Et (2*t.links.length) (i,p9))))->fu L.S wr w9->(∀b,L'.S b->L.S b\/wr.heap.size<=b)->
   (i,p9)∉P/\CJ w0 w9 x mb t AO co AL cl l AD cd L' (Sx.Aa T 0 (aO L.m (Et (2*t.links.length) (i,p9)))) (.s (sA g7) (P.length+1) c7) (P++[(i,p9)]) (P++[(i,p9)])/\fu (GI x mb L vP) w w9/\∀b,GI x mb L' (.s (sA g7) (P.length+1) c7) b->GI x mb L vP b\/bp<=b from fun L' w9 h1 h2 h3 h4 h5=>
  ⟨q3.o,F9.o.Ga h3 h4 h1 h2 h5,((qJ.o.tr (eE (S:=GI x mb L vP) I.o.2.1) fun b hb=>.inl hb).tr h4 fun b hb=>.inl (.inr (.inr (.inl hb)))),fun b hb=>by
   have k1:=qJ.o.size;have k2:=I.o.2.1.size;rcases hb with hb|hb|hb|hb
   ·exact .inl (.inl hb)
   ·exact .inl (.inr (.inl hb))
   ·rcases h5 b hb with k3|k3
    ·exact .inl (.inr (.inr (.inl k3)))
    exact .inr qO
   injection hb with hb
   have hb:g7=b:=hb;subst hb;rcases N7.o with k3|k3
   ·exact .inl (.inr (.inr (.inr k3.symm)))
   exact .inr k3⟩)
 clear I F9 F8 A8 z1 z2 y1 y2 y3 y4 y5 y6 y7 y8 x1 x2 qJ q3
 go_wp2_with fail
 refine(qX.o).mono ?_;rintro e w9 ⟨L',rfl,g1,g2,g3,g4,g5⟩;have FF:=Hx (qy.o L' w9 g1 g2 g3 g4 g5);clear qX qy g1 g2 g3 g4 g5 q4;go_wp2;go_ret;refine .inr ⟨FF.o.1,rfl,L',_,FF.o.2.1,FF.o.2.2.1,?_⟩;rw[hbp];exact FF.o.2.2.2
def jzt(a b:Rat):aW a b<0↔a<b:=by
 unfold aW;split;{rename_i h;simp[h]};rename_i h;split <;> simp[h]
def sD(a b:Rat):0<aW a b↔b<a:=by
 unfold aW;split;{rename_i h;exact⟨fun h2=>qO,fun h2=>absurd h (Dy.2 (vB h2))⟩};rename_i h;split;{rename_i h1;exact⟨fun h2=>qO,fun h2=>by rw[h1]at h2;exact absurd h2 Gt⟩};rename_i h1;exact⟨fun _=>Rat.not_le.1 (fun h2=>h1 (Rat.le_antisymm h2 (Dy.1 h))),fun _=>qD⟩
def jzu(a b:Rat):aW a b=0↔a=b:=by
 unfold aW;split;{rename_i h;exact⟨fun h2=>qO,fun h2=>by rw[h2]at h;exact absurd h Gt⟩};split;{rename_i h1;simp[h1]};rename_i h1;exact⟨fun h2=>qO,fun h2=>absurd h2 h1⟩
def QL.take{w}{A}{qs:LQ}(h:QL w A qs)(n:Nat):QL w A (qs.take n):=by
 obtain⟨css,h1,h2,h3,h4⟩:=h;have hl:=fR css h2;have qf:(css.take n).flatten.length=(css.take n).length*3:=fR _ fun cs hc=>h2 cs (xM hc);refine⟨css.take n,by rw[xF,xF,h1],fun cs hc=>h2 cs (xM hc),?_,fun i q hi=>?_⟩;{intro qg;have qa:css.flatten≠ []:=fun e=>qg (by have e1:css.flatten.length=0:=(by rw[e];rfl);rw[hl]at e1;apply Kc;rw[qf,xF];omega);obtain⟨b,o,e,hb,hc⟩:=h3 qa;refine⟨b,o,e,hb,fun i hi=>?_⟩;have qh:i<css.flatten.length:=(by rw[hl];rw[qf,xF]at hi;omega);rw[hc i qh];have e2:css.flatten=(css.take n).flatten++(css.drop n).flatten:=(by rw[<-List.flatten_append,KH]);rw[e2,yR hi]};have qe:i<n:=(by have:=(yH.1 hi).1;rw[xF]at this;omega);rw[xG,qE qe]at hi;obtain⟨cs,k1,k2⟩:=h4 i q hi;exact⟨cs,by rw[xG,qE qe];exact k1,k2⟩
def jzfn t AO(co:Nat)AL(cl:Nat)PP(np cp:Nat)(ps:LQ)(hnp:ps.length=np)(P:Nat)(s d:Int)w(ht:aR w t AO co AL cl)(hps:QL w PP ps)(hpl:np<=1000000)(hP:1<=P)(hP2:P<=1000000)(hsz:∀q∈ps,dx q P):
  Calls prog 49 #[.agg #[vI t.nodes,.s AO t.over.length co,.s AL t.links.length cl],zN,.s PP np cp,vI s,vI d] w (oG w ps (Co t [] ps s d)):=by
 subst hnp;exact jzmt t AO co AL cl none 0 [] PP cp ps P s d w ht (Rd.nil _ _) qD qD hps hpl hP hP2 hsz
structure iJ(w0 w wx:World)(x mb:Nat)(t:Tp)(AO:OA)(co:Nat)(AL:OA)(cl:Nat)(l:List Dm)(AD:OA)(cd:Nat)(gl:Nat)(pr:LQ)(T:Sx.Tb)(P:List (Nat×LN))(n:Nat)(more:Bool)(L':aQ)(T':Sx.Tb)(En:Value)(P':List (Nat×LN)):Prop where
 fl:CJ w0 wx x mb t AO co AL cl l AD cd L' T' En P' P'
 lp:Sx.BH (2*t.links.length) l.length (nk l) (aV t) T' P'
 dif:P'.Nodup
 loop:∀p∈P',p.1<l.length/\Az t (aY l p.1) (aX l p.1) p.2
 few:P'.length<=P.length+n
 J2:more=true->P.length<P'.length
 non:more=false->P'=P/\T'=T/\∀d,d<n->(Co t [] (pr.take (2*t.links.length)) (aY l d:Int) (aX l d:Int)).2=0->nu (pr.take (2*t.links.length)) (Co t [] (pr.take (2*t.links.length)) (aY l d:Int) (aX l d:Int)).1<Sx.at_ pr (2*t.links.length+d)->(d,(Co t [] (pr.take (2*t.links.length)) (aY l d:Int) (aX l d:Int)).1)∈P
 qb:QB wx gl pr
 far:¬GI x mb L' En gl
 ext:Ext w0 wx
def jzn4{w0 w:World}{x mb:Nat}{t:Tp}{AO:OA}{co:Nat}{AL:OA}{cl:Nat}{l:List Dm}{AD:OA}{cd:Nat}{L:aQ}{T:Sx.Tb}{vP:Value}{P:List (Nat×LN)}(F:CJ w0 w x mb t AO co AL cl l AD cd L T vP P P)
  (hf:Fit t l) (hl:t.links.length<=10) (hD:l.length<=4) (JQ:Sx.BH (2*t.links.length) l.length (nk l) (aV t) T P) (hdif:P.Nodup) (hloop:∀p∈P,p.1<l.length/\Az t (aY l p.1) (aX l p.1) p.2) (hPl:P.length+4<=10000000000)
  (gl:Nat) (pr:LQ) (hq:QB w gl pr) (hpl:pr.length=2*t.links.length+l.length) (qX:∀q∈pr,dx q 20) (q5:∀q∈pr,0<=q) (hgl:¬GI x mb L vP gl) (FM:Tab w0):
  Calls prog 31 #[.pointer (sA x),.s (sA gl) (2*t.links.length+l.length) (2*t.links.length+l.length)] w fun e w'=>
   ∃(more:Bool) (L':aQ) (T':Sx.Tb) (En:Value) (P':List (Nat×LN)),e=.returned (.bool more)/\iJ w0 w w' x mb t AO co AL cl l AD cd gl pr T P l.length more L' T' En P':=by
 have G0:Hid (iJ w0 w w x mb t AO co AL cl l AD cd gl pr T P 0 false L T vP P):=Hx (⟨F,JQ,hdif,hloop,yX _,(fun h=>by cases h),fun _=>⟨rfl,rfl,fun d hd=>qO⟩,hq,hgl,F.ext⟩);have HF:=Hx (ah hf (ah qX q5));have qw:=Hx hpl;have vc:=F.Bd.len;have vg:=F.top.ll;have q0:w.cell? (aD x 0)=some (vI t.nodes):=F.box.cell 0;have q1:w.cell? (aD x 1)=some (.s AO t.over.length co):=F.box.cell 1;have q2:w.cell? (aD x 2)=some (.s AL t.links.length cl):=F.box.cell 2;have TP:=Hx (ah F.top F.Bd);have qV:=Hx FM;go_enter func31,ntmps31;(go_wp2_with fail);refine(fQ t AO co AL cl _ (TP.o.1.K G0.o.ext)).mono ?_;rintro e w1 ⟨rfl,x1⟩;have qZ:(2*(t.links.length:Int))=((2*t.links.length:Nat):Int):=qO;have G1:Hid (iJ w0 w w1 x mb t AO co AL cl l AD cd gl pr T P 0 false L T vP P):=Hx (⟨G0.o.fl.K x1,G0.o.lp,G0.o.dif,G0.o.loop,G0.o.few,G0.o.J2,G0.o.non,G0.o.qb.K x1,G0.o.far,G0.o.ext.tr x1⟩);clear x1 q0 q1 q2 G0 qZ;have q3:w1.cell? (aD x 3)=some (.s AD l.length cd):=G1.o.fl.box.cell 3;go_wp2;go_loopg [6,7,8,9,10,11,22] l.length (fun q s6 _ _ _ _ _ it wx=>∃(n:Nat) (more:Bool) (L':aQ) (T':Sx.Tb) (En:Value) (P':List (Nat×LN)),l.length-n=q/\n<=l.length/\it=vI (n:Int)/\s6=.bool more/\Hid (iJ w0 w wx x mb t AO co AL cl l AD cd gl pr T P n more L' T' En P'));(case atStart=>exact⟨0,false,L,T,vP,P,rfl,yZ _,rfl,rfl,G1⟩);obtain⟨n,more,L',T',En,P',rfl,hn,rfl,rfl,G⟩:=hrel;by_cases qy:n<l.length
 ·obtain⟨d,hd⟩:∃d,l[n]?=some d:=⟨_,yG qy⟩;obtain⟨b,o,rfl,hb,a0,a1,a2,a3⟩:=TP.o.2.at_ hd;have a0:=aA G.o.ext a0;have a1:=aA G.o.ext a1;have a2:=aA G.o.ext a2;have a3:=aA G.o.ext a3;have hb:b<wr.heap.size:=yL hb G.o.ext.size;have HN:Hid (aY l n<t.nodes.toNat/\aX l n<t.nodes.toNat/\d.src=(aY l n:Int)/\d.dst=(aX l n:Int)):=Hx (by obtain⟨h1,h2,h3,h4,h5⟩:=HF.o.1.nodes qy;have e:l[n]=d:=(yH.1 hd).2;rw[e]at h4 h5;exact⟨h1,h2,h4,h5⟩);have nN:(n:Int)<(l.length:Int):=qO;have n0:(0:Int)<=(n:Int):=qO;have X8:Hid (Ext wr (wr.alloc (.cells #[vI d.src,vI d.dst,vI d.amount,vI d.prio] 60))):=Hx ((eR wr).alloc _);have B8:=Hx (eN wr 60 #[vI d.src,vI d.dst,vI d.amount,vI d.prio]);go_upto_region 6 with fail
  generalize wr.alloc (.cells #[vI d.src,vI d.dst,vI d.amount,vI d.prio] 60)=W8 at*;generalize hbd:wr.heap.size=bd at*;generalize hR:Co t [] (pr.take (2*t.links.length)) d.src d.dst=R;have HR:=Hx hR;have XD:Hid (Ext W8 W8.drew):=Hx ((eR W8).drewN 1);have XA:Hid (Ext W8 (W8.alloc (.cells #[.bool false,zN,zN] 33)).drew):=Hx (((eR W8).alloc _).drewN 1);have BA:Hid (ak (W8.alloc (.cells #[.bool false,zN,zN] 33)).drew W8.heap.size 33 #[.bool false,zN,zN]):=Hx (eN W8 _ _);have qa:=Hx (show∀wx,Ext W8 wx->(wx.cell? (aD x 0)=some (vI t.nodes)/\wx.cell? (aD x 1)=some (.s AO t.over.length co)/\wx.cell? (aD x 2)=some (.s AL t.links.length cl)/\wx.cell? (aD bd 0)=some (vI d.src)/\wx.cell? (aD bd 1)=some (vI d.dst))from fun wx hx=>
   ⟨(G.o.fl.box.K (X8.o.tr hx)).cell 0,(G.o.fl.box.K (X8.o.tr hx)).cell 1,(G.o.fl.box.K (X8.o.tr hx)).cell 2,(B8.o.K hx).cell 0,(B8.o.K hx).cell 1⟩)
  have CH:Hid (∀wx,Ext W8 wx->Calls prog 49 #[.agg #[vI t.nodes,.s AO t.over.length co,.s AL t.links.length cl],zN,.s (sA gl) (2*(t.links.length:Int)).toNat (2*(t.links.length:Int)).toNat,vI d.src,vI d.dst] wx (oG wx (pr.take (2*t.links.length)) R)):=Hx (fun wx hx=>by rw[show(2*(t.links.length:Int)).toNat=2*t.links.length by omega];have h1:=jzfn t AO co AL cl (sA gl) (2*t.links.length) (2*t.links.length) (pr.take (2*t.links.length)) (by rw[xF,qw.o];omega) 20 d.src d.dst wx (TP.o.1.K (G.o.ext.tr (X8.o.tr hx))) ((G.o.qb.K (X8.o.tr hx)).ql.take _) qO qD qD (fun q hq=>HF.o.2.1 q (xM hq));rw[HR.o]at h1;exact h1)
  go_cut [9,10,11] (fun s9 s10 s11 wx=>∃(A:OA) (c bx:Nat) (neg:Bool) (A1:OA) (n1 c1:Nat) (A2:OA) (n2 c2:Nat),s9=.s A R.1.length c/\s10=.pointer (sA bx)/\s11=vI R.2/\
   Hid (ak wx bx 33 #[.bool neg,.s A1 n1 c1,.s A2 n2 c2]/\aC wx neg A1 n1 c1 A2 n2 c2 (nu (pr.take (2*t.links.length)) R.1)/\Ie W8.heap.size wx A (ints R.1)/\R.1.length<=c/\Ext W8 wx))
  case first=>
   have va:(0:Int)<=2*(t.links.length:Int):=qO;have vd:2*(t.links.length:Int)<=2*(t.links.length:Int)+(l.length:Int):=qO;have ve:2*(t.links.length:Int)<=2*(t.links.length:Int):=Int.le_refl _;have bN:bd≠W8.heap.size:=(by have:=B8.o.lt;omega);have xN:x≠W8.heap.size:=(by have:=G.o.fl.box.lt;have:=X8.o.size;omega);obtain⟨c0,c1,c2,c3,c4⟩:=qa.o _ XD.o;obtain⟨y0,y1,y2,y3,y4⟩:=qa.o _ XA.o
   go_region_held3 (fun w'=>w'.cell? (aD x 0)=some (vI t.nodes)/\w'.cell? (aD x 1)=some (.s AO t.over.length co)/\w'.cell? (aD x 2)=some (.s AL t.links.length cl)/\w'.cell? (aD bd 0)=some (vI d.src)/\w'.cell? (aD bd 1)=some (vI d.dst))
    (first|with_reducible exact⟨c0,c1,c2,c3,c4⟩|with_reducible exact⟨y0,y1,y2,y3,y4⟩|with_reducible exact⟨aS c0 _,aS c1 _,aS c2 _,aS c3 _,aS c4 _⟩|exact⟨aF (aF (aF c0 xN) xN) xN,aF (aF (aF c1 xN) xN) xN,aF (aF (aF c2 xN) xN) xN,aF (aF (aF c3 bN) bN) bN,aF (aF (aF c4 bN) bN) bN⟩|fail)
    (first
     |(go_at_call 49
       first
       |(with_reducible refine(CH.o _ (by with_reducible exact XD.o)).mono ?_
         rintro e w5 ⟨A,c,neg,A1,n1,d1,A2,n2,d2,rfl,qx,qj,qz,qk⟩;have E5:Hid (aC w5 neg A1 n1 d1 A2 n2 d2 (nu (pr.take (2*t.links.length)) R.1)/\Ie W8.heap.size w5 A (ints R.1)/\R.1.length<=c/\Ext W8 w5):=Hx (⟨qz,⟨qj.1,fun p hp=>yY XD.o.size (qj.2 p hp)⟩,qx,XD.o.tr qk⟩))
       |(with_reducible refine(CH.o _ (by with_reducible exact XA.o)).mono ?_
         rintro e w5 ⟨A,c,neg,A1,n1,d1,A2,n2,d2,rfl,qx,qj,qz,qk⟩;have E5:Hid (aC w5 neg A1 n1 d1 A2 n2 d2 (nu (pr.take (2*t.links.length)) R.1)/\Ie W8.heap.size w5 A (ints R.1)/\R.1.length<=c/\Ext W8 w5):=Hx (⟨qz,⟨qj.1,fun p hp=>yY XA.o.size (qj.2 p hp)⟩,qx,XA.o.tr qk⟩);have B5:=Hx (BA.o.K qk);obtain⟨⟨m0,m1,m2⟩,r0,r1,r2⟩:=B5.o.t3)
       obtain⟨c0,c1,c2,c3,c4⟩:=qa.o _ E5.o.2.2.2;clear qk qx qj qz)
     |fail)
   all_goals
    go_wp2;go_meet
    first
    |exact⟨A,c,_,neg,A1,n1,d1,A2,n2,d2,rfl,rfl,rfl,Hx ⟨eN w5 _ _,E5.o.1.K ((eR w5).alloc _),⟨E5.o.2.1.1.K ((eR w5).alloc _),E5.o.2.1.2⟩,E5.o.2.2.1,E5.o.2.2.2.alloc _⟩⟩
    |(have b0:=B5.o.sT 0 (.bool neg)
      have b1:=b0.sT 1 (.s A1 n1 d1);have qT:=eY (w:=W8) E5.o.1 B5.o (yX _) E5.o.2.2.2;exact⟨A,c,W8.heap.size,neg,A1,n1,d1,A2,n2,d2,rfl,rfl,rfl,Hx ⟨b1.sT 2 (.s A2 n2 d2),qT.1,⟨((E5.o.2.1.1.sT (p:=(aD W8.heap.size 0)) B5.o qD _).sT (p:=(aD W8.heap.size 1)) b0 qD _).sT (p:=(aD W8.heap.size 2)) b1 qD _,E5.o.2.1.2⟩,E5.o.2.2.1,qT.2⟩⟩)
  obtain⟨A,c,bx,neg,A1,n1,c1,A2,n2,c2,rfl,rfl,rfl,C⟩:=hcut;have XC:Hid (Ext wr wc):=Hx (X8.o.tr C.o.2.2.2.2);have qB:(pr.take (2*t.links.length)).length=2*t.links.length:=(by rw[xF,qw.o];omega);have qe:dL t (pr.take (2*t.links.length))=true:=fY qB fun q hq=>HF.o.2.2 q (xM hq);have qM:=Hx (iI HF.o.1.v qe HN.o.1 HN.o.2.1);have qp:=Hx (show Co t [] (pr.take (2*t.links.length)) (aY l n:Int) (aX l n:Int)=R by rw[<-HN.o.2.2.1, <-HN.o.2.2.2];exact HR.o);rw[qp.o]at qM;have GC:Hid (iJ w0 w wc x mb t AO co AL cl l (some (aD b o)) cd gl pr T P n more L' T' En P'):=Hx (⟨G.o.fl.K XC.o,G.o.lp,G.o.dif,G.o.loop,G.o.few,G.o.J2,G.o.non,G.o.qb.K XC.o,G.o.far,G.o.ext.tr XC.o⟩);obtain⟨ny,Y1,my,fy,qJ,qH,qA,⟨s0,s1,s2⟩,_,hy⟩:=GC.o.qb.at_ (aZ (show 2*t.links.length+n<pr.length by rw[qw.o];omega));have RY:=Hx hy;have qf:=GC.o.qb.lt;obtain⟨⟨v0,v1,v2⟩,_⟩:=C.o.1.t3;have qg:=C.o.1.lt;have q7:IntKind.i64.wrap (2*(t.links.length:Int)+(n:Int))=2*(t.links.length:Int)+(n:Int):=(by rw[IntKind.wrap_i64];omega);have m0:(0:Int)<=2*(t.links.length:Int)+(n:Int):=qO;have m1:2*(t.links.length:Int)+(n:Int)<2*(t.links.length:Int)+(l.length:Int):=qO;have qQ:Hid (R.1.length<=64):=Hx (by have q6:t.nodes<=64:=(by have:=HF.o.1.v;unfold aG cF kg at this;simp at this;exact this.1.1.1.2);(rcases qM.o with⟨y,h1,h2,_⟩|⟨h1,_⟩);{rw[h1];have:=h2.len HF.o.1.v HN.o.1;simp only;omega};rw[h1];exact yZ _);obtain⟨l1,vh⟩:=C.o.2.1.lens ((dx.pr qD (fun q hq=>HF.o.2.1 q (xM hq)) R.1).mono (show _<=2000 from by have:=qQ.o;omega));obtain⟨l2,vi⟩:=hy.lens (HF.o.2.1 _ (yJ (aZ (show 2*t.links.length+n<pr.length by rw[qw.o];omega))));clear hy;by_cases qh:R.2=0
  ·by_cases qt:nu (pr.take (2*t.links.length)) R.1<Sx.at_ pr (2*t.links.length+n)
   ·have qU:aW (nu (pr.take (2*t.links.length)) R.1) (Sx.at_ pr (2*t.links.length+n))<0:=(jzt _ _).2 qt;have qY:decide (aW (nu (pr.take (2*t.links.length)) R.1) (Sx.at_ pr (2*t.links.length+n))<0)=true:=yO qU;obtain⟨qn,qI⟩:Az t (aY l n) (aX l n) R.1/\True:=(by (rcases qM.o with⟨y,h1,h2,_⟩|⟨h1,_⟩);{rw[h1];exact⟨h2,trivial⟩};rw[h1]at qh;exact absurd qh qD);have qi:=Hx qn;have qa:Hid (∀wx,Ext wc wx->(wx.cell? (aD bx 0)=some (.bool neg)/\wx.cell? (aD bx 1)=some (.s A1 n1 c1)/\wx.cell? (aD bx 2)=some (.s A2 n2 c2))/\(wx.cell? (aD gl ((2*(t.links.length:Int)+(n:Int)).toNat*3))=some (.bool ny)/\wx.cell? (aD gl ((2*(t.links.length:Int)+(n:Int)).toNat*3+1))=some (.s Y1 my fy)/\wx.cell? (aD gl ((2*(t.links.length:Int)+(n:Int)).toNat*3+2))=some (.s qJ qH qA))):=Hx (fun wx hx=>by rw[show(2*(t.links.length:Int)+(n:Int)).toNat=2*t.links.length+n by omega];exact⟨⟨aA hx v0,aA hx v1,aA hx v2⟩,aA hx s0,aA hx s1,aA hx s2⟩);have XD:Hid (Ext wc wc.drew):=Hx ((eR wc).drewN 1);have eu:=Hx (qa.o _ XD.o);generalize hr2':R.2=r2 at*;subst qh;clear qn qI qt qf qg v0 v1 v2 s0 s1 s2;(go_upto_region 7 with fail);(refine wX qa 17 ?_;refine wP 0 ?_;try simp only[Act.put,yA,yB,yC,yD,yE,yF]);(refine wP 1 ?_;try simp only[Act.put,yA,yB,yC,yD,yE,yF]);(refine wP 2 ?_;try simp only[Act.put,yA,yB,yC,yD,yE,yF]);(refine wU [17,13,10] 3 ?_;try simp only[Act.put,yA,yB,yC,yD,yE,yF]);(refine wP 4 ?_;try simp only[Act.put,yA,yB,yC,yD,yE,yF]);(refine wP 5 ?_;try simp only[Act.put,yA,yB,yC,yD,yE,yF]);(refine wP 6 ?_;try simp only[Act.put,yA,yB,yC,yD,yE,yF]);(refine wP 7 ?_;try simp only[Act.put,yA,yB,yC,yD,yE,yF]);(refine wP 8 ?_;try simp only[Act.put,yA,yB,yC,yD,yE,yF]);(refine wU [17,13,10] 9 ?_;try simp only[Act.put,yA,yB,yC,yD,yE,yF]);(refine wC 10 rfl (fun KK hK=>?_);go_simp;refine(gT neg ny A1 n1 c1 A2 n2 c2 Y1 my fy qJ qH qA (nu (pr.take (2*t.links.length)) R.1) (Sx.at_ pr (2*t.links.length+n)) _ (C.o.2.1.K XD.o) (RY.o.K XD.o) qO qO qO qO).mono ?_;rintro e w9 ⟨rfl,x9⟩;have E9:=Hx (XD.o.tr x9);have eu:=Hx (qa.o _ E9.o);refine hK.o _ _ eu.o ?_;clear hK KK x9;try simp only[Act.put,yA,yB,yC,yD,yE,yF]);(refine wP 11 ?_;try simp only[Act.put,yA,yB,yC,yD,yE,yF]);(refine wP 12 ?_;try simp only[Act.put,yA,yB,yC,yD,yE,yF]);(refine wP 13 ?_;try simp only[Act.put,yA,yB,yC,yD,yE,yF]);(refine wP 14 ?_;try simp only[Act.put,yA,yB,yC,yD,yE,yF]);(refine wP 15 ?_;try simp only[Act.put,yA,yB,yC,yD,yE,yF]);(refine wP 16 ?_;try simp only[Act.put,yA,yB,yC,yD,yE,yF]);have G9:Hid (iJ w0 w w9 x mb t AO co AL cl l (some (aD b o)) cd gl pr T P n more L' T' En P'):=Hx (⟨GC.o.fl.K E9.o,GC.o.lp,GC.o.dif,GC.o.loop,GC.o.few,GC.o.J2,GC.o.non,GC.o.qb.K E9.o,GC.o.far,GC.o.ext.tr E9.o⟩);have q8:=G9.o.few;have qC:=Hx (jzfm G9.o.fl HF.o.1 hl hD G9.o.lp qO n qy A R.1.length c R.1 rfl (C.o.2.2.1.1.K E9.o) (fun hx ad had hs=>by have h1:=C.o.2.2.1.2 ad had;have h2:=(G.o.fl.tab.ty hs).2.1;have h3:=X8.o.size;omega) C.o.2.2.2.1 (fun a ha=>iH _ qi.o.1 a ha) qQ.o (qV.o.K G9.o.ext));(refine bE qK rfl qR (fun KK hK=>?_);go_simp;refine(qC.o).mono ?_;rintro e wA qo;rcases qo with⟨hin,rfl,hxA⟩|⟨Jd,rfl,L2,vP2,F2,k2,JU⟩);{have GG:Hid (iJ w0 w wA x mb t AO co AL cl l (some (aD b o)) cd gl pr T P (n+1) more L' T' En P'):=Hx (⟨G9.o.fl.K hxA,G9.o.lp,G9.o.dif,G9.o.loop,qO,G9.o.J2,fun hm=>by obtain⟨h1,h2,h3⟩:=G9.o.non hm;refine⟨h1,h2,fun d' hd' h4 h5=>?_⟩;by_cases e:d'=n;{subst e;rw[qp.o, <-h1];exact hin};exact h3 d' qO h4 h5,G9.o.qb.K hxA,G9.o.far,G9.o.ext.tr hxA⟩);(refine hK.o _ _ ?_;clear hK KK eu qa XD qC G9 GC E9 hin hxA;try simp only[Act.put,yA,yB,yC,yD,yE,yF]);refine iY (i:=18) qK rfl qR (fun KK hK=>?_);go_simp;refine hK.o _ _ ?_;clear hK KK;refine wpAny_done qK ?_ _;go_wp2;go_roundg (l.length-(n+1));(case measure=>omega);exact⟨n+1,more,L',T',En,P',rfl,qO,by go_num,rfl,GG⟩}
    have qW:L'.m=2*t.links.length+l.length:=G9.o.fl.m;have GG:=Hx (show iJ w0 w wA x mb t AO co AL cl l (some (aD b o)) cd gl pr T P (n+1) true L2 (Sx.Aa T' 0 (aO L'.m (Et (2*t.links.length) (n,R.1)))) vP2 (P'++[(n,R.1)])from
     ⟨F2,by
      rw[qW];exact G9.o.lp.add (kB _ _) fun i hi=>jzex _ _ (n,R.1) (fun a ha=>iH _ qi.o.1 a ha) i hi,by
      rw[List.nodup_append];exact⟨G9.o.dif,qS,fun p hp q hq e=>Jd (by rw[xD.1 hq]at e;rw[<-e];exact hp)⟩,fun p hp=>by
      rcases xY.1 hp with hp|hp
      ·
       exact G9.o.loop p hp
      ·
       rw[xD.1 hp]
       exact⟨qy,qi.o⟩,by rw[yQ,J5];omega,fun _=>by
      rw[yQ,J5];cases hmore:more
      ·
       rw[(G9.o.non hmore).1];omega
      ·
       have:=G9.o.J2 hmore;omega,(fun h=>by cases h),G9.o.qb.fr k2 G9.o.fl.lo.2 G9.o.far,fun hb=>by
      rcases JU gl hb with h1|h1
      ·
       exact G9.o.far h1
      have:=G9.o.qb.lt;omega,F2.ext⟩)
    (refine hK.o _ _ ?_;clear hK KK eu qa XD qC G9 GC E9 Jd F2 k2 JU;try simp only[Act.put,yA,yB,yC,yD,yE,yF]);refine iY (i:=18) qK rfl qR (fun KK hK=>?_);go_simp;refine hK.o _ _ ?_;clear hK KK;refine wpAny_done qK ?_ _;go_wp2;go_roundg (l.length-(n+1));(case measure=>omega);exact⟨n+1,true,L2,_,vP2,_,rfl,qO,by go_num,rfl,GG⟩
   have qU:decide (aW (nu (pr.take (2*t.links.length)) R.1) (Sx.at_ pr (2*t.links.length+n))<0)=false:=yP fun h=>qt ((jzt _ _).1 h);have G9:Hid (∀wx,Ext wc wx->iJ w0 w wx x mb t AO co AL cl l (some (aD b o)) cd gl pr T P (n+1) more L' T' En P'):=Hx (fun wx hx=>⟨GC.o.fl.K hx,GC.o.lp,GC.o.dif,GC.o.loop,by have:=GC.o.few;omega,GC.o.J2,fun hm=>by obtain⟨h1,h2,h3⟩:=GC.o.non hm;refine⟨h1,h2,fun d' hd' h4 h5=>?_⟩;by_cases e:d'=n;{subst e;rw[qp.o]at h5;exact absurd h5 qt};exact h3 d' qO h4 h5,GC.o.qb.K hx,GC.o.far,GC.o.ext.tr hx⟩);generalize R.2=r2 at*;subst qh;have x0:=XW.cell _ _ _ qg v0;have x1:=XW.cell _ _ _ qg v1;have x2:=XW.cell _ _ _ qg v2;have z0:=XW.cell _ _ _ qf s0;have z1:=XW.cell _ _ _ qf s1;have z2:=XW.cell _ _ _ qf s2;(go_upto_region 7 with fail);go_cut [62] (fun s wx=>s=.bool false/\Ext wc wx);(case first=>refine cA qK qK ?_;(repeat (go_big_quiet_step ((go_at_call 19;exact Calls.ru (gT neg ny A1 n1 c1 A2 n2 c2 Y1 my fy qJ qH qA (nu (pr.take (2*t.links.length)) R.1) (Sx.at_ pr (2*t.links.length+n)) _ (C.o.2.1.K (XW.ext _)) (RY.o.K (XW.ext _)) qO qO qO qO)))));refine wpQuiet_nil ?_;rintro _ ⟨x,rfl⟩;go_wp2;go_meet;exact⟨rfl,x.ext⟩);obtain⟨rfl,qm⟩:=hcut;have GG:=Hx (G9.o _ qm);clear G9 qm GC;go_wp2;go_roundg (l.length-(n+1));(case measure=>omega);exact⟨n+1,more,L',T',En,P',rfl,qO,by go_num,rfl,GG⟩
  have q9:(R.2==0)=false:=yK.2 qh;have q4:decide (R.2=0)=false:=yP qh;have G9:Hid (∀wx,Ext wc wx->iJ w0 w wx x mb t AO co AL cl l (some (aD b o)) cd gl pr T P (n+1) more L' T' En P'):=Hx (fun wx hx=>⟨GC.o.fl.K hx,GC.o.lp,GC.o.dif,GC.o.loop,by have:=GC.o.few;omega,GC.o.J2,fun hm=>by obtain⟨h1,h2,h3⟩:=GC.o.non hm;refine⟨h1,h2,fun d' hd' h4 h5=>?_⟩;by_cases e:d'=n;{subst e;rw[qp.o]at h4;exact absurd h4 qh};exact h3 d' qO h4 h5,GC.o.qb.K hx,GC.o.far,GC.o.ext.tr hx⟩);generalize R.2=r2 at*;(go_upto_region 7 with fail);go_cut [62] (fun s wx=>s=.bool false/\Ext wc wx);(case first=>refine cA qK qK ?_;(repeat (go_big_quiet_step (fail)));refine wpQuiet_nil ?_;rintro _ ⟨x,rfl⟩;go_wp2;go_meet;exact⟨rfl,x.ext⟩);obtain⟨rfl,qm⟩:=hcut;have GG:=Hx (G9.o _ qm);clear G9 qm GC;go_wp2;go_roundg (l.length-(n+1));(case measure=>omega);exact⟨n+1,more,L',T',En,P',rfl,qO,by go_num,rfl,GG⟩
 obtain rfl:n=l.length:=qO;go_wp2;go_ret;exact⟨more,L',T',En,P',rfl,G.o⟩
end Go.Proofs.YtfeeacaofjpkaaaGreatDoor
