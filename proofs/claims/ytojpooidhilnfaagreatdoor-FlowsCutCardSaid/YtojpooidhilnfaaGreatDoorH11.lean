/- Part 11 of 26 of what the Flows claims share (the white space is struck, the texts are joined). -/
import Derived.Test.YtojpooidhilnfaaGreatDoorH09
import Derived.Test.YtojpooidhilnfaaGreatDoorH10
set_option linter.unusedVariables false
set_option linter.unusedSimpArgs false
set_option maxRecDepth 100000
set_option maxHeartbeats 8000000
namespace Go.Proofs.YtojpooidhilnfaaGreatDoor
open Go.Proofs.Tryz
open Go.RowKit
theorem jzb5{a b c:Rat}(h1:a<b)(h2:b<c):a<c:=by
 have h3:=kQs (vB h1) (vB h2);refine Rat.lt_of_le_of_ne h3 ?_;rintro rfl;exact(kQ4.2 (vB h1)) h2
theorem jzkm(a b:Rat):a<b\/a=b\/b<a:=by
 by_cases h:a<b;{exact .inl h};by_cases h2:b<a;{exact .inr (.inr h2)};exact .inr (.inl (Rat.le_antisymm (kQ4.1 h2) (kQ4.1 h)))
theorem gM(ps:LQ)(x y:LN):cI ps x y=true↔prQ ps x<prQ ps y\/(prQ ps x=prQ ps y/\(x.length<y.length\/(x.length=y.length/\bJ x y<0))):=by
 unfold cI nP or3 aW aK;rw[decide_eq_true_iff];by_cases h1:prQ ps x<prQ ps y;{simp[h1]};by_cases h2:prQ ps x=prQ ps y;{by_cases h3:x.length<y.length;{simp[h1,h2,h3,kZf]};by_cases h4:x.length=y.length;{simp[h1,h2,h3,h4,kZf]};simp[h1,h2,h3,h4,kZf]};simp[h1,h2]
theorem jzb6:∀x y:LN,x.length=y.length->¬bJ x y<0->¬bJ y x<0->x=y
 | [],[],_,_,_=>rfl
 |a::x,b::y,hl,h1,h2=>by
  unfold bJ at h1 h2;by_cases e:a<b
  ·rw[if_pos e]at h1;omega
  ·by_cases e2:a=b
   ·subst e2
    simp at h1 h2 hl;rw[jzb6 x y hl (by omega) (by omega)]
   ·rw[if_pos (by omega)]at h2;omega
theorem jzkn:∀x y:LN,x.length=y.length->x=y\/bJ x y<0\/bJ y x<0:=fun x y h=>by
 by_cases h1:bJ x y<0;{exact .inr (.inl h1)};{by_cases h2:bJ y x<0;{exact .inr (.inr h2)};{exact .inl (jzb6 x y h h1 h2)}}
theorem uI:∀x y z:LN,x.length=y.length->y.length=z.length->bJ x y<0->bJ y z<0->bJ x z<0
 | [],[],[],_,_,h,_=>h
 |a::x,b::y,c::z,hl,hl2,h1,h2=>by
  unfold bJ at h1 h2⊢;simp only[kQo]at hl hl2;by_cases e1:a<b <;> by_cases e2:b<c <;> by_cases e3:a=b <;> by_cases e4:b=c <;> simp[e1,e2,e3,e4]at h1 h2⊢ <;> try omega
  ·subst e3 e4
   exact uI x y z (by omega) (by omega) h1 h2
theorem uJ:∀x:LN,bJ x x=0
 | []=>rfl
 |a::x=>by unfold bJ;simp[uJ x]
theorem jzb7:∀(x y z:LN),x.length=y.length->bJ x y<0->bJ (x++z) (y++z)<0
 | [],[],_,_,h=>by simp[bJ]at h
 |a::x,b::y,z,hl,h=>by
  simp only[List.cons_append];unfold bJ at h⊢;by_cases e:a<b
  ·simp[e]
  ·by_cases e2:a=b
   ·subst e2
    simp at h⊢;exact jzb7 x y z (by simpa using hl) h
   ·simp[e,e2]at h
def leL(ps:LQ)(x y:LN):Prop:=cI ps y x=false
theorem lR(ps:LQ)(x y:LN):leL ps x y↔x=y\/cI ps x y=true:=by
 unfold leL;constructor;{intro h;(have h':¬cI ps y x=true:=(by simp[h]);rw[gM]at h';rcases jzkm (prQ ps x) (prQ ps y)with h1|h1|h1);{exact .inr ((gM ps x y).2 (.inl h1))};{(rcases Nat.lt_trichotomy x.length y.length with h2|h2|h2);{exact .inr ((gM ps x y).2 (.inr ⟨h1,.inl h2⟩))};{(rcases jzkn x y h2 with h3|h3|h3);{exact .inl h3};{exact .inr ((gM ps x y).2 (.inr ⟨h1,.inr ⟨h2,h3⟩⟩))};exact absurd (.inr ⟨h1.symm,.inr ⟨h2.symm,h3⟩⟩) h'};exact absurd (.inr ⟨h1.symm,.inl h2⟩) h'};exact absurd (.inl h1) h'};(intro h;apply Bool.eq_false_iff.2;intro hb;rw[gM]at hb;rcases h with h|h);{subst h;(rcases hb with h1|⟨_,h1|⟨_,h1⟩⟩);{exact kZf h1};{omega};rw[uJ]at h1;omega};(rw[gM]at h;rcases h with h1|⟨h1,h2⟩);{(rcases hb with h3|⟨h3,_⟩);{exact kZf (jzb5 h1 h3)};rw[h3]at h1;exact kZf h1};(rcases hb with h3|⟨_,h3⟩);{rw[h1]at h3;exact kZf h3};(rcases h2 with h2|⟨h2,h4⟩ <;> rcases h3 with h3|⟨h3,h5⟩ <;> try omega);have:=uI x y x h2 h3 h4 h5;rw[uJ]at this;omega
theorem jzko{ps:LQ}{x y z:LN}(h1:cI ps x y=true)(h2:cI ps y z=true):cI ps x z=true:=by
 (rw[gM]at*;rcases h1 with h1|⟨h1,h1'⟩ <;> rcases h2 with h2|⟨h2,h2'⟩);{exact .inl (jzb5 h1 h2)};{exact .inl (by rw[<-h2];exact h1)};{exact .inl (by rw[h1];exact h2)};(refine .inr ⟨h1.trans h2,?_⟩;rcases h1' with h1'|⟨h1',g1⟩ <;> rcases h2' with h2'|⟨h2',g2⟩);{exact .inl (by omega)};{exact .inl (by omega)};{exact .inl (by omega)};exact .inr ⟨by omega,uI x y z h1' h2' g1 g2⟩
theorem leL.refl(ps:LQ)(x:LN):leL ps x x:=(lR ps x x).2 (.inl rfl)
theorem leL.trans{ps:LQ}{x y z:LN}(h1:leL ps x y)(h2:leL ps y z):leL ps x z:=by
 rw[lR]at*;rcases h1 with rfl|h1
 ·exact h2
 rcases h2 with rfl|h2
 ·exact .inr h1
 exact .inr (jzko h1 h2)
theorem leL.anti{ps:LQ}{x y:LN}(h1:leL ps x y)(h2:leL ps y x):x=y:=by
 rcases(lR ps x y).1 h1 with h|h
 ·exact h
 unfold leL at h2;rw[h]at h2;cases h2
theorem leL.of_bef{ps:LQ}{x y:LN}(h:cI ps x y=true):leL ps x y:=(lR ps x y).2 (.inr h)
theorem leL.of_not{ps:LQ}{x y:LN}(h:¬cI ps x y=true):leL ps y x:=by unfold leL;simpa using h
theorem lS(ps:LQ)(x y:LN):prQ ps (x++y)=prQ ps x+prQ ps y:=by
 have qa:∀(l:LN) (s:Rat),l.foldl (fun s a=>s+ps[a]?.getD 0) s=s+prQ ps l:=(by intro l;unfold prQ;(induction l with|nil=>intro s;simp[Rat.add_zero]|cons a l ih=>intro s;rw[List.foldl_cons,List.foldl_cons,ih,ih (0+_),Rat.zero_add,Rat.add_assoc]));unfold prQ;rw[kZt,qa];rfl
def dO(ps:LQ):Prop:=∀a:Nat,(0:Rat)<=ps[a]?.getD 0
theorem uL{ps:LQ}(h:dO ps):∀x:LN,0<=prQ ps x:=by
 intro x;(induction x with|nil=>exact vC|cons a x ih=>rw[show a::x=[a]++x from rfl,lS];have:prQ ps [a]=0+ps[a]?.getD 0:=rfl;rw[this,Rat.zero_add];have h1:=Rat.add_le_add_left (c:=prQ ps x) |>.2 (h a);rw[Rat.add_zero,Rat.add_comm]at h1;exact kQs ih h1)
theorem jzb8{ps:LQ}(h:dO ps)(x y z:LN)(hy:y≠ []):cI ps (x++z) (x++y++z)=true:=by
 rw[gM];have h1:prQ ps (x++z)<=prQ ps (x++y++z):=(by rw[lS,lS,lS];have h2:=Rat.add_le_add_left (c:=prQ ps x) |>.2 (uL h y);rw[Rat.add_zero]at h2;exact(Rat.add_le_add_right (c:=prQ ps z)).2 h2);have h3:(x++z).length<(x++y++z).length:=(by have:=List.length_pos_iff.2 hy;simp;omega);by_cases h4:prQ ps (x++z)=prQ ps (x++y++z);{exact .inr ⟨h4,.inl h3⟩};exact .inl (Rat.lt_of_le_of_ne h1 h4)
theorem leL.ext{ps:LQ}(h:dO ps)(x y:LN):leL ps x (x++y):=by
 by_cases hy:y=[];{subst hy;rw[List.append_nil];exact leL.refl ps x};have:=jzb8 h x y [] hy;simp at this;exact leL.of_bef this
theorem leL.app{ps:LQ}{x y:LN}(h:leL ps x y)(z:LN):leL ps (x++z) (y++z):=by
 rcases(lR ps x y).1 h with rfl|h
 ·exact leL.refl _ _
 apply leL.of_bef;rw[gM]at*;rw[lS,lS];rcases h with h|⟨h,h'⟩
 ·exact .inl (Rat.add_lt_add_right.2 h)
 refine .inr ⟨by rw[h],?_⟩;rcases h' with h'|⟨h',g⟩
 ·exact .inl (by simp;omega)
 exact .inr ⟨by simp;omega,jzb7 x y z h' g⟩
theorem leL.nil{ps:LQ}(h:dO ps)(x:LN):leL ps [] x:=by
 have:=leL.ext h [] x;simpa using this
def FW(t:Tp)(down:List Bool)(d:Nat):Nat->LN->Nat->Prop
 |u,[],v=>u=v
 |u,a::p,v=>a∈aM t u/\cM t down a d=true/\FW t down d (aH t a).toNat p v
theorem FW.app{t}{down:List Bool}{d:Nat}:∀(p:LN) {q:LN} {u v x:Nat},FW t down d u p v->FW t down d v q x->FW t down d u (p++q) x
 | [],_,_,_,_,h1,h2=>by
   have h1:_=_:=h1;subst h1;exact h2
 |_::p,_,_,_,_,h1,h2=>⟨h1.1,h1.2.1,FW.app p h1.2.2 h2⟩
theorem FW.snoc_inv{t}{down:List Bool}{d:Nat}:∀(p:LN) {a u v:Nat},FW t down d u (p++[a]) v->∃m,FW t down d u p m/\a∈aM t m/\cM t down a d=true/\v=(aH t a).toNat
 | [],a,u,v,h=>⟨u,rfl,h.1,h.2.1,h.2.2.symm⟩
 |b::p,a,u,v,h=>by
  obtain⟨m,h1,h2⟩:=FW.snoc_inv p h.2.2;exact⟨m,⟨h.1,h.2.1,h1⟩,h2⟩
theorem FW.one{t}{down:List Bool}{d a u:Nat}(h1:a∈aM t u)(h2:cM t down a d=true):FW t down d u [a] (aH t a).toNat:=⟨h1,h2,rfl⟩
theorem eD{t}(hv:aI t=true){n a:Nat}(h:a∈aM t n):0<=aH t a/\aH t a<t.nodes/\(aH t a).toNat<t.nodes.toNat/\aU t a=(n:Int):=by
 unfold aM cA at h;rw[List.mem_filter,vX]at h;obtain⟨h1,h2⟩:=h;have h2:aU t a=(n:Int):=(by simpa using h2);have hl:a/2<t.links.length:=(by omega);unfold aI at hv;rw[vM,xW]at hv;have qa:=hv.2 _ (xR hl);unfold Lk.ok ndB at qa;simp at qa;have:0<=aH t a/\aH t a<t.nodes:=(by unfold aH;rw[yG hl];simp only[];split <;> omega);exact⟨this.1,this.2,by omega,h2⟩
theorem jzb9(ps:LQ)(ls:List Lb):∀k,∀(m:Nat) (l:Lb),m<k->ls[m]?=some l->l.known=true->l.done=false->0<=cB ps ls k/\leL ps (dE ls (cB ps ls k).toNat) l.arcs
 |0,m,_,h,_,_,_=>by omega
 |k+1,m,l,hm,hl,h1,h2=>by
  have ih:=jzb9 ps ls k m l;by_cases e:m=k
  ·subst e
   unfold cB;rw[hl];simp only[h1,h2,Bool.not_false,Bool.and_true,kZg]
   split
   ·refine⟨by omega,?_⟩
    rw[xL];unfold dE;rw[hl];exact leL.refl _ _
   rename_i hc
   simp only[Bool.or_eq_true,not_or,decide_eq_true_eq]at hc;refine⟨by omega,leL.of_not (by exact hc.2)⟩
  obtain⟨i1,i2⟩:=ih (by omega) hl h1 h2;unfold cB
  split
  ·exact⟨i1,i2⟩
  rename_i lk hk
  split
  ·rename_i hc
   refine⟨by omega,?_⟩;rw[xL];simp only[vM,Bool.or_eq_true,decide_eq_true_eq]at hc;have hb:cI ps lk.arcs ((ls[(cB ps ls k).toNat]?.map Lb.arcs).getD [])=true:=by
    rcases hc.2 with h|h
    ·omega
    exact h
   have:dE ls k=lk.arcs:=(by unfold dE;rw[hk];rfl);rw[this];exact(leL.of_bef hb).trans i2
  exact⟨i1,i2⟩
theorem uM{ps:LQ}{ls:List Lb}{m:Nat}{l:Lb}(hl:ls[m]?=some l)(h1:l.known=true)(h2:l.done=false):0<=bU ps ls/\leL ps (dE ls (bU ps ls).toNat) l.arcs:=
 jzb9 ps ls _ m l (yH.1 hl).1 hl h1 h2
structure DI(t:Tp)(down:List Bool)(ps:LQ)(s d:Nat)(ls:List Lb):Prop where
 len:ls.length=t.nodes.toNat
 walk:∀(v:Nat) (l:Lb),ls[v]?=some l->l.known=true->FW t down d s l.arcs v
 src:∃l,ls[s]?=some l/\l.known=true/\l.arcs=[]
 dd:∀l,ls[d]?=some l->l.done=false
 kn:∀(v:Nat) (l:Lb),ls[v]?=some l->l.done=true->l.known=true
 lo:∀(v m:Nat) (l k:Lb),ls[v]?=some l->l.done=true->ls[m]?=some k->k.known=true->k.done=false->leL ps l.arcs k.arcs
 step:∀(u a:Nat) (l:Lb),ls[u]?=some l->l.done=true->a∈aM t u->cM t down a d=true->∃k,ls[(aH t a).toNat]?=some k/\k.known=true/\leL ps k.arcs (l.arcs++[a])
theorem DI.low{t}{down:List Bool}{ps:LQ}{s d:Nat}{ls:List Lb}(h:DI t down ps s d ls)(hp:dO ps):∀(n:Nat) (p:LN) (v:Nat),p.length=n->FW t down d s p v->
  (∃l,ls[v]?=some l/\l.done=true/\leL ps l.arcs p)\/(∃(m:Nat) (k:Lb),ls[m]?=some k/\k.known=true/\k.done=false/\leL ps k.arcs p)
 |0,p,v,hn,hw=>by
  have:p=[]:=kQp.1 hn;subst this;have hw:s=v:=hw;subst hw;obtain⟨l,h1,h2,h3⟩:=h.src;cases hd:l.done
  ·exact .inr ⟨s,l,h1,h2,hd,by rw[h3];exact leL.refl _ _⟩
  exact .inl ⟨l,h1,hd,by rw[h3];exact leL.refl _ _⟩
 |n+1,p,v,hn,hw=>by
  obtain⟨q,a,rfl⟩:∃q a,p=q++[a]:=by
   have:p≠ []:=(by rintro rfl;simp at hn);exact⟨p.dropLast,p.getLast this,(List.dropLast_concat_getLast this).symm⟩
  obtain⟨u,h1,h2,h3,rfl⟩:=FW.snoc_inv q hw;rcases h.low hp n q u (by simpa using hn) h1 with⟨l,k1,k2,k3⟩|⟨m,k,k1,k2,k3,k4⟩
  ·obtain⟨k,j1,j2,j3⟩:=h.step u a l k1 k2 h2 h3
   have qa:=j3.trans (k3.app [a]);cases hd:k.done
   ·exact .inr ⟨_,k,j1,j2,hd,qa⟩
   exact .inl ⟨k,j1,hd,qa⟩
  exact .inr ⟨m,k,k1,k2,k3,k4.trans (leL.ext hp q [a])⟩
structure DJ(t:Tp)(down:List Bool)(ps:LQ)(s d n:Nat)(X:LN)(done:LN)(ls:List Lb):Prop where
 len:ls.length=t.nodes.toNat
 walk:∀(v:Nat) (l:Lb),ls[v]?=some l->l.known=true->FW t down d s l.arcs v
 src:∃l,ls[s]?=some l/\l.known=true/\l.arcs=[]
 dd:∀l,ls[d]?=some l->l.done=false
 kn:∀(v:Nat) (l:Lb),ls[v]?=some l->l.done=true->l.known=true
 lo:∀(v m:Nat) (l k:Lb),ls[v]?=some l->l.done=true->ls[m]?=some k->k.known=true->k.done=false->leL ps l.arcs k.arcs
 step:∀(u a:Nat) (l:Lb),u≠n->ls[u]?=some l->l.done=true->a∈aM t u->cM t down a d=true->∃k,ls[(aH t a).toNat]?=some k/\k.known=true/\leL ps k.arcs (l.arcs++[a])
 own:∃l,ls[n]?=some l/\l.done=true/\l.known=true/\l.arcs=X
 all:∀(v:Nat) (l:Lb),ls[v]?=some l->l.done=true->leL ps l.arcs X
 past:∀a∈done,cM t down a d=true->∃k,ls[(aH t a).toNat]?=some k/\k.known=true/\leL ps k.arcs (X++[a])
theorem DI.mark{t}{down:List Bool}{ps:LQ}{s d:Nat}{ls:List Lb}(h:DI t down ps s d ls)(h0:0<=bU ps ls)(hd:(bU ps ls).toNat≠d):
  DJ t down ps s d (bU ps ls).toNat (dE ls (bU ps ls).toNat) [] (eB ls (bU ps ls).toNat):=by
 obtain⟨l,h1,h2,h3⟩:=nS ps ls ls.length h0;have h1:ls[(bU ps ls).toNat]?=some l:=h1;have qg:∀(m:Nat) (k:Lb),ls[m]?=some k->k.known=true->k.done=false->leL ps l.arcs k.arcs:=fun m k e1 e2 e3=>(by have:=(uM (ps:=ps) e1 e2 e3).2;unfold dE at this;rw[h1]at this;exact this);have hX:dE ls (bU ps ls).toNat=l.arcs:=(by unfold dE;rw[h1];rfl);rw[hX];generalize (bU ps ls).toNat=n at*;have qe:=(yH.1 h1).1;have hm:eB ls n=ls.set n ⟨l.known,true,l.arcs⟩:=(by unfold eB;rw[h1]);rw[hm];have qa:∀(v:Nat) (k:Lb),(ls.set n ⟨l.known,true,l.arcs⟩)[v]?=some k->(v=n/\k=⟨l.known,true,l.arcs⟩)\/(v≠n/\ls[v]?=some k):=fun v k e=>(by by_cases hv:v=n;{subst hv;(rw[yM qe]at e;injection e with e);exact .inl ⟨rfl,e.symm⟩};rw[vN (fun h=>hv h.symm)]at e;exact .inr ⟨hv,e⟩);have put:∀(v:Nat) (k:Lb),ls[v]?=some k->∃k',(ls.set n ⟨l.known,true,l.arcs⟩)[v]?=some k'/\k'.known=k.known/\k'.arcs=k.arcs:=fun v k e=>(by by_cases hv:v=n;{subst hv;(rw[h1]at e;injection e with e);subst e;exact⟨_,yM qe,rfl,rfl⟩};exact⟨k,by rw[vN (fun h=>hv h.symm)];exact e,rfl,rfl⟩);refine⟨by rw[yV];exact h.len,?_,?_,?_,?_,?_,?_,⟨_,yM qe,rfl,h2,rfl⟩,?_,by simp⟩;{intro v k e hk;(rcases qa v k e with⟨rfl,rfl⟩|⟨_,e'⟩);{exact h.walk _ l h1 h2};exact h.walk v k e' hk};{obtain⟨k,e1,e2,e3⟩:=h.src;obtain⟨k',f1,f2,f3⟩:=put s k e1;exact⟨k',f1,f2.trans e2,f3.trans e3⟩};{intro k e;(rcases qa d k e with⟨rfl,rfl⟩|⟨_,e'⟩);{exact absurd rfl hd};exact h.dd k e'};{intro v k e hk;(rcases qa v k e with⟨rfl,rfl⟩|⟨_,e'⟩);{exact h2};exact h.kn v k e' hk};{intro v m x k ev hx em qh qf;(rcases qa m k em with⟨rfl,rfl⟩|⟨_,em'⟩);{cases qf};(rcases qa v x ev with⟨rfl,rfl⟩|⟨_,ev'⟩);{exact qg m k em' qh qf};exact h.lo v m x k ev' hx em' qh qf};{intro u a x hu e hx ha qi;(rcases qa u x e with⟨rfl,rfl⟩|⟨_,e'⟩);{exact absurd rfl hu};obtain⟨k,f1,f2,f3⟩:=h.step u a x e' hx ha qi;obtain⟨k',g1,g2,g3⟩:=put _ k f1;exact⟨k',g1,g2.trans f2,by rw[g3];exact f3⟩};(intro v x e hx;rcases qa v x e with⟨rfl,rfl⟩|⟨_,e'⟩);{exact leL.refl _ _};exact h.lo v n x l e' hx h1 h2 h3
theorem DJ.relax{t}{down:List Bool}{ps:LQ}{s d n:Nat}{X done:LN}{ls:List Lb}(h:DJ t down ps s d n X done ls)(hv:aI t=true)(hp:dO ps){a:Nat}(ha:a∈aM t n):
  DJ t down ps s d n X (done++[a]) (dS t down ps d n ls a):=by
 obtain⟨qA,qB,qy,_⟩:=eD hv ha;obtain⟨ln,qh,qo,qm,qi⟩:=h.own;have hX:dE ls n=X:=(by unfold dE;rw[qh];exact qi);obtain⟨lm,qe⟩:∃lm,ls[(aH t a).toNat]?=some lm:=⟨_,yG (by rw[h.len];exact qy)⟩;have qj:=(yH.1 qe).1;unfold dS;rw[qe,hX];simp only[];split;{rename_i hc;(refine⟨h.len,h.walk,h.src,h.dd,h.kn,h.lo,h.step,h.own,h.all,fun b hb qf=>?_⟩;rcases xY.1 hb with hb|hb);{exact h.past b hb qf};have:b=a:=(by simpa using hb);subst this;rw[qf]at hc;have qn:lm.done=true:=(by simpa using hc);exact⟨lm,qe,h.kn _ lm qe qn,(h.all _ lm qe qn).trans (leL.ext hp X [b])⟩};rename_i hc;(simp only[Bool.or_eq_true,not_or,Bool.not_eq_true,Bool.not_eq_false']at hc;obtain⟨qt,qk⟩:=hc;have qk:cM t down a d=true:=by simpa using qk);split;{rename_i hb;have qp:lm.known=true->leL ps (X++[a]) lm.arcs:=fun hk=>(by rw[hk]at hb;exact leL.of_bef (by simpa using hb));generalize hM:(aH t a).toNat=M at*;have qg:∀(v:Nat) (k:Lb),(ls.set M ⟨true,false,X++[a]⟩)[v]?=some k->(v=M/\k=⟨true,false,X++[a]⟩)\/(v≠M/\ls[v]?=some k):=fun v k e=>(by by_cases hv:v=M;{subst hv;(rw[yM qj]at e;injection e with e);exact .inl ⟨rfl,e.symm⟩};rw[vN (fun h=>hv h.symm)]at e;exact .inr ⟨hv,e⟩);have put:∀(v:Nat) (k:Lb),ls[v]?=some k->k.known=true->∃k',(ls.set M ⟨true,false,X++[a]⟩)[v]?=some k'/\k'.known=true/\leL ps k'.arcs k.arcs:=fun v k e hk=>(by by_cases hv:v=M;{subst hv;(rw[qe]at e;injection e with e);subst e;exact⟨_,yM qj,rfl,qp hk⟩};exact⟨k,by rw[vN (fun h=>hv h.symm)];exact e,hk,leL.refl _ _⟩);have qz:n≠M:=(by (rintro rfl;rw[qh]at qe;injection qe with e);rw[<-e,qo]at qt;cases qt);refine⟨by rw[yV];exact h.len,?_,?_,?_,?_,?_,?_,⟨ln,by rw[vN (fun h=>qz h.symm)];exact qh,qo,qm,qi⟩,?_,?_⟩;{intro v k e hk;(rcases qg v k e with⟨rfl,rfl⟩|⟨_,e'⟩);{have:=FW.app X (by rw[<-qi];exact h.walk n ln qh qm) (FW.one ha qk);rw[hM]at this;exact this};exact h.walk v k e' hk};{obtain⟨k,e1,e2,e3⟩:=h.src;by_cases hs:s=M;{subst hs;(rw[qe]at e1;injection e1 with e1);subst e1;have h9:=(qp e2).anti (by rw[e3];exact leL.nil hp _);rw[e3]at h9;simp at h9};exact⟨k,by rw[vN (fun h=>hs h.symm)];exact e1,e2,e3⟩};{intro k e;(rcases qg d k e with⟨rfl,rfl⟩|⟨_,e'⟩);{rfl};exact h.dd k e'};{intro v k e hk;(rcases qg v k e with⟨rfl,rfl⟩|⟨_,e'⟩);{rfl};exact h.kn v k e' hk};{intro v m x k ev hx em qx qw;(rcases qg v x ev with⟨rfl,rfl⟩|⟨_,ev'⟩);{cases hx};(rcases qg m k em with⟨rfl,rfl⟩|⟨_,em'⟩);{exact(h.all v x ev' hx).trans (leL.ext hp X [a])};exact h.lo v m x k ev' hx em' qx qw};{intro u b x hu e hx qa qf;(rcases qg u x e with⟨rfl,rfl⟩|⟨_,e'⟩);{cases hx};obtain⟨k,f1,f2,f3⟩:=h.step u b x hu e' hx qa qf;obtain⟨k',g1,g2,g3⟩:=put _ k f1 f2;exact⟨k',g1,g2,g3.trans f3⟩};{intro v x e hx;(rcases qg v x e with⟨rfl,rfl⟩|⟨_,e'⟩);{cases hx};exact h.all v x e' hx};(intro b qa qf;rcases xY.1 qa with qa|qa);{obtain⟨k,f1,f2,f3⟩:=h.past b qa qf;obtain⟨k',g1,g2,g3⟩:=put _ k f1 f2;exact⟨k',g1,g2,g3.trans f3⟩};have:b=a:=(by simpa using qa);subst this;rw[hM];exact⟨_,yM qj,rfl,leL.refl _ _⟩};rename_i hb;(simp only[Bool.or_eq_true,not_or,Bool.not_eq_true,Bool.not_eq_false']at hb;refine⟨h.len,h.walk,h.src,h.dd,h.kn,h.lo,h.step,h.own,h.all,fun b qa qf=>?_⟩;rcases xY.1 qa with qa|qa);{exact h.past b qa qf};have:b=a:=(by simpa using qa);subst this;exact⟨lm,qe,by simpa using hb.1,hb.2⟩
theorem DJ.fold{t}{down:List Bool}{ps:LQ}{s d n:Nat}{X:LN}(hv:aI t=true)(hp:dO ps):∀(al done:LN) (ls:List Lb),DJ t down ps s d n X done ls->(∀a∈al,a∈aM t n)->DJ t down ps s d n X (done++al) (al.foldl (dS t down ps d n) ls)
 | [],done,ls,h,_=>by rw[List.append_nil];exact h
 |a::al,done,ls,h,ha=>by
  have:=DJ.fold hv hp al (done++[a]) _ (h.relax hv hp (ha a (by simp))) (fun b hb=>ha b (by simp[hb]));rw[List.append_assoc]at this;exact this
theorem DJ.di{t}{down:List Bool}{ps:LQ}{s d n:Nat}{X:LN}{ls:List Lb}(h:DJ t down ps s d n X (aM t n) ls):DI t down ps s d ls:=by
 refine⟨h.len,h.walk,h.src,h.dd,h.kn,h.lo,fun u a l e hl ha hus=>?_⟩;by_cases hu:u=n;{subst hu;obtain⟨ln,qe,_,_,qa⟩:=h.own;rw[qe]at e;injection e with e;subst e;rw[qa];exact h.past a ha hus};exact h.step u a l hu e hl ha hus
theorem jzca t(down:List Bool)(ps:LQ)(d n:Nat):∀(al:LN) (ls:List Lb),cF (al.foldl (dS t down ps d n) ls)=cF ls
 | [],_=>rfl
 |a::al,ls=>by rw[List.foldl_cons,jzca t down ps d n al,jzbi]
theorem uN{t}{down:List Bool}{ps:LQ}{s d:Nat}(hv:aI t=true)(hp:dO ps):∀(f:Nat) (ls:List Lb),DI t down ps s d ls->cF ls<f->
  match iF t down ps d f ls with
  |none=>∀p,¬FW t down d s p d
  |some p=>FW t down d s p d/\∀q,FW t down d s q d->leL ps p q
 |0,ls,_,h=>by omega
 |f+1,ls,hi,hf=>by
  unfold iF;by_cases h1:bU ps ls<0
  ·rw[if_pos h1]
   simp only[];intro p hw;rcases hi.low hp _ p d rfl hw with⟨l,k1,k2,_⟩|⟨m,k,k1,k2,k3,_⟩
   ·rw[hi.dd l k1]at k2;cases k2
   ·have:=(uM (ps:=ps) k1 k2 k3).1
    omega
  ·rw[if_neg h1]
   by_cases h2:(bU ps ls).toNat=d
   ·rw[if_pos h2]
    simp only[];obtain⟨l,e1,e2,e3⟩:=nS ps ls ls.length (show 0<=bU ps ls by omega);have e1:ls[(bU ps ls).toNat]?=some l:=e1;have hX:dE ls (bU ps ls).toNat=l.arcs:=(by unfold dE;rw[e1];rfl);refine⟨?_,fun q hw=>?_⟩
    ·rw[hX]
     have:=hi.walk _ l e1 e2;rw[h2]at this;exact this
    ·rcases hi.low hp _ q d rfl hw with⟨l,k1,k2,_⟩|⟨m,k,k1,k2,k3,k4⟩
     ·rw[hi.dd l k1]at k2;cases k2
     ·exact(uM k1 k2 k3).2.trans k4
   ·rw[if_neg h2]
    have hj:=(DJ.fold hv hp (aM t (bU ps ls).toNat) [] _ (hi.mark (by omega) h2) (fun _ h=>h));rw[List.nil_append]at hj;refine uN hv hp f _ hj.di ?_;rw[jzca];obtain⟨l,e1,e2,e3⟩:=nS ps ls ls.length (show 0<=bU ps ls by omega);have:=jzbh (ls:=ls) e1 e3;unfold bU at*;omega
theorem jzcb{t:Tp}{down:List Bool}{ps:LQ}{s d:Nat}(hs:s<t.nodes.toNat):DI t down ps s d (cN t.nodes.toNat s):=by
 unfold cN;have qa:∀(v:Nat) (k:Lb),((List.replicate t.nodes.toNat (⟨false,false,[]⟩:Lb)).set s ⟨true,false,[]⟩)[v]?=some k->k.done=false/\k.arcs=[]/\(k.known=true->v=s):=fun v k e=>(by by_cases hv:v=s;{subst hv;(rw[yM (by simp[hs])]at e;injection e with e);subst e;exact⟨rfl,rfl,fun _=>rfl⟩};rw[vN (fun h=>hv h.symm)]at e;have:=uF (yJ e);subst this;exact⟨rfl,rfl,fun h=>by cases h⟩);refine⟨by simp,?_,⟨_,yM (by simp[hs]),rfl,rfl⟩,fun l e=>(qa d l e).1,?_,?_,?_⟩;{intro v k e hk;have:=qa v k e;rw[this.2.1,this.2.2 hk];exact rfl};{intro v k e hk;rw[(qa v k e).1]at hk;cases hk};{intro v m l k e hk;rw[(qa v l e).1]at hk;cases hk};intro u a l e hk;rw[(qa u l e).1]at hk;cases hk
theorem jzcc{t}{down:List Bool}{s d:Nat}(hv:aI t=true):∀(f:Nat) (path:LN) (u:Nat) (seen:List Bool) (q:LN),FW t down d s path u->q∈cU t down d f path u seen->FW t down d s q d
 |0,_,_,_,_,_,h=>by simp[cU]at h
 |f+1,path,u,seen,q,hw,h=>by
  unfold cU at h;by_cases h1:u=d
  ·rw[if_pos h1]at h
   have:q=path:=(by simpa using h);subst this;rw[<-h1];rw[<-h1]at hw;exact hw
  rw[if_neg h1]at h;by_cases h2:0<path.length/\bH t u=true
  ·rw[if_pos h2]at h;simp at h
  rw[if_neg h2]at h;rw[kZx]at h;obtain⟨a,ha,hq⟩:=h;by_cases h3:(bZ down a||seen[(aH t a).toNat]?.getD false)=true
  ·rw[if_pos h3]at hq;simp at hq
  rw[if_neg h3]at hq;simp only[Bool.or_eq_true,not_or,Bool.not_eq_true]at h3;obtain⟨g1,g2,g3,_⟩:=eD hv ha;have qa:cM t down a d=true:=by
   unfold cM;rw[h3.1];by_cases h4:aH t a=(d:Int)
   ·simp[h4]
   cases h5:bH t (aH t a)
   ·simp
   exfalso;cases f with
   |zero=>simp[cU]at hq
   |succ f=>
    unfold cU at hq;rw[if_neg (by omega),if_pos ⟨by simp,by rw[Int.toNat_of_nonneg g1];exact h5⟩]at hq;simp at hq
  exact jzcc hv f (path++[a]) _ _ q (FW.app path hw (FW.one ha qa)) hq
theorem oF{t}{ps:LQ}(h:eM t ps=true):dO ps:=by
 (intro a;cases e:ps[a]? with|none=>exact vC|some q=>unfold eM at h;simp at h;have:=h.2 q (yJ e);rw[kQ1, <-kQ4, <-jzb3];omega)
theorem FW.lt{t}{down:List Bool}{d:Nat}(hv:aI t=true):∀(p:LN) {u v:Nat},u<t.nodes.toNat->FW t down d u p v->v<t.nodes.toNat
 | [],_,_,hu,h=>by
   have h:_=_:=h;rw[<-h];exact hu
 |_::p,_,_,_,h=>FW.lt hv p (eD hv h.1).2.2.1 h.2.2
theorem jzcd{α:Type}:∀(p:List α),p=[]\/∃q a,p=q++[a]:=fun p=>by
 by_cases h:p=[];{exact .inl h};{exact .inr ⟨p.dropLast,p.getLast h,(List.dropLast_concat_getLast h).symm⟩}
theorem uO{t}(hv:aI t=true){u a:Nat}(h:a∈aM t u):((aH t a).toNat:Int)=aH t a:=by
 have:=(eD hv h).1;omega
theorem FW.alive{t}{down:List Bool}{s d:Nat}(hv:aI t=true){p:LN}{v:Nat}(h:FW t down d s p v):v=s\/v=d\/bH t (v:Int)=false:=by
 rcases jzcd p with rfl|⟨q,a,rfl⟩
 ·exact .inl (show s=v from h).symm
 obtain⟨u,_,h2,h3,rfl⟩:=FW.snoc_inv q h;unfold cM at h3;rw[<-uO hv h2,vM,Bool.or_eq_true,Bool.not_eq_true',Bool.not_eq_true',beq_iff_eq]at h3;rcases h3.2 with h4|h4
 ·exact .inr (.inl (by omega))
 exact .inr (.inr h4)
def KL(t:Tp)(down:List Bool)(s d n:Nat)(x:LN):Prop:=
 (x=[]/\n=s)\/∃(y:LN) (a u:Nat),x=y++[a]/\FW t down d s y u/\a∈aM t u/\bZ down a=false/\n=(aH t a).toNat
theorem KL.fw{t}{down:List Bool}{s d n:Nat}{x:LN}(hv:aI t=true)(h:KL t down s d n x)(hl:x=[]\/n=d\/bH t (n:Int)=false):FW t down d s x n:=by
 (rcases h with⟨rfl,rfl⟩|⟨y,a,u,rfl,h1,h2,h3,rfl⟩);{rfl};(refine FW.app y h1 (FW.one h2 ?_);unfold cM;rw[<-uO hv h2,h3];rcases hl with hl|hl|hl);{simp at hl};{rw[hl];simp};rw[hl];simp
structure KI(t:Tp)(down:List Bool)(ps:LQ)(s d:Nat)(V:List Bool)(fin:Nat->LN)(H:List (Nat×LN))(n:Nat)(todo:LN):Prop where
 len:V.length=t.nodes.toNat
 lab:∀m x,(m,x)∈H->KL t down s d m x
 size:∀m x,(m,x)∈H->x.length<=V.count true
 best:∀u,V[u]?=some true->u=s\/bH t (u:Int)=false->FW t down d s (fin u) u/\(fin u).length<V.count true/\∀p,FW t down d s p u->leL ps (fin u) p
 front:∀u a,V[u]?=some true->u=s\/bH t (u:Int)=false->a∈aM t u->bZ down a=false->V[(aH t a).toNat]?=some false->(u=n/\a∈todo)\/((aH t a).toNat,fin u++[a])∈H
 src:V[s]?=some false->(s,[])∈H
 dd:V[d]?=some false
theorem KI.low{t}{down:List Bool}{ps:LQ}{s d n:Nat}{V:List Bool}{fin:Nat->LN}{H:List (Nat×LN)}(h:KI t down ps s d V fin H n [])(hv:aI t=true)(hp:dO ps)(hs:s<t.nodes.toNat):∀(k:Nat) (p:LN) (v:Nat),p.length=k->FW t down d s p v->V[v]?=some false->∃m y,(m,y)∈H/\leL ps y p
 |0,p,v,hk,hw,hV=>by
  have:p=[]:=kQp.1 hk;subst this;have hw:s=v:=hw;subst hw;exact⟨s,[],h.src hV,leL.refl _ _⟩
 |k+1,p,v,hk,hw,hV=>by
  obtain⟨q,a,rfl⟩:∃q a,p=q++[a]:=by
   rcases jzcd p with rfl|h1
   ·simp at hk
   exact h1
  obtain⟨u,h1,h2,h3,rfl⟩:=FW.snoc_inv q hw;have hu:=FW.lt hv q hs h1;obtain⟨b,hb⟩:∃b,V[u]?=some b:=⟨_,yG (by rw[h.len];exact hu)⟩;cases b
  case false=>
   obtain⟨m,y,i1,i2⟩:=h.low hv hp hs k q u (by simpa using hk) h1 hb;exact⟨m,y,i1,i2.trans (leL.ext hp q [a])⟩
  have qa:u=s\/bH t (u:Int)=false:=by
   rcases h1.alive hv with h4|h4|h4
   ·exact .inl h4
   ·subst h4;rw[h.dd]at hb;cases hb
   exact .inr h4
  have qe:bZ down a=false:=by
   unfold cM at h3;simp at h3;exact h3.1
  rcases h.front u a hb qa h2 qe hV with⟨_,h4⟩|h4
  ·cases h4
  exact⟨_,_,h4,((h.best u hb qa).2.2 q h1).app [a]⟩
theorem KI.none_{t}{down:List Bool}{ps:LQ}{s d n:Nat}{V:List Bool}{fin:Nat->LN}(h:KI t down ps s d V fin [] n [])(hv:aI t=true)(hp:dO ps)(hs:s<t.nodes.toNat)(p:LN):¬FW t down d s p d:=fun hw=>by
 obtain⟨m,y,h1,_⟩:=h.low hv hp hs _ p d rfl hw h.dd;cases h1
section
variable {t:Tp} {down:List Bool} {ps:List Rat} {s d n k:Nat} {V:List Bool} {fin:Nat->List Nat} {H H':List (Nat×List Nat)} {x:List Nat}
theorem KI.skip(h:KI t down ps s d V fin H k [])(h1:∀z,z∈H->z=(n,x)\/z∈H')(h2:∀z,z∈H'->z∈H)(hV:V[n]?=some true)(m:Nat):KI t down ps s d V fin H' m []:=by
 refine⟨h.len,fun m x hx=>h.lab m x (h2 _ hx),fun m x hx=>h.size m x (h2 _ hx),h.best,fun u a g1 g2 g3 g4 g5=>.inr ?_,fun hS=>?_,h.dd⟩;{(rcases h.front u a g1 g2 g3 g4 g5 with⟨_,g6⟩|g6);{cases g6};(rcases h1 _ g6 with e|e);{(injection e with e1 e2);rw[e1,hV]at g5;cases g5};exact e};(rcases h1 _ (h.src hS)with e|e);{(injection e with e1 e2);rw[e1,hV]at hS;cases hS};exact e
theorem KI.least(h:KI t down ps s d V fin H k [])(hv:aI t=true)(hp:dO ps)(hs:s<t.nodes.toNat)(hx:(n,x)∈H)(hm:∀m y,(m,y)∈H->leL ps x y)(hV:V[n]?=some false):∀p,FW t down d s p n->leL ps x p:=fun p hw=>by
 obtain⟨m,y,h1,h2⟩:=h.low hv hp hs _ p n rfl hw hV;exact(hm m y h1).trans h2
theorem KI.found(h:KI t down ps s d V fin H k [])(hv:aI t=true)(hp:dO ps)(hs:s<t.nodes.toNat)(hx:(d,x)∈H)(hm:∀m y,(m,y)∈H->leL ps x y):FW t down d s x d/\∀p,FW t down d s p d->leL ps x p:=
 ⟨(h.lab _ _ hx).fw hv (.inr (.inl rfl)),h.least hv hp hs hx hm h.dd⟩
theorem jzkp{V:List Bool}{n:Nat}(hV:V[n]?=some false):(V.set n true).count true=V.count true+1:=by
 have hl:=(yH.1 hV).1;have he:=(yH.1 hV).2;rw[List.count_set hl,he];simp
theorem KI.reach(h:KI t down ps s d V fin H k [])(hv:aI t=true)(hp:dO ps)(hs:s<t.nodes.toNat)(hx:(n,x)∈H)(h1:∀z,z∈H->z=(n,x)\/z∈H')(h2:∀z,z∈H'->z∈H)(hm:∀m y,(m,y)∈H->leL ps x y)(hV:V[n]?=some false)(hd:n≠d):
  KI t down ps s d (V.set n true) (fun u=>if u=n then x else fin u) H' n (aM t n):=by
 have hc:=jzkp hV;have hl:=(yH.1 hV).1;have hg:∀u b,u≠n->(V.set n true)[u]?=some b->V[u]?=some b:=fun u b hu hb=>(by rwa [vN (fun e=>hu e.symm)]at hb);have qa:∀u,(V.set n true)[u]?=some false->u≠n/\V[u]?=some false:=fun u hb=>(by have hu:u≠n:=fun e=>(by subst e;rw[yM hl]at hb;cases hb);exact⟨hu,hg u false hu hb⟩);refine⟨by rw[yV];exact h.len,fun m x hx=>h.lab m x (h2 _ hx),fun m x hx=>by rw[hc];have:=h.size m x (h2 _ hx);omega,fun u hu hal=>?_,fun u a g1 g2 g3 g4 g5=>?_,fun hS=>?_,by rw[vN hd];exact h.dd⟩;{by_cases e:u=n;{subst e;simp only[if_true];have qe:u=s->x=[]:=fun e=>(by subst e;exact((hm _ _ (h.src hV)).anti (leL.nil hp x)));(refine⟨(h.lab _ _ hx).fw hv ?_,by have:=h.size _ _ hx;omega,h.least hv hp hs hx hm hV⟩;rcases hal with e|e);{exact .inl (qe e)};exact .inr (.inr e)};simp only[if_neg e];obtain⟨i1,i2,i3⟩:=h.best u (hg u true e hu) hal;exact⟨i1,by omega,i3⟩};{obtain⟨g6,g7⟩:=qa _ g5;by_cases e:u=n;{subst e;exact .inl ⟨rfl,g3⟩};(simp only[if_neg e];rcases h.front u a (hg u true e g1) g2 g3 g4 g7 with⟨_,g8⟩|g8);{cases g8};(rcases h1 _ g8 with e2|e2);{(injection e2 with e3 e4);exact absurd e3 g6};exact .inr e2};(obtain⟨g6,g7⟩:=qa _ hS;rcases h1 _ (h.src g7)with e2|e2);{(injection e2 with e3 e4);exact absurd e3 g6};exact e2
theorem KI.dead{todo:LN}(h:KI t down ps s d V fin H n todo)(hn:n≠s)(ho:bH t (n:Int)=true)(m:Nat):KI t down ps s d V fin H m []:=by
 (refine⟨h.len,h.lab,h.size,h.best,fun u a g1 g2 g3 g4 g5=>.inr ?_,h.src,h.dd⟩;rcases h.front u a g1 g2 g3 g4 g5 with⟨rfl,_⟩|g6);{(rcases g2 with g2|g2);{exact absurd g2 hn};rw[ho]at g2;cases g2};exact g6
theorem KI.off{a:Nat}{todo:LN}(h:KI t down ps s d V fin H n (a::todo))(hd:bZ down a=true):KI t down ps s d V fin H n todo:=by
 (refine⟨h.len,h.lab,h.size,h.best,fun u b g1 g2 g3 g4 g5=>?_,h.src,h.dd⟩;rcases h.front u b g1 g2 g3 g4 g5 with⟨rfl,g6⟩|g6);{(rcases xZ.1 g6 with rfl|g6);{rw[hd]at g4;cases g4};exact .inl ⟨rfl,g6⟩};exact .inr g6
theorem KI.push{a:Nat}{todo:LN}(h:KI t down ps s d V fin H n (a::todo))(hn:V[n]?=some true)(hal:n=s\/bH t (n:Int)=false)(ha:a∈aM t n)(hd:bZ down a=false)(hH:∀z,z∈H'↔z=((aH t a).toNat,fin n++[a])\/z∈H):KI t down ps s d V fin H' n todo:=by
 obtain⟨b1,b2,_⟩:=h.best n hn hal;refine⟨h.len,fun m x hx=>?_,fun m x hx=>?_,h.best,fun u b g1 g2 g3 g4 g5=>?_,fun hS=>(hH _).2 (.inr (h.src hS)),h.dd⟩;{(rcases(hH _).1 hx with e|e);{(injection e with e1 e2);subst e1 e2;exact .inr ⟨fin n,a,n,rfl,b1,ha,hd,rfl⟩};exact h.lab _ _ e};{(rcases(hH _).1 hx with e|e);{(injection e with e1 e2);subst e2;simp;omega};exact h.size _ _ e};(rcases h.front u b g1 g2 g3 g4 g5 with⟨rfl,g6⟩|g6);{(rcases xZ.1 g6 with rfl|g6);{exact .inr ((hH _).2 (.inl rfl))};exact .inl ⟨rfl,g6⟩};exact .inr ((hH _).2 (.inr g6))
theorem KI.start(hs:s<t.nodes.toNat)(hd:d<t.nodes.toNat)(m:Nat):KI t down ps s d (List.replicate t.nodes.toNat false) fin [(s,[])] m []:=by
 have qa:∀u b,(List.replicate t.nodes.toNat false)[u]?=some b->b=false:=fun u b h=>(by rw[xB]at h;split at h;{injection h with h;exact h.symm};cases h);refine⟨by simp,fun m x hx=>?_,fun m x hx=>?_,fun u hu=>?_,fun u a hu=>?_,fun _=>by simp,by rw[xB,if_pos hd]⟩;{simp at hx;exact .inl ⟨hx.2,hx.1⟩};{simp at hx;rw[hx.2];simp};{cases qa _ _ hu};cases qa _ _ hu
end
theorem jzkq t:(bL t).length=2*t.links.length:=by unfold bL;simp
theorem oG t:dO (bL t):=fun a=>by
 (cases h:(bL t)[a]? with|none=>exact vC|some q=>(unfold bL at h;rw[yW]at h;cases h2:(List.range (2*t.links.length))[a]? with|none=>rw[h2]at h;cases h|some b=>(rw[h2]at h;injection h with h);show(0:Rat)<=q;rw[<-h];exact Rat.intCast_nonneg.2 (by omega)))
theorem jzce t:eM t (bL t)=true:=by
 unfold eM;rw[jzkq,yO rfl];have:(bL t).any (fun q=>decide (aC q<0))=false:=(by rw[List.any_eq_false];intro q hq;unfold bL at hq;obtain⟨a,_,rfl⟩:=kQl.1 hq;simp only[decide_eq_true_eq];rw[jzb3,kQ4];exact Rat.intCast_nonneg.2 (by omega));rw[this];rfl
theorem jzcf{t}(hv:aI t=true)(a:Nat):eO t a<=65535:=by
 (unfold eO;cases h:t.links[a/2]? with|none=>simp|some l=>unfold aI at hv;rw[vM,xW]at hv;have qa:=hv.2 l (yJ h);unfold Lk.ok inB at qa;simp at qa;simp only[];split <;> omega)
theorem jzkr{t}(hv:aI t=true):∀x:LN,bF t x<=65535*x.length:=fun x=>by
 have qa:∀(y:LN) (s:Nat),y.foldl (fun s a=>s+eO t a) s<=s+65535*y.length:=(by intro y;(induction y with|nil=>intro s;simp|cons a y ih=>intro s;have:=ih (s+eO t a);have h2:=jzcf hv a;rw[List.foldl_cons,kQo];omega));have:=qa x 0;unfold bF;omega
theorem jzcg{t}{down:List Bool}{s d:Nat}(hv:aI t=true)(hs:s<t.nodes.toNat):match dL t down (bL t) s d with
  |none=>∀p,¬FW t down d s p d
  |some p=>FW t down d s p d/\∀q,FW t down d s q d->leL (bL t) p q:=by
 unfold dL;exact uN hv (oG t) (t.nodes.toNat+1) (cN t.nodes.toNat s) (jzcb hs) (by have:=rD (cN t.nodes.toNat s);have h2:(cN t.nodes.toNat s).length=t.nodes.toNat:=(by unfold cN;simp);omega)
theorem jzks{t}{down:List Bool}{s d:Nat}{x:LN}(hv:aI t=true)(hs:s<t.nodes.toNat)(h1:FW t down d s x d)(h2:∀q,FW t down d s q d->leL (bL t) x q):dL t down (bL t) s d=some x:=by
 (have h:=jzcg (down:=down) (d:=d) hv hs;cases hc:dL t down (bL t) s d with|none=>rw[hc]at h;exact absurd h1 (h x)|some p=>rw[hc]at h;rw[(h.2 x h1).anti (h2 p h.1)])
theorem jzkt{t}{down:List Bool}{s d:Nat}(hv:aI t=true)(hs:s<t.nodes.toNat)(h1:∀p,¬FW t down d s p d):dL t down (bL t) s d=none:=by
 (have h:=jzcg (down:=down) (d:=d) hv hs;cases hc:dL t down (bL t) s d with|none=>rfl|some p=>rw[hc]at h;exact absurd h.1 (h1 p))
theorem jzku t:LeO (fun x y:Nat×LN=>leL (bL t) x.2 y.2):=⟨fun x=>leL.refl _ _,fun x y z h1 h2=>h1.trans h2,fun x y=>by
 by_cases h:cI (bL t) x.2 y.2=true
 ·exact .inl (leL.of_bef h)
 ·exact .inr (leL.of_not h)⟩
theorem jzch t(x y:LN):leL (bL t) x y↔¬dC t y x<0:=by
 unfold leL;rw[jzj9,decide_eq_false_iff_not]
def PO(t:Tp):Nat->Bool->LN->Nat->Prop
 |u,_,[],v=>u=v
 |u,first,a::p,v=>a∈aM t u/\(first=true\/bH t (u:Int)=false)/\PO t (aH t a).toNat false p v
theorem FW.po{t}{down:List Bool}{d:Nat}(hv:aI t=true):∀(p:LN) {u v:Nat} (first:Bool),FW t down d u p v->(first=true\/p=[]\/bH t (u:Int)=false)->(∀q z w,p=q++z->q≠ []->z≠ []->FW t down d u q w->w≠d)->PO t u first p v
 | [],_,_,_,h,_,_=>h
 |a::p,u,v,first,h,ho,hm=>by
  refine⟨h.1,?_,FW.po hv p false h.2.2 ?_ ?_⟩
  ·rcases ho with h1|h1|h1
   ·exact .inl h1
   ·cases h1
   ·exact .inr h1
  ·by_cases e:p=[]
   ·exact .inr (.inl e)
   ·have h1:=hm [a] p _ rfl (by simp) e (FW.one h.1 h.2.1)
    have h2:=h.2.1;unfold cM at h2;rw[<-uO hv h.1,vM,Bool.or_eq_true,Bool.not_eq_true',Bool.not_eq_true',beq_iff_eq]at h2;rcases h2.2 with h3|h3
    ·exact absurd (by omega) h1
    ·exact .inr (.inr h3)
  ·intro q z w e hq hz hw
   exact hm (a::q) z w (by rw[e];rfl) (by simp) hz ⟨h.1,h.2.1,hw⟩
end Go.Proofs.YtojpooidhilnfaaGreatDoor
namespace Go.Proofs.YtojpooidhilnfaaGreatDoor
open Go.Proofs.Tryz
namespace Sx
def sm:Nat->(Nat->Rat)->Rat
 |0,_=>0
 |n+1,f=>sm n f+f n
theorem sm_congr:∀(n:Nat) {f g:Nat->Rat},(∀k,k<n->f k=g k)->sm n f=sm n g
 |0,_,_,_=>rfl
 |n+1,f,g,h=>by
  show sm n f+f n=sm n g+g n;rw[sm_congr n (fun k hk=>h k (by omega)),h n (by omega)]
theorem sm_zero:∀(n:Nat) {f:Nat->Rat},(∀k,k<n->f k=0)->sm n f=0
 |0,_,_=>rfl
 |n+1,f,h=>by
  show sm n f+f n=0;rw[sm_zero n (fun k hk=>h k (by omega)),h n (by omega)];grind
theorem sm_add:∀(n:Nat) (f g:Nat->Rat),sm n (fun k=>f k+g k)=sm n f+sm n g
 |0,_,_=>by show(0:Rat)=0+0;grind
 |n+1,f,g=>by
  show sm n (fun k=>f k+g k)+(f n+g n)=(sm n f+f n)+(sm n g+g n);rw[sm_add n f g];grind
theorem eF:∀(n:Nat) (c:Rat) (f:Nat->Rat),sm n (fun k=>c*f k)=c*sm n f
 |0,c,_=>by show(0:Rat)=c*0;grind
 |n+1,c,f=>by
  show sm n (fun k=>c*f k)+c*f n=c*(sm n f+f n);rw[eF n c f];grind
theorem uP(n:Nat)(c:Rat)(f:Nat->Rat):sm n (fun k=>f k*c)=sm n f*c:=by
 rw[Rat.mul_comm, <-eF];exact sm_congr n fun k _=>Rat.mul_comm _ _
theorem jzci(n:Nat)(f g:Nat->Rat):sm n (fun k=>f k-g k)=sm n f-sm n g:=by
 have h:=sm_add n (fun k=>f k-g k) g;have h2:sm n (fun k=>f k-g k+g k)=sm n f:=sm_congr n fun k _=>(by grind);rw[h2]at h;grind
theorem sm_one:∀(n:Nat) {f:Nat->Rat} {l:Nat},l<n->(∀k,k<n->k≠l->f k=0)->sm n f=f l
 |n+1,f,l,hl,h=>by
  show sm n f+f n=f l;by_cases e:l=n
  ·subst e
   rw[sm_zero l (fun k hk=>h k (by omega) (by omega))];grind
  ·rw[sm_one n (by omega) (fun k hk hkl=>h k (by omega) hkl),h n (by omega) (fun e2=>e e2.symm)];grind
theorem mR(n:Nat):∀(m:Nat) (f:Nat->Nat->Rat),sm n (fun k=>sm m (fun l=>f k l))=sm m (fun l=>sm n (fun k=>f k l))
 |0,f=>sm_zero n fun k _=>rfl
 |m+1,f=>by
  show sm n (fun k=>sm m (fun l=>f k l)+f k m)=sm m (fun l=>sm n (fun k=>f k l))+sm n (fun k=>f k m);rw[sm_add,mR n m f]
theorem gN:∀(n:Nat) {f:Nat->Rat},(∀k,k<n->0<=f k)->0<=sm n f
 |0,_,_=>vC
 |n+1,f,h=>by
  show 0<=sm n f+f n;have h1:=gN n (fun k hk=>h k (by omega));have h2:=h n (by omega);grind
theorem sm_le:∀(n:Nat) {f g:Nat->Rat},(∀k,k<n->f k<=g k)->sm n f<=sm n g
 |0,_,_,_=>vC
 |n+1,f,g,h=>by
  show sm n f+f n<=sm n g+g n;have h1:=sm_le n (fun k hk=>h k (by omega));have h2:=h n (by omega);grind
theorem jzcj:∀(n:Nat) {f:Nat->Rat},0<sm n f->∃k,k<n/\0<f k
 |0,f,h=>absurd h (by show¬(0:Rat)<0;exact kZf)
 |n+1,f,h=>by
  have h:0<sm n f+f n:=h;by_cases h1:0<f n
  ·exact⟨n,by omega,h1⟩
  ·obtain⟨k,hk,h2⟩:=jzcj n (f:=f) (by grind)
   exact⟨k,by omega,h2⟩
def piv(M:Nat->Nat->Rat)(i e:Nat):Nat->Nat->Rat:=fun k v=>if k=i then M i v/M i e else M k v-M k e*(M i v/M i e)
def fL(bas:Nat->Nat)(i e:Nat):Nat->Nat:=fun k=>if k=i then e else bas k
structure gQ(m nv:Nat)(M:Nat->Nat->Rat)(bas:Nat->Nat):Prop where
 unit:∀l,l<m->∀k,k<=m->M k (bas l)=if k=l then 1 else 0
 lt:∀l,l<m->bas l<nv
theorem gQ.inj{m nv:Nat}{M:Nat->Nat->Rat}{bas:Nat->Nat}(h:gQ m nv M bas){k l:Nat}(hk:k<m)(hl:l<m)(e:bas k=bas l):k=l:=by
 by_cases h1:k=l;{exact h1};have h2:=h.unit k hk k (by omega);have h3:=h.unit l hl k (by omega);rw[e]at h2;rw[h2,if_pos rfl,if_neg h1]at h3;exact absurd h3 (by decide)
theorem fM(M:Nat->Nat->Rat)(i e v:Nat):piv M i e i v=M i v/M i e:=by unfold piv;rw[if_pos rfl]
theorem dT(M:Nat->Nat->Rat){i k:Nat}(e v:Nat)(h:k≠i):piv M i e k v=M k v-M k e*(M i v/M i e):=by unfold piv;rw[if_neg h]
theorem oH(bas:Nat->Nat)(i e:Nat):fL bas i e i=e:=by unfold fL;rw[if_pos rfl]
theorem mS(bas:Nat->Nat){i k:Nat}(e:Nat)(h:k≠i):fL bas i e k=bas k:=by unfold fL;rw[if_neg h]
theorem gQ.pivot{m nv:Nat}{M:Nat->Nat->Rat}{bas:Nat->Nat}(h:gQ m nv M bas){i e:Nat}(hi:i<m)(he:e<nv)(hp:M i e≠0):gQ m nv (piv M i e) (fL bas i e):=by
 refine⟨fun l hl k hk=>?_,fun l hl=>?_⟩;{by_cases qa:l=i;{subst qa;rw[oH];by_cases qe:k=l;{subst qe;rw[fM,if_pos rfl];grind};rw[dT M e e qe,if_neg qe];grind};rw[mS bas e qa];have h0:=h.unit l hl i (by omega);rw[if_neg (fun e=>qa e.symm)]at h0;by_cases qe:k=i;{subst qe;rw[fM,h0,if_neg (fun e=>qa e.symm)];grind};rw[dT M e _ qe,h0,h.unit l hl k hk];grind};by_cases qa:l=i;{rw[qa,oH];exact he};rw[mS bas e qa];exact h.lt l hl
def Sp(m:Nat)(M M':Nat->Nat->Rat):Prop:=∃(A:Nat->Nat->Rat) (L:Nat->Rat),(∀k,k<m->∀v,M' k v=sm m fun l=>A k l*M l v)/\∀v,M' m v=M m v+sm m fun l=>L l*M l v
theorem Sp.refl(m:Nat)(M:Nat->Nat->Rat):Sp m M M:=⟨fun k l=>if k=l then 1 else 0,fun _=>0,fun k hk v=>by
 rw[sm_one m hk (fun l hl hlk=>by dsimp only;rw[if_neg (fun e=>hlk e.symm)];grind)];dsimp only;rw[if_pos rfl];grind,fun v=>by
 rw[sm_zero m (fun l _=>by grind)];grind⟩
theorem Sp.trans{m:Nat}{M M' M2:Nat->Nat->Rat}(h:Sp m M M')(h2:Sp m M' M2):Sp m M M2:=by
 obtain⟨A,L,h3,h4⟩:=h;obtain⟨A',L',h5,h6⟩:=h2;have qa:∀(C:Nat->Rat) (v:Nat),sm m (fun l=>C l*M' l v)=sm m fun j=>(sm m fun l=>C l*A l j)*M j v:=fun C v=>(by have e1:sm m (fun l=>C l*M' l v)=sm m fun l=>sm m fun j=>C l*A l j*M j v:=sm_congr m fun l hl=>(by rw[h3 l hl v, <-eF];exact sm_congr m fun j _=>by grind);rw[e1,mR];exact sm_congr m fun j _=>by rw[<-uP]);refine⟨fun k j=>sm m fun l=>A' k l*A l j,fun j=>L j+sm m fun l=>L' l*A l j,fun k hk v=>?_,fun v=>?_⟩;{rw[h5 k hk v,qa]};rw[h6 v,h4 v,qa,Rat.add_assoc, <-sm_add];congr 1;exact sm_congr m fun j _=>by grind
theorem Sp.fwd{m:Nat}(M:Nat->Nat->Rat){i:Nat}(e:Nat)(hi:i<m):Sp m M (piv M i e):=by
 refine⟨fun k l=>if k=i then(if l=i then 1/M i e else 0)else(if l=k then 1 else if l=i then-M k e/M i e else 0),fun l=>if l=i then-M m e/M i e else 0,fun k hk v=>?_,fun v=>?_⟩;{by_cases qa:k=i;{subst qa;rw[fM,sm_one m hi (fun l _ hl=>by dsimp only;rw[if_pos rfl,if_neg hl];grind)];dsimp only;rw[if_pos rfl,if_pos rfl];grind};rw[dT M e v qa];have e1:sm m (fun l=>(if k=i then(if l=i then 1/M i e else 0)else(if l=k then 1 else if l=i then-M k e/M i e else 0))*M l v)=sm m (fun l=>(if l=k then M k v else 0)+(if l=i then(-M k e/M i e)*M i v else 0)):=sm_congr m fun l _=>(by rw[if_neg qa];by_cases h1:l=k;{subst h1;rw[if_pos rfl,if_pos rfl,if_neg qa];grind};rw[if_neg h1,if_neg h1];by_cases h2:l=i;{subst h2;rw[if_pos rfl,if_pos rfl];grind};rw[if_neg h2,if_neg h2];grind);rw[e1,sm_add,sm_one m hk (fun l _ hl=>by rw[if_neg hl]),sm_one m hi (fun l _ hl=>by rw[if_neg hl]),if_pos rfl,if_pos rfl];grind};rw[dT M e v (by omega),sm_one m hi (fun l _ hl=>by dsimp only;rw[if_neg hl];grind)];dsimp only;rw[if_pos rfl];grind
theorem Sp.bwd{m:Nat}(M:Nat->Nat->Rat){i:Nat}(e:Nat)(hi:i<m)(hp:M i e≠0):Sp m (piv M i e) M:=by
 refine⟨fun k l=>if k=i then(if l=i then M i e else 0)else(if l=k then 1 else if l=i then M k e else 0),fun l=>if l=i then M m e else 0,fun k hk v=>?_,fun v=>?_⟩;{by_cases qa:k=i;{subst qa;rw[sm_one m hi (fun l _ hl=>by dsimp only;rw[if_pos rfl,if_neg hl];grind)];dsimp only;rw[if_pos rfl,if_pos rfl,fM];grind};have e1:sm m (fun l=>(if k=i then(if l=i then M i e else 0)else(if l=k then 1 else if l=i then M k e else 0))*piv M i e l v)=sm m (fun l=>(if l=k then piv M i e k v else 0)+(if l=i then M k e*piv M i e i v else 0)):=sm_congr m fun l _=>(by rw[if_neg qa];by_cases h1:l=k;{subst h1;rw[if_pos rfl,if_pos rfl,if_neg qa];grind};rw[if_neg h1,if_neg h1];by_cases h2:l=i;{subst h2;rw[if_pos rfl,if_pos rfl];grind};rw[if_neg h2,if_neg h2];grind);rw[e1,sm_add,sm_one m hk (fun l _ hl=>by rw[if_neg hl]),sm_one m hi (fun l _ hl=>by rw[if_neg hl]),if_pos rfl,if_pos rfl,dT M e v qa,fM];grind};rw[sm_one m hi (fun l _ hl=>by dsimp only;rw[if_neg hl];grind)];dsimp only;rw[if_pos rfl,dT M e v (by omega),fM];grind
theorem Sp.goal{m nv:Nat}{M M':Nat->Nat->Rat}{bas:Nat->Nat}(h:Sp m M M')(hd:gQ m nv M bas)(v:Nat):M' m v=M m v+sm m fun l=>M' m (bas l)*M l v:=by
 obtain⟨A,L,_,h4⟩:=h;rw[h4 v];congr 1;refine sm_congr m fun l hl=>?_;have h5:=h4 (bas l);rw[hd.unit l hl m (by omega),if_neg (by omega),sm_one m hl (fun j hj hjl=>by rw[hd.unit l hl j (by omega),if_neg hjl];grind),hd.unit l hl l (by omega),if_pos rfl]at h5;rw[h5];grind
structure Bl(m nv:Nat)(M:Nat->Nat->Rat)(bas:Nat->Nat)(i e:Nat):Prop where
 hi:i<m
 he:e<nv
 neg:M m e<0
 first:∀v,v<e->0<=M m v
 pos:0<M i e
 least:∀k,k<m->0<M k e->M i nv/M i e<=M k nv/M k e
 tie:∀k,k<m->0<M k e->M i nv/M i e=M k nv/M k e->bas i<=bas k
theorem jzck{a b:Rat}(h:0<=a)(h2:0<b):0<=a/b:=by
 rw[Rat.div_def];exact vA h (vB (Rat.inv_pos.2 h2))
theorem jzkv{a b c:Rat}(h:0<c)(h2:a<=b/c):a*c<=b:=by
 have:=kQ5 h2 (vB h);have e:b/c*c=b:=(by grind);rw[e]at this;exact this
theorem Bl.feas{m nv:Nat}{M:Nat->Nat->Rat}{bas:Nat->Nat}{i e:Nat}(h:Bl m nv M bas i e)(hf:∀k,k<m->0<=M k nv):∀k,k<m->0<=piv M i e k nv:=fun k hk=>by
 have h0:=jzck (hf i h.hi) h.pos;by_cases qa:k=i;{subst qa;rw[fM];exact h0};rw[dT M e nv qa];by_cases hp:0<M k e;{have h1:=jzkv hp (h.least k hk hp);grind};have h1:=hf k hk;have h2:M k e*(M i nv/M i e)<=0:=(by have:=kQ5 (kQ4.1 hp) h0;grind);grind
theorem Bl.goal{m nv:Nat}{M:Nat->Nat->Rat}{bas:Nat->Nat}{i e:Nat}(h:Bl m nv M bas i e)(hf:∀k,k<m->0<=M k nv):M m nv<=piv M i e m nv/\(piv M i e m nv=M m nv->M i nv=0):=by
 have h0:=jzck (hf i h.hi) h.pos;have qa:m≠i:=(by have:=h.hi;omega);rw[dT M e nv qa];refine⟨?_,fun e2=>?_⟩;{have:=kQ5 (vB h.neg) h0;grind};have h3:M m e*(M i nv/M i e)=0:=(by grind);have h4:=h.neg;have h5:=h.pos;have h6:M i nv/M i e=0:=(by (rcases Rat.mul_eq_zero.1 h3 with h7|h7);{grind};exact h7);grind
theorem uQ:∀(n:Nat) (f:Nat->Nat),(∀k,k<n+1->f k<n)->∃a b,a<b/\b<n+1/\f a=f b
 |0,f,h=>absurd (h 0 (by omega)) (by omega)
 |n+1,f,h=>by
  by_cases h1:∃a,a<n+1/\f a=f (n+1)
  ·obtain⟨a,ha,e⟩:=h1
   exact⟨a,n+1,ha,by omega,e⟩
  ·have qa:∀k,k<n+1->f k≠f (n+1):=fun k hk e=>h1 ⟨k,hk,e⟩
   obtain⟨a,b,qe,hb,e⟩:=uQ n (fun k=>if f k=n then f (n+1)else f k) (fun k hk=>by
    have h2:=h k (by omega);have h3:=h (n+1) (by omega);have h4:=qa k hk
    split <;> omega)
   refine⟨a,b,qe,by omega,?_⟩;have h5:=qa a (by omega);have h6:=qa b hb;by_cases ea:f a=n
   ·by_cases eb:f b=n
    ·rw[ea,eb]
    ·rw[if_pos ea,if_neg eb]at e;exact absurd e.symm h6
   ·by_cases eb:f b=n
    ·rw[if_neg ea,if_pos eb]at e;exact absurd e h5
    ·rw[if_neg ea,if_neg eb]at e;exact e
def iL(p:Nat->Bool):Nat->Nat
 |0=>0
 |n+1=>2*iL p n+if p n then 1 else 0
theorem jzcl(p:Nat->Bool):∀n,iL p n<2^n
 |0=>by show 0<1;omega
 |n+1=>by
  have h:=jzcl p n;show 2*iL p n+(if p n then 1 else 0)<2^(n+1);rw[vD]
  split <;> omega
theorem jzcm{p q:Nat->Bool}:∀{n:Nat},iL p n=iL q n->∀k,k<n->p k=q k
 |n+1,h,k,hk=>by
  have h:2*iL p n+(if p n then 1 else 0)=2*iL q n+(if q n then 1 else 0):=h;have e1:p n=q n:=by
   cases h1:p n <;> cases h2:q n
   ·rfl
   ·rw[h1,h2]at h;simp at h;omega
   ·rw[h1,h2]at h;simp at h;omega
   rfl
  have e2:iL p n=iL q n:=(by rw[e1]at h;omega);by_cases qa:k=n
  ·rw[qa];exact e1
  exact jzcm e2 k (by omega)
theorem uR{p:Nat->Prop}{a:Nat}:∀{b:Nat},a<=b->¬p a->p b->∃n,a<=n/\n<b/\¬p n/\p (n+1)
 |b,hab,ha,hb=>by
  induction b with
  |zero=>obtain rfl:a=0:=by omega
         exact absurd hb ha
  |succ b ih=>
   by_cases h:p b
   ·by_cases qa:a<=b
    ·obtain⟨n,h1,h2,h3⟩:=ih qa h
     exact⟨n,h1,by omega,h3⟩
    ·obtain rfl:a=b+1:=by omega
     exact absurd hb ha
   ·by_cases qa:a<=b
    ·exact⟨b,qa,by omega,h,hb⟩
    ·obtain rfl:a=b+1:=by omega
     exact absurd hb ha
theorem jzcn{p:Nat->Prop}{a b:Nat}(hab:a<=b)(ha:p a)(hb:¬p b):∃n,a<=n/\n<b/\p n/\¬p (n+1):=by
 obtain⟨n,h1,h2,h3,h4⟩:=uR (p:=fun n=> ¬p n) hab (fun h=>h ha) hb;exact⟨n,h1,h2,Classical.not_not.1 h3,h4⟩
theorem jzkw(f:Nat->Nat)(a:Nat):∀b,a<b->∃c,a<=c/\c<b/\∀n,a<=n->n<b->f n<=f c
 |b,hab=>by
  induction b with
  |zero=>omega
  |succ b ih=>
   by_cases h:a<b
   ·obtain⟨c,h1,h2,h3⟩:=ih h
    by_cases h4:f b<=f c
    ·exact⟨c,h1,by omega,fun n h5 h6=>by
     by_cases e:n=b
     ·rw[e];exact h4
     ·exact h3 n h5 (by omega)⟩
    ·exact⟨b,by omega,by omega,fun n h5 h6=>by
     by_cases e:n=b
     ·rw[e];exact yX _
     ·have:=h3 n h5 (by omega);omega⟩
   ·obtain rfl:a=b:=by omega
    exact⟨a,yX _,by omega,fun n h5 h6=>by
     obtain rfl:n=a:=(by omega);exact yX _⟩
structure Run(m nv N:Nat)(M:Nat->Nat->Nat->Rat)(bas:Nat->Nat->Nat)(i e:Nat->Nat):Prop where
 dict:gQ m nv (M 0) (bas 0)
 feas:∀k,k<m->0<=M 0 k nv
 bl:∀n,n<N->Bl m nv (M n) (bas n) (i n) (e n)
 nextM:∀n,n<N->M (n+1)=piv (M n) (i n) (e n)
 nextB:∀n,n<N->bas (n+1)=fL (bas n) (i n) (e n)
section
variable {m nv N:Nat} {M:Nat->Nat->Nat->Rat} {bas:Nat->Nat->Nat} {i e:Nat->Nat}
theorem Run.d(h:Run m nv N M bas i e):∀n,n<=N->gQ m nv (M n) (bas n)/\∀k,k<m->0<=M n k nv
 |0,_=>⟨h.dict,h.feas⟩
 |n+1,hn=>by
  obtain⟨h1,h2⟩:=h.d n (by omega);have h3:=h.bl n (by omega);rw[h.nextM n (by omega),h.nextB n (by omega)];exact⟨h1.pivot h3.hi h3.he (fun e=>by have:=h3.pos;rw[e]at this;exact absurd this (by decide)),h3.feas h2⟩
theorem Run.sp(h:Run m nv N M bas i e){a b:Nat}(hab:a<=b)(hb:b<=N):Sp m (M a) (M b)/\Sp m (M b) (M a):=by
 induction b with
 |zero=>obtain rfl:a=0:=by omega
        exact⟨Sp.refl _ _,Sp.refl _ _⟩
 |succ b ih=>
  by_cases e2:a=b+1
  ·subst e2;exact⟨Sp.refl _ _,Sp.refl _ _⟩
  obtain⟨h1,h2⟩:=ih (by omega) (by omega);have h3:=h.bl b (by omega);rw[h.nextM b (by omega)];exact⟨h1.trans (Sp.fwd _ _ h3.hi),(Sp.bwd _ _ h3.hi (fun e=>by have:=h3.pos;rw[e]at this;exact absurd this (by decide))).trans h2⟩
theorem Run.sp2(h:Run m nv N M bas i e){a b:Nat}(ha:a<=N)(hb:b<=N):Sp m (M a) (M b):=by
 rcases Nat.le_total a b with h1|h1
 ·exact(h.sp h1 hb).1
 exact(h.sp h1 ha).2
theorem Run.mono(h:Run m nv N M bas i e){a b:Nat}(hab:a<=b)(hb:b<=N):M a m nv<=M b m nv:=by
 induction b with
 |zero=>obtain rfl:a=0:=by omega
        exact vC
 |succ b ih=>
  by_cases e2:a=b+1
  ·subst e2;exact vC
  have h1:=ih (by omega) (by omega);have h3:=((h.bl b (by omega)).goal (h.d b (by omega)).2).1;rw[<-h.nextM b (by omega)]at h3;exact kQs h1 h3
def inB(m:Nat)(bas:Nat->Nat)(v:Nat):Prop:=∃l,l<m/\bas l=v
theorem gQ.ent{m nv:Nat}{M:Nat->Nat->Rat}{bas:Nat->Nat}(h:gQ m nv M bas){v:Nat}(hv:M m v≠0):¬inB m bas v:=fun⟨l,hl,e⟩=>by
 have:=h.unit l hl m (yX _);rw[e,if_neg (by omega)]at this;exact hv this
theorem Run.ent(h:Run m nv N M bas i e){n:Nat}(hn:n<N):¬inB m (bas n) (e n)/\inB m (bas (n+1)) (e n):=by
 have h1:=h.bl n hn;refine⟨(h.d n (by omega)).1.ent (fun e2=>by have:=h1.neg;rw[e2]at this;exact absurd this (by decide)),i n,h1.hi,?_⟩;rw[h.nextB n hn,oH]
theorem Run.came(h:Run m nv N M bas i e){n v:Nat}(hn:n<N)(h1:¬inB m (bas n) v)(h2:inB m (bas (n+1)) v):e n=v:=by
 obtain⟨l,hl,h3⟩:=h2;rw[h.nextB n hn]at h3;by_cases e2:l=i n;{rw[e2,oH]at h3;exact h3};rw[mS _ _ e2]at h3;exact absurd ⟨l,hl,h3⟩ h1
theorem Run.went(h:Run m nv N M bas i e){n v:Nat}(hn:n<N)(h1:inB m (bas n) v)(h2:¬inB m (bas (n+1)) v):bas n (i n)=v:=by
 obtain⟨l,hl,h3⟩:=h1;by_cases e2:l=i n;{rw[<-e2];exact h3};refine absurd ⟨l,hl,?_⟩ h2;rw[h.nextB n hn,mS _ _ e2];exact h3
theorem Run.still(h:Run m nv N M bas i e){n v:Nat}(hn:n<N)(hz:M n (i n) nv=0)(x:Rat)(hx:x≠0):(∃l,l<m/\bas n l=v/\M n l nv=x)↔∃l,l<m/\bas (n+1) l=v/\M (n+1) l nv=x:=by
 have hr:∀l,l≠i n->bas (n+1) l=bas n l/\M (n+1) l nv=M n l nv:=fun l hl=>(by rw[h.nextB n hn,h.nextM n hn,mS _ _ hl,dT _ _ _ hl,hz];exact⟨rfl,by grind⟩);have qe:M (n+1) (i n) nv=0:=(by rw[h.nextM n hn,fM,hz];grind);constructor;{rintro ⟨l,hl,h1,h2⟩;have qa:l≠i n:=fun e2=>(by rw[e2,hz]at h2;exact hx h2.symm);obtain⟨h3,h4⟩:=hr l qa;exact⟨l,hl,by rw[h3];exact h1,by rw[h4];exact h2⟩};rintro ⟨l,hl,h1,h2⟩;have qa:l≠i n:=fun e2=>(by rw[e2,qe]at h2;exact hx h2.symm);obtain⟨h3,h4⟩:=hr l qa;exact⟨l,hl,by rw[<-h3];exact h1,by rw[<-h4];exact h2⟩
theorem Run.stay(h:Run m nv N M bas i e){a b v:Nat}(hab:a<=b)(hb:b<=N)(hz:∀n,a<=n->n<b->M n (i n) nv=0)(x:Rat)(hx:x≠0):(∃l,l<m/\bas a l=v/\M a l nv=x)↔∃l,l<m/\bas b l=v/\M b l nv=x:=by
 induction b with
 |zero=>obtain rfl:a=0:=by omega
        exact Iff.rfl
 |succ b ih=>
  by_cases e2:a=b+1
  ·subst e2;exact Iff.rfl
  exact(ih (by omega) (by omega) (fun n h1 h2=>hz n h1 (by omega))).trans (h.still (by omega) (hz b (by omega) (by omega)) x hx)
theorem Run.twice(h:Run m nv N M bas i e){a b:Nat}(hab:a<b)(hb:b<=N)(hs:∀v,inB m (bas a) v↔inB m (bas b) v):False:=by
 have qz:M b m nv=M a m nv:=(by have h1:=(h.sp2 (a:=a) (b:=b) (by omega) hb).goal (h.d a (by omega)).1 nv;rw[sm_zero m (fun l hl=>by obtain⟨k,hk,qt⟩:=(hs (bas a l)).1 ⟨l,hl,rfl⟩;have:=(h.d b hb).1.unit k hk m (yX _);rw[qt,if_neg (by omega)]at this;rw[this];grind)]at h1;grind);have hz:∀n,a<=n->n<b->M n (i n) nv=0:=fun n h1 h2=>(by refine((h.bl n (by omega)).goal (h.d n (by omega)).2).2 ?_;rw[<-h.nextM n (by omega)];have h3:=h.mono h1 (by omega);have h4:=h.mono (a:=n) (b:=n+1) (by omega) (by omega);have h5:=h.mono (a:=n+1) (b:=b) (by omega) hb;grind);have qy:∀c c' v (x:Rat),a<=c->c<=b->a<=c'->c'<=b->x≠0->(∃l,l<m/\bas c l=v/\M c l nv=x)->∃l,l<m/\bas c' l=v/\M c' l nv=x:=fun c c' v x h1 h2 h3 h4 hx hp=>(by (rcases Nat.le_total c c' with h5|h5);{exact(h.stay h5 (by omega) (fun n h6 h7=>hz n (by omega) (by omega)) x hx).1 hp};exact(h.stay h5 (by omega) (fun n h6 h7=>hz n (by omega) (by omega)) x hx).2 hp);obtain⟨c',qo,qF,qg⟩:=jzkw e a b hab;obtain⟨qB,qA⟩:=h.ent (n:=c') (by omega);obtain⟨c,qh,qk,qj⟩:∃c,a<=c/\c<b/\bas c (i c)=e c':=(by by_cases hA:inB m (bas a) (e c');{obtain⟨n,h1,h2,h3,h4⟩:=jzcn (p:=fun n=>inB m (bas n) (e c')) qo hA qB;exact⟨n,h1,by omega,h.went (by omega) h3 h4⟩};obtain⟨n,h1,h2,h3,h4⟩:=jzcn (p:=fun n=>inB m (bas n) (e c')) (a:=c'+1) (b:=b) (by omega) qA (fun h5=>hA ((hs _).2 h5));exact⟨n,by omega,h2,h.went (by omega) h3 h4⟩);have qe:=h.bl c (by omega);have qa:=h.bl c' (by omega);have hD:=(h.d c (by omega)).1;have qE:=(h.d c' (by omega)).1;have qx:e c<e c':=(by have h1:=qg c qh qk;have h2:e c≠e c':=fun e2=>(h.ent (n:=c) (by omega)).1 ⟨i c,qe.hi,by rw[qj,e2]⟩;omega);have hg:=(h.sp2 (a:=c) (b:=c') (by omega) (by omega)).goal hD (e c);have h1:=qa.first _ qx;have h2:=qe.neg;obtain⟨l,hl,qf⟩:=jzcj m (f:=fun l=>M c' m (bas c l)*M c l (e c)) (by grind);have qC:M c' m (bas c l)≠0:=fun e2=>(by rw[e2]at qf;grind);have qn:=qE.ent qC;have qw:inB m (bas c) (bas c l):=⟨l,hl,rfl⟩;have qG:bas c l<=e c':=(by have qi:∃n,a<=n/\n<b/\e n=bas c l:=(by by_cases hA:inB m (bas a) (bas c l);{obtain⟨n,h3,h4,h5,h6⟩:=uR (p:=fun n=>inB m (bas n) (bas c l)) (a:=c') (b:=b) (by omega) qn ((hs _).1 hA);exact⟨n,by omega,h4,h.came (by omega) h5 h6⟩};obtain⟨n,h3,h4,h5,h6⟩:=uR (p:=fun n=>inB m (bas n) (bas c l)) qh hA qw;exact⟨n,h3,by omega,h.came (by omega) h5 h6⟩);obtain⟨n,h3,h4,h5⟩:=qi;rw[<-h5];exact qg n h3 h4);by_cases qm:bas c l=e c';{have qD:l=i c:=hD.inj hl qe.hi (by rw[qm,qj]);rw[qm,qD]at qf;have h3:=qa.neg;have h4:=kQ5 (vB h3) (vB qe.pos);grind};have h3:=qa.first _ (show bas c l<e c' by omega);have h4:0<M c l (e c):=(by refine Rat.not_le.1 fun h5=>?_;have h6:=yT h5 h3;grind);have h0:M c l nv=0:=(by refine Classical.byContradiction fun hx=>?_;obtain⟨k,hk,qp,_⟩:=qy c c' (bas c l) _ qh (by omega) qo (by omega) hx ⟨l,hl,rfl,rfl⟩;exact qn ⟨k,hk,qp⟩);have h5:=qe.tie l hl h4 (by rw[h0,hz c qh qk];grind);rw[qj]at h5;omega
open Classical in
theorem Run.short(h:Run m nv N M bas i e):N<2^nv:=by
 refine Nat.lt_of_not_le fun hN=>?_;obtain⟨a,b,qa,hb,hc⟩:=uQ (2^nv) (fun n=>iL (fun v=>decide (inB m (bas n) v)) nv) (fun n _=>jzcl _ nv);refine h.twice qa (by omega) fun v=>?_;by_cases hv:v<nv;{have:=jzcm hc v hv;simpa using this};exact⟨fun⟨l,hl,e2⟩=>absurd ((h.d a (by omega)).1.lt l hl) (by omega),fun⟨l,hl,e2⟩=>absurd ((h.d b (by omega)).1.lt l hl) (by omega)⟩
end
end Sx
namespace Sx
def sg(j:Nat):Rat:=if j%2=0 then 1 else-1
theorem jzkx(j:Nat):sg (j+1)= -sg j:=by
 unfold sg;by_cases h:j%2=0;{rw[if_pos h,if_neg (by omega)]};rw[if_neg h,if_pos (by omega)];rfl
def sk(j l:Nat):Nat:=if l<j then l else l+1
def mn(a:Nat->Nat->Rat)(j:Nat):Nat->Nat->Rat:=fun i l=>a (i+1) (sk j l)
def dt:Nat->(Nat->Nat->Rat)->Rat
 |0,_=>1
 |m+1,a=>sm (m+1) fun j=>sg j*a 0 j*dt m (mn a j)
theorem gR(m:Nat)(a:Nat->Nat->Rat):dt (m+1) a=sm (m+1) fun j=>sg j*a 0 j*dt m (mn a j):=rfl
theorem kW:∀(m:Nat) {a b:Nat->Nat->Rat},(∀i,i<m->∀j,j<m->a i j=b i j)->dt m a=dt m b
 |0,_,_,_=>rfl
 |m+1,a,b,h=>by
  rw[gR,gR];refine sm_congr _ fun j hj=>?_;have e:dt m (mn a j)=dt m (mn b j):=kW m fun i hi l hl=>h (i+1) (by omega) (sk j l) (by unfold sk;split <;> omega);rw[h 0 (by omega) j hj,e]
def rc(a:Nat->Nat->Rat)(k:Nat)(u:Nat->Rat):Nat->Nat->Rat:=fun i j=>if j=k then u i else a i j
theorem oI(a:Nat->Nat->Rat)(k:Nat)(u:Nat->Rat):mn (rc a k u) k=mn a k:=by
 funext i l;unfold mn rc sk;rw[if_neg (by split <;> omega)]
def us(j k:Nat):Nat:=if k<j then k else k-1
theorem oJ(a:Nat->Nat->Rat){j k:Nat}(u:Nat->Rat)(h:j≠k):mn (rc a k u) j=rc (mn a j) (us j k) (fun i=>u (i+1)):=by
 funext i l;(unfold mn rc sk us;have:((if l<j then l else l+1)=k)↔(l=if k<j then k else k-1):=(by split <;> split <;> omega);by_cases h2:l=if k<j then k else k-1);{rw[if_pos (this.2 h2),if_pos h2]};rw[if_neg (fun h3=>h2 (this.1 h3)),if_neg h2]
theorem iO(a:Nat->Nat->Rat)(k:Nat)(u:Nat->Rat)(i:Nat):rc a k u i k=u i:=by unfold rc;rw[if_pos rfl]
theorem gS(a:Nat->Nat->Rat){j k:Nat}(u:Nat->Rat)(i:Nat)(h:j≠k):rc a k u i j=a i j:=by unfold rc;rw[if_neg h]
theorem rO:∀(m:Nat) (a:Nat->Nat->Rat) (k:Nat) (u v:Nat->Rat),k<m->dt m (rc a k (fun i=>u i+v i))=dt m (rc a k u)+dt m (rc a k v)
 |0,_,_,_,_,h=>absurd h (by omega)
 |m+1,a,k,u,v,hk=>by
  rw[gR,gR,gR, <-sm_add];refine sm_congr _ fun j hj=>?_;by_cases h:j=k
  ·subst h
   rw[iO,iO,iO,oI,oI,oI];grind
  ·rw[gS _ _ _ h,gS _ _ _ h,gS _ _ _ h,oJ _ _ h,oJ _ _ h,oJ _ _ h,rO m _ _ _ _ (by unfold us;split <;> omega)];grind
theorem uS:∀(m:Nat) (a:Nat->Nat->Rat) (k:Nat) (c:Rat) (u:Nat->Rat),k<m->dt m (rc a k (fun i=>c*u i))=c*dt m (rc a k u)
 |0,_,_,_,_,h=>absurd h (by omega)
 |m+1,a,k,c,u,hk=>by
  rw[gR,gR, <-eF];refine sm_congr _ fun j hj=>?_;by_cases h:j=k
  ·subst h
   rw[iO,iO,oI,oI];grind
  ·rw[gS _ _ _ h,gS _ _ _ h,oJ _ _ h,oJ _ _ h,uS m _ _ _ _ (by unfold us;split <;> omega)];grind
theorem jzco(m:Nat)(a:Nat->Nat->Rat)(k:Nat)(hk:k<m)(c:Nat->Rat)(u:Nat->Nat->Rat):∀n,dt m (rc a k (fun i=>sm n fun l=>c l*u l i))=sm n fun l=>c l*dt m (rc a k (u l))
 |0=>by
  have h:=uS m a k 0 (fun _=>0) hk;have e:(fun i:Nat=>sm 0 fun l=>c l*u l i)=fun i=>(0:Rat)*(fun _:Nat=>(0:Rat)) i:=by
   funext i
   show(0:Rat)=0*0;grind
  rw[e,h];show 0*_=(0:Rat);grind
 |n+1=>by
  have h:=rO m a k (fun i=>sm n fun l=>c l*u l i) (fun i=>c n*u n i) hk;refine Eq.trans h ?_;rw[jzco m a k hk c u n,uS m a k _ _ hk];rfl
theorem jzky(n:Nat){f:Nat->Rat}{k l:Nat}(hk:k<n)(hl:l<n)(hkl:k≠l)(h:∀j,j<n->j≠k->j≠l->f j=0):sm n f=f k+f l:=by
 have e:sm n f=sm n fun j=>(if j=k then f k else 0)+(if j=l then f l else 0):=sm_congr n fun j hj=>(by by_cases h1:j=k;{subst h1;rw[if_pos rfl,if_neg hkl];grind};by_cases h2:j=l;{subst h2;rw[if_neg h1,if_pos rfl];grind};rw[if_neg h1,if_neg h2,h j hj h1 h2];grind);rw[e,sm_add,sm_one n hk (fun j _ hj=>by rw[if_neg hj]),sm_one n hl (fun j _ hj=>by rw[if_neg hj]),if_pos rfl,if_pos rfl]
theorem rP:∀(m:Nat) (a:Nat->Nat->Rat) (k:Nat),k+1<m->(∀i,i<m->a i k=a i (k+1))->dt m a=0
 |0,_,_,h,_=>absurd h (by omega)
 |m+1,a,k,hk,h=>by
  rw[gR,jzky (m+1) (k:=k) (l:=k+1) (by omega) hk (by omega) (fun j hj h1 h2=>by
   have:dt m (mn a j)=0:=by
    by_cases h3:k<j
    ·exact rP m _ k (by omega) (fun i hi=>by
     unfold mn sk;rw[if_pos h3,if_pos (by omega)];exact h (i+1) (by omega))
    obtain⟨k',rfl⟩:∃k',k=k'+1:=⟨k-1,by omega⟩;exact rP m _ k' (by omega) (fun i hi=>by
     unfold mn sk;rw[if_neg (by omega),if_neg (by omega)];exact h (i+1) (by omega))
   rw[this];grind)]
  have e:dt m (mn a k)=dt m (mn a (k+1)):=kW m fun i hi l hl=>by
   unfold mn sk;by_cases h1:l<k
   ·rw[if_pos h1,if_pos (by omega)]
   by_cases h2:l=k
   ·subst h2
    rw[if_neg (by omega),if_pos (by omega)];exact(h (i+1) (by omega)).symm
   rw[if_neg h1,if_neg (by omega)]
  rw[e, <-h 0 (by omega),jzkx];grind
theorem uT(a:Nat->Nat->Rat){k l:Nat}(u v:Nat->Rat)(h:k≠l):rc (rc a k u) l v=rc (rc a l v) k u:=by
 funext i j;unfold rc;by_cases h1:j=l;{subst h1;rw[if_pos rfl,if_neg (fun e=>h e.symm),if_pos rfl]};rw[if_neg h1,if_neg h1]
theorem jzkz(m:Nat)(a:Nat->Nat->Rat)(k:Nat)(hk:k+1<m)(u v:Nat->Rat):dt m (rc (rc a k u) (k+1) v)= -dt m (rc (rc a k v) (k+1) u):=by
 have h0:∀x:Nat->Rat,dt m (rc (rc a k x) (k+1) x)=0:=fun x=>rP m _ k hk fun i _=>(by rw[iO,gS _ _ _ (by omega),iO]);have h1:=h0 (fun i=>u i+v i);have ha:∀x:Nat->Rat,dt m (rc (rc a k (fun i=>u i+v i)) (k+1) x)=dt m (rc (rc a k u) (k+1) x)+dt m (rc (rc a k v) (k+1) x):=fun x=>(by rw[uT a _ x (by omega),rO m _ k u v (by omega),uT a u x (by omega),uT a v x (by omega)]);rw[rO m _ (k+1) u v hk,ha,ha,h0,h0]at h1;grind
theorem uU(a:Nat->Nat->Rat)(k:Nat):rc a k (fun i=>a i k)=a:=by
 funext i j;unfold rc;by_cases h:j=k;{rw[if_pos h,h]};rw[if_neg h]
theorem uV:∀(n m:Nat) (a:Nat->Nat->Rat) (k:Nat),k+1+n<m->(∀i,i<m->a i k=a i (k+1+n))->dt m a=0
 |0,m,a,k,hk,h=>rP m a k hk h
 |n+1,m,a,k,hk,h=>by
  have e:a=rc (rc a (k+1+n) (fun i=>a i (k+1+n))) (k+1+n+1) (fun i=>a i (k+1+n+1)):=by
   rw[uU];exact(uU a (k+1+n+1)).symm
  rw[e,jzkz m a (k+1+n) hk,uV n m _ k (by omega) (fun i hi=>?_)]
  ·grind
  rw[gS _ _ _ (by omega),gS _ _ _ (by omega),gS _ _ _ (by omega),iO];exact h i hi
theorem jzk0(m:Nat)(a:Nat->Nat->Rat){k l:Nat}(hk:k<m)(hl:l<m)(hkl:k≠l)(h:∀i,i<m->a i k=a i l):dt m a=0:=by
 (rcases Nat.lt_or_gt_of_ne hkl with h1|h1);{obtain⟨n,rfl⟩:∃n,l=k+1+n:=⟨l-k-1,by omega⟩;exact uV n m a k hl h};obtain⟨n,rfl⟩:∃n,k=l+1+n:=⟨k-l-1,by omega⟩;exact uV n m a l hk fun i hi=>(h i hi).symm
theorem jzk1(m:Nat)(a:Nat->Nat->Rat)(k:Nat)(hk:k<m)(c:Nat->Rat)(u:Nat->Rat)(h:∀i,i<m->u i=sm m fun l=>c l*a i l):dt m (rc a k u)=c k*dt m a:=by
 have e:dt m (rc a k u)=dt m (rc a k (fun i=>sm m fun l=>c l*(fun l i=>a i l) l i)):=kW m fun i hi j hj=>(by unfold rc;by_cases h1:j=k;{rw[if_pos h1,if_pos h1];exact h i hi};rw[if_neg h1,if_neg h1]);rw[e,jzco m a k hk,sm_one m hk (fun l hl hlk=>by rw[jzk0 m _ hk hl (fun e=>hlk e.symm) (fun i hi=>by rw[iO,gS _ _ _ hlk])];grind),uU]
theorem jzcp:∀m,dt m (fun i j=>if i=j then 1 else 0)=1
 |0=>rfl
 |m+1=>by
  rw[gR,sm_one (m+1) (l:=0) (by omega) (fun j _ hj=>by rw[if_neg (fun e=>hj e.symm)];grind)];have e:dt m (mn (fun i j=>if i=j then 1 else 0) 0)=dt m (fun i j=>if i=j then 1 else 0):=kW m fun i _ j _=>by
   unfold mn sk;rw[if_neg (by omega)]
   dsimp only
   by_cases h:i=j
   ·rw[if_pos h,if_pos (by omega)]
   ·rw[if_neg h,if_neg (by omega)]
  rw[e,jzcp m,if_pos rfl];unfold sg;rw[if_pos rfl];grind
def isI(q:Rat):Prop:=∃z:Int,q=(z:Rat)
theorem isI.add{a b:Rat}:isI a->isI b->isI (a+b):=fun⟨x,h⟩ ⟨y,h2⟩=>⟨x+y,by rw[h,h2,Rat.intCast_add]⟩
theorem isI.mul{a b:Rat}:isI a->isI b->isI (a*b):=fun⟨x,h⟩ ⟨y,h2⟩=>⟨x*y,by rw[h,h2,kZu]⟩
theorem isI.neg{a:Rat}:isI a->isI (-a):=fun⟨x,h⟩=>⟨-x,by rw[h,Rat.intCast_neg]⟩
theorem isI.zero:isI 0:=⟨0,rfl⟩
theorem isI.one:isI 1:=⟨1,rfl⟩
theorem isI.sm:∀(n:Nat) {f:Nat->Rat},(∀k,k<n->isI (f k))->isI (sm n f)
 |0,_,_=>isI.zero
 |n+1,_,h=>(isI.sm n fun k hk=>h k (by omega)).add (h n (by omega))
theorem jzcq:∀(m:Nat) {a:Nat->Nat->Rat},(∀i,i<m->∀j,j<m->isI (a i j))->isI (dt m a)
 |0,_,_=>isI.one
 |m+1,a,h=>by
  rw[gR];refine isI.sm _ fun j hj=>((?_:isI (sg j)).mul (h 0 (by omega) j hj)).mul (jzcq m fun i hi l hl=>h (i+1) (by omega) _ (by unfold sk;split <;> omega));unfold sg
  split
  ·exact isI.one
  ·exact isI.one.neg
def ab(q:Rat):Rat:=if q<0 then-q else q
theorem oK(q:Rat):0<=ab q:=by unfold ab;split <;> grind
theorem jzcr(a b:Rat):ab (a+b)<=ab a+ab b:=by unfold ab;split <;> split <;> split <;> grind
theorem lT(a:Rat):ab (-a)=ab a:=by unfold ab;split <;> split <;> grind
theorem uW(a b:Rat):ab (a*b)=ab a*ab b:=by
 have qa:∀x y:Rat,0<=x->0<=y->ab (x*y)=x*y:=fun x y hx hy=>(by unfold ab;rw[if_neg (kQ4.2 (vA hx hy))]);(have hp:∀x:Rat,0<=x->ab x=x:=fun x hx=>(by unfold ab;rw[if_neg (kQ4.2 hx)]);rcases Rat.le_total (a:=0) (b:=a)with h1|h1 <;> rcases Rat.le_total (a:=0) (b:=b)with h2|h2);{rw[qa a b h1 h2,hp a h1,hp b h2]};{have h3:=qa a (-b) h1 (by grind);rw[<-lT b,hp a h1,hp (-b) (by grind), <-h3, <-lT];congr 1;grind};{have h3:=qa (-a) b (by grind) h2;rw[<-lT a,hp b h2,hp (-a) (by grind), <-h3, <-lT];congr 1;grind};have h3:=qa (-a) (-b) (by grind) (by grind);rw[<-lT a, <-lT b,hp (-a) (by grind),hp (-b) (by grind), <-h3];congr 1;grind
theorem uX:∀(n:Nat) (f:Nat->Rat),ab (sm n f)<=sm n fun k=>ab (f k)
 |0,_=>by show ab 0<=0;decide
 |n+1,f=>by
  show ab (sm n f+f n)<=sm n (fun k=>ab (f k))+ab (f n);have h:=jzcr (sm n f) (f n);have h2:=uX n f;grind
def pr:Nat->(Nat->Rat)->Rat
 |0,_=>1
 |n+1,f=>pr n f*f n
theorem jzcs:∀(n:Nat) {f:Nat->Rat},(∀k,k<n->0<=f k)->0<=pr n f
 |0,_,_=>by show(0:Rat)<=1;decide
 |n+1,_,h=>vA (jzcs n fun k hk=>h k (by omega)) (h n (by omega))
theorem jzct:∀(n:Nat) {f g:Nat->Rat},(∀k,k<n->f k=g k)->pr n f=pr n g
 |0,_,_,_=>rfl
 |n+1,f,g,h=>by
  show pr n f*f n=pr n g*g n;rw[jzct n (fun k hk=>h k (by omega)),h n (by omega)]
theorem uY:∀(n:Nat) {f g:Nat->Rat},(∀k,k<n->0<=f k)->(∀k,k<n->f k<=g k)->pr n f<=pr n g
 |0,_,_,_,_=>vC
 |n+1,f,g,h0,h=>by
  show pr n f*f n<=pr n g*g n;have h1:=uY n (fun k hk=>h0 k (by omega)) (fun k hk=>h k (by omega));have h2:=jzcs n (fun k hk=>h0 k (by omega));have h3:=h0 n (by omega);have h4:=h n (by omega);exact kQs (kQ5 h1 h3) (yT h4 (kQs h2 h1))
theorem jzcu(x y:Nat->Rat)(hx:∀k,0<=x k)(hy:∀k,0<=y k):∀m,(sm (m+1) fun j=>x j*pr m fun l=>y (sk j l))<=pr (m+1) fun j=>x j+y j
 |0=>by
  show 0+x 0*1<=1*(x 0+y 0);have:=hy 0;grind
 |m+1=>by
  have ih:=jzcu x y hx hy m;have e1:sm (m+1+1) (fun j=>x j*pr (m+1) fun l=>y (sk j l))=sm (m+1) (fun j=>(x j*pr m fun l=>y (sk j l))*y (m+1))+x (m+1)*pr (m+1) y:=by
   show sm (m+1) _+_=_
   congr 1
   ·refine sm_congr _ fun j hj=>?_
    show x j*(pr m (fun l=>y (sk j l))*y (sk j m))=_;have:sk j m=m+1:=(by unfold sk;rw[if_neg (by omega)]);rw[this];grind
   show x (m+1)*(pr (m+1) fun l=>y (sk (m+1) l))=_
   congr 1
   exact jzct (m+1) fun l hl=>by unfold sk;rw[if_pos (by omega)]
  rw[e1,uP];show _<=pr (m+1) (fun j=>x j+y j)*(x (m+1)+y (m+1));have h1:=kQ5 ih (hy (m+1));have h2:pr (m+1) y<=pr (m+1) fun j=>x j+y j:=uY _ (fun k _=>hy k) (fun k _=>by have:=hx k;grind);have h3:=yT h2 (hx (m+1));grind
theorem jzk2(n:Nat)(f:Nat->Rat):sm (n+1) f=f 0+sm n fun k=>f (k+1):=by
 (induction n with|zero=>show(0:Rat)+f 0=f 0+0;grind|succ n ih=>show sm (n+1) f+f (n+1)=f 0+(sm n (fun k=>f (k+1))+f (n+1));rw[ih];grind)
theorem jzcv:∀(m:Nat) (a:Nat->Nat->Rat),ab (dt m a)<=pr m fun j=>sm m fun i=>ab (a i j)
 |0,_=>by show ab 1<=1;decide
 |m+1,a=>by
  have h1:=uX (m+1) fun j=>sg j*a 0 j*dt m (mn a j);have h2:sm (m+1) (fun j=>ab (sg j*a 0 j*dt m (mn a j)))<=sm (m+1) (fun j=>ab (a 0 j)*pr m fun l=>sm m fun i=>ab (a (i+1) (sk j l))):=by
   refine sm_le (m+1) fun j hj=>?_;have h3:ab (sg j)=1:=(by unfold sg;split <;> rfl);have h4:ab (sg j*a 0 j*dt m (mn a j))=ab (a 0 j)*ab (dt m (mn a j)):=(by rw[uW,uW,h3,Rat.one_mul]);rw[h4];exact yT (jzcv m (mn a j)) (oK _)
  have h3:=jzcu (fun j=>ab (a 0 j)) (fun c=>sm m fun i=>ab (a (i+1) c)) (fun k=>oK _) (fun k=>gN m fun i _=>oK _) m;have h4:(fun j=>ab (a 0 j)+sm m fun i=>ab (a (i+1) j))=fun j=>sm (m+1) fun i=>ab (a i j):=by
   funext j
   exact(jzk2 m fun i=>ab (a i j)).symm
  have h5:pr (m+1) (fun j=>ab (a 0 j)+sm m fun i=>ab (a (i+1) j))=pr (m+1) fun j=>sm (m+1) fun i=>ab (a i j):=(by rw[h4]);rw[gR, <-h5];exact kQs h1 (kQs h2 h3)
def Col(m nv:Nat)(M:Nat->Nat->Rat)(bas:Nat->Nat)(col:Nat->Nat->Rat)(cost:Nat->Rat):Prop:=
 ∀v,v<=nv->(∀i,i<m->col v i=sm m fun l=>M l v*col (bas l) i)/\M m v=(sm m fun l=>M l v*cost (bas l))-cost v
theorem jzcw{m:Nat}{M:Nat->Nat->Rat}{bas:Nat->Nat}{i e:Nat}(hi:i<m)(hp:M i e≠0)(v:Nat)(f:Nat->Rat):(sm m fun l=>piv M i e l v*f (fL bas i e l))=(sm m fun l=>M l v*f (bas l))+(M i v/M i e)*(f e-sm m fun l=>M l e*f (bas l)):=by
 (have e1:(sm m fun l=>piv M i e l v*f (fL bas i e l))=sm m fun l=>((M l v*f (bas l))-(M i v/M i e)*(M l e*f (bas l)))+if l=i then(M i v/M i e)*f e else 0:=sm_congr m fun l _=>(by by_cases h:l=i;{subst h;rw[fM,oH,if_pos rfl];grind};rw[dT M e v h,mS bas e h,if_neg h];grind));rw[e1,sm_add,jzci,eF,sm_one m (f:=fun l=>if l=i then(M i v/M i e)*f e else 0) hi (fun l _ hl=>by rw[if_neg hl]),if_pos rfl];grind
theorem Col.pivot{m nv:Nat}{M:Nat->Nat->Rat}{bas:Nat->Nat}{col:Nat->Nat->Rat}{cost:Nat->Rat}(h:Col m nv M bas col cost){i e:Nat}(hi:i<m)(he:e<nv)(hp:M i e≠0):Col m nv (piv M i e) (fL bas i e) col cost:=fun v hv=>by
 have h1:=h v hv;have h2:=h e (by omega);refine⟨fun j hj=>?_,?_⟩;{rw[jzcw hi hp v fun v=>col v j, <-h1.1 j hj, <-h2.1 j hj];grind};{rw[jzcw hi hp v cost,dT M e v (by omega),h1.2,h2.2];grind}
def dB(m:Nat)(col:Nat->Nat->Rat)(bas:Nat->Nat):Rat:=dt m fun i l=>col (bas l) i
theorem Col.det{m nv:Nat}{M:Nat->Nat->Rat}{bas:Nat->Nat}{col:Nat->Nat->Rat}{cost:Nat->Rat}(h:Col m nv M bas col cost){k:Nat}(hk:k<m){v:Nat}(hv:v<=nv):dt m (rc (fun i l=>col (bas l) i) k (col v))=M k v*dB m col bas:=
 jzk1 m _ k hk (fun l=>M l v) (col v) fun i hi=>(h v hv).1 i hi
theorem Col.det_piv{m nv:Nat}{M:Nat->Nat->Rat}{bas:Nat->Nat}{col:Nat->Nat->Rat}{cost:Nat->Rat}(h:Col m nv M bas col cost){i e:Nat}(hi:i<m)(he:e<nv):dB m col (fL bas i e)=M i e*dB m col bas:=by
 rw[<-h.det hi (show e<=nv by omega)];unfold dB;refine kW m fun k _ l _=>?_;unfold rc fL;by_cases h1:l=i;{rw[if_pos h1,if_pos h1]};rw[if_neg h1,if_neg h1]
def rQ(m nv:Nat)(M:Nat->Nat->Rat)(col:Nat->Nat->Rat)(cost:Nat->Rat):Prop:=
 ∀v,v<=nv->(∀k,k<m->M k v=sm m fun i=>M k i*col v i)/\M m v=(sm m fun i=>M m i*col v i)-cost v
theorem rQ.pivot{m nv:Nat}{M:Nat->Nat->Rat}{col:Nat->Nat->Rat}{cost:Nat->Rat}(h:rQ m nv M col cost){i:Nat}(e:Nat)(hi:i<m):rQ m nv (piv M i e) col cost:=fun v hv=>by
 obtain⟨h1,h2⟩:=h v hv;have qf:∀c:Rat,(sm m fun j=>(M i j/M i e)*col v j)=M i v/M i e:=fun _=>(by have e1:(sm m fun j=>(M i j/M i e)*col v j)=sm m fun j=>(1/M i e)*(M i j*col v j):=sm_congr m fun j _=>(by grind);rw[e1,eF, <-h1 i hi];grind);have qa:∀k,k≠i->(sm m fun j=>piv M i e k j*col v j)=(sm m fun j=>M k j*col v j)-M k e*(M i v/M i e):=fun k hk=>(by have e1:(sm m fun j=>piv M i e k j*col v j)=sm m fun j=>M k j*col v j-M k e*((M i j/M i e)*col v j):=sm_congr m fun j _=>(by rw[dT M e j hk];grind);rw[e1,jzci,eF,qf 0]);refine⟨fun k hk=>?_,?_⟩;{by_cases qe:k=i;{subst qe;rw[fM, <-qf 0];exact sm_congr m fun j _=>by rw[fM]};{rw[qa k qe,dT M e v qe, <-h1 k hk]}};{rw[qa m (by omega),dT M e v (by omega),h2];grind}
end Sx
end Go.Proofs.YtojpooidhilnfaaGreatDoor
