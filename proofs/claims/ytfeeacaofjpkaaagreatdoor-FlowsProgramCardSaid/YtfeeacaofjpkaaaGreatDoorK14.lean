/- Walks, part 14. -/
import Derived.Maps.OwnOps
import Derived.Maps.Views
import Derived.Test.YtfeeacaofjpkaaaGreatDoorK13
set_option linter.unusedVariables false
set_option linter.unusedSimpArgs false
set_option maxRecDepth 100000
set_option maxHeartbeats 8000000
namespace Go.Proofs.YtfeeacaofjpkaaaGreatDoor
open Go.Proofs.Tryz
open Go.RowKit
theorem jzcr{a b c:Rat}(h1:a<b)(h2:b<c):a<c:=by
 have h3:=kQs (vB h1) (vB h2);refine Rat.lt_of_le_of_ne h3 ?_;rintro rfl;exact(kQ4.2 (vB h1)) h2
theorem jzkz(a b:Rat):a<b\/a=b\/b<a:=by
 by_cases h:a<b;{exact .inl h};by_cases h2:b<a;{exact .inr (.inr h2)};exact .inr (.inl (Rat.le_antisymm (kQ4.1 h2) (kQ4.1 h)))
theorem iY(ps:LQ)(x y:LN):cO ps x y=true↔prQ ps x<prQ ps y\/(prQ ps x=prQ ps y/\(x.length<y.length\/(x.length=y.length/\bP x y<0))):=by
 unfold cO nO or3 bG aT;rw[decide_eq_true_iff];by_cases h1:prQ ps x<prQ ps y;{simp[h1]};by_cases h2:prQ ps x=prQ ps y;{by_cases h3:x.length<y.length;{simp[h1,h2,h3,kZf]};by_cases h4:x.length=y.length;{simp[h1,h2,h3,h4,kZf]};simp[h1,h2,h3,h4,kZf]};simp[h1,h2]
theorem jzcs:∀x y:LN,x.length=y.length->¬bP x y<0->¬bP y x<0->x=y
 | [],[],_,_,_=>rfl
 |a::x,b::y,hl,h1,h2=>by
  unfold bP at h1 h2;by_cases e:a<b
  ·rw[qE e]at h1;omega
  ·by_cases e2:a=b
   ·subst e2
    simp at h1 h2 hl;rw[jzcs x y hl qO qO]
   ·rw[qE qO]at h2;omega
theorem jzk0:∀x y:LN,x.length=y.length->x=y\/bP x y<0\/bP y x<0:=fun x y h=>by
 by_cases h1:bP x y<0;{exact .inr (.inl h1)};{by_cases h2:bP y x<0;{exact .inr (.inr h2)};{exact .inl (jzcs x y h h1 h2)}}
theorem wD:∀x y z:LN,x.length=y.length->y.length=z.length->bP x y<0->bP y z<0->bP x z<0
 | [],[],[],_,_,h,_=>h
 |a::x,b::y,c::z,hl,hl2,h1,h2=>by
  unfold bP at h1 h2⊢;simp only[kQo]at hl hl2;by_cases e1:a<b <;> by_cases e2:b<c <;> by_cases e3:a=b <;> by_cases e4:b=c <;> simp[e1,e2,e3,e4]at h1 h2⊢ <;> try omega
  ·subst e3 e4
   exact wD x y z qO qO h1 h2
theorem wE:∀x:LN,bP x x=0
 | []=>rfl
 |a::x=>by unfold bP;simp[wE x]
theorem jzct:∀(x y z:LN),x.length=y.length->bP x y<0->bP (x++z) (y++z)<0
 | [],[],_,_,h=>by simp[bP]at h
 |a::x,b::y,z,hl,h=>by
  simp only[List.cons_append];unfold bP at h⊢;by_cases e:a<b
  ·simp[e]
  ·by_cases e2:a=b
   ·subst e2
    simp at h⊢;exact jzct x y z (by simpa using hl) h
   ·simp[e,e2]at h
def leL(ps:LQ)(x y:LN):Prop:=cO ps y x=false
theorem mS(ps:LQ)(x y:LN):leL ps x y↔x=y\/cO ps x y=true:=by
 unfold leL;constructor;{intro h;(have h':¬cO ps y x=true:=(by simp[h]);rw[iY]at h';rcases jzkz (prQ ps x) (prQ ps y)with h1|h1|h1);{exact .inr ((iY ps x y).2 (.inl h1))};{(rcases Nat.lt_trichotomy x.length y.length with h2|h2|h2);{exact .inr ((iY ps x y).2 (.inr ⟨h1,.inl h2⟩))};{(rcases jzk0 x y h2 with h3|h3|h3);{exact .inl h3};{exact .inr ((iY ps x y).2 (.inr ⟨h1,.inr ⟨h2,h3⟩⟩))};exact absurd (.inr ⟨h1.symm,.inr ⟨h2.symm,h3⟩⟩) h'};exact absurd (.inr ⟨h1.symm,.inl h2⟩) h'};exact absurd (.inl h1) h'};(intro h;apply Bool.eq_false_iff.2;intro hb;rw[iY]at hb;rcases h with h|h);{subst h;(rcases hb with h1|⟨_,h1|⟨_,h1⟩⟩);{exact kZf h1};{omega};rw[wE]at h1;omega};(rw[iY]at h;rcases h with h1|⟨h1,h2⟩);{(rcases hb with h3|⟨h3,_⟩);{exact kZf (jzcr h1 h3)};rw[h3]at h1;exact kZf h1};(rcases hb with h3|⟨_,h3⟩);{rw[h1]at h3;exact kZf h3};(rcases h2 with h2|⟨h2,h4⟩ <;> rcases h3 with h3|⟨h3,h5⟩ <;> try omega);have:=wD x y x h2 h3 h4 h5;rw[wE]at this;omega
theorem jzk1{ps:LQ}{x y z:LN}(h1:cO ps x y=true)(h2:cO ps y z=true):cO ps x z=true:=by
 (rw[iY]at*;rcases h1 with h1|⟨h1,h1'⟩ <;> rcases h2 with h2|⟨h2,h2'⟩);{exact .inl (jzcr h1 h2)};{exact .inl (by rw[<-h2];exact h1)};{exact .inl (by rw[h1];exact h2)};(refine .inr ⟨h1.trans h2,?_⟩;rcases h1' with h1'|⟨h1',g1⟩ <;> rcases h2' with h2'|⟨h2',g2⟩);{exact .inl qO};{exact .inl qO};{exact .inl qO};exact .inr ⟨qO,wD x y z h1' h2' g1 g2⟩
theorem leL.refl(ps:LQ)(x:LN):leL ps x x:=(mS ps x x).2 (.inl rfl)
theorem leL.trans{ps:LQ}{x y z:LN}(h1:leL ps x y)(h2:leL ps y z):leL ps x z:=by
 rw[mS]at*;rcases h1 with rfl|h1
 ·exact h2
 rcases h2 with rfl|h2
 ·exact .inr h1
 exact .inr (jzk1 h1 h2)
theorem leL.anti{ps:LQ}{x y:LN}(h1:leL ps x y)(h2:leL ps y x):x=y:=by
 rcases(mS ps x y).1 h1 with h|h
 ·exact h
 unfold leL at h2;rw[h]at h2;cases h2
theorem leL.of_bef{ps:LQ}{x y:LN}(h:cO ps x y=true):leL ps x y:=(mS ps x y).2 (.inr h)
theorem leL.of_not{ps:LQ}{x y:LN}(h:¬cO ps x y=true):leL ps y x:=by unfold leL;simpa using h
theorem lU(ps:LQ)(x y:LN):prQ ps (x++y)=prQ ps x+prQ ps y:=by
 have qa:∀(l:LN) (s:Rat),l.foldl (fun s a=>s+ps[a]?.getD 0) s=s+prQ ps l:=(by intro l;unfold prQ;(induction l with|nil=>intro s;simp[Rat.add_zero]|cons a l ih=>intro s;rw[List.foldl_cons,List.foldl_cons,ih,ih (0+_),Rat.zero_add,Rat.add_assoc]));unfold prQ;rw[kZt,qa];rfl
def eI(ps:LQ):Prop:=∀a:Nat,(0:Rat)<=ps[a]?.getD 0
theorem jzcu{ps:LQ}(h:eI ps):∀x:LN,0<=prQ ps x:=by
 intro x;(induction x with|nil=>exact vC|cons a x ih=>rw[show a::x=[a]++x from rfl,lU];have:prQ ps [a]=0+ps[a]?.getD 0:=rfl;rw[this,Rat.zero_add];have h1:=Rat.add_le_add_left (c:=prQ ps x) |>.2 (h a);rw[Rat.add_zero,Rat.add_comm]at h1;exact kQs ih h1)
theorem jzcv{ps:LQ}(h:eI ps)(x y z:LN)(hy:y≠ []):cO ps (x++z) (x++y++z)=true:=by
 rw[iY];have h1:prQ ps (x++z)<=prQ ps (x++y++z):=(by rw[lU,lU,lU];have h2:=Rat.add_le_add_left (c:=prQ ps x) |>.2 (jzcu h y);rw[Rat.add_zero]at h2;exact(Rat.add_le_add_right (c:=prQ ps z)).2 h2);have h3:(x++z).length<(x++y++z).length:=(by have:=List.length_pos_iff.2 hy;simp;omega);by_cases h4:prQ ps (x++z)=prQ ps (x++y++z);{exact .inr ⟨h4,.inl h3⟩};exact .inl (Rat.lt_of_le_of_ne h1 h4)
theorem leL.ext{ps:LQ}(h:eI ps)(x y:LN):leL ps x (x++y):=by
 by_cases hy:y=[];{subst hy;rw[List.append_nil];exact leL.refl ps x};have:=jzcv h x y [] hy;simp at this;exact leL.of_bef this
theorem leL.app{ps:LQ}{x y:LN}(h:leL ps x y)(z:LN):leL ps (x++z) (y++z):=by
 rcases(mS ps x y).1 h with rfl|h
 ·exact leL.refl _ _
 apply leL.of_bef;rw[iY]at*;rw[lU,lU];rcases h with h|⟨h,h'⟩
 ·exact .inl (Rat.add_lt_add_right.2 h)
 refine .inr ⟨by rw[h],?_⟩;rcases h' with h'|⟨h',g⟩
 ·exact .inl (by simp;omega)
 exact .inr ⟨by simp;omega,jzct x y z h' g⟩
theorem leL.nil{ps:LQ}(h:eI ps)(x:LN):leL ps [] x:=by
 have:=leL.ext h [] x;simpa using this
def FW(t:Tp)(down:List Bool)(d:Nat):Nat->LN->Nat->Prop
 |u,[],v=>u=v
 |u,a::p,v=>a∈aM t u/\dI t down a d=true/\FW t down d (aL t a).toNat p v
theorem FW.app{t}{down:List Bool}{d:Nat}:∀(p:LN) {q:LN} {u v x:Nat},FW t down d u p v->FW t down d v q x->FW t down d u (p++q) x
 | [],_,_,_,_,h1,h2=>by
   have h1:_=_:=h1;subst h1;exact h2
 |_::p,_,_,_,_,h1,h2=>⟨h1.1,h1.2.1,FW.app p h1.2.2 h2⟩
theorem FW.snoc_inv{t}{down:List Bool}{d:Nat}:∀(p:LN) {a u v:Nat},FW t down d u (p++[a]) v->∃m,FW t down d u p m/\a∈aM t m/\dI t down a d=true/\v=(aL t a).toNat
 | [],a,u,v,h=>⟨u,rfl,h.1,h.2.1,h.2.2.symm⟩
 |b::p,a,u,v,h=>by
  obtain⟨m,h1,h2⟩:=FW.snoc_inv p h.2.2;exact⟨m,⟨h.1,h.2.1,h1⟩,h2⟩
theorem FW.one{t}{down:List Bool}{d a u:Nat}(h1:a∈aM t u)(h2:dI t down a d=true):FW t down d u [a] (aL t a).toNat:=⟨h1,h2,rfl⟩
theorem iB{t}(hv:aI t=true){n a:Nat}(h:a∈aM t n):0<=aL t a/\aL t a<t.nodes/\(aL t a).toNat<t.nodes.toNat/\dT t a=(n:Int):=by
 unfold aM cE at h;rw[List.mem_filter,vX]at h;obtain⟨h1,h2⟩:=h;have h2:dT t a=(n:Int):=(by simpa using h2);have hl:a/2<t.links.length:=qO;unfold aI at hv;rw[vM,xW]at hv;have qa:=hv.2 _ (xR hl);unfold Lk.ok ndB at qa;simp at qa;have:0<=aL t a/\aL t a<t.nodes:=(by unfold aL;rw[yG hl];simp only[];split <;> omega);exact⟨this.1,this.2,qO,h2⟩
theorem jzcw(ps:LQ)(ls:List Lb):∀k,∀(m:Nat) (l:Lb),m<k->ls[m]?=some l->l.known=true->l.done=false->0<=cH ps ls k/\leL ps (dP ls (cH ps ls k).toNat) l.arcs
 |0,m,_,h,_,_,_=>by omega
 |k+1,m,l,hm,hl,h1,h2=>by
  have ih:=jzcw ps ls k m l;by_cases e:m=k
  ·subst e
   unfold cH;rw[hl];simp only[h1,h2,Bool.not_false,Bool.and_true,kZg]
   split
   ·refine⟨qO,?_⟩
    rw[xL];unfold dP;rw[hl];exact leL.refl _ _
   rename_i hc
   simp only[Bool.or_eq_true,not_or,decide_eq_true_eq]at hc;refine⟨qO,leL.of_not (by exact hc.2)⟩
  obtain⟨i1,i2⟩:=ih qO hl h1 h2;unfold cH
  split
  ·exact⟨i1,i2⟩
  rename_i lk hk
  split
  ·rename_i hc
   refine⟨qO,?_⟩;rw[xL];simp only[vM,Bool.or_eq_true,decide_eq_true_eq]at hc;have hb:cO ps lk.arcs ((ls[(cH ps ls k).toNat]?.map Lb.arcs).getD [])=true:=by
    rcases hc.2 with h|h
    ·omega
    exact h
   have:dP ls k=lk.arcs:=(by unfold dP;rw[hk];rfl);rw[this];exact(leL.of_bef hb).trans i2
  exact⟨i1,i2⟩
theorem wF{ps:LQ}{ls:List Lb}{m:Nat}{l:Lb}(hl:ls[m]?=some l)(h1:l.known=true)(h2:l.done=false):0<=cB ps ls/\leL ps (dP ls (cB ps ls).toNat) l.arcs:=
 jzcw ps ls _ m l (yH.1 hl).1 hl h1 h2
structure DI(t:Tp)(down:List Bool)(ps:LQ)(s d:Nat)(ls:List Lb):Prop where
 len:ls.length=t.nodes.toNat
 walk:∀(v:Nat) (l:Lb),ls[v]?=some l->l.known=true->FW t down d s l.arcs v
 src:∃l,ls[s]?=some l/\l.known=true/\l.arcs=[]
 dd:∀l,ls[d]?=some l->l.done=false
 kn:∀(v:Nat) (l:Lb),ls[v]?=some l->l.done=true->l.known=true
 lo:∀(v m:Nat) (l k:Lb),ls[v]?=some l->l.done=true->ls[m]?=some k->k.known=true->k.done=false->leL ps l.arcs k.arcs
 step:∀(u a:Nat) (l:Lb),ls[u]?=some l->l.done=true->a∈aM t u->dI t down a d=true->∃k,ls[(aL t a).toNat]?=some k/\k.known=true/\leL ps k.arcs (l.arcs++[a])
theorem DI.low{t}{down:List Bool}{ps:LQ}{s d:Nat}{ls:List Lb}(h:DI t down ps s d ls)(hp:eI ps):∀(n:Nat) (p:LN) (v:Nat),p.length=n->FW t down d s p v->
  (∃l,ls[v]?=some l/\l.done=true/\leL ps l.arcs p)\/(∃(m:Nat) (k:Lb),ls[m]?=some k/\k.known=true/\k.done=false/\leL ps k.arcs p)
 |0,p,v,hn,hw=>by
  have:p=[]:=kQp.1 hn;subst this;have hw:s=v:=hw;subst hw;obtain⟨l,h1,h2,h3⟩:=h.src;cases hd:l.done
  ·exact .inr ⟨s,l,h1,h2,hd,by rw[h3];exact leL.refl _ _⟩
  exact .inl ⟨l,h1,hd,by rw[h3];exact leL.refl _ _⟩
 |n+1,p,v,hn,hw=>by
  obtain⟨q,a,rfl⟩:∃q a,p=q++[a]:=by
   have:p≠ []:=(by rintro rfl;simp at hn);exact⟨p.dropLast,p.getLast this,(List.dropLast_concat_getLast this).symm⟩
  obtain⟨u,h1,h2,h3,rfl⟩:=FW.snoc_inv q hw;rcases h.low hp n q u (by simpa using hn) h1 with⟨l,k1,k2,k3⟩|⟨m,k,k1,k2,k3,k4⟩
  ·obtain⟨k,j1,j2,j3⟩:=h.step u a l k1 k2 h2 h3
   have qa:=j3.trans (k3.app [a]);cases hd:k.done
   ·exact .inr ⟨_,k,j1,j2,hd,qa⟩
   exact .inl ⟨k,j1,hd,qa⟩
  exact .inr ⟨m,k,k1,k2,k3,k4.trans (leL.ext hp q [a])⟩
structure DJ(t:Tp)(down:List Bool)(ps:LQ)(s d n:Nat)(X:LN)(done:LN)(ls:List Lb):Prop where
 len:ls.length=t.nodes.toNat
 walk:∀(v:Nat) (l:Lb),ls[v]?=some l->l.known=true->FW t down d s l.arcs v
 src:∃l,ls[s]?=some l/\l.known=true/\l.arcs=[]
 dd:∀l,ls[d]?=some l->l.done=false
 kn:∀(v:Nat) (l:Lb),ls[v]?=some l->l.done=true->l.known=true
 lo:∀(v m:Nat) (l k:Lb),ls[v]?=some l->l.done=true->ls[m]?=some k->k.known=true->k.done=false->leL ps l.arcs k.arcs
 step:∀(u a:Nat) (l:Lb),u≠n->ls[u]?=some l->l.done=true->a∈aM t u->dI t down a d=true->∃k,ls[(aL t a).toNat]?=some k/\k.known=true/\leL ps k.arcs (l.arcs++[a])
 own:∃l,ls[n]?=some l/\l.done=true/\l.known=true/\l.arcs=X
 all:∀(v:Nat) (l:Lb),ls[v]?=some l->l.done=true->leL ps l.arcs X
 past:∀a∈done,dI t down a d=true->∃k,ls[(aL t a).toNat]?=some k/\k.known=true/\leL ps k.arcs (X++[a])
theorem DI.mark{t}{down:List Bool}{ps:LQ}{s d:Nat}{ls:List Lb}(h:DI t down ps s d ls)(h0:0<=cB ps ls)(hd:(cB ps ls).toNat≠d):
  DJ t down ps s d (cB ps ls).toNat (dP ls (cB ps ls).toNat) [] (eL ls (cB ps ls).toNat):=by
 obtain⟨l,h1,h2,h3⟩:=nQ ps ls ls.length h0;have h1:ls[(cB ps ls).toNat]?=some l:=h1;have qg:∀(m:Nat) (k:Lb),ls[m]?=some k->k.known=true->k.done=false->leL ps l.arcs k.arcs:=fun m k e1 e2 e3=>(by have:=(wF (ps:=ps) e1 e2 e3).2;unfold dP at this;rw[h1]at this;exact this);have hX:dP ls (cB ps ls).toNat=l.arcs:=(by unfold dP;rw[h1];rfl);rw[hX];generalize (cB ps ls).toNat=n at*;have qe:=(yH.1 h1).1;have hm:eL ls n=ls.set n ⟨l.known,true,l.arcs⟩:=(by unfold eL;rw[h1]);rw[hm];have qa:∀(v:Nat) (k:Lb),(ls.set n ⟨l.known,true,l.arcs⟩)[v]?=some k->(v=n/\k=⟨l.known,true,l.arcs⟩)\/(v≠n/\ls[v]?=some k):=fun v k e=>(by by_cases hv:v=n;{subst hv;(rw[yM qe]at e;injection e with e);exact .inl ⟨rfl,e.symm⟩};rw[vN (fun h=>hv h.symm)]at e;exact .inr ⟨hv,e⟩);have put:∀(v:Nat) (k:Lb),ls[v]?=some k->∃k',(ls.set n ⟨l.known,true,l.arcs⟩)[v]?=some k'/\k'.known=k.known/\k'.arcs=k.arcs:=fun v k e=>(by by_cases hv:v=n;{subst hv;(rw[h1]at e;injection e with e);subst e;exact⟨_,yM qe,rfl,rfl⟩};exact⟨k,by rw[vN (fun h=>hv h.symm)];exact e,rfl,rfl⟩);refine⟨by rw[yV];exact h.len,?_,?_,?_,?_,?_,?_,⟨_,yM qe,rfl,h2,rfl⟩,?_,qS⟩;{intro v k e hk;(rcases qa v k e with⟨rfl,rfl⟩|⟨_,e'⟩);{exact h.walk _ l h1 h2};exact h.walk v k e' hk};{obtain⟨k,e1,e2,e3⟩:=h.src;obtain⟨k',f1,f2,f3⟩:=put s k e1;exact⟨k',f1,f2.trans e2,f3.trans e3⟩};{intro k e;(rcases qa d k e with⟨rfl,rfl⟩|⟨_,e'⟩);{exact absurd rfl hd};exact h.dd k e'};{intro v k e hk;(rcases qa v k e with⟨rfl,rfl⟩|⟨_,e'⟩);{exact h2};exact h.kn v k e' hk};{intro v m x k ev hx em qh qf;(rcases qa m k em with⟨rfl,rfl⟩|⟨_,em'⟩);{cases qf};(rcases qa v x ev with⟨rfl,rfl⟩|⟨_,ev'⟩);{exact qg m k em' qh qf};exact h.lo v m x k ev' hx em' qh qf};{intro u a x hu e hx ha qi;(rcases qa u x e with⟨rfl,rfl⟩|⟨_,e'⟩);{exact absurd rfl hu};obtain⟨k,f1,f2,f3⟩:=h.step u a x e' hx ha qi;obtain⟨k',g1,g2,g3⟩:=put _ k f1;exact⟨k',g1,g2.trans f2,by rw[g3];exact f3⟩};(intro v x e hx;rcases qa v x e with⟨rfl,rfl⟩|⟨_,e'⟩);{exact leL.refl _ _};exact h.lo v n x l e' hx h1 h2 h3
theorem DJ.relax{t}{down:List Bool}{ps:LQ}{s d n:Nat}{X done:LN}{ls:List Lb}(h:DJ t down ps s d n X done ls)(hv:aI t=true)(hp:eI ps){a:Nat}(ha:a∈aM t n):
  DJ t down ps s d n X (done++[a]) (eD t down ps d n ls a):=by
 obtain⟨qA,qB,qy,_⟩:=iB hv ha;obtain⟨ln,qh,qo,qm,qi⟩:=h.own;have hX:dP ls n=X:=(by unfold dP;rw[qh];exact qi);obtain⟨lm,qe⟩:∃lm,ls[(aL t a).toNat]?=some lm:=⟨_,yG (by rw[h.len];exact qy)⟩;have qj:=(yH.1 qe).1;unfold eD;rw[qe,hX];simp only[];split;{rename_i hc;(refine⟨h.len,h.walk,h.src,h.dd,h.kn,h.lo,h.step,h.own,h.all,fun b hb qf=>?_⟩;rcases xY.1 hb with hb|hb);{exact h.past b hb qf};have:b=a:=(by simpa using hb);subst this;rw[qf]at hc;have qn:lm.done=true:=(by simpa using hc);exact⟨lm,qe,h.kn _ lm qe qn,(h.all _ lm qe qn).trans (leL.ext hp X [b])⟩};rename_i hc;(simp only[Bool.or_eq_true,not_or,Bool.not_eq_true,Bool.not_eq_false']at hc;obtain⟨qt,qk⟩:=hc;have qk:dI t down a d=true:=by simpa using qk);split;{rename_i hb;have qp:lm.known=true->leL ps (X++[a]) lm.arcs:=fun hk=>(by rw[hk]at hb;exact leL.of_bef (by simpa using hb));generalize hM:(aL t a).toNat=M at*;have qg:∀(v:Nat) (k:Lb),(ls.set M ⟨true,false,X++[a]⟩)[v]?=some k->(v=M/\k=⟨true,false,X++[a]⟩)\/(v≠M/\ls[v]?=some k):=fun v k e=>(by by_cases hv:v=M;{subst hv;(rw[yM qj]at e;injection e with e);exact .inl ⟨rfl,e.symm⟩};rw[vN (fun h=>hv h.symm)]at e;exact .inr ⟨hv,e⟩);have put:∀(v:Nat) (k:Lb),ls[v]?=some k->k.known=true->∃k',(ls.set M ⟨true,false,X++[a]⟩)[v]?=some k'/\k'.known=true/\leL ps k'.arcs k.arcs:=fun v k e hk=>(by by_cases hv:v=M;{subst hv;(rw[qe]at e;injection e with e);subst e;exact⟨_,yM qj,rfl,qp hk⟩};exact⟨k,by rw[vN (fun h=>hv h.symm)];exact e,hk,leL.refl _ _⟩);have qz:n≠M:=(by (rintro rfl;rw[qh]at qe;injection qe with e);rw[<-e,qo]at qt;cases qt);refine⟨by rw[yV];exact h.len,?_,?_,?_,?_,?_,?_,⟨ln,by rw[vN (fun h=>qz h.symm)];exact qh,qo,qm,qi⟩,?_,?_⟩;{intro v k e hk;(rcases qg v k e with⟨rfl,rfl⟩|⟨_,e'⟩);{have:=FW.app X (by rw[<-qi];exact h.walk n ln qh qm) (FW.one ha qk);rw[hM]at this;exact this};exact h.walk v k e' hk};{obtain⟨k,e1,e2,e3⟩:=h.src;by_cases hs:s=M;{subst hs;(rw[qe]at e1;injection e1 with e1);subst e1;have h9:=(qp e2).anti (by rw[e3];exact leL.nil hp _);rw[e3]at h9;simp at h9};exact⟨k,by rw[vN (fun h=>hs h.symm)];exact e1,e2,e3⟩};{intro k e;(rcases qg d k e with⟨rfl,rfl⟩|⟨_,e'⟩);{rfl};exact h.dd k e'};{intro v k e hk;(rcases qg v k e with⟨rfl,rfl⟩|⟨_,e'⟩);{rfl};exact h.kn v k e' hk};{intro v m x k ev hx em qx qw;(rcases qg v x ev with⟨rfl,rfl⟩|⟨_,ev'⟩);{cases hx};(rcases qg m k em with⟨rfl,rfl⟩|⟨_,em'⟩);{exact(h.all v x ev' hx).trans (leL.ext hp X [a])};exact h.lo v m x k ev' hx em' qx qw};{intro u b x hu e hx qa qf;(rcases qg u x e with⟨rfl,rfl⟩|⟨_,e'⟩);{cases hx};obtain⟨k,f1,f2,f3⟩:=h.step u b x hu e' hx qa qf;obtain⟨k',g1,g2,g3⟩:=put _ k f1 f2;exact⟨k',g1,g2,g3.trans f3⟩};{intro v x e hx;(rcases qg v x e with⟨rfl,rfl⟩|⟨_,e'⟩);{cases hx};exact h.all v x e' hx};(intro b qa qf;rcases xY.1 qa with qa|qa);{obtain⟨k,f1,f2,f3⟩:=h.past b qa qf;obtain⟨k',g1,g2,g3⟩:=put _ k f1 f2;exact⟨k',g1,g2,g3.trans f3⟩};have:b=a:=(by simpa using qa);subst this;rw[hM];exact⟨_,yM qj,rfl,leL.refl _ _⟩};rename_i hb;(simp only[Bool.or_eq_true,not_or,Bool.not_eq_true,Bool.not_eq_false']at hb;refine⟨h.len,h.walk,h.src,h.dd,h.kn,h.lo,h.step,h.own,h.all,fun b qa qf=>?_⟩;rcases xY.1 qa with qa|qa);{exact h.past b qa qf};have:b=a:=(by simpa using qa);subst this;exact⟨lm,qe,by simpa using hb.1,hb.2⟩
theorem DJ.fold{t}{down:List Bool}{ps:LQ}{s d n:Nat}{X:LN}(hv:aI t=true)(hp:eI ps):∀(al done:LN) (ls:List Lb),DJ t down ps s d n X done ls->(∀a∈al,a∈aM t n)->DJ t down ps s d n X (done++al) (al.foldl (eD t down ps d n) ls)
 | [],done,ls,h,_=>by rw[List.append_nil];exact h
 |a::al,done,ls,h,ha=>by
  have:=DJ.fold hv hp al (done++[a]) _ (h.relax hv hp (ha a qS)) (fun b hb=>ha b (by simp[hb]));rw[List.append_assoc]at this;exact this
theorem DJ.di{t}{down:List Bool}{ps:LQ}{s d n:Nat}{X:LN}{ls:List Lb}(h:DJ t down ps s d n X (aM t n) ls):DI t down ps s d ls:=by
 refine⟨h.len,h.walk,h.src,h.dd,h.kn,h.lo,fun u a l e hl ha hus=>?_⟩;by_cases hu:u=n;{subst hu;obtain⟨ln,qe,_,_,qa⟩:=h.own;rw[qe]at e;injection e with e;subst e;rw[qa];exact h.past a ha hus};exact h.step u a l hu e hl ha hus
theorem jzcx t(down:List Bool)(ps:LQ)(d n:Nat):∀(al:LN) (ls:List Lb),cM (al.foldl (eD t down ps d n) ls)=cM ls
 | [],_=>rfl
 |a::al,ls=>by rw[List.foldl_cons,jzcx t down ps d n al,jza7]
theorem wG{t}{down:List Bool}{ps:LQ}{s d:Nat}(hv:aI t=true)(hp:eI ps):∀(f:Nat) (ls:List Lb),DI t down ps s d ls->cM ls<f->
  match iL t down ps d f ls with
  |none=>∀p,¬FW t down d s p d
  |some p=>FW t down d s p d/\∀q,FW t down d s q d->leL ps p q
 |0,ls,_,h=>by omega
 |f+1,ls,hi,hf=>by
  unfold iL;by_cases h1:cB ps ls<0
  ·rw[qE h1]
   simp only[];intro p hw;rcases hi.low hp _ p d rfl hw with⟨l,k1,k2,_⟩|⟨m,k,k1,k2,k3,_⟩
   ·rw[hi.dd l k1]at k2;cases k2
   ·have:=(wF (ps:=ps) k1 k2 k3).1
    omega
  ·rw[qF h1]
   by_cases h2:(cB ps ls).toNat=d
   ·rw[qE h2]
    simp only[];obtain⟨l,e1,e2,e3⟩:=nQ ps ls ls.length (show 0<=cB ps ls by omega);have e1:ls[(cB ps ls).toNat]?=some l:=e1;have hX:dP ls (cB ps ls).toNat=l.arcs:=(by unfold dP;rw[e1];rfl);refine⟨?_,fun q hw=>?_⟩
    ·rw[hX]
     have:=hi.walk _ l e1 e2;rw[h2]at this;exact this
    ·rcases hi.low hp _ q d rfl hw with⟨l,k1,k2,_⟩|⟨m,k,k1,k2,k3,k4⟩
     ·rw[hi.dd l k1]at k2;cases k2
     ·exact(wF k1 k2 k3).2.trans k4
   ·rw[qF h2]
    have hj:=(DJ.fold hv hp (aM t (cB ps ls).toNat) [] _ (hi.mark qO h2) (fun _ h=>h));rw[List.nil_append]at hj;refine wG hv hp f _ hj.di ?_;rw[jzcx];obtain⟨l,e1,e2,e3⟩:=nQ ps ls ls.length (show 0<=cB ps ls by omega);have:=jza6 (ls:=ls) e1 e3;unfold cB at*;omega
theorem jzcy{t:Tp}{down:List Bool}{ps:LQ}{s d:Nat}(hs:s<t.nodes.toNat):DI t down ps s d (dC t.nodes.toNat s):=by
 unfold dC;have qa:∀(v:Nat) (k:Lb),((List.replicate t.nodes.toNat (⟨false,false,[]⟩:Lb)).set s ⟨true,false,[]⟩)[v]?=some k->k.done=false/\k.arcs=[]/\(k.known=true->v=s):=fun v k e=>(by by_cases hv:v=s;{subst hv;(rw[yM (by simp[hs])]at e;injection e with e);subst e;exact⟨rfl,rfl,fun _=>rfl⟩};rw[vN (fun h=>hv h.symm)]at e;have:=uF (yJ e);subst this;exact⟨rfl,rfl,fun h=>by cases h⟩);refine⟨qS,?_,⟨_,yM (by simp[hs]),rfl,rfl⟩,fun l e=>(qa d l e).1,?_,?_,?_⟩;{intro v k e hk;have:=qa v k e;rw[this.2.1,this.2.2 hk];exact rfl};{intro v k e hk;rw[(qa v k e).1]at hk;cases hk};{intro v m l k e hk;rw[(qa v l e).1]at hk;cases hk};intro u a l e hk;rw[(qa u l e).1]at hk;cases hk
theorem jzcz{t}{down:List Bool}{s d:Nat}(hv:aI t=true):∀(f:Nat) (path:LN) (u:Nat) (seen:List Bool) (q:LN),FW t down d s path u->q∈bM t down d f path u seen->FW t down d s q d
 |0,_,_,_,_,_,h=>by simp[bM]at h
 |f+1,path,u,seen,q,hw,h=>by
  unfold bM at h;by_cases h1:u=d
  ·rw[qE h1]at h
   have:q=path:=(by simpa using h);subst this;rw[<-h1];rw[<-h1]at hw;exact hw
  rw[qF h1]at h;by_cases h2:0<path.length/\bT t u=true
  ·rw[qE h2]at h;simp at h
  rw[qF h2]at h;rw[kZx]at h;obtain⟨a,ha,hq⟩:=h;by_cases h3:(bZ down a||seen[(aL t a).toNat]?.getD false)=true
  ·rw[qE h3]at hq;simp at hq
  rw[qF h3]at hq;simp only[Bool.or_eq_true,not_or,Bool.not_eq_true]at h3;obtain⟨g1,g2,g3,_⟩:=iB hv ha;have qa:dI t down a d=true:=by
   unfold dI;rw[h3.1];by_cases h4:aL t a=(d:Int)
   ·simp[h4]
   cases h5:bT t (aL t a)
   ·simp
   exfalso;cases f with
   |zero=>simp[bM]at hq
   |succ f=>
    unfold bM at hq;rw[qF qO,qE ⟨qS,by rw[Int.toNat_of_nonneg g1];exact h5⟩]at hq;simp at hq
  exact jzcz hv f (path++[a]) _ _ q (FW.app path hw (FW.one ha qa)) hq
theorem rJ{t}{ps:LQ}(h:eT t ps=true):eI ps:=by
 (intro a;cases e:ps[a]? with|none=>exact vC|some q=>unfold eT at h;simp at h;have:=h.2 q (yJ e);rw[kQ1, <-kQ4, <-jzcp];omega)
theorem FW.lt{t}{down:List Bool}{d:Nat}(hv:aI t=true):∀(p:LN) {u v:Nat},u<t.nodes.toNat->FW t down d u p v->v<t.nodes.toNat
 | [],_,_,hu,h=>by
   have h:_=_:=h;rw[<-h];exact hu
 |_::p,_,_,_,h=>FW.lt hv p (iB hv h.1).2.2.1 h.2.2
theorem jzc0{α:Type}:∀(p:List α),p=[]\/∃q a,p=q++[a]:=fun p=>by
 by_cases h:p=[];{exact .inl h};{exact .inr ⟨p.dropLast,p.getLast h,(List.dropLast_concat_getLast h).symm⟩}
theorem wH{t}(hv:aI t=true){u a:Nat}(h:a∈aM t u):((aL t a).toNat:Int)=aL t a:=by
 have:=(iB hv h).1;omega
theorem FW.alive{t}{down:List Bool}{s d:Nat}(hv:aI t=true){p:LN}{v:Nat}(h:FW t down d s p v):v=s\/v=d\/bT t (v:Int)=false:=by
 rcases jzc0 p with rfl|⟨q,a,rfl⟩
 ·exact .inl (show s=v from h).symm
 obtain⟨u,_,h2,h3,rfl⟩:=FW.snoc_inv q h;unfold dI at h3;rw[<-wH hv h2,vM,Bool.or_eq_true,Bool.not_eq_true',Bool.not_eq_true',beq_iff_eq]at h3;rcases h3.2 with h4|h4
 ·exact .inr (.inl qO)
 exact .inr (.inr h4)
def KL(t:Tp)(down:List Bool)(s d n:Nat)(x:LN):Prop:=
 (x=[]/\n=s)\/∃(y:LN) (a u:Nat),x=y++[a]/\FW t down d s y u/\a∈aM t u/\bZ down a=false/\n=(aL t a).toNat
theorem KL.fw{t}{down:List Bool}{s d n:Nat}{x:LN}(hv:aI t=true)(h:KL t down s d n x)(hl:x=[]\/n=d\/bT t (n:Int)=false):FW t down d s x n:=by
 (rcases h with⟨rfl,rfl⟩|⟨y,a,u,rfl,h1,h2,h3,rfl⟩);{rfl};(refine FW.app y h1 (FW.one h2 ?_);unfold dI;rw[<-wH hv h2,h3];rcases hl with hl|hl|hl);{simp at hl};{rw[hl];simp};rw[hl];simp
structure KI(t:Tp)(down:List Bool)(ps:LQ)(s d:Nat)(V:List Bool)(fin:Nat->LN)(H:List (Nat×LN))(n:Nat)(todo:LN):Prop where
 len:V.length=t.nodes.toNat
 lab:∀m x,(m,x)∈H->KL t down s d m x
 size:∀m x,(m,x)∈H->x.length<=V.count true
 best:∀u,V[u]?=some true->u=s\/bT t (u:Int)=false->FW t down d s (fin u) u/\(fin u).length<V.count true/\∀p,FW t down d s p u->leL ps (fin u) p
 front:∀u a,V[u]?=some true->u=s\/bT t (u:Int)=false->a∈aM t u->bZ down a=false->V[(aL t a).toNat]?=some false->(u=n/\a∈todo)\/((aL t a).toNat,fin u++[a])∈H
 src:V[s]?=some false->(s,[])∈H
 dd:V[d]?=some false
theorem KI.low{t}{down:List Bool}{ps:LQ}{s d n:Nat}{V:List Bool}{fin:Nat->LN}{H:List (Nat×LN)}(h:KI t down ps s d V fin H n [])(hv:aI t=true)(hp:eI ps)(hs:s<t.nodes.toNat):∀(k:Nat) (p:LN) (v:Nat),p.length=k->FW t down d s p v->V[v]?=some false->∃m y,(m,y)∈H/\leL ps y p
 |0,p,v,hk,hw,hV=>by
  have:p=[]:=kQp.1 hk;subst this;have hw:s=v:=hw;subst hw;exact⟨s,[],h.src hV,leL.refl _ _⟩
 |k+1,p,v,hk,hw,hV=>by
  obtain⟨q,a,rfl⟩:∃q a,p=q++[a]:=by
   rcases jzc0 p with rfl|h1
   ·simp at hk
   exact h1
  obtain⟨u,h1,h2,h3,rfl⟩:=FW.snoc_inv q hw;have hu:=FW.lt hv q hs h1;obtain⟨b,hb⟩:∃b,V[u]?=some b:=⟨_,yG (by rw[h.len];exact hu)⟩;cases b
  case false=>
   obtain⟨m,y,i1,i2⟩:=h.low hv hp hs k q u (by simpa using hk) h1 hb;exact⟨m,y,i1,i2.trans (leL.ext hp q [a])⟩
  have qa:u=s\/bT t (u:Int)=false:=by
   rcases h1.alive hv with h4|h4|h4
   ·exact .inl h4
   ·subst h4;rw[h.dd]at hb;cases hb
   exact .inr h4
  have qe:bZ down a=false:=by
   unfold dI at h3;simp at h3;exact h3.1
  rcases h.front u a hb qa h2 qe hV with⟨_,h4⟩|h4
  ·cases h4
  exact⟨_,_,h4,((h.best u hb qa).2.2 q h1).app [a]⟩
theorem KI.none_{t}{down:List Bool}{ps:LQ}{s d n:Nat}{V:List Bool}{fin:Nat->LN}(h:KI t down ps s d V fin [] n [])(hv:aI t=true)(hp:eI ps)(hs:s<t.nodes.toNat)(p:LN):¬FW t down d s p d:=fun hw=>by
 obtain⟨m,y,h1,_⟩:=h.low hv hp hs _ p d rfl hw h.dd;cases h1
section
variable {t:Tp} {down:List Bool} {ps:List Rat} {s d n k:Nat} {V:List Bool} {fin:Nat->List Nat} {H H':List (Nat×List Nat)} {x:List Nat}
theorem KI.skip(h:KI t down ps s d V fin H k [])(h1:∀z,z∈H->z=(n,x)\/z∈H')(h2:∀z,z∈H'->z∈H)(hV:V[n]?=some true)(m:Nat):KI t down ps s d V fin H' m []:=by
 refine⟨h.len,fun m x hx=>h.lab m x (h2 _ hx),fun m x hx=>h.size m x (h2 _ hx),h.best,fun u a g1 g2 g3 g4 g5=>.inr ?_,fun hS=>?_,h.dd⟩;{(rcases h.front u a g1 g2 g3 g4 g5 with⟨_,g6⟩|g6);{cases g6};(rcases h1 _ g6 with e|e);{(injection e with e1 e2);rw[e1,hV]at g5;cases g5};exact e};(rcases h1 _ (h.src hS)with e|e);{(injection e with e1 e2);rw[e1,hV]at hS;cases hS};exact e
theorem KI.least(h:KI t down ps s d V fin H k [])(hv:aI t=true)(hp:eI ps)(hs:s<t.nodes.toNat)(hx:(n,x)∈H)(hm:∀m y,(m,y)∈H->leL ps x y)(hV:V[n]?=some false):∀p,FW t down d s p n->leL ps x p:=fun p hw=>by
 obtain⟨m,y,h1,h2⟩:=h.low hv hp hs _ p n rfl hw hV;exact(hm m y h1).trans h2
theorem KI.found(h:KI t down ps s d V fin H k [])(hv:aI t=true)(hp:eI ps)(hs:s<t.nodes.toNat)(hx:(d,x)∈H)(hm:∀m y,(m,y)∈H->leL ps x y):FW t down d s x d/\∀p,FW t down d s p d->leL ps x p:=
 ⟨(h.lab _ _ hx).fw hv (.inr (.inl rfl)),h.least hv hp hs hx hm h.dd⟩
theorem jzk2{V:List Bool}{n:Nat}(hV:V[n]?=some false):(V.set n true).count true=V.count true+1:=by
 have hl:=(yH.1 hV).1;have he:=(yH.1 hV).2;rw[List.count_set hl,he];simp
theorem KI.reach(h:KI t down ps s d V fin H k [])(hv:aI t=true)(hp:eI ps)(hs:s<t.nodes.toNat)(hx:(n,x)∈H)(h1:∀z,z∈H->z=(n,x)\/z∈H')(h2:∀z,z∈H'->z∈H)(hm:∀m y,(m,y)∈H->leL ps x y)(hV:V[n]?=some false)(hd:n≠d):
  KI t down ps s d (V.set n true) (fun u=>if u=n then x else fin u) H' n (aM t n):=by
 have hc:=jzk2 hV;have hl:=(yH.1 hV).1;have hg:∀u b,u≠n->(V.set n true)[u]?=some b->V[u]?=some b:=fun u b hu hb=>(by rwa [vN (fun e=>hu e.symm)]at hb);have qa:∀u,(V.set n true)[u]?=some false->u≠n/\V[u]?=some false:=fun u hb=>(by have hu:u≠n:=fun e=>(by subst e;rw[yM hl]at hb;cases hb);exact⟨hu,hg u false hu hb⟩);refine⟨by rw[yV];exact h.len,fun m x hx=>h.lab m x (h2 _ hx),fun m x hx=>by rw[hc];have:=h.size m x (h2 _ hx);omega,fun u hu hal=>?_,fun u a g1 g2 g3 g4 g5=>?_,fun hS=>?_,by rw[vN hd];exact h.dd⟩;{by_cases e:u=n;{subst e;simp only[if_true];have qe:u=s->x=[]:=fun e=>(by subst e;exact((hm _ _ (h.src hV)).anti (leL.nil hp x)));(refine⟨(h.lab _ _ hx).fw hv ?_,by have:=h.size _ _ hx;omega,h.least hv hp hs hx hm hV⟩;rcases hal with e|e);{exact .inl (qe e)};exact .inr (.inr e)};simp only[qF e];obtain⟨i1,i2,i3⟩:=h.best u (hg u true e hu) hal;exact⟨i1,qO,i3⟩};{obtain⟨g6,g7⟩:=qa _ g5;by_cases e:u=n;{subst e;exact .inl ⟨rfl,g3⟩};(simp only[qF e];rcases h.front u a (hg u true e g1) g2 g3 g4 g7 with⟨_,g8⟩|g8);{cases g8};(rcases h1 _ g8 with e2|e2);{(injection e2 with e3 e4);exact absurd e3 g6};exact .inr e2};(obtain⟨g6,g7⟩:=qa _ hS;rcases h1 _ (h.src g7)with e2|e2);{(injection e2 with e3 e4);exact absurd e3 g6};exact e2
theorem KI.dead{todo:LN}(h:KI t down ps s d V fin H n todo)(hn:n≠s)(ho:bT t (n:Int)=true)(m:Nat):KI t down ps s d V fin H m []:=by
 (refine⟨h.len,h.lab,h.size,h.best,fun u a g1 g2 g3 g4 g5=>.inr ?_,h.src,h.dd⟩;rcases h.front u a g1 g2 g3 g4 g5 with⟨rfl,_⟩|g6);{(rcases g2 with g2|g2);{exact absurd g2 hn};rw[ho]at g2;cases g2};exact g6
theorem KI.off{a:Nat}{todo:LN}(h:KI t down ps s d V fin H n (a::todo))(hd:bZ down a=true):KI t down ps s d V fin H n todo:=by
 (refine⟨h.len,h.lab,h.size,h.best,fun u b g1 g2 g3 g4 g5=>?_,h.src,h.dd⟩;rcases h.front u b g1 g2 g3 g4 g5 with⟨rfl,g6⟩|g6);{(rcases xZ.1 g6 with rfl|g6);{rw[hd]at g4;cases g4};exact .inl ⟨rfl,g6⟩};exact .inr g6
theorem KI.push{a:Nat}{todo:LN}(h:KI t down ps s d V fin H n (a::todo))(hn:V[n]?=some true)(hal:n=s\/bT t (n:Int)=false)(ha:a∈aM t n)(hd:bZ down a=false)(hH:∀z,z∈H'↔z=((aL t a).toNat,fin n++[a])\/z∈H):KI t down ps s d V fin H' n todo:=by
 obtain⟨b1,b2,_⟩:=h.best n hn hal;refine⟨h.len,fun m x hx=>?_,fun m x hx=>?_,h.best,fun u b g1 g2 g3 g4 g5=>?_,fun hS=>(hH _).2 (.inr (h.src hS)),h.dd⟩;{(rcases(hH _).1 hx with e|e);{(injection e with e1 e2);subst e1 e2;exact .inr ⟨fin n,a,n,rfl,b1,ha,hd,rfl⟩};exact h.lab _ _ e};{(rcases(hH _).1 hx with e|e);{(injection e with e1 e2);subst e2;simp;omega};exact h.size _ _ e};(rcases h.front u b g1 g2 g3 g4 g5 with⟨rfl,g6⟩|g6);{(rcases xZ.1 g6 with rfl|g6);{exact .inr ((hH _).2 (.inl rfl))};exact .inl ⟨rfl,g6⟩};exact .inr ((hH _).2 (.inr g6))
theorem KI.start(hs:s<t.nodes.toNat)(hd:d<t.nodes.toNat)(m:Nat):KI t down ps s d (List.replicate t.nodes.toNat false) fin [(s,[])] m []:=by
 have qa:∀u b,(List.replicate t.nodes.toNat false)[u]?=some b->b=false:=fun u b h=>(by rw[xB]at h;split at h;{injection h with h;exact h.symm};cases h);refine⟨qS,fun m x hx=>?_,fun m x hx=>?_,fun u hu=>?_,fun u a hu=>?_,fun _=>qS,by rw[xB,qE hd]⟩;{simp at hx;exact .inl ⟨hx.2,hx.1⟩};{simp at hx;rw[hx.2];simp};{cases qa _ _ hu};cases qa _ _ hu
end
theorem jzk3 t:(bS t).length=2*t.links.length:=by unfold bS;simp
theorem oI t:eI (bS t):=fun a=>by
 (cases h:(bS t)[a]? with|none=>exact vC|some q=>(unfold bS at h;rw[yW]at h;cases h2:(List.range (2*t.links.length))[a]? with|none=>rw[h2]at h;cases h|some b=>(rw[h2]at h;injection h with h);show(0:Rat)<=q;rw[<-h];exact Rat.intCast_nonneg.2 qO))
theorem jzc1 t:eT t (bS t)=true:=by
 unfold eT;rw[jzk3,yO rfl];have:(bS t).any (fun q=>decide (aE q<0))=false:=(by rw[List.any_eq_false];intro q hq;unfold bS at hq;obtain⟨a,_,rfl⟩:=kQl.1 hq;simp only[decide_eq_true_eq];rw[jzcp,kQ4];exact Rat.intCast_nonneg.2 qO);rw[this];rfl
theorem jzc2{t}(hv:aI t=true)(a:Nat):eV t a<=65535:=by
 (unfold eV;cases h:t.links[a/2]? with|none=>simp|some l=>unfold aI at hv;rw[vM,xW]at hv;have qa:=hv.2 l (yJ h);unfold Lk.ok inB at qa;simp at qa;simp only[];split <;> omega)
theorem jzk4{t}(hv:aI t=true):∀x:LN,bI t x<=65535*x.length:=fun x=>by
 have qa:∀(y:LN) (s:Nat),y.foldl (fun s a=>s+eV t a) s<=s+65535*y.length:=(by intro y;(induction y with|nil=>intro s;simp|cons a y ih=>intro s;have:=ih (s+eV t a);have h2:=jzc2 hv a;rw[List.foldl_cons,kQo];omega));have:=qa x 0;unfold bI;omega
theorem jzc3{t}{down:List Bool}{s d:Nat}(hv:aI t=true)(hs:s<t.nodes.toNat):match fJ t down (bS t) s d with
  |none=>∀p,¬FW t down d s p d
  |some p=>FW t down d s p d/\∀q,FW t down d s q d->leL (bS t) p q:=by
 unfold fJ;exact wG hv (oI t) (t.nodes.toNat+1) (dC t.nodes.toNat s) (jzcy hs) (by have:=pX (dC t.nodes.toNat s);have h2:(dC t.nodes.toNat s).length=t.nodes.toNat:=(by unfold dC;simp);omega)
theorem jzk5{t}{down:List Bool}{s d:Nat}{x:LN}(hv:aI t=true)(hs:s<t.nodes.toNat)(h1:FW t down d s x d)(h2:∀q,FW t down d s q d->leL (bS t) x q):fJ t down (bS t) s d=some x:=by
 (have h:=jzc3 (down:=down) (d:=d) hv hs;cases hc:fJ t down (bS t) s d with|none=>rw[hc]at h;exact absurd h1 (h x)|some p=>rw[hc]at h;rw[(h.2 x h1).anti (h2 p h.1)])
theorem jzk6{t}{down:List Bool}{s d:Nat}(hv:aI t=true)(hs:s<t.nodes.toNat)(h1:∀p,¬FW t down d s p d):fJ t down (bS t) s d=none:=by
 (have h:=jzc3 (down:=down) (d:=d) hv hs;cases hc:fJ t down (bS t) s d with|none=>rfl|some p=>rw[hc]at h;exact absurd h.1 (h1 p))
theorem jzk7 t:LeO (fun x y:Nat×LN=>leL (bS t) x.2 y.2):=⟨fun x=>leL.refl _ _,fun x y z h1 h2=>h1.trans h2,fun x y=>by
 by_cases h:cO (bS t) x.2 y.2=true
 ·exact .inl (leL.of_bef h)
 ·exact .inr (leL.of_not h)⟩
theorem jzc4 t(x y:LN):leL (bS t) x y↔¬dL t y x<0:=by
 unfold leL;rw[jzkm,decide_eq_false_iff_not]
def PO(t:Tp):Nat->Bool->LN->Nat->Prop
 |u,_,[],v=>u=v
 |u,first,a::p,v=>a∈aM t u/\(first=true\/bT t (u:Int)=false)/\PO t (aL t a).toNat false p v
theorem FW.po{t}{down:List Bool}{d:Nat}(hv:aI t=true):∀(p:LN) {u v:Nat} (first:Bool),FW t down d u p v->(first=true\/p=[]\/bT t (u:Int)=false)->(∀q z w,p=q++z->q≠ []->z≠ []->FW t down d u q w->w≠d)->PO t u first p v
 | [],_,_,_,h,_,_=>h
 |a::p,u,v,first,h,ho,hm=>by
  refine⟨h.1,?_,FW.po hv p false h.2.2 ?_ ?_⟩
  ·rcases ho with h1|h1|h1
   ·exact .inl h1
   ·cases h1
   ·exact .inr h1
  ·by_cases e:p=[]
   ·exact .inr (.inl e)
   ·have h1:=hm [a] p _ rfl qS e (FW.one h.1 h.2.1)
    have h2:=h.2.1;unfold dI at h2;rw[<-wH hv h.1,vM,Bool.or_eq_true,Bool.not_eq_true',Bool.not_eq_true',beq_iff_eq]at h2;rcases h2.2 with h3|h3
    ·exact absurd qO h1
    ·exact .inr (.inr h3)
  ·intro q z w e hq hz hw
   exact hm (a::q) z w (by rw[e];rfl) qS hz ⟨h.1,h.2.1,hw⟩
end Go.Proofs.YtfeeacaofjpkaaaGreatDoor
namespace Go.Proofs.YtfeeacaofjpkaaaGreatDoor
open Go.Proofs.Tryz
namespace Sx
def eW(L:Nat):Nat->List (LN)
 |0=>[[]]
 |n+1=>(List.range L).flatMap fun a=>(eW L n).map (a:: ·)
theorem jzc5(L:Nat):∀{l:LN},(∀a∈l,a<L)->l∈eW L l.length
 | [],_=>by simp[eW]
 |a::l,h=>kZx.2 ⟨a,vX.2 (h a qS),kQl.2 ⟨l,jzc5 L fun b hb=>h b (by simp[hb]),rfl⟩⟩
theorem rK{α β:Type}(f:α->List β)(c:Nat):∀{l:List α},(∀a∈l,(f a).length<=c)->(l.flatMap f).length<=l.length*c
 | [],_=>yZ _
 |a::l,h=>by
  rw[xU,yQ,kQo,Nat.succ_mul];have h1:=h a qS;have h2:=rK f c (l:=l) fun b hb=>h b (by simp[hb]);omega
theorem jzc6(L:Nat):∀n,(eW L n).length<=L^n
 |0=>yX _
 |n+1=>by
  have:=rK (fun a=>(eW L n).map (a:: ·)) (L^n) (l:=List.range L) fun a _=>(by rw[xV];exact jzc6 L n);rw[kZm]at this;rw[vD,vE];exact this
def cands(D L n:Nat):List (Nat×LN):=(List.range D).flatMap fun d=>(List.range (n+1)).flatMap fun k=>(eW L k).map fun l=>(d,l)
theorem jzk8{D L n:Nat}{p:Nat×LN}(h1:p.1<D)(h2:∀a∈p.2,a<L)(h3:p.2.length<=n):p∈cands D L n:=
 kZx.2 ⟨p.1,vX.2 h1,kZx.2 ⟨p.2.length,vX.2 qO,kQl.2 ⟨p.2,jzc5 L h2,rfl⟩⟩⟩
theorem cands_len(D L n:Nat)(hL:1<=L):(cands D L n).length<=D*((n+1)*L^n):=by
 have:=rK (fun d=>(List.range (n+1)).flatMap fun k=>(eW L k).map fun l=>(d,l)) ((n+1)*L^n) (l:=List.range D) fun d _=>(by have:=rK (fun k=>(eW L k).map fun l=>(d,l)) (L^n) (l:=List.range (n+1)) fun k hk=>(by rw[xV];exact yY (jzc6 L k) (kQk hL (by have:=vX.1 hk;omega)));rw[kZm]at this;exact this);rw[kZm]at this;exact this
theorem paths_few{D L n:Nat}{P:List (Nat×LN)}(hd:P.Nodup)(h:∀p∈P,p.1<D/\(∀a∈p.2,a<L)/\p.2.length<=n):P.length<=(cands D L n).length:=
 nodup_le hd fun p hp=>jzk8 (h p hp).1 (h p hp).2.1 (h p hp).2.2
end Sx
open Go.RowKit
theorem jzk9{t}{down:List Bool}{ps:LQ}{s d:Nat}(hv:aI t=true)(hp:eI ps)(hs:s<t.nodes.toNat):match fJ t down ps s d with
  |none=>∀p,¬FW t down d s p d
  |some p=>FW t down d s p d/\∀q,FW t down d s q d->leL ps p q:=by
 unfold fJ;exact wG hv hp (t.nodes.toNat+1) (dC t.nodes.toNat s) (jzcy hs) (by have:=pX (dC t.nodes.toNat s);have h2:(dC t.nodes.toNat s).length=t.nodes.toNat:=(by unfold dC;simp);omega)
theorem jzla{t}{down:List Bool}{ps:LQ}{s d:Nat}{x:LN}(hv:aI t=true)(hp:eI ps)(h1:FW t down d s x d)(h2:∀q,FW t down d s q d->leL ps x q):PO t s true x d:=by
 refine FW.po hv x true h1 (.inl rfl) (fun q z w e hq hz hw hwd=>?_);subst hwd;have h3:=h2 q hw;have h4:=leL.ext hp q z;rw[<-e]at h4;have h5:=h3.anti h4;rw[e]at h5;have:z=[]:=(by simpa using h5);exact hz this
def nds(t:Tp):Nat->LN->LN
 |u,[]=>[u]
 |u,a::p=>u::nds t (aL t a).toNat p
theorem mT t:∀(x:LN) (u:Nat),nds t u x=u::x.map fun a=>(aL t a).toNat
 | [],_=>rfl
 |a::x,u=>by
  show u::nds t _ x=_;rw[mT t x];rfl
theorem jzlb t(u:Nat)(x:LN):(nds t u x).length=x.length+1:=by rw[mT];simp
theorem jzc7{t}{down:List Bool}{d:Nat}:∀(x:LN) {u v s:Nat},FW t down d u x v->s∈nds t u x->∃y z,x=y++z/\FW t down d u y s/\FW t down d s z v
 | [],u,v,s,h,hs=>by
   have e:s=u:=xD.1 hs;subst e;exact⟨[],[],rfl,rfl,h⟩
 |a::x,u,v,s,h,hs=>by
  rcases xZ.1 hs with e|e
  ·subst e;exact⟨[],a::x,rfl,rfl,h⟩
  ·obtain⟨y,z,e1,e2,e3⟩:=jzc7 x h.2.2 e
   exact⟨a::y,z,by rw[e1];rfl,⟨h.1,h.2.1,e2⟩,e3⟩
theorem jzc8{t}{down:List Bool}{d:Nat}:∀(x:LN) {u v:Nat},FW t down d u x v->¬(nds t u x).Nodup->∃p y z m,x=p++y++z/\y≠ []/\FW t down d u p m/\FW t down d m y m/\FW t down d m z v
 | [],u,v,_,hn=>by
   exact absurd (by show [u].Nodup;simp) hn
 |a::x,u,v,h,hn=>by
  by_cases hm:u∈nds t (aL t a).toNat x
  ·obtain⟨y,z,e1,e2,e3⟩:=jzc7 x h.2.2 hm
   exact⟨[],a::y,z,u,by rw[e1];rfl,qS,rfl,⟨h.1,h.2.1,e2⟩,e3⟩
  ·have qa:¬(nds t (aL t a).toNat x).Nodup:=fun h2=>hn (kZo.2 ⟨hm,h2⟩)
   obtain⟨p,y,z,m,e1,e2,e3,e4,e5⟩:=jzc8 x h.2.2 qa;exact⟨a::p,y,z,m,by rw[e1];rfl,e2,⟨h.1,h.2.1,e3⟩,e4,e5⟩
theorem jzlc{t}{down:List Bool}{ps:LQ}{s d:Nat}{x:LN}(hp:eI ps)(h1:FW t down d s x d)(h2:∀q,FW t down d s q d->leL ps x q):(nds t s x).Nodup:=by
 refine Classical.byContradiction fun hn=>?_;obtain⟨p,y,z,m,e1,e2,e3,e4,e5⟩:=jzc8 x h1 hn;have h3:cO ps x (p++z)=true\/True:=.inr trivial;have h4:=h2 (p++z) (e3.app p e5);have h5:=jzcv hp p y z e2;rw[<-e1]at h5;unfold leL at h4;rw[h5]at h4;cases h4
def Lpl(t:Tp)(s d:Nat)(x:LN):Prop:=PO t s true x d/\(nds t s x).Nodup
theorem wI{t}(hv:aI t=true){d:Nat}:∀(x:LN) (u:Nat) (first:Bool),PO t u first x d->FW t [] d u x d
 | [],_,_,h=>h
 |a::x,u,first,h=>by
  refine⟨h.1,?_,wI hv x _ false h.2.2⟩;have hd:=iB hv h.1;have qa:bZ [] a=false:=rfl;unfold dI;rw[qa,Bool.not_false,kZg,Bool.or_eq_true,beq_iff_eq,Bool.not_eq_true'];cases x with
  |nil=>
   have:(aL t a).toNat=d:=h.2.2;exact .inl qO
  |cons b x=>
   rcases h.2.2.2.1 with h2|h2
   ·cases h2
   ·refine .inr ?_
    rw[show(((aL t a).toNat:Nat):Int)=aL t a by omega]at h2;exact h2
theorem iZ{t}:∀(x:LN) {u v:Nat} {first:Bool},PO t u first x v->∀a∈x,a<2*t.links.length
 | [],_,_,_,_,_,h=>by cases h
 |b::x,_,_,_,h,a,ha=>by
  rcases xZ.1 ha with e|e
  ·have:=h.1
   unfold aM cE at this;rw[e];exact vX.1 (List.mem_filter.1 this).1
  ·exact iZ x h.2.2 a e
theorem jzc9{t}(hv:aI t=true):∀(x:LN) {u v:Nat} {first:Bool},u<t.nodes.toNat->PO t u first x v->∀n∈nds t u x,n<t.nodes.toNat
 | [],u,_,_,hu,_,n,hn=>by
   rw[xD.1 hn];exact hu
 |a::x,u,_,_,hu,h,n,hn=>by
  rcases xZ.1 hn with e|e
  ·rw[e];exact hu
  ·exact jzc9 hv x (iB hv h.1).2.2.1 h.2.2 n e
theorem Lpl.len{t}(hv:aI t=true){s d:Nat}{x:LN}(hs:s<t.nodes.toNat)(h:Lpl t s d x):x.length+1<=t.nodes.toNat:=by
 have:=Sx.nodup_le (k:=List.range t.nodes.toNat) h.2 fun n hn=>vX.2 (jzc9 hv x hs h.1 n hn);rw[jzlb,kZm]at this;exact this
theorem Lpl.nodup{t}{s d:Nat}{x:LN}(h:Lpl t s d x):x.Nodup:=by
 have h1:=h.2;rw[mT]at h1;have h2:=(kZo.1 h1).2;exact List.Pairwise.imp (fun {a b} hab e=>hab (by rw[e])) (List.pairwise_map.1 h2)
theorem Lpl.ne{t}{s d:Nat}{x:LN}(h:Lpl t s d x)(hsd:s≠d):x≠ []:=fun e=>by
 have:=h.1;rw[e]at this;exact hsd this
theorem jzda(ps:LQ):∀x:LN,prQ ps x=Sx.ls (fun a=>Sx.at_ ps a) x
 | []=>rfl
 |a::x=>by
  rw[show a::x=[a]++x from rfl,lU,jzda ps x,Sx.ls_app];show prQ ps [a]+_=(Sx.at_ ps a+0)+_;have:prQ ps [a]=0+Sx.at_ ps a:=rfl;rw[this];grind
theorem jzdb(f:Nat->Rat)(n:Nat):∀x:LN,x.Nodup->(∀a∈x,a<n)->Sx.ls f x=Sx.sm n fun a=>if a∈x then f a else 0
 | [],_,_=>by
   show(0:Rat)=_;rw[Sx.sm_zero n fun k _=>qS]
 |b::x,hd,h=>by
  obtain⟨h1,h2⟩:=kZo.1 hd;show f b+Sx.ls f x=_;rw[jzdb f n x h2 fun a ha=>h a (by simp[ha])];have e1:Sx.sm n (fun a=>if a=b then f a else 0)=f b:=by
   rw[Sx.sm_one n (h b qS) fun k _ hk=>qF hk,qE rfl]
  rw[<-e1, <-Sx.sm_add];refine Sx.sm_congr n fun a _=>?_;by_cases e:a=b
  ·subst e
   rw[qE rfl,qF h1,qE qS];grind
  rw[qF e];by_cases e2:a∈x
  ·rw[qE e2,qE (by simp[e2])];grind
  rw[qF e2,qF (by simp[e,e2])];grind
theorem Lpl.prQ_sm{t}{s d:Nat}{x:LN}(h:Lpl t s d x)(ps:LQ):prQ ps x=Sx.sm (2*t.links.length) fun a=>if a∈x then Sx.at_ ps a else 0:=by
 rw[jzda];exact jzdb _ _ x h.nodup (iZ x h.1)
theorem kO{t}{ps:LQ}{s d:Nat}(hv:aI t=true)(hp:eT t ps=true)(hs:s<t.nodes.toNat)(hd:d<t.nodes.toNat):
  (∃x,chP t [] ps (s:Int) (d:Int)=(x,0)/\Lpl t s d x/\∀y,Lpl t s d y->prQ ps x<=prQ ps y)\/(chP t [] ps (s:Int) (d:Int)=([],11)/\∀y,¬Lpl t s d y):=by
 (have hb:fW t [] ps=false:=(by unfold fW eA;rw[hv,hp];rfl);have qa:fO t (s:Int) (d:Int)=false:=(by unfold fO;simp;omega);have h:=jzk9 (down:=[]) (d:=d) hv (rJ hp) hs;unfold chP;rw[hb,qa];simp only[kZq,if_false,xL];cases hc:fJ t [] ps s d with|none=>rw[hc]at h;exact .inr ⟨rfl,fun y hy=>h y (wI hv y s true hy.1)⟩|some x=>(rw[hc]at h;refine .inl ⟨x,rfl,⟨jzla hv (rJ hp) h.1 h.2,jzlc (rJ hp) h.1 h.2⟩,fun y hy=>?_⟩;rcases(mS ps x y).1 (h.2 y (wI hv y s true hy.1))with e|e);{rw[e];exact vC};(rcases(iY ps x y).1 e with e|e);{exact vB e};rw[e.1];exact vC)
structure Dm where
 src:Int
 dst:Int
 amount:Int
 prio:Int
def Dm.cells(d:Dm):List Value:=[vI d.src,vI d.dst,vI d.amount,vI d.prio]
def Dm.wf(d:Dm):Prop:=i64 d.src/\i64 d.dst/\i64 d.amount/\i64 d.prio
def Dm.ok(N:Int)(d:Dm):Bool:= !(d.src==d.dst)&&inB d.src 0 (N-1)&&inB d.dst 0 (N-1)&&inB d.amount 1 1048576&&inB d.prio 0 7
def bE(l:List Dm)(d:Nat):Nat:=match l[d]? with
 |some x=>x.src.toNat
 |none=>0
def bC(l:List Dm)(d:Nat):Nat:=match l[d]? with
 |some x=>x.dst.toNat
 |none=>0
def amQ(l:List Dm)(d:Nat):Rat:=match l[d]? with
 |some x=>(x.amount:Rat)
 |none=>0
def aQ(t:Tp)(a:Nat):Rat:=match t.links[a/2]? with
 |some x=>(x.cap:Rat)
 |none=>0
def chQ(t:Tp)(pr:LQ)(s d:Nat):Rat:=prQ pr (chP t [] pr (s:Int) (d:Int)).1
structure Fit(t:Tp)(l:List Dm):Prop where
 v:aI t=true
 n:0<l.length
 ok:∀x∈l,Dm.ok t.nodes x=true
section
variable {t:Tp} {l:List Dm}
theorem Fit.nodes(h:Fit t l){d:Nat}(hd:d<l.length):bE l d<t.nodes.toNat/\bC l d<t.nodes.toNat/\bE l d≠bC l d/\l[d].src=(bE l d:Int)/\l[d].dst=(bC l d:Int):=by
 have h1:=h.ok _ (xR hd);unfold Dm.ok inB at h1;simp at h1;unfold bE bC;rw[yG hd];simp only[];omega
theorem Fit.am(h:Fit t l){d:Nat}(hd:d<l.length):0<amQ l d/\Sx.isI (amQ l d)/\amQ l d<=((1048576:Int):Rat)/\amQ l d=(l[d].amount:Rat)/\1<=l[d].amount/\l[d].amount<=1048576:=by
 have h1:=h.ok _ (xR hd);unfold Dm.ok inB at h1;simp at h1;have e:amQ l d=(l[d].amount:Rat):=(by unfold amQ;rw[yG hd]);refine⟨?_,⟨_,e⟩,?_,e,qO,qO⟩;{rw[e];exact Rat.intCast_lt_intCast.2 (show(0:Int)<l[d].amount by omega)};rw[e];exact kQt.2 qO
theorem lE(hv:aI t=true){a:Nat}(ha:a<2*t.links.length):∃h:a/2<t.links.length,0<=aQ t a/\Sx.isI (aQ t a)/\aQ t a<=((1048576:Int):Rat)/\aQ t a=(t.links[a/2].cap:Rat)/\0<=t.links[a/2].cap/\t.links[a/2].cap<=1048576:=by
 have hl:a/2<t.links.length:=qO;unfold aI at hv;rw[vM,xW]at hv;have qa:=hv.2 _ (xR hl);unfold Lk.ok inB at qa;simp at qa;have e:aQ t a=(t.links[a/2].cap:Rat):=(by unfold aQ;rw[yG hl]);refine⟨hl,?_,⟨_,e⟩,?_,e,qO,qO⟩;{rw[e];exact kQt.2 (show(0:Int)<=t.links[a/2].cap by omega)};rw[e];exact kQt.2 qO
end
structure cS(t:Tp)(l:List Dm)(v:Rat)(Z:List ((Nat×LN)×Rat))(pr:LQ):Prop where
 adm:Sx.Adm (2*t.links.length) l.length (amQ l) (aQ t) v Z
 loop:∀z∈Z,Lpl t (bE l z.1.1) (bC l z.1.1) z.1.2
 plen:pr.length=2*t.links.length
 pnn:∀q∈pr,0<=q
 worth:(Sx.sm (2*t.links.length) fun a=>Sx.at_ pr a*aQ t a)=v
 need:1<=Sx.sm l.length fun d=>amQ l d*chQ t pr (bE l d) (bC l d)
 conn:∀d,d<l.length->∃x,Lpl t (bE l d) (bC l d) x
theorem oJ(q:Rat):aE q<0↔q<0:=by
 have h:q.num<0↔q<0:=(by rw[<-Int.not_le,Rat.num_nonneg,Rat.not_le]);unfold aE;split;{rename_i h0;rw[<-h,h0]};split;{rename_i h1;exact⟨fun _=>h.1 h1,fun _=>qD⟩};rename_i h1;exact⟨fun x=>qO,fun x=>absurd (h.2 x) h1⟩
theorem kP{t:Tp}{pr:LQ}(h1:pr.length=2*t.links.length)(h2:∀q∈pr,0<=q):eT t pr=true:=by
 unfold eT;rw[vM,decide_eq_true_eq,Bool.not_eq_true'];refine⟨h1,?_⟩;rw[<-Bool.not_eq_true];intro hn;obtain⟨q,hq,hs⟩:=List.any_eq_true.1 hn;have:=(oJ q).1 (of_decide_eq_true hs);have:=h2 q hq;grind
theorem oK{pr:LQ}(h:∀q∈pr,0<=q)(a:Nat):0<=Sx.at_ pr a:=by
 unfold Sx.at_;by_cases e:a<pr.length;{rw[yG e];exact h _ (xR e)};rw[yI qO];exact vC
theorem cS.unique{t}{l:List Dm}(hf:Fit t l){v v':Rat}{Z Z':List ((Nat×LN)×Rat)}{pr pr':LQ}(h:cS t l v Z pr)(h':cS t l v' Z' pr'):v=v':=by
 have qa:∀{v v':Rat} {Z Z':List ((Nat×LN)×Rat)} {pr pr':LQ},cS t l v Z pr->cS t l v' Z' pr'->v<=v':=fun {v v' Z Z' pr pr'} h h'=>(by (rw[<-h'.worth];refine h.adm.weak hf.n (fun d hd=>(hf.am hd).1) (ch:=fun d=>chQ t pr' (bE l d) (bC l d)) (fun a _=>oK h'.pnn a) (fun z hz=>?_) h'.need;have hd:=h.adm.dem z hz;obtain⟨n1,n2,_⟩:=hf.nodes hd;have hl:=h.loop z hz;rcases kO hf.v (kP h'.plen h'.pnn) n1 n2 with⟨x,e,_,e2⟩|⟨_,e⟩);{show chQ t pr' _ _<=_;unfold chQ;rw[e, <-hl.prQ_sm];exact e2 _ hl};exact absurd hl (e _));exact Rat.le_antisymm (qa h h') (qa h' h)
theorem jzld{t}{l:List Dm}(hf:Fit t l){T:Sx.Tb}{P:List (Nat×LN)}(hb:Sx.Best (2*t.links.length) l.length (amQ l) (aQ t) T P)(hrl:T.rows.length=2*t.links.length+l.length)
  (hP:∀p∈P,Lpl t (bE l p.1) (bC l p.1) p.2) (hpl:Sx.ptZ T P |>.map (·.1) |>.all (fun p=>decide (p∈P)))
  (hg:∀d,d<l.length->Sx.at_ (Sx.prT T) (2*t.links.length+d)<=chQ t ((Sx.prT T).take (2*t.links.length)) (bE l d) (bC l d)) (hc:∀d,d<l.length->∃x,Lpl t (bE l d) (bC l d) x):
  cS t l T.goal.re (Sx.planZ l.length (amQ l) T.goal.re (Sx.ptZ T P)) ((Sx.prT T).take (2*t.links.length)):=by
 have qa:(Sx.prT T).length=2*t.links.length+l.length:=(by unfold Sx.prT;rw[Sx.prTo_len,hrl]);have qe:∀a,a<2*t.links.length->Sx.at_ ((Sx.prT T).take (2*t.links.length)) a=Sx.at_ (Sx.prT T) a:=fun a ha=>(by unfold Sx.at_;rw[xG,qE ha]);refine⟨hb.adm,fun z hz=>?_,by rw[xF];omega,fun q hq=>?_,?_,?_,hc⟩;{obtain⟨_,f,h1,_⟩:=Sx.planZ_nn hz;have:=of_decide_eq_true (xW.1 hpl z.1 (kQl.2 ⟨_,h1,rfl⟩));exact hP _ this};{obtain⟨k,hk,e⟩:=List.getElem_of_mem hq;rw[xF]at hk;have:=hb.pos k qO;unfold Sx.at_ at this;rw[yG qO]at this;rw[<-e,List.getElem_take];exact this};{rw[<-hb.worth];exact Sx.sm_congr _ fun a ha=>by rw[qe a ha]};refine kQs hb.need (Sx.sm_le _ fun d hd=>?_);exact yT (hg d hd) (vB (hf.am hd).1)
theorem rL(l:LQ)(i k:Nat)(q:Rat)(hk:k<l.length):Sx.at_ (l.set i q) k=if i=k then q else Sx.at_ l k:=by
 unfold Sx.at_;by_cases e:i=k;{subst e;rw[yM hk,qE rfl];rfl};rw[vN e,qF e]
theorem jzdc(k:Nat):∀(arcs:LN) (v:LQ),k<v.length->Sx.at_ ((arcs.map fun a=>(a,(1:Rat))).foldl (fun v t=>v.set t.1 t.2) v) k=if k∈arcs then 1 else Sx.at_ v k
 | [],v,_=>by simp
 |a::arcs,v,hk=>by
  show Sx.at_ ((arcs.map fun a=>(a,(1:Rat))).foldl _ (v.set a 1)) k=_;rw[jzdc k arcs _ (by rw[yV];exact hk),rL _ _ _ _ hk];by_cases e:k∈arcs
  ·simp[e]
  ·by_cases e2:a=k
   ·subst e2;simp
   ·have e3:¬k=a:=fun h=>e2 h.symm
    simp[e,e2,e3]
theorem wJ(m k:Nat):Sx.at_ (List.replicate m 0) k=0:=by
 unfold Sx.at_;rw[xB];split <;> rfl
def pTs(L2:Nat)(p:Nat×LN):List (Nat×Rat):=(L2+p.1, -1)::p.2.map fun a=>(a,1)
theorem jzdd(L2 D:Nat)(p:Nat×LN)(hp:∀a∈p.2,a<L2)(k:Nat)(hk:k<L2+D):Sx.at_ (aR (L2+D) (pTs L2 p)) k=Sx.pcol L2 p k:=by
 unfold aR pTs Sx.pcol;show Sx.at_ ((p.2.map fun a=>(a,(1:Rat))).foldl _ ((List.replicate (L2+D) 0).set (L2+p.1) (-1))) k=_;rw[jzdc k p.2 _ (by simpa using hk),rL _ _ _ _ (by simpa using hk),wJ];by_cases h1:k<L2;{rw[qE h1,qF (show¬L2+p.1=k by omega)]};rw[qF h1,qF (fun h=>h1 (hp k h))];by_cases e:k=L2+p.1;{rw[qE e,qE e.symm]};rw[qF e,qF (fun h=>e h.symm)]
def vTs(L2:Nat)(am:Nat->Rat)(n:Nat):List (Nat×Rat):=(List.range n).map fun d=>(L2+d,am d)
theorem jzde(L2:Nat)(am:Nat->Rat)(n:Nat):vTs L2 am (n+1)=vTs L2 am n++[(L2+n,am n)]:=by unfold vTs;rw[kZc,List.map_append];rfl
theorem jzdf(L2 D:Nat)(am:Nat->Rat)(k:Nat)(hk:k<L2+D):∀n,Sx.at_ (aR (L2+D) (vTs L2 am n)) k=if L2<=k/\k<L2+n then am (k-L2)else 0
 |0=>by
  rw[qF qO];exact wJ _ _
 |n+1=>by
  have ih:=jzdf L2 D am k hk n;have hl:∀(ts:List (Nat×Rat)) (v:LQ),(ts.foldl (fun v t=>v.set t.1 t.2) v).length=v.length:=fun ts=>by
   induction ts with
   |nil=>intro v;rfl
   |cons t ts ih=>intro v;show(ts.foldl _ (v.set t.1 t.2)).length=_;rw[ih,yV]
  unfold aR at ih⊢;rw[jzde,kZt];show Sx.at_ ((List.foldl (fun(v:LQ) (t:Nat×Rat)=>v.set t.1 t.2) (List.replicate (L2+D) 0) (vTs L2 am n)).set (L2+n) (am n)) k=_;rw[rL _ _ _ _ (by rw[hl];simpa using hk),ih];by_cases e:L2+n=k
  ·rw[qE e,qE qO]
   rw[show k-L2=n by omega]
  ·rw[qF e]
   by_cases h:L2<=k/\k<L2+n
   ·rw[qE h,qE qO]
   ·rw[qF h,qF qO]
theorem jzle(L2 D:Nat)(am:Nat->Rat)(k:Nat)(hk:k<L2+D):Sx.at_ (aR (L2+D) (vTs L2 am D)) k=Sx.vcol L2 am k:=by
 rw[jzdf L2 D am k hk D];unfold Sx.vcol;by_cases h:k<L2;{rw[qF qO,qE h]};rw[qE qO,qF h]
theorem jzdg{P:Rat->Prop}(m:Nat)(ts:List (Nat×Rat))(h0:P 0)(h:∀t∈ts,P t.2):∀q∈aR m ts,P q:=by
 have qa:∀(ts:List (Nat×Rat)) (v:LQ),(∀t∈ts,P t.2)->(∀q∈v,P q)->∀q∈ts.foldl (fun v t=>v.set t.1 t.2) v,P q:=fun ts=>(by (induction ts with|nil=>intro v _ hv;exact hv|cons t ts ih=>(intro v ht hv;refine ih _ (fun t' h'=>ht t' (xO _ h')) fun q hq=>?_;rcases xE hq with h1|h1);{exact hv q h1};rw[h1];exact ht t qS));exact qa ts _ h fun q hq=>by rw[uF hq];exact h0
theorem wK(c:Rat):∀(n:Nat) {f:Nat->Rat},(∀k,k<n->f k<=c)->Sx.sm n f<=((n:Int):Rat)*c
 |0,f,_=>by
  show(0:Rat)<=((0:Int):Rat)*c;grind
 |n+1,f,h=>by
  have h1:=wK c n (f:=f) fun k hk=>h k qO;have h2:=h n (Nat.lt_succ_self n);show Sx.sm n f+f n<=(((n+1:Nat):Int):Rat)*c;have e:(((n+1:Nat):Int):Rat)=((n:Int):Rat)+1:=by
   rw[kZv,Rat.intCast_add];rfl
  rw[e,Rat.add_mul,Rat.one_mul];grind
def ZB:Nat:=25*33554432^24
theorem jzdh:ZB<B32^20:=by unfold ZB B32;decide
theorem mU{q:Rat}{N:Nat}(h:Sx.SzZ q N)(hN:N<=ZB):SzQ q 20:=⟨kQ2 (yY h.1 hN) jzdh,kQ2 (yY h.2 hN) jzdh⟩
theorem jzlf{m:Nat}(hm:m<=24):(m+1)*33554432^m<=ZB:=kQq qO (kQk qD hm)
theorem oM{t}{l:List Dm}{T:Sx.Tb}{P:List (Nat×LN)}(hf:Fit t l)(hl:t.links.length<=10)(hD:l.length<=4)(h:Sx.FLP (2*t.links.length) l.length (amQ l) (aQ t) T P):
  OkT T/\SzT T 20/\(∀q∈Sx.prT T,SzQ q 20)/\(∀q∈Sx.ptT T,SzQ q 20)/\∃Dn:Int,Dn≠0/\Dn.natAbs<=33554432^24/\Sx.Qn Dn ZB T.goal.re/\∀q∈Sx.ptT T,Sx.Qn Dn ZB q:=by
 have hm:2*t.links.length+l.length<=24:=qO;obtain⟨Dn,d1,d2,d3,d4,d5,d6,d7⟩:=h.sizes 33554432 qO qD (fun a ha=>by
  obtain⟨_,h1,h2,_⟩:=lE hf.v ha;exact⟨h2,h1⟩) (fun d hd=>⟨(hf.am hd).2.1,by have:=(hf.am hd).1;grind⟩) (by
  have h1:=wK ((1048576:Int):Rat) (2*t.links.length) (f:=aQ t) fun a ha=>(by obtain⟨_,_,_,h3,_⟩:=lE hf.v ha;exact h3)
  refine kQs h1 ?_;rw[<-kZu];exact kQt.2 qO) (by
  have h1:=wK ((1048576:Int):Rat) l.length (f:=amQ l) fun d hd=>(hf.am hd).2.2.1;refine kQs h1 ?_;rw[<-kZu];exact kQt.2 qO)
 obtain⟨s1,s2,_⟩:=h.shape;have hz:=jzlf hm;have up:∀{q:Rat},Sx.Qn Dn ((2*t.links.length+l.length+1)*33554432^(2*t.links.length+l.length)) q->Sx.Qn Dn ZB q:=fun hq=>⟨hq.1,yY hq.2.1 hz,yY hq.2.2 hz⟩;exact⟨⟨s1,s2⟩,⟨fun i hi q hq=>mU ((d3 i hi).1 q hq).2 hz,fun i hi=>mU (d3 i hi).2.2 hz,fun q hq=>mU (d4 q hq).2 hz,mU d5.2 hz⟩,fun q hq=>mU (d6 q hq).2 hz,fun q hq=>mU (d7 q hq).2 hz,
  Dn,d1,yY d2 (kQk qD hm),up d5,fun q hq=>up (d7 q hq)⟩
open Go.Maps (Keyed)
def MpS(w:World)(b n:Nat)(ks:List (List UInt8)):Prop:=
 ∃D:DataW Unit,w.ownsMap prog 9 (plainElem prog 4) b n D/\Maps.IsMap D/\∀k,D.atKey (.string k) (.lit (.bool false))=.lit (.bool (decide (k∈ks)))
theorem jzlg w:(zeroValue 4).run prog w=.ok bF w:=by kernel_rfl
theorem MpS.lt{w}{b n:Nat}{ks:List (List UInt8)}(h:MpS w b n ks):b<w.heap.size:=by
 obtain⟨D,h1,_⟩:=h;exact h1.lt
theorem MpS.same{w w':World}{b n:Nat}{ks:List (List UInt8)}(h:MpS w b n ks)(hb:w'.heap[b]?=w.heap[b]?):MpS w' b n ks:=by
 obtain⟨D,⟨es,qa,h1,h2⟩,h3⟩:=h;exact⟨D,⟨es,qa,hb.trans h1,h2⟩,h3⟩
theorem MpS.K{w w'}{b n:Nat}{ks:List (List UInt8)}(h:MpS w b n ks)(hx:Ext w w'):MpS w' b n ks:=h.same (hx.block b h.lt)
theorem MpS.made(w:World):MpS (w.alloc (.map #[] 0)) w.heap.size 0 []:=
 ⟨.map [],World.ownsMap_made w _ _ _,⟨[],rfl⟩,fun k=>by simp;rfl⟩
theorem MpS.not{w}{b n:Nat}{ks:List (List UInt8)}(h:MpS w b n ks){t:TypeId}{cs:Array Value}:¬Blk w b t cs:=fun e=>by
 obtain⟨D,⟨es,qa,h1,_⟩,_⟩:=h;unfold Blk at e;rw[h1]at e;injection e with e;cases e
section
variable {ops:Array Oper} {rest:List Oper} {o:Oper} {a:Act} {Q:Exit->Act->World->Prop} {w:World} {b n:Nat} {ks:List (List UInt8)}
theorem MpS.look(h:MpS w b n ks)(key:ByteArray)(hs:key.size<=maxLen):(Instr.lookup 81 (.map (some b)) (.string key) false).run prog w=.ok (.bool (decide (key.data.toList∈ks))) w:=by
 obtain⟨D,h1,_,h3⟩:=h;have qa:prog.underlying 4=some .bool:=qK;have qe:prog.underlying 9=some .string:=qK;have qf:prog.underlying 81=some (.map 9 4):=qK;obtain⟨v,ps,qg,hv⟩:=h1.lookup (Maps.string_keyed qe) qf (jzlg w) (plainElem_bool qa false) (WideMaps.keyOf_string_mk qe hs);rw[h3]at hv;unfold plainElem at hv;rw[qa]at hv;cases v <;> simp at hv;rw[qg];rename_i x;obtain⟨hv,_⟩:=hv;by_cases hm:key.data.toList∈ks <;> simp_all
theorem jzlh(hg:o.guard=none)(m x v:Operand)(hop:o.op=Op.mapUpdate 81 m x v)(b n:Nat)(ks:List (List UInt8))(hm:a.eval m=.map (some b))(h:MpS w b n ks)(hn:n<maxLen)(key:ByteArray)(hx:a.eval x=.string key)(hs:key.size<=maxLen)(hv:a.eval v=.bool true)
  (hK:∀w',MpS w' b (n+1) (key.data.toList::ks)->w.grownBy w' (some b)->wpList prog ops Q rest (a.put o.dst undef) w'):wpList prog ops Q (o::rest) a w:=by
 obtain⟨D,h1,h2,h3⟩:=h;have qe:prog.underlying 4=some .bool:=qK;have qa:prog.underlying 9=some .string:=qK;refine wpList_mapUpdate_own w hg m x v 81 hop 9 4 (Maps.string_keyed qa) qK (plainElem prog 4) b n D hm h1 hn (.string key) (.bool true) (.string key.data.toList) hx hv (WideMaps.keyOf_string_mk qa hs) (.lit (.bool true)) [] (plainElem_bool qe true) ?_;intro w' k1 k2;refine hK w' ⟨_,k1,?_,fun k=>?_⟩ k2;{obtain⟨es,rfl⟩:=h2;exact⟨_,DataW.put_eq es _ _⟩};by_cases e:k=key.data.toList;{subst e;rw[Maps.atKey_put_same h2 (by simp[WideAt.IsKeyLit])];simp};rw[Maps.atKey_put_other (fun e2=>e (by injection e2)),h3];simp[e]
theorem jzli{K:Act->World->Prop}(m x:Operand)(hop:o.op=Op.lookup 81 m x false)(b n:Nat)(ks:List (List UInt8))(hm:a.eval m=.map (some b))(h:MpS w b n ks)(key:ByteArray)(hx:a.eval x=.string key)(hs:key.size<=maxLen)
  (hK:K (a.put o.dst (.bool (decide (key.data.toList∈ks)))) w):o.wp prog a w K Q:=by
 have qa:=h.look key hs;unfold Oper.wp;simp[execOp,hop,hm,hx,qa,Result.andThen];exact hK
theorem jzlj{K:Act->World->Prop}(m x v:Operand)(hop:o.op=Op.mapUpdate 81 m x v)(b n:Nat)(ks:List (List UInt8))(hm:a.eval m=.map (some b))(h:MpS w b n ks)(hn:n<maxLen)(key:ByteArray)(hx:a.eval x=.string key)(hs:key.size<=maxLen)(hv:a.eval v=.bool true)
  (hK:∀w',MpS w' b (n+1) (key.data.toList::ks)->w.grownBy w' (some b)->K (a.put o.dst undef) w'):o.wp prog a w K Q:=by
 obtain⟨D,h1,h2,h3⟩:=h;have qe:prog.underlying 4=some .bool:=qK;have qa:prog.underlying 9=some .string:=qK;obtain⟨w',qf,k1,k2⟩:=h1.update (t:=81) (e:=4) (Maps.string_keyed qa) qK hn (key:=.string key) (val:=.bool true) (kl:=.string key.data.toList) (d:=.lit (.bool true)) (ps:=[]) (WideMaps.keyOf_string_mk qa hs) (plainElem_bool qe true);unfold Oper.wp;simp[execOp,hop,hm,hx,hv,qf,Result.andThen];refine hK w' ⟨_,k1,?_,fun k=>?_⟩ k2;{obtain⟨es,rfl⟩:=h2;exact⟨_,DataW.put_eq es _ _⟩};by_cases e:k=key.data.toList;{subst e;rw[Maps.atKey_put_same h2 (by simp[WideAt.IsKeyLit])];simp};rw[Maps.atKey_put_other (fun e2=>e (by injection e2)),h3];simp[e]
end
theorem MpS.congr{w}{b n m:Nat}{ks js:List (List UInt8)}(h:MpS w b n ks)(hn:n<=m)(hk:∀k,k∈ks↔k∈js):MpS w b m js:=by
 obtain⟨D,h1,h2,h3⟩:=h;exact⟨D,h1.mono hn,h2,fun k=>by rw[h3];simp[hk]⟩
end Go.Proofs.YtfeeacaofjpkaaaGreatDoor
namespace Go.Proofs.YtfeeacaofjpkaaaGreatDoor
open Go.Proofs.Tryz
open Go.RowKit
def fE(l:List Int):List Value:=l.map fun a=>Value.int .i64 a
theorem Rd.iint{w}{A}{l:List Int}(h:Rd w A (fE l)){k:Nat}{x:Int}(hx:l[k]?=some x):∃b o:Nat,A=some (aD b o)/\b<w.heap.size/\w.cell? (aD b (o+k))=some (vI x):=by
 have hk:=(yH.1 hx).1;obtain⟨b,o,e,hb,hc⟩:=h.at_ (i:=k) (by unfold fE;simpa using hk);refine⟨b,o,e,hb,?_⟩;rw[hc k (by unfold fE;simpa using hk)];unfold fE;rw[yW,hx];rfl
end Go.Proofs.YtfeeacaofjpkaaaGreatDoor
namespace Go.Proofs.YtfeeacaofjpkaaaGreatDoor
open Go.Proofs.Tryz
namespace Sx
open Go.Lib
def rM(l:List UInt8):Nat:=l.foldl (fun n c=>10*n+(c.toNat-48)) 0
theorem rN{n:Nat}(h:n<256):(UInt8.ofNat n).toNat=n:=by
 rw[UInt8.toNat_ofNat'];omega
theorem rO(u:Nat):rM (decDigits u)=u:=by
 (induction u using Nat.strongRecOn with|_ u ih=>by_cases h:u<10;{rw[decDigits,dif_pos h];show 10*0+((UInt8.ofNat (48+u)).toNat-48)=u;rw[rN qO];omega};have h1:=ih (u/10) qO;rw[decDigits,dif_neg h];unfold rM at h1⊢;rw[kZt,h1];show 10*(u/10)+((UInt8.ofNat (48+u%10)).toNat-48)=u;rw[rN qO];omega)
theorem tW(u:Nat):∀c∈decDigits u,48<=c.toNat:=by
 (induction u using Nat.strongRecOn with|_ u ih=>intro c hc;rw[decDigits]at hc;by_cases h:u<10;{rw[dif_pos h]at hc;rw[xD.1 hc,rN qO];omega};(rw[dif_neg h]at hc;rcases xY.1 hc with h1|h1);{exact ih (u/10) qO c h1};rw[xD.1 h1,rN qO];omega)
theorem rP(n:Int):∀c∈itoa n,c≠32:=by
 have qa:∀u,∀c∈decDigits u,c≠32:=fun u c hc e=>(by have:=tW u c hc;rw[e]at this;exact absurd this qD);intro c hc;unfold itoa at hc;split at hc;{(rcases xZ.1 hc with rfl|h);{decide};exact qa _ c h};exact qa _ c hc
theorem jzdi{a b:Int}(h:itoa a=itoa b):a=b:=by
 have no:∀(u v:Nat),(45:UInt8)::decDigits u≠decDigits v:=fun u v e=>(by have:=tW v 45 (by rw[<-e];simp);exact absurd this qD);unfold itoa at h;by_cases ha:a<0;{rw[qE ha]at h;by_cases hb:b<0;{rw[qE hb]at h;have h1:=congrArg rM (List.cons.inj h).2;rw[rO,rO]at h1;omega};rw[qF hb]at h;exact absurd h (no _ _)};rw[qF ha]at h;by_cases hb:b<0;{rw[qE hb]at h;exact absurd h.symm (no _ _)};rw[qF hb]at h;have h1:=congrArg rM h;rw[rO,rO]at h1;omega
def fX(l:List Int):List UInt8:=l.flatMap fun a=>32::itoa a
def nameL(d:Int)(l:List Int):List UInt8:=itoa d++fX l
theorem wL:∀{x y:List UInt8} {u v:List UInt8},(∀c∈x,c≠32)->(∀c∈y,c≠32)->(u=[]\/∃u',u=32::u')->(v=[]\/∃v',v=32::v')->x++u=y++v->x=y/\u=v
 | [],[],u,v,_,_,_,_,h=>⟨rfl,h⟩
 | [],b::y,u,v,_,hy,hu,_,h=>by
   have h:u=b::(y++v):=h;rcases hu with e|⟨u',e⟩
   ·rw[e]at h;cases h
   ·rw[e]at h
    exact absurd (List.cons.inj h).1.symm (hy b qS)
 |a::x,[],u,v,hx,_,_,hv,h=>by
  have h:a::(x++u)=v:=h;rcases hv with e|⟨v',e⟩
  ·rw[e]at h;cases h
  ·rw[e]at h
   exact absurd (List.cons.inj h).1 (hx a qS)
 |a::x,b::y,u,v,hx,hy,hu,hv,h=>by
  have h:a::(x++u)=b::(y++v):=h;obtain⟨h1,h2⟩:=List.cons.inj h;obtain⟨h3,h4⟩:=wL (fun c hc=>hx c (by simp[hc])) (fun c hc=>hy c (by simp[hc])) hu hv h2;exact⟨by rw[h1,h3],h4⟩
theorem rQ(l:List Int):fX l=[]\/∃u,fX l=32::u:=by
 (cases l with|nil=>exact .inl rfl|cons a l=>exact .inr ⟨_,rfl⟩)
theorem jzdj:∀{l k:List Int},fX l=fX k->l=k
 | [],[],_=>rfl
 | [],_::_,h=>by cases h
 |_::_,[],h=>by cases h
 |a::l,b::k,h=>by
  have h:(32:UInt8)::(itoa a++fX l)=32::(itoa b++fX k):=h;obtain⟨h1,h2⟩:=wL (rP a) (rP b) (rQ l) (rQ k) (List.cons.inj h).2;rw[jzdi h1,jzdj h2]
theorem jzlk{d e:Int}{l k:List Int}(h:nameL d l=nameL e k):d=e/\l=k:=by
 obtain⟨h1,h2⟩:=wL (rP d) (rP e) (rQ l) (rQ k) h;exact⟨jzdi h1,jzdj h2⟩
end Sx
end Go.Proofs.YtfeeacaofjpkaaaGreatDoor
namespace Go.Proofs.YtfeeacaofjpkaaaGreatDoor
open Go.Proofs.Tryz
open Go.RowKit Go.Lib Sx
theorem jzll(B b:Nat)(bs:List Value)(c:Int)w(h:Lib.IsBuilder 180 5 B b bs w)(hlen:bs.length+1<=140737488355328)(hBw:B<=w.heap.size):
  Calls prog 112 #[.pointer (sA b),.int .u8 c] w fun e w'=>e=.returned .nilIface/\(Lib.BuilderAt 180 5 B b (.pointer (sA b)) (bs++[.int .u8 c]) w'/\Below B w w'):=by
 go_enter func112,ntmps112;go_wp2_with fail;refine(jzaw B b bs _ h).mono ?_;rintro e w1 ⟨rfl,h1,qj⟩;obtain⟨hB,v,qg,qe,qn⟩:=h1;have c0:w1.cell? (aD b 0)=some (.pointer (sA b)):=(by rw[Lib.cell_of_heap qg];rfl);have c1:w1.cell? (aD b 1)=some v:=(by rw[Lib.cell_of_heap qg];rfl);have qk:b<w1.heap.size:=(by (rcases kQd b w1.heap.size with h'|h');{exact h'};simp[kQn h']at qg);have qm:B<=w1.heap.size:=yY hBw qj.size;(go_wp2_with (at_builtin;refine lC _ 178 5 _ 1 1 rfl _ _ rfl underlying178 jzav rfl qD B v bs.length bs rfl (qe.kept (cF ((eR w1).alloc (.cells #[.int .u8 c] 5))) (cG _)) [.int .u8 c] rfl (by simp[Value.oneCell']) w1.heap.size rfl (eN w1 5 #[.int .u8 c]) (by unfold maxLen;omega) qO (by simp;omega) ?_));intro g9 c9 w2 qf qa _;have qo:(w1.alloc (.cells #[.int .u8 c] 5)).heap[b]?=some (.cells #[.pointer (sA b),v] 180 (0,0)):=(Lib.alloc_old w1 _ b qk).trans qg;have qi:b<(w1.alloc (.cells #[.int .u8 c] 5)).heap.size:=(by simp;omega);have qh:w2.heap[b]?=some (.cells #[.pointer (sA b),v] 180 (0,0)):=(by rw[qa.block b qi (fun e=>qn e.symm)];exact qo);have d0:w2.cell? (aD b 0)=some (.pointer (sA b)):=(by rw[Lib.cell_of_heap qh];rfl);have d1:w2.cell? (aD b 1)=some v:=(by rw[Lib.cell_of_heap qh];rfl);have f1:w2.frozen? (aD b 1)=false:=Lib.frozen_of_heap qh 1;go_wp2;go_ret;refine⟨rfl,?_,?_⟩;{exact Lib.BuilderAt.put (T:=180) (e:=5) hB qh (bs':=bs++[.int .u8 c]) (by simpa using qf) qD};exact((qj.alloc qm _).grown qa (by simp;omega) (fun k hk=>(qe.lt k hk).1)).setCell (p:=(aD b 1)) hB _
theorem jzdk(r:Int)w(ht:Tab w)(hr:i64 r):
  Calls prog 111 #[vI r] w fun e w'=>e=.returned (.string ⟨(Lib.itoa r).toArray⟩)/\Ext w w':=by
 unfold i64 at hr;refine(Tryz.strconv_Itoa r qO qO w ht).mono ?_;rintro e w' ⟨rfl,k,os,rfl⟩;exact⟨rfl,jzax _ _ _⟩
theorem jzlm(r:Nat)(h:r<10000000000000000000):(Lib.decDigits r).length<=19:=by
 rw[Lib.decDigits_length];have h1:=Dig.fixD_pad 18 r (by simp;omega);have h2:∀k r,(Dig.fixD k r).length=k:=fun k=>(by (induction k with|zero=>intro r;rfl|succ k ih=>intro r;rw[Dig.fixD,yQ,ih];rfl));have h3:=congrArg List.length h1;rw[h2,yQ,xC,Lib.decDigits_length]at h3;omega
theorem rR(r:Int)(hr:i64 r):(Lib.itoa r).length<=20:=by
 unfold i64 at hr;unfold Lib.itoa;have h1:∀n:Nat,n<=9223372036854775808->(Lib.decDigits n).length<=19:=fun n hn=>(by exact jzlm n qO);split;{rw[kQo];have:=h1 r.natAbs qO;omega};have:=h1 r.toNat qO;omega
theorem wM(d:Int)(l:List Int)(hd:i64 d)(hl:∀a∈l,i64 a):(nameL d l).length<=20+21*l.length:=by
 have qa:∀l:List Int,(∀a∈l,i64 a)->(fX l).length<=21*l.length:=fun l=>(by (induction l with|nil=>intro _;exact yX _|cons a l ih=>intro h;have h1:=ih fun b hb=>h b (xO _ hb);have h2:=rR a (h a qS);have e:fX (a::l)=(32::Lib.itoa a)++fX l:=(by unfold fX;rw[xU]);rw[e,yQ,kQo,kQo];omega));unfold nameL;rw[yQ];have h1:=qa l hl;have h2:=rR d hd;omega
theorem jzln(d:Int)(l:List Int)(a:Int):nameL d (l++[a])=nameL d l++[32]++Lib.itoa a:=by
 unfold nameL fX;rw[List.flatMap_append];simp
theorem jzdl(d:Int)(l:List Int)A(n c:Nat)(hn:l.length=n)(neg:Bool)A1(n1 c1:Nat)A2(n2 c2:Nat)w(ht:Tab w)(hr:Rd w A (fE l))(hll:n<=1000000)(hd:i64 d)(hi:∀a∈l,i64 a):
  Calls prog 50 #[.agg #[vI d,.s A n c,.bool neg,.s A1 n1 c1,.s A2 n2 c2]] w fun e w'=>e=.returned (.string ⟨(nameL d l).toArray⟩)/\Ext w w':=by
 have HT:=Hx ht;have HR:=Hx hr;have HI:=Hx (kQa hd hi);clear ht hr hd hi;obtain⟨qf,e0⟩:=bA w #[vI d,.s A n c,.bool neg,.s A1 n1 c1,.s A2 n2 c2] 98;have i0:=qf.cell 0;have i1:=qf.cell 1;have E0:=Hx (kQa qf e0);have qm:(w.alloc (.cells #[vI d,.s A n c,.bool neg,.s A1 n1 c1,.s A2 n2 c2] 98)).heap.size=w.heap.size+1:=qS;have BD:Hid (Lib.IsBuilder 180 5 (w.alloc (.cells #[vI d,.s A n c,.bool neg,.s A1 n1 c1,.s A2 n2 c2] 98)).heap.size (w.alloc (.cells #[vI d,.s A n c,.bool neg,.s A1 n1 c1,.s A2 n2 c2] 98)).heap.size [] ((w.alloc (.cells #[vI d,.s A n c,.bool neg,.s A1 n1 c1,.s A2 n2 c2] 98)).alloc (.cells #[.pointer none,zN] 180))):=Hx (Lib.fresh_isBuilder _ _ _);have X0:=Hx ((eR (w.alloc (.cells #[vI d,.s A n c,.bool neg,.s A1 n1 c1,.s A2 n2 c2] 98))).alloc (.cells #[.pointer none,zN] 180));clear qf e0;go_enter func50,ntmps50;(go_upto_region 2 with fail);rw[<-qm];generalize w.alloc (.cells #[vI d,.s A n c,.bool neg,.s A1 n1 c1,.s A2 n2 c2] 98)=W0 at*;have qh:w.heap.size<W0.heap.size:=E0.o.1.lt;clear qm;have i0:=aH i0 (.cells #[.pointer none,zN] 180);go_wp2_with fail;refine(jzdk d _ ((HT.o.K E0.o.2).K X0.o) HI.o.1).mono ?_;rintro e w1 ⟨rfl,qe⟩;have B1:Hid (Lib.IsBuilder 180 5 W0.heap.size W0.heap.size [] w1):=Hx (by (rcases BD.o with⟨h1,v,h2,h3,h4⟩|⟨h1,v,h2,h3,h4⟩);{exact .inl ⟨h1,v,(qe.block _ qS).trans h2,h3.kept (cF qe) (cG _),h4⟩};exact .inr ⟨h1,v,(qe.block _ qS).trans h2,h3.kept (cF qe) (cG _),h4⟩);(have X1:=Hx (X0.o.tr qe);clear qe BD X0;have qg:=rR d HI.o.1;have e9:(⟨(Lib.itoa d).toArray⟩:ByteArray).size=(Lib.itoa d).length:=by show(Lib.itoa d).toArray.size=_;simp);go_wp2_with fail;refine(tM W0.heap.size W0.heap.size [] ⟨(Lib.itoa d).toArray⟩ _ B1.o (by rw[e9];simp;omega) X1.o.size).mono ?_;rintro e w2 ⟨rfl,qp,qj⟩;have B2:Hid (Lib.IsBuilder 180 5 W0.heap.size W0.heap.size (Lib.byteCells (nameL d (l.take 0))) w2):=Hx (.inr (by have e:nameL d (l.take 0)=Lib.itoa d:=(by unfold nameL fX;simp);rw[e];exact qp));have L2:Hid (Below W0.heap.size W0 w2):=Hx (Below.trans X1.o qj);clear qp qj B1 X1 qg e9;have i1:=(L2.o.cell (p:=(aD w.heap.size 1)) qh).trans i1;go_wp2;go_loopg [13] n (fun q it wx=>∃m:Nat,n-m=q/\m<=n/\it=vI (m:Int)/\Hid (Lib.IsBuilder 180 5 W0.heap.size W0.heap.size (Lib.byteCells (nameL d (l.take m))) wx/\Below W0.heap.size W0 wx));exact⟨0,rfl,yZ _,rfl,Hx ⟨B2.o,L2.o⟩⟩;obtain⟨m,rfl,hm,rfl,I⟩:=hrel;clear B2 L2 i0 i1;by_cases qx:m<n;{obtain⟨a,ha⟩:∃a,l[m]?=some a:=⟨_,yG qO⟩;have HA:Hid (i64 a):=Hx (HI.o.2 a (yJ ha));have NX:=Hx (show nameL d (l.take (m+1))=nameL d (l.take m)++[32]++Lib.itoa a by rw[kQr,ha];exact jzln d _ a);obtain⟨b,o,rfl,hb,ca⟩:=((HR.o.K E0.o.2).K I.o.2).iint ha;have qk:Hid ((nameL d (l.take m)).length<=20+21*n):=Hx (yY (wM d _ HI.o.1 fun a h=>HI.o.2 a (xM h)) (by rw[xF];omega));have nN:(m:Int)<(n:Int):=qO;have n0:(0:Int)<=(m:Int):=qO;clear ha;go_wp2_with fail;refine(jzll W0.heap.size W0.heap.size _ 32 _ I.o.1 (by rw[Lib.byteCells_length];have:=qk.o;omega) I.o.2.size).mono ?_;rintro e w3 ⟨rfl,qw,qi⟩;have B3:Hid (Lib.IsBuilder 180 5 W0.heap.size W0.heap.size (Lib.byteCells (nameL d (l.take m)++[32])) w3):=Hx (.inr (by rw[Lib.byteCells_append];exact qw));have L3:=Hx (I.o.2.trans qi);clear qw qi ca;go_wp2_with fail;refine(jzdk a _ ((HT.o.K E0.o.2).K L3.o) HA.o).mono ?_;rintro e w4 ⟨rfl,qa⟩;have B4:Hid (Lib.IsBuilder 180 5 W0.heap.size W0.heap.size (Lib.byteCells (nameL d (l.take m)++[32])) w4):=Hx (by (rcases B3.o with h|h);{have hl:=h.lt;obtain⟨h1,v,h2,h3,h4⟩:=h;exact .inl ⟨h1,v,(qa.block _ hl).trans h2,h3.kept (cF qa) (cG _),h4⟩};have hl:=h.lt;obtain⟨h1,v,h2,h3,h4⟩:=h;exact .inr ⟨h1,v,(qa.block _ hl).trans h2,h3.kept (cF qa) (cG _),h4⟩);(have L4:Hid (Below W0.heap.size W0 w4):=Hx (Ext.tr (show Ext W0 w3 from L3.o) qa);clear qa B3 L3;have qg:=rR a HA.o;have e9:(⟨(Lib.itoa a).toArray⟩:ByteArray).size=(Lib.itoa a).length:=by show(Lib.itoa a).toArray.size=_;simp);go_wp2_with fail;refine(tM W0.heap.size W0.heap.size _ ⟨(Lib.itoa a).toArray⟩ _ B4.o (by rw[Lib.byteCells_length,yQ,e9];have:=qk.o;simp;omega) L4.o.size).mono ?_;rintro e w5 ⟨rfl,qn,qo⟩;have B5:Hid (Lib.IsBuilder 180 5 W0.heap.size W0.heap.size (Lib.byteCells (nameL d (l.take (m+1)))) w5):=Hx (.inr (by rw[NX.o,Lib.byteCells_append];exact qn));have L5:=Hx (L4.o.trans qo);clear qn qo qg e9;go_wp2;go_roundg (n-(m+1));exact⟨m+1,rfl,qO,by go_num,Hx ⟨B5.o,L5.o⟩⟩;omega};obtain rfl:m=n:=qO;rw[yU qO]at I;go_wp2_with fail;refine(Tryz.Builder_String_any W0.heap.size W0.heap.size _ _ I.o.1 I.o.2.size).mono ?_;rintro e w9 ⟨rfl,qt⟩;have HE:Hid (Ext w w9):=Hx (E0.o.2.tr (I.o.2.trans qt));clear qt;go_wp2;go_ret;exact⟨rfl,HE.o⟩
def dM(p:Nat×LN):List UInt8:=nameL (p.1:Int) (p.2.map fun a:Nat=>(a:Int))
theorem jzdm{p q:Nat×LN}(h:dM p=dM q):p=q:=by
 obtain⟨h1,h2⟩:=jzlk h;have e1:p.1=q.1:=qO;have e2:p.2=q.2:=(by have:=congrArg (List.map Int.toNat) h2;simpa [List.map_map,Function.comp_def]using this);exact Prod.ext e1 e2
theorem jzdn(p:Nat×LN)(P:List (Nat×LN)):dM p∈P.map dM↔p∈P:=by
 constructor;{intro h;obtain⟨q,hq,e⟩:=kQl.1 h;rw[<-jzdm e];exact hq};exact fun h=>kQl.2 ⟨p,h,rfl⟩
end Go.Proofs.YtfeeacaofjpkaaaGreatDoor
