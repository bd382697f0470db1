/- Part 10 of 25 of what the Flows claims share (the white space is struck, the texts are joined). -/
import Derived.Test.YtojpooidhilnfaaGreatDoorI01
set_option linter.unusedVariables false
set_option linter.unusedSimpArgs false
set_option maxRecDepth 100000
set_option maxHeartbeats 8000000
namespace Go.Proofs.YtojpooidhilnfaaGreatDoor
namespace Sx
def sm:Nat->(Nat->Rat)->Rat
 |0,_=>0
 |n+1,f=>sm n f+f n
theorem sm_congr:∀(n:Nat) {f g:Nat->Rat},(∀k,k<n->f k=g k)->sm n f=sm n g
 |0,_,_,_=>rfl
 |n+1,f,g,h=>by
  show sm n f+f n=sm n g+g n;rw[sm_congr n (fun k hk=>h k (by omega)),h n (by omega)]
theorem sm_zero:∀(n:Nat) {f:Nat->Rat},(∀k,k<n->f k=0)->sm n f=0
 |0,_,_=>rfl
 |n+1,f,h=>by
  show sm n f+f n=0;rw[sm_zero n (fun k hk=>h k (by omega)),h n (by omega)];grind
theorem sm_add:∀(n:Nat) (f g:Nat->Rat),sm n (fun k=>f k+g k)=sm n f+sm n g
 |0,_,_=>by show(0:Rat)=0+0;grind
 |n+1,f,g=>by
  show sm n (fun k=>f k+g k)+(f n+g n)=(sm n f+f n)+(sm n g+g n);rw[sm_add n f g];grind
theorem eC:∀(n:Nat) (c:Rat) (f:Nat->Rat),sm n (fun k=>c*f k)=c*sm n f
 |0,c,_=>by show(0:Rat)=c*0;grind
 |n+1,c,f=>by
  show sm n (fun k=>c*f k)+c*f n=c*(sm n f+f n);rw[eC n c f];grind
theorem tT(n:Nat)(c:Rat)(f:Nat->Rat):sm n (fun k=>f k*c)=sm n f*c:=by
 rw[Rat.mul_comm, <-eC];exact sm_congr n fun k _=>Rat.mul_comm _ _
theorem jzbk(n:Nat)(f g:Nat->Rat):sm n (fun k=>f k-g k)=sm n f-sm n g:=by
 have h:=sm_add n (fun k=>f k-g k) g;have h2:sm n (fun k=>f k-g k+g k)=sm n f:=sm_congr n fun k _=>(by grind);rw[h2]at h;grind
theorem sm_one:∀(n:Nat) {f:Nat->Rat} {l:Nat},l<n->(∀k,k<n->k≠l->f k=0)->sm n f=f l
 |n+1,f,l,hl,h=>by
  show sm n f+f n=f l;by_cases e:l=n
  ·subst e
   rw[sm_zero l (fun k hk=>h k (by omega) (by omega))];grind
  ·rw[sm_one n (by omega) (fun k hk hkl=>h k (by omega) hkl),h n (by omega) (fun e2=>e e2.symm)];grind
theorem mB(n:Nat):∀(m:Nat) (f:Nat->Nat->Rat),sm n (fun k=>sm m (fun l=>f k l))=sm m (fun l=>sm n (fun k=>f k l))
 |0,f=>sm_zero n fun k _=>rfl
 |m+1,f=>by
  show sm n (fun k=>sm m (fun l=>f k l)+f k m)=sm m (fun l=>sm n (fun k=>f k l))+sm n (fun k=>f k m);rw[sm_add,mB n m f]
theorem kH:∀(n:Nat) {f:Nat->Rat},(∀k,k<n->0<=f k)->0<=sm n f
 |0,_,_=>vC
 |n+1,f,h=>by
  show 0<=sm n f+f n;have h1:=kH n (fun k hk=>h k (by omega));have h2:=h n (by omega);grind
theorem sm_le:∀(n:Nat) {f g:Nat->Rat},(∀k,k<n->f k<=g k)->sm n f<=sm n g
 |0,_,_,_=>vC
 |n+1,f,g,h=>by
  show sm n f+f n<=sm n g+g n;have h1:=sm_le n (fun k hk=>h k (by omega));have h2:=h n (by omega);grind
theorem jzbl:∀(n:Nat) {f:Nat->Rat},0<sm n f->∃k,k<n/\0<f k
 |0,f,h=>absurd h (by show¬(0:Rat)<0;exact kZf)
 |n+1,f,h=>by
  have h:0<sm n f+f n:=h;by_cases h1:0<f n
  ·exact⟨n,by omega,h1⟩
  ·obtain⟨k,hk,h2⟩:=jzbl n (f:=f) (by grind)
   exact⟨k,by omega,h2⟩
def piv(M:Nat->Nat->Rat)(i e:Nat):Nat->Nat->Rat:=fun k v=>if k=i then M i v/M i e else M k v-M k e*(M i v/M i e)
def fB(bas:Nat->Nat)(i e:Nat):Nat->Nat:=fun k=>if k=i then e else bas k
structure gB(m nv:Nat)(M:Nat->Nat->Rat)(bas:Nat->Nat):Prop where
 unit:∀l,l<m->∀k,k<=m->M k (bas l)=if k=l then 1 else 0
 lt:∀l,l<m->bas l<nv
theorem gB.inj{m nv:Nat}{M:Nat->Nat->Rat}{bas:Nat->Nat}(h:gB m nv M bas){k l:Nat}(hk:k<m)(hl:l<m)(e:bas k=bas l):k=l:=by
 by_cases h1:k=l;{exact h1};have h2:=h.unit k hk k (by omega);have h3:=h.unit l hl k (by omega);rw[e]at h2;rw[h2,if_pos rfl,if_neg h1]at h3;exact absurd h3 (by decide)
theorem fC(M:Nat->Nat->Rat)(i e v:Nat):piv M i e i v=M i v/M i e:=by unfold piv;rw[if_pos rfl]
theorem dM(M:Nat->Nat->Rat){i k:Nat}(e v:Nat)(h:k≠i):piv M i e k v=M k v-M k e*(M i v/M i e):=by unfold piv;rw[if_neg h]
theorem nI(bas:Nat->Nat)(i e:Nat):fB bas i e i=e:=by unfold fB;rw[if_pos rfl]
theorem mC(bas:Nat->Nat){i k:Nat}(e:Nat)(h:k≠i):fB bas i e k=bas k:=by unfold fB;rw[if_neg h]
theorem gB.pivot{m nv:Nat}{M:Nat->Nat->Rat}{bas:Nat->Nat}(h:gB m nv M bas){i e:Nat}(hi:i<m)(he:e<nv)(hp:M i e≠0):gB m nv (piv M i e) (fB bas i e):=by
 refine⟨fun l hl k hk=>?_,fun l hl=>?_⟩;{by_cases qa:l=i;{subst qa;rw[nI];by_cases qe:k=l;{subst qe;rw[fC,if_pos rfl];grind};rw[dM M e e qe,if_neg qe];grind};rw[mC bas e qa];have h0:=h.unit l hl i (by omega);rw[if_neg (fun e=>qa e.symm)]at h0;by_cases qe:k=i;{subst qe;rw[fC,h0,if_neg (fun e=>qa e.symm)];grind};rw[dM M e _ qe,h0,h.unit l hl k hk];grind};by_cases qa:l=i;{rw[qa,nI];exact he};rw[mC bas e qa];exact h.lt l hl
def Sp(m:Nat)(M M':Nat->Nat->Rat):Prop:=∃(A:Nat->Nat->Rat) (L:Nat->Rat),(∀k,k<m->∀v,M' k v=sm m fun l=>A k l*M l v)/\∀v,M' m v=M m v+sm m fun l=>L l*M l v
theorem Sp.refl(m:Nat)(M:Nat->Nat->Rat):Sp m M M:=⟨fun k l=>if k=l then 1 else 0,fun _=>0,fun k hk v=>by
 rw[sm_one m hk (fun l hl hlk=>by dsimp only;rw[if_neg (fun e=>hlk e.symm)];grind)];dsimp only;rw[if_pos rfl];grind,fun v=>by
 rw[sm_zero m (fun l _=>by grind)];grind⟩
theorem Sp.trans{m:Nat}{M M' M2:Nat->Nat->Rat}(h:Sp m M M')(h2:Sp m M' M2):Sp m M M2:=by
 obtain⟨A,L,h3,h4⟩:=h;obtain⟨A',L',h5,h6⟩:=h2;have qa:∀(C:Nat->Rat) (v:Nat),sm m (fun l=>C l*M' l v)=sm m fun j=>(sm m fun l=>C l*A l j)*M j v:=fun C v=>(by have e1:sm m (fun l=>C l*M' l v)=sm m fun l=>sm m fun j=>C l*A l j*M j v:=sm_congr m fun l hl=>(by rw[h3 l hl v, <-eC];exact sm_congr m fun j _=>by grind);rw[e1,mB];exact sm_congr m fun j _=>by rw[<-tT]);refine⟨fun k j=>sm m fun l=>A' k l*A l j,fun j=>L j+sm m fun l=>L' l*A l j,fun k hk v=>?_,fun v=>?_⟩;{rw[h5 k hk v,qa]};rw[h6 v,h4 v,qa,Rat.add_assoc, <-sm_add];congr 1;exact sm_congr m fun j _=>by grind
theorem Sp.fwd{m:Nat}(M:Nat->Nat->Rat){i:Nat}(e:Nat)(hi:i<m):Sp m M (piv M i e):=by
 refine⟨fun k l=>if k=i then(if l=i then 1/M i e else 0)else(if l=k then 1 else if l=i then-M k e/M i e else 0),fun l=>if l=i then-M m e/M i e else 0,fun k hk v=>?_,fun v=>?_⟩;{by_cases qa:k=i;{subst qa;rw[fC,sm_one m hi (fun l _ hl=>by dsimp only;rw[if_pos rfl,if_neg hl];grind)];dsimp only;rw[if_pos rfl,if_pos rfl];grind};rw[dM M e v qa];have e1:sm m (fun l=>(if k=i then(if l=i then 1/M i e else 0)else(if l=k then 1 else if l=i then-M k e/M i e else 0))*M l v)=sm m (fun l=>(if l=k then M k v else 0)+(if l=i then(-M k e/M i e)*M i v else 0)):=sm_congr m fun l _=>(by rw[if_neg qa];by_cases h1:l=k;{subst h1;rw[if_pos rfl,if_pos rfl,if_neg qa];grind};rw[if_neg h1,if_neg h1];by_cases h2:l=i;{subst h2;rw[if_pos rfl,if_pos rfl];grind};rw[if_neg h2,if_neg h2];grind);rw[e1,sm_add,sm_one m hk (fun l _ hl=>by rw[if_neg hl]),sm_one m hi (fun l _ hl=>by rw[if_neg hl]),if_pos rfl,if_pos rfl];grind};rw[dM M e v (by omega),sm_one m hi (fun l _ hl=>by dsimp only;rw[if_neg hl];grind)];dsimp only;rw[if_pos rfl];grind
theorem Sp.bwd{m:Nat}(M:Nat->Nat->Rat){i:Nat}(e:Nat)(hi:i<m)(hp:M i e≠0):Sp m (piv M i e) M:=by
 refine⟨fun k l=>if k=i then(if l=i then M i e else 0)else(if l=k then 1 else if l=i then M k e else 0),fun l=>if l=i then M m e else 0,fun k hk v=>?_,fun v=>?_⟩;{by_cases qa:k=i;{subst qa;rw[sm_one m hi (fun l _ hl=>by dsimp only;rw[if_pos rfl,if_neg hl];grind)];dsimp only;rw[if_pos rfl,if_pos rfl,fC];grind};have e1:sm m (fun l=>(if k=i then(if l=i then M i e else 0)else(if l=k then 1 else if l=i then M k e else 0))*piv M i e l v)=sm m (fun l=>(if l=k then piv M i e k v else 0)+(if l=i then M k e*piv M i e i v else 0)):=sm_congr m fun l _=>(by rw[if_neg qa];by_cases h1:l=k;{subst h1;rw[if_pos rfl,if_pos rfl,if_neg qa];grind};rw[if_neg h1,if_neg h1];by_cases h2:l=i;{subst h2;rw[if_pos rfl,if_pos rfl];grind};rw[if_neg h2,if_neg h2];grind);rw[e1,sm_add,sm_one m hk (fun l _ hl=>by rw[if_neg hl]),sm_one m hi (fun l _ hl=>by rw[if_neg hl]),if_pos rfl,if_pos rfl,dM M e v qa,fC];grind};rw[sm_one m hi (fun l _ hl=>by dsimp only;rw[if_neg hl];grind)];dsimp only;rw[if_pos rfl,dM M e v (by omega),fC];grind
theorem Sp.goal{m nv:Nat}{M M':Nat->Nat->Rat}{bas:Nat->Nat}(h:Sp m M M')(hd:gB m nv M bas)(v:Nat):M' m v=M m v+sm m fun l=>M' m (bas l)*M l v:=by
 obtain⟨A,L,_,h4⟩:=h;rw[h4 v];congr 1;refine sm_congr m fun l hl=>?_;have h5:=h4 (bas l);rw[hd.unit l hl m (by omega),if_neg (by omega),sm_one m hl (fun j hj hjl=>by rw[hd.unit l hl j (by omega),if_neg hjl];grind),hd.unit l hl l (by omega),if_pos rfl]at h5;rw[h5];grind
structure Bl(m nv:Nat)(M:Nat->Nat->Rat)(bas:Nat->Nat)(i e:Nat):Prop where
 hi:i<m
 he:e<nv
 neg:M m e<0
 first:∀v,v<e->0<=M m v
 pos:0<M i e
 least:∀k,k<m->0<M k e->M i nv/M i e<=M k nv/M k e
 tie:∀k,k<m->0<M k e->M i nv/M i e=M k nv/M k e->bas i<=bas k
theorem jzbm{a b:Rat}(h:0<=a)(h2:0<b):0<=a/b:=by
 rw[Rat.div_def];exact vA h (vB (Rat.inv_pos.2 h2))
theorem jzj9{a b c:Rat}(h:0<c)(h2:a<=b/c):a*c<=b:=by
 have:=kQ5 h2 (vB h);have e:b/c*c=b:=(by grind);rw[e]at this;exact this
theorem Bl.feas{m nv:Nat}{M:Nat->Nat->Rat}{bas:Nat->Nat}{i e:Nat}(h:Bl m nv M bas i e)(hf:∀k,k<m->0<=M k nv):∀k,k<m->0<=piv M i e k nv:=fun k hk=>by
 have h0:=jzbm (hf i h.hi) h.pos;by_cases qa:k=i;{subst qa;rw[fC];exact h0};rw[dM M e nv qa];by_cases hp:0<M k e;{have h1:=jzj9 hp (h.least k hk hp);grind};have h1:=hf k hk;have h2:M k e*(M i nv/M i e)<=0:=(by have:=kQ5 (kQ4.1 hp) h0;grind);grind
theorem Bl.goal{m nv:Nat}{M:Nat->Nat->Rat}{bas:Nat->Nat}{i e:Nat}(h:Bl m nv M bas i e)(hf:∀k,k<m->0<=M k nv):M m nv<=piv M i e m nv/\(piv M i e m nv=M m nv->M i nv=0):=by
 have h0:=jzbm (hf i h.hi) h.pos;have qa:m≠i:=(by have:=h.hi;omega);rw[dM M e nv qa];refine⟨?_,fun e2=>?_⟩;{have:=kQ5 (vB h.neg) h0;grind};have h3:M m e*(M i nv/M i e)=0:=(by grind);have h4:=h.neg;have h5:=h.pos;have h6:M i nv/M i e=0:=(by (rcases Rat.mul_eq_zero.1 h3 with h7|h7);{grind};exact h7);grind
theorem tU:∀(n:Nat) (f:Nat->Nat),(∀k,k<n+1->f k<n)->∃a b,a<b/\b<n+1/\f a=f b
 |0,f,h=>absurd (h 0 (by omega)) (by omega)
 |n+1,f,h=>by
  by_cases h1:∃a,a<n+1/\f a=f (n+1)
  ·obtain⟨a,ha,e⟩:=h1
   exact⟨a,n+1,ha,by omega,e⟩
  ·have qa:∀k,k<n+1->f k≠f (n+1):=fun k hk e=>h1 ⟨k,hk,e⟩
   obtain⟨a,b,qe,hb,e⟩:=tU n (fun k=>if f k=n then f (n+1)else f k) (fun k hk=>by
    have h2:=h k (by omega);have h3:=h (n+1) (by omega);have h4:=qa k hk
    split <;> omega)
   refine⟨a,b,qe,by omega,?_⟩;have h5:=qa a (by omega);have h6:=qa b hb;by_cases ea:f a=n
   ·by_cases eb:f b=n
    ·rw[ea,eb]
    ·rw[if_pos ea,if_neg eb]at e;exact absurd e.symm h6
   ·by_cases eb:f b=n
    ·rw[if_neg ea,if_pos eb]at e;exact absurd e h5
    ·rw[if_neg ea,if_neg eb]at e;exact e
def gU(p:Nat->Bool):Nat->Nat
 |0=>0
 |n+1=>2*gU p n+if p n then 1 else 0
theorem jzbn(p:Nat->Bool):∀n,gU p n<2^n
 |0=>by show 0<1;omega
 |n+1=>by
  have h:=jzbn p n;show 2*gU p n+(if p n then 1 else 0)<2^(n+1);rw[vD]
  split <;> omega
theorem jzbo{p q:Nat->Bool}:∀{n:Nat},gU p n=gU q n->∀k,k<n->p k=q k
 |n+1,h,k,hk=>by
  have h:2*gU p n+(if p n then 1 else 0)=2*gU q n+(if q n then 1 else 0):=h;have e1:p n=q n:=by
   cases h1:p n <;> cases h2:q n
   ·rfl
   ·rw[h1,h2]at h;simp at h;omega
   ·rw[h1,h2]at h;simp at h;omega
   rfl
  have e2:gU p n=gU q n:=(by rw[e1]at h;omega);by_cases qa:k=n
  ·rw[qa];exact e1
  exact jzbo e2 k (by omega)
theorem tV{p:Nat->Prop}{a:Nat}:∀{b:Nat},a<=b->¬p a->p b->∃n,a<=n/\n<b/\¬p n/\p (n+1)
 |b,hab,ha,hb=>by
  induction b with
  |zero=>obtain rfl:a=0:=by omega
         exact absurd hb ha
  |succ b ih=>
   by_cases h:p b
   ·by_cases qa:a<=b
    ·obtain⟨n,h1,h2,h3⟩:=ih qa h
     exact⟨n,h1,by omega,h3⟩
    ·obtain rfl:a=b+1:=by omega
     exact absurd hb ha
   ·by_cases qa:a<=b
    ·exact⟨b,qa,by omega,h,hb⟩
    ·obtain rfl:a=b+1:=by omega
     exact absurd hb ha
theorem jzbp{p:Nat->Prop}{a b:Nat}(hab:a<=b)(ha:p a)(hb:¬p b):∃n,a<=n/\n<b/\p n/\¬p (n+1):=by
 obtain⟨n,h1,h2,h3,h4⟩:=tV (p:=fun n=> ¬p n) hab (fun h=>h ha) hb;exact⟨n,h1,h2,Classical.not_not.1 h3,h4⟩
theorem jzka(f:Nat->Nat)(a:Nat):∀b,a<b->∃c,a<=c/\c<b/\∀n,a<=n->n<b->f n<=f c
 |b,hab=>by
  induction b with
  |zero=>omega
  |succ b ih=>
   by_cases h:a<b
   ·obtain⟨c,h1,h2,h3⟩:=ih h
    by_cases h4:f b<=f c
    ·exact⟨c,h1,by omega,fun n h5 h6=>by
     by_cases e:n=b
     ·rw[e];exact h4
     ·exact h3 n h5 (by omega)⟩
    ·exact⟨b,by omega,by omega,fun n h5 h6=>by
     by_cases e:n=b
     ·rw[e];exact yX _
     ·have:=h3 n h5 (by omega);omega⟩
   ·obtain rfl:a=b:=by omega
    exact⟨a,yX _,by omega,fun n h5 h6=>by
     obtain rfl:n=a:=(by omega);exact yX _⟩
structure Run(m nv N:Nat)(M:Nat->Nat->Nat->Rat)(bas:Nat->Nat->Nat)(i e:Nat->Nat):Prop where
 dict:gB m nv (M 0) (bas 0)
 feas:∀k,k<m->0<=M 0 k nv
 bl:∀n,n<N->Bl m nv (M n) (bas n) (i n) (e n)
 nextM:∀n,n<N->M (n+1)=piv (M n) (i n) (e n)
 nextB:∀n,n<N->bas (n+1)=fB (bas n) (i n) (e n)
section
variable {m nv N:Nat} {M:Nat->Nat->Nat->Rat} {bas:Nat->Nat->Nat} {i e:Nat->Nat}
theorem Run.d(h:Run m nv N M bas i e):∀n,n<=N->gB m nv (M n) (bas n)/\∀k,k<m->0<=M n k nv
 |0,_=>⟨h.dict,h.feas⟩
 |n+1,hn=>by
  obtain⟨h1,h2⟩:=h.d n (by omega);have h3:=h.bl n (by omega);rw[h.nextM n (by omega),h.nextB n (by omega)];exact⟨h1.pivot h3.hi h3.he (fun e=>by have:=h3.pos;rw[e]at this;exact absurd this (by decide)),h3.feas h2⟩
theorem Run.sp(h:Run m nv N M bas i e){a b:Nat}(hab:a<=b)(hb:b<=N):Sp m (M a) (M b)/\Sp m (M b) (M a):=by
 induction b with
 |zero=>obtain rfl:a=0:=by omega
        exact⟨Sp.refl _ _,Sp.refl _ _⟩
 |succ b ih=>
  by_cases e2:a=b+1
  ·subst e2;exact⟨Sp.refl _ _,Sp.refl _ _⟩
  obtain⟨h1,h2⟩:=ih (by omega) (by omega);have h3:=h.bl b (by omega);rw[h.nextM b (by omega)];exact⟨h1.trans (Sp.fwd _ _ h3.hi),(Sp.bwd _ _ h3.hi (fun e=>by have:=h3.pos;rw[e]at this;exact absurd this (by decide))).trans h2⟩
theorem Run.sp2(h:Run m nv N M bas i e){a b:Nat}(ha:a<=N)(hb:b<=N):Sp m (M a) (M b):=by
 rcases Nat.le_total a b with h1|h1
 ·exact(h.sp h1 hb).1
 exact(h.sp h1 ha).2
theorem Run.mono(h:Run m nv N M bas i e){a b:Nat}(hab:a<=b)(hb:b<=N):M a m nv<=M b m nv:=by
 induction b with
 |zero=>obtain rfl:a=0:=by omega
        exact vC
 |succ b ih=>
  by_cases e2:a=b+1
  ·subst e2;exact vC
  have h1:=ih (by omega) (by omega);have h3:=((h.bl b (by omega)).goal (h.d b (by omega)).2).1;rw[<-h.nextM b (by omega)]at h3;exact kQs h1 h3
def inB(m:Nat)(bas:Nat->Nat)(v:Nat):Prop:=∃l,l<m/\bas l=v
theorem gB.ent{m nv:Nat}{M:Nat->Nat->Rat}{bas:Nat->Nat}(h:gB m nv M bas){v:Nat}(hv:M m v≠0):¬inB m bas v:=fun⟨l,hl,e⟩=>by
 have:=h.unit l hl m (yX _);rw[e,if_neg (by omega)]at this;exact hv this
theorem Run.ent(h:Run m nv N M bas i e){n:Nat}(hn:n<N):¬inB m (bas n) (e n)/\inB m (bas (n+1)) (e n):=by
 have h1:=h.bl n hn;refine⟨(h.d n (by omega)).1.ent (fun e2=>by have:=h1.neg;rw[e2]at this;exact absurd this (by decide)),i n,h1.hi,?_⟩;rw[h.nextB n hn,nI]
theorem Run.came(h:Run m nv N M bas i e){n v:Nat}(hn:n<N)(h1:¬inB m (bas n) v)(h2:inB m (bas (n+1)) v):e n=v:=by
 obtain⟨l,hl,h3⟩:=h2;rw[h.nextB n hn]at h3;by_cases e2:l=i n;{rw[e2,nI]at h3;exact h3};rw[mC _ _ e2]at h3;exact absurd ⟨l,hl,h3⟩ h1
theorem Run.went(h:Run m nv N M bas i e){n v:Nat}(hn:n<N)(h1:inB m (bas n) v)(h2:¬inB m (bas (n+1)) v):bas n (i n)=v:=by
 obtain⟨l,hl,h3⟩:=h1;by_cases e2:l=i n;{rw[<-e2];exact h3};refine absurd ⟨l,hl,?_⟩ h2;rw[h.nextB n hn,mC _ _ e2];exact h3
theorem Run.still(h:Run m nv N M bas i e){n v:Nat}(hn:n<N)(hz:M n (i n) nv=0)(x:Rat)(hx:x≠0):(∃l,l<m/\bas n l=v/\M n l nv=x)↔∃l,l<m/\bas (n+1) l=v/\M (n+1) l nv=x:=by
 have hr:∀l,l≠i n->bas (n+1) l=bas n l/\M (n+1) l nv=M n l nv:=fun l hl=>(by rw[h.nextB n hn,h.nextM n hn,mC _ _ hl,dM _ _ _ hl,hz];exact⟨rfl,by grind⟩);have qe:M (n+1) (i n) nv=0:=(by rw[h.nextM n hn,fC,hz];grind);constructor;{rintro ⟨l,hl,h1,h2⟩;have qa:l≠i n:=fun e2=>(by rw[e2,hz]at h2;exact hx h2.symm);obtain⟨h3,h4⟩:=hr l qa;exact⟨l,hl,by rw[h3];exact h1,by rw[h4];exact h2⟩};rintro ⟨l,hl,h1,h2⟩;have qa:l≠i n:=fun e2=>(by rw[e2,qe]at h2;exact hx h2.symm);obtain⟨h3,h4⟩:=hr l qa;exact⟨l,hl,by rw[<-h3];exact h1,by rw[<-h4];exact h2⟩
theorem Run.stay(h:Run m nv N M bas i e){a b v:Nat}(hab:a<=b)(hb:b<=N)(hz:∀n,a<=n->n<b->M n (i n) nv=0)(x:Rat)(hx:x≠0):(∃l,l<m/\bas a l=v/\M a l nv=x)↔∃l,l<m/\bas b l=v/\M b l nv=x:=by
 induction b with
 |zero=>obtain rfl:a=0:=by omega
        exact Iff.rfl
 |succ b ih=>
  by_cases e2:a=b+1
  ·subst e2;exact Iff.rfl
  exact(ih (by omega) (by omega) (fun n h1 h2=>hz n h1 (by omega))).trans (h.still (by omega) (hz b (by omega) (by omega)) x hx)
theorem Run.twice(h:Run m nv N M bas i e){a b:Nat}(hab:a<b)(hb:b<=N)(hs:∀v,inB m (bas a) v↔inB m (bas b) v):False:=by
 have qz:M b m nv=M a m nv:=(by have h1:=(h.sp2 (a:=a) (b:=b) (by omega) hb).goal (h.d a (by omega)).1 nv;rw[sm_zero m (fun l hl=>by obtain⟨k,hk,qt⟩:=(hs (bas a l)).1 ⟨l,hl,rfl⟩;have:=(h.d b hb).1.unit k hk m (yX _);rw[qt,if_neg (by omega)]at this;rw[this];grind)]at h1;grind);have hz:∀n,a<=n->n<b->M n (i n) nv=0:=fun n h1 h2=>(by refine((h.bl n (by omega)).goal (h.d n (by omega)).2).2 ?_;rw[<-h.nextM n (by omega)];have h3:=h.mono h1 (by omega);have h4:=h.mono (a:=n) (b:=n+1) (by omega) (by omega);have h5:=h.mono (a:=n+1) (b:=b) (by omega) hb;grind);have qy:∀c c' v (x:Rat),a<=c->c<=b->a<=c'->c'<=b->x≠0->(∃l,l<m/\bas c l=v/\M c l nv=x)->∃l,l<m/\bas c' l=v/\M c' l nv=x:=fun c c' v x h1 h2 h3 h4 hx hp=>(by (rcases Nat.le_total c c' with h5|h5);{exact(h.stay h5 (by omega) (fun n h6 h7=>hz n (by omega) (by omega)) x hx).1 hp};exact(h.stay h5 (by omega) (fun n h6 h7=>hz n (by omega) (by omega)) x hx).2 hp);obtain⟨c',qo,qF,qg⟩:=jzka e a b hab;obtain⟨qB,qA⟩:=h.ent (n:=c') (by omega);obtain⟨c,qh,qk,qj⟩:∃c,a<=c/\c<b/\bas c (i c)=e c':=(by by_cases hA:inB m (bas a) (e c');{obtain⟨n,h1,h2,h3,h4⟩:=jzbp (p:=fun n=>inB m (bas n) (e c')) qo hA qB;exact⟨n,h1,by omega,h.went (by omega) h3 h4⟩};obtain⟨n,h1,h2,h3,h4⟩:=jzbp (p:=fun n=>inB m (bas n) (e c')) (a:=c'+1) (b:=b) (by omega) qA (fun h5=>hA ((hs _).2 h5));exact⟨n,by omega,h2,h.went (by omega) h3 h4⟩);have qe:=h.bl c (by omega);have qa:=h.bl c' (by omega);have hD:=(h.d c (by omega)).1;have qE:=(h.d c' (by omega)).1;have qx:e c<e c':=(by have h1:=qg c qh qk;have h2:e c≠e c':=fun e2=>(h.ent (n:=c) (by omega)).1 ⟨i c,qe.hi,by rw[qj,e2]⟩;omega);have hg:=(h.sp2 (a:=c) (b:=c') (by omega) (by omega)).goal hD (e c);have h1:=qa.first _ qx;have h2:=qe.neg;obtain⟨l,hl,qf⟩:=jzbl m (f:=fun l=>M c' m (bas c l)*M c l (e c)) (by grind);have qC:M c' m (bas c l)≠0:=fun e2=>(by rw[e2]at qf;grind);have qn:=qE.ent qC;have qw:inB m (bas c) (bas c l):=⟨l,hl,rfl⟩;have qG:bas c l<=e c':=(by have qi:∃n,a<=n/\n<b/\e n=bas c l:=(by by_cases hA:inB m (bas a) (bas c l);{obtain⟨n,h3,h4,h5,h6⟩:=tV (p:=fun n=>inB m (bas n) (bas c l)) (a:=c') (b:=b) (by omega) qn ((hs _).1 hA);exact⟨n,by omega,h4,h.came (by omega) h5 h6⟩};obtain⟨n,h3,h4,h5,h6⟩:=tV (p:=fun n=>inB m (bas n) (bas c l)) qh hA qw;exact⟨n,h3,by omega,h.came (by omega) h5 h6⟩);obtain⟨n,h3,h4,h5⟩:=qi;rw[<-h5];exact qg n h3 h4);by_cases qm:bas c l=e c';{have qD:l=i c:=hD.inj hl qe.hi (by rw[qm,qj]);rw[qm,qD]at qf;have h3:=qa.neg;have h4:=kQ5 (vB h3) (vB qe.pos);grind};have h3:=qa.first _ (show bas c l<e c' by omega);have h4:0<M c l (e c):=(by refine Rat.not_le.1 fun h5=>?_;have h6:=yT h5 h3;grind);have h0:M c l nv=0:=(by refine Classical.byContradiction fun hx=>?_;obtain⟨k,hk,qp,_⟩:=qy c c' (bas c l) _ qh (by omega) qo (by omega) hx ⟨l,hl,rfl,rfl⟩;exact qn ⟨k,hk,qp⟩);have h5:=qe.tie l hl h4 (by rw[h0,hz c qh qk];grind);rw[qj]at h5;omega
open Classical in
theorem Run.short(h:Run m nv N M bas i e):N<2^nv:=by
 refine Nat.lt_of_not_le fun hN=>?_;obtain⟨a,b,qa,hb,hc⟩:=tU (2^nv) (fun n=>gU (fun v=>decide (inB m (bas n) v)) nv) (fun n _=>jzbn _ nv);refine h.twice qa (by omega) fun v=>?_;by_cases hv:v<nv;{have:=jzbo hc v hv;simpa using this};exact⟨fun⟨l,hl,e2⟩=>absurd ((h.d a (by omega)).1.lt l hl) (by omega),fun⟨l,hl,e2⟩=>absurd ((h.d b (by omega)).1.lt l hl) (by omega)⟩
end
end Sx
namespace Sx
def sg(j:Nat):Rat:=if j%2=0 then 1 else-1
theorem jzkb(j:Nat):sg (j+1)= -sg j:=by
 unfold sg;by_cases h:j%2=0;{rw[if_pos h,if_neg (by omega)]};rw[if_neg h,if_pos (by omega)];rfl
def sk(j l:Nat):Nat:=if l<j then l else l+1
def mn(a:Nat->Nat->Rat)(j:Nat):Nat->Nat->Rat:=fun i l=>a (i+1) (sk j l)
def dt:Nat->(Nat->Nat->Rat)->Rat
 |0,_=>1
 |m+1,a=>sm (m+1) fun j=>sg j*a 0 j*dt m (mn a j)
theorem gC(m:Nat)(a:Nat->Nat->Rat):dt (m+1) a=sm (m+1) fun j=>sg j*a 0 j*dt m (mn a j):=rfl
theorem kI:∀(m:Nat) {a b:Nat->Nat->Rat},(∀i,i<m->∀j,j<m->a i j=b i j)->dt m a=dt m b
 |0,_,_,_=>rfl
 |m+1,a,b,h=>by
  rw[gC,gC];refine sm_congr _ fun j hj=>?_;have e:dt m (mn a j)=dt m (mn b j):=kI m fun i hi l hl=>h (i+1) (by omega) (sk j l) (by unfold sk;split <;> omega);rw[h 0 (by omega) j hj,e]
def rc(a:Nat->Nat->Rat)(k:Nat)(u:Nat->Rat):Nat->Nat->Rat:=fun i j=>if j=k then u i else a i j
theorem nJ(a:Nat->Nat->Rat)(k:Nat)(u:Nat->Rat):mn (rc a k u) k=mn a k:=by
 funext i l;unfold mn rc sk;rw[if_neg (by split <;> omega)]
def us(j k:Nat):Nat:=if k<j then k else k-1
theorem nL(a:Nat->Nat->Rat){j k:Nat}(u:Nat->Rat)(h:j≠k):mn (rc a k u) j=rc (mn a j) (us j k) (fun i=>u (i+1)):=by
 funext i l;(unfold mn rc sk us;have:((if l<j then l else l+1)=k)↔(l=if k<j then k else k-1):=(by split <;> split <;> omega);by_cases h2:l=if k<j then k else k-1);{rw[if_pos (this.2 h2),if_pos h2]};rw[if_neg (fun h3=>h2 (this.1 h3)),if_neg h2]
theorem gV(a:Nat->Nat->Rat)(k:Nat)(u:Nat->Rat)(i:Nat):rc a k u i k=u i:=by unfold rc;rw[if_pos rfl]
theorem gD(a:Nat->Nat->Rat){j k:Nat}(u:Nat->Rat)(i:Nat)(h:j≠k):rc a k u i j=a i j:=by unfold rc;rw[if_neg h]
theorem pS:∀(m:Nat) (a:Nat->Nat->Rat) (k:Nat) (u v:Nat->Rat),k<m->dt m (rc a k (fun i=>u i+v i))=dt m (rc a k u)+dt m (rc a k v)
 |0,_,_,_,_,h=>absurd h (by omega)
 |m+1,a,k,u,v,hk=>by
  rw[gC,gC,gC, <-sm_add];refine sm_congr _ fun j hj=>?_;by_cases h:j=k
  ·subst h
   rw[gV,gV,gV,nJ,nJ,nJ];grind
  ·rw[gD _ _ _ h,gD _ _ _ h,gD _ _ _ h,nL _ _ h,nL _ _ h,nL _ _ h,pS m _ _ _ _ (by unfold us;split <;> omega)];grind
theorem tW:∀(m:Nat) (a:Nat->Nat->Rat) (k:Nat) (c:Rat) (u:Nat->Rat),k<m->dt m (rc a k (fun i=>c*u i))=c*dt m (rc a k u)
 |0,_,_,_,_,h=>absurd h (by omega)
 |m+1,a,k,c,u,hk=>by
  rw[gC,gC, <-eC];refine sm_congr _ fun j hj=>?_;by_cases h:j=k
  ·subst h
   rw[gV,gV,nJ,nJ];grind
  ·rw[gD _ _ _ h,gD _ _ _ h,nL _ _ h,nL _ _ h,tW m _ _ _ _ (by unfold us;split <;> omega)];grind
theorem jzbq(m:Nat)(a:Nat->Nat->Rat)(k:Nat)(hk:k<m)(c:Nat->Rat)(u:Nat->Nat->Rat):∀n,dt m (rc a k (fun i=>sm n fun l=>c l*u l i))=sm n fun l=>c l*dt m (rc a k (u l))
 |0=>by
  have h:=tW m a k 0 (fun _=>0) hk;have e:(fun i:Nat=>sm 0 fun l=>c l*u l i)=fun i=>(0:Rat)*(fun _:Nat=>(0:Rat)) i:=by
   funext i
   show(0:Rat)=0*0;grind
  rw[e,h];show 0*_=(0:Rat);grind
 |n+1=>by
  have h:=pS m a k (fun i=>sm n fun l=>c l*u l i) (fun i=>c n*u n i) hk;refine Eq.trans h ?_;rw[jzbq m a k hk c u n,tW m a k _ _ hk];rfl
theorem jzkc(n:Nat){f:Nat->Rat}{k l:Nat}(hk:k<n)(hl:l<n)(hkl:k≠l)(h:∀j,j<n->j≠k->j≠l->f j=0):sm n f=f k+f l:=by
 have e:sm n f=sm n fun j=>(if j=k then f k else 0)+(if j=l then f l else 0):=sm_congr n fun j hj=>(by by_cases h1:j=k;{subst h1;rw[if_pos rfl,if_neg hkl];grind};by_cases h2:j=l;{subst h2;rw[if_neg h1,if_pos rfl];grind};rw[if_neg h1,if_neg h2,h j hj h1 h2];grind);rw[e,sm_add,sm_one n hk (fun j _ hj=>by rw[if_neg hj]),sm_one n hl (fun j _ hj=>by rw[if_neg hj]),if_pos rfl,if_pos rfl]
theorem pT:∀(m:Nat) (a:Nat->Nat->Rat) (k:Nat),k+1<m->(∀i,i<m->a i k=a i (k+1))->dt m a=0
 |0,_,_,h,_=>absurd h (by omega)
 |m+1,a,k,hk,h=>by
  rw[gC,jzkc (m+1) (k:=k) (l:=k+1) (by omega) hk (by omega) (fun j hj h1 h2=>by
   have:dt m (mn a j)=0:=by
    by_cases h3:k<j
    ·exact pT m _ k (by omega) (fun i hi=>by
     unfold mn sk;rw[if_pos h3,if_pos (by omega)];exact h (i+1) (by omega))
    obtain⟨k',rfl⟩:∃k',k=k'+1:=⟨k-1,by omega⟩;exact pT m _ k' (by omega) (fun i hi=>by
     unfold mn sk;rw[if_neg (by omega),if_neg (by omega)];exact h (i+1) (by omega))
   rw[this];grind)]
  have e:dt m (mn a k)=dt m (mn a (k+1)):=kI m fun i hi l hl=>by
   unfold mn sk;by_cases h1:l<k
   ·rw[if_pos h1,if_pos (by omega)]
   by_cases h2:l=k
   ·subst h2
    rw[if_neg (by omega),if_pos (by omega)];exact(h (i+1) (by omega)).symm
   rw[if_neg h1,if_neg (by omega)]
  rw[e, <-h 0 (by omega),jzkb];grind
theorem tX(a:Nat->Nat->Rat){k l:Nat}(u v:Nat->Rat)(h:k≠l):rc (rc a k u) l v=rc (rc a l v) k u:=by
 funext i j;unfold rc;by_cases h1:j=l;{subst h1;rw[if_pos rfl,if_neg (fun e=>h e.symm),if_pos rfl]};rw[if_neg h1,if_neg h1]
theorem jzkd(m:Nat)(a:Nat->Nat->Rat)(k:Nat)(hk:k+1<m)(u v:Nat->Rat):dt m (rc (rc a k u) (k+1) v)= -dt m (rc (rc a k v) (k+1) u):=by
 have h0:∀x:Nat->Rat,dt m (rc (rc a k x) (k+1) x)=0:=fun x=>pT m _ k hk fun i _=>(by rw[gV,gD _ _ _ (by omega),gV]);have h1:=h0 (fun i=>u i+v i);have ha:∀x:Nat->Rat,dt m (rc (rc a k (fun i=>u i+v i)) (k+1) x)=dt m (rc (rc a k u) (k+1) x)+dt m (rc (rc a k v) (k+1) x):=fun x=>(by rw[tX a _ x (by omega),pS m _ k u v (by omega),tX a u x (by omega),tX a v x (by omega)]);rw[pS m _ (k+1) u v hk,ha,ha,h0,h0]at h1;grind
theorem tY(a:Nat->Nat->Rat)(k:Nat):rc a k (fun i=>a i k)=a:=by
 funext i j;unfold rc;by_cases h:j=k;{rw[if_pos h,h]};rw[if_neg h]
theorem tZ:∀(n m:Nat) (a:Nat->Nat->Rat) (k:Nat),k+1+n<m->(∀i,i<m->a i k=a i (k+1+n))->dt m a=0
 |0,m,a,k,hk,h=>pT m a k hk h
 |n+1,m,a,k,hk,h=>by
  have e:a=rc (rc a (k+1+n) (fun i=>a i (k+1+n))) (k+1+n+1) (fun i=>a i (k+1+n+1)):=by
   rw[tY];exact(tY a (k+1+n+1)).symm
  rw[e,jzkd m a (k+1+n) hk,tZ n m _ k (by omega) (fun i hi=>?_)]
  ·grind
  rw[gD _ _ _ (by omega),gD _ _ _ (by omega),gD _ _ _ (by omega),gV];exact h i hi
theorem jzke(m:Nat)(a:Nat->Nat->Rat){k l:Nat}(hk:k<m)(hl:l<m)(hkl:k≠l)(h:∀i,i<m->a i k=a i l):dt m a=0:=by
 (rcases Nat.lt_or_gt_of_ne hkl with h1|h1);{obtain⟨n,rfl⟩:∃n,l=k+1+n:=⟨l-k-1,by omega⟩;exact tZ n m a k hl h};obtain⟨n,rfl⟩:∃n,k=l+1+n:=⟨k-l-1,by omega⟩;exact tZ n m a l hk fun i hi=>(h i hi).symm
theorem jzkf(m:Nat)(a:Nat->Nat->Rat)(k:Nat)(hk:k<m)(c:Nat->Rat)(u:Nat->Rat)(h:∀i,i<m->u i=sm m fun l=>c l*a i l):dt m (rc a k u)=c k*dt m a:=by
 have e:dt m (rc a k u)=dt m (rc a k (fun i=>sm m fun l=>c l*(fun l i=>a i l) l i)):=kI m fun i hi j hj=>(by unfold rc;by_cases h1:j=k;{rw[if_pos h1,if_pos h1];exact h i hi};rw[if_neg h1,if_neg h1]);rw[e,jzbq m a k hk,sm_one m hk (fun l hl hlk=>by rw[jzke m _ hk hl (fun e=>hlk e.symm) (fun i hi=>by rw[gV,gD _ _ _ hlk])];grind),tY]
theorem jzbr:∀m,dt m (fun i j=>if i=j then 1 else 0)=1
 |0=>rfl
 |m+1=>by
  rw[gC,sm_one (m+1) (l:=0) (by omega) (fun j _ hj=>by rw[if_neg (fun e=>hj e.symm)];grind)];have e:dt m (mn (fun i j=>if i=j then 1 else 0) 0)=dt m (fun i j=>if i=j then 1 else 0):=kI m fun i _ j _=>by
   unfold mn sk;rw[if_neg (by omega)]
   dsimp only
   by_cases h:i=j
   ·rw[if_pos h,if_pos (by omega)]
   ·rw[if_neg h,if_neg (by omega)]
  rw[e,jzbr m,if_pos rfl];unfold sg;rw[if_pos rfl];grind
def isI(q:Rat):Prop:=∃z:Int,q=(z:Rat)
theorem isI.add{a b:Rat}:isI a->isI b->isI (a+b):=fun⟨x,h⟩ ⟨y,h2⟩=>⟨x+y,by rw[h,h2,Rat.intCast_add]⟩
theorem isI.mul{a b:Rat}:isI a->isI b->isI (a*b):=fun⟨x,h⟩ ⟨y,h2⟩=>⟨x*y,by rw[h,h2,kZu]⟩
theorem isI.neg{a:Rat}:isI a->isI (-a):=fun⟨x,h⟩=>⟨-x,by rw[h,Rat.intCast_neg]⟩
theorem isI.zero:isI 0:=⟨0,rfl⟩
theorem isI.one:isI 1:=⟨1,rfl⟩
theorem isI.sm:∀(n:Nat) {f:Nat->Rat},(∀k,k<n->isI (f k))->isI (sm n f)
 |0,_,_=>isI.zero
 |n+1,_,h=>(isI.sm n fun k hk=>h k (by omega)).add (h n (by omega))
theorem jzbs:∀(m:Nat) {a:Nat->Nat->Rat},(∀i,i<m->∀j,j<m->isI (a i j))->isI (dt m a)
 |0,_,_=>isI.one
 |m+1,a,h=>by
  rw[gC];refine isI.sm _ fun j hj=>((?_:isI (sg j)).mul (h 0 (by omega) j hj)).mul (jzbs m fun i hi l hl=>h (i+1) (by omega) _ (by unfold sk;split <;> omega));unfold sg
  split
  ·exact isI.one
  ·exact isI.one.neg
def ab(q:Rat):Rat:=if q<0 then-q else q
theorem nO(q:Rat):0<=ab q:=by unfold ab;split <;> grind
theorem jzbt(a b:Rat):ab (a+b)<=ab a+ab b:=by unfold ab;split <;> split <;> split <;> grind
theorem lF(a:Rat):ab (-a)=ab a:=by unfold ab;split <;> split <;> grind
theorem uA(a b:Rat):ab (a*b)=ab a*ab b:=by
 have qa:∀x y:Rat,0<=x->0<=y->ab (x*y)=x*y:=fun x y hx hy=>(by unfold ab;rw[if_neg (kQ4.2 (vA hx hy))]);(have hp:∀x:Rat,0<=x->ab x=x:=fun x hx=>(by unfold ab;rw[if_neg (kQ4.2 hx)]);rcases Rat.le_total (a:=0) (b:=a)with h1|h1 <;> rcases Rat.le_total (a:=0) (b:=b)with h2|h2);{rw[qa a b h1 h2,hp a h1,hp b h2]};{have h3:=qa a (-b) h1 (by grind);rw[<-lF b,hp a h1,hp (-b) (by grind), <-h3, <-lF];congr 1;grind};{have h3:=qa (-a) b (by grind) h2;rw[<-lF a,hp b h2,hp (-a) (by grind), <-h3, <-lF];congr 1;grind};have h3:=qa (-a) (-b) (by grind) (by grind);rw[<-lF a, <-lF b,hp (-a) (by grind),hp (-b) (by grind), <-h3];congr 1;grind
theorem uB:∀(n:Nat) (f:Nat->Rat),ab (sm n f)<=sm n fun k=>ab (f k)
 |0,_=>by show ab 0<=0;decide
 |n+1,f=>by
  show ab (sm n f+f n)<=sm n (fun k=>ab (f k))+ab (f n);have h:=jzbt (sm n f) (f n);have h2:=uB n f;grind
def pr:Nat->(Nat->Rat)->Rat
 |0,_=>1
 |n+1,f=>pr n f*f n
theorem jzbu:∀(n:Nat) {f:Nat->Rat},(∀k,k<n->0<=f k)->0<=pr n f
 |0,_,_=>by show(0:Rat)<=1;decide
 |n+1,_,h=>vA (jzbu n fun k hk=>h k (by omega)) (h n (by omega))
theorem jzbv:∀(n:Nat) {f g:Nat->Rat},(∀k,k<n->f k=g k)->pr n f=pr n g
 |0,_,_,_=>rfl
 |n+1,f,g,h=>by
  show pr n f*f n=pr n g*g n;rw[jzbv n (fun k hk=>h k (by omega)),h n (by omega)]
theorem uC:∀(n:Nat) {f g:Nat->Rat},(∀k,k<n->0<=f k)->(∀k,k<n->f k<=g k)->pr n f<=pr n g
 |0,_,_,_,_=>vC
 |n+1,f,g,h0,h=>by
  show pr n f*f n<=pr n g*g n;have h1:=uC n (fun k hk=>h0 k (by omega)) (fun k hk=>h k (by omega));have h2:=jzbu n (fun k hk=>h0 k (by omega));have h3:=h0 n (by omega);have h4:=h n (by omega);exact kQs (kQ5 h1 h3) (yT h4 (kQs h2 h1))
theorem jzbw(x y:Nat->Rat)(hx:∀k,0<=x k)(hy:∀k,0<=y k):∀m,(sm (m+1) fun j=>x j*pr m fun l=>y (sk j l))<=pr (m+1) fun j=>x j+y j
 |0=>by
  show 0+x 0*1<=1*(x 0+y 0);have:=hy 0;grind
 |m+1=>by
  have ih:=jzbw x y hx hy m;have e1:sm (m+1+1) (fun j=>x j*pr (m+1) fun l=>y (sk j l))=sm (m+1) (fun j=>(x j*pr m fun l=>y (sk j l))*y (m+1))+x (m+1)*pr (m+1) y:=by
   show sm (m+1) _+_=_
   congr 1
   ·refine sm_congr _ fun j hj=>?_
    show x j*(pr m (fun l=>y (sk j l))*y (sk j m))=_;have:sk j m=m+1:=(by unfold sk;rw[if_neg (by omega)]);rw[this];grind
   show x (m+1)*(pr (m+1) fun l=>y (sk (m+1) l))=_
   congr 1
   exact jzbv (m+1) fun l hl=>by unfold sk;rw[if_pos (by omega)]
  rw[e1,tT];show _<=pr (m+1) (fun j=>x j+y j)*(x (m+1)+y (m+1));have h1:=kQ5 ih (hy (m+1));have h2:pr (m+1) y<=pr (m+1) fun j=>x j+y j:=uC _ (fun k _=>hy k) (fun k _=>by have:=hx k;grind);have h3:=yT h2 (hx (m+1));grind
theorem jzkg(n:Nat)(f:Nat->Rat):sm (n+1) f=f 0+sm n fun k=>f (k+1):=by
 (induction n with|zero=>show(0:Rat)+f 0=f 0+0;grind|succ n ih=>show sm (n+1) f+f (n+1)=f 0+(sm n (fun k=>f (k+1))+f (n+1));rw[ih];grind)
theorem jzbx:∀(m:Nat) (a:Nat->Nat->Rat),ab (dt m a)<=pr m fun j=>sm m fun i=>ab (a i j)
 |0,_=>by show ab 1<=1;decide
 |m+1,a=>by
  have h1:=uB (m+1) fun j=>sg j*a 0 j*dt m (mn a j);have h2:sm (m+1) (fun j=>ab (sg j*a 0 j*dt m (mn a j)))<=sm (m+1) (fun j=>ab (a 0 j)*pr m fun l=>sm m fun i=>ab (a (i+1) (sk j l))):=by
   refine sm_le (m+1) fun j hj=>?_;have h3:ab (sg j)=1:=(by unfold sg;split <;> rfl);have h4:ab (sg j*a 0 j*dt m (mn a j))=ab (a 0 j)*ab (dt m (mn a j)):=(by rw[uA,uA,h3,Rat.one_mul]);rw[h4];exact yT (jzbx m (mn a j)) (nO _)
  have h3:=jzbw (fun j=>ab (a 0 j)) (fun c=>sm m fun i=>ab (a (i+1) c)) (fun k=>nO _) (fun k=>kH m fun i _=>nO _) m;have h4:(fun j=>ab (a 0 j)+sm m fun i=>ab (a (i+1) j))=fun j=>sm (m+1) fun i=>ab (a i j):=by
   funext j
   exact(jzkg m fun i=>ab (a i j)).symm
  have h5:pr (m+1) (fun j=>ab (a 0 j)+sm m fun i=>ab (a (i+1) j))=pr (m+1) fun j=>sm (m+1) fun i=>ab (a i j):=(by rw[h4]);rw[gC, <-h5];exact kQs h1 (kQs h2 h3)
def Col(m nv:Nat)(M:Nat->Nat->Rat)(bas:Nat->Nat)(col:Nat->Nat->Rat)(cost:Nat->Rat):Prop:=
 ∀v,v<=nv->(∀i,i<m->col v i=sm m fun l=>M l v*col (bas l) i)/\M m v=(sm m fun l=>M l v*cost (bas l))-cost v
theorem jzby{m:Nat}{M:Nat->Nat->Rat}{bas:Nat->Nat}{i e:Nat}(hi:i<m)(hp:M i e≠0)(v:Nat)(f:Nat->Rat):(sm m fun l=>piv M i e l v*f (fB bas i e l))=(sm m fun l=>M l v*f (bas l))+(M i v/M i e)*(f e-sm m fun l=>M l e*f (bas l)):=by
 (have e1:(sm m fun l=>piv M i e l v*f (fB bas i e l))=sm m fun l=>((M l v*f (bas l))-(M i v/M i e)*(M l e*f (bas l)))+if l=i then(M i v/M i e)*f e else 0:=sm_congr m fun l _=>(by by_cases h:l=i;{subst h;rw[fC,nI,if_pos rfl];grind};rw[dM M e v h,mC bas e h,if_neg h];grind));rw[e1,sm_add,jzbk,eC,sm_one m (f:=fun l=>if l=i then(M i v/M i e)*f e else 0) hi (fun l _ hl=>by rw[if_neg hl]),if_pos rfl];grind
theorem Col.pivot{m nv:Nat}{M:Nat->Nat->Rat}{bas:Nat->Nat}{col:Nat->Nat->Rat}{cost:Nat->Rat}(h:Col m nv M bas col cost){i e:Nat}(hi:i<m)(he:e<nv)(hp:M i e≠0):Col m nv (piv M i e) (fB bas i e) col cost:=fun v hv=>by
 have h1:=h v hv;have h2:=h e (by omega);refine⟨fun j hj=>?_,?_⟩;{rw[jzby hi hp v fun v=>col v j, <-h1.1 j hj, <-h2.1 j hj];grind};{rw[jzby hi hp v cost,dM M e v (by omega),h1.2,h2.2];grind}
def dB(m:Nat)(col:Nat->Nat->Rat)(bas:Nat->Nat):Rat:=dt m fun i l=>col (bas l) i
theorem Col.det{m nv:Nat}{M:Nat->Nat->Rat}{bas:Nat->Nat}{col:Nat->Nat->Rat}{cost:Nat->Rat}(h:Col m nv M bas col cost){k:Nat}(hk:k<m){v:Nat}(hv:v<=nv):dt m (rc (fun i l=>col (bas l) i) k (col v))=M k v*dB m col bas:=
 jzkf m _ k hk (fun l=>M l v) (col v) fun i hi=>(h v hv).1 i hi
theorem Col.det_piv{m nv:Nat}{M:Nat->Nat->Rat}{bas:Nat->Nat}{col:Nat->Nat->Rat}{cost:Nat->Rat}(h:Col m nv M bas col cost){i e:Nat}(hi:i<m)(he:e<nv):dB m col (fB bas i e)=M i e*dB m col bas:=by
 rw[<-h.det hi (show e<=nv by omega)];unfold dB;refine kI m fun k _ l _=>?_;unfold rc fB;by_cases h1:l=i;{rw[if_pos h1,if_pos h1]};rw[if_neg h1,if_neg h1]
def pU(m nv:Nat)(M:Nat->Nat->Rat)(col:Nat->Nat->Rat)(cost:Nat->Rat):Prop:=
 ∀v,v<=nv->(∀k,k<m->M k v=sm m fun i=>M k i*col v i)/\M m v=(sm m fun i=>M m i*col v i)-cost v
theorem pU.pivot{m nv:Nat}{M:Nat->Nat->Rat}{col:Nat->Nat->Rat}{cost:Nat->Rat}(h:pU m nv M col cost){i:Nat}(e:Nat)(hi:i<m):pU m nv (piv M i e) col cost:=fun v hv=>by
 obtain⟨h1,h2⟩:=h v hv;have qf:∀c:Rat,(sm m fun j=>(M i j/M i e)*col v j)=M i v/M i e:=fun _=>(by have e1:(sm m fun j=>(M i j/M i e)*col v j)=sm m fun j=>(1/M i e)*(M i j*col v j):=sm_congr m fun j _=>(by grind);rw[e1,eC, <-h1 i hi];grind);have qa:∀k,k≠i->(sm m fun j=>piv M i e k j*col v j)=(sm m fun j=>M k j*col v j)-M k e*(M i v/M i e):=fun k hk=>(by have e1:(sm m fun j=>piv M i e k j*col v j)=sm m fun j=>M k j*col v j-M k e*((M i j/M i e)*col v j):=sm_congr m fun j _=>(by rw[dM M e j hk];grind);rw[e1,jzbk,eC,qf 0]);refine⟨fun k hk=>?_,?_⟩;{by_cases qe:k=i;{subst qe;rw[fC, <-qf 0];exact sm_congr m fun j _=>by rw[fC]};{rw[qa k qe,dM M e v qe, <-h1 k hk]}};{rw[qa m (by omega),dM M e v (by omega),h2];grind}
end Sx
namespace Sx
structure Rw where
 co:LQ
 re:Rat
structure Tb where
 rows:List Rw
 bas:LN
 fre:LN
 goal:Rw
 cols:Nat
def at_(l:LQ)(k:Nat):Rat:=l[k]?.getD 0
def atN(l:LN)(k:Nat):Nat:=l[k]?.getD 0
def Tb.row(T:Tb)(i:Nat):Rw:=T.rows[i]?.getD ⟨[],0⟩
theorem pV(n:Nat)(f:Nat->Rat){k:Nat}(hk:k<n):at_ ((List.range n).map f) k=f k:=by
 unfold at_;rw[yW,xJ hk];rfl
def subL(x:LQ)(j:Nat)(f:Rat)(y:LQ)(i:Nat):LQ:=(List.range x.length).map fun k=>if k<i then(if k=j then 0 else at_ x k)-f*at_ y k else(if k=j then 0 else at_ x k)
def subR(r:Rw)(j:Nat)(b:Rw):Rw:=if at_ r.co j=0 then r else⟨subL r.co j (at_ r.co j) b.co r.co.length,r.re-at_ r.co j*b.re⟩
def sclL(x:LQ)(j:Nat)(q:Rat)(i:Nat):LQ:=(List.range x.length).map fun k=>if k<i then(if k=j then 1 else at_ x k)*q else(if k=j then 1 else at_ x k)
def sclR(r:Rw)(j:Nat):Rw:=⟨sclL r.co j (1/at_ r.co j) r.co.length,r.re*(1/at_ r.co j)⟩
def pivT(T:Tb)(i j:Nat):Tb:=
 ⟨(List.range T.rows.length).map (fun k=>if k=i then sclR (T.row i) j else subR (T.row k) j (sclR (T.row i) j)),T.bas.set i (atN T.fre j),T.fre.set j (atN T.bas i),subR T.goal j (sclR (T.row i) j),T.cols⟩
theorem subL_len(x:LQ)(j:Nat)(f:Rat)(y:LQ)(i:Nat):(subL x j f y i).length=x.length:=by unfold subL;simp
theorem sclL_len(x:LQ)(j:Nat)(q:Rat)(i:Nat):(sclL x j q i).length=x.length:=by unfold sclL;simp
theorem jzbz(r:Rw)(j:Nat)(b:Rw):(subR r j b).co.length=r.co.length:=by
 unfold subR;split;{rfl};exact subL_len _ _ _ _ _
theorem jzkh(r:Rw)(j:Nat):(sclR r j).co.length=r.co.length:=sclL_len _ _ _ _
theorem jzb0(r:Rw)(j:Nat)(b:Rw){k:Nat}(hk:k<r.co.length):at_ (subR r j b).co k=(if k=j then 0 else at_ r.co k)-at_ r.co j*at_ b.co k:=by
 unfold subR;split;{rename_i h;rw[h];by_cases e:k=j;{subst e;rw[if_pos rfl,h];grind};rw[if_neg e];grind};unfold subL;rw[pV _ _ hk,if_pos hk]
theorem jzb1(r:Rw)(j:Nat)(b:Rw):(subR r j b).re=r.re-at_ r.co j*b.re:=by
 unfold subR;split;{rename_i h;rw[h];grind};rfl
theorem jzki(r:Rw)(j:Nat){k:Nat}(hk:k<r.co.length):at_ (sclR r j).co k=(if k=j then 1 else at_ r.co k)/at_ r.co j:=by
 unfold sclR sclL;simp only[];rw[pV _ _ hk,if_pos hk];grind
theorem jzkj(T:Tb)(i j:Nat):(pivT T i j).rows.length=T.rows.length:=by unfold pivT;simp
theorem jzkk(T:Tb)(i j:Nat){k:Nat}(hk:k<T.rows.length):(pivT T i j).row k=if k=i then sclR (T.row i) j else subR (T.row k) j (sclR (T.row i) j):=by
 unfold pivT;show(((List.range T.rows.length).map _)[k]?).getD _=_;rw[yW,xJ hk];rfl
structure Rep(T:Tb)(m nv:Nat)(M:Nat->Nat->Rat):Prop where
 rl:T.rows.length=m
 bl:T.bas.length=m
 fl:T.fre.length+m=nv
 cl:∀k,k<m->(T.row k).co.length=T.fre.length
 gl:T.goal.co.length=T.fre.length
 fv:∀j,j<T.fre.length->atN T.fre j<nv
 fi:∀j k,j<T.fre.length->k<T.fre.length->atN T.fre j=atN T.fre k->j=k
 fb:∀j l,j<T.fre.length->l<m->atN T.fre j≠atN T.bas l
 co:∀k j,k<m->j<T.fre.length->at_ (T.row k).co j=M k (atN T.fre j)
 go:∀j,j<T.fre.length->at_ T.goal.co j=M m (atN T.fre j)
 re:∀k,k<m->(T.row k).re=M k nv
 gr:T.goal.re=M m nv
 di:gB m nv M (atN T.bas)
theorem gW(l:LN)(i v k:Nat)(hi:i<l.length):atN (l.set i v) k=if k=i then v else atN l k:=by
 unfold atN;by_cases e:k=i;{subst e;rw[if_pos rfl,yM hi];rfl};rw[if_neg e,vN (fun h=>e h.symm)]
theorem Rep.pivot{T:Tb}{m nv:Nat}{M:Nat->Nat->Rat}(h:Rep T m nv M){i j:Nat}(hi:i<m)(hj:j<T.fre.length)(hp:at_ (T.row i).co j≠0):Rep (pivT T i j) m nv (Sx.piv M i (atN T.fre j)):=by
 (have qn:i<T.bas.length:=(by rw[h.bl];exact hi);have e1:(pivT T i j).bas=T.bas.set i (atN T.fre j):=rfl;have e2:(pivT T i j).fre=T.fre.set j (atN T.bas i):=rfl;have e3:(pivT T i j).goal=subR T.goal j (sclR (T.row i) j):=rfl;have qe:(pivT T i j).fre.length=T.fre.length:=(by rw[e2,yV]);have qf:∀k,k<m->(pivT T i j).row k=if k=i then sclR (T.row i) j else subR (T.row k) j (sclR (T.row i) j):=fun k hk=>jzkk T i j (by rw[h.rl];exact hk));(have qj:=h.co i j hi hj;rw[qj]at hp;have qm:∀k,k<=m->M k (atN T.bas i)=if k=i then 1 else 0:=h.di.unit i hi);have qk:M i (atN T.bas i)=1:=(by rw[qm i (by omega),if_pos rfl]);have qg:=h.cl i hi;have qh:∀k,k<T.fre.length->at_ (sclR (T.row i) j).co k=(if k=j then 1 else M i (atN T.fre k))/M i (atN T.fre j):=fun k hk=>(by rw[jzki _ _ (by rw[qg];exact hk),qj,h.co i k hi hk]);have qi:(sclR (T.row i) j).re=M i nv/M i (atN T.fre j):=(by show(T.row i).re*(1/at_ (T.row i).co j)=_;rw[qj,h.re i hi];grind);refine⟨by rw[jzkj];exact h.rl,by rw[e1,yV];exact h.bl,by rw[qe];exact h.fl,fun k hk=>?_,by rw[e3,jzbz,qe];exact h.gl,fun k hk=>?_,fun k l hk hl e=>?_,fun k l hk hl e=>?_,fun k l hk hl=>?_,fun l hl=>?_,fun k hk=>?_,?_,?_⟩;{rw[qf k hk,qe];split;{rw[jzkh];exact qg};rw[jzbz];exact h.cl k hk};{rw[qe]at hk;rw[e2,gW _ _ _ _ hj];split;{exact h.di.lt i hi};exact h.fv k hk};{rw[qe]at hk hl;rw[e2,gW _ _ _ _ hj,gW _ _ _ _ hj]at e;by_cases h1:k=j;{by_cases h2:l=j;{rw[h1,h2]};rw[if_pos h1,if_neg h2]at e;exact absurd e.symm (h.fb l i hl hi)};by_cases h2:l=j;{rw[if_neg h1,if_pos h2]at e;exact absurd e (h.fb k i hk hi)};rw[if_neg h1,if_neg h2]at e;exact h.fi k l hk hl e};{rw[qe]at hk;rw[e1,e2,gW _ _ _ _ hj,gW _ _ _ _ qn]at e;by_cases h1:k=j;{by_cases h2:l=i;{rw[if_pos h1,if_pos h2]at e;exact h.fb j i hj hi e.symm};rw[if_pos h1,if_neg h2]at e;exact h2 (h.di.inj hl hi e.symm)};by_cases h2:l=i;{rw[if_neg h1,if_pos h2]at e;exact h1 (h.fi k j hk hj e)};rw[if_neg h1,if_neg h2]at e;exact h.fb k l hk hl e};{rw[qe]at hl;rw[qf k hk,e2,gW _ _ _ _ hj];by_cases qa:k=i;{subst qa;rw[if_pos rfl,qh l hl,fC];split;{rw[qk]};rfl};rw[if_neg qa,jzb0 _ _ _ (by rw[h.cl k hk];exact hl),qh l hl,h.co k j hk hj,h.co k l hk hl,dM _ _ _ qa];split;{rw[qm k (by omega),if_neg qa,qk]};rfl};{rw[qe]at hl;rw[e3,e2,gW _ _ _ _ hj,jzb0 _ _ _ (by rw[h.gl];exact hl),qh l hl,h.go j hj,h.go l hl,dM _ _ _ (by omega)];split;{rw[qm m (by omega),if_neg (by omega),qk]};rfl};{rw[qf k hk];by_cases qa:k=i;{subst qa;rw[if_pos rfl,qi,fC]};rw[if_neg qa,jzb1,qi,h.co k j hk hj,h.re k hk,dM _ _ _ qa]};{rw[e3,jzb1,qi,h.go j hj,h.gr,dM _ _ _ (by omega)]};have hb:atN (pivT T i j).bas=fB (atN T.bas) i (atN T.fre j):=(by funext l;rw[e1,gW _ _ _ _ qn];rfl);rw[hb];exact h.di.pivot hi (h.fv j hj) hp
def entN(T:Tb):Nat->Option Nat
 |0=>none
 |j+1=>if at_ T.goal.co j<0 then(match entN T j with
  |none=>some j
  |some b=>if atN T.fre j<atN T.fre b then some j else some b)else entN T j
def entT(T:Tb):Option Nat:=entN T T.goal.co.length
theorem entN_some(T:Tb):∀(n:Nat) {b:Nat},entN T n=some b->b<n/\at_ T.goal.co b<0/\∀j,j<n->at_ T.goal.co j<0->atN T.fre b<=atN T.fre j
 |0,_,h=>by cases h
 |n+1,b,h=>by
  have h:(if at_ T.goal.co n<0 then(match entN T n with
   |none=>some n
   |some b=>if atN T.fre n<atN T.fre b then some n else some b)else entN T n)=some b:=h
  by_cases h1:at_ T.goal.co n<0
  ·rw[if_pos h1]at h
   cases h2:entN T n with
   |none=>
    rw[h2]at h;injection h with h
    subst h;refine⟨by omega,h1,fun j hj hn=>?_⟩;by_cases e:j=n
    ·rw[e];exact yX _
    ·exfalso
     have qa:∀k,entN T k=none->∀j,j<k->¬at_ T.goal.co j<0:=fun k=>by
      induction k with
      |zero=>intro _ j hj;omega
      |succ k ih=>
       intro hk j hj;have hk:(if at_ T.goal.co k<0 then(match entN T k with
        |none=>some k
        |some b=>if atN T.fre k<atN T.fre b then some k else some b)else entN T k)=none:=hk
       by_cases h3:at_ T.goal.co k<0
       ·rw[if_pos h3]at hk
        cases h4:entN T k with
        |none=>rw[h4]at hk;cases hk
        |some c=>rw[h4]at hk;simp only[]at hk;split at hk <;> cases hk
       ·rw[if_neg h3]at hk
        by_cases e:j=k
        ·rw[e];exact h3
        ·exact ih hk j (by omega)
     exact qa n h2 j (by omega) hn
   |some c=>
    rw[h2]at h;obtain⟨g1,g2,g3⟩:=entN_some T n h2;simp only[]at h;by_cases h3:atN T.fre n<atN T.fre c
    ·rw[if_pos h3]at h
     injection h with h
     subst h;refine⟨by omega,h1,fun j hj hn=>?_⟩;by_cases e:j=n
     ·rw[e];exact yX _
     ·have:=g3 j (by omega) hn;omega
    ·rw[if_neg h3]at h
     injection h with h
     subst h;refine⟨by omega,g2,fun j hj hn=>?_⟩;by_cases e:j=n
     ·rw[e];omega
     ·exact g3 j (by omega) hn
  ·rw[if_neg h1]at h
   obtain⟨g1,g2,g3⟩:=entN_some T n h;refine⟨by omega,g2,fun j hj hn=>?_⟩;by_cases e:j=n
   ·rw[e]at hn;exact absurd hn h1
   ·exact g3 j (by omega) hn
theorem jzb2(T:Tb):∀(n:Nat),entN T n=none->∀j,j<n->0<=at_ T.goal.co j
 |0,_,j,hj=>by omega
 |n+1,h,j,hj=>by
  have h:(if at_ T.goal.co n<0 then(match entN T n with
   |none=>some n
   |some b=>if atN T.fre n<atN T.fre b then some n else some b)else entN T n)=none:=h
  by_cases h1:at_ T.goal.co n<0
  ·rw[if_pos h1]at h
   cases h4:entN T n with
   |none=>rw[h4]at h;cases h
   |some c=>rw[h4]at h;simp only[]at h;split at h <;> cases h
  ·rw[if_neg h1]at h
   by_cases e:j=n
   ·rw[e];exact kQ4.1 h1
   ·exact jzb2 T n h j (by omega)
def quo(T:Tb)(j k:Nat):Rat:=(T.row k).re/at_ (T.row k).co j
def levN(T:Tb)(j:Nat):Nat->Option Nat
 |0=>none
 |i+1=>if 0<at_ (T.row i).co j then(match levN T j i with
  |none=>some i
  |some b=>if quo T j i<quo T j b\/quo T j i=quo T j b/\atN T.bas i<atN T.bas b then some i else some b)else levN T j i
def levT(T:Tb)(j:Nat):Option Nat:=levN T j T.rows.length
theorem uD(T:Tb)(j:Nat):∀(n:Nat),levN T j n=none->∀k,k<n->at_ (T.row k).co j<=0
 |0,_,k,hk=>by omega
 |n+1,h,k,hk=>by
  have h:(if 0<at_ (T.row n).co j then(match levN T j n with
   |none=>some n
   |some b=>if quo T j n<quo T j b\/quo T j n=quo T j b/\atN T.bas n<atN T.bas b then some n else some b)else levN T j n)=none:=h
  by_cases h1:0<at_ (T.row n).co j
  ·rw[if_pos h1]at h
   cases h4:levN T j n with
   |none=>rw[h4]at h;cases h
   |some c=>rw[h4]at h;simp only[]at h;split at h <;> cases h
  ·rw[if_neg h1]at h
   by_cases e:k=n
   ·rw[e];exact kQ4.1 h1
   ·exact uD T j n h k (by omega)
theorem levN_some(T:Tb)(j:Nat):∀(n:Nat) {b:Nat},levN T j n=some b->b<n/\0<at_ (T.row b).co j/\∀k,k<n->0<at_ (T.row k).co j->quo T j b<=quo T j k/\(quo T j b=quo T j k->atN T.bas b<=atN T.bas k)
 |0,_,h=>by cases h
 |n+1,b,h=>by
  have h:(if 0<at_ (T.row n).co j then(match levN T j n with
   |none=>some n
   |some b=>if quo T j n<quo T j b\/quo T j n=quo T j b/\atN T.bas n<atN T.bas b then some n else some b)else levN T j n)=some b:=h
  by_cases h1:0<at_ (T.row n).co j
  ·rw[if_pos h1]at h
   cases h2:levN T j n with
   |none=>
    rw[h2]at h;injection h with h
    subst h;refine⟨by omega,h1,fun k hk hp=>?_⟩;by_cases e:k=n
    ·rw[e];exact⟨vC,fun _=>yX _⟩
    ·have:=uD T j n h2 k (by omega)
     exact absurd hp (kQ4.2 this)
   |some c=>
    rw[h2]at h;obtain⟨g1,g2,g3⟩:=levN_some T j n h2;simp only[]at h;by_cases h3:quo T j n<quo T j c\/quo T j n=quo T j c/\atN T.bas n<atN T.bas c
    ·rw[if_pos h3]at h
     injection h with h
     subst h;refine⟨by omega,h1,fun k hk hp=>?_⟩;by_cases e:k=n
     ·rw[e];exact⟨vC,fun _=>yX _⟩
     ·obtain⟨k1,k2⟩:=g3 k (by omega) hp
      rcases h3 with h3|⟨h3,h4⟩
      ·exact⟨by grind,fun e2=>by grind⟩
      ·exact⟨by grind,fun e2=>by
       have:=k2 (by grind);omega⟩
    ·rw[if_neg h3]at h
     injection h with h
     subst h;refine⟨by omega,g2,fun k hk hp=>?_⟩;by_cases e:k=n
     ·subst e
      refine⟨kQ4.1 fun h4=>h3 (.inl h4),fun e2=>Nat.le_of_not_lt fun h4=>h3 (.inr ⟨e2.symm,h4⟩)⟩
     ·exact g3 k (by omega) hp
  ·rw[if_neg h1]at h
   obtain⟨g1,g2,g3⟩:=levN_some T j n h;refine⟨by omega,g2,fun k hk hp=>?_⟩;by_cases e:k=n
   ·rw[e]at hp;exact absurd hp h1
   ·exact g3 k (by omega) hp
theorem Rep.all{T:Tb}{m nv:Nat}{M:Nat->Nat->Rat}(h:Rep T m nv M){v:Nat}(hv:v<nv):(∃l,l<m/\atN T.bas l=v)\/∃j,j<T.fre.length/\atN T.fre j=v:=by
 refine Classical.byContradiction fun hn=>?_;have hf:=h.fl;obtain⟨a,b,qf,hb,e⟩:=tU nv (fun k=>if k<m then atN T.bas k else if k<nv then atN T.fre (k-m)else v) (fun k hk=>by split;{rename_i h1;exact h.di.lt k h1};split;{exact h.fv (k-m) (by omega)};exact hv);by_cases qa:b<m;{rw[if_pos (show a<m by omega),if_pos qa]at e;have:=h.di.inj (show a<m by omega) qa e;omega};rw[if_neg qa]at e;by_cases qe:b<nv;{rw[if_pos qe]at e;by_cases ha:a<m;{rw[if_pos ha]at e;exact h.fb (b-m) a (by omega) ha e.symm};rw[if_neg ha,if_pos (by omega)]at e;have:=h.fi (a-m) (b-m) (by omega) (by omega) e;omega};rw[if_neg qe]at e;by_cases ha:a<m;{rw[if_pos ha]at e;exact hn (.inl ⟨a,ha,e⟩)};rw[if_neg ha,if_pos (by omega)]at e;exact hn (.inr ⟨a-m,by omega,e⟩)
theorem Rep.bland{T:Tb}{m nv:Nat}{M:Nat->Nat->Rat}(h:Rep T m nv M){i j:Nat}(hj:entT T=some j)(hi:levT T j=some i):j<T.fre.length/\i<m/\Bl m nv M (atN T.bas) i (atN T.fre j):=by
 obtain⟨e1,e2,e3⟩:=entN_some T _ hj;obtain⟨l1,l2,l3⟩:=levN_some T j _ hi;rw[h.gl]at e1;rw[h.rl]at l1;refine⟨e1,l1,l1,h.fv j e1,by rw[<-h.go j e1];exact e2,fun v hv=>?_,by rw[<-h.co i j l1 e1];exact l2,fun k hk hp=>?_,fun k hk hp he=>?_⟩;{have qa:v<nv:=Nat.lt_trans hv (h.fv j e1);(rcases h.all qa with⟨l,hl,rfl⟩|⟨k,hk,rfl⟩);{rw[h.di.unit l hl m (yX _),if_neg (by omega)];exact vC};rw[<-h.go k hk];refine kQ4.1 fun hn=>?_;have:=e3 k (by rw[h.gl];exact hk) hn;omega};{rw[<-h.co k j hk e1]at hp;have:=(l3 k (by rw[h.rl];exact hk) hp).1;unfold quo at this;rw[h.re i l1,h.re k hk,h.co i j l1 e1,h.co k j hk e1]at this;exact this};rw[<-h.co k j hk e1]at hp;refine(l3 k (by rw[h.rl];exact hk) hp).2 ?_;unfold quo;rw[h.re i l1,h.re k hk,h.co i j l1 e1,h.co k j hk e1];exact he
def stepT(T:Tb):Option Tb:=match entT T with
 |none=>none
 |some j=>match levT T j with
  |none=>none
  |some i=>some (pivT T i j)
theorem stepT_some{T T':Tb}(h:stepT T=some T'):∃i j,entT T=some j/\levT T j=some i/\T'=pivT T i j:=by
 (unfold stepT at h;cases h1:entT T with|none=>rw[h1]at h;cases h|some j=>(rw[h1]at h;simp only[]at h;cases h2:levT T j with|none=>rw[h2]at h;cases h|some i=>(rw[h2]at h;injection h with h);exact⟨i,j,rfl,h2,h.symm⟩))
def iterT:Nat->Tb->Tb
 |0,T=>T
 |n+1,T=>(stepT (iterT n T)).getD (iterT n T)
theorem jzkl{T:Tb}{m nv:Nat}{M:Nat->Nat->Rat}(h:Rep T m nv M)(hf:∀k,k<m->0<=M k nv):∃N,stepT (iterT N T)=none/\∀n,n<N->stepT (iterT n T)≠none:=by
 have qg:∃N,stepT (iterT N T)=none:=(by refine Classical.byContradiction fun hn=>?_;have hs:∀n,∃i j,entT (iterT n T)=some j/\levT (iterT n T) j=some i/\iterT (n+1) T=pivT (iterT n T) i j:=fun n=>(by (cases h1:stepT (iterT n T)with|none=>exact absurd ⟨n,h1⟩ hn|some T'=>obtain⟨i,j,h2,h3,h4⟩:=stepT_some h1;refine⟨i,j,h2,h3,?_⟩;show(stepT (iterT n T)).getD _=_;rw[h1, <-h4];rfl));(let I:Nat->Nat:=fun n=>(hs n).choose);(let J:Nat->Nat:=fun n=>(hs n).choose_spec.choose);have qe:∀n,entT (iterT n T)=some (J n)/\levT (iterT n T) (J n)=some (I n)/\iterT (n+1) T=pivT (iterT n T) (I n) (J n):=fun n=>(hs n).choose_spec.choose_spec;(let MM:Nat->Nat->Nat->Rat:=fun n=>Nat.rec M (fun k Mk=>Sx.piv Mk (I k) (atN (iterT k T).fre (J k))) n);have qa:∀n,Rep (iterT n T) m nv (MM n):=fun n=>(by (induction n with|zero=>exact h|succ n ih=>obtain⟨h1,h2,h3⟩:=qe n;obtain⟨g1,g2,g3⟩:=ih.bland h1 h2;rw[h3];exact ih.pivot g2 g1 (fun e=>by have:=g3.pos;rw[<-ih.co _ _ g2 g1,e]at this;exact absurd this (by decide))));have qf:Run m nv (2^nv) MM (fun n=>atN (iterT n T).bas) I (fun n=>atN (iterT n T).fre (J n)):=(by refine⟨h.di,hf,fun n _=>((qa n).bland (qe n).1 (qe n).2.1).2.2,fun n _=>rfl,fun n _=>?_⟩;obtain⟨h1,h2,h3⟩:=qe n;obtain⟨g1,g2,g3⟩:=(qa n).bland h1 h2;funext l;show atN (iterT (n+1) T).bas l=_;rw[h3];show atN ((iterT n T).bas.set (I n) _) l=_;rw[gW _ _ _ _ (by rw[(qa n).bl];exact g2)];rfl);have:=qf.short;omega);obtain⟨N,hN⟩:=qg;(induction N using Nat.strongRecOn with|ind N ih=>by_cases h1:∃n,n<N/\stepT (iterT n T)=none;{obtain⟨n,hn,h2⟩:=h1;exact ih n hn h2};exact⟨N,hN,fun n hn h2=>h1 ⟨n,hn,h2⟩⟩)
end Sx
namespace Sx
theorem Rep.slack{T:Tb}{m nv:Nat}{M:Nat->Nat->Rat}(h:Rep T m nv M)(f:Nat->Rat):sm m f=(sm m fun l=>if atN T.bas l<m then f (atN T.bas l)else 0)+sm T.fre.length fun j=>if atN T.fre j<m then f (atN T.fre j)else 0:=by
 (have e1:sm m f=sm m fun i=>(sm m fun l=>if atN T.bas l=i then f i else 0)+sm T.fre.length fun j=>if atN T.fre j=i then f i else 0:=sm_congr m fun i hi=>(by (have hf:=h.fl;rcases h.all (show i<nv by omega)with⟨l,hl,e⟩|⟨j,hj,e⟩);{rw[sm_one m hl (fun k hk hkl=>by rw[if_neg (fun e2=>hkl (h.di.inj hk hl (by rw[e2,e])))]),sm_zero T.fre.length (fun j hj=>by rw[if_neg (fun e2=>h.fb j l hj hl (by rw[e2,e]))]),if_pos e];grind};rw[sm_zero m (fun l hl=>by rw[if_neg (fun e2=>h.fb j l hj hl (by rw[e2,e]))]),sm_one T.fre.length hj (fun k hk hkj=>by rw[if_neg (fun e2=>hkj (h.fi k j hk hj (by rw[e2,e])))]),if_pos e];grind));(have e2:∀v:Nat,(sm m fun i=>if v=i then f i else 0)=if v<m then f v else 0:=fun v=>(by by_cases hv:v<m;{rw[if_pos hv,sm_one m hv (fun i _ hi=>by rw[if_neg (fun e=>hi e.symm)]),if_pos rfl]};rw[if_neg hv,sm_zero m (fun i hi=>by rw[if_neg (by omega)])]));rw[e1,sm_add];congr 1;{rw[mB];exact sm_congr m fun l _=>e2 _};(have:=mB m T.fre.length fun i j=>if atN T.fre j=i then f i else 0);rw[this];exact sm_congr _ fun j _=>e2 _
def slk(T:Tb)(vals:LQ):Nat->LN
 |0=>[]
 |n+1=>if atN T.fre n<vals.length/\at_ vals (atN T.fre n)≠0 then slk T vals n++[n]else slk T vals n
def addC(T:Tb)(vals:LQ)(x:LQ)(base:Rat)(js:LN):Rat:=js.foldl (fun s j=>s+at_ x j*at_ vals (atN T.fre j)) base
theorem addC_snoc(T:Tb)(vals x:LQ)(base:Rat)(js:LN)(j:Nat):addC T vals x base (js++[j])=addC T vals x base js+at_ x j*at_ vals (atN T.fre j):=by unfold addC;rw[kZt];rfl
theorem uE(T:Tb)(vals x:LQ)(base:Rat):∀n,addC T vals x base (slk T vals n)=base+sm n fun j=>if atN T.fre j<vals.length then at_ x j*at_ vals (atN T.fre j)else 0
 |0=>by show base=base+0;grind
 |n+1=>by
  have ih:=uE T vals x base n;show addC T vals x base (if atN T.fre n<vals.length/\at_ vals (atN T.fre n)≠0 then slk T vals n++[n]else slk T vals n)=base+(sm n _+if atN T.fre n<vals.length then at_ x n*at_ vals (atN T.fre n)else 0);by_cases h1:atN T.fre n<vals.length
  ·rw[if_pos h1]
   by_cases h2:at_ vals (atN T.fre n)=0
   ·rw[if_neg (fun h=>h.2 h2),ih,h2];grind
   ·rw[if_pos ⟨h1,h2⟩,addC_snoc,ih];grind
  ·rw[if_neg h1,if_neg (fun h=>h1 h.1),ih];grind
def addR(T:Tb)(vals:LQ)(r:Rw)(base:Rat):Rw:=⟨r.co++[addC T vals r.co base (slk T vals T.fre.length)],r.re⟩
def addT(T:Tb)(cost:Rat)(vals:LQ):Tb:=
 ⟨(List.range T.rows.length).map (fun i=>addR T vals (T.row i) (if atN T.bas i<vals.length then at_ vals (atN T.bas i)else 0)),T.bas,T.fre++[T.rows.length+T.cols],
   ⟨T.goal.co++[addC T vals T.goal.co 0 (slk T vals T.fre.length)-cost],T.goal.re⟩,T.cols+1⟩
def newT(bounds:LQ):Tb:=⟨bounds.map fun b=>⟨[],b⟩,List.range bounds.length,[],⟨[],0⟩,0⟩
def cc(nv:Nat)(Cs:Nat->Nat->Rat)(b:Nat->Rat):Nat->Nat->Rat:=fun v=>if v<nv then Cs v else b
def kk(nv:Nat)(ks:Nat->Rat):Nat->Rat:=fun v=>if v<nv then ks v else 0
structure LPI(T:Tb)(m nv:Nat)(M:Nat->Nat->Rat)(Cs:Nat->Nat->Rat)(ks:Nat->Rat)(b:Nat->Rat):Prop where
 rep:Rep T m nv M
 col:Col m nv M (atN T.bas) (cc nv Cs b) (kk nv ks)
 row:pU m nv M (cc nv Cs b) (kk nv ks)
 feas:∀k,k<m->0<=M k nv
 det:dB m (cc nv Cs b) (atN T.bas)≠0
 cols:T.cols=T.fre.length
 unit:∀j,j<m->∀i,i<m->Cs j i=if i=j then 1 else 0
 free:∀j,j<m->ks j=0
theorem LPI.step{T:Tb}{m nv:Nat}{M:Nat->Nat->Rat}{Cs:Nat->Nat->Rat}{ks b:Nat->Rat}(h:LPI T m nv M Cs ks b){T':Tb}(hs:stepT T=some T'):∃M',LPI T' m nv M' Cs ks b:=by
 obtain⟨i,j,h1,h2,rfl⟩:=stepT_some hs;obtain⟨g1,g2,g3⟩:=h.rep.bland h1 h2;have hp:M i (atN T.fre j)≠0:=fun e=>(by have:=g3.pos;rw[e]at this;exact absurd this (by decide));have hb:atN (pivT T i j).bas=fB (atN T.bas) i (atN T.fre j):=(by funext l;show atN (T.bas.set i _) l=_;rw[gW _ _ _ _ (by rw[h.rep.bl];exact g2)];rfl);refine⟨Sx.piv M i (atN T.fre j),h.rep.pivot g2 g1 (by rw[h.rep.co _ _ g2 g1];exact hp),by rw[hb];exact h.col.pivot g2 g3.he hp,h.row.pivot _ g2,g3.feas h.feas,?_,?_,h.unit,h.free⟩;{rw[hb,h.col.det_piv g2 g3.he];exact fun e=>(by (rcases Rat.mul_eq_zero.1 e with e|e);{exact hp e};exact h.det e)};show T.cols=(T.fre.set j _).length;rw[yV];exact h.cols
theorem LPI.iter{T:Tb}{m nv:Nat}{M:Nat->Nat->Rat}{Cs:Nat->Nat->Rat}{ks b:Nat->Rat}(h:LPI T m nv M Cs ks b):∀n,∃M',LPI (iterT n T) m nv M' Cs ks b
 |0=>⟨M,h⟩
 |n+1=>by
  obtain⟨M',h1⟩:=h.iter n;show∃M',LPI ((stepT (iterT n T)).getD (iterT n T)) m nv M' Cs ks b;cases h2:stepT (iterT n T)with
  |none=>exact⟨M',h1⟩
  |some T'=>exact h1.step h2
theorem jzb3(l:LQ)(x:Rat)(k:Nat):at_ (l++[x]) k=if k=l.length then x else at_ l k:=by
 unfold at_;by_cases h:k<l.length;{rw[yR h,if_neg (by omega)]};by_cases e:k=l.length;{rw[yS (by omega),e,if_pos rfl];simp};rw[yI (by simp;omega),yI (by omega),if_neg e]
theorem jzkm(l:LN)(x:Nat)(k:Nat):atN (l++[x]) k=if k=l.length then x else atN l k:=by
 unfold atN;by_cases h:k<l.length;{rw[yR h,if_neg (by omega)]};by_cases e:k=l.length;{rw[yS (by omega),e,if_pos rfl];simp};rw[yI (by simp;omega),yI (by omega),if_neg e]
def dO(m nv:Nat)(M:Nat->Nat->Rat)(vals:LQ)(cost:Rat):Nat->Nat->Rat:=fun k v=>
 if v<nv then M k v else if v=nv then(sm m fun i=>M k i*at_ vals i)-(if k=m then cost else 0)else M k nv
theorem LPI.add{T:Tb}{m nv:Nat}{M:Nat->Nat->Rat}{Cs:Nat->Nat->Rat}{ks b:Nat->Rat}(h:LPI T m nv M Cs ks b)(cost:Rat)(vals:LQ)(hv:vals.length=m){Cs':Nat->Nat->Rat}{ks':Nat->Rat}
  (hC:∀v,v<nv->Cs' v=Cs v) (hCn:∀i,i<m->Cs' nv i=at_ vals i) (hk:∀v,v<nv->ks' v=ks v) (hkn:ks' nv=cost):
  LPI (addT T cost vals) m (nv+1) (dO m nv M vals cost) Cs' ks' b:=by
 have hr:=h.rep;have qC:T.rows.length+T.cols=nv:=(by rw[hr.rl,h.cols];have:=hr.fl;omega);have hm:m<=nv:=(by have:=hr.fl;omega);have qe:(addT T cost vals).fre.length=T.fre.length+1:=(by show(T.fre++[_]).length=_;simp);have qh:∀k,k<m->(addT T cost vals).row k=addR T vals (T.row k) (if atN T.bas k<vals.length then at_ vals (atN T.bas k)else 0):=fun k hk=>(by show((List.range T.rows.length).map _)[k]?.getD _=_;rw[yW,xJ (by rw[hr.rl];exact hk)];rfl);(have qa:∀j,atN (addT T cost vals).fre j=if j=T.fre.length then nv else atN T.fre j:=fun j=>(by show atN (T.fre++[_]) j=_;rw[jzkm,qC]));have qi:∀k v,v<nv->dO m nv M vals cost k v=M k v:=fun k v hv=>if_pos hv;have qk:∀k,dO m nv M vals cost k nv=(sm m fun i=>M k i*at_ vals i)-(if k=m then cost else 0):=fun k=>(by unfold dO;rw[if_neg (by omega),if_pos rfl]);have qm:∀k,dO m nv M vals cost k (nv+1)=M k nv:=fun k=>(by unfold dO;rw[if_neg (by omega),if_neg (by omega)]);have qn:∀v,v<nv->cc (nv+1) Cs' b v=cc nv Cs b v:=fun v hv=>(by unfold cc;rw[if_pos (by omega),if_pos hv,hC v hv]);have qz:cc (nv+1) Cs' b nv=Cs' nv:=(by unfold cc;rw[if_pos (by omega)]);have qt:cc (nv+1) Cs' b (nv+1)=cc nv Cs b nv:=(by unfold cc;rw[if_neg (by omega),if_neg (by omega)]);have qw:∀v,v<nv->kk (nv+1) ks' v=kk nv ks v:=fun v hv=>(by unfold kk;rw[if_pos (by omega),if_pos hv,hk v hv]);have qp:kk (nv+1) ks' nv=cost:=(by unfold kk;rw[if_pos (by omega),hkn]);have qA:kk (nv+1) ks' (nv+1)=kk nv ks nv:=(by unfold kk;rw[if_neg (by omega),if_neg (by omega)]);have qj:∀l,l<m->atN T.bas l<nv:=hr.di.lt;have qx:∀k,k<m->addC T vals (T.row k).co (if atN T.bas k<vals.length then at_ vals (atN T.bas k)else 0) (slk T vals T.fre.length)=sm m fun i=>M k i*at_ vals i:=fun k hk=>(by rw[uE,hr.slack fun i=>M k i*at_ vals i,hv];congr 1;{(have hu:M k (atN T.bas k)=1:=by rw[hr.di.unit k hk k (by omega),if_pos rfl]);rw[sm_one m hk (fun l hl hlk=>by have hu:M k (atN T.bas l)=0:=(by rw[hr.di.unit l hl k (by omega),if_neg (fun e=>hlk e.symm)]);rw[hu];split <;> grind),hu];split <;> grind};exact sm_congr _ fun j hj=>by rw[hr.co k j hk hj])
 have qo:addC T vals T.goal.co 0 (slk T vals T.fre.length)=sm m fun i=>M m i*at_ vals i:=by
  rw[uE,hr.slack fun i=>M m i*at_ vals i,hv];congr 1
  ·rw[sm_zero m (fun l hl=>by
   have hu:M m (atN T.bas l)=0:=(by rw[hr.di.unit l hl m (by omega),if_neg (by omega)]);rw[hu];split <;> grind)]
  exact sm_congr _ fun j hj=>by rw[hr.go j hj]
 refine⟨⟨?_,hr.bl,by rw[qe];have:=hr.fl;omega,fun k hk=>?_,?_,fun j hj=>?_,fun j k hj hk e=>?_,fun j l hj hl e=>?_,fun k j hk hj=>?_,fun j hj=>?_,fun k hk=>?_,?_,⟨fun l hl k hk=>?_,fun l hl=>?_⟩⟩,fun v hv2=>?_,fun v hv2=>?_,fun k hk=>?_,?_,?_,fun j hj i hi=>?_,fun j hj=>?_⟩;{show((List.range T.rows.length).map _).length=m;simp[hr.rl]};{rw[qh k hk,qe];show((T.row k).co++[_]).length=_;rw[yQ,hr.cl k hk];rfl};{rw[qe];show(T.goal.co++[_]).length=_;rw[yQ,hr.gl];rfl};{rw[qe]at hj;rw[qa];split;{omega};have:=hr.fv j (by omega);omega};{rw[qe]at hj hk;rw[qa,qa]at e;by_cases h1:j=T.fre.length;{by_cases h2:k=T.fre.length;{omega};rw[if_pos h1,if_neg h2]at e;have:=hr.fv k (by omega);omega};by_cases h2:k=T.fre.length;{rw[if_neg h1,if_pos h2]at e;have:=hr.fv j (by omega);omega};rw[if_neg h1,if_neg h2]at e;exact hr.fi j k (by omega) (by omega) e};{rw[qe]at hj;rw[qa]at e;have e:_=atN T.bas l:=e;by_cases h1:j=T.fre.length;{rw[if_pos h1]at e;have:=qj l hl;omega};rw[if_neg h1]at e;exact hr.fb j l (by omega) hl e};{rw[qe]at hj;rw[qh k hk,qa];show at_ ((T.row k).co++[_]) j=_;rw[jzb3,hr.cl k hk];by_cases h1:j=T.fre.length;{rw[if_pos h1,if_pos h1,qk,qx k hk,if_neg (show¬k=m by omega)];grind};rw[if_neg h1,if_neg h1,qi _ _ (hr.fv j (by omega)),hr.co k j hk (by omega)]};{rw[qe]at hj;rw[qa];show at_ (T.goal.co++[_]) j=_;rw[jzb3,hr.gl];by_cases h1:j=T.fre.length;{rw[if_pos h1,if_pos h1,qk,if_pos rfl,qo]};rw[if_neg h1,if_neg h1,qi _ _ (hr.fv j (by omega)),hr.go j (by omega)]};{rw[qh k hk,qm];exact hr.re k hk};{rw[qm];exact hr.gr};{rw[show atN (addT T cost vals).bas l=atN T.bas l from rfl,qi _ _ (qj l hl)];exact hr.di.unit l hl k hk};{have:=qj l hl;show atN T.bas l<nv+1;omega};{have qy:∀l,l<m->∀i,cc (nv+1) Cs' b (atN (addT T cost vals).bas l) i=cc nv Cs b (atN T.bas l) i:=fun l hl i=>(by show cc (nv+1) Cs' b (atN T.bas l) i=_;rw[qn _ (qj l hl)]);have qB:∀l,l<m->kk (nv+1) ks' (atN (addT T cost vals).bas l)=kk nv ks (atN T.bas l):=fun l hl=>qw _ (qj l hl);have old:∀v0 v,v<=nv->(∀k,dO m nv M vals cost k v0=M k v)->cc (nv+1) Cs' b v0=cc nv Cs b v->kk (nv+1) ks' v0=kk nv ks v->(∀i,i<m->cc (nv+1) Cs' b v0 i=sm m fun l=>dO m nv M vals cost l v0*cc (nv+1) Cs' b (atN (addT T cost vals).bas l) i)/\dO m nv M vals cost m v0=(sm m fun l=>dO m nv M vals cost l v0*kk (nv+1) ks' (atN (addT T cost vals).bas l))-kk (nv+1) ks' v0:=fun v0 v hv0 h1 h2 h3=>(by obtain⟨g1,g2⟩:=h.col v hv0;refine⟨fun i hi=>?_,?_⟩;{rw[h2,g1 i hi];exact sm_congr m fun l hl=>by rw[h1,qy l hl]};rw[h1,h3,g2];congr 1;exact sm_congr m fun l hl=>by rw[h1,qB l hl]);by_cases h1:v<nv;{exact old v v (by omega) (fun k=>qi k v h1) (qn v h1) (qw v h1)};by_cases h2:v=nv;{subst h2;have qg:∀g:Nat->Rat,(sm m fun l=>dO m v M vals cost l v*g l)=sm m fun j=>at_ vals j*sm m fun l=>M l j*g l:=fun g=>(by have e1:(sm m fun l=>dO m v M vals cost l v*g l)=sm m fun l=>sm m fun j=>at_ vals j*(M l j*g l):=sm_congr m fun l hl=>(by have h0:dO m v M vals cost l v=sm m fun i=>M l i*at_ vals i:=(by rw[qk,if_neg (show¬l=m by omega)];grind);rw[h0,Rat.mul_comm, <-eC];exact sm_congr m fun j _=>by grind);rw[e1,mB];exact sm_congr m fun j _=>by rw[eC]);refine⟨fun i hi=>?_,?_⟩;{rw[qz,hCn i hi];(have e1:(sm m fun l=>dO m v M vals cost l v*cc (v+1) Cs' b (atN (addT T cost vals).bas l) i)=sm m fun l=>dO m v M vals cost l v*cc v Cs b (atN T.bas l) i:=sm_congr m fun l hl=>(by rw[qy l hl]);rw[e1,qg];have e2:(sm m fun j=>at_ vals j*sm m fun l=>M l j*cc v Cs b (atN T.bas l) i)=sm m fun j=>if j=i then at_ vals i else 0:=sm_congr m fun j hj=>(by (rw[<-(h.col j (by omega)).1 i hi];have:cc v Cs b j i=if i=j then 1 else 0:=by unfold cc;rw[if_pos (by omega),h.unit j hj i hi]);rw[this];by_cases e:j=i;{subst e;rw[if_pos rfl,if_pos rfl];grind};rw[if_neg e,if_neg (fun e2=>e e2.symm)];grind));rw[e2,sm_one m hi (fun j _ hj=>by rw[if_neg hj]),if_pos rfl]};rw[qk,if_pos rfl,qp];congr 1;have e1:(sm m fun l=>dO m v M vals cost l v*kk (v+1) ks' (atN (addT T cost vals).bas l))=sm m fun l=>dO m v M vals cost l v*kk v ks (atN T.bas l):=sm_congr m fun l hl=>(by rw[qB l hl]);rw[e1,qg];refine sm_congr m fun j hj=>?_;have h3:=(h.col j (by omega)).2;have h4:kk v ks j=0:=(by unfold kk;rw[if_pos (by omega),h.free j hj]);rw[h4]at h3;rw[h3];grind};obtain rfl:v=nv+1:=(by omega);exact old (nv+1) nv (yX _) qm qt qA};{(have qf:∀k,(sm m fun i=>dO m nv M vals cost k i*cc (nv+1) Cs' b v i)=sm m fun i=>M k i*cc (nv+1) Cs' b v i:=fun k=>sm_congr m fun i hi=>by rw[qi k i (by omega)]);rw[qf m];by_cases h1:v<nv;{obtain⟨g1,g2⟩:=h.row v (by omega);rw[qi m v h1,qw v h1];refine⟨fun k hk=>by rw[qf k,qi k v h1,qn v h1];exact g1 k hk,by rw[qn v h1];exact g2⟩};by_cases h2:v=nv;{subst h2;have e1:∀k,(sm m fun i=>M k i*cc (v+1) Cs' b v i)=sm m fun i=>M k i*at_ vals i:=fun k=>sm_congr m fun i hi=>(by rw[qz,hCn i hi]);refine⟨fun k hk=>?_,?_⟩;{rw[qf k,qk,if_neg (by omega),e1];grind};rw[qk,if_pos rfl,e1,qp]};obtain rfl:v=nv+1:=(by omega);obtain⟨g1,g2⟩:=h.row nv (yX _);rw[qm m,qA,qt];exact⟨fun k hk=>by have h3:=qf k;rw[qt]at h3;rw[qm k,h3];exact g1 k hk,g2⟩};{rw[qm];exact h.feas k hk};{have:dB m (cc (nv+1) Cs' b) (atN (addT T cost vals).bas)=dB m (cc nv Cs b) (atN T.bas):=kI m fun i _ l hl=>(by show cc (nv+1) Cs' b (atN T.bas l) i=_;rw[qn _ (qj l hl)]);rw[this];exact h.det};{show T.cols+1=_;rw[qe,h.cols]};{rw[hC j (by omega)];exact h.unit j hj i hi};rw[hk j (by omega)];exact h.free j hj
end Sx
end Go.Proofs.YtojpooidhilnfaaGreatDoor
