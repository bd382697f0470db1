/- Part 12 of 26 of what the Flows claims share (the white space is struck, the texts are joined). -/
import Derived.Test.YtojpooidhilnfaaGreatDoorH11
set_option linter.unusedVariables false
set_option linter.unusedSimpArgs false
set_option maxRecDepth 100000
set_option maxHeartbeats 8000000
namespace Go.Proofs.YtojpooidhilnfaaGreatDoor
open Go.Proofs.Tryz
namespace Sx
structure Rw where
 co:LQ
 re:Rat
structure Tb where
 rows:List Rw
 bas:LN
 fre:LN
 goal:Rw
 cols:Nat
def at_(l:LQ)(k:Nat):Rat:=l[k]?.getD 0
def atN(l:LN)(k:Nat):Nat:=l[k]?.getD 0
def Tb.row(T:Tb)(i:Nat):Rw:=T.rows[i]?.getD ⟨[],0⟩
theorem rR(n:Nat)(f:Nat->Rat){k:Nat}(hk:k<n):at_ ((List.range n).map f) k=f k:=by
 unfold at_;rw[yW,xJ hk];rfl
def subL(x:LQ)(j:Nat)(f:Rat)(y:LQ)(i:Nat):LQ:=(List.range x.length).map fun k=>if k<i then(if k=j then 0 else at_ x k)-f*at_ y k else(if k=j then 0 else at_ x k)
def subR(r:Rw)(j:Nat)(b:Rw):Rw:=if at_ r.co j=0 then r else⟨subL r.co j (at_ r.co j) b.co r.co.length,r.re-at_ r.co j*b.re⟩
def sclL(x:LQ)(j:Nat)(q:Rat)(i:Nat):LQ:=(List.range x.length).map fun k=>if k<i then(if k=j then 1 else at_ x k)*q else(if k=j then 1 else at_ x k)
def sclR(r:Rw)(j:Nat):Rw:=⟨sclL r.co j (1/at_ r.co j) r.co.length,r.re*(1/at_ r.co j)⟩
def pivT(T:Tb)(i j:Nat):Tb:=
 ⟨(List.range T.rows.length).map (fun k=>if k=i then sclR (T.row i) j else subR (T.row k) j (sclR (T.row i) j)),T.bas.set i (atN T.fre j),T.fre.set j (atN T.bas i),subR T.goal j (sclR (T.row i) j),T.cols⟩
theorem subL_len(x:LQ)(j:Nat)(f:Rat)(y:LQ)(i:Nat):(subL x j f y i).length=x.length:=by unfold subL;simp
theorem sclL_len(x:LQ)(j:Nat)(q:Rat)(i:Nat):(sclL x j q i).length=x.length:=by unfold sclL;simp
theorem jzcx(r:Rw)(j:Nat)(b:Rw):(subR r j b).co.length=r.co.length:=by
 unfold subR;split;{rfl};exact subL_len _ _ _ _ _
theorem jzk3(r:Rw)(j:Nat):(sclR r j).co.length=r.co.length:=sclL_len _ _ _ _
theorem jzcy(r:Rw)(j:Nat)(b:Rw){k:Nat}(hk:k<r.co.length):at_ (subR r j b).co k=(if k=j then 0 else at_ r.co k)-at_ r.co j*at_ b.co k:=by
 unfold subR;split;{rename_i h;rw[h];by_cases e:k=j;{subst e;rw[if_pos rfl,h];grind};rw[if_neg e];grind};unfold subL;rw[rR _ _ hk,if_pos hk]
theorem jzcz(r:Rw)(j:Nat)(b:Rw):(subR r j b).re=r.re-at_ r.co j*b.re:=by
 unfold subR;split;{rename_i h;rw[h];grind};rfl
theorem jzk4(r:Rw)(j:Nat){k:Nat}(hk:k<r.co.length):at_ (sclR r j).co k=(if k=j then 1 else at_ r.co k)/at_ r.co j:=by
 unfold sclR sclL;simp only[];rw[rR _ _ hk,if_pos hk];grind
theorem jzk5(T:Tb)(i j:Nat):(pivT T i j).rows.length=T.rows.length:=by unfold pivT;simp
theorem jzk6(T:Tb)(i j:Nat){k:Nat}(hk:k<T.rows.length):(pivT T i j).row k=if k=i then sclR (T.row i) j else subR (T.row k) j (sclR (T.row i) j):=by
 unfold pivT;show(((List.range T.rows.length).map _)[k]?).getD _=_;rw[yW,xJ hk];rfl
structure Rep(T:Tb)(m nv:Nat)(M:Nat->Nat->Rat):Prop where
 rl:T.rows.length=m
 bl:T.bas.length=m
 fl:T.fre.length+m=nv
 cl:∀k,k<m->(T.row k).co.length=T.fre.length
 gl:T.goal.co.length=T.fre.length
 fv:∀j,j<T.fre.length->atN T.fre j<nv
 fi:∀j k,j<T.fre.length->k<T.fre.length->atN T.fre j=atN T.fre k->j=k
 fb:∀j l,j<T.fre.length->l<m->atN T.fre j≠atN T.bas l
 co:∀k j,k<m->j<T.fre.length->at_ (T.row k).co j=M k (atN T.fre j)
 go:∀j,j<T.fre.length->at_ T.goal.co j=M m (atN T.fre j)
 re:∀k,k<m->(T.row k).re=M k nv
 gr:T.goal.re=M m nv
 di:gQ m nv M (atN T.bas)
theorem iP(l:LN)(i v k:Nat)(hi:i<l.length):atN (l.set i v) k=if k=i then v else atN l k:=by
 unfold atN;by_cases e:k=i;{subst e;rw[if_pos rfl,yM hi];rfl};rw[if_neg e,vN (fun h=>e h.symm)]
theorem Rep.pivot{T:Tb}{m nv:Nat}{M:Nat->Nat->Rat}(h:Rep T m nv M){i j:Nat}(hi:i<m)(hj:j<T.fre.length)(hp:at_ (T.row i).co j≠0):Rep (pivT T i j) m nv (Sx.piv M i (atN T.fre j)):=by
 (have qn:i<T.bas.length:=(by rw[h.bl];exact hi);have e1:(pivT T i j).bas=T.bas.set i (atN T.fre j):=rfl;have e2:(pivT T i j).fre=T.fre.set j (atN T.bas i):=rfl;have e3:(pivT T i j).goal=subR T.goal j (sclR (T.row i) j):=rfl;have qe:(pivT T i j).fre.length=T.fre.length:=(by rw[e2,yV]);have qf:∀k,k<m->(pivT T i j).row k=if k=i then sclR (T.row i) j else subR (T.row k) j (sclR (T.row i) j):=fun k hk=>jzk6 T i j (by rw[h.rl];exact hk));(have qj:=h.co i j hi hj;rw[qj]at hp;have qm:∀k,k<=m->M k (atN T.bas i)=if k=i then 1 else 0:=h.di.unit i hi);have qk:M i (atN T.bas i)=1:=(by rw[qm i (by omega),if_pos rfl]);have qg:=h.cl i hi;have qh:∀k,k<T.fre.length->at_ (sclR (T.row i) j).co k=(if k=j then 1 else M i (atN T.fre k))/M i (atN T.fre j):=fun k hk=>(by rw[jzk4 _ _ (by rw[qg];exact hk),qj,h.co i k hi hk]);have qi:(sclR (T.row i) j).re=M i nv/M i (atN T.fre j):=(by show(T.row i).re*(1/at_ (T.row i).co j)=_;rw[qj,h.re i hi];grind);refine⟨by rw[jzk5];exact h.rl,by rw[e1,yV];exact h.bl,by rw[qe];exact h.fl,fun k hk=>?_,by rw[e3,jzcx,qe];exact h.gl,fun k hk=>?_,fun k l hk hl e=>?_,fun k l hk hl e=>?_,fun k l hk hl=>?_,fun l hl=>?_,fun k hk=>?_,?_,?_⟩;{rw[qf k hk,qe];split;{rw[jzk3];exact qg};rw[jzcx];exact h.cl k hk};{rw[qe]at hk;rw[e2,iP _ _ _ _ hj];split;{exact h.di.lt i hi};exact h.fv k hk};{rw[qe]at hk hl;rw[e2,iP _ _ _ _ hj,iP _ _ _ _ hj]at e;by_cases h1:k=j;{by_cases h2:l=j;{rw[h1,h2]};rw[if_pos h1,if_neg h2]at e;exact absurd e.symm (h.fb l i hl hi)};by_cases h2:l=j;{rw[if_neg h1,if_pos h2]at e;exact absurd e (h.fb k i hk hi)};rw[if_neg h1,if_neg h2]at e;exact h.fi k l hk hl e};{rw[qe]at hk;rw[e1,e2,iP _ _ _ _ hj,iP _ _ _ _ qn]at e;by_cases h1:k=j;{by_cases h2:l=i;{rw[if_pos h1,if_pos h2]at e;exact h.fb j i hj hi e.symm};rw[if_pos h1,if_neg h2]at e;exact h2 (h.di.inj hl hi e.symm)};by_cases h2:l=i;{rw[if_neg h1,if_pos h2]at e;exact h1 (h.fi k j hk hj e)};rw[if_neg h1,if_neg h2]at e;exact h.fb k l hk hl e};{rw[qe]at hl;rw[qf k hk,e2,iP _ _ _ _ hj];by_cases qa:k=i;{subst qa;rw[if_pos rfl,qh l hl,fM];split;{rw[qk]};rfl};rw[if_neg qa,jzcy _ _ _ (by rw[h.cl k hk];exact hl),qh l hl,h.co k j hk hj,h.co k l hk hl,dT _ _ _ qa];split;{rw[qm k (by omega),if_neg qa,qk]};rfl};{rw[qe]at hl;rw[e3,e2,iP _ _ _ _ hj,jzcy _ _ _ (by rw[h.gl];exact hl),qh l hl,h.go j hj,h.go l hl,dT _ _ _ (by omega)];split;{rw[qm m (by omega),if_neg (by omega),qk]};rfl};{rw[qf k hk];by_cases qa:k=i;{subst qa;rw[if_pos rfl,qi,fM]};rw[if_neg qa,jzcz,qi,h.co k j hk hj,h.re k hk,dT _ _ _ qa]};{rw[e3,jzcz,qi,h.go j hj,h.gr,dT _ _ _ (by omega)]};have hb:atN (pivT T i j).bas=fL (atN T.bas) i (atN T.fre j):=(by funext l;rw[e1,iP _ _ _ _ qn];rfl);rw[hb];exact h.di.pivot hi (h.fv j hj) hp
def entN(T:Tb):Nat->Option Nat
 |0=>none
 |j+1=>if at_ T.goal.co j<0 then(match entN T j with
  |none=>some j
  |some b=>if atN T.fre j<atN T.fre b then some j else some b)else entN T j
def entT(T:Tb):Option Nat:=entN T T.goal.co.length
theorem entN_some(T:Tb):∀(n:Nat) {b:Nat},entN T n=some b->b<n/\at_ T.goal.co b<0/\∀j,j<n->at_ T.goal.co j<0->atN T.fre b<=atN T.fre j
 |0,_,h=>by cases h
 |n+1,b,h=>by
  have h:(if at_ T.goal.co n<0 then(match entN T n with
   |none=>some n
   |some b=>if atN T.fre n<atN T.fre b then some n else some b)else entN T n)=some b:=h
  by_cases h1:at_ T.goal.co n<0
  ·rw[if_pos h1]at h
   cases h2:entN T n with
   |none=>
    rw[h2]at h;injection h with h
    subst h;refine⟨by omega,h1,fun j hj hn=>?_⟩;by_cases e:j=n
    ·rw[e];exact yX _
    ·exfalso
     have qa:∀k,entN T k=none->∀j,j<k->¬at_ T.goal.co j<0:=fun k=>by
      induction k with
      |zero=>intro _ j hj;omega
      |succ k ih=>
       intro hk j hj;have hk:(if at_ T.goal.co k<0 then(match entN T k with
        |none=>some k
        |some b=>if atN T.fre k<atN T.fre b then some k else some b)else entN T k)=none:=hk
       by_cases h3:at_ T.goal.co k<0
       ·rw[if_pos h3]at hk
        cases h4:entN T k with
        |none=>rw[h4]at hk;cases hk
        |some c=>rw[h4]at hk;simp only[]at hk;split at hk <;> cases hk
       ·rw[if_neg h3]at hk
        by_cases e:j=k
        ·rw[e];exact h3
        ·exact ih hk j (by omega)
     exact qa n h2 j (by omega) hn
   |some c=>
    rw[h2]at h;obtain⟨g1,g2,g3⟩:=entN_some T n h2;simp only[]at h;by_cases h3:atN T.fre n<atN T.fre c
    ·rw[if_pos h3]at h
     injection h with h
     subst h;refine⟨by omega,h1,fun j hj hn=>?_⟩;by_cases e:j=n
     ·rw[e];exact yX _
     ·have:=g3 j (by omega) hn;omega
    ·rw[if_neg h3]at h
     injection h with h
     subst h;refine⟨by omega,g2,fun j hj hn=>?_⟩;by_cases e:j=n
     ·rw[e];omega
     ·exact g3 j (by omega) hn
  ·rw[if_neg h1]at h
   obtain⟨g1,g2,g3⟩:=entN_some T n h;refine⟨by omega,g2,fun j hj hn=>?_⟩;by_cases e:j=n
   ·rw[e]at hn;exact absurd hn h1
   ·exact g3 j (by omega) hn
theorem jzc0(T:Tb):∀(n:Nat),entN T n=none->∀j,j<n->0<=at_ T.goal.co j
 |0,_,j,hj=>by omega
 |n+1,h,j,hj=>by
  have h:(if at_ T.goal.co n<0 then(match entN T n with
   |none=>some n
   |some b=>if atN T.fre n<atN T.fre b then some n else some b)else entN T n)=none:=h
  by_cases h1:at_ T.goal.co n<0
  ·rw[if_pos h1]at h
   cases h4:entN T n with
   |none=>rw[h4]at h;cases h
   |some c=>rw[h4]at h;simp only[]at h;split at h <;> cases h
  ·rw[if_neg h1]at h
   by_cases e:j=n
   ·rw[e];exact kQ4.1 h1
   ·exact jzc0 T n h j (by omega)
def quo(T:Tb)(j k:Nat):Rat:=(T.row k).re/at_ (T.row k).co j
def levN(T:Tb)(j:Nat):Nat->Option Nat
 |0=>none
 |i+1=>if 0<at_ (T.row i).co j then(match levN T j i with
  |none=>some i
  |some b=>if quo T j i<quo T j b\/quo T j i=quo T j b/\atN T.bas i<atN T.bas b then some i else some b)else levN T j i
def levT(T:Tb)(j:Nat):Option Nat:=levN T j T.rows.length
theorem uZ(T:Tb)(j:Nat):∀(n:Nat),levN T j n=none->∀k,k<n->at_ (T.row k).co j<=0
 |0,_,k,hk=>by omega
 |n+1,h,k,hk=>by
  have h:(if 0<at_ (T.row n).co j then(match levN T j n with
   |none=>some n
   |some b=>if quo T j n<quo T j b\/quo T j n=quo T j b/\atN T.bas n<atN T.bas b then some n else some b)else levN T j n)=none:=h
  by_cases h1:0<at_ (T.row n).co j
  ·rw[if_pos h1]at h
   cases h4:levN T j n with
   |none=>rw[h4]at h;cases h
   |some c=>rw[h4]at h;simp only[]at h;split at h <;> cases h
  ·rw[if_neg h1]at h
   by_cases e:k=n
   ·rw[e];exact kQ4.1 h1
   ·exact uZ T j n h k (by omega)
theorem levN_some(T:Tb)(j:Nat):∀(n:Nat) {b:Nat},levN T j n=some b->b<n/\0<at_ (T.row b).co j/\∀k,k<n->0<at_ (T.row k).co j->quo T j b<=quo T j k/\(quo T j b=quo T j k->atN T.bas b<=atN T.bas k)
 |0,_,h=>by cases h
 |n+1,b,h=>by
  have h:(if 0<at_ (T.row n).co j then(match levN T j n with
   |none=>some n
   |some b=>if quo T j n<quo T j b\/quo T j n=quo T j b/\atN T.bas n<atN T.bas b then some n else some b)else levN T j n)=some b:=h
  by_cases h1:0<at_ (T.row n).co j
  ·rw[if_pos h1]at h
   cases h2:levN T j n with
   |none=>
    rw[h2]at h;injection h with h
    subst h;refine⟨by omega,h1,fun k hk hp=>?_⟩;by_cases e:k=n
    ·rw[e];exact⟨vC,fun _=>yX _⟩
    ·have:=uZ T j n h2 k (by omega)
     exact absurd hp (kQ4.2 this)
   |some c=>
    rw[h2]at h;obtain⟨g1,g2,g3⟩:=levN_some T j n h2;simp only[]at h;by_cases h3:quo T j n<quo T j c\/quo T j n=quo T j c/\atN T.bas n<atN T.bas c
    ·rw[if_pos h3]at h
     injection h with h
     subst h;refine⟨by omega,h1,fun k hk hp=>?_⟩;by_cases e:k=n
     ·rw[e];exact⟨vC,fun _=>yX _⟩
     ·obtain⟨k1,k2⟩:=g3 k (by omega) hp
      rcases h3 with h3|⟨h3,h4⟩
      ·exact⟨by grind,fun e2=>by grind⟩
      ·exact⟨by grind,fun e2=>by
       have:=k2 (by grind);omega⟩
    ·rw[if_neg h3]at h
     injection h with h
     subst h;refine⟨by omega,g2,fun k hk hp=>?_⟩;by_cases e:k=n
     ·subst e
      refine⟨kQ4.1 fun h4=>h3 (.inl h4),fun e2=>Nat.le_of_not_lt fun h4=>h3 (.inr ⟨e2.symm,h4⟩)⟩
     ·exact g3 k (by omega) hp
  ·rw[if_neg h1]at h
   obtain⟨g1,g2,g3⟩:=levN_some T j n h;refine⟨by omega,g2,fun k hk hp=>?_⟩;by_cases e:k=n
   ·rw[e]at hp;exact absurd hp h1
   ·exact g3 k (by omega) hp
theorem Rep.all{T:Tb}{m nv:Nat}{M:Nat->Nat->Rat}(h:Rep T m nv M){v:Nat}(hv:v<nv):(∃l,l<m/\atN T.bas l=v)\/∃j,j<T.fre.length/\atN T.fre j=v:=by
 refine Classical.byContradiction fun hn=>?_;have hf:=h.fl;obtain⟨a,b,qf,hb,e⟩:=uQ nv (fun k=>if k<m then atN T.bas k else if k<nv then atN T.fre (k-m)else v) (fun k hk=>by split;{rename_i h1;exact h.di.lt k h1};split;{exact h.fv (k-m) (by omega)};exact hv);by_cases qa:b<m;{rw[if_pos (show a<m by omega),if_pos qa]at e;have:=h.di.inj (show a<m by omega) qa e;omega};rw[if_neg qa]at e;by_cases qe:b<nv;{rw[if_pos qe]at e;by_cases ha:a<m;{rw[if_pos ha]at e;exact h.fb (b-m) a (by omega) ha e.symm};rw[if_neg ha,if_pos (by omega)]at e;have:=h.fi (a-m) (b-m) (by omega) (by omega) e;omega};rw[if_neg qe]at e;by_cases ha:a<m;{rw[if_pos ha]at e;exact hn (.inl ⟨a,ha,e⟩)};rw[if_neg ha,if_pos (by omega)]at e;exact hn (.inr ⟨a-m,by omega,e⟩)
theorem Rep.bland{T:Tb}{m nv:Nat}{M:Nat->Nat->Rat}(h:Rep T m nv M){i j:Nat}(hj:entT T=some j)(hi:levT T j=some i):j<T.fre.length/\i<m/\Bl m nv M (atN T.bas) i (atN T.fre j):=by
 obtain⟨e1,e2,e3⟩:=entN_some T _ hj;obtain⟨l1,l2,l3⟩:=levN_some T j _ hi;rw[h.gl]at e1;rw[h.rl]at l1;refine⟨e1,l1,l1,h.fv j e1,by rw[<-h.go j e1];exact e2,fun v hv=>?_,by rw[<-h.co i j l1 e1];exact l2,fun k hk hp=>?_,fun k hk hp he=>?_⟩;{have qa:v<nv:=Nat.lt_trans hv (h.fv j e1);(rcases h.all qa with⟨l,hl,rfl⟩|⟨k,hk,rfl⟩);{rw[h.di.unit l hl m (yX _),if_neg (by omega)];exact vC};rw[<-h.go k hk];refine kQ4.1 fun hn=>?_;have:=e3 k (by rw[h.gl];exact hk) hn;omega};{rw[<-h.co k j hk e1]at hp;have:=(l3 k (by rw[h.rl];exact hk) hp).1;unfold quo at this;rw[h.re i l1,h.re k hk,h.co i j l1 e1,h.co k j hk e1]at this;exact this};rw[<-h.co k j hk e1]at hp;refine(l3 k (by rw[h.rl];exact hk) hp).2 ?_;unfold quo;rw[h.re i l1,h.re k hk,h.co i j l1 e1,h.co k j hk e1];exact he
def stepT(T:Tb):Option Tb:=match entT T with
 |none=>none
 |some j=>match levT T j with
  |none=>none
  |some i=>some (pivT T i j)
theorem stepT_some{T T':Tb}(h:stepT T=some T'):∃i j,entT T=some j/\levT T j=some i/\T'=pivT T i j:=by
 (unfold stepT at h;cases h1:entT T with|none=>rw[h1]at h;cases h|some j=>(rw[h1]at h;simp only[]at h;cases h2:levT T j with|none=>rw[h2]at h;cases h|some i=>(rw[h2]at h;injection h with h);exact⟨i,j,rfl,h2,h.symm⟩))
def iterT:Nat->Tb->Tb
 |0,T=>T
 |n+1,T=>(stepT (iterT n T)).getD (iterT n T)
theorem jzk7{T:Tb}{m nv:Nat}{M:Nat->Nat->Rat}(h:Rep T m nv M)(hf:∀k,k<m->0<=M k nv):∃N,stepT (iterT N T)=none/\∀n,n<N->stepT (iterT n T)≠none:=by
 have qg:∃N,stepT (iterT N T)=none:=(by refine Classical.byContradiction fun hn=>?_;have hs:∀n,∃i j,entT (iterT n T)=some j/\levT (iterT n T) j=some i/\iterT (n+1) T=pivT (iterT n T) i j:=fun n=>(by (cases h1:stepT (iterT n T)with|none=>exact absurd ⟨n,h1⟩ hn|some T'=>obtain⟨i,j,h2,h3,h4⟩:=stepT_some h1;refine⟨i,j,h2,h3,?_⟩;show(stepT (iterT n T)).getD _=_;rw[h1, <-h4];rfl));(let I:Nat->Nat:=fun n=>(hs n).choose);(let J:Nat->Nat:=fun n=>(hs n).choose_spec.choose);have qe:∀n,entT (iterT n T)=some (J n)/\levT (iterT n T) (J n)=some (I n)/\iterT (n+1) T=pivT (iterT n T) (I n) (J n):=fun n=>(hs n).choose_spec.choose_spec;(let MM:Nat->Nat->Nat->Rat:=fun n=>Nat.rec M (fun k Mk=>Sx.piv Mk (I k) (atN (iterT k T).fre (J k))) n);have qa:∀n,Rep (iterT n T) m nv (MM n):=fun n=>(by (induction n with|zero=>exact h|succ n ih=>obtain⟨h1,h2,h3⟩:=qe n;obtain⟨g1,g2,g3⟩:=ih.bland h1 h2;rw[h3];exact ih.pivot g2 g1 (fun e=>by have:=g3.pos;rw[<-ih.co _ _ g2 g1,e]at this;exact absurd this (by decide))));have qf:Run m nv (2^nv) MM (fun n=>atN (iterT n T).bas) I (fun n=>atN (iterT n T).fre (J n)):=(by refine⟨h.di,hf,fun n _=>((qa n).bland (qe n).1 (qe n).2.1).2.2,fun n _=>rfl,fun n _=>?_⟩;obtain⟨h1,h2,h3⟩:=qe n;obtain⟨g1,g2,g3⟩:=(qa n).bland h1 h2;funext l;show atN (iterT (n+1) T).bas l=_;rw[h3];show atN ((iterT n T).bas.set (I n) _) l=_;rw[iP _ _ _ _ (by rw[(qa n).bl];exact g2)];rfl);have:=qf.short;omega);obtain⟨N,hN⟩:=qg;(induction N using Nat.strongRecOn with|ind N ih=>by_cases h1:∃n,n<N/\stepT (iterT n T)=none;{obtain⟨n,hn,h2⟩:=h1;exact ih n hn h2};exact⟨N,hN,fun n hn h2=>h1 ⟨n,hn,h2⟩⟩)
end Sx
namespace Sx
theorem Rep.slack{T:Tb}{m nv:Nat}{M:Nat->Nat->Rat}(h:Rep T m nv M)(f:Nat->Rat):sm m f=(sm m fun l=>if atN T.bas l<m then f (atN T.bas l)else 0)+sm T.fre.length fun j=>if atN T.fre j<m then f (atN T.fre j)else 0:=by
 (have e1:sm m f=sm m fun i=>(sm m fun l=>if atN T.bas l=i then f i else 0)+sm T.fre.length fun j=>if atN T.fre j=i then f i else 0:=sm_congr m fun i hi=>(by (have hf:=h.fl;rcases h.all (show i<nv by omega)with⟨l,hl,e⟩|⟨j,hj,e⟩);{rw[sm_one m hl (fun k hk hkl=>by rw[if_neg (fun e2=>hkl (h.di.inj hk hl (by rw[e2,e])))]),sm_zero T.fre.length (fun j hj=>by rw[if_neg (fun e2=>h.fb j l hj hl (by rw[e2,e]))]),if_pos e];grind};rw[sm_zero m (fun l hl=>by rw[if_neg (fun e2=>h.fb j l hj hl (by rw[e2,e]))]),sm_one T.fre.length hj (fun k hk hkj=>by rw[if_neg (fun e2=>hkj (h.fi k j hk hj (by rw[e2,e])))]),if_pos e];grind));(have e2:∀v:Nat,(sm m fun i=>if v=i then f i else 0)=if v<m then f v else 0:=fun v=>(by by_cases hv:v<m;{rw[if_pos hv,sm_one m hv (fun i _ hi=>by rw[if_neg (fun e=>hi e.symm)]),if_pos rfl]};rw[if_neg hv,sm_zero m (fun i hi=>by rw[if_neg (by omega)])]));rw[e1,sm_add];congr 1;{rw[mR];exact sm_congr m fun l _=>e2 _};(have:=mR m T.fre.length fun i j=>if atN T.fre j=i then f i else 0);rw[this];exact sm_congr _ fun j _=>e2 _
def slk(T:Tb)(vals:LQ):Nat->LN
 |0=>[]
 |n+1=>if atN T.fre n<vals.length/\at_ vals (atN T.fre n)≠0 then slk T vals n++[n]else slk T vals n
def addC(T:Tb)(vals:LQ)(x:LQ)(base:Rat)(js:LN):Rat:=js.foldl (fun s j=>s+at_ x j*at_ vals (atN T.fre j)) base
theorem addC_snoc(T:Tb)(vals x:LQ)(base:Rat)(js:LN)(j:Nat):addC T vals x base (js++[j])=addC T vals x base js+at_ x j*at_ vals (atN T.fre j):=by unfold addC;rw[kZt];rfl
theorem wB(T:Tb)(vals x:LQ)(base:Rat):∀n,addC T vals x base (slk T vals n)=base+sm n fun j=>if atN T.fre j<vals.length then at_ x j*at_ vals (atN T.fre j)else 0
 |0=>by show base=base+0;grind
 |n+1=>by
  have ih:=wB T vals x base n;show addC T vals x base (if atN T.fre n<vals.length/\at_ vals (atN T.fre n)≠0 then slk T vals n++[n]else slk T vals n)=base+(sm n _+if atN T.fre n<vals.length then at_ x n*at_ vals (atN T.fre n)else 0);by_cases h1:atN T.fre n<vals.length
  ·rw[if_pos h1]
   by_cases h2:at_ vals (atN T.fre n)=0
   ·rw[if_neg (fun h=>h.2 h2),ih,h2];grind
   ·rw[if_pos ⟨h1,h2⟩,addC_snoc,ih];grind
  ·rw[if_neg h1,if_neg (fun h=>h1 h.1),ih];grind
def addR(T:Tb)(vals:LQ)(r:Rw)(base:Rat):Rw:=⟨r.co++[addC T vals r.co base (slk T vals T.fre.length)],r.re⟩
def addT(T:Tb)(cost:Rat)(vals:LQ):Tb:=
 ⟨(List.range T.rows.length).map (fun i=>addR T vals (T.row i) (if atN T.bas i<vals.length then at_ vals (atN T.bas i)else 0)),T.bas,T.fre++[T.rows.length+T.cols],
   ⟨T.goal.co++[addC T vals T.goal.co 0 (slk T vals T.fre.length)-cost],T.goal.re⟩,T.cols+1⟩
def newT(bounds:LQ):Tb:=⟨bounds.map fun b=>⟨[],b⟩,List.range bounds.length,[],⟨[],0⟩,0⟩
def cc(nv:Nat)(Cs:Nat->Nat->Rat)(b:Nat->Rat):Nat->Nat->Rat:=fun v=>if v<nv then Cs v else b
def kk(nv:Nat)(ks:Nat->Rat):Nat->Rat:=fun v=>if v<nv then ks v else 0
structure LPI(T:Tb)(m nv:Nat)(M:Nat->Nat->Rat)(Cs:Nat->Nat->Rat)(ks:Nat->Rat)(b:Nat->Rat):Prop where
 rep:Rep T m nv M
 col:Col m nv M (atN T.bas) (cc nv Cs b) (kk nv ks)
 row:rQ m nv M (cc nv Cs b) (kk nv ks)
 feas:∀k,k<m->0<=M k nv
 det:dB m (cc nv Cs b) (atN T.bas)≠0
 cols:T.cols=T.fre.length
 unit:∀j,j<m->∀i,i<m->Cs j i=if i=j then 1 else 0
 free:∀j,j<m->ks j=0
theorem LPI.step{T:Tb}{m nv:Nat}{M:Nat->Nat->Rat}{Cs:Nat->Nat->Rat}{ks b:Nat->Rat}(h:LPI T m nv M Cs ks b){T':Tb}(hs:stepT T=some T'):∃M',LPI T' m nv M' Cs ks b:=by
 obtain⟨i,j,h1,h2,rfl⟩:=stepT_some hs;obtain⟨g1,g2,g3⟩:=h.rep.bland h1 h2;have hp:M i (atN T.fre j)≠0:=fun e=>(by have:=g3.pos;rw[e]at this;exact absurd this (by decide));have hb:atN (pivT T i j).bas=fL (atN T.bas) i (atN T.fre j):=(by funext l;show atN (T.bas.set i _) l=_;rw[iP _ _ _ _ (by rw[h.rep.bl];exact g2)];rfl);refine⟨Sx.piv M i (atN T.fre j),h.rep.pivot g2 g1 (by rw[h.rep.co _ _ g2 g1];exact hp),by rw[hb];exact h.col.pivot g2 g3.he hp,h.row.pivot _ g2,g3.feas h.feas,?_,?_,h.unit,h.free⟩;{rw[hb,h.col.det_piv g2 g3.he];exact fun e=>(by (rcases Rat.mul_eq_zero.1 e with e|e);{exact hp e};exact h.det e)};show T.cols=(T.fre.set j _).length;rw[yV];exact h.cols
theorem LPI.iter{T:Tb}{m nv:Nat}{M:Nat->Nat->Rat}{Cs:Nat->Nat->Rat}{ks b:Nat->Rat}(h:LPI T m nv M Cs ks b):∀n,∃M',LPI (iterT n T) m nv M' Cs ks b
 |0=>⟨M,h⟩
 |n+1=>by
  obtain⟨M',h1⟩:=h.iter n;show∃M',LPI ((stepT (iterT n T)).getD (iterT n T)) m nv M' Cs ks b;cases h2:stepT (iterT n T)with
  |none=>exact⟨M',h1⟩
  |some T'=>exact h1.step h2
theorem jzc1(l:LQ)(x:Rat)(k:Nat):at_ (l++[x]) k=if k=l.length then x else at_ l k:=by
 unfold at_;by_cases h:k<l.length;{rw[yR h,if_neg (by omega)]};by_cases e:k=l.length;{rw[yS (by omega),e,if_pos rfl];simp};rw[yI (by simp;omega),yI (by omega),if_neg e]
theorem jzk8(l:LN)(x:Nat)(k:Nat):atN (l++[x]) k=if k=l.length then x else atN l k:=by
 unfold atN;by_cases h:k<l.length;{rw[yR h,if_neg (by omega)]};by_cases e:k=l.length;{rw[yS (by omega),e,if_pos rfl];simp};rw[yI (by simp;omega),yI (by omega),if_neg e]
def dU(m nv:Nat)(M:Nat->Nat->Rat)(vals:LQ)(cost:Rat):Nat->Nat->Rat:=fun k v=>
 if v<nv then M k v else if v=nv then(sm m fun i=>M k i*at_ vals i)-(if k=m then cost else 0)else M k nv
theorem LPI.add{T:Tb}{m nv:Nat}{M:Nat->Nat->Rat}{Cs:Nat->Nat->Rat}{ks b:Nat->Rat}(h:LPI T m nv M Cs ks b)(cost:Rat)(vals:LQ)(hv:vals.length=m){Cs':Nat->Nat->Rat}{ks':Nat->Rat}
  (hC:∀v,v<nv->Cs' v=Cs v) (hCn:∀i,i<m->Cs' nv i=at_ vals i) (hk:∀v,v<nv->ks' v=ks v) (hkn:ks' nv=cost):
  LPI (addT T cost vals) m (nv+1) (dU m nv M vals cost) Cs' ks' b:=by
 have hr:=h.rep;have qC:T.rows.length+T.cols=nv:=(by rw[hr.rl,h.cols];have:=hr.fl;omega);have hm:m<=nv:=(by have:=hr.fl;omega);have qe:(addT T cost vals).fre.length=T.fre.length+1:=(by show(T.fre++[_]).length=_;simp);have qh:∀k,k<m->(addT T cost vals).row k=addR T vals (T.row k) (if atN T.bas k<vals.length then at_ vals (atN T.bas k)else 0):=fun k hk=>(by show((List.range T.rows.length).map _)[k]?.getD _=_;rw[yW,xJ (by rw[hr.rl];exact hk)];rfl);(have qa:∀j,atN (addT T cost vals).fre j=if j=T.fre.length then nv else atN T.fre j:=fun j=>(by show atN (T.fre++[_]) j=_;rw[jzk8,qC]));have qi:∀k v,v<nv->dU m nv M vals cost k v=M k v:=fun k v hv=>if_pos hv;have qk:∀k,dU m nv M vals cost k nv=(sm m fun i=>M k i*at_ vals i)-(if k=m then cost else 0):=fun k=>(by unfold dU;rw[if_neg (by omega),if_pos rfl]);have qm:∀k,dU m nv M vals cost k (nv+1)=M k nv:=fun k=>(by unfold dU;rw[if_neg (by omega),if_neg (by omega)]);have qn:∀v,v<nv->cc (nv+1) Cs' b v=cc nv Cs b v:=fun v hv=>(by unfold cc;rw[if_pos (by omega),if_pos hv,hC v hv]);have qz:cc (nv+1) Cs' b nv=Cs' nv:=(by unfold cc;rw[if_pos (by omega)]);have qt:cc (nv+1) Cs' b (nv+1)=cc nv Cs b nv:=(by unfold cc;rw[if_neg (by omega),if_neg (by omega)]);have qw:∀v,v<nv->kk (nv+1) ks' v=kk nv ks v:=fun v hv=>(by unfold kk;rw[if_pos (by omega),if_pos hv,hk v hv]);have qp:kk (nv+1) ks' nv=cost:=(by unfold kk;rw[if_pos (by omega),hkn]);have qA:kk (nv+1) ks' (nv+1)=kk nv ks nv:=(by unfold kk;rw[if_neg (by omega),if_neg (by omega)]);have qj:∀l,l<m->atN T.bas l<nv:=hr.di.lt;have qx:∀k,k<m->addC T vals (T.row k).co (if atN T.bas k<vals.length then at_ vals (atN T.bas k)else 0) (slk T vals T.fre.length)=sm m fun i=>M k i*at_ vals i:=fun k hk=>(by rw[wB,hr.slack fun i=>M k i*at_ vals i,hv];congr 1;{(have hu:M k (atN T.bas k)=1:=by rw[hr.di.unit k hk k (by omega),if_pos rfl]);rw[sm_one m hk (fun l hl hlk=>by have hu:M k (atN T.bas l)=0:=(by rw[hr.di.unit l hl k (by omega),if_neg (fun e=>hlk e.symm)]);rw[hu];split <;> grind),hu];split <;> grind};exact sm_congr _ fun j hj=>by rw[hr.co k j hk hj])
 have qo:addC T vals T.goal.co 0 (slk T vals T.fre.length)=sm m fun i=>M m i*at_ vals i:=by
  rw[wB,hr.slack fun i=>M m i*at_ vals i,hv];congr 1
  ·rw[sm_zero m (fun l hl=>by
   have hu:M m (atN T.bas l)=0:=(by rw[hr.di.unit l hl m (by omega),if_neg (by omega)]);rw[hu];split <;> grind)]
  exact sm_congr _ fun j hj=>by rw[hr.go j hj]
 refine⟨⟨?_,hr.bl,by rw[qe];have:=hr.fl;omega,fun k hk=>?_,?_,fun j hj=>?_,fun j k hj hk e=>?_,fun j l hj hl e=>?_,fun k j hk hj=>?_,fun j hj=>?_,fun k hk=>?_,?_,⟨fun l hl k hk=>?_,fun l hl=>?_⟩⟩,fun v hv2=>?_,fun v hv2=>?_,fun k hk=>?_,?_,?_,fun j hj i hi=>?_,fun j hj=>?_⟩;{show((List.range T.rows.length).map _).length=m;simp[hr.rl]};{rw[qh k hk,qe];show((T.row k).co++[_]).length=_;rw[yQ,hr.cl k hk];rfl};{rw[qe];show(T.goal.co++[_]).length=_;rw[yQ,hr.gl];rfl};{rw[qe]at hj;rw[qa];split;{omega};have:=hr.fv j (by omega);omega};{rw[qe]at hj hk;rw[qa,qa]at e;by_cases h1:j=T.fre.length;{by_cases h2:k=T.fre.length;{omega};rw[if_pos h1,if_neg h2]at e;have:=hr.fv k (by omega);omega};by_cases h2:k=T.fre.length;{rw[if_neg h1,if_pos h2]at e;have:=hr.fv j (by omega);omega};rw[if_neg h1,if_neg h2]at e;exact hr.fi j k (by omega) (by omega) e};{rw[qe]at hj;rw[qa]at e;have e:_=atN T.bas l:=e;by_cases h1:j=T.fre.length;{rw[if_pos h1]at e;have:=qj l hl;omega};rw[if_neg h1]at e;exact hr.fb j l (by omega) hl e};{rw[qe]at hj;rw[qh k hk,qa];show at_ ((T.row k).co++[_]) j=_;rw[jzc1,hr.cl k hk];by_cases h1:j=T.fre.length;{rw[if_pos h1,if_pos h1,qk,qx k hk,if_neg (show¬k=m by omega)];grind};rw[if_neg h1,if_neg h1,qi _ _ (hr.fv j (by omega)),hr.co k j hk (by omega)]};{rw[qe]at hj;rw[qa];show at_ (T.goal.co++[_]) j=_;rw[jzc1,hr.gl];by_cases h1:j=T.fre.length;{rw[if_pos h1,if_pos h1,qk,if_pos rfl,qo]};rw[if_neg h1,if_neg h1,qi _ _ (hr.fv j (by omega)),hr.go j (by omega)]};{rw[qh k hk,qm];exact hr.re k hk};{rw[qm];exact hr.gr};{rw[show atN (addT T cost vals).bas l=atN T.bas l from rfl,qi _ _ (qj l hl)];exact hr.di.unit l hl k hk};{have:=qj l hl;show atN T.bas l<nv+1;omega};{have qy:∀l,l<m->∀i,cc (nv+1) Cs' b (atN (addT T cost vals).bas l) i=cc nv Cs b (atN T.bas l) i:=fun l hl i=>(by show cc (nv+1) Cs' b (atN T.bas l) i=_;rw[qn _ (qj l hl)]);have qB:∀l,l<m->kk (nv+1) ks' (atN (addT T cost vals).bas l)=kk nv ks (atN T.bas l):=fun l hl=>qw _ (qj l hl);have old:∀v0 v,v<=nv->(∀k,dU m nv M vals cost k v0=M k v)->cc (nv+1) Cs' b v0=cc nv Cs b v->kk (nv+1) ks' v0=kk nv ks v->(∀i,i<m->cc (nv+1) Cs' b v0 i=sm m fun l=>dU m nv M vals cost l v0*cc (nv+1) Cs' b (atN (addT T cost vals).bas l) i)/\dU m nv M vals cost m v0=(sm m fun l=>dU m nv M vals cost l v0*kk (nv+1) ks' (atN (addT T cost vals).bas l))-kk (nv+1) ks' v0:=fun v0 v hv0 h1 h2 h3=>(by obtain⟨g1,g2⟩:=h.col v hv0;refine⟨fun i hi=>?_,?_⟩;{rw[h2,g1 i hi];exact sm_congr m fun l hl=>by rw[h1,qy l hl]};rw[h1,h3,g2];congr 1;exact sm_congr m fun l hl=>by rw[h1,qB l hl]);by_cases h1:v<nv;{exact old v v (by omega) (fun k=>qi k v h1) (qn v h1) (qw v h1)};by_cases h2:v=nv;{subst h2;have qg:∀g:Nat->Rat,(sm m fun l=>dU m v M vals cost l v*g l)=sm m fun j=>at_ vals j*sm m fun l=>M l j*g l:=fun g=>(by have e1:(sm m fun l=>dU m v M vals cost l v*g l)=sm m fun l=>sm m fun j=>at_ vals j*(M l j*g l):=sm_congr m fun l hl=>(by have h0:dU m v M vals cost l v=sm m fun i=>M l i*at_ vals i:=(by rw[qk,if_neg (show¬l=m by omega)];grind);rw[h0,Rat.mul_comm, <-eF];exact sm_congr m fun j _=>by grind);rw[e1,mR];exact sm_congr m fun j _=>by rw[eF]);refine⟨fun i hi=>?_,?_⟩;{rw[qz,hCn i hi];(have e1:(sm m fun l=>dU m v M vals cost l v*cc (v+1) Cs' b (atN (addT T cost vals).bas l) i)=sm m fun l=>dU m v M vals cost l v*cc v Cs b (atN T.bas l) i:=sm_congr m fun l hl=>(by rw[qy l hl]);rw[e1,qg];have e2:(sm m fun j=>at_ vals j*sm m fun l=>M l j*cc v Cs b (atN T.bas l) i)=sm m fun j=>if j=i then at_ vals i else 0:=sm_congr m fun j hj=>(by (rw[<-(h.col j (by omega)).1 i hi];have:cc v Cs b j i=if i=j then 1 else 0:=by unfold cc;rw[if_pos (by omega),h.unit j hj i hi]);rw[this];by_cases e:j=i;{subst e;rw[if_pos rfl,if_pos rfl];grind};rw[if_neg e,if_neg (fun e2=>e e2.symm)];grind));rw[e2,sm_one m hi (fun j _ hj=>by rw[if_neg hj]),if_pos rfl]};rw[qk,if_pos rfl,qp];congr 1;have e1:(sm m fun l=>dU m v M vals cost l v*kk (v+1) ks' (atN (addT T cost vals).bas l))=sm m fun l=>dU m v M vals cost l v*kk v ks (atN T.bas l):=sm_congr m fun l hl=>(by rw[qB l hl]);rw[e1,qg];refine sm_congr m fun j hj=>?_;have h3:=(h.col j (by omega)).2;have h4:kk v ks j=0:=(by unfold kk;rw[if_pos (by omega),h.free j hj]);rw[h4]at h3;rw[h3];grind};obtain rfl:v=nv+1:=(by omega);exact old (nv+1) nv (yX _) qm qt qA};{(have qf:∀k,(sm m fun i=>dU m nv M vals cost k i*cc (nv+1) Cs' b v i)=sm m fun i=>M k i*cc (nv+1) Cs' b v i:=fun k=>sm_congr m fun i hi=>by rw[qi k i (by omega)]);rw[qf m];by_cases h1:v<nv;{obtain⟨g1,g2⟩:=h.row v (by omega);rw[qi m v h1,qw v h1];refine⟨fun k hk=>by rw[qf k,qi k v h1,qn v h1];exact g1 k hk,by rw[qn v h1];exact g2⟩};by_cases h2:v=nv;{subst h2;have e1:∀k,(sm m fun i=>M k i*cc (v+1) Cs' b v i)=sm m fun i=>M k i*at_ vals i:=fun k=>sm_congr m fun i hi=>(by rw[qz,hCn i hi]);refine⟨fun k hk=>?_,?_⟩;{rw[qf k,qk,if_neg (by omega),e1];grind};rw[qk,if_pos rfl,e1,qp]};obtain rfl:v=nv+1:=(by omega);obtain⟨g1,g2⟩:=h.row nv (yX _);rw[qm m,qA,qt];exact⟨fun k hk=>by have h3:=qf k;rw[qt]at h3;rw[qm k,h3];exact g1 k hk,g2⟩};{rw[qm];exact h.feas k hk};{have:dB m (cc (nv+1) Cs' b) (atN (addT T cost vals).bas)=dB m (cc nv Cs b) (atN T.bas):=kW m fun i _ l hl=>(by show cc (nv+1) Cs' b (atN T.bas l) i=_;rw[qn _ (qj l hl)]);rw[this];exact h.det};{show T.cols+1=_;rw[qe,h.cols]};{rw[hC j (by omega)];exact h.unit j hj i hi};rw[hk j (by omega)];exact h.free j hj
end Sx
namespace Sx
theorem jzk9(l:LQ){k:Nat}(hk:k<l.length):at_ l k=l[k]:=by unfold at_;rw[yG hk];rfl
theorem jzla(n k:Nat)(hk:k<n):atN (List.range n) k=k:=by unfold atN;rw[xJ hk];rfl
def iQ(m:Nat)(bounds:LQ):Nat->Nat->Rat:=fun k v=>if k<m then(if v<m then(if k=v then 1 else 0)else at_ bounds k)else 0
theorem LPI.start(bounds:LQ){m:Nat}(hm:bounds.length=m)(hb:∀k,k<m->0<=at_ bounds k){Cs:Nat->Nat->Rat}{ks:Nat->Rat}(hu:∀j,j<m->∀i,i<m->Cs j i=if i=j then 1 else 0)(hk:∀j,j<m->ks j=0):
  LPI (newT bounds) m m (iQ m bounds) Cs ks (fun i=>at_ bounds i):=by
 have qf:∀k,k<m->(newT bounds).row k=⟨[],at_ bounds k⟩:=fun k hk=>(by show(bounds.map fun b=>(⟨[],b⟩:Rw))[k]?.getD _=_;rw[yW,yG (by omega),jzk9 _ (by omega)];rfl);(have qa:∀l,l<m->atN (newT bounds).bas l=l:=fun l hl=>jzla _ _ (by omega);have hM:∀k v,k<m->v<m->iQ m bounds k v=if k=v then 1 else 0:=fun k v h1 h2=>by unfold iQ;rw[if_pos h1,if_pos h2]);have qg:∀k,k<m->iQ m bounds k m=at_ bounds k:=fun k h1=>(by unfold iQ;rw[if_pos h1,if_neg (by omega)]);have qe:∀v,iQ m bounds m v=0:=fun v=>(by unfold iQ;rw[if_neg (by omega)]);have hc:∀v,v<m->cc m Cs (fun i=>at_ bounds i) v=Cs v:=fun v hv=>(by unfold cc;rw[if_pos hv]);have qi:cc m Cs (fun i=>at_ bounds i) m=fun i=>at_ bounds i:=(by unfold cc;rw[if_neg (by omega)]);have qh:∀v,v<=m->kk m ks v=0:=fun v hv=>(by unfold kk;split;{rename_i h;exact hk v h};rfl);refine⟨⟨by show(bounds.map _).length=m;rw[xV,hm],by show(List.range _).length=m;rw[kZm,hm],by show 0+m=m;omega,fun k hk=>by rw[qf k hk];rfl,rfl,fun j hj=>absurd hj (by show¬j<0;omega),fun j k hj=>absurd hj (by show¬j<0;omega),fun j l hj=>absurd hj (by show¬j<0;omega),fun k j hk hj=>absurd hj (by show¬j<0;omega),fun j hj=>absurd hj (by show¬j<0;omega),fun k hk=>by rw[qf k hk,qg k hk],(qe m).symm,⟨fun l hl k hk=>?_,fun l hl=>by rw[qa l hl];exact hl⟩⟩,fun v hv=>⟨fun i hi=>?_,?_⟩,fun v hv=>⟨fun k hk2=>?_,?_⟩,fun k hk=>by rw[qg k hk];exact hb k hk,?_,rfl,hu,hk⟩;{rw[qa l hl];by_cases h:k<m;{exact hM k l h hl};obtain rfl:k=m:=(by omega);rw[qe,if_neg (by omega)]};{have e1:(sm m fun l=>iQ m bounds l v*cc m Cs (fun i=>at_ bounds i) (atN (newT bounds).bas l) i)=iQ m bounds i v:=(by rw[sm_one m hi (fun l hl hli=>by rw[qa l hl,hc l hl,hu l hl i hi,if_neg (fun e=>hli e.symm)];grind),qa i hi,hc i hi,hu i hi i hi,if_pos rfl];grind);rw[e1];by_cases h:v<m;{rw[hc v h,hu v h i hi,hM i v hi h]};obtain rfl:v=m:=(by omega);rw[qi,qg i hi]};{rw[qe,qh v hv,sm_zero m (fun l hl=>by rw[qa l hl,qh l (by omega)];grind)];grind};{have e1:(sm m fun i=>iQ m bounds k i*cc m Cs (fun i=>at_ bounds i) v i)=cc m Cs (fun i=>at_ bounds i) v k:=(by rw[sm_one m hk2 (fun i hi hik=>by rw[hM k i hk2 hi,if_neg (fun e=>hik e.symm)];grind),hM k k hk2 hk2,if_pos rfl];grind);rw[e1];by_cases h:v<m;{rw[hc v h,hu v h k hk2,hM k v hk2 h]};obtain rfl:v=m:=(by omega);rw[qi,qg k hk2]};{rw[qe,qh v hv,sm_zero m (fun i hi=>by rw[qe];grind)];grind};have e1:dB m (cc m Cs (fun i=>at_ bounds i)) (atN (newT bounds).bas)=dt m (fun i j=>if i=j then 1 else 0):=kW m fun i hi l hl=>(by rw[qa l hl,hc l hl,hu l hl i hi]);rw[e1,jzcp];decide
theorem jzc2(c:Nat):∀n,pr n (fun _=>((c:Int):Rat))=(((c^n:Nat):Int):Rat)
 |0=>rfl
 |n+1=>by
  show pr n _*_=_;rw[jzc2 c n, <-kZu,vD,kZk]
theorem wD(c:Nat):∀n,sm n (fun _=>((c:Int):Rat))=(((n*c:Nat):Int):Rat)
 |0=>by show(0:Rat)=_;rw[Nat.zero_mul];rfl
 |n+1=>by
  show sm n _+_=_;rw[wD c n, <-Rat.intCast_add,Nat.succ_mul,kZv]
theorem jzlb(z:Int):ab (z:Rat)=((z.natAbs:Int):Rat):=by
 unfold ab;by_cases h:z<0;{rw[if_pos (show((z:Int):Rat)<0 from Rat.intCast_lt_intCast.2 h), <-Rat.intCast_neg];congr 1;omega};rw[if_neg (fun h2=>h (by have:=Rat.intCast_lt_intCast.1 (show((z:Int):Rat)<((0:Int):Rat)from h2);omega))];congr 1;omega
theorem oL{z:Int}{n:Nat}(h:ab (z:Rat)<=((n:Int):Rat)):z.natAbs<=n:=by
 rw[jzlb]at h;have:=kQt.1 h;omega
def SzZ(q:Rat)(Z:Nat):Prop:=q.num.natAbs<=Z/\q.den<=Z
theorem size_of{q:Rat}{D N:Int}{Z:Nat}(hD:D≠0)(h:q*(D:Rat)=(N:Rat))(h1:D.natAbs<=Z)(h2:N.natAbs<=Z):SzZ q Z:=by
 have hz:q.num*D=N*q.den:=(by have h3:((q.num:Int):Rat)=q*((q.den:Int):Rat):=(by have h:=Rat.num_divInt_den q;have h3:((q.den:Int):Rat)≠0:=fun e=>(by have:=Rat.intCast_inj.1 (show((q.den:Int):Rat)=((0:Int):Rat)from e);have:=q.den_nz;omega);rw[Rat.divInt_eq_div]at h;grind);have h5:((q.num*D:Int):Rat)=((N*(q.den:Int):Int):Rat):=(by rw[kZu,kZu,h3, <-h];grind);exact Rat.intCast_inj.1 h5);have qa:q.num.natAbs*D.natAbs=N.natAbs*q.den:=(by have:=congrArg Int.natAbs hz;rw[Int.natAbs_mul,Int.natAbs_mul,Int.natAbs_natCast]at this;exact this);have qg:q.den∣D.natAbs:=(by have hc:Nat.Coprime q.den q.num.natAbs:=q.reduced.symm;exact hc.dvd_of_dvd_mul_left ⟨N.natAbs,by rw[qa,vE]⟩);have qe:0<D.natAbs:=Int.natAbs_pos.2 hD;obtain⟨c,hc⟩:=qg;have qf:0<c:=(by (rcases kQm c with h3|h3);{rw[h3]at hc;omega};exact h3);refine⟨?_,yY (Nat.le_of_dvd qe ⟨c,hc⟩) h1⟩;have qh:q.num.natAbs*c=N.natAbs:=(by have h3:q.den*(q.num.natAbs*c)=q.den*N.natAbs:=(by rw[<-kQg,vE q.den q.num.natAbs,kQg, <-hc,qa,vE]);exact Nat.eq_of_mul_eq_mul_left q.den_pos h3);have:q.num.natAbs<=q.num.natAbs*c:=Nat.le_mul_of_pos_right _ qf;omega
theorem LPI.size{T:Tb}{m nv:Nat}{M:Nat->Nat->Rat}{Cs:Nat->Nat->Rat}{ks b:Nat->Rat}(h:LPI T m nv M Cs ks b)(C:Nat)
  (hi:∀v,v<nv->∀i,i<m->isI (Cs v i)) (hbi:∀i,i<m->isI (b i)) (hki:∀v,v<nv->isI (ks v))
  (hc:∀v,v<nv->(sm m fun i=>ab (Cs v i))<=((C:Int):Rat)) (hcb:(sm m fun i=>ab (b i))<=((C:Int):Rat)) (hk:∀v,v<nv->ab (ks v)<=1):
  ∃Dn:Int,Dn≠0/\Dn.natAbs<=C^m/\∀k v,k<=m->v<=nv->isI (M k v*(Dn:Rat))/\SzZ (M k v) ((m+1)*C^m):=by
 have qi:∀l,l<m->atN T.bas l<nv:=h.rep.di.lt;have ci:∀v,v<=nv->∀i,i<m->isI (cc nv Cs b v i):=fun v hv i hi2=>(by unfold cc;split;{rename_i h1;exact hi v h1 i hi2};exact hbi i hi2);have cn:∀v,v<=nv->(sm m fun i=>ab (cc nv Cs b v i))<=((C:Int):Rat):=fun v hv=>(by unfold cc;split;{rename_i h1;exact hc v h1};exact hcb);have kn:∀v,ab (kk nv ks v)<=1:=fun v=>(by unfold kk;split;{rename_i h1;exact hk v h1};decide);have ki:∀v,isI (kk nv ks v):=fun v=>(by unfold kk;split;{rename_i h1;exact hki v h1};exact isI.zero);have qf:∀a:Nat->Nat->Rat,(∀l,l<m->∃v,v<=nv/\∀i,i<m->a i l=cc nv Cs b v i)->isI (dt m a)/\ab (dt m a)<=(((C^m:Nat):Int):Rat):=fun a ha=>(by refine⟨jzcq m fun i hi2 l hl=>?_,kQs (jzcv m a) ?_⟩;{obtain⟨v,hv,e⟩:=ha l hl;rw[e i hi2];exact ci v hv i hi2};rw[<-jzc2];refine uY m (fun l _=>gN m fun i _=>oK _) fun l hl=>?_;obtain⟨v,hv,e⟩:=ha l hl;have:(sm m fun i=>ab (a i l))=sm m fun i=>ab (cc nv Cs b v i):=sm_congr m fun i hi2=>(by rw[e i hi2]);rw[this];exact cn v hv);obtain⟨⟨D,hD⟩,qe⟩:=qf (fun i l=>cc nv Cs b (atN T.bas l) i) fun l hl=>⟨_,kQe (qi l hl),fun i _=>rfl⟩;have qj:dB m (cc nv Cs b) (atN T.bas)=(D:Rat):=hD;have qg:D≠0:=fun e=>h.det (by rw[qj,e];rfl);rw[hD]at qe;have qa:∀k,k<m->∀v,v<=nv->∃N:Int,M k v*(D:Rat)=(N:Rat)/\ab (N:Rat)<=(((C^m:Nat):Int):Rat):=fun k hk2 v hv=>(by have h1:=h.col.det hk2 hv;rw[qj]at h1;obtain⟨⟨N,hN⟩,qm⟩:=qf (rc (fun i l=>cc nv Cs b (atN T.bas l) i) k (cc nv Cs b v)) fun l hl=>(by by_cases e:l=k;{exact⟨v,hv,fun i _=>by rw[e,iO]⟩};exact⟨_,kQe (qi l hl),fun i _=>by rw[gS _ _ _ e]⟩);exact⟨N,by rw[<-h1,hN],by rw[<-hN];exact qm⟩);have qh:C^m<=(m+1)*C^m:=Nat.le_mul_of_pos_left _ (by omega);refine⟨D,qg,oL qe,fun k v hk2 hv=>?_⟩;by_cases qk:k<m;{obtain⟨N,h1,h2⟩:=qa k qk v hv;exact⟨⟨N,h1⟩,size_of qg h1 (yY (oL qe) qh) (yY (oL h2) qh)⟩};obtain rfl:k=m:=(by omega);have h1:=(h.col v hv).2;have h2:M k v*(D:Rat)=(sm k fun l=>(M l v*(D:Rat))*kk nv ks (atN T.bas l))-kk nv ks v*(D:Rat):=(by rw[h1];have e1:(sm k fun l=>(M l v*(D:Rat))*kk nv ks (atN T.bas l))=sm k fun l=>(D:Rat)*(M l v*kk nv ks (atN T.bas l)):=sm_congr k fun l _=>(by grind);rw[e1,eF];grind);have hI:isI (M k v*(D:Rat)):=(by rw[h2];have h3:isI (sm k fun l=>(M l v*(D:Rat))*kk nv ks (atN T.bas l)):=isI.sm k fun l hl=>(by obtain⟨N,h4,_⟩:=qa l hl v hv;exact(show isI (M l v*(D:Rat))from⟨N,h4⟩).mul (ki _));have h4:isI (kk nv ks v*(D:Rat)):=(ki v).mul ⟨D,rfl⟩;have:=h3.add h4.neg;rwa [<-Rat.sub_eq_add_neg]at this);obtain⟨N,hN⟩:=hI;refine⟨⟨N,hN⟩,size_of qg hN (yY (oL qe) qh) (oL ?_)⟩;rw[<-hN,h2];have h5:ab ((sm k fun l=>(M l v*(D:Rat))*kk nv ks (atN T.bas l))-kk nv ks v*(D:Rat))<=ab (sm k fun l=>(M l v*(D:Rat))*kk nv ks (atN T.bas l))+ab (kk nv ks v*(D:Rat)):=(by have:=jzcr (sm k fun l=>(M l v*(D:Rat))*kk nv ks (atN T.bas l)) (-(kk nv ks v*(D:Rat)));rw[lT, <-Rat.sub_eq_add_neg]at this;exact this);have one:∀x y c:Rat,ab x<=c->ab y<=1->ab (x*y)<=c:=fun x y c hx hy=>(by rw[uW];have:=yT hy (oK x);grind);have h6:ab (kk nv ks v*(D:Rat))<=(((C^k:Nat):Int):Rat):=(by rw[Rat.mul_comm];exact one _ _ _ qe (kn v));have h7:ab (sm k fun l=>(M l v*(D:Rat))*kk nv ks (atN T.bas l))<=(((k*C^k:Nat):Int):Rat):=(by refine kQs (uX k _) ?_;rw[<-wD];refine sm_le k fun l hl=>?_;obtain⟨N',h8,h9⟩:=qa l hl v hv;exact one _ _ _ (by rw[h8];exact h9) (kn _));have h8:((((k+1)*C^k:Nat):Int):Rat)=(((k*C^k:Nat):Int):Rat)+(((C^k:Nat):Int):Rat):=(by rw[<-Rat.intCast_add,Nat.succ_mul,kZv]);rw[h8];exact kQs h5 (by grind)
section
variable {T:Tb} {m nv:Nat} {M:Nat->Nat->Rat} {Cs:Nat->Nat->Rat} {ks b:Nat->Rat}
theorem LPI.dual(h:LPI T m nv M Cs ks b):(∀v,v<nv->M m v=(sm m fun i=>M m i*Cs v i)-ks v)/\M m nv=sm m fun i=>M m i*b i:=by
 refine⟨fun v hv=>?_,?_⟩;{have:=(h.row v (kQe hv)).2;unfold cc kk at this;rw[if_pos hv]at this;simp only[if_pos hv]at this;exact this};have:=(h.row nv (yX _)).2;unfold cc kk at this;simp only[if_neg (kZr nv)]at this;rw[this];grind
theorem LPI.overall(h:LPI T m nv M Cs ks b)(g f:Nat->Rat):(sm m fun l=>g l*f (atN T.bas l))=sm nv fun v=>(sm m fun l=>if atN T.bas l=v then g l else 0)*f v:=by
 (have e1:(sm nv fun v=>(sm m fun l=>if atN T.bas l=v then g l else 0)*f v)=sm nv fun v=>sm m fun l=>if atN T.bas l=v then g l*f v else 0:=sm_congr nv fun v _=>(by rw[<-uP];exact sm_congr m fun l _=>(by by_cases e:atN T.bas l=v;{rw[if_pos e,if_pos e]};rw[if_neg e,if_neg e];grind)));rw[e1,mR];refine sm_congr m fun l hl=>?_;rw[sm_one nv (h.rep.di.lt l hl) (fun v _ hv=>by rw[if_neg (fun e=>hv e.symm)]),if_pos rfl]
def xOf(T:Tb)(m nv:Nat)(M:Nat->Nat->Rat)(v:Nat):Rat:=sm m fun l=>if atN T.bas l=v then M l nv else 0
theorem LPI.primal(h:LPI T m nv M Cs ks b):(∀v,0<=xOf T m nv M v)/\(∀i,i<m->b i=sm nv fun v=>xOf T m nv M v*Cs v i)/\M m nv=sm nv fun v=>xOf T m nv M v*ks v:=by
 refine⟨fun v=>gN m fun l hl=>?_,fun i hi=>?_,?_⟩;{split;{exact h.feas l hl};exact vC};{have h1:=(h.col nv (yX _)).1 i hi;have e1:cc nv Cs b nv i=b i:=(by unfold cc;rw[if_neg (kZr nv)]);rw[e1]at h1;rw[h1];have e2:(sm m fun l=>M l nv*cc nv Cs b (atN T.bas l) i)=sm m fun l=>M l nv*(fun v=>Cs v i) (atN T.bas l):=sm_congr m fun l hl=>(by unfold cc;rw[if_pos (h.rep.di.lt l hl)]);rw[e2];exact h.overall (fun l=>M l nv) fun v=>Cs v i};have h1:=(h.col nv (yX _)).2;have e1:kk nv ks nv=0:=(by unfold kk;rw[if_neg (kZr nv)]);rw[e1]at h1;rw[h1];have e2:(sm m fun l=>M l nv*kk nv ks (atN T.bas l))=sm m fun l=>M l nv*ks (atN T.bas l):=sm_congr m fun l hl=>(by unfold kk;rw[if_pos (h.rep.di.lt l hl)]);rw[e2,h.overall];unfold xOf;grind
theorem LPI.x_bas(h:LPI T m nv M Cs ks b){l:Nat}(hl:l<m):xOf T m nv M (atN T.bas l)=M l nv:=by
 unfold xOf;rw[sm_one m hl (fun k hk hkl=>by rw[if_neg (fun e=>hkl (h.rep.di.inj hk hl e))]),if_pos rfl]
theorem jzc3{v:Nat}(hv:∀l,l<m->atN T.bas l≠v):xOf T m nv M v=0:=
 sm_zero m fun l hl=>by rw[if_neg (hv l hl)]
theorem LPI.noray(h:LPI T m nv M Cs ks b)(hn:∀r:Nat->Rat,(∀v,v<nv->0<=r v)->(∀i,i<m->(sm nv fun v=>r v*Cs v i)=0)->∀v,v<nv->r v=0){j:Nat}(hj:j<T.fre.length):levT T j≠none:=fun hl=>by
 have qf:=uZ T j _ hl;rw[h.rep.rl]at qf;have qa:=h.rep.fv j hj;have qg:∀l,l<m->atN T.bas l≠atN T.fre j:=fun l hl e=>h.rep.fb j l hj hl e.symm;have qe:∀l,l<m->0<= -M l (atN T.fre j):=fun l hl=>(by have:=qf l hl;rw[h.rep.co l j hl hj]at this;grind)
 have hr:=hn (fun v=>(if v=atN T.fre j then 1 else 0)+sm m fun l=>if atN T.bas l=v then-M l (atN T.fre j)else 0) (fun v _=>by
  have h1:(0:Rat)<=sm m fun l=>if atN T.bas l=v then-M l (atN T.fre j)else 0:=gN m fun l hl=>(by split;{exact qe l hl};exact vC)
  split <;> grind) (fun i hi=>by
  have e1:(sm nv fun v=>((if v=atN T.fre j then 1 else 0)+sm m fun l=>if atN T.bas l=v then-M l (atN T.fre j)else 0)*Cs v i)=sm nv fun v=>(if v=atN T.fre j then Cs v i else 0)+(sm m fun l=>if atN T.bas l=v then-M l (atN T.fre j)else 0)*Cs v i:=sm_congr nv fun v _=>(by split <;> grind);rw[e1,sm_add,sm_one nv qa (fun v _ hv=>by rw[if_neg hv]),if_pos rfl, <-h.overall (fun l=> -M l (atN T.fre j)) (fun v=>Cs v i)];have h1:=(h.col (atN T.fre j) (kQe qa)).1 i hi;have e2:cc nv Cs b (atN T.fre j) i=Cs (atN T.fre j) i:=(by unfold cc;rw[if_pos qa]);have e3:(sm m fun l=>M l (atN T.fre j)*cc nv Cs b (atN T.bas l) i)=sm m fun l=>M l (atN T.fre j)*Cs (atN T.bas l) i:=sm_congr m fun l hl=>(by unfold cc;rw[if_pos (h.rep.di.lt l hl)]);rw[e2,e3]at h1;have e4:(sm m fun l=> -M l (atN T.fre j)*Cs (atN T.bas l) i)=(-1)*sm m fun l=>M l (atN T.fre j)*Cs (atN T.bas l) i:=(by rw[<-eF];exact sm_congr m fun l _=>by grind)
  rw[e4, <-h1];grind) (atN T.fre j) qa
 rw[if_pos rfl,sm_zero m (fun l hl=>by rw[if_neg (qg l hl)])]at hr;rw[Rat.add_zero]at hr;exact absurd hr (by decide)
end
end Sx
namespace Sx
theorem lU(m:Nat)(f:Nat->Rat):∀k,sm (m+k) f=sm m f+sm k fun i=>f (m+i)
 |0=>by show sm m f=sm m f+0;grind
 |k+1=>by
  show sm (m+k) f+f (m+k)=sm m f+(sm k (fun i=>f (m+i))+f (m+k));rw[lU m f k];grind
theorem rS(m k:Nat)(f:Nat->Rat):sm (m+1+k) f=sm m f+f m+sm k fun i=>f (m+1+i):=by rw[lU];rfl
theorem jzc4:∀(n:Nat) {f:Nat->Rat},(∀k,k<n->0<=f k)->sm n f=0->∀k,k<n->f k=0
 |n+1,f,h,h0,k,hk=>by
  have h0:sm n f+f n=0:=h0;have h1:=gN n fun k hk=>h k (by omega);have h2:=h n (by omega);by_cases e:k=n
  ·rw[e];grind
  ·exact jzc4 n (fun k hk=>h k (by omega)) (by grind) k (by omega)
def vcol(L2:Nat)(am:Nat->Rat)(i:Nat):Rat:=if i<L2 then 0 else am (i-L2)
def pcol(L2:Nat)(p:Nat×LN)(i:Nat):Rat:=if i<L2 then(if i∈p.2 then 1 else 0)else if i=L2+p.1 then-1 else 0
def FC(L2 D:Nat)(am:Nat->Rat)(P:List (Nat×LN))(v i:Nat):Rat:=
 if v<L2+D then(if i=v then 1 else 0)else if v=L2+D then vcol L2 am i else pcol L2 (P[v-(L2+D+1)]?.getD (0,[])) i
def FK(m v:Nat):Rat:=if v=m then 1 else 0
def fb(L2:Nat)(cap:Nat->Rat)(i:Nat):Rat:=if i<L2 then cap i else 0
theorem lV(L2 D:Nat)(am:Nat->Rat)(P:List (Nat×LN)){v:Nat}(hv:v<L2+D)(i:Nat):FC L2 D am P v i=if i=v then 1 else 0:=if_pos hv
theorem kI(L2 D:Nat)(am:Nat->Rat)(P:List (Nat×LN))(i:Nat):FC L2 D am P (L2+D) i=vcol L2 am i:=by unfold FC;rw[if_neg (kZr _),if_pos rfl]
theorem lW(L2 D:Nat)(am:Nat->Rat)(P:List (Nat×LN))(k i:Nat):FC L2 D am P (L2+D+1+k) i=pcol L2 (P[k]?.getD (0,[])) i:=by
 unfold FC;rw[if_neg (by omega),if_neg (by omega),show L2+D+1+k-(L2+D+1)=k by omega]
theorem jzlc(L2 D:Nat)(am:Nat->Rat)(P:List (Nat×LN))(p:Nat×LN){v:Nat}(hv:v<L2+D+1+P.length):FC L2 D am (P++[p]) v=FC L2 D am P v:=by
 funext i;unfold FC;by_cases h1:v<L2+D;{rw[if_pos h1,if_pos h1]};by_cases h2:v=L2+D;{rw[if_neg h1,if_neg h1,if_pos h2,if_pos h2]};rw[if_neg h1,if_neg h1,if_neg h2,if_neg h2,yR (by omega)]
theorem LPI.congr{T:Tb}{m nv:Nat}{M:Nat->Nat->Rat}{Cs:Nat->Nat->Rat}{ks b b':Nat->Rat}(h:LPI T m nv M Cs ks b)(hb:∀i,i<m->b i=b' i):LPI T m nv M Cs ks b':=by
 have hc:∀v i,i<m->cc nv Cs b' v i=cc nv Cs b v i:=fun v i hi=>(by unfold cc;split;{rfl};exact(hb i hi).symm);refine⟨h.rep,fun v hv=>⟨fun i hi=>?_,(h.col v hv).2⟩,fun v hv=>⟨fun k hk=>?_,?_⟩,h.feas,?_,h.cols,h.unit,h.free⟩;{rw[hc v i hi,(h.col v hv).1 i hi];exact sm_congr m fun l _=>by rw[hc _ i hi]};{rw[(h.row v hv).1 k hk];exact sm_congr m fun i hi=>by rw[hc v i hi]};{rw[(h.row v hv).2];congr 1;exact sm_congr m fun i hi=>by rw[hc v i hi]};have:dB m (cc nv Cs b') (atN T.bas)=dB m (cc nv Cs b) (atN T.bas):=kW m fun i hi l _=>hc _ i hi;rw[this];exact h.det
section
variable {L2 D:Nat} {am cap:Nat->Rat} {P:List (Nat×List Nat)}
theorem jzld(hD:0<D)(ham:∀d,d<D->0<am d)(hP:∀p∈P,∃a,a∈p.2/\a<L2):∀r:Nat->Rat,(∀v,v<L2+D+1+P.length->0<=r v)->(∀i,i<L2+D->(sm (L2+D+1+P.length) fun v=>r v*FC L2 D am P v i)=0)->∀v,v<L2+D+1+P.length->r v=0:=fun r hr h=>by
 have qh:∀i,i<L2+D->(sm (L2+D) fun v=>r v*FC L2 D am P v i)=r i:=fun i hi=>(by rw[sm_one (L2+D) hi (fun v hv hvi=>by rw[lV _ _ _ _ hv,if_neg (fun e=>hvi e.symm)];grind),lV _ _ _ _ hi,if_pos rfl];grind);have qf:∀a,a<L2->r a=0/\∀k,k<P.length->r (L2+D+1+k)*pcol L2 (P[k]?.getD (0,[])) a=0:=fun a ha=>(by have h1:=h a (by omega);rw[rS,qh a (by omega),kI]at h1;have e1:vcol L2 am a=0:=if_pos ha;have e2:(sm P.length fun k=>r (L2+D+1+k)*FC L2 D am P (L2+D+1+k) a)=sm P.length fun k=>r (L2+D+1+k)*pcol L2 (P[k]?.getD (0,[])) a:=sm_congr _ fun k _=>(by rw[lW]);rw[e1,e2]at h1;have qi:∀k,k<P.length->0<=r (L2+D+1+k)*pcol L2 (P[k]?.getD (0,[])) a:=fun k hk=>(by refine vA (hr _ (by omega)) ?_;unfold pcol;rw[if_pos ha];split;{decide};exact vC);have h2:=gN _ qi;have h3:=hr a (by omega);exact⟨by grind,jzc4 _ qi (by grind)⟩);have qa:∀k,k<P.length->r (L2+D+1+k)=0:=fun k hk=>(by obtain⟨a,ha,qj⟩:=hP P[k] (xR hk);have h1:=(qf a qj).2 k hk;rw[yG hk]at h1;have h2:pcol L2 ((some P[k]).getD (0,[])) a=1:=(by unfold pcol;rw[if_pos qj];exact if_pos ha);rw[h2]at h1;grind);have qe:∀d,d<D->r (L2+d)+r (L2+D)*am d=0:=fun d hd=>(by have h1:=h (L2+d) (by omega);rw[rS,qh _ (by omega),kI,sm_zero P.length (fun k hk=>by rw[qa k hk];grind)]at h1;have e1:vcol L2 am (L2+d)=am d:=(by unfold vcol;rw[if_neg (by omega),show L2+d-L2=d by omega]);rw[e1]at h1;grind);have qg:r (L2+D)=0:=(by (have h1:=qe 0 hD;have h2:=hr (L2+0) (by omega);have h3:=hr (L2+D) (by omega);have h4:=ham 0 hD;have h5:=vA h3 (vB h4);have h6:r (L2+D)*am 0=0:=(by grind);rcases Rat.mul_eq_zero.1 h6 with h7|h7);{exact h7};grind);intro v hv;by_cases h1:v<L2;{exact(qf v h1).1};by_cases h2:v<L2+D;{have h3:=qe (v-L2) (by omega);rw[qg,show L2+(v-L2)=v by omega]at h3;grind};by_cases h3:v=L2+D;{rw[h3];exact qg};have:=qa (v-(L2+D+1)) (by omega);rw[show L2+D+1+(v-(L2+D+1))=v by omega]at this;exact this
theorem jzle{T:Tb}{M:Nat->Nat->Rat}(h:LPI T (L2+D) (L2+D+1+P.length) M (FC L2 D am P) (FK (L2+D)) (fb L2 cap))(hg:∀v,v<L2+D+1+P.length->0<=M (L2+D) v):
  (sm L2 fun a=>M (L2+D) a*cap a)=M (L2+D) (L2+D+1+P.length)/\
  1<=(sm D fun d=>M (L2+D) (L2+d)*am d)/\
  (∀k,k<P.length->(P[k]?.getD (0,[])).1<D->M (L2+D) (L2+(P[k]?.getD (0,[])).1)<=sm L2 fun a=>if a∈(P[k]?.getD (0,[])).2 then M (L2+D) a else 0):=by
 obtain⟨h1,h2⟩:=h.dual;refine⟨?_,?_,fun k hk hd=>?_⟩;{rw[h2,lU L2 _ D,sm_zero D (fun d hd=>by unfold fb;rw[if_neg (by omega)];grind)];have:(sm L2 fun i=>M (L2+D) i*fb L2 cap i)=sm L2 fun a=>M (L2+D) a*cap a:=sm_congr L2 fun a ha=>(by unfold fb;rw[if_pos ha]);rw[this];grind};{have h3:=h1 (L2+D) (by omega);have h4:=hg (L2+D) (by omega);rw[lU L2 _ D,sm_zero L2 (fun a ha=>by rw[kI];unfold vcol;rw[if_pos ha];grind)]at h3;have e1:(sm D fun d=>M (L2+D) (L2+d)*FC L2 D am P (L2+D) (L2+d))=sm D fun d=>M (L2+D) (L2+d)*am d:=sm_congr D fun d _=>(by rw[kI];unfold vcol;rw[if_neg (by omega),show L2+d-L2=d by omega]);have e2:FK (L2+D) (L2+D)=1:=if_pos rfl;rw[e1,e2]at h3;grind};(have h3:=h1 (L2+D+1+k) (by omega);have h4:=hg (L2+D+1+k) (by omega);have e2:FK (L2+D) (L2+D+1+k)=0:=if_neg (by omega);rw[e2,lU L2 _ D]at h3;have e1:(sm L2 fun a=>M (L2+D) a*FC L2 D am P (L2+D+1+k) a)=sm L2 fun a=>if a∈(P[k]?.getD (0,[])).2 then M (L2+D) a else 0:=sm_congr L2 fun a ha=>(by rw[lW];unfold pcol;rw[if_pos ha];split <;> grind));have e3:(sm D fun d=>M (L2+D) (L2+d)*FC L2 D am P (L2+D+1+k) (L2+d))= -M (L2+D) (L2+(P[k]?.getD (0,[])).1):=(by rw[sm_one D hd (fun d _ hne=>by rw[lW];unfold pcol;rw[if_neg (by omega),if_neg (by omega)];grind),lW];unfold pcol;rw[if_neg (by omega),if_pos rfl];grind);rw[e1,e3]at h3;grind
theorem jzlf{T:Tb}{M:Nat->Nat->Rat}(h:LPI T (L2+D) (L2+D+1+P.length) M (FC L2 D am P) (FK (L2+D)) (fb L2 cap)):
  (∀v,0<=xOf T (L2+D) (L2+D+1+P.length) M v)/\
  M (L2+D) (L2+D+1+P.length)=xOf T (L2+D) (L2+D+1+P.length) M (L2+D)/\
  (∀a,a<L2->(sm P.length fun k=>if a∈(P[k]?.getD (0,[])).2 then xOf T (L2+D) (L2+D+1+P.length) M (L2+D+1+k)else 0)<=cap a)/\
  (∀d,d<D->M (L2+D) (L2+D+1+P.length)*am d<=sm P.length fun k=>if(P[k]?.getD (0,[])).1=d then xOf T (L2+D) (L2+D+1+P.length) M (L2+D+1+k)else 0):=by
 obtain⟨h1,h2,h3⟩:=h.primal;generalize hx:xOf T (L2+D) (L2+D+1+P.length) M=x at*;have hv:M (L2+D) (L2+D+1+P.length)=x (L2+D):=(by rw[h3,sm_one (L2+D+1+P.length) (show L2+D<L2+D+1+P.length by omega) (fun v _ hv=>by rw[show FK (L2+D) v=0 from if_neg hv];grind),show FK (L2+D) (L2+D)=1 from if_pos rfl];grind);have qa:∀i,i<L2+D->(sm (L2+D) fun v=>x v*FC L2 D am P v i)=x i:=fun i hi=>(by rw[sm_one (L2+D) hi (fun v hv hvi=>by rw[lV _ _ _ _ hv,if_neg (fun e=>hvi e.symm)];grind),lV _ _ _ _ hi,if_pos rfl];grind);refine⟨h1,hv,fun a ha=>?_,fun d hd=>?_⟩;{have h4:=h2 a (by omega);(rw[rS,qa a (by omega),kI]at h4;have e1:vcol L2 am a=0:=if_pos ha;have e2:(sm P.length fun k=>x (L2+D+1+k)*FC L2 D am P (L2+D+1+k) a)=sm P.length fun k=>if a∈(P[k]?.getD (0,[])).2 then x (L2+D+1+k)else 0:=sm_congr _ fun k _=>(by rw[lW];unfold pcol;rw[if_pos ha];split <;> grind));have e3:fb L2 cap a=cap a:=if_pos ha;rw[e1,e2,e3]at h4;have:=h1 a;grind};(have h4:=h2 (L2+d) (by omega);rw[rS,qa _ (by omega),kI]at h4;have e1:vcol L2 am (L2+d)=am d:=(by unfold vcol;rw[if_neg (by omega),show L2+d-L2=d by omega]);have e2:(sm P.length fun k=>x (L2+D+1+k)*FC L2 D am P (L2+D+1+k) (L2+d))=(-1)*sm P.length fun k=>if(P[k]?.getD (0,[])).1=d then x (L2+D+1+k)else 0:=(by rw[<-eF];refine sm_congr _ fun k _=>?_;rw[lW];unfold pcol;rw[if_neg (by omega)];by_cases e:(P[k]?.getD (0,[])).1=d;{rw[if_pos (by omega),if_pos e];grind};rw[if_neg (by omega),if_neg e];grind));have e3:fb L2 cap (L2+d)=0:=if_neg (by omega);rw[e1,e2,e3]at h4;rw[hv];have:=h1 (L2+d);grind
def FLP(L2 D:Nat)(am cap:Nat->Rat)(T:Tb)(P:List (Nat×LN)):Prop:=∃M,LPI T (L2+D) (L2+D+1+P.length) M (FC L2 D am P) (FK (L2+D)) (fb L2 cap)
theorem FLP.start{bounds vals:LQ}(hb:bounds.length=L2+D)(hbv:∀i,i<L2+D->at_ bounds i=fb L2 cap i)(hcap:∀a,a<L2->0<=cap a)(hv:vals.length=L2+D)(hvv:∀i,i<L2+D->at_ vals i=vcol L2 am i):FLP L2 D am cap (addT (newT bounds) 1 vals) []:=by
 have h0:=LPI.start bounds hb (fun k hk=>by rw[hbv k hk];unfold fb;split;{rename_i h;exact hcap k h};exact vC) (Cs:=FC L2 D am []) (ks:=FK (L2+D)) (fun j hj i _=>lV _ _ _ _ hj i) (fun j hj=>if_neg (by omega));have h1:=h0.add (1:Rat) vals hv (Cs':=FC L2 D am []) (ks':=FK (L2+D)) (fun v _=>rfl) (fun i hi=>by rw[kI,hvv i hi]) (fun v _=>rfl) (if_pos rfl);exact⟨_,h1.congr hbv⟩
theorem FLP.add{T:Tb}{p:Nat×LN}{vals:LQ}(h:FLP L2 D am cap T P)(hv:vals.length=L2+D)(hvv:∀i,i<L2+D->at_ vals i=pcol L2 p i):FLP L2 D am cap (addT T 0 vals) (P++[p]):=by
 obtain⟨M,h⟩:=h;have h1:=h.add (0:Rat) vals hv (Cs':=FC L2 D am (P++[p])) (ks':=FK (L2+D)) (fun v hv=>jzlc _ _ _ _ _ hv) (fun i hi=>by rw[lW,yS (yX _),Nat.sub_self];exact(hvv i hi).symm) (fun v _=>rfl) (if_neg (by omega));rw[show L2+D+1+P.length+1=L2+D+1+(P++[p]).length by simp;omega]at h1;exact⟨_,h1⟩
theorem FLP.iter{T:Tb}(h:FLP L2 D am cap T P)(n:Nat):FLP L2 D am cap (iterT n T) P:=by
 obtain⟨M,h⟩:=h;obtain⟨M',h'⟩:=h.iter n;exact⟨M',h'⟩
theorem FLP.max{T:Tb}(h:FLP L2 D am cap T P)(hD:0<D)(ham:∀d,d<D->0<am d)(hP:∀p∈P,∃a,a∈p.2/\a<L2):∃N,entT (iterT N T)=none/\∀n,n<N->∃j i,entT (iterT n T)=some j/\levT (iterT n T) j=some i:=by
 obtain⟨M,h0⟩:=h;obtain⟨N,h1,h2⟩:=jzk7 h0.rep h0.feas;have qa:∀n j,entT (iterT n T)=some j->levT (iterT n T) j≠none:=fun n j hj=>(by obtain⟨M',h3⟩:=h0.iter n;have h4:=(entN_some _ _ hj).1;rw[h3.rep.gl]at h4;exact h3.noray (jzld hD ham hP) h4);refine⟨N,?_,fun n hn=>?_⟩;{(cases h3:entT (iterT N T)with|none=>rfl|some j=>(exfalso;have h4:=qa N j h3;unfold stepT at h1;rw[h3]at h1;simp only[]at h1;cases h5:levT (iterT N T) j with|none=>exact h4 h5|some i=>rw[h5]at h1;cases h1))};(have h3:=h2 n hn;cases h4:stepT (iterT n T)with|none=>exact absurd h4 h3|some T'=>obtain⟨i,j,g1,g2,_⟩:=stepT_some h4;exact⟨j,i,g1,g2⟩)
theorem jzc5(L2:Nat)(p:Nat×LN)(i:Nat):pcol L2 p i=0\/pcol L2 p i=1\/pcol L2 p i= -1:=by
 unfold pcol;split;{split;{exact .inr (.inl rfl)};exact .inl rfl};split;{exact .inr (.inr rfl)};exact .inl rfl
theorem FLP.size{T:Tb}(h:FLP L2 D am cap T P)(C:Nat)(hC:L2+D<=C)(hC1:1<=C)(hca:∀a,a<L2->isI (cap a)/\0<=cap a)(ham:∀d,d<D->isI (am d)/\0<=am d)(hsc:sm L2 cap<=((C:Int):Rat))(hsa:sm D am<=((C:Int):Rat)):
  ∃M,LPI T (L2+D) (L2+D+1+P.length) M (FC L2 D am P) (FK (L2+D)) (fb L2 cap)/\∃Dn:Int,Dn≠0/\Dn.natAbs<=C^(L2+D)/\∀k v,k<=L2+D->v<=L2+D+1+P.length->isI (M k v*(Dn:Rat))/\SzZ (M k v) ((L2+D+1)*C^(L2+D)):=by
 obtain⟨M,h⟩:=h;have c1:((1:Int):Rat)<=((C:Int):Rat):=kQt.2 (by omega);refine⟨M,h,h.size C (fun v hv i hi=>?_) (fun i hi=>?_) (fun v hv=>?_) (fun v hv=>?_) ?_ (fun v hv=>?_)⟩;{unfold FC;split;{split;{exact isI.one};exact isI.zero};split;{unfold vcol;split;{exact isI.zero};exact(ham _ (by omega)).1};(rcases jzc5 L2 (P[v-(L2+D+1)]?.getD (0,[])) i with e|e|e);{rw[e];exact isI.zero};{rw[e];exact isI.one};rw[e];exact isI.one.neg};{unfold fb;split;{rename_i h1;exact(hca i h1).1};exact isI.zero};{unfold FK;split;{exact isI.one};exact isI.zero};{by_cases h1:v<L2+D;{rw[sm_one (L2+D) h1 (fun i _ hi=>by rw[lV _ _ _ _ h1,if_neg hi];rfl),lV _ _ _ _ h1,if_pos rfl];exact kQs (show ab 1<=((1:Int):Rat) by decide) c1};by_cases h2:v=L2+D;{subst h2;rw[lU L2 _ D,sm_zero L2 (fun i hi=>by rw[kI];unfold vcol;rw[if_pos hi];rfl)];have:(sm D fun d=>ab (FC L2 D am P (L2+D) (L2+d)))=sm D am:=sm_congr D fun d hd=>(by rw[kI];unfold vcol;rw[if_neg (by omega),show L2+d-L2=d by omega];unfold ab;rw[if_neg (kQ4.2 (ham d hd).2)]);rw[this];grind};have h3:∀i,ab (FC L2 D am P v i)<=((1:Int):Rat):=fun i=>(by (unfold FC;rw[if_neg h1,if_neg h2];rcases jzc5 L2 (P[v-(L2+D+1)]?.getD (0,[])) i with e|e|e);{rw[e];decide};{rw[e];decide};rw[e];decide);refine kQs (sm_le (L2+D) (g:=fun _=>((1:Nat):Int)) fun i _=>h3 i) ?_;rw[wD 1 (L2+D),Nat.mul_one];exact kQt.2 (by omega)};{rw[lU L2 _ D,sm_zero D (fun d _=>by unfold fb;rw[if_neg (by omega)];rfl)];have:(sm L2 fun i=>ab (fb L2 cap i))=sm L2 cap:=sm_congr L2 fun a ha=>(by unfold fb;rw[if_pos ha];unfold ab;rw[if_neg (kQ4.2 (hca a ha).2)]);rw[this];grind};unfold FK;split;{decide};decide
end
end Sx
namespace Sx
def ls{α:Type}(f:α->Rat):List α->Rat
 | []=>0
 |a::l=>f a+ls f l
section
variable {α:Type}
theorem ls_app(f:α->Rat):∀l k:List α,ls f (l++k)=ls f l+ls f k
 | [],k=>by show ls f k=0+ls f k;grind
 |a::l,k=>by
  show f a+ls f (l++k)=f a+ls f l+ls f k;rw[ls_app f l k];grind
theorem kX{f g:α->Rat}:∀{l:List α},(∀a∈l,f a=g a)->ls f l=ls g l
 | [],_=>rfl
 |a::l,h=>by
  show f a+ls f l=g a+ls g l;rw[h a (by simp),kX fun b hb=>h b (by simp[hb])]
theorem jzc6{f:α->Rat}{l:List α}(h:∀a∈l,f a=0):ls f l=0:=by
 (induction l with|nil=>rfl|cons a l ih=>show f a+ls f l=0;rw[h a (by simp),ih fun b hb=>h b (by simp[hb])];grind)
theorem rT{f g:α->Rat}:∀{l:List α},(∀a∈l,f a<=g a)->ls f l<=ls g l
 | [],_=>vC
 |a::l,h=>by
  show f a+ls f l<=g a+ls g l;have h1:=h a (by simp);have h2:=rT (l:=l) fun b hb=>h b (by simp[hb]);grind
theorem rU{f:α->Rat}:∀{l:List α},(∀a∈l,0<=f a)->0<=ls f l
 | [],_=>vC
 |a::l,h=>by
  show 0<=f a+ls f l;have h1:=h a (by simp);have h2:=rU (l:=l) fun b hb=>h b (by simp[hb]);grind
theorem jzc7(f g:α->Rat):∀l:List α,ls (fun a=>f a+g a) l=ls f l+ls g l
 | []=>by show(0:Rat)=0+0;grind
 |a::l=>by
  show f a+g a+ls _ l=f a+ls f l+(g a+ls g l);rw[jzc7 f g l];grind
theorem oM(c:Rat)(f:α->Rat):∀l:List α,ls (fun a=>c*f a) l=c*ls f l
 | []=>by show(0:Rat)=c*0;grind
 |a::l=>by
  show c*f a+ls _ l=c*(f a+ls f l);rw[oM c f l];grind
theorem mT(n:Nat)(f:α->Nat->Rat):∀l:List α,ls (fun a=>sm n (f a)) l=sm n fun k=>ls (fun a=>f a k) l
 | []=>by
   show(0:Rat)=_;exact(sm_zero n fun k _=>rfl).symm
 |a::l=>by
  show sm n (f a)+ls _ l=sm n fun k=>f a k+ls (fun a=>f a k) l;rw[mT n f l,sm_add]
theorem wE{β:Type}(f:α->Rat)(g:β->List α):∀l:List β,ls f (l.flatMap g)=ls (fun b=>ls f (g b)) l
 | []=>rfl
 |b::l=>by
  rw[xU,ls_app,wE f g l];rfl
theorem wF(f:Nat->Rat):∀n:Nat,ls f (List.range n)=sm n f
 |0=>rfl
 |n+1=>by
  rw[kZc,ls_app,wF f n];show sm n f+(f n+0)=sm n f+f n;grind
end
theorem wG:∀(n:Nat) (f:Nat->Rat),sm (n+1) f=f 0+sm n fun k=>f (k+1)
 |0,f=>by show 0+f 0=f 0+0;grind
 |n+1,f=>by
  show sm (n+1) f+f (n+1)=f 0+((sm n fun k=>f (k+1))+f (n+1));rw[wG n f];grind
def zipF:List (Nat×LN)->LQ->List ((Nat×LN)×Rat)
 |p::l,q::k=>(p,q)::zipF l k
 |_,_=>[]
theorem wH(F:Nat×LN->Rat->Rat)(d0:Nat×LN):∀(P:List (Nat×LN)) (fl:LQ),fl.length=P.length->ls (fun z=>F z.1 z.2) (zipF P fl)=sm P.length fun k=>F (P[k]?.getD d0) (at_ fl k)
 | [],[],_=>rfl
 |p::P,q::fl,h=>by
  have h:fl.length+1=P.length+1:=h;show F p q+ls (fun z=>F z.1 z.2) (zipF P fl)=sm (P.length+1) _;rw[wG,wH F d0 P fl (by omega)];rfl
theorem zipF_keys:∀(P:List (Nat×LN)) (fl:LQ),fl.length=P.length->(zipF P fl).map (·.1)=P
 | [],[],_=>rfl
 |p::P,q::fl,h=>by
  have h:fl.length+1=P.length+1:=h;show p::(zipF P fl).map (·.1)=_;rw[zipF_keys P fl (by omega)]
theorem zipF_mem:∀(P:List (Nat×LN)) (fl:LQ) {z:(Nat×LN)×Rat},z∈zipF P fl->z.1∈P/\z.2∈fl
 | [],_,_,h=>by cases h
 |_::_,[],_,h=>by cases h
 |p::P,q::fl,z,h=>by
  have h:z∈(p,q)::zipF P fl:=h;rcases xZ.1 h with e|e
  ·rw[e];exact⟨by simp,by simp⟩
  ·have:=zipF_mem P fl e
   exact⟨by simp[this.1],by simp[this.2]⟩
def cut(d:Nat):Rat->List ((Nat×LN)×Rat)->List ((Nat×LN)×Rat)
 |_,[]=>[]
 |r,z::l=>if z.1.1=d then(if 0<(if r<z.2 then r else z.2)then [(z.1,if r<z.2 then r else z.2)]else [])++cut d (r-(if r<z.2 then r else z.2)) l else cut d r l
theorem cut_mem{d:Nat}:∀{r:Rat} {l:List ((Nat×LN)×Rat)} {z:(Nat×LN)×Rat},z∈cut d r l->z.1.1=d/\0<z.2/\∃f,(z.1,f)∈l/\z.2<=f
 |_,[],_,h=>by cases h
 |r,y::l,z,h=>by
  unfold cut at h;by_cases hd:y.1.1=d
  ·rw[if_pos hd]at h
   rcases xY.1 h with h1|h1
   ·by_cases hp:0<(if r<y.2 then r else y.2)
    ·rw[if_pos hp]at h1
     have h1:=xD.1 h1;subst h1;refine⟨hd,hp,y.2,by simp,?_⟩;show(if r<y.2 then r else y.2)<=y.2
     split <;> grind
    ·rw[if_neg hp]at h1
     cases h1
   ·obtain⟨a1,a2,f,a4,a5⟩:=cut_mem h1
    exact⟨a1,a2,f,by simp[a4],a5⟩
  ·rw[if_neg hd]at h
   obtain⟨a1,a2,f,a4,a5⟩:=cut_mem h;exact⟨a1,a2,f,by simp[a4],a5⟩
theorem cut_keys(d:Nat):∀(r:Rat) (l:List ((Nat×LN)×Rat)),((cut d r l).map (·.1)).Sublist (l.map (·.1))
 |_,[]=>List.Sublist.slnil
 |r,z::l=>by
  unfold cut;by_cases hd:z.1.1=d
  ·rw[if_pos hd,List.map_append]
   by_cases hp:0<(if r<z.2 then r else z.2)
   ·rw[if_pos hp];exact(cut_keys d _ l).cons_cons _
   ·rw[if_neg hp];exact(cut_keys d _ l).cons _
  ·rw[if_neg hd];exact(cut_keys d _ l).cons _
theorem wI(d:Nat):∀(r:Rat) (l:List ((Nat×LN)×Rat)),0<=r->(∀z∈l,0<=z.2)->r<=ls (fun z=>if z.1.1=d then z.2 else 0) l->ls (fun z=>z.2) (cut d r l)=r
 |r,[],h0,_,h=>by
  have h:r<=0:=h;show(0:Rat)=r;grind
 |r,z::l,h0,hz,h=>by
  have h:r<=(if z.1.1=d then z.2 else 0)+ls _ l:=h;have qa:=hz z (by simp);unfold cut
  split
  ·rename_i hd
   rw[if_pos hd]at h;rw[ls_app];have hr:0<=r-(if r<z.2 then r else z.2):=(by split <;> grind);have hl:∀z∈l,0<=z.2:=fun y hy=>hz y (by simp[hy]);have qe:0<=ls (fun z:(Nat×LN)×Rat=>if z.1.1=d then z.2 else 0) l:=rU fun y hy=>by
    split
    ·exact hl y hy
    ·exact vC
   rw[wI d _ l hr hl (by split <;> grind)];by_cases e:r<z.2
   ·rw[if_pos e]
    by_cases e2:0<r
    ·rw[if_pos e2];show r+0+_=_;grind
    ·rw[if_neg e2];show 0+_=_;grind
   ·rw[if_neg e]
    by_cases e2:0<z.2
    ·rw[if_pos e2];show z.2+0+_=_;grind
    ·rw[if_neg e2];show 0+_=_;grind
  ·rename_i hd
   rw[if_neg hd]at h;exact wI d r l h0 (fun y hy=>hz y (by simp[hy])) (by grind)
theorem jzc8(d a:Nat):∀(r:Rat) (l:List ((Nat×LN)×Rat)),(∀z∈l,0<=z.2)->ls (fun z=>if a∈z.1.2 then z.2 else 0) (cut d r l)<=ls (fun z=>if z.1.1=d then(if a∈z.1.2 then z.2 else 0)else 0) l
 |r,[],_=>vC
 |r,z::l,hz=>by
  have qa:=hz z (by simp);have ih:=fun r=>jzc8 d a r l fun y hy=>hz y (by simp[hy]);show ls _ (cut d r (z::l))<=(if z.1.1=d then(if a∈z.1.2 then z.2 else 0)else 0)+ls _ l;unfold cut;by_cases hd:z.1.1=d
  ·rw[if_pos hd,if_pos hd,ls_app]
   have ih:=ih (r-(if r<z.2 then r else z.2));have:ls (fun z:(Nat×LN)×Rat=>if a∈z.1.2 then z.2 else 0) (if 0<(if r<z.2 then r else z.2)then [(z.1,if r<z.2 then r else z.2)]else [])<=if a∈z.1.2 then z.2 else 0:=by
    by_cases e:0<(if r<z.2 then r else z.2)
    ·rw[if_pos e]
     show(if a∈z.1.2 then(if r<z.2 then r else z.2)else 0)+0<=_;by_cases ea:a∈z.1.2
     ·rw[if_pos ea,if_pos ea];split <;> grind
     rw[if_neg ea,if_neg ea];grind
    rw[if_neg e];show(0:Rat)<=_
    split <;> grind
   grind
  rw[if_neg hd,if_neg hd];have ih:=ih r;grind
structure Adm(L2 D:Nat)(am cap:Nat->Rat)(v:Rat)(Z:List ((Nat×LN)×Rat)):Prop where
 dem:∀z∈Z,z.1.1<D
 pos:∀z∈Z,0<z.2
 dif:(Z.map (·.1)).Nodup
 sum:∀d,d<D->ls (fun z=>if z.1.1=d then z.2 else 0) Z=v*am d
 cap:∀a,a<L2->ls (fun z=>if a∈z.1.2 then z.2 else 0) Z<=cap a
theorem Adm.weak{L2 D:Nat}{am cap:Nat->Rat}{v:Rat}{Z:List ((Nat×LN)×Rat)}(h:Adm L2 D am cap v Z)(hD:0<D)(ham:∀d,d<D->0<am d){pr ch:Nat->Rat}(hp:∀a,a<L2->0<=pr a)
  (hch:∀z∈Z,ch z.1.1<=sm L2 fun a=>if a∈z.1.2 then pr a else 0) (hn:1<=sm D fun d=>am d*ch d):v<=sm L2 fun a=>pr a*cap a:=by
 have hv:0<=v:=(by have h1:=h.sum 0 hD;have h2:=ham 0 hD;have h3:0<=ls (fun z:(Nat×LN)×Rat=>if z.1.1=0 then z.2 else 0) Z:=rU fun z hz=>(by split;{exact vB (h.pos z hz)};exact vC);rw[h1]at h3;exact kQ4.1 fun h4=>(by have:=Rat.mul_lt_mul_of_pos_right h4 h2;grind));have e1:v*(sm D fun d=>am d*ch d)=ls (fun z=>z.2*ch z.1.1) Z:=(by rw[<-eF];have:(sm D fun d=>v*(am d*ch d))=sm D fun d=>ls (fun z=>(if z.1.1=d then z.2 else 0)*ch d) Z:=sm_congr D fun d hd=>(by have e:=oM (ch d) (fun z:(Nat×LN)×Rat=>if z.1.1=d then z.2 else 0) Z;rw[h.sum d hd]at e;have e2:ls (fun z:(Nat×LN)×Rat=>(if z.1.1=d then z.2 else 0)*ch d) Z=ls (fun z=>ch d*(if z.1.1=d then z.2 else 0)) Z:=kX fun z _=>(by grind);rw[e2,e];grind);rw[this, <-mT];exact kX fun z hz=>(by rw[sm_one D (h.dem z hz) fun d _ hd=>by rw[if_neg (fun e=>hd e.symm)];grind,if_pos rfl]));have e2:ls (fun z=>z.2*ch z.1.1) Z<=ls (fun z=>sm L2 fun a=>pr a*(if a∈z.1.2 then z.2 else 0)) Z:=rT fun z hz=>(by have h1:=yT (hch z hz) (vB (h.pos z hz));rw[<-eF]at h1;have:(sm L2 fun a=>z.2*(if a∈z.1.2 then pr a else 0))=sm L2 fun a=>pr a*(if a∈z.1.2 then z.2 else 0):=sm_congr L2 fun a _=>(by split <;> grind);rw[this]at h1;exact h1);have e3:ls (fun z=>sm L2 fun a=>pr a*(if a∈z.1.2 then z.2 else 0)) Z<=sm L2 fun a=>pr a*cap a:=(by rw[mT];refine sm_le L2 fun a ha=>?_;rw[oM];exact yT (h.cap a ha) (hp a ha));have e4:v*1<=v*(sm D fun d=>am d*ch d):=yT hn hv;grind
def planZ(D:Nat)(am:Nat->Rat)(v:Rat)(Z:List ((Nat×LN)×Rat)):List ((Nat×LN)×Rat):=(List.range D).flatMap fun d=>cut d (v*am d) Z
theorem jzc9{D:Nat}{am:Nat->Rat}{v:Rat}{Z:List ((Nat×LN)×Rat)}(h:(Z.map (·.1)).Nodup):((planZ D am v Z).map (·.1)).Nodup:=by
 unfold planZ;(induction D with|zero=>exact List.nodup_nil|succ D ih=>rw[kZc,List.flatMap_append,List.map_append,List.nodup_append];refine⟨ih,?_,fun x hx y hy=>?_⟩;{simp only[xU,List.flatMap_nil,List.append_nil];exact(cut_keys D _ Z).nodup h};obtain⟨z,hz,rfl⟩:=kQl.1 hx;obtain⟨z',qa,rfl⟩:=kQl.1 hy;simp only[xU,List.flatMap_nil,List.append_nil]at qa;obtain⟨d,hd,hz⟩:=kZx.1 hz;have h1:=(cut_mem hz).1;have h2:=(cut_mem qa).1;have h3:=vX.1 hd;intro e;rw[e]at h1;omega)
theorem jzlg{L2 D:Nat}{am cap:Nat->Rat}{v:Rat}{Z:List ((Nat×LN)×Rat)}(hz:∀z∈Z,0<=z.2)(hd:(Z.map (·.1)).Nodup)(hv:∀d,d<D->0<=v*am d)
  (hs:∀d,d<D->v*am d<=ls (fun z=>if z.1.1=d then z.2 else 0) Z) (hc:∀a,a<L2->ls (fun z=>if a∈z.1.2 then z.2 else 0) Z<=cap a):Adm L2 D am cap v (planZ D am v Z):=by
 refine⟨fun z h=>?_,fun z h=>?_,jzc9 hd,fun d h=>?_,fun a h=>?_⟩;{obtain⟨d,h1,h2⟩:=kZx.1 h;rw[(cut_mem h2).1];exact vX.1 h1};{obtain⟨d,h1,h2⟩:=kZx.1 h;exact(cut_mem h2).2.1};{unfold planZ;rw[wE,wF,sm_one D h fun k hk hkd=>jzc6 fun z hz2=>by rw[if_neg];rw[(cut_mem hz2).1];exact hkd];refine Eq.trans ?_ (wI d (v*am d) Z (hv d h) hz (hs d h));refine kX fun z hz2=>?_;rw[if_pos (cut_mem hz2).1]};refine kQs ?_ (hc a h);unfold planZ;rw[wE,wF];refine kQs (sm_le D fun d _=>jzc8 d a _ Z hz) ?_;rw[<-mT];refine rT fun z hz2=>?_;by_cases e:z.1.1<D;{rw[sm_one D e fun k _ hk=>if_neg (fun h=>hk h.symm),if_pos rfl];exact vC};rw[sm_zero D fun k hk=>if_neg (by omega)];split;{exact hz z hz2};exact vC
end Sx
end Go.Proofs.YtojpooidhilnfaaGreatDoor
