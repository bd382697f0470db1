/- Part 7 of 23 of what the Flows claims share (the white space is struck, the texts are joined). -/
import Derived.Test.YtllmekijiohgmaaGreatDoorT06
set_option linter.unusedVariables false
set_option linter.unusedSimpArgs false
set_option maxRecDepth 100000
set_option maxHeartbeats 8000000
namespace Go.Proofs.YtllmekijiohgmaaGreatDoor
namespace Fo
def aI(l:List Int)(n:Nat):Int:=l[n]?.getD (-1)
theorem fI{l:List Int}{x n:Nat}{c:Int}(hx:x<l.length):aI (l.set x c) n=if n=x then c else aI l n:=by
 unfold aI;by_cases e:n=x;{subst e;rw[if_pos rfl,yM hx];rfl};rw[if_neg e,vN (fun h=>e h.symm)]
def sN:Nat->(Nat->Nat)->Nat
 |0,_=>0
 |n+1,f=>sN n f+f n
theorem jzfo{n:Nat}{f g:Nat->Nat}(h:∀k,k<n->f k=g k):sN n f=sN n g:=by
 (induction n with|zero=>rfl|succ n ih=>unfold sN;rw[ih fun k hk=>h k (by omega),h n (by omega)])
theorem lO{n x:Nat}{f g:Nat->Nat}(hx:x<n)(h:∀k,k<n->k≠x->f k=g k):sN n f+g x=sN n g+f x:=by
 (induction n with|zero=>omega|succ n ih=>unfold sN;by_cases e:x=n;{subst e;rw[jzfo (f:=f) (g:=g) fun k hk=>h k (by omega) (by omega)];omega};have h1:=ih (by omega) fun k hk hkx=>h k (by omega) hkx;have h2:=h n (by omega) (fun e2=>e e2.symm);omega)
theorem lP{n c:Nat}{f:Nat->Nat}(h:∀k,k<n->f k<=c):sN n f<=n*c:=by
 (induction n with|zero=>simp[sN]|succ n ih=>unfold sN;have h1:=ih fun k hk=>h k (by omega);have h2:=h n (by omega);rw[Nat.succ_mul];omega)
theorem jzfp{n x:Nat}{f:Nat->Nat}(hx:x<n)(h:∀k,k<n->f k<=1)(h0:f x=0):sN n f+1<=n:=by
 have h1:=lO (f:=f) (g:=fun k=>if k=x then 1 else f k) hx fun k _ e=>(by simp[e]);have h2:=lP (c:=1) (f:=fun k=>if k=x then 1 else f k) (n:=n) fun k hk=>(by by_cases e:k=x;{simp[e]};simp[e];exact h k hk);simp at h1;omega
structure DS(A N:Nat)(tl hd:Nat->Nat)(cs:Nat->Int)(ok:Nat->Bool)(d:Nat)(f:Nat->Int):Prop where
 zero:f d=0
 lo:∀n,n<N-> -1<=f n
 tri:∀a,a<A->ok a=true->0<=f (hd a)->0<=f (tl a)/\f (tl a)<=f (hd a)+cs a
 wit:∀n,n<N->n≠d->0<=f n->∃a,a<A/\ok a=true/\tl a=n/\0<=f (hd a)/\f n=f (hd a)+cs a
section
variable {A N:Nat} {tl hd:Nat->Nat} {cs:Nat->Int} {ok:Nat->Bool} {d:Nat} {f g:Nat->Int}
theorem DS.le(h1:DS A N tl hd cs ok d f)(h2:DS A N tl hd cs ok d g)(hcs:∀a,a<A->1<=cs a)(hhd:∀a,a<A->hd a<N):∀(k:Nat) (n:Nat),n<N->0<=f n->f n<k->0<=g n/\g n<=f n:=by
 intro k;(induction k with|zero=>intro n _ h3 h4;omega|succ k ih=>intro n hn h3 h4;by_cases e:n=d;{subst e;rw[h2.zero,h1.zero];omega};obtain⟨a,ha,qa,ht,h5,h6⟩:=h1.wit n hn e h3;have h7:=hcs a ha;obtain⟨h8,h9⟩:=ih (hd a) (hhd a ha) h5 (by omega);obtain⟨qe,qf⟩:=h2.tri a ha qa h8;rw[ht]at qe qf;omega)
theorem DS.unique(h1:DS A N tl hd cs ok d f)(h2:DS A N tl hd cs ok d g)(hcs:∀a,a<A->1<=cs a)(hhd:∀a,a<A->hd a<N){n:Nat}(hn:n<N):f n=g n:=by
 by_cases e1:0<=f n;{have h3:=h1.le h2 hcs hhd ((f n).toNat+1) n hn e1 (by omega);have h4:=h2.le h1 hcs hhd ((g n).toNat+1) n hn h3.1 (by omega);omega};by_cases e2:0<=g n;{have h4:=h2.le h1 hcs hhd ((g n).toNat+1) n hn e2 (by omega);omega};have:=h1.lo n hn;have:=h2.lo n hn;omega
end
def fR(tl hd:Nat->Nat)(cs:Nat->Int)(ok:Nat->Bool)(l:List Int)(a:Nat):List Int:=
 if ok a&&decide (0<=aI l (hd a))&&(decide (aI l (tl a)<0)||decide (aI l (hd a)+cs a<aI l (tl a)))then l.set (tl a) (aI l (hd a)+cs a)else l
def fT(N:Nat)(l:List Int):Nat:=sN N fun n=>if aI l n<0 then 0 else 1
def muN(N:Nat)(l:List Int):Nat:=sN N fun n=>if aI l n<0 then 65535*N+1 else(aI l n).toNat
structure BI(A N:Nat)(tl hd:Nat->Nat)(cs:Nat->Int)(ok:Nat->Bool)(d:Nat)(l:List Int):Prop where
 len:l.length=N
 zero:aI l d=0
 lo:∀n,n<N-> -1<=aI l n
 wit:∀n,n<N->n≠d->0<=aI l n->∃a,a<A/\ok a=true/\tl a=n/\0<=aI l (hd a)/\aI l (hd a)+cs a<=aI l n
 top:∀n,n<N->aI l n+65535<=65535*(fT N l:Int)
section
variable {A N:Nat} {tl hd:Nat->Nat} {cs:Nat->Int} {ok:Nat->Bool} {d:Nat} {l:List Int}
theorem BI.start(hd':d<N):BI A N tl hd cs ok d ((List.replicate N (-1)).set d 0):=by
 (have h0:∀n,aI ((List.replicate N (-1:Int)).set d 0) n=if n=d then 0 else-1:=fun n=>(by rw[fI (by simpa using hd')];by_cases e:n=d;{simp[e]};simp only[e,if_false];unfold aI;by_cases hn:n<N;{rw[xB,if_pos hn];rfl};rw[xB,if_neg hn];rfl));have h1:1<=fT N ((List.replicate N (-1:Int)).set d 0):=(by have h2:=lO (n:=N) (x:=d) (f:=fun n=>if aI ((List.replicate N (-1:Int)).set d 0) n<0 then 0 else 1) (g:=fun _=>0) hd' fun k _ e=>(by simp[h0,e]);unfold fT;simp[h0]at h2⊢;omega);refine⟨by simp,by rw[h0,if_pos rfl],fun n _=>?_,fun n hn e h=>?_,fun n hn=>?_⟩;{rw[h0];split <;> omega};{rw[h0,if_neg e]at h;omega};rw[h0];split <;> omega
theorem BI.step(h:BI A N tl hd cs ok d l)(hcs:∀a,a<A->1<=cs a/\cs a<=65535)(htl:∀a,a<A->tl a<N)(hhd:∀a,a<A->hd a<N){a:Nat}(ha:a<A)(hok:ok a=true)(h0:0<=aI l (hd a))(hb:aI l (tl a)<0\/aI l (hd a)+cs a<aI l (tl a)):
  BI A N tl hd cs ok d (l.set (tl a) (aI l (hd a)+cs a))/\muN N (l.set (tl a) (aI l (hd a)+cs a))<muN N l:=by
 (obtain⟨c1,c2⟩:=hcs a ha;have t1:=htl a ha;have t2:=hhd a ha;have hl:=h.len;have hS:∀n,aI (l.set (tl a) (aI l (hd a)+cs a)) n=if n=tl a then aI l (hd a)+cs a else aI l n:=fun n=>fI (by omega));(have qh:tl a≠d:=fun e=>(by rw[e,h.zero]at hb;omega);have qe:hd a≠tl a:=fun e=>(by rw[<-e]at hb;omega);have hf:=lO (n:=N) (f:=fun n=>if aI (l.set (tl a) (aI l (hd a)+cs a)) n<0 then 0 else 1) (g:=fun n=>if aI l n<0 then 0 else 1) t1 fun k _ e=>(by simp only[hS,e,if_false]);have hm:=lO (n:=N) (f:=fun n=>if aI (l.set (tl a) (aI l (hd a)+cs a)) n<0 then 65535*N+1 else(aI (l.set (tl a) (aI l (hd a)+cs a)) n).toNat) (g:=fun n=>if aI l n<0 then 65535*N+1 else(aI l n).toNat) t1 fun k _ e=>(by simp only[hS,e,if_false]);have qj:¬aI l (hd a)+cs a<0:=(by omega);simp only[hS,if_true,qj,if_false]at hf hm;have hF:fT N (l.set (tl a) (aI l (hd a)+cs a))=sN N fun n=>if(if n=tl a then aI l (hd a)+cs a else aI l n)<0 then 0 else 1:=by unfold fT;simp only[hS]);(have hM:muN N (l.set (tl a) (aI l (hd a)+cs a))=sN N fun n=>if(if n=tl a then aI l (hd a)+cs a else aI l n)<0 then 65535*N+1 else(if n=tl a then aI l (hd a)+cs a else aI l n).toNat:=by unfold muN;simp only[hS]);rw[<-hF]at hf;rw[<-hM]at hm;have qf:fT N (l.set (tl a) (aI l (hd a)+cs a))+(if aI l (tl a)<0 then 0 else 1)=fT N l+1:=hf;have qa:muN N (l.set (tl a) (aI l (hd a)+cs a))+(if aI l (tl a)<0 then 65535*N+1 else(aI l (tl a)).toNat)=muN N l+(aI l (hd a)+cs a).toNat:=hm;have hx:=h.top (hd a) t2;have hmu:muN N (l.set (tl a) (aI l (hd a)+cs a))<muN N l:=(by (rcases hb with hb|hb);{have h3:fT N l+1<=N:=jzfp t1 (fun k _=>by split <;> omega) (by simp[hb]);rw[if_pos hb]at qa;omega};rw[if_neg (by omega)]at qa;omega);refine⟨⟨by simp[hl],by rw[hS,if_neg (fun e=>qh e.symm),h.zero],fun n hn=>?_,fun n hn e h1=>?_,fun n hn=>?_⟩,hmu⟩;{rw[hS];split;{omega};exact h.lo n hn};{rw[hS]at h1;by_cases e1:n=tl a;{refine⟨a,ha,hok,e1.symm,?_,?_⟩;{rw[hS,if_neg qe];exact h0};rw[hS,if_neg qe,hS,if_pos e1];omega};rw[if_neg e1]at h1;obtain⟨b,qm,qi,qn,qk,qg⟩:=h.wit n hn e h1;refine⟨b,qm,qi,qn,?_,?_⟩;{rw[hS];split <;> omega};rw[hS (hd b),hS n,if_neg e1];split;{rename_i e2;rw[e2]at qk qg;rcases hb with hb|hb <;> omega};exact qg};have h8:=h.top (tl a) t1;rw[hS];split;{split at qf <;> omega};have:=h.top n hn;split at qf <;> omega
theorem BI.final(h:BI A N tl hd cs ok d l)(hst:∀a,a<A->ok a=true->0<=aI l (hd a)->0<=aI l (tl a)/\aI l (tl a)<=aI l (hd a)+cs a):DS A N tl hd cs ok d (aI l):=
 ⟨h.zero,h.lo,hst,fun n hn e h1=>by
  obtain⟨a,h2,h3,h4,h5,h6⟩:=h.wit n hn e h1;have h7:=(hst a h2 h3 h5).2;rw[h4]at h7;exact⟨a,h2,h3,h4,h5,by omega⟩⟩
theorem jzfq(h:BI A N tl hd cs ok d l)(hcs:∀a,a<A->1<=cs a/\cs a<=65535)(htl:∀a,a<A->tl a<N){a:Nat}(ha:a<A)(h1:fR tl hd cs ok l a=l):ok a=true->0<=aI l (hd a)->0<=aI l (tl a)/\aI l (tl a)<=aI l (hd a)+cs a:=fun hok h0=>by
 unfold fR at h1;have ht:=htl a ha;by_cases hb:aI l (tl a)<0\/aI l (hd a)+cs a<aI l (tl a);{rw[if_pos (by simp[hok,h0];exact hb)]at h1;have h2:=fI (l:=l) (x:=tl a) (n:=tl a) (c:=aI l (hd a)+cs a) (by rw[h.len];exact ht);rw[h1,if_pos rfl]at h2;have:=(hcs a ha).1;omega};{omega}
theorem BI.arc(h:BI A N tl hd cs ok d l)(hcs:∀a,a<A->1<=cs a/\cs a<=65535)(htl:∀a,a<A->tl a<N)(hhd:∀a,a<A->hd a<N){a:Nat}(ha:a<A):
  BI A N tl hd cs ok d (fR tl hd cs ok l a)/\(fR tl hd cs ok l a=l\/muN N (fR tl hd cs ok l a)<muN N l):=by
 unfold fR;split;{rename_i hc;simp only[vM,Bool.or_eq_true,decide_eq_true_eq]at hc;have:=h.step hcs htl hhd ha hc.1.1 hc.1.2 hc.2;exact⟨this.1,.inr this.2⟩};exact⟨h,.inl rfl⟩
def gH(A:Nat)(tl hd:Nat->Nat)(cs:Nat->Int)(ok:Nat->Bool)(l:List Int):List Int:=(List.range A).foldl (fR tl hd cs ok) l
theorem BI.rounds(h:BI A N tl hd cs ok d l)(hcs:∀a,a<A->1<=cs a/\cs a<=65535)(htl:∀a,a<A->tl a<N)(hhd:∀a,a<A->hd a<N):∀m,m<=A->
  BI A N tl hd cs ok d (gH m tl hd cs ok l)/\((gH m tl hd cs ok l=l/\∀a,a<m->fR tl hd cs ok l a=l)\/muN N (gH m tl hd cs ok l)<muN N l):=by
 intro m
 induction m with
 |zero=>intro _;exact⟨h,.inl ⟨rfl,fun a ha=>by omega⟩⟩
 |succ m ih=>
  intro hm;obtain⟨h1,h2⟩:=ih (by omega);have e:gH (m+1) tl hd cs ok l=fR tl hd cs ok (gH m tl hd cs ok l) m:=by
   unfold gH;rw[kZc,kZt];rfl
  rw[e];obtain⟨h3,h4⟩:=h1.arc hcs htl hhd (show m<A by omega);refine⟨h3,?_⟩;rcases h2 with⟨h2,h5⟩|h2
  ·rw[h2]at h4⊢
   rcases h4 with h4|h4
   ·exact .inl ⟨h4,fun a ha=>by
    by_cases e1:a=m
    ·rw[e1];exact h4
    exact h5 a (by omega)⟩
   exact .inr h4
  rcases h4 with h4|h4
  ·rw[h4];exact .inr h2
  exact .inr (by omega)
def lQ(A:Nat)(tl hd:Nat->Nat)(cs:Nat->Int)(ok:Nat->Bool):Nat->List Int->List Int
 |0,l=>l
 |k+1,l=>if gH A tl hd cs ok l=l then l else lQ A tl hd cs ok k (gH A tl hd cs ok l)
theorem jzfr(hcs:∀a,a<A->1<=cs a/\cs a<=65535)(htl:∀a,a<A->tl a<N)(hhd:∀a,a<A->hd a<N):∀(k:Nat) (l:List Int),BI A N tl hd cs ok d l->muN N l<k->
  (lQ A tl hd cs ok k l).length=N/\DS A N tl hd cs ok d (aI (lQ A tl hd cs ok k l)):=by
 intro k;(induction k with|zero=>intro l _ h;omega|succ k ih=>intro l h hk;unfold lQ;obtain⟨h1,h2⟩:=h.rounds hcs htl hhd A (yX _);split;{rename_i e;(rcases h2 with⟨_,h2⟩|h2);{exact⟨h.len,h.final fun a ha=>jzfq h hcs htl ha (h2 a ha)⟩};rw[e]at h2;omega};rename_i e;(rcases h2 with⟨h2,_⟩|h2);{exact absurd h2 e};exact ih _ h1 (by omega))
theorem jzfs(h:BI A N tl hd cs ok d l):muN N l<=N*(65535*N+1):=
 lP fun k hk=>by
  split
  ·exact yX _
  ·have h1:=h.top k hk
   have h2:fT N l<=N*1:=lP fun j _=>(by split <;> omega);omega
def bfD(A N:Nat)(tl hd:Nat->Nat)(cs:Nat->Int)(ok:Nat->Bool)(d:Nat):List Int:=lQ A tl hd cs ok (N*(65535*N+1)+1) ((List.replicate N (-1)).set d 0)
theorem jzft(hcs:∀a,a<A->1<=cs a/\cs a<=65535)(htl:∀a,a<A->tl a<N)(hhd:∀a,a<A->hd a<N)(hdN:d<N):(bfD A N tl hd cs ok d).length=N/\DS A N tl hd cs ok d (aI (bfD A N tl hd cs ok d)):=
 jzfr hcs htl hhd _ _ (BI.start hdN) (Nat.lt_succ_of_le (jzfs (A:=A) (tl:=tl) (hd:=hd) (cs:=cs) (ok:=ok) (BI.start hdN)))
theorem DS.list{k:List Int}(h1:DS A N tl hd cs ok d (aI l))(h2:DS A N tl hd cs ok d (aI k))(hl:l.length=N)(hk:k.length=N)(hcs:∀a,a<A->1<=cs a)(hhd:∀a,a<A->hd a<N):l=k:=by
 apply uK;intro n;by_cases hn:n<N;{have h3:=h1.unique h2 hcs hhd hn;unfold aI at h3;rw[yG (by omega),yG (by omega)]at h3⊢;exact congrArg some h3};rw[yI (by omega),yI (by omega)]
end
end Fo
namespace Fo
section
variable {A N:Nat} {tl hd:Nat->Nat} {cs:Nat->Int} {d:Nat} {f:Nat->Int}
theorem DS.reach{up okD okF tr:Nat->Bool}{s:Nat}{g:Nat->Int}(h1:DS A N tl hd cs okD d f)(h2:DS A N hd tl cs okF s g)
  (e1:∀a,a<A->okD a=(up a&&(hd a==d||tr (hd a)))) (e2:∀a,a<A->okF a=(up a&&(tl a==s||tr (tl a)))) (hcs:∀a,a<A->1<=cs a) (hhd:∀a,a<A->hd a<N) (hs:s<N) (h0:0<=f s):0<=g d:=by
 have key:∀(k:Nat) (n:Nat),n<N->0<=g n->(n=s\/tr n=true)->0<=f n->f n<k->0<=g d:=(by intro k;(induction k with|zero=>intro n _ _ _ h3 h4;omega|succ k ih=>intro n hn hg ht h3 h4;by_cases e:n=d;{rw[<-e];exact hg};obtain⟨a,ha,qa,qe,h5,h6⟩:=h1.wit n hn e h3;rw[e1 a ha,vM,Bool.or_eq_true,beq_iff_eq]at qa;have h7:0<=g (hd a):=(h2.tri a ha (by rw[e2 a ha,qe,vM,Bool.or_eq_true,beq_iff_eq];exact⟨qa.1,ht⟩) (by rw[qe];exact hg)).1;(rcases qa.2 with h8|h8);{rw[<-h8];exact h7};have:=hcs a ha;exact ih (hd a) (hhd a ha) h7 (.inr h8) h5 (by omega)));exact key ((f s).toNat+1) s hs (by rw[h2.zero];omega) (.inl rfl) h0 (by omega)
end
structure DJ(A N:Nat)(tl hd:Nat->Nat)(cs:Nat->Int)(ok:Nat->Bool)(d:Nat)(l:List Int)(q:Nat->Option Int)(rel:Nat->Prop):Prop where
 len:l.length=N
 lo:∀n,n<N-> -1<=aI l n
 held:∀n k,q n=some k->n<N/\aI l n= -1/\0<=k
 zero:aI l d=0\/(q d=some 0/\(∀n,n<N->aI l n= -1)/\∀n k,q n=some k->n=d)
 mono:∀n m k,n<N->q m=some k->aI l n<=k
 tri:∀a,a<A->ok a=true->0<=aI l (hd a)->rel a->(0<=aI l (tl a)/\aI l (tl a)<=aI l (hd a)+cs a)\/∃k,q (tl a)=some k/\k<=aI l (hd a)+cs a
 wit:∀n,n<N->n≠d->0<=aI l n->∃a,a<A/\ok a=true/\tl a=n/\0<=aI l (hd a)/\aI l n=aI l (hd a)+cs a
 wiq:∀n k,n≠d->q n=some k->∃a,a<A/\ok a=true/\tl a=n/\0<=aI l (hd a)/\k=aI l (hd a)+cs a
section
variable {A N:Nat} {tl hd:Nat->Nat} {cs:Nat->Int} {ok:Nat->Bool} {d:Nat} {l:List Int} {q:Nat->Option Int}
theorem iC{n:Nat}(N:Nat):aI (List.replicate N (-1)) n= -1:=by
 unfold aI;rw[xB];split <;> rfl
theorem DJ.start(hd':d<N):DJ A N tl hd cs ok d (List.replicate N (-1)) (fun n=>if n=d then some 0 else none) fun _=>True:=by
 have hq:∀n k,(if n=d then some (0:Int)else none)=some k->n=d/\k=0:=fun n k h=>(by split at h;{rename_i e;injection h with h;exact⟨e,h.symm⟩};cases h);refine⟨by simp,fun n _=>by rw[iC];omega,fun n k h=>?_,.inr ⟨by simp,fun n _=>iC N,fun n k h=>(hq n k h).1⟩,fun n m k _ h=>?_,fun a _ _ h=>?_,fun n _ _ h=>?_,fun n k e h=>absurd (hq n k h).1 e⟩;{obtain⟨e1,e2⟩:=hq n k h;exact⟨by omega,iC N,by omega⟩};{rw[iC];have:=(hq m k h).2;omega};{rw[iC]at h;omega};rw[iC]at h;omega
theorem DJ.pop(h:DJ A N tl hd cs ok d l q fun _=>True)(hcs:∀a,a<A->1<=cs a){n:Nat}{k:Int}(hn:q n=some k)(hmin:∀m j,q m=some j->k<=j):
  DJ A N tl hd cs ok d (l.set n k) (fun m=>if m=n then none else q m) fun a=>hd a≠n:=by
 (obtain⟨qg,qf,qe⟩:=h.held n k hn;have qa:=h.len;have hS:∀m,aI (l.set n k) m=if m=n then k else aI l m:=fun m=>fI (by omega));have hq:∀m j,(if m=n then none else q m)=some j->m≠n/\q m=some j:=fun m j e=>(by split at e;{cases e};rename_i e1;exact⟨e1,e⟩);refine⟨by simp[qa],fun m hm=>?_,fun m j e=>?_,.inl ?_,fun m r j hm e=>?_,fun a ha hok h0 hr=>?_,fun m hm e h0=>?_,fun m j e e2=>?_⟩;{rw[hS];split;{omega};exact h.lo m hm};{obtain⟨e1,e2⟩:=hq m j e;rw[hS,if_neg e1];exact h.held m j e2};{rw[hS];(rcases h.zero with h1|⟨h1,_,h3⟩);{split;{rename_i e;rw[e]at h1;omega};exact h1};(have e:=h3 n k hn;rw[if_pos e.symm];rw[e,h1]at hn;injection hn with hn);exact hn.symm};{obtain⟨e1,e2⟩:=hq r j e;rw[hS];split;{exact hmin r j e2};exact h.mono m r j hm e2};{rw[hS,if_neg hr]at h0;(rw[hS (hd a),if_neg hr,hS (tl a)];rcases h.tri a ha hok h0 trivial with h1|⟨j,h1,h2⟩);{by_cases e:tl a=n;{rw[e]at h1;omega};rw[if_neg e];exact .inl h1};by_cases e:tl a=n;{rw[if_pos e];(rw[e,hn]at h1;injection h1 with h1);exact .inl ⟨qe,by omega⟩};refine .inr ⟨j,?_,h2⟩;show(if tl a=n then none else q (tl a))=some j;rw[if_neg e];exact h1};{rw[hS]at h0;by_cases e1:m=n;{subst e1;obtain⟨a,h1,h2,h3,h4,h5⟩:=h.wiq m k e hn;have h6:=hcs a h1;have h7:hd a≠m:=fun e2=>(by rw[e2]at h4;omega);refine⟨a,h1,h2,h3,?_,?_⟩;{rw[hS,if_neg h7];exact h4};rw[hS,if_pos rfl,hS,if_neg h7];exact h5};rw[if_neg e1]at h0;obtain⟨a,h1,h2,h3,h4,h5⟩:=h.wit m hm e h0;have h7:hd a≠n:=fun e2=>(by rw[e2]at h4;omega);refine⟨a,h1,h2,h3,?_,?_⟩;{rw[hS,if_neg h7];exact h4};rw[hS,if_neg e1,hS,if_neg h7];exact h5};obtain⟨e3,e4⟩:=hq m j e2;obtain⟨a,h1,h2,h3,h4,h5⟩:=h.wiq m j e e4;have h7:hd a≠n:=fun e2=>(by rw[e2]at h4;omega);refine⟨a,h1,h2,h3,?_,?_⟩;{rw[hS,if_neg h7];exact h4};rw[hS,if_neg h7];exact h5
theorem DJ.skip{rel rel':Nat->Prop}(h:DJ A N tl hd cs ok d l q rel)(hr:∀a,a<A->ok a=true->0<=aI l (hd a)->rel' a->rel a\/(0<=aI l (tl a)/\aI l (tl a)<=aI l (hd a)+cs a)\/∃k,q (tl a)=some k/\k<=aI l (hd a)+cs a):DJ A N tl hd cs ok d l q rel':=
 ⟨h.len,h.lo,h.held,h.zero,h.mono,fun a ha hok h0 h1=>by
  rcases hr a ha hok h0 h1 with h2|h2
  ·exact h.tri a ha hok h0 h2
  ·exact h2,h.wit,h.wiq⟩
theorem DJ.put{rel rel':Nat->Prop}(h:DJ A N tl hd cs ok d l q rel)(hcs:∀a,a<A->1<=cs a)(htl:∀a,a<A->tl a<N){a:Nat}(ha:a<A)(hok:ok a=true)(h0:0<=aI l (hd a))(htop:∀n,n<N->aI l n<=aI l (hd a))(hd0:aI l d=0)(h1:aI l (tl a)= -1)
  (hlt:∀k,q (tl a)=some k->aI l (hd a)+cs a<=k) (hr:∀b,b<A->rel' b->rel b\/b=a):
  DJ A N tl hd cs ok d l (fun m=>if m=tl a then some (aI l (hd a)+cs a)else q m) rel':=by
 have hc:=hcs a ha;have hq:∀m j,(if m=tl a then some (aI l (hd a)+cs a)else q m)=some j->(m=tl a/\j=aI l (hd a)+cs a)\/(m≠tl a/\q m=some j):=fun m j e=>(by split at e;{rename_i e1;injection e with e;exact .inl ⟨e1,e.symm⟩};rename_i e1;exact .inr ⟨e1,e⟩);refine⟨h.len,h.lo,fun m j e=>?_,.inl hd0,fun m r j hm e=>?_,fun b hb hokb h2 h3=>?_,h.wit,fun m j e e2=>?_⟩;{(rcases hq m j e with⟨rfl,rfl⟩|⟨_,e⟩);{exact⟨htl a ha,h1,by omega⟩};exact h.held m j e};{(rcases hq r j e with⟨rfl,rfl⟩|⟨_,e⟩);{have:=htop m hm;omega};exact h.mono m r j hm e};{show _\/∃k,(if tl b=tl a then some (aI l (hd a)+cs a)else q (tl b))=some k/\_;(rcases hr b hb h3 with h4|rfl);{(rcases h.tri b hb hokb h2 h4 with h5|⟨j,h5,h6⟩);{exact .inl h5};by_cases e:tl b=tl a;{rw[if_pos e];rw[e]at h5;have:=hlt j h5;exact .inr ⟨_,rfl,by omega⟩};rw[if_neg e];exact .inr ⟨j,h5,h6⟩};rw[if_pos rfl];exact .inr ⟨_,rfl,by omega⟩};(rcases hq m j e2 with⟨rfl,rfl⟩|⟨_,e2⟩);{exact⟨a,ha,hok,rfl,h0,rfl⟩};exact h.wiq m j e e2
theorem DJ.final(h:DJ A N tl hd cs ok d l q fun _=>True)(hq:∀n,q n=none):DS A N tl hd cs ok d (aI l):=
 ⟨h.zero.resolve_right (fun e=>by rw[hq]at e;exact absurd e.1 (by simp)),h.lo,fun a ha hok h0=>(h.tri a ha hok h0 trivial).resolve_right (fun⟨k,e,_⟩=>by rw[hq]at e;cases e),h.wit⟩
end
end Fo
namespace Fo
section
variable (A:Nat) (tl hd:Nat->Nat) (cs:Nat->Int) (ok:Nat->Bool) (d:Nat) (f:Nat->Int)
def onB(a:Nat):Bool:=ok a&&decide (tl a≠d)&&decide (0<=f (hd a))&&decide (f (tl a)=f (hd a)+cs a)
def rP(m n:Nat):LN:=(List.range m).filter fun a=>decide (tl a=n)&&onB tl hd cs ok d f a
def nxt(n:Nat):LN:=rP tl hd cs ok d f A n
def rQ(c:Nat->Nat)(l:LN):Nat:=l.foldl (fun s a=>min 2 (s+c a)) 0
def kD:Nat->Nat->Nat
 |0,_=>0
 |k+1,n=>if n=d then 1 else rQ (fun a=>kD k (hd a)) (nxt A tl hd cs ok d f n)
def cnt(n:Nat):Nat:=kD A tl hd cs ok d f ((f n).toNat+1) n
def iD:Nat->Nat->LN
 |0,_=>[]
 |k+1,n=>if n=d then []else match nxt A tl hd cs ok d f n with
  | []=>[]
  |a::_=>a::iD k (hd a)
def pth(n:Nat):LN:=iD A tl hd cs ok d f ((f n).toNat+1) n
end
section
variable {A N:Nat} {tl hd:Nat->Nat} {cs:Nat->Int} {ok:Nat->Bool} {d:Nat} {f:Nat->Int}
theorem dY{n a:Nat}:a∈nxt A tl hd cs ok d f n↔a<A/\tl a=n/\ok a=true/\n≠d/\0<=f (hd a)/\f n=f (hd a)+cs a:=by
 unfold nxt rP onB;rw[List.mem_filter,vX];simp only[vM,decide_eq_true_eq];constructor;{rintro ⟨h1,h2,⟨⟨h3,h4⟩,h5⟩,h6⟩;exact⟨h1,h2,h3,by rw[<-h2];exact h4,h5,by rw[<-h2];exact h6⟩};rintro ⟨h1,h2,h3,h4,h5,h6⟩;exact⟨h1,h2,⟨⟨h3,by rw[h2];exact h4⟩,h5⟩,by rw[h2];exact h6⟩
theorem rR:nxt A tl hd cs ok d f d=[]:=List.eq_nil_iff_forall_not_mem.2 fun a h=>(dY.1 h).2.2.2.1 rfl
theorem wK(hcs:∀a,a<A->1<=cs a){n:Nat}(h:f n<0):nxt A tl hd cs ok d f n=[]:=List.eq_nil_iff_forall_not_mem.2 fun a h1=>by
 obtain⟨h2,_,_,_,h5,h6⟩:=dY.1 h1;have:=hcs a h2;omega
theorem fE(hcs:∀a,a<A->1<=cs a){n a:Nat}(h:a∈nxt A tl hd cs ok d f n):f (hd a)<f n/\0<=f (hd a):=by
 obtain⟨h2,_,_,_,h5,h6⟩:=dY.1 h;have:=hcs a h2;omega
theorem DS.nxt_ne(h:DS A N tl hd cs ok d f){n:Nat}(hn:n<N)(hnd:n≠d)(h0:0<=f n):nxt A tl hd cs ok d f n≠ []:=fun e=>by
 obtain⟨a,h1,h2,h3,h4,h5⟩:=h.wit n hn hnd h0;have:a∈nxt A tl hd cs ok d f n:=dY.2 ⟨h1,h3,h2,hnd,h4,h5⟩;rw[e]at this;cases this
theorem nH{c c':Nat->Nat}:∀(l:LN) (s:Nat),(∀a∈l,c a=c' a)->l.foldl (fun s a=>min 2 (s+c a)) s=l.foldl (fun s a=>min 2 (s+c' a)) s
 | [],_,_=>rfl
 |a::l,s,h=>by
  rw[List.foldl_cons,List.foldl_cons,h a (by simp)];exact nH l _ fun b hb=>h b (by simp[hb])
theorem jzfu(hcs:∀a,a<A->1<=cs a):∀(k j n:Nat),f n<k->f n<j->(0<=f n\/(1<=k/\1<=j))->kD A tl hd cs ok d f k n=kD A tl hd cs ok d f j n:=by
 intro k;(induction k with|zero=>intro j n h1 _ h3;omega|succ k ih=>(intro j n h1 h2 h3;cases j with|zero=>omega|succ j=>unfold kD;by_cases e:n=d;{rw[if_pos e,if_pos e]};rw[if_neg e,if_neg e];refine nH _ _ fun a ha=>?_;have h4:=fE hcs ha;exact ih j (hd a) (by omega) (by omega) (.inl h4.2)))
theorem kE(hcs:∀a,a<A->1<=cs a)(n:Nat):cnt A tl hd cs ok d f n=if n=d then 1 else rQ (fun a=>cnt A tl hd cs ok d f (hd a)) (nxt A tl hd cs ok d f n):=by
 (conv=>lhs;unfold cnt kD);by_cases e:n=d;{rw[if_pos e,if_pos e]};rw[if_neg e,if_neg e];refine nH _ _ fun a ha=>?_;have h4:=fE hcs ha;exact jzfu hcs _ _ _ (by omega) (by omega) (.inl h4.2)
theorem wL{c:Nat->Nat}:∀(l:LN) (s:Nat),min 2 s<=l.foldl (fun s a=>min 2 (s+c a)) s
 | [],s=>by show min 2 s<=s;omega
 |a::l,s=>by
  rw[List.foldl_cons];have:=wL (c:=c) l (min 2 (s+c a));omega
theorem rS{c:Nat->Nat}:∀(l:LN) (s:Nat),(∀a∈l,1<=c a)->l.foldl (fun s a=>min 2 (s+c a)) s=1->(s=1/\l=[])\/∃a,l=[a]/\s=0/\c a=1
 | [],s,_,h=>.inl ⟨h,rfl⟩
 |a::l,s,h,h1=>by
  rw[List.foldl_cons]at h1;have h2:=h a (by simp);rcases rS l _ (fun b hb=>h b (by simp[hb])) h1 with⟨h3,h4⟩|⟨b,h3,h4,h5⟩
  ·subst h4
   by_cases e:s=0
   ·exact .inr ⟨a,rfl,e,by omega⟩
   ·omega
  ·omega
theorem DS.cnt_pos(h:DS A N tl hd cs ok d f)(hcs:∀a,a<A->1<=cs a)(hhd:∀a,a<A->hd a<N):∀(k n:Nat),n<N->0<=f n->f n<k->1<=cnt A tl hd cs ok d f n:=by
 intro k;(induction k with|zero=>intro n _ _ _;omega|succ k ih=>intro n hn h0 hk;rw[kE hcs];by_cases e:n=d;{rw[if_pos e];exact yX _};(rw[if_neg e];have h1:=h.nxt_ne hn e h0;unfold rQ;cases hl:nxt A tl hd cs ok d f n with|nil=>exact absurd hl h1|cons a l=>have h2:a∈nxt A tl hd cs ok d f n:=(by rw[hl];simp);have h3:=fE hcs h2;have h4:=ih (hd a) (hhd a (dY.1 h2).1) h3.2 (by omega);have h5:=wL (c:=fun a=>cnt A tl hd cs ok d f (hd a)) l (min 2 (0+cnt A tl hd cs ok d f (hd a)));exact yY (by omega) h5))
theorem jzfv(hcs:∀a,a<A->1<=cs a):∀(k j n:Nat),f n<k->f n<j->0<=f n->iD A tl hd cs ok d f k n=iD A tl hd cs ok d f j n:=by
 intro k;(induction k with|zero=>intro j n h1 _ h3;omega|succ k ih=>(intro j n h1 h2 h3;cases j with|zero=>omega|succ j=>unfold iD;by_cases e:n=d;{rw[if_pos e,if_pos e]};(rw[if_neg e,if_neg e];cases hl:nxt A tl hd cs ok d f n with|nil=>rfl|cons a l=>have h2:a∈nxt A tl hd cs ok d f n:=(by rw[hl];simp);have h4:=fE hcs h2;show a::_=a::_;rw[ih j (hd a) (by omega) (by omega) h4.2])))
theorem kF:pth A tl hd cs ok d f d=[]:=by
 unfold pth iD;rw[if_pos rfl]
theorem DS.pth_eq(h:DS A N tl hd cs ok d f)(hcs:∀a,a<A->1<=cs a){n:Nat}(hn:n<N)(hnd:n≠d)(h0:0<=f n):∃a l,nxt A tl hd cs ok d f n=a::l/\pth A tl hd cs ok d f n=a::pth A tl hd cs ok d f (hd a):=by
 (cases hl:nxt A tl hd cs ok d f n with|nil=>exact absurd hl (h.nxt_ne hn hnd h0)|cons a l=>refine⟨a,l,rfl,?_⟩;have h2:a∈nxt A tl hd cs ok d f n:=(by rw[hl];simp);have h4:=fE hcs h2;(conv=>lhs;unfold pth iD);rw[if_neg hnd,hl];show a::_=a::_;congr 1;exact jzfv hcs _ _ _ (by omega) (by omega) h4.2)
def wkP(A:Nat)(tl hd:Nat->Nat)(ok:Nat->Bool)(d:Nat):Nat->LN->Prop
 |s,[]=>s=d
 |s,a::p=>a<A/\ok a=true/\tl a=s/\wkP A tl hd ok d (hd a) p
def dA(cs:Nat->Int):LN->Int
 | []=>0
 |a::p=>cs a+dA cs p
theorem DS.le_cost(h:DS A N tl hd cs ok d f):∀(p:LN) (s:Nat),wkP A tl hd ok d s p->0<=f s/\f s<=dA cs p
 | [],s,hp=>by
   have e:s=d:=hp;rw[e,h.zero];exact⟨by omega,by show(0:Int)<=0;omega⟩
 |a::p,s,hp=>by
  obtain⟨h1,h2,h3,h4⟩:=hp;obtain⟨h5,h6⟩:=h.le_cost p (hd a) h4;obtain⟨h7,h8⟩:=h.tri a h1 h2 h5;rw[h3]at h7 h8;refine⟨h7,?_⟩;show f s<=cs a+dA cs p;omega
theorem DS.only(h:DS A N tl hd cs ok d f)(hcs:∀a,a<A->1<=cs a)(hhd:∀a,a<A->hd a<N):∀(p:LN) (s:Nat),s<N->wkP A tl hd ok d s p->f s=dA cs p->cnt A tl hd cs ok d f s=1->pth A tl hd cs ok d f s=p
 | [],s,_,hp,_,_=>by
   have e:s=d:=hp;rw[e];exact kF
 |a::p,s,hs,hp,hc,h1=>by
  obtain⟨h2,h3,h4,h5⟩:=hp;obtain⟨h6,h7⟩:=h.le_cost p (hd a) h5;have hc:f s=cs a+dA cs p:=hc;obtain⟨h8,h9⟩:=h.tri a h2 h3 h6;rw[h4]at h8 h9;have qh:=hcs a h2;have qe:s≠d:=fun e=>(by rw[e,h.zero]at hc h9;omega);have hm:a∈nxt A tl hd cs ok d f s:=dY.2 ⟨h2,h4,h3,qe,h6,by omega⟩;rw[kE hcs,if_neg qe]at h1;rcases rS _ _ (fun b hb=>by
   have qg:=fE hcs hb;exact h.cnt_pos hcs hhd ((f (hd b)).toNat+1) (hd b) (hhd b (dY.1 hb).1) qg.2 (by omega)) h1 with⟨h12,_⟩|⟨b,h12,_,h13⟩
  ·cases h12
  ·rw[h12]at hm
   obtain rfl:a=b:=(by simpa using hm);obtain⟨x,l,qa,qf⟩:=h.pth_eq hcs hs qe h8;rw[h12]at qa;injection qa with qa
   subst qa;rw[qf,h.only hcs hhd p (hd a) (hhd a h2) h5 (by omega) h13]
theorem DS.pth_ok(h:DS A N tl hd cs ok d f)(hcs:∀a,a<A->1<=cs a)(hhd:∀a,a<A->hd a<N):∀(k n:Nat),n<N->0<=f n->f n<k->wkP A tl hd ok d n (pth A tl hd cs ok d f n)/\dA cs (pth A tl hd cs ok d f n)=f n:=by
 intro k;(induction k with|zero=>intro n _ _ _;omega|succ k ih=>intro n hn h0 hk;by_cases e:n=d;{rw[e,kF];exact⟨rfl,by rw[h.zero];rfl⟩};obtain⟨a,l,h1,h2⟩:=h.pth_eq hcs hn e h0;have h3:a∈nxt A tl hd cs ok d f n:=(by rw[h1];simp);have h4:=fE hcs h3;obtain⟨h5,h6,h7,_,_,h8⟩:=dY.1 h3;obtain⟨h9,qa⟩:=ih (hd a) (hhd a h5) h4.2 (by omega);rw[h2];refine⟨⟨h5,h7,h6,h9⟩,?_⟩;show cs a+_=_;omega)
end
end Fo
open Go.RowKit
structure LeO{α:Type}(le:α->α->Prop):Prop where
 refl:∀x,le x x
 tr:∀x y z,le x y->le y z->le x z
 tot:∀x y,le x y\/le y x
def bX{α:Type}(l:List α)(i j:Nat):List α:=match l[i]?,l[j]? with
 |some a,some b=>(l.set i b).set j a
 |_,_=>l
theorem wM{α:Type}{l:List α}{i j:Nat}{a b:α}(hi:l[i]?=some a)(hj:l[j]?=some b):bX l i j=(l.set i b).set j a:=by unfold bX;rw[hi,hj]
theorem lR{α:Type}(l:List α)(i j:Nat):(bX l i j).length=l.length:=by
 unfold bX;split;{rw[yV,yV]};rfl
theorem iE{α:Type}{l:List α}{i j:Nat}{a b:α}(hi:l[i]?=some a)(hj:l[j]?=some b)(k:Nat):(bX l i j)[k]?=if k=j then some a else if k=i then some b else l[k]?:=by
 have h1:=(yH.1 hi).1;have h2:=(yH.1 hj).1;rw[wM hi hj];by_cases e:k=j;{subst e;rw[if_pos rfl,yM (by rw[yV];exact h2)]};rw[if_neg e,vN (fun h=>e h.symm)];by_cases e2:k=i;{subst e2;rw[if_pos rfl,yM h1]};rw[if_neg e2,vN (fun h=>e2 h.symm)]
section
variable {α:Type} {le:α->α->Prop}
def dU(le:α->α->Prop)(l:List α)(n:Nat):Prop:=∀(k:Nat) (a b:α),0<k->k<n->l[(k-1)/2]?=some a->l[k]?=some b->le a b
def UpI(le:α->α->Prop)(l:List α)(n j:Nat):Prop:=
 (∀(k:Nat) (a b:α),0<k->k<n->k≠j->l[(k-1)/2]?=some a->l[k]?=some b->le a b)/\
 (∀(k:Nat) (a b:α),0<j->0<k->k<n->(k-1)/2=j->l[(j-1)/2]?=some a->l[k]?=some b->le a b)
def eI(le:α->α->Prop)(l:List α)(n i:Nat):Prop:=
 (∀(k:Nat) (a b:α),0<k->k<n->(k-1)/2≠i->l[(k-1)/2]?=some a->l[k]?=some b->le a b)/\
 (∀(k:Nat) (a b:α),0<i->0<k->k<n->(k-1)/2=i->l[(i-1)/2]?=some a->l[k]?=some b->le a b)
theorem UpI.done{l:List α}{n j:Nat}(h:UpI le l n j)(hj:j=0\/∀a b,l[(j-1)/2]?=some a->l[j]?=some b->le a b):dU le l n:=fun k a b h0 hk ha hb=>by
 by_cases e:k=j;{subst e;(rcases hj with hj|hj);{omega};{exact hj a b ha hb}};{exact h.1 k a b h0 hk e ha hb}
theorem UpI.step(o:LeO le){l:List α}{n j:Nat}(h:UpI le l n j)(hj:0<j)(hjn:j<n){a b:α}(ha:l[(j-1)/2]?=some a)(hb:l[j]?=some b)(hle:le b a):UpI le (bX l ((j-1)/2) j) n ((j-1)/2):=by
 have hg:=iE ha hb;refine⟨fun k x y h0 hk hne hx hy=>?_,fun k x y hp h0 hk hpar hx hy=>?_⟩;{rw[hg]at hx hy;by_cases e1:k=j;{subst e1;(rw[if_pos rfl]at hy;rw[if_neg (by omega),if_pos rfl]at hx;injection hx with hx;injection hy with hy);subst hx hy;exact hle};rw[if_neg e1,if_neg hne]at hy;by_cases e2:(k-1)/2=j;{rw[if_pos e2]at hx;(injection hx with hx;subst hx);exact h.2 k a y hj h0 hk e2 ha hy};rw[if_neg e2]at hx;by_cases e3:(k-1)/2=(j-1)/2;{rw[if_pos e3]at hx;(injection hx with hx;subst hx);exact o.tr _ _ _ hle (h.1 k a y h0 hk e1 (by rw[e3];exact ha) hy)};rw[if_neg e3]at hx;exact h.1 k x y h0 hk e1 hx hy};rw[hg]at hx hy;rw[if_neg (by omega),if_neg (by omega)]at hx;by_cases e1:k=j;{subst e1;(rw[if_pos rfl]at hy;injection hy with hy;subst hy);exact h.1 _ x a hp (by omega) (by omega) hx ha};rw[if_neg e1,if_neg (by omega)]at hy;exact o.tr _ _ _ (h.1 _ x a hp (by omega) (by omega) hx ha) (h.1 k a y h0 hk e1 (by rw[hpar];exact ha) hy)
theorem eI.done{l:List α}{n i:Nat}(h:eI le l n i)(hi:∀(k:Nat) (a b:α),0<k->k<n->(k-1)/2=i->l[i]?=some a->l[k]?=some b->le a b):dU le l n:=fun k a b h0 hk ha hb=>by
 by_cases e:(k-1)/2=i;{exact hi k a b h0 hk e (by rw[<-e];exact ha) hb};{exact h.1 k a b h0 hk e ha hb}
theorem eI.step(o:LeO le){l:List α}{n i j:Nat}(h:eI le l n i)(hj:0<j)(hjn:j<n)(hp:(j-1)/2=i){a b:α}(ha:l[i]?=some a)(hb:l[j]?=some b)(hle:le b a)(hmin:∀(k:Nat) (c:α),0<k->k<n->(k-1)/2=i->l[k]?=some c->le b c):eI le (bX l i j) n j:=by
 have hg:=iE ha hb;refine⟨fun k x y h0 hk hne hx hy=>?_,fun k x y _ h0 hk hpar hx hy=>?_⟩;{rw[hg]at hx hy;rw[if_neg hne]at hx;by_cases e1:k=j;{subst e1;(rw[if_pos rfl]at hy;rw[if_pos hp]at hx;injection hx with hx;injection hy with hy);subst hx hy;exact hle};rw[if_neg e1]at hy;by_cases e2:k=i;{subst e2;(rw[if_pos rfl]at hy;injection hy with hy;subst hy);rw[if_neg (by omega)]at hx;exact h.2 j x b (by omega) hj hjn hp hx hb};rw[if_neg e2]at hy;by_cases e3:(k-1)/2=i;{rw[if_pos e3]at hx;(injection hx with hx;subst hx);exact hmin k y h0 hk e3 hy};rw[if_neg e3]at hx;exact h.1 k x y h0 hk e3 hx hy};(rw[hg]at hx hy;rw[hp,if_neg (by omega),if_pos rfl]at hx;injection hx with hx;subst hx);rw[if_neg (by omega),if_neg (by omega)]at hy;exact h.1 k b y h0 hk (by omega) (by rw[hpar];exact hb) hy
theorem dU.top(o:LeO le){l:List α}{n:Nat}(h:dU le l n)(hn:n<=l.length):∀(k:Nat) (a b:α),k<n->l[0]?=some a->l[k]?=some b->le a b:=by
 intro k;(induction k using Nat.strongRecOn with|_ k ih=>(intro a b hk ha hb;rcases kQm k with h0|h0);{subst h0;(rw[ha]at hb;injection hb with hb;subst hb);exact o.refl _};obtain⟨c,hc⟩:∃c,l[(k-1)/2]?=some c:=⟨_,yG (by omega)⟩;exact o.tr _ _ _ (ih _ (by omega) a c (by omega) ha hc) (h k c b h0 hk hc hb))
theorem dU.pop{l:List α}{n:Nat}(h:dU le l (n+1))(hn:l.length=n+1){a b:α}(ha:l[0]?=some a)(hb:l[n]?=some b):eI le (bX l 0 n) n 0:=by
 have hg:=iE ha hb;refine⟨fun k x y h0 hk hne hx hy=>?_,fun k x y hp=>by omega⟩;rw[hg]at hx hy;rw[if_neg (by omega),if_neg (by omega)]at hx;rw[if_neg (by omega),if_neg (by omega)]at hy;exact h k x y h0 (by omega) hx hy
theorem dU.push{l:List α}(h:dU le l l.length)(x:α):UpI le (l++[x]) (l.length+1) l.length:=by
 refine⟨fun k a b h0 hk hne ha hb=>?_,fun k a b hp h0 hk hpar=>by omega⟩;rw[yR (by omega)]at ha hb;exact h k a b h0 (by omega) ha hb
end
def kG(t:Tp)(a:Nat):Nat:=match t.links[a/2]? with
 |some l=>if a%2=0 then l.c0.toNat else l.c1.toNat
 |none=>0
end Go.Proofs.YtllmekijiohgmaaGreatDoor
namespace Go.Proofs.YtllmekijiohgmaaGreatDoor
namespace Fo
def tlN(t:Tp)(a:Nat):Nat:=(aX t a).toNat
def hdN(t:Tp)(a:Nat):Nat:=(aJ t a).toNat
def csZ(t:Tp)(a:Nat):Int:=(kG t a:Int)
def okD(t:Tp)(down:List Bool)(d:Nat)(a:Nat):Bool:=!aU down a&&(hdN t a==d||!aZ t (hdN t a:Int))
def okF(t:Tp)(down:List Bool)(s:Nat)(a:Nat):Bool:=!aU down a&&(tlN t a==s||!aZ t (tlN t a:Int))
def dsL(t:Tp)(down:List Bool)(d:Nat):List Int:=bfD (2*t.links.length) t.nodes.toNat (tlN t) (hdN t) (csZ t) (okD t down d) d
def dsP(t:Tp)(down:List Bool)(d n:Nat):Int:=aI (dsL t down d) n
def bJ(t:Tp)(down:List Bool)(n d:Nat):Bool:=decide (0<=dsP t down d n)
def nxP(t:Tp)(down:List Bool)(n d:Nat):LN:=nxt (2*t.links.length) (tlN t) (hdN t) (csZ t) (okD t down d) d (dsP t down d) n
def unB(t:Tp)(n d:Nat):Bool:=cnt (2*t.links.length) (tlN t) (hdN t) (csZ t) (okD t [] d) d (dsP t [] d) n==1
def ptP(t:Tp)(down:List Bool)(n d:Nat):LN:=pth (2*t.links.length) (tlN t) (hdN t) (csZ t) (okD t down d) d (dsP t down d) n
structure Gok(t:Tp):Prop where
 cs:∀a,a<2*t.links.length->1<=csZ t a/\csZ t a<=65535
 tl:∀a,a<2*t.links.length->tlN t a<t.nodes.toNat
 hd:∀a,a<2*t.links.length->hdN t a<t.nodes.toNat
theorem Gok.of{t}(hv:aA t=true):Gok t:=by
 unfold aA at hv;rw[vM]at hv;obtain⟨_,hv⟩:=hv;rw[xW]at hv;have key:∀a,a<2*t.links.length->∃l,t.links[a/2]?=some l/\l.ok t.nodes=true:=fun a ha=>(by have h:t.links[a/2]?=some t.links[a/2]:=yG (by omega);exact⟨_,h,hv _ (yJ h)⟩);have e:∀{l:Lk},l.ok t.nodes=true->(0<=l.a/\l.a<t.nodes)/\(0<=l.b/\l.b<t.nodes)/\(1<=l.c0/\l.c0<=65535)/\(1<=l.c1/\l.c1<=65535):=fun {l} h=>(by unfold Lk.ok ndB inB at h;simp only[vM,decide_eq_true_eq]at h;exact⟨h.1.1.1.1.1.1.2,h.1.1.1.1.1.2,h.1.1.1.1.2,h.1.1.1.2⟩);refine⟨fun a ha=>?_,fun a ha=>?_,fun a ha=>?_⟩ <;> obtain⟨l,h1,h2⟩:=key a ha <;> obtain⟨h3,h4,h5,h6⟩:=e h2;{unfold csZ kG;rw[h1];simp only;split <;> omega};{unfold tlN aX;rw[h1];simp only;split <;> omega};unfold hdN aJ;rw[h1];simp only;split <;> omega
section
variable {t:Tp} {down:List Bool} {d n:Nat}
theorem Gok.ds(g:Gok t)(hd:d<t.nodes.toNat):(dsL t down d).length=t.nodes.toNat/\DS (2*t.links.length) t.nodes.toNat (tlN t) (hdN t) (csZ t) (okD t down d) d (dsP t down d):=jzft g.cs g.tl g.hd hd
theorem Gok.is(g:Gok t)(hd:d<t.nodes.toNat){l:List Int}(hl:l.length=t.nodes.toNat)(h:DS (2*t.links.length) t.nodes.toNat (tlN t) (hdN t) (csZ t) (okD t down d) d (aI l)):l=dsL t down d:=
 h.list (g.ds hd).2 hl (g.ds hd).1 (fun a ha=>(g.cs a ha).1) g.hd
theorem Gok.from_(g:Gok t){s:Nat}(hs:s<t.nodes.toNat)(hd:d<t.nodes.toNat){f:Nat->Int}(h:DS (2*t.links.length) t.nodes.toNat (hdN t) (tlN t) (csZ t) (okF t down s) s f):decide (0<=f d)=bJ t down s d:=by
 unfold bJ;refine decide_eq_decide.2 ⟨fun h0=>?_,fun h0=>?_⟩;{exact h.reach (up:=fun a=>!aU down a) (tr:=fun n=>!aZ t (n:Int)) (g.ds hd).2 (fun _ _=>rfl) (fun _ _=>rfl) (fun a ha=>(g.cs a ha).1) g.tl hd h0};exact(g.ds hd).2.reach (up:=fun a=>!aU down a) (tr:=fun n=>!aZ t (n:Int)) h (fun _ _=>rfl) (fun _ _=>rfl) (fun a ha=>(g.cs a ha).1) g.hd hs h0
end
abbrev Sg:=Nat×Nat
def cK(p:Nat->Bool):Nat->Nat
 |0=>0
 |k+1=>if p (k+1)then k+1 else cK p k
def cG(t:Tp)(p:LN)(k:Nat):Bool:=decide (dsP t [] (hdN t (p[k-1]?.getD 0)) (tlN t (p[0]?.getD 0))=dA (csZ t) (p.take k))&&unB t (tlN t (p[0]?.getD 0)) (hdN t (p[k-1]?.getD 0))
def dL(t:Tp):Nat->LN->List Sg
 |0,_=>[]
 |m+1,p=>match p with
  | []=>[]
  |a::q=>if cK (cG t p) p.length=0 then(2,a)::dL t m q else(1,hdN t (p[cK (cG t p) p.length-1]?.getD 0))::dL t m (p.drop (cK (cG t p) p.length))
def bG(t:Tp)(p:LN):List Sg:=dL t p.length p
def rT(t:Tp)(down:List Bool)(p:LN)(k:Nat):Bool:=
 (!(tlN t (p[0]?.getD 0)==hdN t (p[k-1]?.getD 0))&&unB t (tlN t (p[0]?.getD 0)) (hdN t (p[k-1]?.getD 0))&&(ptP t [] (tlN t (p[0]?.getD 0)) (hdN t (p[k-1]?.getD 0))).all fun a=>!aU down a)&&decide (ptP t [] (tlN t (p[0]?.getD 0)) (hdN t (p[k-1]?.getD 0))=p.take k)
def upW(t:Tp)(down:List Bool):LN->Prop
 | []=>True
 | [a]=>a<2*t.links.length/\aU down a=false
 |a::b::p=>a<2*t.links.length/\aU down a=false/\hdN t a=tlN t b/\aZ t (hdN t a:Int)=false/\upW t down (b::p)
section
variable {t:Tp} {down:List Bool}
theorem upW.tail:∀{p:LN} {a:Nat},upW t down (a::p)->upW t down p
 | [],_,_=>trivial
 |_::_,_,h=>h.2.2.2.2
theorem upW.drop:∀(k:Nat) {p:LN},upW t down p->upW t down (p.drop k)
 |0,_,h=>h
 |_+1,[],_=>trivial
 |k+1,a::p,h=>by rw[List.drop_succ_cons];exact(upW.tail h).drop k
theorem upW.arc:∀{p:LN},upW t down p->∀a∈p,a<2*t.links.length/\aU down a=false
 | [],_,_,h=>by cases h
 | [a],h,b,hb=>by
   obtain rfl:b=a:=(by simpa using hb);exact h
 |a::c::p,h,b,hb=>by
  rcases xZ.1 hb with rfl|hb
  ·exact⟨h.1,h.2.1⟩
  ·exact h.2.2.2.2.arc b hb
theorem upW.way:∀(k:Nat) {p:LN} {a:Nat},upW t down (a::p)->k<=p.length->wkP (2*t.links.length) (tlN t) (hdN t) (okD t [] (hdN t ((a::p)[k]?.getD 0))) (hdN t ((a::p)[k]?.getD 0)) (tlN t a) ((a::p).take (k+1))
 |0,p,a,h,_=>by
  rw[List.take_succ_cons,List.take_zero];refine⟨(h.arc a (by simp)).1,?_,rfl,rfl⟩;show okD t [] (hdN t a) a=true;unfold okD aU;simp
 |k+1,[],a,_,h=>by simp at h
 |k+1,b::p,a,h,hk=>by
  rw[List.take_succ_cons];obtain⟨h1,h2,h3,h4,h5⟩:=h;have h6:=upW.way k h5 (by simpa using hk);refine⟨h1,?_,rfl,?_⟩
  ·unfold okD
   rw[h4];simp[aU]
  ·rw[h3,List.getElem?_cons_succ]
   exact h6
theorem jzfw(g:Gok t){p:LN}(h:upW t down p){k:Nat}(h0:0<k)(hk:k<=p.length):cG t p k=rT t down p k:=by
 (obtain⟨j,rfl⟩:∃j,k=j+1:=⟨k-1,by omega⟩;cases p with|nil=>simp at hk|cons a q=>have hw:=h.way j (by simpa using hk);have qf:(a::q)[j]?=some (a::q)[j]:=yG (by omega);have qa:(a::q)[j]∈a::q:=xR _;have qi:=g.hd _ (h.arc _ qa).1;have qe:=g.tl a (h.arc a (by simp)).1;unfold cG rT;rw[Nat.add_sub_cancel];rw[qf,kQ1]at hw⊢;rw[show(a::q)[0]?.getD 0=a from rfl];generalize hdN t (a::q)[j]=y at*;obtain⟨_,D⟩:=g.ds (down:=[]) qi;obtain⟨c1,c2⟩:=D.le_cost _ _ hw;have qj:0<dA (csZ t) ((a::q).take (j+1)):=(by have key:∀l:LN,(∀b∈l,b<2*t.links.length)->0<=dA (csZ t) l:=fun l=>(by (induction l with|nil=>intro _;exact Int.le_refl _|cons b l ih=>intro hb;have h1:=ih fun c hc=>hb c (by simp[hc]);have h2:=g.cs b (hb b (by simp));show 0<=csZ t b+_;omega));rw[List.take_succ_cons];have h1:=key (q.take j) fun b hb=>(h.arc b (by simp[xM hb])).1;have h2:=g.cs a (h.arc a (by simp)).1;show 0<csZ t a+_;omega);(cases hu:unB t (tlN t a) y with|false=>simp|true=>have qh:cnt (2*t.links.length) (tlN t) (hdN t) (csZ t) (okD t [] y) y (dsP t [] y) (tlN t a)=1:=(by unfold unB at hu;exact beq_iff_eq.1 hu);by_cases e:dsP t [] y (tlN t a)=dA (csZ t) ((a::q).take (j+1));{have qg:tlN t a≠y:=fun e2=>(by have h0:dsP t [] y y=0:=D.zero;rw[e2,h0]at e;omega);have h1:ptP t [] (tlN t a) y=(a::q).take (j+1):=D.only (fun a ha=>(g.cs a ha).1) g.hd _ _ qe hw e qh;have h2:((a::q).take (j+1)).all (fun a=>!aU down a)=true:=xW.2 fun b hb=>(by rw[(h.arc b (xM hb)).2];rfl);rw[h1,h2,yO e,yO rfl];simp[qg]};have h1:ptP t [] (tlN t a) y≠(a::q).take (j+1):=fun h1=>e (by rw[<-h1];exact(D.pth_ok (fun a ha=>(g.cs a ha).1) g.hd ((dsP t [] y (tlN t a)).toNat+1) (tlN t a) qe c1 (by omega)).2.symm);rw[yP e,yP h1];simp))
theorem nI(p:Nat->Bool):∀k,cK p k<=k
 |0=>yX _
 |k+1=>by
  unfold cK
  split
  ·exact yX _
  ·have:=nI p k;omega
end
end Fo
namespace Fo
def ofB(t:Tp)(kd nm:Int)(a:Nat):Bool:=match t.links[a/2]? with
 |some l=>if kd=1 then decide (((a/2:Nat):Int)=nm)else if kd=2 then decide (l.a=nm)||decide (l.b=nm)else decide (l.group=nm)
 |none=>false
def mkL(t:Tp)(kd nm:Int):List Bool:=(List.range (2*t.links.length)).map (ofB t kd nm)
def eP(t:Tp)(a:Nat):Int:=match t.links[a/2]? with
 |some l=>l.group
 |none=>0
def cY(t:Tp)(a d:Nat):Int×Int:=
 if decide (0<eP t a)&&bJ t (mkL t 3 (eP t a)) (tlN t a) d then(3,eP t a)
 else if !(d==hdN t a)&&bJ t (mkL t 2 (hdN t a:Int)) (tlN t a) d then(2,(hdN t a:Int))
 else(1,((a/2:Nat):Int))
def fF(t:Tp)(kd nm:Int)(n a:Nat):Bool:=ofB t kd nm a&&decide (tlN t a=n)
def bQ(t:Tp)(kd nm:Int)(n:Nat):List Bool:=(List.range (2*t.links.length)).map (fF t kd nm n)
def dV(t:Tp)(kd nm:Int)(n:Nat):LN:=(List.range (2*t.links.length)).filter (fF t kd nm n)
def orL(a b:List Bool):List Bool:=List.zipWith (· || ·) a b
structure En where
 arcs:LN
 rep:Bool
 push:List Sg
def En.no:En:=⟨[],false,[]⟩
def dM(l:List Sg):List Sg:=match l with
 |(2,_)::l=>l
 |l=>l
def dG(t:Tp)(down:List Bool)(n d:Nat):En:=
 if !bJ t down n d||n==d then .no
 else if 32<(dM (bG t (ptP t down n d))).length then .no
 else⟨(ptP t down n d).take 1,true,dM (bG t (ptP t down n d))⟩
def gI(own:List Bool)(l:LN):Option Nat:=l.find? fun a=>aU own a
def eQ(t:Tp)(own:List Bool)(a n d:Nat):List Bool:=
 if bJ t (orL (mkL t (cY t a d).1 (cY t a d).2) own) n d then orL (mkL t (cY t a d).1 (cY t a d).2) own else own
def cL(t:Tp)(own:List Bool)(n d:Nat):En:=match gI own (nxP t [] n d)with
 |none=>⟨nxP t [] n d,false,[]⟩
 |some a=>dG t (eQ t own a n d) n d
structure Tb where
 node:Nat
 es:List En
 down:LN
def bW(t:Tp)(kd nm:Int)(n:Nat):Tb:=⟨n,(List.range t.nodes.toNat).map (cL t (bQ t kd nm n) n),dV t kd nm n⟩
def aC(t:Tp)(kd nm:Int):List Tb:=(List.range t.nodes.toNat).map (bW t kd nm)
def cQ(e:En)(st:List Sg):LN×List Sg×Int:=
 if e.rep then(if 32<(e.push++st.tail).length then([],[],5)else(e.arcs,e.push++st.tail,0))else(e.arcs,st,0)
def goN(x:Tb)(dst h:Nat):LN×List Sg×Int:=
 if dst=x.node then([],[], -1)else if 255<=h then([],[],4)
 else match x.es[dst]? with
  |none=>([],[],1)
  |some e=>if e.arcs=[]then([],[],1)else cQ e []
def goS(t:Tp)(x:Tb)(dst h:Nat)(st:List Sg):LN×List Sg×Int:=match st with
 | []=>goN x dst h
 |(k,m)::r=>if 255<=h then([],[],4)
  else if k=2 then(if tlN t m≠x.node then([],[],2)else if m∈x.down then goN x dst h else([m],r,0))
  else match x.es[m]? with
   |none=>goN x dst h
   |some e=>if e.arcs=[]then goN x dst h else cQ e st
def cH(n:Nat):List Sg->List Sg
 | []=>[]
 |s::l=>if s=(1,n)then cH n l else s::l
def cM(t:Tp)(x:Tb)(dst h:Nat)(st:List Sg):LN×List Sg×Int:=goS t x dst h (cH x.node st)
structure Gp where
 node:Nat
 st:List Sg
 am:Rat
def bK(l:List Gp)(x:Gp):List Gp:=match l with
 | []=>[x]
 |g::l=>if g.node=x.node/\g.st=x.st then⟨g.node,g.st,g.am+x.am⟩::l else g::bK l x
structure Fs where
 sh:LQ
 lo:Rat
 nx:List Gp
def dE(l:LQ)(a:Nat)(q:Rat):LQ:=l.set a (l[a]?.getD 0+q)
def bZ(t:Tp)(st:List Sg)(q:Rat)(s:Fs)(a:Nat):Fs:=⟨dE s.sh a q,s.lo,bK s.nx ⟨hdN t a,st,q⟩⟩
def grS(t:Tp)(T:List Tb)(dst h:Nat)(s:Fs)(g:Gp):Fs:=match T[g.node]? with
 |none=>s
 |some x=>match cM t x dst h g.st with
  |(arcs,st,r)=>if arcs=[]then(if r= -1 then s else⟨s.sh,s.lo+g.am,s.nx⟩)else arcs.foldl (bZ t st (g.am/(arcs.length:Rat))) s
def rdS(t:Tp)(T:List Tb)(dst h:Nat)(sh:LQ)(lo:Rat)(gs:List Gp):Fs:=gs.foldl (grS t T dst h) ⟨sh,lo,[]⟩
def flS(t:Tp)(T:List Tb)(dst:Nat):Nat->Nat->LQ->Rat->List Gp->LQ×Rat
 |0,_,sh,lo,_=>(sh,lo)
 |k+1,h,sh,lo,gs=>match gs with
  | []=>(sh,lo)
  |_::_=>flS t T dst k (h+1) (rdS t T dst h sh lo gs).sh (rdS t T dst h sh lo gs).lo (rdS t T dst h sh lo gs).nx
def iF(t:Tp)(T:List Tb)(r:LN):LQ×Rat:=
 flS t T (hdN t (r[r.length-1]?.getD 0)) 257 0 (List.replicate (2*t.links.length) 0) 0 [⟨tlN t (r[0]?.getD 0),r.map fun a=>(2,a),1⟩]
def bY(t:Tp)(kd nm:Int)(r:LN):LQ×Rat:=
 if kd=2/\nm=(tlN t (r[0]?.getD 0):Int)then(List.replicate (2*t.links.length) 0,1)else iF t (aC t kd nm) r
def eY:Tp:=⟨4,[],(List.range 4).map fun i:Nat=>⟨(i:Int),((((i:Nat)+1)%4:Nat):Int),1,1,3,1,0⟩⟩
set_option maxRecDepth 100000
theorem jzfx:bY eY 1 0 [0,2]=([0,0,0,0,0,1,0,1],0):=by decide+kernel
theorem jzfy:bY eY 1 1 [0,2]=([1,1,0,0,0,1,0,1],0):=by decide+kernel
end Fo
namespace Fo
def sgB(t:Tp)(s:Sg):Prop:=(s.1=1/\s.2<t.nodes.toNat)\/(s.1=2/\s.2<2*t.links.length)
def gJ(t:Tp)(n:Nat)(l:LN):Prop:=l.Pairwise (· < ·)/\∀a∈l,a<2*t.links.length/\tlN t a=n
structure EnB(t:Tp)(n d:Nat)(e:En):Prop where
 lea:gJ t n e.arcs
 self:d=n->e.arcs=[]
 one:e.rep=true->e.arcs.length=1
 few:e.push.length<=32
 no:e.rep=false->e.push=[]
 sg:∀s∈e.push,sgB t s
structure TbB(t:Tp)(n:Nat)(x:Tb):Prop where
 node:x.node=n
 len:x.es.length=t.nodes.toNat
 down:gJ t n x.down
 es:∀d e,x.es[d]?=some e->EnB t n d e
section
variable {t:Tp} {down:List Bool} {n d:Nat}
theorem En.no_ok:EnB t n d .no:=⟨⟨List.Pairwise.nil,fun _ h=>(by cases h)⟩,fun _=>rfl,fun h=>(by cases h),yZ 32,fun _=>rfl,fun _ h=>(by cases h)⟩
theorem wN(m:Nat):(List.range m).Pairwise (· < ·):=List.pairwise_lt_range
theorem nJ:gJ t n (nxP t down n d):=⟨(wN _).filter _,fun a h=>by
 have h:=dY.1 h;exact⟨h.1,h.2.1⟩⟩
theorem jzfz:nxP t down d d=[]:=rR
theorem jzf0{kd nm:Int}:gJ t n (dV t kd nm n):=⟨(wN _).filter _,fun a h=>by
 unfold dV fF at h;rw[List.mem_filter,vX,vM,decide_eq_true_eq]at h;exact⟨h.1,h.2.2⟩⟩
theorem rU:∀{p:LN} {s:Nat},wkP (2*t.links.length) (tlN t) (hdN t) (okD t down d) d s p->(∀q r,p=q++r->q≠ []->r≠ []->True)->(∀a∈p,a<2*t.links.length/\aU down a=false)
 | [],_,_,_=>fun _ h=>by cases h
 |a::p,s,h,_=>fun b hb=>by
  obtain⟨h1,h2,_,h4⟩:=h;rcases xZ.1 hb with rfl|hb
  ·refine⟨h1,?_⟩
   unfold okD at h2;rw[vM,Bool.not_eq_true']at h2;exact h2.1
  ·exact rU h4 (fun _ _ _ _ _=>trivial) b hb
theorem rV(g:Gok t):∀(m:Nat) (p:LN),(∀a∈p,a<2*t.links.length)->∀s∈dL t m p,sgB t s
 |0,_,_=>fun _ h=>by unfold dL at h;cases h
 |m+1,[],_=>fun _ h=>by unfold dL at h;cases h
 |m+1,a::q,hp=>fun s hs=>by
  unfold dL at hs;simp only at hs
  split at hs
  ·rcases xZ.1 hs with rfl|hs
   ·exact .inr ⟨rfl,hp a (by simp)⟩
   ·exact rV g m q (fun b hb=>hp b (by simp[hb])) s hs
  ·rename_i hk
   have qa:=nI (cG t (a::q)) (a::q).length;generalize cK (cG t (a::q)) (a::q).length=k at*;rcases xZ.1 hs with rfl|hs
   ·refine .inl ⟨rfl,?_⟩
    rw[yG (show k-1<(a::q).length by omega),kQ1];exact g.hd _ (hp _ (xR _))
   ·exact rV g m _ (fun b hb=>hp b (List.mem_of_mem_drop hb)) s hs
theorem jzf1{l:List Sg}{s:Sg}(h:s∈dM l):s∈l:=by
 unfold dM at h;split at h;{exact xO _ h};exact h
theorem jzf2(g:Gok t)(hn:n<t.nodes.toNat)(hd:d<t.nodes.toNat):EnB t n d (dG t down n d):=by
 unfold dG;by_cases h1:(!bJ t down n d||n==d)=true;{rw[if_pos h1];exact En.no_ok};rw[if_neg h1];by_cases h2:32<(dM (bG t (ptP t down n d))).length;{rw[if_pos h2];exact En.no_ok};rw[if_neg h2];rw[Bool.or_eq_true,Bool.not_eq_true',beq_iff_eq,not_or,Bool.not_eq_false]at h1;obtain⟨h3,h4⟩:=h1;unfold bJ at h3;rw[decide_eq_true_eq]at h3;obtain⟨_,D⟩:=g.ds (down:=down) hd;have hc:∀a,a<2*t.links.length->1<=csZ t a:=fun a ha=>(g.cs a ha).1;obtain⟨w1,_⟩:=D.pth_ok hc g.hd ((dsP t down d n).toNat+1) n hn h3 (by omega);obtain⟨a,l,e1,e2⟩:=D.pth_eq hc hn h4 h3;have w2:=rU w1 fun _ _ _ _ _=>trivial;have e3:ptP t down n d=a::ptP t down (hdN t a) d:=e2;have hm:=dY.1 (show a∈nxt (2*t.links.length) (tlN t) (hdN t) (csZ t) (okD t down d) d (dsP t down d) n by rw[e1];simp);refine⟨?_,fun e=>absurd e.symm h4,fun _=>?_,Nat.not_lt.1 h2,fun h=>(by cases h),fun s hs=>?_⟩;{show gJ t n ((ptP t down n d).take 1);rw[e3];refine⟨by simp,fun b hb=>?_⟩;obtain rfl:b=a:=(by simpa using hb);exact⟨hm.1,hm.2.1⟩};{show((ptP t down n d).take 1).length=1;rw[e3];rfl};exact rV g _ _ (fun b hb=>(w2 b hb).1) s (jzf1 hs)
theorem wO(g:Gok t)(hn:n<t.nodes.toNat)(hd:d<t.nodes.toNat)(own:List Bool):EnB t n d (cL t own n d):=by
 unfold cL;split;{exact⟨nJ,fun e=>by rw[e];exact jzfz,fun h=>(by cases h),yZ 32,fun _=>rfl,fun _ h=>(by cases h)⟩};exact jzf2 g hn hd
theorem nK(g:Gok t)(hn:n<t.nodes.toNat)(kd nm:Int):TbB t n (bW t kd nm n):=by
 refine⟨rfl,by unfold bW;simp,jzf0,fun d e h=>?_⟩;unfold bW at h;simp only[yW]at h;by_cases hd:d<t.nodes.toNat;{rw[xJ hd]at h;(injection h with h);rw[<-h];exact wO g hn hd _};rw[yI (by simpa using hd)]at h;cases h
structure StB(t:Tp)(n:Nat)(o:LN×List Sg×Int):Prop where
 arc:∀a∈o.1,a<2*t.links.length/\tlN t a=n
 few:o.1.length<=2*t.links.length
 sg:∀s∈o.2.1,sgB t s
 pos:o.2.2=0↔o.1≠ []
theorem wQ:∀(l:LN) (k m:Nat),l.Pairwise (· < ·)->(∀a∈l,k<=a/\a<m)->l.length<=m-k
 | [],_,_,_,_=>yZ _
 |a::l,k,m,h,hm=>by
  obtain⟨h1,h2⟩:=List.pairwise_cons.1 h;have h3:=wQ l (a+1) m h2 fun b hb=>⟨h1 b hb,(hm b (by simp[hb])).2⟩;have h4:=hm a (by simp);show l.length+1<=m-k;omega
theorem gJ.few{l:LN}(h:gJ t n l):l.length<=2*t.links.length:=wQ l 0 _ h.1 fun a ha=>⟨yZ _,(h.2 a ha).1⟩
theorem iG{r:Int}(h:r≠0):StB t n ([],[],r):=⟨fun _ h=>(by cases h),yZ _,fun _ h=>(by cases h),⟨fun e=>absurd e h,fun e=>absurd rfl e⟩⟩
theorem wW{e:En}(he:EnB t n d e)(ha:e.arcs≠ []){st:List Sg}(hs:∀s∈st,sgB t s):StB t n (cQ e st):=by
 unfold cQ;split;{split;{exact iG (by decide)};(refine⟨he.lea.2,he.lea.few,fun s h=>?_,⟨fun _=>ha,fun _=>rfl⟩⟩;rcases xY.1 h with h|h);{exact he.sg s h};exact hs s (List.mem_of_mem_tail h)};exact⟨he.lea.2,he.lea.few,hs,⟨fun _=>ha,fun _=>rfl⟩⟩
theorem nL{x:Tb}(hx:TbB t n x)(dst h:Nat):StB t n (goN x dst h):=by
 unfold goN;split;{exact iG (by decide)};split;{exact iG (by decide)};split;{exact iG (by decide)};rename_i e he;split;{exact iG (by decide)};rename_i ha;exact wW (hx.es _ _ he) ha fun _ h=>by cases h
theorem jzf3{x:Tb}(hx:TbB t n x)(dst h:Nat):∀{st:List Sg},(∀s∈st,sgB t s)->StB t n (goS t x dst h st)
 | [],_=>nL hx dst h
 |(k,m)::r,hs=>by
  unfold goS;simp only
  split
  ·exact iG (by decide)
  split
  ·rename_i hk
   split
   ·exact iG (by decide)
   rename_i ht
   split
   ·exact nL hx dst h
   have hm:m<2*t.links.length:=by
    rcases hs (k,m) (by simp)with⟨h1,_⟩|⟨_,h2⟩
    ·simp only at h1;omega
    exact h2
   rw[hx.node,Decidable.not_not]at ht;refine⟨fun a ha=>?_,by show 1<=_;omega,fun s h=>hs s (by simp[h]),⟨fun _=>by simp,fun _=>rfl⟩⟩;obtain rfl:a=m:=(by simpa using ha);exact⟨hm,ht⟩
  split
  ·exact nL hx dst h
  rename_i e he
  split
  ·exact nL hx dst h
  rename_i ha
  exact wW (hx.es _ _ he) ha hs
theorem rW{n:Nat}:∀{st:List Sg} {s:Sg},s∈cH n st->s∈st
 | [],_,h=>h
 |a::l,s,h=>by
  unfold cH at h
  split at h
  ·exact xO _ (rW h)
  ·exact h
theorem lS{x:Tb}(hx:TbB t n x)(dst h:Nat){st:List Sg}(hs:∀s∈st,sgB t s):StB t n (cM t x dst h st):=jzf3 hx dst h fun s h=>hs s (rW h)
theorem jzf4(x:Tb)(dst:Nat){h:Nat}(hh:255<=h)(st:List Sg):(cM t x dst h st).1=[]:=by
 have hN:(goN x dst h).1=[]:=(by unfold goN;split;{rfl};rfl);(unfold cM;cases cH x.node st with|nil=>exact hN|cons s r=>obtain⟨k,m⟩:=s;unfold goS;simp only;rw[if_pos hh])
end
end Fo
namespace Fo
def aK(K:List Int)(x:Nat):Int:=K[x]?.getD 0
def leK(K:List Int)(x y:Nat):Prop:=aK K x<aK K y\/(aK K x=aK K y/\x<=y)
theorem gK(K:List Int):LeO (leK K):=⟨fun x=>.inr ⟨rfl,yX _⟩,fun x y z h1 h2=>by unfold leK at*;omega,fun x y=>by unfold leK;omega⟩
structure HP(N:Nat)(K:List Int)(P O:LN):Prop where
 kl:K.length=N
 pl:P.length=N
 inn:∀i x,O[i]?=some x->x<N/\P[x]?=some (i+1)
 off:∀x,x<N->P[x]?=some 0\/∃i,P[x]?=some (i+1)/\O[i]?=some x
def qP(K:List Int)(P:LN)(x:Nat):Option Int:=if P[x]?.getD 0=0 then none else some (aK K x)
section
variable {N:Nat} {K:List Int} {P O:List Nat}
theorem lU{x i:Nat}{k:Int}(hi:i<K.length):aK (K.set i k) x=if x=i then k else aK K x:=by
 unfold aK;by_cases e:x=i;{subst e;rw[if_pos rfl,yM hi];rfl};rw[if_neg e,vN fun h=>e h.symm]
theorem nM{x i k:Nat}(hi:i<P.length):(P.set i k)[x]?=if x=i then some k else P[x]?:=by
 by_cases e:x=i;{subst e;rw[if_pos rfl,yM hi]};rw[if_neg e,vN fun h=>e h.symm]
theorem HP.inj(h:HP N K P O){i j x:Nat}(hi:O[i]?=some x)(hj:O[j]?=some x):i=j:=by
 have h1:=(h.inn i x hi).2;rw[(h.inn j x hj).2]at h1;injection h1 with h1
 omega
theorem HP.swap(h:HP N K P O){p q a b:Nat}(hp:O[p]?=some a)(hq:O[q]?=some b):HP N K ((P.set b (p+1)).set a (q+1)) (bX O p q)/\∀x,qP K ((P.set b (p+1)).set a (q+1)) x=qP K P x:=by
 (have hg:=iE hp hq;obtain⟨ha,qf⟩:=h.inn p a hp;obtain⟨hb,qa⟩:=h.inn q b hq;have hl:=h.pl;have hS:∀x,((P.set b (p+1)).set a (q+1))[x]?=if x=a then some (q+1)else if x=b then some (p+1)else P[x]?:=fun x=>(by rw[nM (by rw[yV];omega),nM (by omega)]));refine⟨⟨h.kl,by simp[hl],fun i x hi=>?_,fun x hx=>?_⟩,fun x=>?_⟩;{rw[hg]at hi;rw[hS];by_cases e1:i=q;{rw[if_pos e1]at hi;(injection hi with hi);rw[if_pos hi.symm,e1];exact⟨by omega,rfl⟩};rw[if_neg e1]at hi;by_cases e2:i=p;{rw[if_pos e2]at hi;(injection hi with hi);have qg:x≠a:=fun e=>(by rw[e]at hi;rw[hi]at hq;have:=h.inj hq hp;omega);rw[if_neg qg,if_pos hi.symm,e2];exact⟨by omega,rfl⟩};rw[if_neg e2]at hi;have h1:x≠a:=fun e=>e2 (h.inj (by rw[e]at hi;exact hi) hp);have h2:x≠b:=fun e=>e1 (h.inj (by rw[e]at hi;exact hi) hq);rw[if_neg h1,if_neg h2];exact h.inn i x hi};{rw[hS];by_cases e1:x=a;{rw[if_pos e1];exact .inr ⟨q,rfl,by rw[hg,if_pos rfl,e1]⟩};rw[if_neg e1];by_cases e2:x=b;{rw[if_pos e2];have qe:p≠q:=fun e=>(by (rw[e,hq]at hp;injection hp with hp);exact e1 (by rw[e2,hp]));exact .inr ⟨p,rfl,by rw[hg,if_neg qe,if_pos rfl,e2]⟩};(rw[if_neg e2];rcases h.off x hx with h1|⟨i,h1,h2⟩);{exact .inl h1};have h3:i≠q:=fun e=>(by rw[e,hq]at h2;injection h2 with h2;exact e2 h2.symm);have h4:i≠p:=fun e=>(by rw[e,hp]at h2;injection h2 with h2;exact e1 h2.symm);exact .inr ⟨i,h1,by rw[hg,if_neg h3,if_neg h4];exact h2⟩};unfold qP;rw[hS];by_cases e1:x=a;{rw[if_pos e1,e1,qf];simp};rw[if_neg e1];by_cases e2:x=b;{rw[if_pos e2,e2,qa];simp};rw[if_neg e2]
theorem HP.new(N:Nat):HP N (List.replicate N 0) (List.replicate N 0) []/\∀x,qP (List.replicate N 0) (List.replicate N 0) x=none:=by
 have h0:∀x:Nat,(List.replicate N 0)[x]?.getD 0=0:=fun x=>(by rw[xB];split <;> rfl);refine⟨⟨by simp,by simp,fun i x h=>by simp at h,fun x hx=>.inl ?_⟩,fun x=>?_⟩;{rw[xB,if_pos hx]};unfold qP;rw[if_pos (h0 x)]
theorem rX{i x y:Nat}{k:Int}(hi:i<K.length)(hx:x≠i)(hy:y≠i)(h:leK K x y):leK (K.set i k) x y:=by
 unfold leK at*;rw[lU hi,lU hi,if_neg hx,if_neg hy];exact h
theorem HP.put(h:HP N K P O)(hh:dU (leK K) O O.length){i:Nat}{k:Int}(hi:i<N)(h0:P[i]?=some 0):
  HP N (K.set i k) (P.set i (O.length+1)) (O++[i])/\UpI (leK (K.set i k)) (O++[i]) (O.length+1) O.length/\∀x,qP (K.set i k) (P.set i (O.length+1)) x=if x=i then some k else qP K P x:=by
 have hl:=h.pl;have hk:=h.kl;have qa:∀j:Nat,O[j]?≠some i:=fun j e=>(by (have:=(h.inn j i e).2;rw[h0]at this;injection this with this);omega);(have hS:∀x,(P.set i (O.length+1))[x]?=if x=i then some (O.length+1)else P[x]?:=fun x=>nM (by omega));(have hO:∀j,(O++[i])[j]?=if j=O.length then some i else O[j]?:=fun j=>(by by_cases e:j=O.length;{subst e;rw[if_pos rfl,yS (yX _),Nat.sub_self];rfl};rw[if_neg e];by_cases e2:j<O.length;{rw[yR e2]};rw[yI (by simp;omega),yI (by omega)]));refine⟨⟨by simp[hk],by simp[hl],fun j x hj=>?_,fun x hx=>?_⟩,?_,fun x=>?_⟩;{rw[hO]at hj;rw[hS];by_cases e:j=O.length;{rw[if_pos e]at hj;(injection hj with hj);rw[if_pos hj.symm,e];exact⟨by omega,rfl⟩};rw[if_neg e]at hj;rw[if_neg fun e2=>qa j (by rw[<-e2];exact hj)];exact h.inn j x hj};{rw[hS];by_cases e:x=i;{rw[if_pos e];exact .inr ⟨O.length,rfl,by rw[hO,if_pos rfl,e]⟩};(rw[if_neg e];rcases h.off x hx with h1|⟨j,h1,h2⟩);{exact .inl h1};have:=(yH.1 h2).1;exact .inr ⟨j,h1,by rw[hO,if_neg (by omega)];exact h2⟩};{refine⟨fun m a b m0 hm hne ha hb=>?_,fun m a b p0 m0 hm hpar=>by omega⟩;rw[yR (by omega)]at ha hb;exact rX (by omega) (fun e=>qa _ (by rw[<-e];exact ha)) (fun e=>qa _ (by rw[<-e];exact hb)) (hh m a b m0 (by omega) ha hb)};unfold qP;rw[hS,lU (by omega)];by_cases e:x=i;{simp[e]};rw[if_neg e,if_neg e,if_neg e]
theorem HP.less(h:HP N K P O)(hh:dU (leK K) O O.length){i j:Nat}{k:Int}(hi:O[j]?=some i)(hk:k<=aK K i):
  HP N (K.set i k) P O/\UpI (leK (K.set i k)) O O.length j/\∀x,qP (K.set i k) P x=if x=i then some k else qP K P x:=by
 (obtain⟨qi,qf⟩:=h.inn j i hi;have qe:=h.kl;have qh:=(yH.1 hi).1;have hA:∀x,aK (K.set i k) x=if x=i then k else aK K x:=fun x=>lU (by omega));refine⟨⟨by simp[qe],h.pl,h.inn,h.off⟩,⟨fun m a b m0 hm hne ha hb=>?_,fun m a b p0 m0 hm hpar ha hb=>?_⟩,fun x=>?_⟩;{have h1:=hh m a b m0 hm ha hb;have qa:b≠i:=fun e=>hne (h.inj hb (by rw[e];exact hi));unfold leK at h1⊢;rw[hA,hA,if_neg qa];split;{rename_i e;rw[e]at h1;omega};exact h1};{have h1:=hh m i b m0 hm (by rw[hpar];exact hi) hb;have h2:=hh j a i p0 (by omega) ha hi;have h3:=(gK K).tr _ _ _ h2 h1;have qa:b≠i:=fun e=>(by have:=h.inj hb (by rw[e];exact hi);omega);have qg:a≠i:=fun e=>(by have:=h.inj ha (by rw[e];exact hi);omega);exact rX (by omega) qg qa h3};unfold qP;rw[hA];by_cases e:x=i;{rw[if_pos e,if_pos e,e,qf];simp};rw[if_neg e,if_neg e]
theorem HP.least(h:HP N K P O)(hh:dU (leK K) O O.length){i:Nat}(hi:O[0]?=some i):qP K P i=some (aK K i)/\∀x k,qP K P x=some k->aK K i<=k:=by
 obtain⟨qf,qa⟩:=h.inn 0 i hi;refine⟨by unfold qP;rw[qa];simp,fun x k hx=>?_⟩;unfold qP at hx;by_cases e:P[x]?.getD 0=0;{rw[if_pos e]at hx;cases hx};(rw[if_neg e]at hx;injection hx with hx);have qe:x<N:=(by (rcases kQd x N with h1|h1);{exact h1};rw[yI (by rw[h.pl];exact h1)]at e;exact absurd rfl e);(rcases h.off x qe with h1|⟨j,h1,h2⟩);{rw[h1]at e;exact absurd rfl e};have:=hh.top (gK K) (yX _) j i x (yH.1 h2).1 hi h2;unfold leK at this;omega
theorem HP.none_(h:HP N K P [])(x:Nat):qP K P x=none:=by
 (unfold qP;rw[if_pos];rcases kQd x N with h1|h1);{(rcases h.off x h1 with h2|⟨i,_,h2⟩);{rw[h2];rfl};simp at h2};rw[yI (by rw[h.pl];exact h1)];rfl
theorem HP.take_(h:HP N K P O){n i b:Nat}(hn:O.length=n+1)(hi:O[0]?=some i)(hb:O[n]?=some b)(hh:dU (leK K) O O.length):
  HP N (K.set i 0) (((P.set b 1).set i (n+1)).set i 0) ((bX O 0 n).take n)/\eI (leK (K.set i 0)) ((bX O 0 n).take n) n 0/\∀x,qP (K.set i 0) (((P.set b 1).set i (n+1)).set i 0) x=if x=i then none else qP K P x:=by
 (obtain⟨hS,hQ⟩:=h.swap hi hb;have hg:=iE hi hb;obtain⟨qg,_⟩:=h.inn 0 i hi;have qe:=h.kl;have qf:=hS.pl;have hT:∀j,((bX O 0 n).take n)[j]?=if j<n then(bX O 0 n)[j]? else none:=fun j=>xG);have qa:∀j x,j<n->(bX O 0 n)[j]?=some x->x≠i:=fun j x hj hx e=>(by have h1:(bX O 0 n)[n]?=some i:=(by rw[hg,if_pos rfl]);have:=hS.inj hx (by rw[e];exact h1);omega);(have hP:∀x,(((P.set b 1).set i (n+1)).set i 0)[x]?=if x=i then some 0 else((P.set b 1).set i (n+1))[x]?:=fun x=>nM (by rw[qf];exact qg));refine⟨⟨by simp[qe],by simp[h.pl],fun j x hj=>?_,fun x hx=>?_⟩,?_,fun x=>?_⟩;{rw[hT]at hj;split at hj;{rename_i hjn;rw[hP,if_neg (qa j x hjn hj)];exact hS.inn j x hj};cases hj};{rw[hP];by_cases e:x=i;{rw[if_pos e];exact .inl rfl};(rw[if_neg e];rcases hS.off x hx with h1|⟨j,h1,h2⟩);{exact .inl h1};have h3:j≠n:=fun e2=>(by (rw[e2,hg,if_pos rfl]at h2;injection h2 with h2);exact e h2.symm);have h4:=(yH.1 h2).1;rw[lR,hn]at h4;exact .inr ⟨j,h1,by rw[hT,if_pos (by omega)];exact h2⟩};{rw[hn]at hh;obtain⟨d1,d2⟩:=dU.pop hh hn hi hb;refine⟨fun m x y m0 hm hpar hx hy=>?_,fun m x y p0=>by omega⟩;rw[hT,if_pos (by omega)]at hx;rw[hT,if_pos hm]at hy;exact rX (by omega) (qa _ x (by omega) hx) (qa _ y hm hy) (d1 m x y m0 hm hpar hx hy)};unfold qP;rw[hP,lU (by omega)];by_cases e:x=i;{simp[e]};have:=hQ x;unfold qP at this;rw[if_neg e,if_neg e,if_neg e];exact this
end
end Fo
open Go.RowKit
def aR(l:List Int):List Value:=l.map fun a=>Value.int .i64 a
theorem Rd.iint{w}{A}{l:List Int}(h:Rd w A (aR l)){k:Nat}{x:Int}(hx:l[k]?=some x):∃b o:Nat,A=some (aD b o)/\b<w.heap.size/\w.cell? (aD b (o+k))=some (vI x):=by
 have hk:=(yH.1 hx).1;obtain⟨b,o,e,hb,hc⟩:=h.at_ (i:=k) (by unfold aR;simpa using hk);refine⟨b,o,e,hb,?_⟩;rw[hc k (by unfold aR;simpa using hk)];unfold aR;rw[yW,hx];rfl
theorem jzf5{w:World}{p:Addr}{v:Value}(h:w.cell? p=some v):p.block<w.heap.size:=by
 unfold World.cell? at h;rcases kQd p.block w.heap.size with hlt|hge
 ·exact hlt
 rw[kQn hge]at h;cases h
theorem aH{w w'}(hx:Ext w w'){p:Addr}{v:Value}(h:w.cell? p=some v):w'.cell? p=some v:=(hx.cell (jzf5 h)).trans h
end Go.Proofs.YtllmekijiohgmaaGreatDoor
