/- Walks, part 17. -/
import Derived.Lib.AppendZerosOnto
import Derived.Test.YtfeeacaofjpkaaaGreatDoorK16
set_option linter.unusedVariables false
set_option linter.unusedSimpArgs false
set_option maxRecDepth 100000
set_option maxHeartbeats 8000000
namespace Go.Proofs.YtfeeacaofjpkaaaGreatDoor
open Go.Proofs.Tryz
open Go.RowKit
structure cI where
 dem:Int
 arcs:List Int
 flow:Rat
def ldA(L2:Nat)(f:Rat):LQ->List Int->Option (LQ)
 |ld,[]=>some ld
 |ld,a::ars=>if 0<=a/\a<(L2:Int)then ldA L2 f (ld.set a.toNat (Sx.at_ ld a.toNat+f)) ars else none
def ldP(L2:Nat):LQ->List cI->Option (LQ)
 |ld,[]=>some ld
 |ld,p::ps=>match ldA L2 p.flow ld p.arcs with
  |none=>none
  |some ld'=>ldP L2 ld' ps
def cU(t:Tp)(ps:List cI):LQ×Int:=
 if aH t=true then match ldP (2*t.links.length) (List.replicate (2*t.links.length) 0) ps with
  |none=>([],2)
  |some ld=>(ld,0)
 else([],1)
section
variable {L2:Nat}
theorem wI(f:Rat):∀(ars bs:List Int) (ld:LQ),ldA L2 f ld (ars++bs)=(ldA L2 f ld ars).bind fun m=>ldA L2 f m bs
 | [],bs,ld=>rfl
 |a::ars,bs,ld=>by
  show(if 0<=a/\a<(L2:Int)then ldA L2 f (ld.set a.toNat (Sx.at_ ld a.toNat+f)) (ars++bs)else none)=(if 0<=a/\a<(L2:Int)then ldA L2 f (ld.set a.toNat (Sx.at_ ld a.toNat+f)) ars else none).bind _
  split
  ·exact wI f ars bs _
  ·rfl
theorem wJ:∀(ars bs:List cI) (ld:LQ),ldP L2 ld (ars++bs)=(ldP L2 ld ars).bind fun m=>ldP L2 m bs
 | [],bs,ld=>rfl
 |p::ars,bs,ld=>by
  show(match ldA L2 p.flow ld p.arcs with|none=>none|some ld'=>ldP L2 ld' (ars++bs))=(match ldA L2 p.flow ld p.arcs with|none=>none|some ld'=>ldP L2 ld' ars).bind _;cases ldA L2 p.flow ld p.arcs with
  |none=>rfl
  |some m=>exact wJ ars bs m
theorem wK(f:Rat):∀(ars:List Int) {ld ld':LQ},ldA L2 f ld ars=some ld'->ld'.length=ld.length
 | [],ld,ld',h=>by injection h with h;rw[h]
 |a::ars,ld,ld',h=>by
  have h:(if 0<=a/\a<(L2:Int)then ldA L2 f (ld.set a.toNat (Sx.at_ ld a.toNat+f)) ars else none)=some ld':=h
  split at h
  ·rw[wK f ars h,yV]
  ·cases h
theorem wL:∀(ps:List cI) {ld ld':LQ},ldP L2 ld ps=some ld'->ld'.length=ld.length
 | [],ld,ld',h=>by injection h with h;rw[h]
 |p::ps,ld,ld',h=>by
  have h:(match ldA L2 p.flow ld p.arcs with|none=>none|some ld'=>ldP L2 ld' ps)=some ld':=h;cases h1:ldA L2 p.flow ld p.arcs with
  |none=>rw[h1]at h;cases h
  |some m=>
   rw[h1]at h;rw[wL ps h,wK p.flow p.arcs h1]
theorem wM{f:Rat}{P:Nat}(hf:SzQ f P):∀(ars:List Int) {k:Nat} {ld ld':LQ},(∀q∈ld,SzQ q k)->SzQ 0 k->ldA L2 f ld ars=some ld'->∀q∈ld',SzQ q (k+ars.length*(P+1))
 | [],k,ld,ld',hq,h0,h=>by injection h with h;subst h;intro q qa;exact(hq q qa).mono qS
 |a::ars,k,ld,ld',hq,h0,h=>by
  have h:(if 0<=a/\a<(L2:Int)then ldA L2 f (ld.set a.toNat (Sx.at_ ld a.toNat+f)) ars else none)=some ld':=h
  split at h
  ·have h1:∀q∈ld.set a.toNat (Sx.at_ ld a.toNat+f),SzQ q (k+P+1):=fun q qa=>by
    rcases xE qa with h2|h2
    ·exact(hq q h2).mono qO
    ·rw[h2]
     refine SzQ.add ?_ hf;unfold Sx.at_;cases h3:ld[a.toNat]? with
     |none=>exact h0
     |some y=>exact hq y (yJ h3)
   intro q qa;have h4:=wM hf ars h1 (h0.mono qO) h q qa;refine h4.mono ?_;rw[kQo,xP,xQ];omega
  ·cases h
def dA(ps:List cI):Nat:=(ps.map fun p=>p.arcs.length).sum
theorem wN{P:Nat}:∀(ps:List cI) {k:Nat} {ld ld':LQ},(∀p∈ps,SzQ p.flow P)->(∀q∈ld,SzQ q k)->SzQ 0 k->ldP L2 ld ps=some ld'->∀q∈ld',SzQ q (k+dA ps*(P+1))
 | [],k,ld,ld',_,hq,h0,h=>by injection h with h;subst h;intro q qa;exact(hq q qa).mono (by simp[dA])
 |p::ps,k,ld,ld',hp,hq,h0,h=>by
  have h:(match ldA L2 p.flow ld p.arcs with|none=>none|some ld'=>ldP L2 ld' ps)=some ld':=h;cases h1:ldA L2 p.flow ld p.arcs with
  |none=>rw[h1]at h;cases h
  |some m=>
   rw[h1]at h;have h2:=wM (hp p qS) p.arcs hq h0 h1;intro q qa;refine(wN ps (fun p' hp'=>hp p' (xO _ hp')) h2 (h0.mono qO) h q qa).mono ?_;have:dA (p::ps)=p.arcs.length+dA ps:=(by simp[dA]);rw[this,xP];omega
theorem jzl6{f:Rat}{ars:List Int}{ld lc:LQ}{k:Nat}{a:Int}(h:ldA L2 f ld (ars.take k)=some lc)(ha:ars[k]?=some a)(hin:0<=a/\a<(L2:Int)):ldA L2 f ld (ars.take (k+1))=some (lc.set a.toNat (Sx.at_ lc a.toNat+f)):=by
 rw[kQr,ha,wI,h];show(if 0<=a/\a<(L2:Int)then _ else none)=_;rw[qE hin];rfl
theorem jzl7{f:Rat}{ars:List Int}{ld lc:LQ}{k:Nat}{a:Int}(h:ldA L2 f ld (ars.take k)=some lc)(ha:ars[k]?=some a)(hin:¬(0<=a/\a<(L2:Int))):ldA L2 f ld ars=none:=by
 have hk:=(yH.1 ha);have e:ars=ars.take k++a::ars.drop (k+1):=(by obtain⟨h1,h2⟩:=hk;rw[<-h2,List.getElem_cons_drop,kZz]);rw[e,wI,h];show(if 0<=a/\a<(L2:Int)then _ else none)=_;rw[qF hin]
theorem jzl8{ps:List cI}{ld lc l0:LQ}{n:Nat}{p:cI}(h:ldP L2 l0 (ps.take n)=some ld)(hp:ps[n]?=some p)(hl:ldA L2 p.flow ld p.arcs=some lc):ldP L2 l0 (ps.take (n+1))=some lc:=by
 rw[kQr,hp,wJ,h];show(match ldA L2 p.flow ld p.arcs with|none=>none|some ld'=>ldP L2 ld' [])=some lc;rw[hl];rfl
theorem jzl9{ps:List cI}{ld l0:LQ}{n:Nat}{p:cI}(h:ldP L2 l0 (ps.take n)=some ld)(hp:ps[n]?=some p)(hl:ldA L2 p.flow ld p.arcs=none):ldP L2 l0 ps=none:=by
 have e:ps=ps.take n++p::ps.drop (n+1):=(by obtain⟨h1,h2⟩:=yH.1 hp;rw[<-h2,List.getElem_cons_drop,kZz]);rw[e,wJ,h];show(match ldA L2 p.flow ld p.arcs with|none=>none|some ld'=>ldP L2 ld' (ps.drop (n+1)))=none;rw[hl]
theorem jzma{ps:List cI}{p:cI}(h:p∈ps):p.arcs.length<=dA ps:=by
 (induction ps with|nil=>cases h|cons q ps ih=>(have e:dA (q::ps)=q.arcs.length+dA ps:=(by simp[dA]);rcases xZ.1 h with rfl|h);{omega};have:=ih h;omega)
theorem jzmb(ps:List cI)(n:Nat):dA (ps.take n)<=dA ps:=by
 (induction ps generalizing n with|nil=>simp[dA]|cons p ps ih=>(cases n with|zero=>simp[dA]|succ n=>have:=ih n;simp[dA]at this⊢;exact this))
end
def PzC(w:World)(cs:List Value)(p:cI):Prop:=
 ∃(A:OA) (c:Nat) (neg:Bool) (A1:OA) (n1 c1:Nat) (A2:OA) (n2 c2:Nat),cs=[vI p.dem,.s A p.arcs.length c,.bool neg,.s A1 n1 c1,.s A2 n2 c2]/\p.arcs.length<=c/\Rd w A (fB p.arcs)/\aB w neg A1 n1 c1 A2 n2 c2 p.flow
theorem PzC.K{w w'}{cs:List Value}{p:cI}(h:PzC w cs p)(hx:Ext w w'):PzC w' cs p:=by
 obtain⟨A,c,neg,A1,n1,c1,A2,n2,c2,h1,h2,h3,h4⟩:=h;exact⟨A,c,neg,A1,n1,c1,A2,n2,c2,h1,h2,h3.K hx,h4.K hx⟩
def RdL{α:Type}(R:World->List Value->α->Prop)(s:Nat)(w:World)(A:OA)(l:List α):Prop:=
 ∃css:List (List Value),css.length=l.length/\(∀cs∈css,cs.length=s)/\Rd w A css.flatten/\∀(i:Nat) (x:α),l[i]?=some x->∃cs,css[i]?=some cs/\R w cs x
section
variable {α:Type} {R:World->List Value->α->Prop} {s:Nat} {w w':World} {A:Option Addr} {l:List α}
theorem RdL.K(h:RdL R s w A l)(hx:Ext w w')(hR:∀cs x,R w cs x->R w' cs x):RdL R s w' A l:=by
 obtain⟨css,h1,h2,h3,h4⟩:=h;refine⟨css,h1,h2,h3.K hx,fun i x hi=>?_⟩;obtain⟨cs,k1,k2⟩:=h4 i x hi;exact⟨cs,k1,hR cs x k2⟩
theorem RdL.at_(h:RdL R s w A l)(hs:0<s){i:Nat}{x:α}(hi:l[i]?=some x):∃(b o:Nat) (cs:List Value),A=some (aD b o)/\b<w.heap.size/\cs.length=s/\(∀k,k<s->w.cell? (aD b (o+(i*s+k)))=cs[k]?)/\R w cs x:=by
 have qf:=(yH.1 hi).1;obtain⟨css,h1,h2,h3,h4⟩:=h;obtain⟨cs,k1,k2⟩:=h4 i x hi;have qa:=fZ css h2;have hb:∀k,k<s->i*s+k<css.flatten.length:=fun k hk=>(by rw[qa,h1];have:(i+1)*s<=l.length*s:=xS s qf;rw[xP,xQ]at this;omega);obtain⟨b,o,e,qe,hc⟩:=h3.at_ (hb 0 hs);refine⟨b,o,cs,e,qe,h2 cs (yJ k1),fun k hk=>?_,k2⟩;rw[hc _ (hb k hk),eL css h2 i k qO hk,k1];rfl
end
abbrev PLr(w:World)(A:OA)(ps:List cI):Prop:=RdL PzC 5 w A ps
theorem PLr.at5{w}{A}{ps:List cI}(h:PLr w A ps){i:Nat}{p:cI}(hi:ps[i]?=some p):∃(b o:Nat) (AA:OA) (c:Nat) (neg:Bool) (A1:OA) (n1 c1:Nat) (A2:OA) (n2 c2:Nat),A=some (aD b o)/\b<w.heap.size/\
  (w.cell? (aD b (o+i*5))=some (vI p.dem)/\w.cell? (aD b (o+i*5+1))=some (.s AA p.arcs.length c)/\w.cell? (aD b (o+i*5+2))=some (.bool neg)/\w.cell? (aD b (o+i*5+3))=some (.s A1 n1 c1)/\w.cell? (aD b (o+i*5+4))=some (.s A2 n2 c2))/\
  p.arcs.length<=c/\Rd w AA (fB p.arcs)/\aB w neg A1 n1 c1 A2 n2 c2 p.flow:=by
 obtain⟨b,o,cs,e,hb,_,hc,AA,c,neg,A1,n1,c1,A2,n2,c2,rfl,h2,h3,h4⟩:=h.at_ qD hi;exact⟨b,o,AA,c,neg,A1,n1,c1,A2,n2,c2,e,hb,⟨hc 0 qD,hc 1 qD,hc 2 qD,hc 3 qD,hc 4 qD⟩,h2,h3,h4⟩
theorem jzd0 t AO(co:Nat)AL(cl:Nat)(a:Int)w(ht:bD w t AO co AL cl):
  Calls prog 114 #[.agg #[vI t.nodes,.s AO t.over.length co,.s AL t.links.length cl],vI a] w fun e w'=>e=.returned (.bool (decide (0<=a/\a<((2*t.links.length:Nat):Int))))/\Ext w w':=by
 have HT:=Hx ht;clear ht;obtain⟨qe,e0⟩:=bA w #[vI t.nodes,.s AO t.over.length co,.s AL t.links.length cl] 25;obtain⟨⟨i0,i1,i2⟩,_⟩:=qe.t3;have E0:=Hx e0;have hd:decide (0<=a/\a<((2*t.links.length:Nat):Int))=(decide (0<=a)&&decide (a<2*(t.links.length:Int))):=qS;have HD:=Hx hd;clear hd qe e0;by_cases h1:0<=a;{(have qa:decide (0<=a)=true:=by simpa using h1);have HR:=Hx (show decide (0<=a/\a<((2*t.links.length:Nat):Int))=decide (a<2*(t.links.length:Int)) by rw[HD.o,qa];rfl);go_enter func114,ntmps114;go_wp2_with fail;refine(fX t AO co AL cl _ (HT.o.K E0.o)).mono ?_;rintro e w1 ⟨rfl,qf⟩;have E1:=Hx (E0.o.tr qf);clear qf i0 i1 i2;go_wp2;go_ret;rw[HR.o];exact⟨rfl,E1.o⟩};have qa:decide (0<=a)=false:=(by simpa using h1);go_enter func114,ntmps114;go_wp2;go_ret;exact⟨rfl,E0.o⟩
def rR(w:World)(r:LQ×Int)(e:Ending)(w':World):Prop:=∃(A:OA),e=.returned (.tuple #[.s A r.1.length r.1.length,vI r.2])/\QL w' A r.1/\Ext w w'
theorem QL.nil w A:QL w A []:=⟨[],rfl,(fun _ h=>by cases h),Rd.nil _ _,fun i q h=>by simp at h⟩
theorem jzd1 t AO(co:Nat)AL(cl:Nat)(Ps:List cI)PA(np cp P:Nat)(hnp:Ps.length=np)w(ht:bD w t AO co AL cl)(hp:PLr w PA Ps)(hnl:np<=1000000)(qx:∀p∈Ps,SzQ p.flow P)(hP1:1<=P)(qz:∀p∈Ps,p.arcs.length<=1000000)(hK:1+dA Ps*(P+1)<=50000000)(hPb:P<=100000000):
  Calls prog 52 #[.agg #[vI t.nodes,.s AO t.over.length co,.s AL t.links.length cl],.s PA np cp] w (rR w (cU t Ps)):=by
 have HT:=Hx (kQa ht (kQa hp (kQa qx qz)));obtain⟨qk,e0⟩:=bA w #[vI t.nodes,.s AO t.over.length co,.s AL t.links.length cl] 25;obtain⟨⟨i0,i1,i2⟩,_⟩:=qk.t3;have E0:=Hx (kQa qk e0);have q4:=ht.ll;have vd:=ht.cl;clear ht hp qx qz qk e0;go_enter func52,ntmps52;go_wp2_with fail;refine(pH t AO co AL cl _ (HT.o.1.K E0.o.2)).mono ?_;rintro e w1 ⟨rfl,qm⟩;have E1:=Hx (kQa (E0.o.1.K qm) (E0.o.2.tr qm));clear qm i0 i1 i2 E0;obtain⟨⟨i0,i1,i2⟩,_⟩:=E1.o.1.t3;cases hv:aH t;{have HR:=Hx (show cU t Ps=([],1) by unfold cU;rw[hv];rfl);go_wp2;rw[HR.o];exact bodyPost_ret (v:=.tuple #[zN,vI 1]) (by simp[results,results52,go_sem]) rfl ⟨none,rfl,QL.nil _ _,E1.o.2⟩};have qM:t.links.length<=256:=(by unfold aH cS at hv;simp at hv;exact hv.1.1.2)
 have HR:=Hx (show cU t Ps=match ldP (2*t.links.length) (List.replicate (2*t.links.length) 0) Ps with
  |none=>([],2)
  |some ld=>(ld,0) by unfold cU;rw[hv];rfl)
 have qQ:=mO (2*t.links.length) qO;rw[show((2*t.links.length:Nat):Int)=2*(t.links.length:Int) by omega]at qQ;go_wp2_with fail
 refine(fX t AO co AL cl _ (HT.o.1.K E1.o.2)).mono ?_;rintro e w2 ⟨rfl,qi⟩;have E2:=Hx (kQa (E1.o.1.K qi) (E1.o.2.tr qi));clear qi i0 i1 i2 E1;have Q2:Hid (QB (w2.alloc (.cells (madeCells rV (2*t.links.length*3)) 33)) w2.heap.size (List.replicate (2*t.links.length) 0)):=Hx (QB.made w2 (2*t.links.length));have X2:=Hx (show Blk (w2.alloc (.cells (madeCells rV (2*t.links.length*3)) 33)) w.heap.size 25 #[vI t.nodes,.s AO t.over.length co,.s AL t.links.length cl]/\Ext w (w2.alloc (.cells (madeCells rV (2*t.links.length*3)) 33))from
  ⟨E2.o.1.K ((eR w2).alloc _),E2.o.2.alloc _⟩)
 have q9:w.heap.size<w2.heap.size:=E2.o.1.lt;(go_upto_region 4 with fail);generalize w2.alloc (.cells (madeCells rV (2*t.links.length*3)) 33)=W3 at*;generalize w2.heap.size=g at*;clear qQ;have I0:Hid (QB W3 g (List.replicate (2*t.links.length) 0)/\FrS (fun b=>b=g) W3 W3):=Hx (⟨Q2.o,FrS.refl _ _⟩);have q7:g<W3.heap.size:=Q2.o.lt;have qU:Hid (∀(k:Nat) (ld:LQ),ldP (2*t.links.length) (List.replicate (2*t.links.length) 0) (Ps.take k)=some ld->∀q∈ld,SzQ q (1+dA Ps*(P+1))):=Hx (fun k ld h q hq=>by have h1:=wN (P:=P) (Ps.take k) (k:=1) (ld:=List.replicate (2*t.links.length) 0) (fun p hp=>HT.o.2.2.1 p (xM hp)) (fun q hq=>by rw[uF hq];exact SzQ.zero) SzQ.zero h q hq;refine h1.mono ?_;have h2:=xS (P+1) (jzmb Ps k);omega);clear Q2;go_wp2;go_loopg [8,19] np (fun q _ it wx=>∃(n:Nat) (ld:LQ),np-n=q/\n<=np/\it=vI (n:Int)/\ldP (2*t.links.length) (List.replicate (2*t.links.length) 0) (Ps.take n)=some ld/\Hid (QB wx g ld/\FrS (fun b=>b=g) W3 wx));exact⟨0,_,rfl,yZ _,rfl,rfl,I0⟩;obtain⟨n,ld,rfl,hn,rfl,qj,I⟩:=hrel;clear I0;have qh:=Hx qj;have qe:ld.length=2*t.links.length:=(by rw[wL _ qj,xC]);have XW:Hid (Ext w wr):=Hx (I.o.2.ext X2.o.2 fun b hb=>qO);have q6:g<wr.heap.size:=I.o.1.lt;clear qj;by_cases qT:n<np
 ·obtain⟨p,hp⟩:∃p,Ps[n]?=some p:=⟨_,yG qO⟩;obtain⟨b,o,AA,ca,neg,A1,n1,c1,A2,n2,c2,rfl,hb,⟨a0,a1,a2,a3,a4⟩,q3,qt,qw⟩:=PLr.at5 HT.o.2.1 hp;have a0:=aA XW.o a0;have a1:=aA XW.o a1;have a2:=aA XW.o a2;have a3:=aA XW.o a3;have a4:=aA XW.o a4;have hb:b<wr.heap.size:=yL hb XW.o.size;have HP:=Hx hp;have vc:p.arcs.length<=1000000:=HT.o.2.2.2 p (yJ hp);have nN:(n:Int)<(np:Int):=qO;have n0:(0:Int)<=(n:Int):=qO;have RA:=Hx (kQa qt qw);have X8:Hid (Ext wr (wr.alloc (.cells #[vI p.dem,.s AA p.arcs.length ca,.bool neg,.s A1 n1 c1,.s A2 n2 c2] 98))):=Hx ((eR wr).alloc _);have B8:=Hx (eN wr 98 #[vI p.dem,.s AA p.arcs.length ca,.bool neg,.s A1 n1 c1,.s A2 n2 c2]);clear hp qt qw;(go_upto_region 7 with fail);clear a0 a1 a2 a3 a4;generalize wr.alloc (.cells #[vI p.dem,.s AA p.arcs.length ca,.bool neg,.s A1 n1 c1,.s A2 n2 c2] 98)=W8 at*;generalize hbd:wr.heap.size=bd at*;have qZ:Hid (Ext w W8):=Hx (XW.o.tr X8.o);have qY:Hid (FrS (fun b=>b=g) W3 W8):=Hx (I.o.2.tr (eE (S:=fun b=>b=g) X8.o) fun b hb=>.inl hb);have qX:=Hx ((I.o.2.blk X2.o.1 qO).K X8.o);have b1:W8.cell? (aD bd 1)=some (.s AA p.arcs.length ca):=B8.o.cell 1;have J0:Hid (QB W8 g ld/\FrS (fun b=>b=g) W8 W8):=Hx (⟨I.o.1.K X8.o,FrS.refl _ _⟩);go_wp2;clear b1;go_loopg [10,26] p.arcs.length (fun q _ it wx=>∃(k:Nat) (lc:LQ),p.arcs.length-k=q/\k<=p.arcs.length/\it=vI (k:Int)/\ldA (2*t.links.length) p.flow ld (p.arcs.take k)=some lc/\Hid (QB wx g lc/\FrS (fun b=>b=g) W8 wx));exact⟨0,ld,rfl,yZ _,rfl,rfl,J0⟩;obtain⟨k,lc,rfl,hk,rfl,qn,J⟩:=hrel;clear J0 I X8 XW;have XR:Hid (Ext w wr):=Hx (J.o.2.ext qZ.o fun b hb=>qO);have qf:=Hx qn;have q1:lc.length=2*t.links.length:=(by rw[wK _ _ qn];exact qe);clear qn;by_cases qW:k<p.arcs.length
  ·obtain⟨a,ha⟩:∃a,p.arcs[k]?=some a:=⟨_,yG qW⟩;obtain⟨b9,o9,rfl,q8,ca⟩:=(RA.o.1.K XR.o).iint ha;have qI:=Hx ha;have kN:(k:Int)<(p.arcs.length:Int):=qO;have k0:(0:Int)<=(k:Int):=qO;obtain⟨⟨i0,i1,i2⟩,_⟩:=(J.o.2.blk qX.o qO).t3;clear ha;go_wp2_with fail;refine(jzd0 t AO co AL cl a _ (HT.o.1.K XR.o)).mono ?_;rintro e w4 ⟨rfl,x4⟩;by_cases qg:0<=a/\a<((2*t.links.length:Nat):Int)
   ·rw[yO qg];obtain⟨a',rfl⟩:=kQj qg.1;have qV:a'<2*t.links.length:=qO;have aN:(a':Int)<2*(t.links.length:Int):=qO;have a0:(0:Int)<=(a':Int):=qO;have LA:=Hx (jzl6 qf.o qI.o qg);rw[xL]at LA;have Q4:=Hx (J.o.1.K x4);have F4:Hid (FrS (fun b=>b=g) W8 w4):=Hx (J.o.2.tr (eE (S:=fun b=>b=g) x4) fun b hb=>.inl hb);obtain⟨ny,Y1,my,fy,qA,qH,qy,⟨s0,s1,s2⟩,_,hy⟩:=Q4.o.at_ (aO (show a'<lc.length by omega));have B4:=Hx (F4.o.blk B8.o qO);have q2:p.arcs.length<=dA Ps:=jzma (yJ HP.o);have qB:SzQ (Sx.at_ lc a') 100000000:=(by have h1:=wM (HT.o.2.2.1 p (yJ HP.o)) (p.arcs.take k) (qU.o n ld qh.o) (SzQ.zero.mono qO) qf.o _ (yJ (aO (show a'<lc.length by omega)));refine h1.mono ?_;have h2:(p.arcs.take k).length*(P+1)<=dA Ps*(P+1):=xS _ (by rw[xF];omega);omega)
    obtain⟨l1,q5⟩:=hy.lens qB;obtain⟨l2,va⟩:=RA.o.2.lens (HT.o.2.2.1 p (yJ HP.o));have RF:=Hx (kQa hy (RA.o.2.K (XR.o.tr x4)));have qa:=Hx (show∀wx,Ext w4 wx->(wx.cell? (aD g (a'*3))=some (.bool ny)/\wx.cell? (aD g (a'*3+1))=some (.s Y1 my fy)/\wx.cell? (aD g (a'*3+2))=some (.s qA qH qy))/\(wx.cell? (aD bd 2)=some (.bool neg)/\wx.cell? (aD bd 3)=some (.s A1 n1 c1)/\wx.cell? (aD bd 4)=some (.s A2 n2 c2))from fun wx hx=>
     ⟨⟨aA hx s0,aA hx s1,aA hx s2⟩,(B4.o.K hx).cell 2,(B4.o.K hx).cell 3,(B4.o.K hx).cell 4⟩)
    have XD:Hid (Ext w4 w4.drew):=Hx ((eR w4).drewN 1);have HSW:=Hx (qa.o _ XD.o);clear hy s0 s1 s2 i0 i1 i2 ca qB;(go_upto_region 12 with fail);(refine wX qa 10 ?_;refine wP 0 rfl HSW.o ?_;try simp only[qN]);refine wP 1 rfl HSW.o ?_;refine wP 2 rfl HSW.o ?_;refine wP 3 rfl HSW.o ?_;refine wP 4 rfl HSW.o ?_;refine wV 5 rfl HSW.o ?_;(refine wP 6 rfl HSW.o ?_;try simp only[qN]);refine wV 7 rfl HSW.o ?_;try simp only[qN]
    refine wC 8 rfl (fun KK hK=>?_);go_simp;refine(kF ny neg Y1 my fy qA qH qy A1 n1 c1 A2 n2 c2 (Sx.at_ lc a') p.flow _ (RF.o.1.K XD.o) (RF.o.2.K XD.o) qO qO qO qO (gI (kQx (kQ7 _) (kQ7 _)))).mono ?_;rintro e w5 ⟨n5,A5,l5,c5,qp,qJ,qC,rfl,h5,x5⟩;have E5:=Hx (XD.o.tr x5);have HSW:=Hx (qa.o _ E5.o);have Q5:=Hx (Q4.o.K E5.o);have QP:=Hx (show QB (((w5.setCell (aD g (a'*3)) (.bool n5)).setCell (aD g (a'*3+1)) (.s A5 l5 c5)).setCell (aD g (a'*3+2)) (.s qp qJ qC)) g (lc.set a' (Sx.at_ lc a'+p.flow))/\FrS (fun b=>b=g) W8 (((w5.setCell (aD g (a'*3)) (.bool n5)).setCell (aD g (a'*3+1)) (.s A5 l5 c5)).setCell (aD g (a'*3+2)) (.s qp qJ qC))from
     ⟨Q5.o.put qO h5,(F4.o.tr (eE (S:=fun b=>b=g) E5.o) fun b hb=>.inl hb).tr (eG (S:=fun b=>b=g) (dU w5 g (a'*3) _ _ _) fun g e=>by injection e with e;exact e.symm) fun b hb=>.inl hb⟩)
    (obtain⟨_,_,_,_,_,_,_,_,⟨z0,z1,z2⟩,_⟩:=Q5.o.at_ (aO (show a'<lc.length by omega));refine hK.o _ _ HSW.o ?_;clear hK KK x5 h5;try simp only[qN]);(refine wP 9 rfl HSW.o ?_;try simp only[qN]);obtain⟨⟨t0,t1,t2⟩,_⟩:=HSW.o;refine aY qK rfl qR (fun KK hK=>?_);go_simp;refine hK.o _ _ ?_;clear hK KK;refine wpAny_done qK ?_ _;clear t0 t1 t2 z0 z1 z2 HSW qa XD RF B4 Q4 F4 Q5 E5 J XR;go_wp2;go_roundg (p.arcs.length-(k+1));exact⟨k+1,_,rfl,qO,by go_num,LA.o,QP⟩;omega
   rw[yP qg];have qo:Hid (rR w (cU t Ps) (.returned (.tuple #[zN,vI 2])) w4):=Hx (by rw[HR.o,jzl9 qh.o HP.o (jzl7 qf.o qI.o qg)];exact⟨none,rfl,QL.nil _ _,XR.o.tr x4⟩);go_wp2;exact bodyPost_ret (v:=.tuple #[zN,vI 2]) (by simp[results,results52,go_sem]) rfl qo.o
  obtain rfl:k=p.arcs.length:=qO;rw[yU (yX _)]at qf;have NX:=Hx (jzl8 qh.o HP.o qf.o);have I9:Hid (QB wr g lc/\FrS (fun b=>b=g) W3 wr):=Hx (⟨J.o.1,qY.o.tr J.o.2 fun b hb=>.inl hb⟩);clear J XR;go_wp2;go_roundg (np-(n+1));exact⟨n+1,lc,rfl,qO,by go_num,NX.o,I9⟩;omega
 obtain rfl:n=np:=qO;have qo:Hid (rR w (cU t Ps) (.returned (.tuple #[.s (sA g) (2*t.links.length) (2*t.links.length),vI 0])) wr):=Hx (by have h1:=qh.o;rw[yU qO]at h1;rw[HR.o,h1];refine⟨(sA g),by simp only[qe],I.o.1.ql,XW.o⟩);go_wp2;exact bodyPost_ret (v:=.tuple #[.s (sA g) (2*t.links.length) (2*t.links.length),vI 0]) (by simp[results,results52,go_sem]) rfl qo.o
end Go.Proofs.YtfeeacaofjpkaaaGreatDoor
namespace Go.Proofs.YtfeeacaofjpkaaaGreatDoor.Sx
open Go.Proofs.Tryz
def cutSt(d:Nat)(s:Rat×List ((Nat×LN)×Rat))(z:(Nat×LN)×Rat):Rat×List ((Nat×LN)×Rat):=
 if z.1.1=d then(s.1-(if s.1<z.2 then s.1 else z.2),if 0<(if s.1<z.2 then s.1 else z.2)then s.2++[(z.1,if s.1<z.2 then s.1 else z.2)]else s.2)else s
theorem cutSt_all(d:Nat):∀(Zs:List ((Nat×LN)×Rat)) (r:Rat) (out:List ((Nat×LN)×Rat)),(Zs.foldl (cutSt d) (r,out)).2=out++cut d r Zs
 | [],r,out=>by simp[cut]
 |z::Zs,r,out=>by
  show(Zs.foldl (cutSt d) (cutSt d (r,out) z)).2=_;rw[show Zs.foldl (cutSt d) (cutSt d (r,out) z)=Zs.foldl (cutSt d) ((cutSt d (r,out) z).1,(cutSt d (r,out) z).2)from rfl,cutSt_all d Zs];show _=out++(if z.1.1=d then(if 0<(if r<z.2 then r else z.2)then [(z.1,if r<z.2 then r else z.2)]else [])++cut d (r-(if r<z.2 then r else z.2)) Zs else cut d r Zs);by_cases h:z.1.1=d
  ·have e:cutSt d (r,out) z=(r-(if r<z.2 then r else z.2),if 0<(if r<z.2 then r else z.2)then out++[(z.1,if r<z.2 then r else z.2)]else out):=qE h
   rw[e,qE h];simp only[];by_cases h2:0<(if r<z.2 then r else z.2)
   ·rw[qE h2,qE h2,List.append_assoc]
   ·rw[qF h2,qF h2];rfl
  ·have e:cutSt d (r,out) z=(r,out):=qF h
   rw[e,qF h]
theorem cutSt_rest(d:Nat)(Dn:Int)(r0:Rat):∀(Zs:List ((Nat×LN)×Rat)) (r:Rat) (out:List ((Nat×LN)×Rat)),(∀z∈Zs,0<=z.2/\isI (z.2*(Dn:Rat)))->0<=r->r<=r0->isI (r*(Dn:Rat))->
  0<=(Zs.foldl (cutSt d) (r,out)).1/\(Zs.foldl (cutSt d) (r,out)).1<=r0/\isI ((Zs.foldl (cutSt d) (r,out)).1*(Dn:Rat))
 | [],r,out,_,h1,h2,h3=>⟨h1,h2,h3⟩
 |z::Zs,r,out,hz,h1,h2,h3=>by
  show 0<=(Zs.foldl (cutSt d) (cutSt d (r,out) z)).1/\(Zs.foldl (cutSt d) (cutSt d (r,out) z)).1<=r0/\isI ((Zs.foldl (cutSt d) (cutSt d (r,out) z)).1*(Dn:Rat));obtain⟨k1,k2⟩:=hz z qS;by_cases h:z.1.1=d
  ·have e:cutSt d (r,out) z=(r-(if r<z.2 then r else z.2),if 0<(if r<z.2 then r else z.2)then out++[(z.1,if r<z.2 then r else z.2)]else out):=qE h
   rw[e];refine cutSt_rest d Dn r0 Zs _ _ (fun y hy=>hz y (xO _ hy)) ?_ ?_ ?_
   ·split <;> grind
   ·split <;> grind
   ·obtain⟨a,ha⟩:=h3
    obtain⟨b,hb⟩:=k2
    split
    ·exact⟨0,qG⟩
    ·exact⟨a-b,by rw[Rat.intCast_sub];grind⟩
  ·have e:cutSt d (r,out) z=(r,out):=qF h
   rw[e];exact cutSt_rest d Dn r0 Zs r out (fun y hy=>hz y (xO _ hy)) h1 h2 h3
end Go.Proofs.YtfeeacaofjpkaaaGreatDoor.Sx
namespace Go.Proofs.YtfeeacaofjpkaaaGreatDoor
open Go.Proofs.Tryz
open Go.RowKit
theorem jzmc{q:Rat}{D:Int}(h:Sx.isI (q*(D:Rat))):Sx.isI (q*((D.natAbs:Int):Rat)):=by
 obtain⟨n,hn⟩:=h;rcases Int.natAbs_eq D with e|e
 ·exact⟨n,by rw[<-e];exact hn⟩
 refine⟨-n,?_⟩;have e2:((D.natAbs:Int):Rat)= -(D:Rat):=(by rw[<-Rat.intCast_neg];congr 1;omega);rw[e2,Rat.intCast_neg, <-hn];grind
theorem jzmd{v:Rat}(h:0<=v):v<=((v.num.natAbs:Int):Rat):=by
 have h1:0<=v.num:=Rat.num_nonneg.2 h;have h2:((v.num.natAbs:Int))=v.num:=qO;rw[h2];have h4:v*((v.den:Int):Rat)=(v.num:Rat):=(by have h:=Rat.num_divInt_den v;rw[Rat.divInt_eq_div]at h;have hd:((v.den:Int):Rat)≠0:=fun e=>v.den_nz (by have:=Rat.intCast_inj.1 (e.trans Rat.intCast_zero.symm);omega);rw[Rat.div_def]at h;have h9:(v.num:Rat)*((v.den:Int):Rat)⁻¹*((v.den:Int):Rat)=v*((v.den:Int):Rat):=(by rw[h]);rw[Rat.mul_assoc,Rat.inv_mul_cancel _ hd,Rat.mul_one]at h9;exact h9.symm);have h5:(1:Rat)<=((v.den:Int):Rat):=(by (have:(1:Int)<=(v.den:Int):=by have:=v.den_pos;omega);exact_mod_cast (kQt.2 this));rw[<-h4];have h6:=yT h5 h;rw[Rat.mul_one]at h6;exact h6
theorem jzme:1<=ZB:=by unfold ZB;decide
theorem jzmf{r v am:Rat}{Dn:Int}(C:Nat)(hD:Dn≠0)(hDs:Dn.natAbs<=C)(hv:Sx.SzZ v ZB)(hv0:0<=v)(ham:am<=((1048576:Int):Rat))(ham0:0<=am)(h0:0<=r)(h1:r<=v*am)(hI:Sx.isI (r*(Dn:Rat))):Sx.SzZ r (ZB*1048576*C):=by
 obtain⟨N,hN⟩:=jzmc hI;have qa:(0:Rat)<=((Dn.natAbs:Int):Rat):=Rat.intCast_nonneg.2 qO;have qe:0<=(N:Rat):=(by rw[<-hN];exact vA h0 qa);have qf:0<=N:=Rat.intCast_nonneg.1 qe;have k1:v<=((ZB:Int):Rat):=kQs (jzmd hv0) (kQt.2 (by have:=hv.1;omega));have k2:v*am<=((ZB:Int):Rat)*((1048576:Int):Rat):=(by have a1:=kQ5 k1 ham0;have a2:=yT ham (Rat.intCast_nonneg.2 (show(0:Int)<=(ZB:Int) by omega));exact kQs a1 a2);have k3:(N:Rat)<=((ZB:Int):Rat)*((1048576:Int):Rat)*((C:Int):Rat):=(by rw[<-hN];have a1:=kQ5 (kQs h1 k2) qa;have a2:((Dn.natAbs:Int):Rat)<=((C:Int):Rat):=kQt.2 qO;have a3:=yT a2 (show(0:Rat)<=((ZB:Int):Rat)*((1048576:Int):Rat)from vA (Rat.intCast_nonneg.2 qO) (Rat.intCast_nonneg.2 qO));exact kQs a1 a3);rw[<-kZu, <-kZu]at k3;have k4:N<=(ZB:Int)*1048576*(C:Int):=kQt.1 k3;have k5:((ZB*1048576*C:Nat):Int)=(ZB:Int)*1048576*(C:Int):=(by rw[kZk,kZk];rfl);have k6:C<=ZB*1048576*C:=Nat.le_mul_of_pos_left C (Nat.mul_pos jzme qD);have k7:N.natAbs<=ZB*1048576*C:=qO;exact Sx.size_of (D:=(Dn.natAbs:Int)) (N:=N) qO hN (by rw[Int.natAbs_natCast];exact yY hDs k6) k7
theorem jzd2{r v am:Rat}{Dn:Int}(hD:Dn≠0)(hDs:Dn.natAbs<=33554432^24)(hv:Sx.SzZ v ZB)(hv0:0<=v)(ham:am<=((1048576:Int):Rat))(ham0:0<=am)(h0:0<=r)(h1:r<=v*am)(hI:Sx.isI (r*(Dn:Rat))):SzQ r 41:=by
 have hz:=jzmf _ hD hDs hv hv0 ham ham0 h0 h1 hI;have hb:ZB*1048576*33554432^24<B32^41:=(by unfold ZB B32;decide);exact⟨kQ2 hz.1 hb,kQ2 hz.2 hb⟩
def pzI(z:(Nat×LN)×Rat):cI:=⟨(z.1.1:Int),z.1.2.map fun a:Nat=>(a:Int),z.2⟩
def PzQ(w:World)(cs:List Value)(z:(Nat×LN)×Rat):Prop:=
 ∃(A:OA) (c:Nat) (neg:Bool) (A1:OA) (n1 c1:Nat) (A2:OA) (n2 c2:Nat),cs=[vI (z.1.1:Int),.s A z.1.2.length c,.bool neg,.s A1 n1 c1,.s A2 n2 c2]/\z.1.2.length<=c/\RdT w 3 A (ints z.1.2)/\aB w neg A1 n1 c1 A2 n2 c2 z.2
theorem PzQ.K{w w'}{cs:List Value}{z:(Nat×LN)×Rat}(h:PzQ w cs z)(hx:Ext w w'):PzQ w' cs z:=by
 obtain⟨A,c,neg,A1,n1,c1,A2,n2,c2,h1,h2,h3,h4⟩:=h;exact⟨A,c,neg,A1,n1,c1,A2,n2,c2,h1,h2,h3.K hx,h4.K hx⟩
theorem PzQ.fr{X:Nat->Prop}{w w'}{cs:List Value}{z:(Nat×LN)×Rat}(h:PzQ w cs z)(k:FrS X w w')(n1:NoT X w 3)(n2:NoT X w 196):PzQ w' cs z:=by
 obtain⟨A,c,neg,A1,m1,c1,A2,m2,c2,h1,h2,h3,h4⟩:=h;exact⟨A,c,neg,A1,m1,c1,A2,m2,c2,h1,h2,k.rdT n1 h3,k.ratR n2 h4⟩
theorem PzQ.pzc{w}{cs:List Value}{z:(Nat×LN)×Rat}(h:PzQ w cs z):PzC w cs (pzI z):=by
 obtain⟨A,c,neg,A1,m1,c1,A2,m2,c2,h1,h2,h3,h4⟩:=h;refine⟨A,c,neg,A1,m1,c1,A2,m2,c2,?_,?_,?_,h4⟩;{rw[h1];simp[pzI]};{simp[pzI];exact h2};show Rd w A (fB (z.1.2.map fun a:Nat=>(a:Int)));rw[jzdx];exact h3.rd
theorem OwL.plr{w}{B c:Nat}{A}{Z:List ((Nat×LN)×Rat)}(h:OwL PzQ 98 5 w B (.s A Z.length c) Z):PLr w A (Z.map pzI):=by
 (obtain⟨css,h1,h2,h3,h4⟩:=h;refine⟨css,by rw[h1,xV],h2,(mT h3).rd,fun i p hp=>?_⟩;rw[yW]at hp;cases hz:Z[i]? with|none=>rw[hz]at hp;cases hp|some z=>(rw[hz]at hp;injection hp with hp);subst hp;obtain⟨cs,k1,k2⟩:=h4 i z hz;exact⟨cs,k1,k2.pzc⟩)
theorem oI(w:World)(g:Nat)(v0 v1 v2 v3 v4:Value):w.grownBy (((((w.setCell (aD g 0) v0).setCell (aD g 1) v1).setCell (aD g 2) v2).setCell (aD g 3) v3).setCell (aD g 4) v4) (some g):=
 ((((aM w g 0 v0).trans (aM _ g 1 v1)).trans (aM _ g 2 v2)).trans (aM _ g 3 v3)).trans (aM _ g 4 v4)
theorem jzd3{w1 w6:World}{b gl m:Nat}{neg:Bool}{A1}{n1 d1:Nat}{A2}{n2 d2:Nat}{v:Rat}{qs:LQ}(hb:w1.heap.size<=b)(hB:Blk w6 b 37 #[bF,zN,zN,zN,zN])(hR:aB w6 neg A1 n1 d1 A2 n2 d2 v)(hQ:QB w6 gl qs)(hE:Ext w1 w6):
  Blk (((((w6.setCell (aD b 0) (.bool neg)).setCell (aD b 1) (.s A1 n1 d1)).setCell (aD b 2) (.s A2 n2 d2)).setCell (aD b 3) zN).setCell (aD b 4) (.s (sA gl) m m)) b 37 #[.bool neg,.s A1 n1 d1,.s A2 n2 d2,zN,.s (sA gl) m m]/\aB (((((w6.setCell (aD b 0) (.bool neg)).setCell (aD b 1) (.s A1 n1 d1)).setCell (aD b 2) (.s A2 n2 d2)).setCell (aD b 3) zN).setCell (aD b 4) (.s (sA gl) m m)) neg A1 n1 d1 A2 n2 d2 v/\QB (((((w6.setCell (aD b 0) (.bool neg)).setCell (aD b 1) (.s A1 n1 d1)).setCell (aD b 2) (.s A2 n2 d2)).setCell (aD b 3) zN).setCell (aD b 4) (.s (sA gl) m m)) gl qs/\w1.heap.size<=b/\Ext w1 (((((w6.setCell (aD b 0) (.bool neg)).setCell (aD b 1) (.s A1 n1 d1)).setCell (aD b 2) (.s A2 n2 d2)).setCell (aD b 3) zN).setCell (aD b 4) (.s (sA gl) m m)):=by
 have k5:FrS (fun b'=>b'=b) w6 (((((w6.setCell (aD b 0) (.bool neg)).setCell (aD b 1) (.s A1 n1 d1)).setCell (aD b 2) (.s A2 n2 d2)).setCell (aD b 3) zN).setCell (aD b 4) (.s (sA gl) m m)):=eG (oI w6 b _ _ _ _ _) fun g e=>(by injection e with e;exact e.symm);have hn:NoT (fun b'=>b'=b) w6 196:=NoT.one hB qD;have s0:=hB.sT 0 (.bool neg);have s1:=s0.sT 1 (.s A1 n1 d1);have s2:=s1.sT 2 (.s A2 n2 d2);have s3:=s2.sT 3 zN;have s4:=s3.sT 4 (.s (sA gl) m m);refine⟨s4,k5.ratR hn hR,hQ.fr k5 hn fun e=>?_,hb,k5.ext hE fun b' e=>by rw[e];exact hb⟩;obtain⟨cs,hq⟩:=hQ.blk;rw[e]at hq;exact absurd (aZ hq hB).2 qD
def jzd4(w:World)(L2:Nat)(v:Rat)(Z:List ((Nat×LN)×Rat))(pr:LQ)(e:Ending)(w':World):Prop:=
 ∃(neg:Bool) (A1:OA) (n1 c1:Nat) (A2:OA) (n2 c2:Nat) (AP:OA) (cp gp:Nat),e=.returned (.agg #[.bool neg,.s A1 n1 c1,.s A2 n2 c2,.s AP Z.length cp,.s (sA gp) L2 L2])/\
  aB w' neg A1 n1 c1 A2 n2 c2 v/\Z.length<=cp/\(∃B,OwL PzQ 98 5 w' B (.s AP Z.length cp) Z)/\(∃qs,QB w' gp qs/\qs.take L2=pr)/\Ext w w'
structure PlI(W4 wx:World)(bp gl m:Nat)(neg:Bool)(A1:OA)(n1 c1:Nat)(A2:OA)(n2 c2:Nat)(vQ:Value)(out:List ((Nat×LN)×Rat)):Prop where
 box:Blk wx bp 37 #[.bool neg,.s A1 n1 c1,.s A2 n2 c2,vQ,.s (sA gl) m m]
 own:OwL PzQ 98 5 wx W4.heap.size vQ out
 fr:FrS (fun b=>b=bp) W4 wx
theorem PlI.K{W4 wx wy}{bp gl m:Nat}{neg:Bool}{A1}{n1 c1:Nat}{A2}{n2 c2:Nat}{vQ:Value}{out:List ((Nat×LN)×Rat)}(h:PlI W4 wx bp gl m neg A1 n1 c1 A2 n2 c2 vQ out)(hx:Ext wx wy):PlI W4 wy bp gl m neg A1 n1 c1 A2 n2 c2 vQ out:=
 ⟨h.box.K hx,h.own.K hx fun cs y hy=>hy.K hx,h.fr.tr (eE (S:=fun b=>b=bp) hx) fun b hb=>.inl hb⟩
def dC(am:Nat->Rat)(v:Rat)(Zs:List ((Nat×LN)×Rat))(n:Nat):List ((Nat×LN)×Rat):=(List.range n).flatMap fun d=>Sx.cut d (v*am d) Zs
theorem jzd5(am:Nat->Rat)(v:Rat)(Zs:List ((Nat×LN)×Rat))(n:Nat):dC am v Zs (n+1)=dC am v Zs n++Sx.cut n (v*am n) Zs:=by unfold dC;rw[kZc,List.flatMap_append];simp
theorem jzmg{T:Sx.Tb}{P:List (Nat×LN)}{L2 D:Nat}{am cap:Nat->Rat}(h:Sx.FLP L2 D am cap T P){k:Nat}{p:Nat×LN}(hp:P[k]?=some p):(Sx.ptZ T P)[k]?=some (p,Sx.at_ (Sx.ptT T) (k+1)):=by
 have hl:=h.drop_len;have hk:=(yH.1 hp).1;have qa:=Sx.zipF_keys P ((Sx.ptT T).drop 1) hl;have qe:(Sx.ptZ T P).length=P.length:=(by have:=congrArg List.length qa;rw[xV]at this;exact this);obtain⟨z,hz⟩:∃z,(Sx.ptZ T P)[k]?=some z:=⟨_,yG qO⟩;obtain⟨zp,zf⟩:=z;have h1:=Sx.zipF_flow P ((Sx.ptT T).drop 1) hl k hz;rw[Sx.at_drop,kZl]at h1;have h2:(Sx.ptZ T P)[k]?.map (·.1)=some p:=(by rw[<-yW];show(List.map (·.1) (Sx.zipF P ((Sx.ptT T).drop 1)))[k]?=some p;rw[qa];exact hp);(rw[hz]at h2;injection h2 with h2);have h2:zp=p:=h2;rw[hz,h1,h2]
theorem wO(q:Rat):0<aC q↔0<q:=by
 constructor;{intro h;have h1:¬q=0:=fun e=>(by have:=(iQ q).2 e;omega);have h2:¬q<0:=fun e=>(by have:=(oD q).2 e;omega);grind};intro h;have h1:¬aC q=0:=fun e=>(by have:=(iQ q).1 e;grind);have h2:¬aC q<0:=fun e=>(by have:=(oD q).1 e;grind);omega
theorem jzd6{T:Sx.Tb}{P:List (Nat×LN)}{L2 D:Nat}{am cap:Nat->Rat}(h:Sx.FLP L2 D am cap T P):(Sx.ptZ T P).length=P.length:=by
 have qa:=Sx.zipF_keys P ((Sx.ptT T).drop 1) h.drop_len;have:=congrArg List.length qa;rw[xV]at this;exact this
theorem jzd7(am:Nat->Rat)(v:Rat)(Zs:List ((Nat×LN)×Rat)):∀n,(dC am v Zs n).length<=n*Zs.length
 |0=>yZ _
 |n+1=>by
  rw[jzd5,yQ,xP,xQ];have h1:=jzd7 am v Zs n;have h2:=(Sx.cut_keys n (v*am n) Zs).length_le;rw[xV,xV]at h2;omega
theorem jzmh(n:Nat)(r:Rat)(o Zs:List ((Nat×LN)×Rat)):(Zs.foldl (Sx.cutSt n) (r,o)).2.length<=o.length+Zs.length:=by
 rw[Sx.cutSt_all,yQ];have h2:=(Sx.cut_keys n r Zs).length_le;rw[xV,xV]at h2;omega
theorem jzd8{n:Nat}{s0:Rat×List ((Nat×LN)×Rat)}{Zs:List ((Nat×LN)×Rat)}{k:Nat}{z:(Nat×LN)×Rat}(hz:Zs[k]?=some z):(Zs.take (k+1)).foldl (Sx.cutSt n) s0=Sx.cutSt n ((Zs.take k).foldl (Sx.cutSt n) s0) z:=by
 rw[kQr,hz,kZt];rfl
theorem jzmi{w0 w}{x mb:Nat}{t}{AO}{co:Nat}{AL}{cl:Nat}{l:List Dm}{AD}{cd:Nat}{L:aT}{T:Sx.Tb}{vP:Value}{P:List (Nat×LN)}(F:FlR w0 w x mb t AO co AL cl l AD cd L T vP P P)
  (hf:Fit t l) (hl:t.links.length<=10) (hD:l.length<=4) (qn:Sx.FLP (2*t.links.length) l.length (amQ l) (aP t) T P) (vx:0<=T.goal.re) (vo:∀z∈Sx.ptZ T P,0<=z.2) (hPl:P.length+4<=10000000000) (vq:∀p∈P,p.1<l.length) (hP0:P≠ []):
  Calls prog 33 #[.pointer (sA x)] w (jzd4 w (2*t.links.length) T.goal.re (Sx.planZ l.length (amQ l) T.goal.re (Sx.ptZ T P)) ((Sx.prT T).take (2*t.links.length))):=by
 have HF:=Hx (kQa F (kQa hf qn));have HN:=Hx (kQa vx (kQa vo vq));have zv:=F.dem.len;have zq:=F.top.ll;have SZ:=Hx (oF hf hl hD qn);have SH:=Hx qn.shape;have CO:=Hx qn.cols;obtain⟨b0,e0⟩:=bA w #[bF,zN,zN,zN,zN] 37;have RB:=Hx (kQa b0 e0);have q0:w.cell? (aD x 0)=some (vI t.nodes):=F.box.cell 0;have q1:w.cell? (aD x 1)=some (.s AO t.over.length co):=F.box.cell 1;have q2:w.cell? (aD x 2)=some (.s AL t.links.length cl):=F.box.cell 2;have q0:=aA e0 q0;have q1:=aA e0 q1;have q2:=aA e0 q2;clear F hf qn vx vo vq b0 e0;go_enter func33,ntmps33;go_wp2_with fail;refine(fX t AO co AL cl _ (HF.o.1.top.K (HF.o.1.ext.tr RB.o.2))).mono ?_;rintro e w1 ⟨rfl,x1⟩;have E1:=Hx (kQa (RB.o.1.K x1) (RB.o.2.tr x1));clear x1 q0 q1 q2 RB;have F1:=Hx (HF.o.1.K E1.o.2);have XD:Hid (Ext w1 w1.drew):=Hx ((eR w1).drewN 1);have XA:Hid (Ext w1 (w1.alloc (.cells #[bF,zN,zN,zN,zN] 37)).drew):=Hx (((eR w1).alloc _).drewN 1);have BA:Hid (Blk (w1.alloc (.cells #[bF,zN,zN,zN,zN] 37)).drew w1.heap.size 37 #[bF,zN,zN,zN,zN]):=Hx (eN w1 _ _);have qe:Hid (∀wx,Ext w1 wx->wx.cell? (aD x 4)=some (.pointer (sA L.p))):=Hx (fun wx hx=>(F1.o.box.K hx).cell 4);have vR:L.m=2*t.links.length+l.length:=F1.o.m;have q7:Hid (∀wx,Ext w1 wx->Calls prog 85 #[.pointer (sA L.p)] wx (cO wx T.goal.re)):=Hx (fun wx hx=>jzj1 w0.heap.size L T wx (F1.o.tab.K hx));have ve:Hid (∀wx,Ext w1 wx->Calls prog 32 #[.pointer (sA L.p)] wx (fun e w'=>∃gl,e=.returned (.s (sA gl) (2*t.links.length+l.length) (2*t.links.length+l.length))/\QB w' gl (Sx.prT T)/\wx.heap.size<=gl/\Ext wx w')):=Hx (fun wx hx=>by obtain⟨y1,y2,y3,y4,y5,y6,y7,y8⟩:=SH.o;have h1:=jzca w0.heap.size L T wx (F1.o.tab.K hx) y2 (by have:=HF.o.2.1.n;omega) qO qO qO y5 (fun j hj=>by have:=y6 j hj;omega);rw[vR]at h1;exact h1);(go_upto_region 2 with fail);go_cut [4] (fun s wx=>∃(bp gl:Nat) (neg:Bool) (A1:OA) (n1 c1:Nat) (A2:OA) (n2 c2:Nat),s=.pointer (sA bp)/\Hid (Blk wx bp 37 #[.bool neg,.s A1 n1 c1,.s A2 n2 c2,zN,.s (sA gl) (2*t.links.length) (2*t.links.length)]/\aB wx neg A1 n1 c1 A2 n2 c2 T.goal.re/\QB wx gl (Sx.prT T)/\w1.heap.size<=bp/\Ext w1 wx))
 case first=>
  have zi:(0:Int)<=2*(t.links.length:Int):=qO;have zn:2*(t.links.length:Int)<=2*(t.links.length:Int)+(l.length:Int):=qO;have zA:2*(t.links.length:Int)<=2*(t.links.length:Int):=Int.le_refl _;have zh:(2*(t.links.length:Int)).toNat=2*t.links.length:=qO;have xN:x≠w1.heap.size:=(by have:=F1.o.box.lt;omega);have c0:=qe.o _ XD.o;have y0:=qe.o _ XA.o
  go_region_held3 (fun w'=>w'.cell? (aD x 4)=some (.pointer (sA L.p)))
   (first|with_reducible exact c0|with_reducible exact y0|with_reducible exact aU c0 _|exact aG (aG (aG (aG (aG c0 xN) xN) xN) xN) xN|fail)
   (first
    |(go_at_call 85
      first
      |(with_reducible refine(q7.o _ (by with_reducible exact XD.o)).mono ?_
        rintro e w5 ⟨neg,A1,n1,d1,A2,n2,d2,rfl,hR,qk⟩;have E5:=Hx (XD.o.tr qk))
      |(with_reducible refine(q7.o _ (by with_reducible exact XA.o)).mono ?_
        rintro e w5 ⟨neg,A1,n1,d1,A2,n2,d2,rfl,hR,qk⟩;have E5:=Hx (XA.o.tr qk);have B5:=Hx (BA.o.K qk))
      have R5:=Hx hR;have c0:=qe.o _ E5.o;clear hR qk)
    |(go_at_call 32
      first
      |(with_reducible refine(ve.o _ (by with_reducible exact E5.o)).mono ?_
        rintro e w6 ⟨gl,rfl,hQ,hg,qj⟩;have E6:=Hx (E5.o.tr qj);have R6:=Hx (R5.o.K qj)
        first
        |(have B6:=Hx (B5.o.K qj)
          have m0:=B6.o.cell 0;have m1:=B6.o.cell 1;have m2:=B6.o.cell 2;have m3:=B6.o.cell 3;have m4:=B6.o.cell 4;have r0:=B6.o.frozen 0;have r1:=B6.o.frozen 1;have r2:=B6.o.frozen 2;have r3:=B6.o.frozen 3;have r4:=B6.o.frozen 4)
        |skip)
      |(with_reducible refine(ve.o _ (by with_reducible exact(E5.o.alloc _))).mono ?_
        rintro e w6 ⟨gl,rfl,hQ,hg,qj⟩;have E6:=Hx (((E5.o.alloc (.cells #[bF,zN,zN,zN,zN] 37))).tr qj);have R6:=Hx ((R5.o.K ((eR w5).alloc (.cells #[bF,zN,zN,zN,zN] 37))).K qj);have B6:=Hx (Blk.K (show Blk (w5.alloc (.cells #[bF,zN,zN,zN,zN] 37)) w5.heap.size 37 #[bF,zN,zN,zN,zN]from eN w5 _ _) qj);have xN:x≠w5.heap.size:=(by have h1:=F1.o.box.lt;have h2:=E5.o.size;omega);have m0:=B6.o.cell 0;have m1:=B6.o.cell 1;have m2:=B6.o.cell 2;have m3:=B6.o.cell 3;have m4:=B6.o.cell 4;have r0:=B6.o.frozen 0;have r1:=B6.o.frozen 1;have r2:=B6.o.frozen 2;have r3:=B6.o.frozen 3;have r4:=B6.o.frozen 4)
      have Q6:=Hx hQ;have c0:=qe.o _ E6.o;clear hQ hg qj)
    |fail)
  all_goals
   go_wp2;go_meet
   first
   |(have h5:=B5.o
     have h6:=jzd3 (gl:=gl) (m:=2*t.links.length) (yX _) B6.o R6.o Q6.o E6.o;exact⟨w1.heap.size,gl,neg,A1,n1,d1,A2,n2,d2,rfl,Hx h6⟩)
   |(have h6:=jzd3 (gl:=gl) (m:=2*t.links.length) E5.o.size B6.o R6.o Q6.o E6.o
     exact⟨w5.heap.size,gl,neg,A1,n1,d1,A2,n2,d2,rfl,Hx h6⟩)
   |exact⟨w6.heap.size,gl,neg,A1,n1,d1,A2,n2,d2,rfl,Hx ⟨eN w6 _ _,R6.o.K ((eR w6).alloc _),Q6.o.K ((eR w6).alloc _),E6.o.size,E6.o.alloc _⟩⟩
 obtain⟨bp,gl,neg,A1,n1,c1,A2,n2,c2,rfl,I4⟩:=hcut;clear XD XA BA qe q7 ve;have q4:wc.cell? (aD x 4)=some (.pointer (sA L.p)):=(F1.o.box.K I4.o.2.2.2.2).cell 4;go_wp2_with fail;refine(jzj2 w0.heap.size L T wc (F1.o.tab.K I4.o.2.2.2.2) (by have:=HF.o.2.1.n;omega) qO (by have:=CO.o.1;omega) (fun j k hj hk e=>SH.o.2.2.2.2.2.2.1 j k (by have:=SH.o.2.2.2.1;omega) (by have:=SH.o.2.2.2.1;omega) e) (fun j hj=>by have h1:=SH.o.2.2.2.2.2.2.2 j (by have:=SH.o.2.2.2.1;omega);have h2:=CO.o.1;omega) (fun i hi=>by rw[SH.o.1 i (by have:=CO.o.2;omega)];have:=SH.o.2.2.1;omega)).mono ?_;rintro e w5 ⟨gq,rfl,hQ,hg,qk⟩;have qJ:T.cols=P.length+1:=CO.o.1;rw[qJ];have I5:Hid (Blk w5 bp 37 #[.bool neg,.s A1 n1 c1,.s A2 n2 c2,zN,.s (sA gl) (2*t.links.length) (2*t.links.length)]/\aB w5 neg A1 n1 c1 A2 n2 c2 T.goal.re/\QB w5 gl (Sx.prT T)/\QB w5 gq (Sx.ptT T)/\Ext w1 w5):=Hx (⟨I4.o.1.K qk,I4.o.2.1.K qk,I4.o.2.2.1.K qk,hQ,I4.o.2.2.2.2.tr qk⟩);have vJ:w1.heap.size<=bp:=I4.o.2.2.2.1;have q3:w5.cell? (aD x 3)=some (.s AD l.length cd):=(F1.o.box.K I5.o.2.2.2.2).cell 3;clear hQ hg qk q4 I4 qJ;(go_upto_region 4 with fail);have J0:Hid (PlI w5 w5 bp gl (2*t.links.length) neg A1 n1 c1 A2 n2 c2 zN (dC (amQ l) T.goal.re (Sx.ptZ T P) 0)):=Hx (⟨I5.o.1,OwL.nil _ _ _ _ _,FrS.refl _ _⟩);have zm:w.heap.size<=bp:=yY E1.o.2.size vJ;have E5:Hid (Ext w w5):=Hx (E1.o.2.tr I5.o.2.2.2.2);have vZ:bp<w5.heap.size:=I5.o.1.lt;go_wp2;clear q3;go_loopg [6,7,8,41] l.length (fun q _ _ _ it wx=>∃(n:Nat) (vQ:Value),l.length-n=q/\n<=l.length/\it=vI (n:Int)/\Hid (PlI w5 wx bp gl (2*t.links.length) neg A1 n1 c1 A2 n2 c2 vQ (dC (amQ l) T.goal.re (Sx.ptZ T P) n)));exact⟨0,_,rfl,yZ _,rfl,J0⟩;obtain⟨n,vQ,rfl,hn,rfl,J⟩:=hrel;clear J0;have EW:Hid (Ext w wr):=Hx (J.o.fr.ext E5.o fun b hb=>qO);by_cases q8:n<l.length
 ·obtain⟨d,hd⟩:∃d,l[n]?=some d:=⟨_,yG q8⟩;have vW:=Hx (show((d.amount:Int):Rat)=amQ l n by unfold amQ;rw[hd]);have vU:i64 d.amount:=(HF.o.1.dem.wf d (yJ hd)).2.2.1;obtain⟨b,o,rfl,hb,a0,a1,a2,a3⟩:=HF.o.1.dem.at_ hd;have X0:Hid (Ext w0 wr):=Hx (HF.o.1.ext.tr EW.o);have a0:=aA X0.o a0;have a1:=aA X0.o a1;have a2:=aA X0.o a2;have a3:=aA X0.o a3;have hb:b<wr.heap.size:=yL hb X0.o.size;have nN:(n:Int)<(l.length:Int):=qO;have n0:(0:Int)<=(n:Int):=qO;have X8:Hid (Ext wr (wr.alloc (.cells #[vI d.src,vI d.dst,vI d.amount,vI d.prio] 60))):=Hx ((eR wr).alloc _);have B8:=Hx (eN wr 60 #[vI d.src,vI d.dst,vI d.amount,vI d.prio]);clear hd;go_upto_region 7 with fail
  clear a0 a1 a2 a3;generalize wr.alloc (.cells #[vI d.src,vI d.dst,vI d.amount,vI d.prio] 60)=W8 at*;generalize hbd:wr.heap.size=bd at*;have J8:=Hx (J.o.K X8.o);have RV:Hid (∀wx,Ext W8 wx->aB wx neg A1 n1 c1 A2 n2 c2 T.goal.re):=Hx (fun wx hx=>(J8.o.fr.ratR (NoT.one I5.o.1 qD) I5.o.2.1).K hx);have XD:Hid (Ext W8 W8.drew):=Hx ((eR W8).drewN 1);have XA:Hid (Ext W8 (W8.alloc (.cells rV 33)).drew):=Hx (((eR W8).alloc _).drewN 1);have BA:Hid (Blk (W8.alloc (.cells rV 33)).drew W8.heap.size 33 rV):=Hx (eN W8 _ _);have qe:=Hx (show∀wx,Ext W8 wx->(wx.cell? (aD bp 0)=some (.bool neg)/\wx.cell? (aD bp 1)=some (.s A1 n1 c1)/\wx.cell? (aD bp 2)=some (.s A2 n2 c2)/\wx.cell? (aD bd 2)=some (vI d.amount))from fun wx hx=>
   ⟨(J8.o.box.K hx).cell 0,(J8.o.box.K hx).cell 1,(J8.o.box.K hx).cell 2,(B8.o.K hx).cell 2⟩)
  obtain⟨zo,zy⟩:=(RV.o _ XD.o).lens SZ.o.2.1.gr;have v5:Hid (SzQ (amQ l n) 20):=Hx (by obtain⟨_,_,_,h4,h5,h6⟩:=HF.o.2.1.am q8;rw[h4];exact(SzQ.int (by unfold B32;omega)).mono qD);go_cut [8] (fun s wx=>∃(br:Nat) (ng:Bool) (R1:OA) (m1 d1:Nat) (R2:OA) (m2 d2:Nat),s=.pointer (sA br)/\Hid (Blk wx br 33 #[.bool ng,.s R1 m1 d1,.s R2 m2 d2]/\aB wx ng R1 m1 d1 R2 m2 d2 (T.goal.re*amQ l n)/\W8.heap.size<=br/\Ext W8 wx))
  case first=>
   have bN:bd≠W8.heap.size:=(by have:=B8.o.lt;omega);have xN:bp≠W8.heap.size:=(by have:=J8.o.box.lt;omega);obtain⟨c0,qT,qQ,c3⟩:=qe.o _ XD.o;obtain⟨y0,y1,y2,y3⟩:=qe.o _ XA.o
   go_region_held3 (fun w'=>w'.cell? (aD bp 0)=some (.bool neg)/\w'.cell? (aD bp 1)=some (.s A1 n1 c1)/\w'.cell? (aD bp 2)=some (.s A2 n2 c2)/\w'.cell? (aD bd 2)=some (vI d.amount))
    (first|with_reducible exact⟨c0,qT,qQ,c3⟩|with_reducible exact⟨y0,y1,y2,y3⟩|with_reducible exact⟨aU c0 _,aU qT _,aU qQ _,aU c3 _⟩|exact⟨aG (aG (aG c0 xN) xN) xN,aG (aG (aG qT xN) xN) xN,aG (aG (aG qQ xN) xN) xN,aG (aG (aG c3 bN) bN) bN⟩|fail)
    (first
     |(go_at_call 15
       first
       |(with_reducible refine(dP d.amount _ vU).mono ?_
         rintro e w6 ⟨ng,R1,m1,d1,R2,m2,d2,rfl,hR,qj⟩
         first
         |(have E6:=Hx (show Ext W8 w6 by with_reducible exact XD.o.tr qj))
         |(have E6:=Hx (show Ext W8 w6 by with_reducible exact XA.o.tr qj)
           have B6:=Hx (BA.o.K qj)))
       have R6:Hid (aB w6 ng R1 m1 d1 R2 m2 d2 (amQ l n)):=Hx (vW.o▸hR);obtain⟨zt,zz⟩:=R6.o.lens v5.o;obtain⟨c0,qT,qQ,c3⟩:=qe.o _ E6.o;clear hR qj)
     |(go_at_call 47
       first
       |(with_reducible refine(fY neg ng A1 n1 c1 A2 n2 c2 R1 m1 d1 R2 m2 d2 T.goal.re (amQ l n) _ (RV.o _ (by with_reducible exact E6.o)) (by with_reducible exact R6.o) qO qO qO qO).mono ?_
         rintro e w7 ⟨nh,S1,k1,e1,S2,k2,e2,rfl,hR,qH⟩;have E7:=Hx (E6.o.tr qH)
         first
         |(have B7:=Hx (B6.o.K qH)
           obtain⟨⟨u0,u1,u2⟩,r0,r1,r2⟩:=B7.o.t3)
         |skip)
       |(with_reducible refine(fY neg ng A1 n1 c1 A2 n2 c2 R1 m1 d1 R2 m2 d2 T.goal.re (amQ l n) _ (RV.o _ (by with_reducible exact(E6.o.alloc _))) (R6.o.K ((eR w6).alloc _)) qO qO qO qO).mono ?_
         rintro e w7 ⟨nh,S1,k1,e1,S2,k2,e2,rfl,hR,qH⟩;have E7:=Hx ((E6.o.alloc (.cells rV 33)).tr qH);have B7:=Hx (Blk.K (show Blk (w6.alloc (.cells rV 33)) w6.heap.size 33 rV from eN w6 _ _) qH);have bN:bd≠w6.heap.size:=(by have:=B8.o.lt;have:=E6.o.size;omega);have xN:bp≠w6.heap.size:=(by have:=J8.o.box.lt;have:=E6.o.size;omega);obtain⟨⟨u0,u1,u2⟩,r0,r1,r2⟩:=B7.o.t3)
       have R7:=Hx hR;obtain⟨c0,qT,qQ,c3⟩:=qe.o _ E7.o;clear hR qH)
     |fail)
   all_goals
    go_wp2;go_meet
    first
    |(have h5:=B6.o
      have h6:=dH (w:=W8) R7.o B7.o (yX _) E7.o;have b0:=B7.o.sT 0 (.bool nh);have b1:=b0.sT 1 (.s S1 k1 e1);exact⟨W8.heap.size,nh,S1,k1,e1,S2,k2,e2,rfl,Hx ⟨b1.sT 2 (.s S2 k2 e2),h6.1,yX _,h6.2⟩⟩)
    |(have h6:=dH (w:=W8) R7.o B7.o E6.o.size E7.o
      have b0:=B7.o.sT 0 (.bool nh);have b1:=b0.sT 1 (.s S1 k1 e1);exact⟨w6.heap.size,nh,S1,k1,e1,S2,k2,e2,rfl,Hx ⟨b1.sT 2 (.s S2 k2 e2),h6.1,E6.o.size,h6.2⟩⟩)
    |exact⟨w7.heap.size,nh,S1,k1,e1,S2,k2,e2,rfl,Hx ⟨eN w7 _ _,R7.o.K ((eR w7).alloc _),E7.o.size,E7.o.alloc _⟩⟩
  obtain⟨br,ng,R1,m1,d1,R2,m2,d2,rfl,C⟩:=hcut;clear XD XA BA qe RV B8;have J9:=Hx (J8.o.K C.o.2.2.2);have F5:=Hx (HF.o.1.K E5.o);obtain⟨vj,cP,vw,zu⟩:=HF.o.1.pat.form;have vi:=Hx vw;clear vw;have vO:x≠bp:=fun e=>(by have h1:=F5.o.box;rw[e]at h1;exact absurd (aZ h1 I5.o.1).2 qD);have v9:Hid (∀wx,FrS (fun b=>b=bp) w5 wx->OwL (PaC L.S) 98 5 wx w0.heap.size (.s vj P.length cP) P):=Hx (fun wx k=>by rw[<-vi.o];refine F5.o.pat.fr k (fun g hg e=>?_) fun cs y _ hy=>hy.fr k (NoT.one I5.o.1 qD);obtain⟨xs,ho⟩:=F5.o.pat.own;obtain⟨cs,qa⟩:=aW ho hg;rw[e]at qa;exact absurd (aZ qa I5.o.1).2 qD);have q5:wc.cell? (aD x 5)=some (.s vj P.length cP):=(by have h1:=(J9.o.fr.blk F5.o.box vO).cell 5;rw[vi.o]at h1;exact h1);have GQ:Hid (∀wx,FrS (fun b=>b=bp) w5 wx->QB wx gq (Sx.ptT T)):=Hx (fun wx k=>I5.o.2.2.2.1.fr k (NoT.one I5.o.1 qD) fun e=>by obtain⟨cs,qa⟩:=I5.o.2.2.2.1.blk;rw[e]at qa;exact absurd (aZ qa I5.o.1).2 qD);have vG:Hid ((Sx.ptT T).length=P.length+1):=Hx (by have h1:=HF.o.2.2.drop_len;rw[List.length_drop]at h1;have h2:(Sx.ptT T).length=T.cols:=Sx.ptTo_len _ _;rw[h2];exact CO.o.1);have vh:=Hx (HF.o.2.1.am q8);have RS:Hid (∀k,SzQ (((Sx.ptZ T P).take k).foldl (Sx.cutSt n) (T.goal.re*amQ l n,dC (amQ l) T.goal.re (Sx.ptZ T P) n)).1 41):=Hx (fun k=>by obtain⟨_,_,_,_,Dn,d1,d2,d3,d4⟩:=SZ.o;obtain⟨h1,h2,_,_,_,_⟩:=vh.o;have h3:((amQ l n:Rat))<=((1048576:Int):Rat):=vh.o.2.2.1;have h0:0<=T.goal.re*amQ l n:=vA HN.o.1 qG;have hI:Sx.isI (T.goal.re*amQ l n*(Dn:Rat)):=(by obtain⟨a,ha⟩:=d3.1;obtain⟨b9,qa⟩:=h2;exact⟨a*b9,by rw[kZu, <-ha, <-qa];grind⟩);obtain⟨g1,g2,g3⟩:=Sx.cutSt_rest n Dn (T.goal.re*amQ l n) ((Sx.ptZ T P).take k) (T.goal.re*amQ l n) (dC (amQ l) T.goal.re (Sx.ptZ T P) n) (fun z hz=>⟨HN.o.2.1 z (xM hz),(d4 z.2 (by have h9:=(Sx.zipF_mem P ((Sx.ptT T).drop 1) (xM hz)).2;exact List.mem_of_mem_drop h9)).1⟩) h0 vC hI;exact jzd2 d1 d2 d3.2 HN.o.1 h3 qG g1 g2 g3);have v3:w5.heap.size<=br:=(by have:=C.o.2.2.1;have:=J8.o.fr.size;omega);have K0:Hid ((T.goal.re*amQ l n,dC (amQ l) T.goal.re (Sx.ptZ T P) n)=((Sx.ptZ T P).take 0).foldl (Sx.cutSt n) (T.goal.re*amQ l n,dC (amQ l) T.goal.re (Sx.ptZ T P) n)/\Blk wc br 33 #[.bool ng,.s R1 m1 d1,.s R2 m2 d2]/\aB wc ng R1 m1 d1 R2 m2 d2 (T.goal.re*amQ l n)/\PlI w5 wc bp gl (2*t.links.length) neg A1 n1 c1 A2 n2 c2 vQ (dC (amQ l) T.goal.re (Sx.ptZ T P) n)):=Hx (⟨rfl,C.o.1,C.o.2.1,J9.o⟩);go_wp2;clear q5
  go_loopg [9,10,57] P.length (fun q _ _ it wx=>∃(k:Nat) (vQ:Value) (r:Rat) (out:List ((Nat×LN)×Rat)) (ng:Bool) (R1:OA) (m1 d1:Nat) (R2:OA) (m2 d2:Nat),P.length-k=q/\k<=P.length/\it=vI (k:Int)/\
   Hid ((r,out)=((Sx.ptZ T P).take k).foldl (Sx.cutSt n) (T.goal.re*amQ l n,dC (amQ l) T.goal.re (Sx.ptZ T P) n)/\Blk wx br 33 #[.bool ng,.s R1 m1 d1,.s R2 m2 d2]/\aB wx ng R1 m1 d1 R2 m2 d2 r/\PlI w5 wx bp gl (2*t.links.length) neg A1 n1 c1 A2 n2 c2 vQ out))
  (case atStart=>exact⟨0,vQ,_,_,ng,R1,m1,d1,R2,m2,d2,rfl,yZ _,rfl,K0⟩);obtain⟨k,vK,r,out,nr,S1,e1,f1,S2,e2,f2,rfl,hk,rfl,K⟩:=hrel;clear K0 J9 C;by_cases v8:k<P.length
  ·obtain⟨p,hp⟩:∃p,P[k]?=some p:=⟨_,yG v8⟩;(have ZK:=Hx (jzmg HF.o.2.2 hp);obtain⟨gP,cap,cs,v4,zw,_,qC,A,c,rfl,vt,vl,zd⟩:=(v9.o _ K.o.2.2.2.fr).at_ hp;injection v4 with e9 _ e10);subst e9;subst e10;have a0:wr.cell? (aD gP (k*5))=some (vI (p.1:Int)):=qC 0 qD;have a1:wr.cell? (aD gP (k*5+1))=some (.s A p.2.length c):=qC 1 qD;have a2:wr.cell? (aD gP (k*5+2))=some bF:=qC 2 qD;have a3:wr.cell? (aD gP (k*5+3))=some zN:=qC 3 qD;have a4:wr.cell? (aD gP (k*5+4))=some zN:=qC 4 qD;have kN:(k:Int)<(P.length:Int):=qO;have k0:(0:Int)<=(k:Int):=qO;have PR:=Hx (kQa vl vt);have zk:p.1<l.length:=HN.o.2.2 p (yJ hp);clear qC vl vt zd hp;by_cases qV:p.1=n
   ·obtain⟨pd,pa⟩:=p;have qV:n=pd:=qV.symm;subst qV;dsimp only at a0 a1;have PR:Hid (RdT wr 3 A (ints pa)/\pa.length<=c):=Hx (PR.o);have ZK:Hid ((Sx.ptZ T P)[k]?=some ((n,pa),Sx.at_ (Sx.ptT T) (k+1))):=Hx (ZK.o);have vz:((n:Int) !=(n:Int))=false:=qS;have vm:k+1<(Sx.ptT T).length:=(by rw[vG.o];omega);obtain⟨nf,qw,g1,h1,qx,g2,h2,⟨s0,s1,s2⟩,_,hy⟩:=(GQ.o _ K.o.2.2.2.fr).at_ (aO vm);rw[show(k+1)*3=3+k*3 by omega]at s0 s1 s2;have s0:=aU s0 (.cells #[vI (n:Int),.s A pa.length c,bF,zN,zN] 98);have s1:=aU s1 (.cells #[vI (n:Int),.s A pa.length c,bF,zN,zN] 98);have s2:=aU s2 (.cells #[vI (n:Int),.s A pa.length c,bF,zN,zN] 98);have RY:=Hx hy;have BY:=Hx (eN wr 98 #[vI (n:Int),.s A pa.length c,.bool nf,.s qw g1 h1,.s qx g2 h2]);have XY:Hid (Ext wr (wr.alloc (.cells #[vI (n:Int),.s A pa.length c,.bool nf,.s qw g1 h1,.s qx g2 h2] 98))):=Hx ((eR wr).alloc _);obtain⟨⟨v0,v1,v2⟩,_⟩:=K.o.2.1.t3;have v0:=aU v0 (.cells #[vI (n:Int),.s A pa.length c,.bool nf,.s qw g1 h1,.s qx g2 h2] 98);have v1:=aU v1 (.cells #[vI (n:Int),.s A pa.length c,.bool nf,.s qw g1 h1,.s qx g2 h2] 98);have v2:=aU v2 (.cells #[vI (n:Int),.s A pa.length c,.bool nf,.s qw g1 h1,.s qx g2 h2] 98);have vg:Hid (SzQ (Sx.at_ (Sx.ptT T) (k+1)) 20):=Hx (SZ.o.2.2.2.1 _ (yJ (aO vm)));have vu:Hid (SzQ r 41):=Hx (by have h9:=RS.o k;rw[<-K.o.1]at h9;exact h9);generalize Sx.at_ (Sx.ptT T) (k+1)=f at*;obtain⟨zx,zf⟩:=hy.lens vg.o;obtain⟨zj,zp⟩:=K.o.2.2.1.lens vu.o;clear hy;go_wp2_with fail
    refine(fE nf nr qw g1 h1 qx g2 h2 S1 e1 f1 S2 e2 f2 f r _ (RY.o.K XY.o) (K.o.2.2.1.K XY.o) qO qO qO qO).mono ?_;rintro e w6 ⟨rfl,x6⟩;have qo:=Hx (BY.o.K x6);have K6:=Hx (show Blk w6 br 33 #[.bool nr,.s S1 e1 f1,.s S2 e2 f2]/\aB w6 nr S1 e1 f1 S2 e2 f2 r/\PlI w5 w6 bp gl (2*t.links.length) neg A1 n1 c1 A2 n2 c2 vK out/\RdT w6 3 A (ints pa)/\aB w6 nf qw g1 h1 qx g2 h2 f/\aB w6 neg A1 n1 c1 A2 n2 c2 T.goal.re from
     ⟨K.o.2.1.K (XY.o.tr x6),K.o.2.2.1.K (XY.o.tr x6),K.o.2.2.2.K (XY.o.tr x6),PR.o.1.K (XY.o.tr x6),RY.o.K (XY.o.tr x6),((K.o.2.2.2.K (XY.o.tr x6)).fr.ratR (NoT.one I5.o.1 qD) I5.o.2.1)⟩)
    have qW:=Hx K.o.1;have vc:Hid (br<wr.heap.size):=Hx (K.o.2.1.lt);have za:Hid (∀g,vK.ownBlock=some g->g<wr.heap.size):=Hx (fun g hg=>by obtain⟨xs,ho⟩:=K.o.2.2.2.own.own;exact(ho.lt g hg).2);clear v0 v1 v2 s0 s1 s2 x6 BY XY RY K;generalize hby:wr.heap.size=yb at*;obtain⟨⟨v0,v1,v2⟩,_⟩:=K6.o.1.t3;have y2:=qo.o.cell 2;have y3:=qo.o.cell 3;have y4:=qo.o.cell 4;have z2:=qo.o.frozen 2;have z3:=qo.o.frozen 3;have z4:=qo.o.frozen 4;go_upto_if 75 with fail
    go_cut [] (fun wx=>∃(nh:Bool) (H1:OA) (i1 j1:Nat) (H2:OA) (i2 j2:Nat),Hid (Blk wx yb 98 #[vI (n:Int),.s A pa.length c,.bool nh,.s H1 i1 j1,.s H2 i2 j2]/\aB wx nh H1 i1 j1 H2 i2 j2 (if r<f then r else f)/\
     Blk wx br 33 #[.bool nr,.s S1 e1 f1,.s S2 e2 f2]/\aB wx nr S1 e1 f1 S2 e2 f2 r/\PlI w5 wx bp gl (2*t.links.length) neg A1 n1 c1 A2 n2 c2 vK out/\RdT wx 3 A (ints pa)))
    (case first=>by_cases qA:r<f;{have qZ:0<bG f r:=(rP f r).2 qA;have zb:decide (0<bG f r)=true:=yO qZ;have va:=Hx qA;clear qA;go_wp2;go_meet;have b0:=qo.o.sT 2 (.bool nr);have b1:=b0.sT 3 (.s S1 e1 f1);have b2:=b1.sT 4 (.s S2 e2 f2);have k3:FrS (fun b'=>b'=yb) w6 (((w6.setCell (aD yb 2) (.bool nr)).setCell (aD yb 3) (.s S1 e1 f1)).setCell (aD yb 4) (.s S2 e2 f2)):=eG (((aM w6 yb 2 _).trans (aM _ yb 3 _)).trans (aM _ yb 4 _)) fun g e=>(by injection e with e;exact e.symm);have hn:=fun tt (ht:98≠tt)=>NoT.one qo.o ht;refine⟨nr,S1,e1,f1,S2,e2,f2,Hx ⟨b2,?_,k3.blk K6.o.1 (by have:=vc.o;omega),k3.ratR (hn _ qD) K6.o.2.1,?_,k3.rdT (hn _ qD) K6.o.2.2.2.1⟩⟩;{rw[qE va.o];exact k3.ratR (hn _ qD) K6.o.2.1};have qp:=K6.o.2.2.1;have vL:w5.heap.size<=yb:=(by have:=qp.fr.size;have:=vc.o;omega);refine⟨k3.blk qp.box qO,qp.own.fr k3 (fun g hg e=>by have:=za.o g hg;omega) (fun cs y _ hy=>hy.fr k3 (hn _ qD) (hn _ qD)),qp.fr.tr k3 fun b hb=>.inr (by rw[hb];exact vL)⟩};have qZ:¬0<bG f r:=fun h=>qA ((rP f r).1 h);have zb:decide (0<bG f r)=false:=yP qZ;have va:=Hx qA;clear qA;go_wp2;go_meet;exact⟨nf,qw,g1,h1,qx,g2,h2,Hx ⟨qo.o,by rw[qF va.o];exact K6.o.2.2.2.2.1,K6.o.1,K6.o.2.1,K6.o.2.2.1,K6.o.2.2.2.1⟩⟩);obtain⟨nh,H1,i1,j1,H2,i2,j2,I9⟩:=hcut;clear qo K6 v0 v1 v2 y2 y3 y4 z2 z3 z4;have vF:Hid (SzQ (if r<f then r else f) 41):=Hx (by split;{exact vu.o};exact vg.o.mono qD);have qU:Hid ((r-(if r<f then r else f),if 0<(if r<f then r else f)then out++[((n,pa),(if r<f then r else f))]else out)=((Sx.ptZ T P).take (k+1)).foldl (Sx.cutSt n) (T.goal.re*amQ l n,dC (amQ l) T.goal.re (Sx.ptZ T P) n)):=Hx (by rw[jzd8 ZK.o, <-qW.o];unfold Sx.cutSt;rw[qE rfl]);generalize hff:(if r<f then r else f)=ff at*;obtain⟨⟨v0,v1,v2⟩,r0,r1,r2⟩:=I9.o.2.2.1.t3;have y2:=I9.o.1.cell 2;have y3:=I9.o.1.cell 3;have y4:=I9.o.1.cell 4;obtain⟨zB,zg⟩:=I9.o.2.1.lens vF.o;clear hff;go_wp2_with fail
    refine(nP nr nh S1 e1 f1 S2 e2 f2 H1 i1 j1 H2 i2 j2 r ff _ I9.o.2.2.2.1 I9.o.2.1 qO qO qO qO).mono ?_;rintro e w7 ⟨qf,T1,t1,u1,T2,t2,u2,rfl,vy,x7⟩;have B7:=I9.o.2.2.1.K x7;have k7:FrS (fun b'=>b'=br) w7 (((w7.setCell (aD br 0) (.bool qf)).setCell (aD br 1) (.s T1 t1 u1)).setCell (aD br 2) (.s T2 t2 u2)):=eG (((aM w7 br 0 _).trans (aM _ br 1 _)).trans (aM _ br 2 _)) fun g e=>(by injection e with e;exact e.symm);have qI:=fun tt (ht:33≠tt)=>NoT.one B7 ht;have qM:yb≠br:=(by have:=vc.o;omega);have qm:=Hx (show Blk (((w7.setCell (aD br 0) (.bool qf)).setCell (aD br 1) (.s T1 t1 u1)).setCell (aD br 2) (.s T2 t2 u2)) yb 98 #[vI (n:Int),.s A pa.length c,.bool nh,.s H1 i1 j1,.s H2 i2 j2]/\aB (((w7.setCell (aD br 0) (.bool qf)).setCell (aD br 1) (.s T1 t1 u1)).setCell (aD br 2) (.s T2 t2 u2)) nh H1 i1 j1 H2 i2 j2 ff/\
      Blk (((w7.setCell (aD br 0) (.bool qf)).setCell (aD br 1) (.s T1 t1 u1)).setCell (aD br 2) (.s T2 t2 u2)) br 33 #[.bool qf,.s T1 t1 u1,.s T2 t2 u2]/\aB (((w7.setCell (aD br 0) (.bool qf)).setCell (aD br 1) (.s T1 t1 u1)).setCell (aD br 2) (.s T2 t2 u2)) qf T1 t1 u1 T2 t2 u2 (r-ff)/\
      PlI w5 (((w7.setCell (aD br 0) (.bool qf)).setCell (aD br 1) (.s T1 t1 u1)).setCell (aD br 2) (.s T2 t2 u2)) bp gl (2*t.links.length) neg A1 n1 c1 A2 n2 c2 vK out/\RdT (((w7.setCell (aD br 0) (.bool qf)).setCell (aD br 1) (.s T1 t1 u1)).setCell (aD br 2) (.s T2 t2 u2)) 3 A (ints pa)from by
     have qp:=I9.o.2.2.2.2.1.K x7;refine⟨k7.blk (I9.o.1.K x7) qM,k7.ratR (qI _ qD) (I9.o.2.1.K x7),((B7.sT 0 _).sT 1 _).sT 2 _,k7.ratR (qI _ qD) vy,⟨k7.blk qp.box qO,qp.own.fr k7 (fun g hg e=>?_) (fun cs y _ hy=>hy.fr k7 (qI _ qD) (qI _ qD)),qp.fr.tr k7 fun b hb=>.inr (by rw[hb];exact v3)⟩,k7.rdT (qI _ qD) (I9.o.2.2.2.2.2.K x7)⟩;obtain⟨xs,ho⟩:=qp.own.own;obtain⟨cs,qa⟩:=aW ho hg;rw[e]at qa;exact absurd (aZ qa B7).2 qD)
    obtain⟨⟨v0,v1,v2⟩,r0,r1,r2⟩:=B7.t3;clear k7 qI B7 vy x7 I9 y2 y3 y4 qM;(go_upto_region 16 with fail);generalize ((w7.setCell (aD br 0) (.bool qf)).setCell (aD br 1) (.s T1 t1 u1)).setCell (aD br 2) (.s T2 t2 u2)=W8' at*;clear v0 v1 v2 r0 r1 r2;have y2:=qm.o.1.cell 2;have y3:=qm.o.1.cell 3;have y4:=qm.o.1.cell 4;go_wp2_with fail
    refine(cV nh H1 i1 j1 H2 i2 j2 ff _ qm.o.2.1).mono ?_;rintro e w9 ⟨rfl,x9⟩;have qg:=Hx (show Blk w9 yb 98 #[vI (n:Int),.s A pa.length c,.bool nh,.s H1 i1 j1,.s H2 i2 j2]/\aB w9 nh H1 i1 j1 H2 i2 j2 ff/\Blk w9 br 33 #[.bool qf,.s T1 t1 u1,.s T2 t2 u2]/\aB w9 qf T1 t1 u1 T2 t2 u2 (r-ff)/\PlI w5 w9 bp gl (2*t.links.length) neg A1 n1 c1 A2 n2 c2 vK out/\RdT w9 3 A (ints pa)from
     ⟨qm.o.1.K x9,qm.o.2.1.K x9,qm.o.2.2.1.K x9,qm.o.2.2.2.1.K x9,qm.o.2.2.2.2.1.K x9,qm.o.2.2.2.2.2.K x9⟩)
    clear x9 qm y2 y3 y4;by_cases qh:0<ff
    ·have q6:0<aC ff:=(wO ff).2 qh;have vT:decide (0<aC ff)=true:=yO q6;have zs:out.length<=50000000000:=(by have h1:=congrArg (fun s=>s.2.length) qW.o;have h1:out.length=(((Sx.ptZ T P).take k).foldl (Sx.cutSt n) (T.goal.re*amQ l n,dC (amQ l) T.goal.re (Sx.ptZ T P) n)).2.length:=h1;have h2:=jzmh n (T.goal.re*amQ l n) (dC (amQ l) T.goal.re (Sx.ptZ T P) n) ((Sx.ptZ T P).take k);have h3:=jzd7 (amQ l) T.goal.re (Sx.ptZ T P) n;have h4:=jzd6 HF.o.2.2;rw[h4]at h3;have h5:n*P.length<=3*P.length:=xS _ qO;rw[xF]at h2;omega);have vd:=Hx qh;have y0:=qg.o.1.cell 0;have y1:=qg.o.1.cell 1;have y2:=qg.o.1.cell 2;have y3:=qg.o.1.cell 3;have y4:=qg.o.1.cell 4;have p3:=qg.o.2.2.2.2.1.box.cell 3;have XB:Hid (Ext w9 (w9.alloc (.cells #[vI (n:Int),.s A pa.length c,.bool nh,.s H1 i1 j1,.s H2 i2 j2] 98))):=Hx ((eR w9).alloc _);have BW:=Hx (eN w9 98 #[vI (n:Int),.s A pa.length c,.bool nh,.s H1 i1 j1,.s H2 i2 j2]);have PB:=Hx (qg.o.2.2.2.2.1.K XB.o);obtain⟨css,h1,h2,qi,h4⟩:=PB.o.own;have vH:w5.heap.size<=(w9.alloc (.cells #[vI (n:Int),.s A pa.length c,.bool nh,.s H1 i1 j1,.s H2 i2 j2] 98)).heap.size:=PB.o.fr.size;clear qh;go_wp2_with (at_builtin;refine kZ _ 34 98 _ 5 88 rfl _ _ rfl underlying34 jzdr rfl qD w5.heap.size vK out.length css.flatten rfl qi [vI (n:Int),.s A pa.length c,.bool nh,.s H1 i1 j1,.s H2 i2 j2] rfl (by simp[Value.oneCell']) w9.heap.size rfl BW.o (by unfold maxLen;omega) qO vH ?_)
     intro g7 c7 qt qz qy qX;have k7:=eG (S:=fun b=>vK.ownBlock=some b) qy fun g e=>e;have n7:=fun tt (ht:98≠tt) (b:Nat) (hb:vK.ownBlock=some b)=>bK qi hb ht;have qB:=Hx (k7.blk PB.o.box fun e=>bK qi e qD _ _ PB.o.box);have k8:FrS (fun b=>b=bp) qt (qt.setCell (aD bp 3) (.s (sA g7) (out.length+1) c7)):=eG (aM qt bp 3 _) fun g e=>(by injection e with e;exact e.symm);have n8:=fun tt (ht:37≠tt)=>NoT.one qB.o ht;have z3:qt.frozen? (aD bp 3)=false:=qB.o.frozen _;have ze:qt.cell? (aD bp 3)=some vK:=qB.o.cell 3;have K9:=Hx (show(r-ff,out++[((n,pa),ff)])=((Sx.ptZ T P).take (k+1)).foldl (Sx.cutSt n) (T.goal.re*amQ l n,dC (amQ l) T.goal.re (Sx.ptZ T P) n)/\Blk (qt.setCell (aD bp 3) (.s (sA g7) (out.length+1) c7)) br 33 #[.bool qf,.s T1 t1 u1,.s T2 t2 u2]/\aB (qt.setCell (aD bp 3) (.s (sA g7) (out.length+1) c7)) qf T1 t1 u1 T2 t2 u2 (r-ff)/\PlI w5 (qt.setCell (aD bp 3) (.s (sA g7) (out.length+1) c7)) bp gl (2*t.links.length) neg A1 n1 c1 A2 n2 c2 (.s (sA g7) (out.length+1) c7) (out++[((n,pa),ff)])from by
      have hq:=qU.o;rw[qE vd.o]at hq;have vn:=qg.o.2.2.1.K XB.o;refine⟨hq,k8.blk (k7.blk vn fun e=>bK qi e qD _ _ vn) qO,k8.ratR (n8 _ qD) (k7.ratR (n7 _ qD) (qg.o.2.2.2.1.K XB.o)),qB.o.sT 3 _,?_,((PB.o.fr.tr k7 fun b hb=>.inr (qi.lt b hb).1).tr k8 fun b hb=>.inl hb)⟩;have qY:OwL PzQ 98 5 qt w5.heap.size (.s (sA g7) (out.length+1) c7) (out++[((n,pa),ff)]):=
       OwL.pushed h1 h2 h4 (us:=[vI (n:Int),.s A pa.length c,.bool nh,.s H1 i1 j1,.s H2 i2 j2]) rfl (fun cs y _ hy=>hy.fr k7 (n7 _ qD) (n7 _ qD)) ⟨A,c,nh,H1,i1,j1,H2,i2,j2,rfl,PR.o.2,k7.rdT (n7 _ qD) (qg.o.2.2.2.2.2.K XB.o),k7.ratR (n7 _ qD) (qg.o.2.1.K XB.o)⟩ qz
      refine qY.fr k8 (fun g hg e=>?_) fun cs y _ hy=>hy.fr k8 (n8 _ qD) (n8 _ qD);obtain⟨cs,qa⟩:=aW qz hg;rw[e]at qa;exact absurd (aZ qa qB.o).2 qD)
     clear qz qy qX qi h1 h2 h4 css k7 n7 k8 n8 PB BW XB qB qg qU qW y0 y1 y2 y3 y4 p3;go_wp2;go_roundg (P.length-(k+1));exact⟨k+1,_,r-ff,_,qf,T1,t1,u1,T2,t2,u2,rfl,qO,by go_num,K9⟩;omega
    have q6:¬0<aC ff:=fun h=>qh ((wO ff).1 h);have vT:decide (0<aC ff)=false:=yP q6;have K9:Hid ((r-ff,out)=((Sx.ptZ T P).take (k+1)).foldl (Sx.cutSt n) (T.goal.re*amQ l n,dC (amQ l) T.goal.re (Sx.ptZ T P) n)/\Blk w9 br 33 #[.bool qf,.s T1 t1 u1,.s T2 t2 u2]/\aB w9 qf T1 t1 u1 T2 t2 u2 (r-ff)/\PlI w5 w9 bp gl (2*t.links.length) neg A1 n1 c1 A2 n2 c2 vK out):=Hx (by have h9:=qU.o;rw[qF qh]at h9;exact⟨h9,qg.o.2.2.1,qg.o.2.2.2.1,qg.o.2.2.2.2.1⟩);clear qh qg qU qW;go_wp2;go_roundg (P.length-(k+1));exact⟨k+1,vK,r-ff,out,qf,T1,t1,u1,T2,t2,u2,rfl,qO,by go_num,K9⟩;omega
   have vz:((p.1:Int) !=(n:Int))=true:=bne_iff_ne.2 qO;have zc:¬((p.1:Int)=(n:Int)):=qO;have K9:Hid ((r,out)=((Sx.ptZ T P).take (k+1)).foldl (Sx.cutSt n) (T.goal.re*amQ l n,dC (amQ l) T.goal.re (Sx.ptZ T P) n)/\Blk (wr.alloc (.cells #[vI (p.1:Int),.s A p.2.length c,bF,zN,zN] 98)) br 33 #[.bool nr,.s S1 e1 f1,.s S2 e2 f2]/\aB (wr.alloc (.cells #[vI (p.1:Int),.s A p.2.length c,bF,zN,zN] 98)) nr S1 e1 f1 S2 e2 f2 r/\PlI w5 (wr.alloc (.cells #[vI (p.1:Int),.s A p.2.length c,bF,zN,zN] 98)) bp gl (2*t.links.length) neg A1 n1 c1 A2 n2 c2 vK out):=Hx (by refine⟨?_,K.o.2.1.K ((eR wr).alloc _),K.o.2.2.1.K ((eR wr).alloc _),K.o.2.2.2.K ((eR wr).alloc _)⟩;rw[jzd8 ZK.o, <-K.o.1];unfold Sx.cutSt;rw[qF qV]);clear K;go_wp2;go_roundg (P.length-(k+1));exact⟨k+1,vK,r,out,nr,S1,e1,f1,S2,e2,f2,rfl,qO,by go_num,K9⟩;omega
  obtain rfl:k=P.length:=qO;have L9:Hid (PlI w5 wr bp gl (2*t.links.length) neg A1 n1 c1 A2 n2 c2 vK (dC (amQ l) T.goal.re (Sx.ptZ T P) (n+1))):=Hx (by have h1:=congrArg (fun s=>s.2) K.o.1;have h1:out=(((Sx.ptZ T P).take P.length).foldl (Sx.cutSt n) (T.goal.re*amQ l n,dC (amQ l) T.goal.re (Sx.ptZ T P) n)).2:=h1;rw[yU (Nat.le_of_eq (jzd6 HF.o.2.2)),Sx.cutSt_all, <-jzd5]at h1;rw[<-h1];exact K.o.2.2.2);clear K;go_wp2;go_roundg (l.length-(n+1));exact⟨n+1,vK,rfl,qO,by go_num,L9⟩;omega
 obtain rfl:n=l.length:=qO;obtain⟨AQ,cQ,vV,v7⟩:=J.o.own.form;subst vV;have RB:=Hx (J.o.fr.blk (E1.o.1.K I5.o.2.2.2.2) (by have:=E1.o.1.lt;omega));have p0:=J.o.box.cell 0;have p1:=J.o.box.cell 1;have p2:=J.o.box.cell 2;have p3:=J.o.box.cell 3;have p4:=J.o.box.cell 4;have m0:=RB.o.cell 0;have m1:=RB.o.cell 1;have m2:=RB.o.cell 2;have m3:=RB.o.cell 3;have m4:=RB.o.cell 4;have r0:=RB.o.frozen 0;have r1:=RB.o.frozen 1;have r2:=RB.o.frozen 2;have r3:=RB.o.frozen 3;have r4:=RB.o.frozen 4;have vp:Hid (∀W,FrS (fun b=>b=w.heap.size) wr W->jzd4 w (2*t.links.length) T.goal.re (Sx.planZ l.length (amQ l) T.goal.re (Sx.ptZ T P)) ((Sx.prT T).take (2*t.links.length)) (.returned (.agg #[.bool neg,.s A1 n1 c1,.s A2 n2 c2,.s AQ (dC (amQ l) T.goal.re (Sx.ptZ T P) l.length).length cQ,.s (sA gl) (2*t.links.length) (2*t.links.length)])) W):=Hx (fun W k9=>by have hn:=fun tt (ht:37≠tt)=>NoT.one RB.o ht;have vk:=fun tt (ht:37≠tt)=>NoT.one I5.o.1 ht;refine⟨neg,A1,n1,c1,A2,n2,c2,AQ,cQ,gl,rfl,k9.ratR (hn _ qD) (J.o.fr.ratR (vk _ qD) I5.o.2.1),v7,?_,?_,k9.ext EW.o fun b hb=>by rw[hb];exact yX _⟩;{refine⟨_,J.o.own.fr k9 (fun g hg e=>?_) fun cs y _ hy=>hy.fr k9 (hn _ qD) (hn _ qD)⟩;obtain⟨xs,ho⟩:=J.o.own.own;obtain⟨cs,qa⟩:=aW ho hg;rw[e]at qa;exact absurd (aZ qa RB.o).2 qD};have hq:QB wr gl (Sx.prT T):=I5.o.2.2.1.fr J.o.fr (vk _ qD) fun e=>(by obtain⟨cs,qa⟩:=I5.o.2.2.1.blk;rw[e]at qa;exact absurd (aZ qa I5.o.1).2 qD);have v6:QB W gl (Sx.prT T):=hq.fr k9 (hn _ qD) fun e=>(by obtain⟨cs,qa⟩:=hq.blk;rw[e]at qa;exact absurd (aZ qa RB.o).2 qD);exact⟨_,v6,rfl⟩);have qa:=((((RB.o.sT 0 (.bool neg)).sT 1 (.s A1 n1 c1)).sT 2 (.s A2 n2 c2)).sT 3 (.s AQ (dC (amQ l) T.goal.re (Sx.ptZ T P) l.length).length cQ)).sT 4 (.s (sA gl) (2*t.links.length) (2*t.links.length));have HB:=Hx qa;have q9:=Hx (vp.o _ (eG (oI wr w.heap.size (.bool neg) (.s A1 n1 c1) (.s A2 n2 c2) (.s AQ (dC (amQ l) T.goal.re (Sx.ptZ T P) l.length).length cQ) (.s (sA gl) (2*t.links.length) (2*t.links.length))) fun g e=>by injection e with e;exact e.symm));clear qa vp J;go_wp2;have qa:=HB.o;exact bodyPost_ret (v:=.agg #[.bool neg,.s A1 n1 c1,.s A2 n2 c2,.s AQ (dC (amQ l) T.goal.re (Sx.ptZ T P) l.length).length cQ,.s (sA gl) (2*t.links.length) (2*t.links.length)]) (by simp[results,results33,go_sem,qa.cell]) rfl q9.o
theorem jzmj{t:Tp}{a:Nat}{l:Lk}(hl:t.links[a/2]?=some l)(h0:0<=l.c0/\0<=l.c1):((eQ t a:Nat):Int)=if a%2=0 then l.c0 else l.c1:=by
 unfold eQ;rw[hl];simp only[];split <;> omega
theorem jzmk{t}(hv:aH t=true){i:Nat}{l:Lk}(hl:t.links[i]?=some l):0<=l.c0/\0<=l.c1:=by
 unfold aH at hv;rw[vM,xW]at hv;have qa:=hv.2 l (yJ hl);unfold Lk.ok inB at qa;simp at qa;omega
theorem jzml t AO(co:Nat)AL(cl:Nat)(a:Nat)w(ht:bD w t AO co AL cl)(hv:aH t=true)(ha:a/2<t.links.length):
  Calls prog 141 #[.agg #[vI t.nodes,.s AO t.over.length co,.s AL t.links.length cl],vI a] w fun e w'=>e=.returned (vI (eQ t a:Nat))/\Ext w w':=by
 have hl:=ht.ll;have qe:=ht.cl;obtain⟨l,qa⟩:∃l,t.links[a/2]?=some l:=⟨_,yG ha⟩;obtain⟨b,o,rfl,hb,c0,c1,c2,c3,_⟩:=ht.link qa;rw[jzmj qa (jzmk hv qa)];clear ht qa hv;by_cases h:a%2=0;{rw[qE h];have h':((a:Int)%2)=0:=qO;clear h;go_enter func141,ntmps141;go_wp2;go_ret;exact⟨rfl,(eR w).alloc _⟩};rw[qF h];have h':((a:Int)%2)=1:=qO;clear h;go_enter func141,ntmps141;go_wp2;go_ret;exact⟨rfl,(eR w).alloc _⟩
theorem jzmm(n:Nat)w(hn:n<=2000000):
  Calls prog 184 #[zN,vI (n:Int)] w fun e w'=>∃v,e=.returned v/\w'.ownsRow w.heap.size 3 1 v 0 []/\Ext w w':=by
 have h1:¬((n:Int)<0):=qO;by_cases hz:n=0;{subst hz;go_enter func184,ntmps184;go_wp2;go_ret;exact⟨_,rfl,⟨rfl,.inl ⟨rfl,rfl⟩⟩,eR _⟩};obtain⟨ti,hi,qh,qm,qf⟩:=info_parts Tryz.info3;have h4:(n:Int)>0:=qO;have qg:∀ty,(Builtin.append_ #[42,3] ty #[zN,vI (n:Int)]).run prog w=.ok (.s (sA w.heap.size) n (grownCap w n 0 3)) (w.drew.alloc (.cells (([]:List Value).toArray++Builtin.zeroCells (Value.int .i64 0).cells n++Builtin.zeroCells (Value.int .i64 0).cells (grownCap w n 0 3-n)) 3)):=fun ty=>(by have h:=Lib.run_append_grow_zeros (P:=prog) w 42 3 ty 3 ti (vI 0) .i64 .i64 underlying42 underlying3 hi qh none 0 0 [] (run_firstCells_none _ _ 0 0 0) n qO qO qO qO (by rw[qf];omega) (by rw[qf,kQu];exact growslice_fits qO qO);rw[kQu]at h;exact h)
 have qj:n<=grownCap w n 0 3:=grownCap_ge w _ _ _;have qa:=grownCap_le_maxLen w n 0 3 (by unfold maxLen;omega);have qe:=Hx (show(w.drew.alloc (.cells (([]:List Value).toArray++Builtin.zeroCells (Value.int .i64 0).cells n++Builtin.zeroCells (Value.int .i64 0).cells (grownCap w n 0 3-n)) 3)).ownsRow w.heap.size 3 1 (.s (sA w.heap.size) 0 (grownCap w n 0 3)) 0 []/\Ext w (w.drew.alloc (.cells (([]:List Value).toArray++Builtin.zeroCells (Value.int .i64 0).cells n++Builtin.zeroCells (Value.int .i64 0).cells (grownCap w n 0 3-n)) 3))from
  ⟨World.ownsRow_made w.drew _ _ (yX _) qa (by simp[Builtin.zeroCells,Value.cells];omega),((eR w).drewN 1).alloc _⟩)
 obtain⟨G,hG⟩:∃G,G=grownCap w n 0 3:=⟨_,rfl⟩;rw[<-hG]at qg qj qa qe;obtain⟨W',qi⟩:∃W',W'=w.drew.alloc (.cells (([]:List Value).toArray++Builtin.zeroCells (Value.int .i64 0).cells n++Builtin.zeroCells (Value.int .i64 0).cells (G-n)) 3):=⟨_,rfl⟩;rw[<-qi]at qg qe;clear qi;have qk:G<=9223372036854775807:=(by unfold maxLen at qa;omega);clear hG hi qh qm qf qa;go_enter func184,ntmps184;go_wp2_with (at_builtin;refine Lib.wpList_append_run _ rfl _ _ _ _ rfl _ _ rfl rfl _ _ (qg _) ?_)
 all_goals
  go_ret;exact⟨_,rfl,qe.o.1,qe.o.2⟩
def wQ(r:OA×LN×Nat):Value:=.s r.1 r.2.1.length r.2.2
def eU(rs:List (OA×LN×Nat)):Nat:=(rs.map fun r=>r.2.1.length).sum
def eV(rs:List (OA×LN×Nat)):LN:=(rs.map fun r=>r.2.1).flatten
theorem jzd9{rs:List (OA×LN×Nat)}{k:Nat}{r:OA×LN×Nat}(h:rs[k]?=some r):eU (rs.take (k+1))=eU (rs.take k)+r.2.1.length:=by
 unfold eU;rw[kQr,h];simp
theorem jzmn{rs:List (OA×LN×Nat)}{k:Nat}{r:OA×LN×Nat}(h:rs[k]?=some r):eV (rs.take (k+1))=eV (rs.take k)++r.2.1:=by
 unfold eV;rw[kQr,h];simp
theorem jzmo(rs:List (OA×LN×Nat)):(eV rs).length=eU rs:=by
 unfold eV eU;rw[List.length_flatten,List.map_map];rfl
theorem jzea(rs:List (OA×LN×Nat))(k:Nat):eU (rs.take k)<=eU rs:=by
 have h:eU rs=eU (rs.take k)+eU (rs.drop k):=(by unfold eU;(conv=>lhs;rw[<-kZz k rs]);rw[List.map_append,List.sum_append]);omega
theorem jzeb(a b:LN):ints (a++b)=ints a++ints b:=by unfold ints;rw[List.map_append]
theorem jzmp(rs:List (OA×LN×Nat))(m b:Nat)w(hm:rs.length=m)(hb:Blk w b 42 (rs.map wQ).toArray)(hr:∀r∈rs,RdT w 3 r.1 (ints r.2.1))(hn:m<=1000)(hs:eU rs<=1000000):
  Calls prog 139 #[.s (sA b) m m] w fun e w'=>∃v,e=.returned v/\w'.ownsRow w.heap.size 3 1 v (eV rs).length (ints (eV rs))/\Ext w w':=by
 obtain⟨ti,hi,qo,qy,qz⟩:=info_parts Tryz.info3;have HB:=Hx hb;have HR:=Hx hr;have HM:=Hx hm;have HS:=Hx hs;have qp:=hb.lt;clear hb hr hm hs;go_enter func139,ntmps139;go_wp2;go_loopg [3,5,11] m (fun j st _ it wr=>∃(k:Nat),m-k=j/\k<=m/\it=vI (k:Int)/\st=vI (eU (rs.take k):Nat)/\w=wr);exact⟨0,rfl,yZ _,rfl,rfl,rfl⟩;obtain⟨k,rfl,hk,rfl,rfl,rfl⟩:=hrel;by_cases qn:k<m;{obtain⟨r,hr⟩:∃r,rs[k]?=some r:=⟨_,yG (by rw[HM.o];exact qn)⟩;have qh:=jzd9 hr;have h1:=jzea rs (k+1);have h2:=HS.o;have iN:(k:Int)<(m:Int):=qO;have c0:w.cell? (aD b k)=some (.s r.1 r.2.1.length r.2.2):=(by rw[HB.o.cell];simp[hr,wQ]);rw[qh]at h1;have qf:=Hx qh;generalize eU (rs.take k)=S at*;clear qh hr;go_wp2;go_roundg (m-(k+1));exact⟨k+1,rfl,qO,by go_num,by rw[qf.o];go_num,rfl⟩;omega};obtain rfl:k=m:=qO;have qm:¬(k:Int)<(k:Int):=qO;have qg:rs.take k=rs:=yU (by rw[HM.o];exact yX _);rw[qg];obtain⟨S,hS⟩:∃S,S=eU rs:=⟨_,rfl⟩;have qt:=Hx hS;have qw:=Hx qg;rw[<-hS];clear hS qg;go_wp2_with fail;refine(jzmm S _ (by rw[qt.o];have:=HS.o;omega)).mono ?_;rintro e w1 ⟨v1,rfl,o1,x1⟩;have O1:=Hx o1;have X1:=Hx x1;clear o1 x1;go_wp2;go_loopg [6,8,27] k (fun j ot _ it wx=>∃(i:Nat) (v:Value),k-i=j/\i<=k/\it=vI (i:Int)/\v=ot/\Hid (wx.ownsRow w.heap.size 3 1 v (eV (rs.take i)).length (ints (eV (rs.take i))))/\Hid (Ext w wx));exact⟨0,v1,rfl,yZ _,rfl,rfl,O1,X1⟩;obtain⟨i,v,rfl,qC,rfl,rfl,OI,XI⟩:=hrel;by_cases qx:i<k;{obtain⟨r,hr⟩:∃r,rs[i]?=some r:=⟨_,yG (by rw[HM.o];exact qx)⟩;have qf:=Hx (jzmn hr);have qi:(eV (rs.take i)).length+r.2.1.length<=1000000:=(by have h1:=jzea rs (i+1);have h2:=HS.o;have h3:=jzd9 hr;rw[jzmo];omega);have iN:(i:Int)<(k:Int):=qO;have c0:wr.cell? (aD b i)=some (.s r.1 r.2.1.length r.2.2):=(by rw[XI.o.cell (p:=(aD b i)) qp,HB.o.cell];simp[hr,wQ]);have qj:=(HR.o r (yJ hr)).K XI.o;obtain⟨A,x,c⟩:=r;simp only at qi c0 qj qf;have qk:=Hx qj;clear hr qj;(go_wp2_with (at_builtin;go_must (refine pK _ rfl (.tmp 31) (.tmp 32) 42 rfl w.heap.size 3 ti (vI 0) 8 underlying42 hi qo qy qz rfl v (eV (rs.take i)).length (ints (eV (rs.take i))) rfl ?c0 A x.length c (ints x) rfl ?c1 ?c2 ?c3 (mE _) ?c4 ?c5 ?c6 ?_)));(case c0=>exact OI.o);(case c1=>exact(cW _).symm);(case c2=>exact qk.o.rd);(case c3=>intro hA;by_cases hx:x.length=0;{exact .inr hx};exfalso;obtain⟨b9,o9,qH,qB,e9,_⟩:=qk.o (fun e=>hx (by have:=congrArg List.length e;simpa [ints]using this));rw[hA]at e9;cases e9);(case c4=>unfold maxLen;omega);(case c5=>omega);(case c6=>exact XI.o.size);intro v2 w2 qe qa _;have X2:Hid (Ext w w2):=Hx (Below.grown XI.o qa XI.o.size (fun q hq=>(OI.o.lt q hq).1));have O2:Hid (w2.ownsRow w.heap.size 3 1 v2 (eV (rs.take (i+1))).length (ints (eV (rs.take (i+1))))):=Hx (by rw[qf.o,jzeb,yQ];exact qe);clear qe qa;go_wp2;go_roundg (k-(i+1));exact⟨i+1,v2,rfl,qO,by go_num,rfl,O2,X2⟩;omega};obtain rfl:i=k:=qO;have qm:¬(i:Int)<(i:Int):=qO;have O3:=OI.o;rw[qw.o]at O3;have qA:=Hx O3;clear O3;go_wp2;go_ret;exact⟨v,rfl,qA.o,XI.o⟩
end Go.Proofs.YtfeeacaofjpkaaaGreatDoor
