/- Walks, part 6. -/
import Derived.Lib.AppendZerosOnto
import Derived.Deep.MidRow
import Derived.WalkMore
import Derived.Test.YtfeeacaofjpkaaaGreatDoorT05
set_option linter.defProp false set_option linter.unusedVariables false
set_option linter.unusedSimpArgs false
set_option maxRecDepth 100000
set_option maxHeartbeats 8000000
namespace Go.Proofs.YtfeeacaofjpkaaaGreatDoor
open Go.Proofs.Tryz
open Go.RowKit
structure bK where
 Bd:Int
 aj:List Int
 flow:Rat
def Ct(L2:Nat)(f:Rat):LQ->List Int->Option (LQ)
 |ld,[]=>some ld
 |ld,a::p9=>if 0<=a/\a<(L2:Int)then Ct L2 f (ld.set a.toNat (Sx.at_ ld a.toNat+f)) p9 else none
def Cy(L2:Nat):LQ->List bK->Option (LQ)
 |ld,[]=>some ld
 |ld,p::ps=>match Ct L2 p.flow ld p.aj with
  |none=>none
  |some ld'=>Cy L2 ld' ps
def bS(t:Tp)(ps:List bK):LQ×Int:=
 if aG t=true then match Cy (2*t.links.length) (List.replicate (2*t.links.length) 0) ps with
  |none=>([],2)
  |some ld=>(ld,0)
 else([],1)
section
variable {L2:Nat}
def jzv(f:Rat):∀(p9 bs:List Int) (ld:LQ),Ct L2 f ld (p9++bs)=(Ct L2 f ld p9).bind fun m=>Ct L2 f m bs
 | [],bs,ld=>rfl
 |a::p9,bs,ld=>by
  show(if 0<=a/\a<(L2:Int)then Ct L2 f (ld.set a.toNat (Sx.at_ ld a.toNat+f)) (p9++bs)else none)=(if 0<=a/\a<(L2:Int)then Ct L2 f (ld.set a.toNat (Sx.at_ ld a.toNat+f)) p9 else none).bind _
  split
  ·exact jzv f p9 bs _
  ·rfl
def jzw:∀(p9 bs:List bK) (ld:LQ),Cy L2 ld (p9++bs)=(Cy L2 ld p9).bind fun m=>Cy L2 m bs
 | [],bs,ld=>rfl
 |p::p9,bs,ld=>by
  show(match Ct L2 p.flow ld p.aj with|none=>none|some ld'=>Cy L2 ld' (p9++bs))=(match Ct L2 p.flow ld p.aj with|none=>none|some ld'=>Cy L2 ld' p9).bind _;cases Ct L2 p.flow ld p.aj with
  |none=>rfl
  |some m=>exact jzw p9 bs m
def sE(f:Rat):∀(p9:List Int) {ld ld':LQ},Ct L2 f ld p9=some ld'->ld'.length=ld.length
 | [],ld,ld',h=>by injection h with h;rw[h]
 |a::p9,ld,ld',h=>by
  have h:(if 0<=a/\a<(L2:Int)then Ct L2 f (ld.set a.toNat (Sx.at_ ld a.toNat+f)) p9 else none)=some ld':=h
  split at h
  ·rw[sE f p9 h,yV]
  ·cases h
def sF:∀(ps:List bK) {ld ld':LQ},Cy L2 ld ps=some ld'->ld'.length=ld.length
 | [],ld,ld',h=>by injection h with h;rw[h]
 |p::ps,ld,ld',h=>by
  have h:(match Ct L2 p.flow ld p.aj with|none=>none|some ld'=>Cy L2 ld' ps)=some ld':=h;cases h1:Ct L2 p.flow ld p.aj with
  |none=>rw[h1]at h;cases h
  |some m=>
   rw[h1]at h;rw[sF ps h,sE p.flow p.aj h1]
def sG{f:Rat}{P:Nat}(hf:dx f P):∀(p9:List Int) {k:Nat} {ld ld':LQ},(∀q∈ld,dx q k)->dx 0 k->Ct L2 f ld p9=some ld'->∀q∈ld',dx q (k+p9.length*(P+1))
 | [],k,ld,ld',hq,h0,h=>by injection h with h;subst h;intro q qa;exact(hq q qa).mono qS
 |a::p9,k,ld,ld',hq,h0,h=>by
  have h:(if 0<=a/\a<(L2:Int)then Ct L2 f (ld.set a.toNat (Sx.at_ ld a.toNat+f)) p9 else none)=some ld':=h
  split at h
  ·have h1:∀q∈ld.set a.toNat (Sx.at_ ld a.toNat+f),dx q (k+P+1):=fun q qa=>by
    rcases xE qa with h2|h2
    ·exact(hq q h2).mono qO
    ·rw[h2]
     refine dx.add ?_ hf;unfold Sx.at_;cases h3:ld[a.toNat]? with
     |none=>exact h0
     |some y=>exact hq y (yJ h3)
   intro q qa;have h4:=sG hf p9 h1 (h0.mono qO) h q qa;refine h4.mono ?_;rw[Dw,xP,xQ];omega
  ·cases h
def cD(ps:List bK):Nat:=(ps.map fun p=>p.aj.length).sum
def oK{P:Nat}:∀(ps:List bK) {k:Nat} {ld ld':LQ},(∀p∈ps,dx p.flow P)->(∀q∈ld,dx q k)->dx 0 k->Cy L2 ld ps=some ld'->∀q∈ld',dx q (k+cD ps*(P+1))
 | [],k,ld,ld',_,hq,h0,h=>by injection h with h;subst h;intro q qa;exact(hq q qa).mono (by simp[cD])
 |p::ps,k,ld,ld',hp,hq,h0,h=>by
  have h:(match Ct L2 p.flow ld p.aj with|none=>none|some ld'=>Cy L2 ld' ps)=some ld':=h;cases h1:Ct L2 p.flow ld p.aj with
  |none=>rw[h1]at h;cases h
  |some m=>
   rw[h1]at h;have h2:=sG (hp p qS) p.aj hq h0 h1;intro q qa;refine(oK ps (fun p' hp'=>hp p' (xO _ hp')) h2 (h0.mono qO) h q qa).mono ?_;have:cD (p::ps)=p.aj.length+cD ps:=(by simp[cD]);rw[this,xP];omega
def jzfo{f:Rat}{p9:List Int}{ld lc:LQ}{k:Nat}{a:Int}(h:Ct L2 f ld (p9.take k)=some lc)(ha:p9[k]?=some a)(hin:0<=a/\a<(L2:Int)):Ct L2 f ld (p9.take (k+1))=some (lc.set a.toNat (Sx.at_ lc a.toNat+f)):=by
 rw[Dj,ha,jzv,h];show(if 0<=a/\a<(L2:Int)then _ else none)=_;rw[qE hin];rfl
def jzfp{f:Rat}{p9:List Int}{ld lc:LQ}{k:Nat}{a:Int}(h:Ct L2 f ld (p9.take k)=some lc)(ha:p9[k]?=some a)(hin:¬(0<=a/\a<(L2:Int))):Ct L2 f ld p9=none:=by
 have hk:=(yH.1 ha);have e:p9=p9.take k++a::p9.drop (k+1):=(by obtain⟨h1,h2⟩:=hk;rw[<-h2,List.getElem_cons_drop,KH]);rw[e,jzv,h];show(if 0<=a/\a<(L2:Int)then _ else none)=_;rw[qF hin]
def jzfq{ps:List bK}{ld lc l0:LQ}{n:Nat}{p:bK}(h:Cy L2 l0 (ps.take n)=some ld)(hp:ps[n]?=some p)(hl:Ct L2 p.flow ld p.aj=some lc):Cy L2 l0 (ps.take (n+1))=some lc:=by
 rw[Dj,hp,jzw,h];show(match Ct L2 p.flow ld p.aj with|none=>none|some ld'=>Cy L2 ld' [])=some lc;rw[hl];rfl
def jzfr{ps:List bK}{ld l0:LQ}{n:Nat}{p:bK}(h:Cy L2 l0 (ps.take n)=some ld)(hp:ps[n]?=some p)(hl:Ct L2 p.flow ld p.aj=none):Cy L2 l0 ps=none:=by
 have e:ps=ps.take n++p::ps.drop (n+1):=(by obtain⟨h1,h2⟩:=yH.1 hp;rw[<-h2,List.getElem_cons_drop,KH]);rw[e,jzw,h];show(match Ct L2 p.flow ld p.aj with|none=>none|some ld'=>Cy L2 ld' (ps.drop (n+1)))=none;rw[hl]
def jzfs{ps:List bK}{p:bK}(h:p∈ps):p.aj.length<=cD ps:=by
 (induction ps with|nil=>cases h|cons q ps ih=>(have e:cD (q::ps)=q.aj.length+cD ps:=(by simp[cD]);rcases xZ.1 h with rfl|h);{omega};have:=ih h;omega)
def jzft(ps:List bK)(n:Nat):cD (ps.take n)<=cD ps:=by
 (induction ps generalizing n with|nil=>simp[cD]|cons p ps ih=>(cases n with|zero=>simp[cD]|succ n=>have:=ih n;simp[cD]at this⊢;exact this))
end
def PzC(w:World)(cs:List Value)(p:bK):Prop:=
 ∃(A:OA) (c:Nat) (neg:Bool) (A1:OA) (n1 c1:Nat) (A2:OA) (n2 c2:Nat),cs=[vI p.Bd,.s A p.aj.length c,.bool neg,.s A1 n1 c1,.s A2 n2 c2]/\p.aj.length<=c/\Rd w A (dZ p.aj)/\aC w neg A1 n1 c1 A2 n2 c2 p.flow
def PzC.K{w w'}{cs:List Value}{p:bK}(h:PzC w cs p)(hx:Ext w w'):PzC w' cs p:=by
 obtain⟨A,c,neg,A1,n1,c1,A2,n2,c2,h1,h2,h3,h4⟩:=h;exact⟨A,c,neg,A1,n1,c1,A2,n2,c2,h1,h2,h3.K hx,h4.K hx⟩
def Jw{α:Type}(R:World->List Value->α->Prop)(s:Nat)(w:World)(A:OA)(l:List α):Prop:=
 ∃css:List (List Value),css.length=l.length/\(∀cs∈css,cs.length=s)/\Rd w A css.flatten/\∀(i:Nat) (x:α),l[i]?=some x->∃cs,css[i]?=some cs/\R w cs x
section
variable {α:Type} {R:World->List Value->α->Prop} {s:Nat} {w w':World} {A:Option Addr} {l:List α}
def Jw.K(h:Jw R s w A l)(hx:Ext w w')(hR:∀cs x,R w cs x->R w' cs x):Jw R s w' A l:=by
 obtain⟨css,h1,h2,h3,h4⟩:=h;refine⟨css,h1,h2,h3.K hx,fun i x hi=>?_⟩;obtain⟨cs,k1,k2⟩:=h4 i x hi;exact⟨cs,k1,hR cs x k2⟩
def Jw.at_(h:Jw R s w A l)(hs:0<s){i:Nat}{x:α}(hi:l[i]?=some x):∃(b o:Nat) (cs:List Value),A=some (aD b o)/\b<w.heap.size/\cs.length=s/\(∀k,k<s->w.cell? (aD b (o+(i*s+k)))=cs[k]?)/\R w cs x:=by
 have qf:=(yH.1 hi).1;obtain⟨css,h1,h2,h3,h4⟩:=h;obtain⟨cs,k1,k2⟩:=h4 i x hi;have qa:=fR css h2;have hb:∀k,k<s->i*s+k<css.flatten.length:=fun k hk=>(by rw[qa,h1];have:(i+1)*s<=l.length*s:=xS s qf;rw[xP,xQ]at this;omega);obtain⟨b,o,e,qe,hc⟩:=h3.at_ (hb 0 hs);refine⟨b,o,cs,e,qe,h2 cs (yJ k1),fun k hk=>?_,k2⟩;rw[hc _ (hb k hk),dV css h2 i k qO hk,k1];rfl
end
abbrev Jm(w:World)(A:OA)(ps:List bK):Prop:=Jw PzC 5 w A ps
def Jm.at5{w}{A}{ps:List bK}(h:Jm w A ps){i:Nat}{p:bK}(hi:ps[i]?=some p):∃(b o:Nat) (AA:OA) (c:Nat) (neg:Bool) (A1:OA) (n1 c1:Nat) (A2:OA) (n2 c2:Nat),A=some (aD b o)/\b<w.heap.size/\
  (w.C b (o+i*5) (vI p.Bd)/\w.C b (o+i*5+1) (.s AA p.aj.length c)/\w.C b (o+i*5+2) (.bool neg)/\w.C b (o+i*5+3) (.s A1 n1 c1)/\w.C b (o+i*5+4) (.s A2 n2 c2))/\
  p.aj.length<=c/\Rd w AA (dZ p.aj)/\aC w neg A1 n1 c1 A2 n2 c2 p.flow:=by
 obtain⟨b,o,cs,e,hb,_,hc,AA,c,neg,A1,n1,c1,A2,n2,c2,rfl,h2,h3,h4⟩:=h.at_ qD hi;exact⟨b,o,AA,c,neg,A1,n1,c1,A2,n2,c2,e,hb,⟨hc 0 qD,hc 1 qD,hc 2 qD,hc 3 qD,hc 4 qD⟩,h2,h3,h4⟩
def jzfu t AO(co:Nat)AL(cl:Nat)(a:Int)w(ht:aR w t AO co AL cl):
  Calls prog 114 #[.agg #[vI t.nodes,.s AO t.over.length co,.s AL t.links.length cl],vI a] w fun e w'=>e=.returned (.bool (decide (0<=a/\a<((2*t.links.length:Nat):Int))))/\Ext w w':=by
 have HT:=Hx ht;clear ht;obtain⟨qe,e0⟩:=aU w #[vI t.nodes,.s AO t.over.length co,.s AL t.links.length cl] 25;obtain⟨⟨i0,i1,i2⟩,_⟩:=qe.t3;have E0:=Hx e0;have hd:decide (0<=a/\a<((2*t.links.length:Nat):Int))=(decide (0<=a)&&decide (a<2*(t.links.length:Int))):=qS;have HD:=Hx hd;clear hd qe e0;by_cases h1:0<=a;{(have qa:decide (0<=a)=true:=by simpa using h1);have HR:=Hx (show decide (0<=a/\a<((2*t.links.length:Nat):Int))=decide (a<2*(t.links.length:Int)) by rw[HD.o,qa];rfl);go_enter func114,ntmps114;go_wp2_with fail;refine(fQ t AO co AL cl _ (HT.o.K E0.o)).r fun w1 qf=>?_;have E1:=Hx (E0.o.tr qf);clear qf i0 i1 i2;go_wp2;go_ret;rw[HR.o];exact⟨rfl,E1.o⟩};have qa:decide (0<=a)=false:=(by simpa using h1);go_enter func114,ntmps114;go_wp2;go_ret;exact⟨rfl,E0.o⟩
def sH(w:World)(r:LQ×Int)(e:Ending)(w':World):Prop:=∃(A:OA),e=.returned (.tuple #[.s A r.1.length r.1.length,vI r.2])/\QL w' A r.1/\Ext w w'
def QL.nil w A:QL w A []:=⟨[],rfl,(fun _ h=>by cases h),Rd.nil _ _,fun i q h=>by simp at h⟩
def jzfv t AO(co:Nat)AL(cl:Nat)(Ps:List bK)PA(np cp P:Nat)(hnp:Ps.length=np)w(ht:aR w t AO co AL cl)(hp:Jm w PA Ps)(hnl:np<=1000000)(qx:∀p∈Ps,dx p.flow P)(hP1:1<=P)(qz:∀p∈Ps,p.aj.length<=1000000)(hK:1+cD Ps*(P+1)<=50000000)(hPb:P<=100000000):
  Calls prog 52 #[.agg #[vI t.nodes,.s AO t.over.length co,.s AL t.links.length cl],.s PA np cp] w (sH w (bS t Ps)):=by
 have HT:=Hx (ah ht (ah hp (ah qx qz)));obtain⟨qk,e0⟩:=aU w #[vI t.nodes,.s AO t.over.length co,.s AL t.links.length cl] 25;obtain⟨⟨i0,i1,i2⟩,_⟩:=qk.t3;have E0:=Hx (ah qk e0);have q3:=ht.ll;have vc:=ht.cl;clear ht hp qx qz qk e0;go_enter func52,ntmps52;go_wp2_with fail;refine(pJ t AO co AL cl _ (HT.o.1.K E0.o.2)).r fun w1 qm=>?_;have E1:=Hx (ah (E0.o.1.K qm) (E0.o.2.tr qm));clear qm i0 i1 i2;obtain⟨⟨i0,i1,i2⟩,_⟩:=E1.o.1.t3;cases hv:aG t;{have HR:=Hx (show bS t Ps=([],1) by unfold bS;rw[hv];rfl);go_wp2;rw[HR.o];exact bodyPost_ret (v:=.tuple #[zN,vI 1]) (by simp[results,results52,go_sem]) rfl ⟨none,rfl,QL.nil _ _,E1.o.2⟩};have qM:t.links.length<=256:=(by unfold aG cF at hv;simp at hv;exact hv.1.1.2)
 have HR:=Hx (show bS t Ps=match Cy (2*t.links.length) (List.replicate (2*t.links.length) 0) Ps with
  |none=>([],2)
  |some ld=>(ld,0) by unfold bS;rw[hv];rfl)
 have qQ:=mP (2*t.links.length) qO;rw[show((2*t.links.length:Nat):Int)=2*(t.links.length:Int) by omega]at qQ;go_wp2_with fail
 refine(fQ t AO co AL cl _ (HT.o.1.K E1.o.2)).r fun w2 qi=>?_;have E2:=Hx (ah (E1.o.1.K qi) (E1.o.2.tr qi));clear qi i0 i1 i2;have Q2:Hid (QB (w2.alloc (.cells (madeCells rV (2*t.links.length*3)) 33)) w2.heap.size (List.replicate (2*t.links.length) 0)):=Hx (QB.made w2 (2*t.links.length));have X2:=Hx (show ak (w2.alloc (.cells (madeCells rV (2*t.links.length*3)) 33)) w.heap.size 25 #[vI t.nodes,.s AO t.over.length co,.s AL t.links.length cl]/\Ext w (w2.alloc (.cells (madeCells rV (2*t.links.length*3)) 33))from
  ⟨E2.o.1.K ((eR w2).alloc _),E2.o.2.alloc _⟩)
 have q8:w.heap.size<w2.heap.size:=E2.o.1.lt;(go_upto_region 4 with fail);generalize w2.alloc (.cells (madeCells rV (2*t.links.length*3)) 33)=W3 at*;generalize w2.heap.size=g at*;clear qQ;have I0:Hid (QB W3 g (List.replicate (2*t.links.length) 0)/\fu (fun b=>b=g) W3 W3):=Hx (⟨Q2.o,fu.refl _ _⟩);have q6:g<W3.heap.size:=Q2.o.lt;have qU:Hid (∀(k:Nat) (ld:LQ),Cy (2*t.links.length) (List.replicate (2*t.links.length) 0) (Ps.take k)=some ld->∀q∈ld,dx q (1+cD Ps*(P+1))):=Hx (fun k ld h q hq=>by have h1:=oK (P:=P) (Ps.take k) (k:=1) (ld:=List.replicate (2*t.links.length) 0) (fun p hp=>HT.o.2.2.1 p (xM hp)) (fun q hq=>by rw[uF hq];exact dx.zero) dx.zero h q hq;refine h1.mono ?_;have h2:=xS (P+1) (jzft Ps k);omega);go_wp2;go_loopg [8,19] np (fun q _ it wx=>∃(n:Nat) (ld:LQ),np-n=q/\n<=np/\it=vI (n:Int)/\Cy (2*t.links.length) (List.replicate (2*t.links.length) 0) (Ps.take n)=some ld/\Hid (QB wx g ld/\fu (fun b=>b=g) W3 wx));exact⟨0,_,rfl,yZ _,rfl,rfl,I0⟩;obtain⟨n,ld,rfl,hn,rfl,qj,I⟩:=hrel;have qh:=Hx qj;have qe:ld.length=2*t.links.length:=(by rw[sF _ qj,xC]);have XW:Hid (Ext w wr):=Hx (I.o.2.ext X2.o.2 fun b hb=>qO);have q5:g<wr.heap.size:=I.o.1.lt;clear qj;by_cases qT:n<np
 ·obtain⟨p,hp⟩:∃p,Ps[n]?=some p:=⟨_,yG qO⟩;obtain⟨b,o,AA,ca,neg,A1,n1,c1,A2,n2,c2,rfl,hb,⟨a0,a1,a2,a3,a4⟩,q2,qt,qw⟩:=Jm.at5 HT.o.2.1 hp;have a0:=aA XW.o a0;have a1:=aA XW.o a1;have a2:=aA XW.o a2;have a3:=aA XW.o a3;have a4:=aA XW.o a4;have hb:b<wr.heap.size:=yL hb XW.o.size;have HP:=Hx hp;have va:p.aj.length<=1000000:=HT.o.2.2.2 p (yJ hp);have nN:(n:Int)<(np:Int):=qO;have n0:(0:Int)<=(n:Int):=qO;have RA:=Hx (ah qt qw);have X8:Hid (Ext wr (wr.alloc (.cells #[vI p.Bd,.s AA p.aj.length ca,.bool neg,.s A1 n1 c1,.s A2 n2 c2] 98))):=Hx ((eR wr).alloc _);have B8:=Hx (eN wr 98 #[vI p.Bd,.s AA p.aj.length ca,.bool neg,.s A1 n1 c1,.s A2 n2 c2]);clear hp qt qw;(go_upto_region 7 with fail);clear a0 a1 a2 a3 a4;generalize wr.alloc (.cells #[vI p.Bd,.s AA p.aj.length ca,.bool neg,.s A1 n1 c1,.s A2 n2 c2] 98)=W8 at*;generalize hbd:wr.heap.size=bd at*;have qZ:Hid (Ext w W8):=Hx (XW.o.tr X8.o);have qY:Hid (fu (fun b=>b=g) W3 W8):=Hx (I.o.2.tr (eE (S:=fun b=>b=g) X8.o) fun b hb=>.inl hb);have qX:=Hx ((I.o.2.blk X2.o.1 qO).K X8.o);have b1:W8.cell? (aD bd 1)=some (.s AA p.aj.length ca):=B8.o.cell 1;have J0:Hid (QB W8 g ld/\fu (fun b=>b=g) W8 W8):=Hx (⟨I.o.1.K X8.o,fu.refl _ _⟩);go_wp2;clear b1;go_loopg [10,26] p.aj.length (fun q _ it wx=>∃(k:Nat) (lc:LQ),p.aj.length-k=q/\k<=p.aj.length/\it=vI (k:Int)/\Ct (2*t.links.length) p.flow ld (p.aj.take k)=some lc/\Hid (QB wx g lc/\fu (fun b=>b=g) W8 wx));exact⟨0,ld,rfl,yZ _,rfl,rfl,J0⟩;obtain⟨k,lc,rfl,hk,rfl,qn,J⟩:=hrel;clear I;have XR:Hid (Ext w wr):=Hx (J.o.2.ext qZ.o fun b hb=>qO);have qf:=Hx qn;have q0:lc.length=2*t.links.length:=(by rw[sE _ _ qn];exact qe);clear qn;by_cases qW:k<p.aj.length
  ·obtain⟨a,ha⟩:∃a,p.aj[k]?=some a:=⟨_,yG qW⟩;obtain⟨b9,o9,rfl,q7,ca⟩:=(RA.o.1.K XR.o).Lh ha;have qI:=Hx ha;have kN:(k:Int)<(p.aj.length:Int):=qO;have k0:(0:Int)<=(k:Int):=qO;obtain⟨⟨i0,i1,i2⟩,_⟩:=(J.o.2.blk qX.o qO).t3;clear ha;go_wp2_with fail;refine(jzfu t AO co AL cl a _ (HT.o.1.K XR.o)).r fun w4 x4=>?_;by_cases qg:0<=a/\a<((2*t.links.length:Nat):Int)
   ·rw[yO qg];obtain⟨a',rfl⟩:=Il qg.1;have qV:a'<2*t.links.length:=qO;have aN:(a':Int)<2*(t.links.length:Int):=qO;have a0:(0:Int)<=(a':Int):=qO;have LA:=Hx (jzfo qf.o qI.o qg);rw[xL]at LA;have Q4:=Hx (J.o.1.K x4);have F4:Hid (fu (fun b=>b=g) W8 w4):=Hx (J.o.2.tr (eE (S:=fun b=>b=g) x4) fun b hb=>.inl hb);obtain⟨ny,Y1,my,fy,qA,qH,qy,⟨s0,s1,s2⟩,_,hy⟩:=Q4.o.at_ (aZ (show a'<lc.length by omega));have B4:=Hx (F4.o.blk B8.o qO);have q1:p.aj.length<=cD Ps:=jzfs (yJ HP.o);have qB:dx (Sx.at_ lc a') 100000000:=(by have h1:=sG (HT.o.2.2.1 p (yJ HP.o)) (p.aj.take k) (qU.o n ld qh.o) (dx.zero.mono qO) qf.o _ (yJ (aZ (show a'<lc.length by omega)));refine h1.mono ?_;have h2:(p.aj.take k).length*(P+1)<=cD Ps*(P+1):=xS _ (by rw[xF];omega);omega)
    obtain⟨l1,q4⟩:=hy.lens qB;obtain⟨l2,q9⟩:=RA.o.2.lens (HT.o.2.2.1 p (yJ HP.o));have RF:=Hx (ah hy (RA.o.2.K (XR.o.tr x4)));have qa:=Hx (show∀wx,Ext w4 wx->(wx.C g (a'*3) (.bool ny)/\wx.C g (a'*3+1) (.s Y1 my fy)/\wx.C g (a'*3+2) (.s qA qH qy))/\(wx.C bd 2 (.bool neg)/\wx.C bd 3 (.s A1 n1 c1)/\wx.C bd 4 (.s A2 n2 c2))from fun wx hx=>
     ⟨⟨aA hx s0,aA hx s1,aA hx s2⟩,(B4.o.K hx).cell 2,(B4.o.K hx).cell 3,(B4.o.K hx).cell 4⟩)
    have XD:Hid (Ext w4 w4.drew):=Hx ((eR w4).drewN 1);have eu:=Hx (qa.o _ XD.o);clear hy s0 s1 s2 i0 i1 i2 ca qB;(go_upto_region 12 with fail);(refine wX qa 10 ?_;refine wP 0 ?_;try simp only[qN]);refine wP 1 ?_;refine wP 2 ?_;refine wP 3 ?_;refine wP 4 ?_;refine wV 5 ?_;(refine wP 6 ?_;try simp only[qN]);refine wV 7 ?_;try simp only[qN]
    refine wC 8 rfl (fun KK hK=>?_);go_simp;refine(lG ny neg Y1 my fy qA qH qy A1 n1 c1 A2 n2 c2 (Sx.at_ lc a') p.flow _ (RF.o.1.K XD.o) (RF.o.2.K XD.o) qO qO qO qO (iX (Hq (Gv _) (Gv _)))).mono ?_;rintro e w5 ⟨n5,A5,l5,c5,qp,qJ,qC,rfl,h5,x5⟩;have E5:=Hx (XD.o.tr x5);have eu:=Hx (qa.o _ E5.o);have Q5:=Hx (Q4.o.K E5.o);have QP:=Hx (show QB (((w5.setCell (aD g (a'*3)) (.bool n5)).setCell (aD g (a'*3+1)) (.s A5 l5 c5)).setCell (aD g (a'*3+2)) (.s qp qJ qC)) g (lc.set a' (Sx.at_ lc a'+p.flow))/\fu (fun b=>b=g) W8 (((w5.setCell (aD g (a'*3)) (.bool n5)).setCell (aD g (a'*3+1)) (.s A5 l5 c5)).setCell (aD g (a'*3+2)) (.s qp qJ qC))from
     ⟨Q5.o.put qO h5,(F4.o.tr (eE (S:=fun b=>b=g) E5.o) fun b hb=>.inl hb).tr (eG (S:=fun b=>b=g) (dC w5 g (a'*3) _ _ _) fun g e=>by injection e with e;exact e.symm) fun b hb=>.inl hb⟩)
    (obtain⟨_,_,_,_,_,_,_,_,⟨z0,z1,z2⟩,_⟩:=Q5.o.at_ (aZ (show a'<lc.length by omega));refine hK.o _ _ eu.o ?_;clear hK KK x5 h5;try simp only[qN]);(refine wP 9 ?_;try simp only[qN]);obtain⟨⟨t0,t1,t2⟩,_⟩:=eu.o;refine bE qK rfl qR (fun KK hK=>?_);go_simp;refine hK.o _ _ ?_;clear hK KK;refine wpAny_done qK ?_ _;clear t0 t1 t2 z0 z1 z2 qa J;go_wp2;go_roundg (p.aj.length-(k+1));exact⟨k+1,_,rfl,qO,by go_num,LA.o,QP⟩;omega
   rw[yP qg];have qo:Hid (sH w (bS t Ps) (.returned (.tuple #[zN,vI 2])) w4):=Hx (by rw[HR.o,jzfr qh.o HP.o (jzfp qf.o qI.o qg)];exact⟨none,rfl,QL.nil _ _,XR.o.tr x4⟩);go_wp2;exact bodyPost_ret (v:=.tuple #[zN,vI 2]) (by simp[results,results52,go_sem]) rfl qo.o
  obtain rfl:k=p.aj.length:=qO;rw[yU (yX _)]at qf;have NX:=Hx (jzfq qh.o HP.o qf.o);have I9:Hid (QB wr g lc/\fu (fun b=>b=g) W3 wr):=Hx (⟨J.o.1,qY.o.tr J.o.2 fun b hb=>.inl hb⟩);clear J;go_wp2;go_roundg (np-(n+1));exact⟨n+1,lc,rfl,qO,by go_num,NX.o,I9⟩;omega
 obtain rfl:n=np:=qO;have qo:Hid (sH w (bS t Ps) (.returned (.tuple #[.s (sA g) (2*t.links.length) (2*t.links.length),vI 0])) wr):=Hx (by have h1:=qh.o;rw[yU qO]at h1;rw[HR.o,h1];refine⟨(sA g),by simp only[qe],I.o.1.ql,XW.o⟩);go_wp2;exact bodyPost_ret (v:=.tuple #[.s (sA g) (2*t.links.length) (2*t.links.length),vI 0]) (by simp[results,results52,go_sem]) rfl qo.o
end Go.Proofs.YtfeeacaofjpkaaaGreatDoor
namespace Go.Proofs.YtfeeacaofjpkaaaGreatDoor.Sx
open Go.Proofs.Tryz
def mo(d:Nat)(s:Rat×List ((Nat×LN)×Rat))(z:(Nat×LN)×Rat):Rat×List ((Nat×LN)×Rat):=
 if z.1.1=d then(s.1-(if s.1<z.2 then s.1 else z.2),if 0<(if s.1<z.2 then s.1 else z.2)then s.2++[(z.1,if s.1<z.2 then s.1 else z.2)]else s.2)else s
def C9(d:Nat):∀(Zs:List ((Nat×LN)×Rat)) (r:Rat) (out:List ((Nat×LN)×Rat)),(Zs.foldl (mo d) (r,out)).2=out++cut d r Zs
 | [],r,out=>by simp[cut]
 |z::Zs,r,out=>by
  show(Zs.foldl (mo d) (mo d (r,out) z)).2=_;rw[show Zs.foldl (mo d) (mo d (r,out) z)=Zs.foldl (mo d) ((mo d (r,out) z).1,(mo d (r,out) z).2)from rfl,C9 d Zs];show _=out++(if z.1.1=d then(if 0<(if r<z.2 then r else z.2)then [(z.1,if r<z.2 then r else z.2)]else [])++cut d (r-(if r<z.2 then r else z.2)) Zs else cut d r Zs);by_cases h:z.1.1=d
  ·have e:mo d (r,out) z=(r-(if r<z.2 then r else z.2),if 0<(if r<z.2 then r else z.2)then out++[(z.1,if r<z.2 then r else z.2)]else out):=qE h
   rw[e,qE h];simp only[];by_cases h2:0<(if r<z.2 then r else z.2)
   ·rw[qE h2,qE h2,List.append_assoc]
   ·rw[qF h2,qF h2];rfl
  ·have e:mo d (r,out) z=(r,out):=qF h
   rw[e,qF h]
def Cn(d:Nat)(Dn:Int)(r0:Rat):∀(Zs:List ((Nat×LN)×Rat)) (r:Rat) (out:List ((Nat×LN)×Rat)),(∀z∈Zs,0<=z.2/\sj (z.2*(Dn:Rat)))->0<=r->r<=r0->sj (r*(Dn:Rat))->
  0<=(Zs.foldl (mo d) (r,out)).1/\(Zs.foldl (mo d) (r,out)).1<=r0/\sj ((Zs.foldl (mo d) (r,out)).1*(Dn:Rat))
 | [],r,out,_,h1,h2,h3=>⟨h1,h2,h3⟩
 |z::Zs,r,out,hz,h1,h2,h3=>by
  show 0<=(Zs.foldl (mo d) (mo d (r,out) z)).1/\(Zs.foldl (mo d) (mo d (r,out) z)).1<=r0/\sj ((Zs.foldl (mo d) (mo d (r,out) z)).1*(Dn:Rat));obtain⟨k1,k2⟩:=hz z qS;by_cases h:z.1.1=d
  ·have e:mo d (r,out) z=(r-(if r<z.2 then r else z.2),if 0<(if r<z.2 then r else z.2)then out++[(z.1,if r<z.2 then r else z.2)]else out):=qE h
   rw[e];refine Cn d Dn r0 Zs _ _ (fun y hy=>hz y (xO _ hy)) ?_ ?_ ?_
   ·split <;> grind
   ·split <;> grind
   ·obtain⟨a,ha⟩:=h3
    obtain⟨b,hb⟩:=k2
    split
    ·exact⟨0,qG⟩
    ·exact⟨a-b,by rw[Rat.intCast_sub];grind⟩
  ·have e:mo d (r,out) z=(r,out):=qF h
   rw[e];exact Cn d Dn r0 Zs r out (fun y hy=>hz y (xO _ hy)) h1 h2 h3
end Go.Proofs.YtfeeacaofjpkaaaGreatDoor.Sx
namespace Go.Proofs.YtfeeacaofjpkaaaGreatDoor
open Go.Proofs.Tryz
open Go.RowKit
def jzn5{q:Rat}{D:Int}(h:Sx.sj (q*(D:Rat))):Sx.sj (q*((D.natAbs:Int):Rat)):=by
 obtain⟨n,hn⟩:=h;rcases Int.natAbs_eq D with e|e
 ·exact⟨n,by rw[<-e];exact hn⟩
 refine⟨-n,?_⟩;have e2:((D.natAbs:Int):Rat)= -(D:Rat):=(by rw[<-Rat.intCast_neg];congr 1;omega);rw[e2,Rat.intCast_neg, <-hn];grind
def jzn6{v:Rat}(h:0<=v):v<=((v.num.natAbs:Int):Rat):=by
 have h1:0<=v.num:=Rat.num_nonneg.2 h;have h2:((v.num.natAbs:Int))=v.num:=qO;rw[h2];have h4:v*((v.den:Int):Rat)=(v.num:Rat):=(by have h:=Rat.num_divInt_den v;rw[Rat.divInt_eq_div]at h;have hd:((v.den:Int):Rat)≠0:=fun e=>v.den_nz (by have:=Rat.intCast_inj.1 (e.trans Rat.intCast_zero.symm);omega);rw[Rat.div_def]at h;have h9:(v.num:Rat)*((v.den:Int):Rat)⁻¹*((v.den:Int):Rat)=v*((v.den:Int):Rat):=(by rw[h]);rw[Rat.mul_assoc,Rat.inv_mul_cancel _ hd,Rat.mul_one]at h9;exact h9.symm);have h5:(1:Rat)<=((v.den:Int):Rat):=(by (have:(1:Int)<=(v.den:Int):=by have:=v.den_pos;omega);exact_mod_cast (Hr.2 this));rw[<-h4];have h6:=yT h5 h;rw[Rat.mul_one]at h6;exact h6
def jzn7:1<=ZB:=by unfold ZB;decide
def jzn8{r v am:Rat}{Dn:Int}(C:Nat)(hD:Dn≠0)(hDs:Dn.natAbs<=C)(hv:Sx.Kk v ZB)(hv0:0<=v)(FQ:am<=((1048576:Int):Rat))(Lj:0<=am)(h0:0<=r)(h1:r<=v*am)(hI:Sx.sj (r*(Dn:Rat))):Sx.Kk r (ZB*1048576*C):=by
 obtain⟨N,hN⟩:=jzn5 hI;have qa:(0:Rat)<=((Dn.natAbs:Int):Rat):=Rat.intCast_nonneg.2 qO;have qe:0<=(N:Rat):=(by rw[<-hN];exact vA h0 qa);have qf:0<=N:=Rat.intCast_nonneg.1 qe;have k1:v<=((ZB:Int):Rat):=Dv (jzn6 hv0) (Hr.2 (by have:=hv.1;omega));have k2:v*am<=((ZB:Int):Rat)*((1048576:Int):Rat):=(by have a1:=Ke k1 Lj;have a2:=yT FQ (Rat.intCast_nonneg.2 (show(0:Int)<=(ZB:Int) by omega));exact Dv a1 a2);have k3:(N:Rat)<=((ZB:Int):Rat)*((1048576:Int):Rat)*((C:Int):Rat):=(by rw[<-hN];have a1:=Ke (Dv h1 k2) qa;have a2:((Dn.natAbs:Int):Rat)<=((C:Int):Rat):=Hr.2 qO;have a3:=yT a2 (show(0:Rat)<=((ZB:Int):Rat)*((1048576:Int):Rat)from vA (Rat.intCast_nonneg.2 qO) (Rat.intCast_nonneg.2 qO));exact Dv a1 a3);rw[<-Jp, <-Jp]at k3;have k4:N<=(ZB:Int)*1048576*(C:Int):=Hr.1 k3;have k5:((ZB*1048576*C:Nat):Int)=(ZB:Int)*1048576*(C:Int):=(by rw[Ii,Ii];rfl);have k6:C<=ZB*1048576*C:=Nat.le_mul_of_pos_left C (Nat.mul_pos jzn7 qD);have k7:N.natAbs<=ZB*1048576*C:=qO;exact Sx.Ep (D:=(Dn.natAbs:Int)) (N:=N) qO hN (by rw[Int.natAbs_natCast];exact yY hDs k6) k7
def jzfw{r v am:Rat}{Dn:Int}(hD:Dn≠0)(hDs:Dn.natAbs<=33554432^24)(hv:Sx.Kk v ZB)(hv0:0<=v)(FQ:am<=((1048576:Int):Rat))(Lj:0<=am)(h0:0<=r)(h1:r<=v*am)(hI:Sx.sj (r*(Dn:Rat))):dx r 41:=by
 have hz:=jzn8 _ hD hDs hv hv0 FQ Lj h0 h1 hI;have hb:ZB*1048576*33554432^24<dh^41:=(by unfold ZB dh;decide);exact⟨Im hz.1 hb,Im hz.2 hb⟩
def Ah(z:(Nat×LN)×Rat):bK:=⟨(z.1.1:Int),z.1.2.map fun a:Nat=>(a:Int),z.2⟩
def Iq(w:World)(cs:List Value)(z:(Nat×LN)×Rat):Prop:=
 ∃(A:OA) (c:Nat) (neg:Bool) (A1:OA) (n1 c1:Nat) (A2:OA) (n2 c2:Nat),cs=[vI (z.1.1:Int),.s A z.1.2.length c,.bool neg,.s A1 n1 c1,.s A2 n2 c2]/\z.1.2.length<=c/\og w 3 A (ints z.1.2)/\aC w neg A1 n1 c1 A2 n2 c2 z.2
def Iq.K{w w'}{cs:List Value}{z:(Nat×LN)×Rat}(h:Iq w cs z)(hx:Ext w w'):Iq w' cs z:=by
 obtain⟨A,c,neg,A1,n1,c1,A2,n2,c2,h1,h2,h3,h4⟩:=h;exact⟨A,c,neg,A1,n1,c1,A2,n2,c2,h1,h2,h3.K hx,h4.K hx⟩
def Iq.fr{X:Nat->Prop}{w w'}{cs:List Value}{z:(Nat×LN)×Rat}(h:Iq w cs z)(k:fu X w w')(n1:oh X w 3)(n2:oh X w 196):Iq w' cs z:=by
 obtain⟨A,c,neg,A1,m1,c1,A2,m2,c2,h1,h2,h3,h4⟩:=h;exact⟨A,c,neg,A1,m1,c1,A2,m2,c2,h1,h2,k.Bz n1 h3,k.oz n2 h4⟩
def Iq.pzc{w}{cs:List Value}{z:(Nat×LN)×Rat}(h:Iq w cs z):PzC w cs (Ah z):=by
 obtain⟨A,c,neg,A1,m1,c1,A2,m2,c2,h1,h2,h3,h4⟩:=h;refine⟨A,c,neg,A1,m1,c1,A2,m2,c2,?_,?_,?_,h4⟩;{rw[h1];simp[Ah]};{simp[Ah];exact h2};show Rd w A (dZ (z.1.2.map fun a:Nat=>(a:Int)));rw[jzfl];exact h3.rd
def Ak.plr{w}{B c:Nat}{A}{Z:List ((Nat×LN)×Rat)}(h:Ak Iq 98 5 w B (.s A Z.length c) Z):Jm w A (Z.map Ah):=by
 (obtain⟨css,h1,h2,h3,h4⟩:=h;refine⟨css,by rw[h1,xV],h2,(kW h3).rd,fun i p hp=>?_⟩;rw[yW]at hp;cases hz:Z[i]? with|none=>rw[hz]at hp;cases hp|some z=>(rw[hz]at hp;injection hp with hp);subst hp;obtain⟨cs,k1,k2⟩:=h4 i z hz;exact⟨cs,k1,k2.pzc⟩)
def gS(w:World)(g:Nat)(v0 v1 v2 v3 v4:Value):w.grownBy (((((w.setCell (aD g 0) v0).setCell (aD g 1) v1).setCell (aD g 2) v2).setCell (aD g 3) v3).setCell (aD g 4) v4) (some g):=
 ((((aM w g 0 v0).trans (aM _ g 1 v1)).trans (aM _ g 2 v2)).trans (aM _ g 3 v3)).trans (aM _ g 4 v4)
def jzfx{w1 w6:World}{b gl m:Nat}{neg:Bool}{A1}{n1 d1:Nat}{A2}{n2 d2:Nat}{v:Rat}{qs:LQ}(hb:w1.heap.size<=b)(hB:ak w6 b 37 #[bF,zN,zN,zN,zN])(hR:aC w6 neg A1 n1 d1 A2 n2 d2 v)(hQ:QB w6 gl qs)(hE:Ext w1 w6):
  ak (((((w6.setCell (aD b 0) (.bool neg)).setCell (aD b 1) (.s A1 n1 d1)).setCell (aD b 2) (.s A2 n2 d2)).setCell (aD b 3) zN).setCell (aD b 4) (.s (sA gl) m m)) b 37 #[.bool neg,.s A1 n1 d1,.s A2 n2 d2,zN,.s (sA gl) m m]/\aC (((((w6.setCell (aD b 0) (.bool neg)).setCell (aD b 1) (.s A1 n1 d1)).setCell (aD b 2) (.s A2 n2 d2)).setCell (aD b 3) zN).setCell (aD b 4) (.s (sA gl) m m)) neg A1 n1 d1 A2 n2 d2 v/\QB (((((w6.setCell (aD b 0) (.bool neg)).setCell (aD b 1) (.s A1 n1 d1)).setCell (aD b 2) (.s A2 n2 d2)).setCell (aD b 3) zN).setCell (aD b 4) (.s (sA gl) m m)) gl qs/\w1.heap.size<=b/\Ext w1 (((((w6.setCell (aD b 0) (.bool neg)).setCell (aD b 1) (.s A1 n1 d1)).setCell (aD b 2) (.s A2 n2 d2)).setCell (aD b 3) zN).setCell (aD b 4) (.s (sA gl) m m)):=by
 have k5:fu (fun b'=>b'=b) w6 (((((w6.setCell (aD b 0) (.bool neg)).setCell (aD b 1) (.s A1 n1 d1)).setCell (aD b 2) (.s A2 n2 d2)).setCell (aD b 3) zN).setCell (aD b 4) (.s (sA gl) m m)):=eG (gS w6 b _ _ _ _ _) fun g e=>(by injection e with e;exact e.symm);have hn:oh (fun b'=>b'=b) w6 196:=oh.one hB qD;have s0:=hB.sT 0 (.bool neg);have s1:=s0.sT 1 (.s A1 n1 d1);have s2:=s1.sT 2 (.s A2 n2 d2);have s3:=s2.sT 3 zN;have s4:=s3.sT 4 (.s (sA gl) m m);refine⟨s4,k5.oz hn hR,hQ.fr k5 hn fun e=>?_,hb,k5.ext hE fun b' e=>by rw[e];exact hb⟩;obtain⟨cs,hq⟩:=hQ.blk;rw[e]at hq;exact absurd (bI hq hB).2 qD
def jzfy(w:World)(L2:Nat)(v:Rat)(Z:List ((Nat×LN)×Rat))(pr:LQ)(e:Ending)(w':World):Prop:=
 ∃(neg:Bool) (A1:OA) (n1 c1:Nat) (A2:OA) (n2 c2:Nat) (AP:OA) (cp gp:Nat),e=.returned (.agg #[.bool neg,.s A1 n1 c1,.s A2 n2 c2,.s AP Z.length cp,.s (sA gp) L2 L2])/\
  aC w' neg A1 n1 c1 A2 n2 c2 v/\Z.length<=cp/\(∃B,Ak Iq 98 5 w' B (.s AP Z.length cp) Z)/\(∃qs,QB w' gp qs/\qs.take L2=pr)/\Ext w w'
structure Gq(W4 wx:World)(bp gl m:Nat)(neg:Bool)(A1:OA)(n1 c1:Nat)(A2:OA)(n2 c2:Nat)(vQ:Value)(out:List ((Nat×LN)×Rat)):Prop where
 box:ak wx bp 37 #[.bool neg,.s A1 n1 c1,.s A2 n2 c2,vQ,.s (sA gl) m m]
 own:Ak Iq 98 5 wx W4.heap.size vQ out
 fr:fu (fun b=>b=bp) W4 wx
def Gq.K{W4 wx wy}{bp gl m:Nat}{neg:Bool}{A1}{n1 c1:Nat}{A2}{n2 c2:Nat}{vQ:Value}{out:List ((Nat×LN)×Rat)}(h:Gq W4 wx bp gl m neg A1 n1 c1 A2 n2 c2 vQ out)(hx:Ext wx wy):Gq W4 wy bp gl m neg A1 n1 c1 A2 n2 c2 vQ out:=
 ⟨h.box.K hx,h.own.K hx fun cs y hy=>hy.K hx,h.fr.tr (eE (S:=fun b=>b=bp) hx) fun b hb=>.inl hb⟩
def cU(am:Nat->Rat)(v:Rat)(Zs:List ((Nat×LN)×Rat))(n:Nat):List ((Nat×LN)×Rat):=(List.range n).flatMap fun d=>Sx.cut d (v*am d) Zs
def jzfz(am:Nat->Rat)(v:Rat)(Zs:List ((Nat×LN)×Rat))(n:Nat):cU am v Zs (n+1)=cU am v Zs n++Sx.cut n (v*am n) Zs:=by unfold cU;rw[IY,List.flatMap_append];simp
def jzn9{T:Sx.Tb}{P:List (Nat×LN)}{L2 D:Nat}{am cap:Nat->Rat}(h:Sx.BH L2 D am cap T P){k:Nat}{p:Nat×LN}(hp:P[k]?=some p):(Sx.tq T P)[k]?=some (p,Sx.at_ (Sx.Cq T) (k+1)):=by
 have hl:=h.BQ;have hk:=(yH.1 hp).1;have qa:=Sx.uz P ((Sx.Cq T).drop 1) hl;have qe:(Sx.tq T P).length=P.length:=(by have:=congrArg List.length qa;rw[xV]at this;exact this);obtain⟨z,hz⟩:∃z,(Sx.tq T P)[k]?=some z:=⟨_,yG qO⟩;obtain⟨zp,zf⟩:=z;have h1:=Sx.CV P ((Sx.Cq T).drop 1) hl k hz;rw[Sx.EK,FI]at h1;have h2:(Sx.tq T P)[k]?.map (·.1)=some p:=(by rw[<-yW];show(List.map (·.1) (Sx.DX P ((Sx.Cq T).drop 1)))[k]?=some p;rw[qa];exact hp);(rw[hz]at h2;injection h2 with h2);have h2:zp=p:=h2;rw[hz,h1,h2]
def sI(q:Rat):0<aB q↔0<q:=by
 constructor;{intro h;have h1:¬q=0:=fun e=>(by have:=(iC q).2 e;omega);have h2:¬q<0:=fun e=>(by have:=(rP q).2 e;omega);grind};intro h;have h1:¬aB q=0:=fun e=>(by have:=(iC q).1 e;grind);have h2:¬aB q<0:=fun e=>(by have:=(rP q).1 e;grind);omega
def jzf0{T:Sx.Tb}{P:List (Nat×LN)}{L2 D:Nat}{am cap:Nat->Rat}(h:Sx.BH L2 D am cap T P):(Sx.tq T P).length=P.length:=by
 have qa:=Sx.uz P ((Sx.Cq T).drop 1) h.BQ;have:=congrArg List.length qa;rw[xV]at this;exact this
def jzf1(am:Nat->Rat)(v:Rat)(Zs:List ((Nat×LN)×Rat)):∀n,(cU am v Zs n).length<=n*Zs.length
 |0=>yZ _
 |n+1=>by
  rw[jzfz,yQ,xP,xQ];have h1:=jzf1 am v Zs n;have h2:=(Sx.Bf n (v*am n) Zs).length_le;rw[xV,xV]at h2;omega
def jzoa(n:Nat)(r:Rat)(o Zs:List ((Nat×LN)×Rat)):(Zs.foldl (Sx.mo n) (r,o)).2.length<=o.length+Zs.length:=by
 rw[Sx.C9,yQ];have h2:=(Sx.Bf n r Zs).length_le;rw[xV,xV]at h2;omega
def jzf2{n:Nat}{s0:Rat×List ((Nat×LN)×Rat)}{Zs:List ((Nat×LN)×Rat)}{k:Nat}{z:(Nat×LN)×Rat}(hz:Zs[k]?=some z):(Zs.take (k+1)).foldl (Sx.mo n) s0=Sx.mo n ((Zs.take k).foldl (Sx.mo n) s0) z:=by
 rw[Dj,hz,Jq];rfl
def jzob{w0 w}{x mb:Nat}{t}{AO}{co:Nat}{AL}{cl:Nat}{l:List Dm}{AD}{cd:Nat}{L:aQ}{T:Sx.Tb}{vP:Value}{P:List (Nat×LN)}(F:CJ w0 w x mb t AO co AL cl l AD cd L T vP P P)
  (hf:Fit t l) (hl:t.links.length<=10) (hD:l.length<=4) (qn:Sx.BH (2*t.links.length) l.length (nk l) (aV t) T P) (vx:0<=T.goal.re) (vo:∀z∈Sx.tq T P,0<=z.2) (hPl:P.length+4<=10000000000) (vq:∀p∈P,p.1<l.length) (hP0:P≠ []):
  Calls prog 33 #[.pointer (sA x)] w (jzfy w (2*t.links.length) T.goal.re (Sx.uj l.length (nk l) T.goal.re (Sx.tq T P)) ((Sx.Ba T).take (2*t.links.length))):=by
 have HF:=Hx (ah F (ah hf qn));have HN:=Hx (ah vx (ah vo vq));have zv:=F.Bd.len;have zq:=F.top.ll;have SZ:=Hx (oJ hf hl hD qn);have SH:=Hx qn.shape;have CO:=Hx qn.iq;obtain⟨b0,e0⟩:=aU w #[bF,zN,zN,zN,zN] 37;have RB:=Hx (ah b0 e0);have q0:w.cell? (aD x 0)=some (vI t.nodes):=F.box.cell 0;have q1:w.cell? (aD x 1)=some (.s AO t.over.length co):=F.box.cell 1;have q2:w.cell? (aD x 2)=some (.s AL t.links.length cl):=F.box.cell 2;have q0:=aA e0 q0;have q1:=aA e0 q1;have q2:=aA e0 q2;clear F hf qn vx vo vq b0 e0;go_enter func33,ntmps33;go_wp2_with fail;refine(fQ t AO co AL cl _ (HF.o.1.top.K (HF.o.1.ext.tr RB.o.2))).r fun w1 x1=>?_;have E1:=Hx (ah (RB.o.1.K x1) (RB.o.2.tr x1));clear x1 q0 q1 q2;have F1:=Hx (HF.o.1.K E1.o.2);have XD:Hid (Ext w1 w1.drew):=Hx ((eR w1).drewN 1);have XA:Hid (Ext w1 (w1.alloc (.cells #[bF,zN,zN,zN,zN] 37)).drew):=Hx (((eR w1).alloc _).drewN 1);have BA:Hid (ak (w1.alloc (.cells #[bF,zN,zN,zN,zN] 37)).drew w1.heap.size 37 #[bF,zN,zN,zN,zN]):=Hx (eN w1 _ _);have qe:Hid (∀wx,Ext w1 wx->wx.C x 4 (.pointer (sA L.p))):=Hx (fun wx hx=>(F1.o.box.K hx).cell 4);have vT:L.m=2*t.links.length+l.length:=F1.o.m;have q7:Hid (∀wx,Ext w1 wx->Calls prog 85 #[.pointer (sA L.p)] wx (eM wx T.goal.re)):=Hx (fun wx hx=>jzl5 w0.heap.size L T wx (F1.o.tab.K hx));have ve:Hid (∀wx,Ext w1 wx->Calls prog 32 #[.pointer (sA L.p)] wx (fun e w'=>∃gl,e=.returned (.s (sA gl) (2*t.links.length+l.length) (2*t.links.length+l.length))/\QB w' gl (Sx.Ba T)/\wx.heap.size<=gl/\Ext wx w')):=Hx (fun wx hx=>by obtain⟨y1,y2,y3,y4,y5,y6,y7,y8⟩:=SH.o;have h1:=jzdx w0.heap.size L T wx (F1.o.tab.K hx) y2 (by have:=HF.o.2.1.n;omega) qO qO qO y5 (fun j hj=>by have:=y6 j hj;omega);rw[vT]at h1;exact h1);(go_upto_region 2 with fail);go_cut [4] (fun s wx=>∃(bp gl:Nat) (neg:Bool) (A1:OA) (n1 c1:Nat) (A2:OA) (n2 c2:Nat),s=.pointer (sA bp)/\Hid (ak wx bp 37 #[.bool neg,.s A1 n1 c1,.s A2 n2 c2,zN,.s (sA gl) (2*t.links.length) (2*t.links.length)]/\aC wx neg A1 n1 c1 A2 n2 c2 T.goal.re/\QB wx gl (Sx.Ba T)/\w1.heap.size<=bp/\Ext w1 wx))
 case first=>
  have zi:(0:Int)<=2*(t.links.length:Int):=qO;have zn:2*(t.links.length:Int)<=2*(t.links.length:Int)+(l.length:Int):=qO;have zA:2*(t.links.length:Int)<=2*(t.links.length:Int):=Int.le_refl _;have zh:(2*(t.links.length:Int)).toNat=2*t.links.length:=qO;have xN:x≠w1.heap.size:=(by have:=F1.o.box.lt;omega);have c0:=qe.o _ XD.o;have y0:=qe.o _ XA.o
  go_region_held3 (fun w'=>w'.C x 4 (.pointer (sA L.p)))
   (first|with_reducible exact c0|with_reducible exact y0|with_reducible exact aS c0 _|exact aF (aF (aF (aF (aF c0 xN) xN) xN) xN) xN|fail)
   (first
    |(go_at_call 85
      first
      |(with_reducible refine(q7.o _ (by with_reducible exact XD.o)).mono ?_
        rintro e w5 ⟨neg,A1,n1,d1,A2,n2,d2,rfl,hR,qk⟩;have E5:=Hx (XD.o.tr qk))
      |(with_reducible refine(q7.o _ (by with_reducible exact XA.o)).mono ?_
        rintro e w5 ⟨neg,A1,n1,d1,A2,n2,d2,rfl,hR,qk⟩;have E5:=Hx (XA.o.tr qk);have B5:=Hx (BA.o.K qk))
      have R5:=Hx hR;have c0:=qe.o _ E5.o;clear hR qk)
    |(go_at_call 32
      first
      |(with_reducible refine(ve.o _ (by with_reducible exact E5.o)).mono ?_
        rintro e w6 ⟨gl,rfl,hQ,hg,qj⟩;have E6:=Hx (E5.o.tr qj);have R6:=Hx (R5.o.K qj)
        first
        |(have B6:=Hx (B5.o.K qj)
          have m0:=B6.o.cell 0;have m1:=B6.o.cell 1;have m2:=B6.o.cell 2;have m3:=B6.o.cell 3;have m4:=B6.o.cell 4;have r0:=B6.o.frozen 0;have r1:=B6.o.frozen 1;have r2:=B6.o.frozen 2;have r3:=B6.o.frozen 3;have r4:=B6.o.frozen 4)
        |skip)
      |(with_reducible refine(ve.o _ (by with_reducible exact(E5.o.alloc _))).mono ?_
        rintro e w6 ⟨gl,rfl,hQ,hg,qj⟩;have E6:=Hx (((E5.o.alloc (.cells #[bF,zN,zN,zN,zN] 37))).tr qj);have R6:=Hx ((R5.o.K ((eR w5).alloc (.cells #[bF,zN,zN,zN,zN] 37))).K qj);have B6:=Hx (ak.K (show ak (w5.alloc (.cells #[bF,zN,zN,zN,zN] 37)) w5.heap.size 37 #[bF,zN,zN,zN,zN]from eN w5 _ _) qj);have xN:x≠w5.heap.size:=(by have h1:=F1.o.box.lt;have h2:=E5.o.size;omega);have m0:=B6.o.cell 0;have m1:=B6.o.cell 1;have m2:=B6.o.cell 2;have m3:=B6.o.cell 3;have m4:=B6.o.cell 4;have r0:=B6.o.frozen 0;have r1:=B6.o.frozen 1;have r2:=B6.o.frozen 2;have r3:=B6.o.frozen 3;have r4:=B6.o.frozen 4)
      have Q6:=Hx hQ;have c0:=qe.o _ E6.o;clear hQ hg qj)
    |fail)
  all_goals
   go_wp2;go_meet
   first
   |(have h5:=B5.o
     have h6:=jzfx (gl:=gl) (m:=2*t.links.length) (yX _) B6.o R6.o Q6.o E6.o;exact⟨w1.heap.size,gl,neg,A1,n1,d1,A2,n2,d2,rfl,Hx h6⟩)
   |(have h6:=jzfx (gl:=gl) (m:=2*t.links.length) E5.o.size B6.o R6.o Q6.o E6.o
     exact⟨w5.heap.size,gl,neg,A1,n1,d1,A2,n2,d2,rfl,Hx h6⟩)
   |exact⟨w6.heap.size,gl,neg,A1,n1,d1,A2,n2,d2,rfl,Hx ⟨eN w6 _ _,R6.o.K ((eR w6).alloc _),Q6.o.K ((eR w6).alloc _),E6.o.size,E6.o.alloc _⟩⟩
 obtain⟨bp,gl,neg,A1,n1,c1,A2,n2,c2,rfl,I4⟩:=hcut;clear qe q7 ve;have q4:wc.cell? (aD x 4)=some (.pointer (sA L.p)):=(F1.o.box.K I4.o.2.2.2.2).cell 4;go_wp2_with fail;refine(jzl6 w0.heap.size L T wc (F1.o.tab.K I4.o.2.2.2.2) (by have:=HF.o.2.1.n;omega) qO (by have:=CO.o.1;omega) (fun j k hj hk e=>SH.o.2.2.2.2.2.2.1 j k (by have:=SH.o.2.2.2.1;omega) (by have:=SH.o.2.2.2.1;omega) e) (fun j hj=>by have h1:=SH.o.2.2.2.2.2.2.2 j (by have:=SH.o.2.2.2.1;omega);have h2:=CO.o.1;omega) (fun i hi=>by rw[SH.o.1 i (by have:=CO.o.2;omega)];have:=SH.o.2.2.1;omega)).mono ?_;rintro e w5 ⟨gq,rfl,hQ,hg,qk⟩;have qJ:T.iq=P.length+1:=CO.o.1;rw[qJ];have I5:Hid (ak w5 bp 37 #[.bool neg,.s A1 n1 c1,.s A2 n2 c2,zN,.s (sA gl) (2*t.links.length) (2*t.links.length)]/\aC w5 neg A1 n1 c1 A2 n2 c2 T.goal.re/\QB w5 gl (Sx.Ba T)/\QB w5 gq (Sx.Cq T)/\Ext w1 w5):=Hx (⟨I4.o.1.K qk,I4.o.2.1.K qk,I4.o.2.2.1.K qk,hQ,I4.o.2.2.2.2.tr qk⟩);have vJ:w1.heap.size<=bp:=I4.o.2.2.2.1;have q3:w5.cell? (aD x 3)=some (.s AD l.length cd):=(F1.o.box.K I5.o.2.2.2.2).cell 3;clear hQ hg qk q4 I4 qJ;(go_upto_region 4 with fail);have J0:Hid (Gq w5 w5 bp gl (2*t.links.length) neg A1 n1 c1 A2 n2 c2 zN (cU (nk l) T.goal.re (Sx.tq T P) 0)):=Hx (⟨I5.o.1,Ak.nil _ _ _ _ _,fu.refl _ _⟩);have zm:w.heap.size<=bp:=yY E1.o.2.size vJ;have E5:Hid (Ext w w5):=Hx (E1.o.2.tr I5.o.2.2.2.2);have vZ:bp<w5.heap.size:=I5.o.1.lt;go_wp2;clear q3;go_loopg [6,7,8,41] l.length (fun q _ _ _ it wx=>∃(n:Nat) (vQ:Value),l.length-n=q/\n<=l.length/\it=vI (n:Int)/\Hid (Gq w5 wx bp gl (2*t.links.length) neg A1 n1 c1 A2 n2 c2 vQ (cU (nk l) T.goal.re (Sx.tq T P) n)));exact⟨0,_,rfl,yZ _,rfl,J0⟩;obtain⟨n,vQ,rfl,hn,rfl,J⟩:=hrel;have EW:Hid (Ext w wr):=Hx (J.o.fr.ext E5.o fun b hb=>qO);by_cases q8:n<l.length
 ·obtain⟨d,hd⟩:∃d,l[n]?=some d:=⟨_,yG q8⟩;have vY:=Hx (show((d.amount:Int):Rat)=nk l n by unfold nk;rw[hd]);have vV:i64 d.amount:=(HF.o.1.Bd.wf d (yJ hd)).2.2.1;obtain⟨b,o,rfl,hb,a0,a1,a2,a3⟩:=HF.o.1.Bd.at_ hd;have X0:Hid (Ext w0 wr):=Hx (HF.o.1.ext.tr EW.o);have a0:=aA X0.o a0;have a1:=aA X0.o a1;have a2:=aA X0.o a2;have a3:=aA X0.o a3;have hb:b<wr.heap.size:=yL hb X0.o.size;have nN:(n:Int)<(l.length:Int):=qO;have n0:(0:Int)<=(n:Int):=qO;have X8:Hid (Ext wr (wr.alloc (.cells #[vI d.src,vI d.dst,vI d.amount,vI d.prio] 60))):=Hx ((eR wr).alloc _);have B8:=Hx (eN wr 60 #[vI d.src,vI d.dst,vI d.amount,vI d.prio]);clear hd;go_upto_region 7 with fail
  clear a0 a1 a2 a3;generalize wr.alloc (.cells #[vI d.src,vI d.dst,vI d.amount,vI d.prio] 60)=W8 at*;generalize hbd:wr.heap.size=bd at*;have J8:=Hx (J.o.K X8.o);have RV:Hid (∀wx,Ext W8 wx->aC wx neg A1 n1 c1 A2 n2 c2 T.goal.re):=Hx (fun wx hx=>(J8.o.fr.oz (oh.one I5.o.1 qD) I5.o.2.1).K hx);have XD:Hid (Ext W8 W8.drew):=Hx ((eR W8).drewN 1);have XA:Hid (Ext W8 (W8.alloc (.cells rV 33)).drew):=Hx (((eR W8).alloc _).drewN 1);have BA:Hid (ak (W8.alloc (.cells rV 33)).drew W8.heap.size 33 rV):=Hx (eN W8 _ _);have qe:=Hx (show∀wx,Ext W8 wx->(wx.C bp 0 (.bool neg)/\wx.C bp 1 (.s A1 n1 c1)/\wx.C bp 2 (.s A2 n2 c2)/\wx.C bd 2 (vI d.amount))from fun wx hx=>
   ⟨(J8.o.box.K hx).cell 0,(J8.o.box.K hx).cell 1,(J8.o.box.K hx).cell 2,(B8.o.K hx).cell 2⟩)
  obtain⟨zo,zy⟩:=(RV.o _ XD.o).lens SZ.o.2.1.gr;have v5:Hid (dx (nk l n) 20):=Hx (by obtain⟨_,_,_,h4,h5,h6⟩:=HF.o.2.1.am q8;rw[h4];exact(dx.int (by unfold dh;omega)).mono qD);go_cut [8] (fun s wx=>∃(br:Nat) (ng:Bool) (R1:OA) (m1 d1:Nat) (R2:OA) (m2 d2:Nat),s=.pointer (sA br)/\Hid (ak wx br 33 #[.bool ng,.s R1 m1 d1,.s R2 m2 d2]/\aC wx ng R1 m1 d1 R2 m2 d2 (T.goal.re*nk l n)/\W8.heap.size<=br/\Ext W8 wx))
  case first=>
   have bN:bd≠W8.heap.size:=(by have:=B8.o.lt;omega);have xN:bp≠W8.heap.size:=(by have:=J8.o.box.lt;omega);obtain⟨c0,qT,qQ,c3⟩:=qe.o _ XD.o;obtain⟨y0,y1,y2,y3⟩:=qe.o _ XA.o
   go_region_held3 (fun w'=>w'.C bp 0 (.bool neg)/\w'.C bp 1 (.s A1 n1 c1)/\w'.C bp 2 (.s A2 n2 c2)/\w'.C bd 2 (vI d.amount))
    (first|with_reducible exact⟨c0,qT,qQ,c3⟩|with_reducible exact⟨y0,y1,y2,y3⟩|with_reducible exact⟨aS c0 _,aS qT _,aS qQ _,aS c3 _⟩|exact⟨aF (aF (aF c0 xN) xN) xN,aF (aF (aF qT xN) xN) xN,aF (aF (aF qQ xN) xN) xN,aF (aF (aF c3 bN) bN) bN⟩|fail)
    (first
     |(go_at_call 15
       first
       |(with_reducible refine(kC d.amount _ vV).mono ?_
         rintro e w6 ⟨ng,R1,m1,d1,R2,m2,d2,rfl,hR,qj⟩
         first
         |(have E6:=Hx (show Ext W8 w6 by with_reducible exact XD.o.tr qj))
         |(have E6:=Hx (show Ext W8 w6 by with_reducible exact XA.o.tr qj)
           have B6:=Hx (BA.o.K qj)))
       have R6:Hid (aC w6 ng R1 m1 d1 R2 m2 d2 (nk l n)):=Hx (vY.o▸hR);obtain⟨zt,zz⟩:=R6.o.lens v5.o;obtain⟨c0,qT,qQ,c3⟩:=qe.o _ E6.o;clear hR qj)
     |(go_at_call 47
       first
       |(with_reducible refine(gX neg ng A1 n1 c1 A2 n2 c2 R1 m1 d1 R2 m2 d2 T.goal.re (nk l n) _ (RV.o _ (by with_reducible exact E6.o)) (by with_reducible exact R6.o) qO qO qO qO).mono ?_
         rintro e w7 ⟨nh,S1,k1,e1,S2,k2,e2,rfl,hR,qH⟩;have E7:=Hx (E6.o.tr qH)
         first
         |(have B7:=Hx (B6.o.K qH)
           obtain⟨⟨u0,u1,u2⟩,r0,r1,r2⟩:=B7.o.t3)
         |skip)
       |(with_reducible refine(gX neg ng A1 n1 c1 A2 n2 c2 R1 m1 d1 R2 m2 d2 T.goal.re (nk l n) _ (RV.o _ (by with_reducible exact(E6.o.alloc _))) (R6.o.K ((eR w6).alloc _)) qO qO qO qO).mono ?_
         rintro e w7 ⟨nh,S1,k1,e1,S2,k2,e2,rfl,hR,qH⟩;have E7:=Hx ((E6.o.alloc (.cells rV 33)).tr qH);have B7:=Hx (ak.K (show ak (w6.alloc (.cells rV 33)) w6.heap.size 33 rV from eN w6 _ _) qH);have bN:bd≠w6.heap.size:=(by have:=B8.o.lt;have:=E6.o.size;omega);have xN:bp≠w6.heap.size:=(by have:=J8.o.box.lt;have:=E6.o.size;omega);obtain⟨⟨u0,u1,u2⟩,r0,r1,r2⟩:=B7.o.t3)
       have R7:=Hx hR;obtain⟨c0,qT,qQ,c3⟩:=qe.o _ E7.o;clear hR qH)
     |fail)
   all_goals
    go_wp2;go_meet
    first
    |(have h5:=B6.o
      have h6:=eY (w:=W8) R7.o B7.o (yX _) E7.o;have b0:=B7.o.sT 0 (.bool nh);have b1:=b0.sT 1 (.s S1 k1 e1);exact⟨W8.heap.size,nh,S1,k1,e1,S2,k2,e2,rfl,Hx ⟨b1.sT 2 (.s S2 k2 e2),h6.1,yX _,h6.2⟩⟩)
    |(have h6:=eY (w:=W8) R7.o B7.o E6.o.size E7.o
      have b0:=B7.o.sT 0 (.bool nh);have b1:=b0.sT 1 (.s S1 k1 e1);exact⟨w6.heap.size,nh,S1,k1,e1,S2,k2,e2,rfl,Hx ⟨b1.sT 2 (.s S2 k2 e2),h6.1,E6.o.size,h6.2⟩⟩)
    |exact⟨w7.heap.size,nh,S1,k1,e1,S2,k2,e2,rfl,Hx ⟨eN w7 _ _,R7.o.K ((eR w7).alloc _),E7.o.size,E7.o.alloc _⟩⟩
  obtain⟨br,ng,R1,m1,d1,R2,m2,d2,rfl,C⟩:=hcut;clear qe;have J9:=Hx (J8.o.K C.o.2.2.2);have F5:=Hx (HF.o.1.K E5.o);obtain⟨vj,cP,vw,zu⟩:=HF.o.1.pat.form;have vi:=Hx vw;clear vw;have vO:x≠bp:=fun e=>(by have h1:=F5.o.box;rw[e]at h1;exact absurd (bI h1 I5.o.1).2 qD);have v9:Hid (∀wx,fu (fun b=>b=bp) w5 wx->Ak (Jl L.S) 98 5 wx w0.heap.size (.s vj P.length cP) P):=Hx (fun wx k=>by rw[<-vi.o];refine F5.o.pat.fr k (fun g hg e=>?_) fun cs y _ hy=>hy.fr k (oh.one I5.o.1 qD);obtain⟨xs,ho⟩:=F5.o.pat.own;obtain⟨cs,qa⟩:=aT ho hg;rw[e]at qa;exact absurd (bI qa I5.o.1).2 qD);have q5:wc.cell? (aD x 5)=some (.s vj P.length cP):=(by have h1:=(J9.o.fr.blk F5.o.box vO).cell 5;rw[vi.o]at h1;exact h1);have GQ:Hid (∀wx,fu (fun b=>b=bp) w5 wx->QB wx gq (Sx.Cq T)):=Hx (fun wx k=>I5.o.2.2.2.1.fr k (oh.one I5.o.1 qD) fun e=>by obtain⟨cs,qa⟩:=I5.o.2.2.2.1.blk;rw[e]at qa;exact absurd (bI qa I5.o.1).2 qD);have vG:Hid ((Sx.Cq T).length=P.length+1):=Hx (by have h1:=HF.o.2.2.BQ;rw[List.length_drop]at h1;have h2:(Sx.Cq T).length=T.iq:=Sx.Ae _ _;rw[h2];exact CO.o.1);have vh:=Hx (HF.o.2.1.am q8);have RS:Hid (∀k,dx (((Sx.tq T P).take k).foldl (Sx.mo n) (T.goal.re*nk l n,cU (nk l) T.goal.re (Sx.tq T P) n)).1 41):=Hx (fun k=>by obtain⟨_,_,_,_,Dn,d1,d2,d3,d4⟩:=SZ.o;obtain⟨h1,h2,_,_,_,_⟩:=vh.o;have h3:((nk l n:Rat))<=((1048576:Int):Rat):=vh.o.2.2.1;have h0:0<=T.goal.re*nk l n:=vA HN.o.1 qG;have hI:Sx.sj (T.goal.re*nk l n*(Dn:Rat)):=(by obtain⟨a,ha⟩:=d3.1;obtain⟨b9,qa⟩:=h2;exact⟨a*b9,by rw[Jp, <-ha, <-qa];grind⟩);obtain⟨g1,g2,g3⟩:=Sx.Cn n Dn (T.goal.re*nk l n) ((Sx.tq T P).take k) (T.goal.re*nk l n) (cU (nk l) T.goal.re (Sx.tq T P) n) (fun z hz=>⟨HN.o.2.1 z (xM hz),(d4 z.2 (by have h9:=(Sx.BI P ((Sx.Cq T).drop 1) (xM hz)).2;exact List.mem_of_mem_drop h9)).1⟩) h0 vC hI;exact jzfw d1 d2 d3.2 HN.o.1 h3 qG g1 g2 g3);have v3:w5.heap.size<=br:=(by have:=C.o.2.2.1;have:=J8.o.fr.size;omega);have K0:Hid ((T.goal.re*nk l n,cU (nk l) T.goal.re (Sx.tq T P) n)=((Sx.tq T P).take 0).foldl (Sx.mo n) (T.goal.re*nk l n,cU (nk l) T.goal.re (Sx.tq T P) n)/\ak wc br 33 #[.bool ng,.s R1 m1 d1,.s R2 m2 d2]/\aC wc ng R1 m1 d1 R2 m2 d2 (T.goal.re*nk l n)/\Gq w5 wc bp gl (2*t.links.length) neg A1 n1 c1 A2 n2 c2 vQ (cU (nk l) T.goal.re (Sx.tq T P) n)):=Hx (⟨rfl,C.o.1,C.o.2.1,J9.o⟩);go_wp2;clear q5
  go_loopg [9,10,57] P.length (fun q _ _ it wx=>∃(k:Nat) (vQ:Value) (r:Rat) (out:List ((Nat×LN)×Rat)) (ng:Bool) (R1:OA) (m1 d1:Nat) (R2:OA) (m2 d2:Nat),P.length-k=q/\k<=P.length/\it=vI (k:Int)/\
   Hid ((r,out)=((Sx.tq T P).take k).foldl (Sx.mo n) (T.goal.re*nk l n,cU (nk l) T.goal.re (Sx.tq T P) n)/\ak wx br 33 #[.bool ng,.s R1 m1 d1,.s R2 m2 d2]/\aC wx ng R1 m1 d1 R2 m2 d2 r/\Gq w5 wx bp gl (2*t.links.length) neg A1 n1 c1 A2 n2 c2 vQ out))
  (case atStart=>exact⟨0,vQ,_,_,ng,R1,m1,d1,R2,m2,d2,rfl,yZ _,rfl,K0⟩);obtain⟨k,vK,r,out,nr,S1,e1,f1,S2,e2,f2,rfl,hk,rfl,K⟩:=hrel;clear C;by_cases v8:k<P.length
  ·obtain⟨p,hp⟩:∃p,P[k]?=some p:=⟨_,yG v8⟩;(have ZK:=Hx (jzn9 HF.o.2.2 hp);obtain⟨gP,cap,cs,v4,zw,_,qC,A,c,rfl,vt,vl,zd⟩:=(v9.o _ K.o.2.2.2.fr).at_ hp;injection v4 with e9 _ e10);subst e9;subst e10;have a0:wr.cell? (aD gP (k*5))=some (vI (p.1:Int)):=qC 0 qD;have a1:wr.cell? (aD gP (k*5+1))=some (.s A p.2.length c):=qC 1 qD;have a2:wr.cell? (aD gP (k*5+2))=some bF:=qC 2 qD;have a3:wr.cell? (aD gP (k*5+3))=some zN:=qC 3 qD;have a4:wr.cell? (aD gP (k*5+4))=some zN:=qC 4 qD;have kN:(k:Int)<(P.length:Int):=qO;have k0:(0:Int)<=(k:Int):=qO;have PR:=Hx (ah vl vt);have zk:p.1<l.length:=HN.o.2.2 p (yJ hp);clear qC vl vt zd hp;by_cases qV:p.1=n
   ·obtain⟨pd,pa⟩:=p;have qV:n=pd:=qV.symm;subst qV;dsimp only at a0 a1;have PR:Hid (og wr 3 A (ints pa)/\pa.length<=c):=Hx (PR.o);have ZK:Hid ((Sx.tq T P)[k]?=some ((n,pa),Sx.at_ (Sx.Cq T) (k+1))):=Hx (ZK.o);have vz:((n:Int) !=(n:Int))=false:=qS;have vm:k+1<(Sx.Cq T).length:=(by rw[vG.o];omega);obtain⟨nf,qw,g1,h1,qx,g2,h2,⟨s0,s1,s2⟩,_,hy⟩:=(GQ.o _ K.o.2.2.2.fr).at_ (aZ vm);rw[show(k+1)*3=3+k*3 by omega]at s0 s1 s2;have s0:=aS s0 (.cells #[vI (n:Int),.s A pa.length c,bF,zN,zN] 98);have s1:=aS s1 (.cells #[vI (n:Int),.s A pa.length c,bF,zN,zN] 98);have s2:=aS s2 (.cells #[vI (n:Int),.s A pa.length c,bF,zN,zN] 98);have RY:=Hx hy;have BY:=Hx (eN wr 98 #[vI (n:Int),.s A pa.length c,.bool nf,.s qw g1 h1,.s qx g2 h2]);have XY:Hid (Ext wr (wr.alloc (.cells #[vI (n:Int),.s A pa.length c,.bool nf,.s qw g1 h1,.s qx g2 h2] 98))):=Hx ((eR wr).alloc _);obtain⟨⟨v0,v1,v2⟩,_⟩:=K.o.2.1.t3;have v0:=aS v0 (.cells #[vI (n:Int),.s A pa.length c,.bool nf,.s qw g1 h1,.s qx g2 h2] 98);have v1:=aS v1 (.cells #[vI (n:Int),.s A pa.length c,.bool nf,.s qw g1 h1,.s qx g2 h2] 98);have v2:=aS v2 (.cells #[vI (n:Int),.s A pa.length c,.bool nf,.s qw g1 h1,.s qx g2 h2] 98);have vg:Hid (dx (Sx.at_ (Sx.Cq T) (k+1)) 20):=Hx (SZ.o.2.2.2.1 _ (yJ (aZ vm)));have vu:Hid (dx r 41):=Hx (by have h9:=RS.o k;rw[<-K.o.1]at h9;exact h9);generalize Sx.at_ (Sx.Cq T) (k+1)=f at*;obtain⟨zx,zf⟩:=hy.lens vg.o;obtain⟨zj,zp⟩:=K.o.2.2.1.lens vu.o;clear hy;go_wp2_with fail
    refine(gT nf nr qw g1 h1 qx g2 h2 S1 e1 f1 S2 e2 f2 f r _ (RY.o.K XY.o) (K.o.2.2.1.K XY.o) qO qO qO qO).r fun w6 x6=>?_;have qo:=Hx (BY.o.K x6);have K6:=Hx (show ak w6 br 33 #[.bool nr,.s S1 e1 f1,.s S2 e2 f2]/\aC w6 nr S1 e1 f1 S2 e2 f2 r/\Gq w5 w6 bp gl (2*t.links.length) neg A1 n1 c1 A2 n2 c2 vK out/\og w6 3 A (ints pa)/\aC w6 nf qw g1 h1 qx g2 h2 f/\aC w6 neg A1 n1 c1 A2 n2 c2 T.goal.re from
     ⟨K.o.2.1.K (XY.o.tr x6),K.o.2.2.1.K (XY.o.tr x6),K.o.2.2.2.K (XY.o.tr x6),PR.o.1.K (XY.o.tr x6),RY.o.K (XY.o.tr x6),((K.o.2.2.2.K (XY.o.tr x6)).fr.oz (oh.one I5.o.1 qD) I5.o.2.1)⟩)
    have qW:=Hx K.o.1;have vc:Hid (br<wr.heap.size):=Hx (K.o.2.1.lt);have za:Hid (∀g,vK.ownBlock=some g->g<wr.heap.size):=Hx (fun g hg=>by obtain⟨xs,ho⟩:=K.o.2.2.2.own.own;exact(ho.lt g hg).2);clear v0 v1 v2 s0 s1 s2 x6 K;generalize hby:wr.heap.size=yb at*;obtain⟨⟨v0,v1,v2⟩,_⟩:=K6.o.1.t3;have y2:=qo.o.cell 2;have y3:=qo.o.cell 3;have y4:=qo.o.cell 4;have z2:=qo.o.frozen 2;have z3:=qo.o.frozen 3;have z4:=qo.o.frozen 4;go_upto_if 75 with fail
    go_cut [] (fun wx=>∃(nh:Bool) (H1:OA) (i1 j1:Nat) (H2:OA) (i2 j2:Nat),Hid (ak wx yb 98 #[vI (n:Int),.s A pa.length c,.bool nh,.s H1 i1 j1,.s H2 i2 j2]/\aC wx nh H1 i1 j1 H2 i2 j2 (if r<f then r else f)/\
     ak wx br 33 #[.bool nr,.s S1 e1 f1,.s S2 e2 f2]/\aC wx nr S1 e1 f1 S2 e2 f2 r/\Gq w5 wx bp gl (2*t.links.length) neg A1 n1 c1 A2 n2 c2 vK out/\og wx 3 A (ints pa)))
    (case first=>by_cases qA:r<f;{have qZ:0<aW f r:=(sD f r).2 qA;have zb:decide (0<aW f r)=true:=yO qZ;have va:=Hx qA;clear qA;go_wp2;go_meet;have b0:=qo.o.sT 2 (.bool nr);have b1:=b0.sT 3 (.s S1 e1 f1);have b2:=b1.sT 4 (.s S2 e2 f2);have k3:fu (fun b'=>b'=yb) w6 (((w6.setCell (aD yb 2) (.bool nr)).setCell (aD yb 3) (.s S1 e1 f1)).setCell (aD yb 4) (.s S2 e2 f2)):=eG (((aM w6 yb 2 _).trans (aM _ yb 3 _)).trans (aM _ yb 4 _)) fun g e=>(by injection e with e;exact e.symm);have hn:=fun tt (ht:98≠tt)=>oh.one qo.o ht;refine⟨nr,S1,e1,f1,S2,e2,f2,Hx ⟨b2,?_,k3.blk K6.o.1 (by have:=vc.o;omega),k3.oz (hn _ qD) K6.o.2.1,?_,k3.Bz (hn _ qD) K6.o.2.2.2.1⟩⟩;{rw[qE va.o];exact k3.oz (hn _ qD) K6.o.2.1};have qp:=K6.o.2.2.1;have vL:w5.heap.size<=yb:=(by have:=qp.fr.size;have:=vc.o;omega);refine⟨k3.blk qp.box qO,qp.own.fr k3 (fun g hg e=>by have:=za.o g hg;omega) (fun cs y _ hy=>hy.fr k3 (hn _ qD) (hn _ qD)),qp.fr.tr k3 fun b hb=>.inr (by rw[hb];exact vL)⟩};have qZ:¬0<aW f r:=fun h=>qA ((sD f r).1 h);have zb:decide (0<aW f r)=false:=yP qZ;have va:=Hx qA;clear qA;go_wp2;go_meet;exact⟨nf,qw,g1,h1,qx,g2,h2,Hx ⟨qo.o,by rw[qF va.o];exact K6.o.2.2.2.2.1,K6.o.1,K6.o.2.1,K6.o.2.2.1,K6.o.2.2.2.1⟩⟩);obtain⟨nh,H1,i1,j1,H2,i2,j2,I9⟩:=hcut;clear qo v0 v1 v2 y2 y3 y4 z2 z3 z4;have vF:Hid (dx (if r<f then r else f) 41):=Hx (by split;{exact vu.o};exact vg.o.mono qD);have qU:Hid ((r-(if r<f then r else f),if 0<(if r<f then r else f)then out++[((n,pa),(if r<f then r else f))]else out)=((Sx.tq T P).take (k+1)).foldl (Sx.mo n) (T.goal.re*nk l n,cU (nk l) T.goal.re (Sx.tq T P) n)):=Hx (by rw[jzf2 ZK.o, <-qW.o];unfold Sx.mo;rw[qE rfl]);generalize hff:(if r<f then r else f)=ff at*;obtain⟨⟨v0,v1,v2⟩,r0,r1,r2⟩:=I9.o.2.2.1.t3;have y2:=I9.o.1.cell 2;have y3:=I9.o.1.cell 3;have y4:=I9.o.1.cell 4;obtain⟨zB,zg⟩:=I9.o.2.1.lens vF.o;clear hff;go_wp2_with fail
    refine(pY nr nh S1 e1 f1 S2 e2 f2 H1 i1 j1 H2 i2 j2 r ff _ I9.o.2.2.2.1 I9.o.2.1 qO qO qO qO).mono ?_;rintro e w7 ⟨qf,T1,t1,u1,T2,t2,u2,rfl,vy,x7⟩;have B7:=I9.o.2.2.1.K x7;have k7:fu (fun b'=>b'=br) w7 (((w7.setCell (aD br 0) (.bool qf)).setCell (aD br 1) (.s T1 t1 u1)).setCell (aD br 2) (.s T2 t2 u2)):=eG (((aM w7 br 0 _).trans (aM _ br 1 _)).trans (aM _ br 2 _)) fun g e=>(by injection e with e;exact e.symm);have qI:=fun tt (ht:33≠tt)=>oh.one B7 ht;have qM:yb≠br:=(by have:=vc.o;omega);have qm:=Hx (show ak (((w7.setCell (aD br 0) (.bool qf)).setCell (aD br 1) (.s T1 t1 u1)).setCell (aD br 2) (.s T2 t2 u2)) yb 98 #[vI (n:Int),.s A pa.length c,.bool nh,.s H1 i1 j1,.s H2 i2 j2]/\aC (((w7.setCell (aD br 0) (.bool qf)).setCell (aD br 1) (.s T1 t1 u1)).setCell (aD br 2) (.s T2 t2 u2)) nh H1 i1 j1 H2 i2 j2 ff/\
      ak (((w7.setCell (aD br 0) (.bool qf)).setCell (aD br 1) (.s T1 t1 u1)).setCell (aD br 2) (.s T2 t2 u2)) br 33 #[.bool qf,.s T1 t1 u1,.s T2 t2 u2]/\aC (((w7.setCell (aD br 0) (.bool qf)).setCell (aD br 1) (.s T1 t1 u1)).setCell (aD br 2) (.s T2 t2 u2)) qf T1 t1 u1 T2 t2 u2 (r-ff)/\
      Gq w5 (((w7.setCell (aD br 0) (.bool qf)).setCell (aD br 1) (.s T1 t1 u1)).setCell (aD br 2) (.s T2 t2 u2)) bp gl (2*t.links.length) neg A1 n1 c1 A2 n2 c2 vK out/\og (((w7.setCell (aD br 0) (.bool qf)).setCell (aD br 1) (.s T1 t1 u1)).setCell (aD br 2) (.s T2 t2 u2)) 3 A (ints pa)from by
     have qp:=I9.o.2.2.2.2.1.K x7;refine⟨k7.blk (I9.o.1.K x7) qM,k7.oz (qI _ qD) (I9.o.2.1.K x7),((B7.sT 0 _).sT 1 _).sT 2 _,k7.oz (qI _ qD) vy,⟨k7.blk qp.box qO,qp.own.fr k7 (fun g hg e=>?_) (fun cs y _ hy=>hy.fr k7 (qI _ qD) (qI _ qD)),qp.fr.tr k7 fun b hb=>.inr (by rw[hb];exact v3)⟩,k7.Bz (qI _ qD) (I9.o.2.2.2.2.2.K x7)⟩;obtain⟨xs,ho⟩:=qp.own.own;obtain⟨cs,qa⟩:=aT ho hg;rw[e]at qa;exact absurd (bI qa B7).2 qD)
    obtain⟨⟨v0,v1,v2⟩,r0,r1,r2⟩:=B7.t3;clear k7 qI vy x7 I9 y2 y3 y4 qM;(go_upto_region 16 with fail);generalize ((w7.setCell (aD br 0) (.bool qf)).setCell (aD br 1) (.s T1 t1 u1)).setCell (aD br 2) (.s T2 t2 u2)=W8' at*;clear v0 v1 v2 r0 r1 r2;have y2:=qm.o.1.cell 2;have y3:=qm.o.1.cell 3;have y4:=qm.o.1.cell 4;go_wp2_with fail
    refine(dA nh H1 i1 j1 H2 i2 j2 ff _ qm.o.2.1).r fun w9 x9=>?_;have qg:=Hx (show ak w9 yb 98 #[vI (n:Int),.s A pa.length c,.bool nh,.s H1 i1 j1,.s H2 i2 j2]/\aC w9 nh H1 i1 j1 H2 i2 j2 ff/\ak w9 br 33 #[.bool qf,.s T1 t1 u1,.s T2 t2 u2]/\aC w9 qf T1 t1 u1 T2 t2 u2 (r-ff)/\Gq w5 w9 bp gl (2*t.links.length) neg A1 n1 c1 A2 n2 c2 vK out/\og w9 3 A (ints pa)from
     ⟨qm.o.1.K x9,qm.o.2.1.K x9,qm.o.2.2.1.K x9,qm.o.2.2.2.1.K x9,qm.o.2.2.2.2.1.K x9,qm.o.2.2.2.2.2.K x9⟩)
    clear x9 qm y2 y3 y4;by_cases qh:0<ff
    ·have q6:0<aB ff:=(sI ff).2 qh;have vU:decide (0<aB ff)=true:=yO q6;have zs:out.length<=50000000000:=(by have h1:=congrArg (fun s=>s.2.length) qW.o;have h1:out.length=(((Sx.tq T P).take k).foldl (Sx.mo n) (T.goal.re*nk l n,cU (nk l) T.goal.re (Sx.tq T P) n)).2.length:=h1;have h2:=jzoa n (T.goal.re*nk l n) (cU (nk l) T.goal.re (Sx.tq T P) n) ((Sx.tq T P).take k);have h3:=jzf1 (nk l) T.goal.re (Sx.tq T P) n;have h4:=jzf0 HF.o.2.2;rw[h4]at h3;have h5:n*P.length<=3*P.length:=xS _ qO;rw[xF]at h2;omega);have vd:=Hx qh;have y0:=qg.o.1.cell 0;have y1:=qg.o.1.cell 1;have y2:=qg.o.1.cell 2;have y3:=qg.o.1.cell 3;have y4:=qg.o.1.cell 4;have p3:=qg.o.2.2.2.2.1.box.cell 3;have XB:Hid (Ext w9 (w9.alloc (.cells #[vI (n:Int),.s A pa.length c,.bool nh,.s H1 i1 j1,.s H2 i2 j2] 98))):=Hx ((eR w9).alloc _);have BW:=Hx (eN w9 98 #[vI (n:Int),.s A pa.length c,.bool nh,.s H1 i1 j1,.s H2 i2 j2]);have PB:=Hx (qg.o.2.2.2.2.1.K XB.o);obtain⟨css,h1,h2,qi,h4⟩:=PB.o.own;have vH:w5.heap.size<=(w9.alloc (.cells #[vI (n:Int),.s A pa.length c,.bool nh,.s H1 i1 j1,.s H2 i2 j2] 98)).heap.size:=PB.o.fr.size;clear qh;go_wp2_with (at_builtin;refine kS _ 34 98 _ 5 88 rfl _ _ rfl underlying34 jzff rfl qD w5.heap.size vK out.length css.flatten rfl qi [vI (n:Int),.s A pa.length c,.bool nh,.s H1 i1 j1,.s H2 i2 j2] rfl (by simp[Value.oneCell']) w9.heap.size rfl BW.o (by unfold maxLen;omega) qO vH ?_)
     intro g7 c7 qt qz qy qX;have k7:=eG (S:=fun b=>vK.ownBlock=some b) qy fun g e=>e;have n7:=fun tt (ht:98≠tt) (b:Nat) (hb:vK.ownBlock=some b)=>bQ qi hb ht;have qB:=Hx (k7.blk PB.o.box fun e=>bQ qi e qD _ _ PB.o.box);have k8:fu (fun b=>b=bp) qt (qt.setCell (aD bp 3) (.s (sA g7) (out.length+1) c7)):=eG (aM qt bp 3 _) fun g e=>(by injection e with e;exact e.symm);have n8:=fun tt (ht:37≠tt)=>oh.one qB.o ht;have z3:qt.frozen? (aD bp 3)=false:=qB.o.frozen _;have ze:qt.cell? (aD bp 3)=some vK:=qB.o.cell 3;have K9:=Hx (show(r-ff,out++[((n,pa),ff)])=((Sx.tq T P).take (k+1)).foldl (Sx.mo n) (T.goal.re*nk l n,cU (nk l) T.goal.re (Sx.tq T P) n)/\ak (qt.setCell (aD bp 3) (.s (sA g7) (out.length+1) c7)) br 33 #[.bool qf,.s T1 t1 u1,.s T2 t2 u2]/\aC (qt.setCell (aD bp 3) (.s (sA g7) (out.length+1) c7)) qf T1 t1 u1 T2 t2 u2 (r-ff)/\Gq w5 (qt.setCell (aD bp 3) (.s (sA g7) (out.length+1) c7)) bp gl (2*t.links.length) neg A1 n1 c1 A2 n2 c2 (.s (sA g7) (out.length+1) c7) (out++[((n,pa),ff)])from by
      have hq:=qU.o;rw[qE vd.o]at hq;have vn:=qg.o.2.2.1.K XB.o;refine⟨hq,k8.blk (k7.blk vn fun e=>bQ qi e qD _ _ vn) qO,k8.oz (n8 _ qD) (k7.oz (n7 _ qD) (qg.o.2.2.2.1.K XB.o)),qB.o.sT 3 _,?_,((PB.o.fr.tr k7 fun b hb=>.inr (qi.lt b hb).1).tr k8 fun b hb=>.inl hb)⟩;have qY:Ak Iq 98 5 qt w5.heap.size (.s (sA g7) (out.length+1) c7) (out++[((n,pa),ff)]):=
       Ak.pushed h1 h2 h4 (us:=[vI (n:Int),.s A pa.length c,.bool nh,.s H1 i1 j1,.s H2 i2 j2]) rfl (fun cs y _ hy=>hy.fr k7 (n7 _ qD) (n7 _ qD)) ⟨A,c,nh,H1,i1,j1,H2,i2,j2,rfl,PR.o.2,k7.Bz (n7 _ qD) (qg.o.2.2.2.2.2.K XB.o),k7.oz (n7 _ qD) (qg.o.2.1.K XB.o)⟩ qz
      refine qY.fr k8 (fun g hg e=>?_) fun cs y _ hy=>hy.fr k8 (n8 _ qD) (n8 _ qD);obtain⟨cs,qa⟩:=aT qz hg;rw[e]at qa;exact absurd (bI qa qB.o).2 qD)
     clear qz qy qX qi h1 h2 h4 css k7 n7 k8 n8 PB BW XB qB qg qU qW y0 y1 y2 y3 y4 p3;go_wp2;go_roundg (P.length-(k+1));exact⟨k+1,_,r-ff,_,qf,T1,t1,u1,T2,t2,u2,rfl,qO,by go_num,K9⟩;omega
    have q6:¬0<aB ff:=fun h=>qh ((sI ff).1 h);have vU:decide (0<aB ff)=false:=yP q6;have K9:Hid ((r-ff,out)=((Sx.tq T P).take (k+1)).foldl (Sx.mo n) (T.goal.re*nk l n,cU (nk l) T.goal.re (Sx.tq T P) n)/\ak w9 br 33 #[.bool qf,.s T1 t1 u1,.s T2 t2 u2]/\aC w9 qf T1 t1 u1 T2 t2 u2 (r-ff)/\Gq w5 w9 bp gl (2*t.links.length) neg A1 n1 c1 A2 n2 c2 vK out):=Hx (by have h9:=qU.o;rw[qF qh]at h9;exact⟨h9,qg.o.2.2.1,qg.o.2.2.2.1,qg.o.2.2.2.2.1⟩);clear qh qg qU qW;go_wp2;go_roundg (P.length-(k+1));exact⟨k+1,vK,r-ff,out,qf,T1,t1,u1,T2,t2,u2,rfl,qO,by go_num,K9⟩;omega
   have vz:((p.1:Int) !=(n:Int))=true:=bne_iff_ne.2 qO;have zc:¬((p.1:Int)=(n:Int)):=qO;have K9:Hid ((r,out)=((Sx.tq T P).take (k+1)).foldl (Sx.mo n) (T.goal.re*nk l n,cU (nk l) T.goal.re (Sx.tq T P) n)/\ak (wr.alloc (.cells #[vI (p.1:Int),.s A p.2.length c,bF,zN,zN] 98)) br 33 #[.bool nr,.s S1 e1 f1,.s S2 e2 f2]/\aC (wr.alloc (.cells #[vI (p.1:Int),.s A p.2.length c,bF,zN,zN] 98)) nr S1 e1 f1 S2 e2 f2 r/\Gq w5 (wr.alloc (.cells #[vI (p.1:Int),.s A p.2.length c,bF,zN,zN] 98)) bp gl (2*t.links.length) neg A1 n1 c1 A2 n2 c2 vK out):=Hx (by refine⟨?_,K.o.2.1.K ((eR wr).alloc _),K.o.2.2.1.K ((eR wr).alloc _),K.o.2.2.2.K ((eR wr).alloc _)⟩;rw[jzf2 ZK.o, <-K.o.1];unfold Sx.mo;rw[qF qV]);clear K;go_wp2;go_roundg (P.length-(k+1));exact⟨k+1,vK,r,out,nr,S1,e1,f1,S2,e2,f2,rfl,qO,by go_num,K9⟩;omega
  obtain rfl:k=P.length:=qO;have L9:Hid (Gq w5 wr bp gl (2*t.links.length) neg A1 n1 c1 A2 n2 c2 vK (cU (nk l) T.goal.re (Sx.tq T P) (n+1))):=Hx (by have h1:=congrArg (fun s=>s.2) K.o.1;have h1:out=(((Sx.tq T P).take P.length).foldl (Sx.mo n) (T.goal.re*nk l n,cU (nk l) T.goal.re (Sx.tq T P) n)).2:=h1;rw[yU (Nat.le_of_eq (jzf0 HF.o.2.2)),Sx.C9, <-jzfz]at h1;rw[<-h1];exact K.o.2.2.2);clear K;go_wp2;go_roundg (l.length-(n+1));exact⟨n+1,vK,rfl,qO,by go_num,L9⟩;omega
 obtain rfl:n=l.length:=qO;obtain⟨AQ,cQ,vW,v7⟩:=J.o.own.form;subst vW;have RB:=Hx (J.o.fr.blk (E1.o.1.K I5.o.2.2.2.2) (by have:=E1.o.1.lt;omega));have p0:=J.o.box.cell 0;have p1:=J.o.box.cell 1;have p2:=J.o.box.cell 2;have p3:=J.o.box.cell 3;have p4:=J.o.box.cell 4;have m0:=RB.o.cell 0;have m1:=RB.o.cell 1;have m2:=RB.o.cell 2;have m3:=RB.o.cell 3;have m4:=RB.o.cell 4;have r0:=RB.o.frozen 0;have r1:=RB.o.frozen 1;have r2:=RB.o.frozen 2;have r3:=RB.o.frozen 3;have r4:=RB.o.frozen 4;have vp:Hid (∀W,fu (fun b=>b=w.heap.size) wr W->jzfy w (2*t.links.length) T.goal.re (Sx.uj l.length (nk l) T.goal.re (Sx.tq T P)) ((Sx.Ba T).take (2*t.links.length)) (.returned (.agg #[.bool neg,.s A1 n1 c1,.s A2 n2 c2,.s AQ (cU (nk l) T.goal.re (Sx.tq T P) l.length).length cQ,.s (sA gl) (2*t.links.length) (2*t.links.length)])) W):=Hx (fun W k9=>by have hn:=fun tt (ht:37≠tt)=>oh.one RB.o ht;have vk:=fun tt (ht:37≠tt)=>oh.one I5.o.1 ht;refine⟨neg,A1,n1,c1,A2,n2,c2,AQ,cQ,gl,rfl,k9.oz (hn _ qD) (J.o.fr.oz (vk _ qD) I5.o.2.1),v7,?_,?_,k9.ext EW.o fun b hb=>by rw[hb];exact yX _⟩;{refine⟨_,J.o.own.fr k9 (fun g hg e=>?_) fun cs y _ hy=>hy.fr k9 (hn _ qD) (hn _ qD)⟩;obtain⟨xs,ho⟩:=J.o.own.own;obtain⟨cs,qa⟩:=aT ho hg;rw[e]at qa;exact absurd (bI qa RB.o).2 qD};have hq:QB wr gl (Sx.Ba T):=I5.o.2.2.1.fr J.o.fr (vk _ qD) fun e=>(by obtain⟨cs,qa⟩:=I5.o.2.2.1.blk;rw[e]at qa;exact absurd (bI qa I5.o.1).2 qD);have v6:QB W gl (Sx.Ba T):=hq.fr k9 (hn _ qD) fun e=>(by obtain⟨cs,qa⟩:=hq.blk;rw[e]at qa;exact absurd (bI qa RB.o).2 qD);exact⟨_,v6,rfl⟩);have qa:=((((RB.o.sT 0 (.bool neg)).sT 1 (.s A1 n1 c1)).sT 2 (.s A2 n2 c2)).sT 3 (.s AQ (cU (nk l) T.goal.re (Sx.tq T P) l.length).length cQ)).sT 4 (.s (sA gl) (2*t.links.length) (2*t.links.length));have HB:=Hx qa;have q9:=Hx (vp.o _ (eG (gS wr w.heap.size (.bool neg) (.s A1 n1 c1) (.s A2 n2 c2) (.s AQ (cU (nk l) T.goal.re (Sx.tq T P) l.length).length cQ) (.s (sA gl) (2*t.links.length) (2*t.links.length))) fun g e=>by injection e with e;exact e.symm));clear qa vp J;go_wp2;have qa:=HB.o;exact bodyPost_ret (v:=.agg #[.bool neg,.s A1 n1 c1,.s A2 n2 c2,.s AQ (cU (nk l) T.goal.re (Sx.tq T P) l.length).length cQ,.s (sA gl) (2*t.links.length) (2*t.links.length)]) (by simp[results,results33,go_sem,qa.cell]) rfl q9.o
def jzf3{t:Tp}{a:Nat}{l:Lk}(hl:t.links[a/2]?=some l)(h0:0<=l.c0/\0<=l.c1):((dJ t a:Nat):Int)=if a%2=0 then l.c0 else l.c1:=by
 unfold dJ;rw[hl];simp only[];split <;> omega
def jzf4{t}(hv:aG t=true){i:Nat}{l:Lk}(hl:t.links[i]?=some l):0<=l.c0/\0<=l.c1:=by
 unfold aG at hv;rw[vM,xW]at hv;have qa:=hv.2 l (yJ hl);unfold Lk.ok kg at qa;simp at qa;omega
def jzoc t AO(co:Nat)AL(cl:Nat)(a:Nat)w(ht:aR w t AO co AL cl)(hv:aG t=true)(ha:a/2<t.links.length):
  Calls prog 141 #[.agg #[vI t.nodes,.s AO t.over.length co,.s AL t.links.length cl],vI a] w fun e w'=>e=.returned (vI (dJ t a:Nat))/\Ext w w':=by
 have hl:=ht.ll;have qe:=ht.cl;obtain⟨l,qa⟩:∃l,t.links[a/2]?=some l:=⟨_,yG ha⟩;obtain⟨b,o,rfl,hb,c0,c1,c2,c3,_⟩:=ht.link qa;rw[jzf3 qa (jzf4 hv qa)];clear ht qa hv;by_cases h:a%2=0;{rw[qE h];have h':((a:Int)%2)=0:=qO;clear h;go_enter func141,ntmps141;go_wp2;go_ret;exact⟨rfl,(eR w).alloc _⟩};rw[qF h];have h':((a:Int)%2)=1:=qO;clear h;go_enter func141,ntmps141;go_wp2;go_ret;exact⟨rfl,(eR w).alloc _⟩
def jzod(n:Nat)w(hn:n<=2000000):
  Calls prog 184 #[zN,vI (n:Int)] w fun e w'=>∃v,e=.returned v/\w'.ownsRow w.heap.size 3 1 v 0 []/\Ext w w':=by
 have h1:¬((n:Int)<0):=qO;by_cases hz:n=0;{subst hz;go_enter func184,ntmps184;go_wp2;go_ret;exact⟨_,rfl,⟨rfl,.inl ⟨rfl,rfl⟩⟩,eR _⟩};obtain⟨ti,hi,qh,qm,qf⟩:=info_parts Tryz.info3;have h4:(n:Int)>0:=qO;have qg:∀ty,(Builtin.append_ #[42,3] ty #[zN,vI (n:Int)]).run prog w=.ok (.s (sA w.heap.size) n (grownCap w n 0 3)) (w.drew.alloc (.cells (([]:List Value).toArray++Builtin.zeroCells (Value.int .i64 0).cells n++Builtin.zeroCells (Value.int .i64 0).cells (grownCap w n 0 3-n)) 3)):=fun ty=>(by have h:=Lib.run_append_grow_zeros (P:=prog) w 42 3 ty 3 ti (vI 0) .i64 .i64 underlying42 underlying3 hi qh none 0 0 [] (run_firstCells_none _ _ 0 0 0) n qO qO qO qO (by rw[qf];omega) (by rw[qf,CU];exact growslice_fits qO qO);rw[CU]at h;exact h)
 have qj:n<=grownCap w n 0 3:=grownCap_ge w _ _ _;have qa:=grownCap_le_maxLen w n 0 3 (by unfold maxLen;omega);have qe:=Hx (show(w.drew.alloc (.cells (([]:List Value).toArray++Builtin.zeroCells (Value.int .i64 0).cells n++Builtin.zeroCells (Value.int .i64 0).cells (grownCap w n 0 3-n)) 3)).ownsRow w.heap.size 3 1 (.s (sA w.heap.size) 0 (grownCap w n 0 3)) 0 []/\Ext w (w.drew.alloc (.cells (([]:List Value).toArray++Builtin.zeroCells (Value.int .i64 0).cells n++Builtin.zeroCells (Value.int .i64 0).cells (grownCap w n 0 3-n)) 3))from
  ⟨World.ownsRow_made w.drew _ _ (yX _) qa (by simp[Builtin.zeroCells,Value.cells];omega),((eR w).drewN 1).alloc _⟩)
 obtain⟨G,hG⟩:∃G,G=grownCap w n 0 3:=⟨_,rfl⟩;rw[<-hG]at qg qj qa qe;obtain⟨W',qi⟩:∃W',W'=w.drew.alloc (.cells (([]:List Value).toArray++Builtin.zeroCells (Value.int .i64 0).cells n++Builtin.zeroCells (Value.int .i64 0).cells (G-n)) 3):=⟨_,rfl⟩;rw[<-qi]at qg qe;clear qi;have qk:G<=9223372036854775807:=(by unfold maxLen at qa;omega);clear hG hi qh qm qf qa;go_enter func184,ntmps184;go_wp2_with (at_builtin;refine Lib.wpList_append_run _ rfl _ _ _ _ rfl _ _ rfl rfl _ _ (qg _) ?_)
 all_goals
  go_ret;exact⟨_,rfl,qe.o.1,qe.o.2⟩
def Kq(r:OA×LN×Nat):Value:=.s r.1 r.2.1.length r.2.2
def eQ(rs:List (OA×LN×Nat)):Nat:=(rs.map fun r=>r.2.1.length).sum
def eS(rs:List (OA×LN×Nat)):LN:=(rs.map fun r=>r.2.1).flatten
def jzf5{rs:List (OA×LN×Nat)}{k:Nat}{r:OA×LN×Nat}(h:rs[k]?=some r):eQ (rs.take (k+1))=eQ (rs.take k)+r.2.1.length:=by
 unfold eQ;rw[Dj,h];simp
def jzoe{rs:List (OA×LN×Nat)}{k:Nat}{r:OA×LN×Nat}(h:rs[k]?=some r):eS (rs.take (k+1))=eS (rs.take k)++r.2.1:=by
 unfold eS;rw[Dj,h];simp
def jzof(rs:List (OA×LN×Nat)):(eS rs).length=eQ rs:=by
 unfold eS eQ;rw[List.length_flatten,List.map_map];rfl
def jzf6(rs:List (OA×LN×Nat))(k:Nat):eQ (rs.take k)<=eQ rs:=by
 have h:eQ rs=eQ (rs.take k)+eQ (rs.drop k):=(by unfold eQ;(conv=>lhs;rw[<-KH k rs]);rw[List.map_append,List.sum_append]);omega
def jzf7(a b:LN):ints (a++b)=ints a++ints b:=by unfold ints;rw[List.map_append]
def jzog(rs:List (OA×LN×Nat))(m b:Nat)w(hm:rs.length=m)(hb:ak w b 42 (rs.map Kq).toArray)(hr:∀r∈rs,og w 3 r.1 (ints r.2.1))(hn:m<=1000)(hs:eQ rs<=1000000):
  Calls prog 139 #[.s (sA b) m m] w fun e w'=>∃v,e=.returned v/\w'.ownsRow w.heap.size 3 1 v (eS rs).length (ints (eS rs))/\Ext w w':=by
 obtain⟨ti,hi,qo,qy,qz⟩:=info_parts Tryz.info3;have HB:=Hx hb;have HR:=Hx hr;have HM:=Hx hm;have HS:=Hx hs;have qp:=hb.lt;clear hb hr hm hs;go_enter func139,ntmps139;go_wp2;go_loopg [3,5,11] m (fun j st _ it wr=>∃(k:Nat),m-k=j/\k<=m/\it=vI (k:Int)/\st=vI (eQ (rs.take k):Nat)/\w=wr);exact⟨0,rfl,yZ _,rfl,rfl,rfl⟩;obtain⟨k,rfl,hk,rfl,rfl,rfl⟩:=hrel;by_cases qn:k<m;{obtain⟨r,hr⟩:∃r,rs[k]?=some r:=⟨_,yG (by rw[HM.o];exact qn)⟩;have qh:=jzf5 hr;have h1:=jzf6 rs (k+1);have h2:=HS.o;have iN:(k:Int)<(m:Int):=qO;have c0:w.cell? (aD b k)=some (.s r.1 r.2.1.length r.2.2):=(by rw[HB.o.cell];simp[hr,Kq]);rw[qh]at h1;have qf:=Hx qh;generalize eQ (rs.take k)=S at*;clear qh hr;go_wp2;go_roundg (m-(k+1));exact⟨k+1,rfl,qO,by go_num,by rw[qf.o];go_num,rfl⟩;omega};obtain rfl:k=m:=qO;have qm:¬(k:Int)<(k:Int):=qO;have qg:rs.take k=rs:=yU (by rw[HM.o];exact yX _);rw[qg];obtain⟨S,hS⟩:∃S,S=eQ rs:=⟨_,rfl⟩;have qt:=Hx hS;have qw:=Hx qg;rw[<-hS];clear hS qg;go_wp2_with fail;refine(jzod S _ (by rw[qt.o];have:=HS.o;omega)).mono ?_;rintro e w1 ⟨v1,rfl,o1,x1⟩;have O1:=Hx o1;have X1:=Hx x1;clear o1 x1;go_wp2;go_loopg [6,8,27] k (fun j ot _ it wx=>∃(i:Nat) (v:Value),k-i=j/\i<=k/\it=vI (i:Int)/\v=ot/\Hid (wx.ownsRow w.heap.size 3 1 v (eS (rs.take i)).length (ints (eS (rs.take i))))/\Hid (Ext w wx));exact⟨0,v1,rfl,yZ _,rfl,rfl,O1,X1⟩;obtain⟨i,v,rfl,qC,rfl,rfl,OI,XI⟩:=hrel;by_cases qx:i<k;{obtain⟨r,hr⟩:∃r,rs[i]?=some r:=⟨_,yG (by rw[HM.o];exact qx)⟩;have qf:=Hx (jzoe hr);have qi:(eS (rs.take i)).length+r.2.1.length<=1000000:=(by have h1:=jzf6 rs (i+1);have h2:=HS.o;have h3:=jzf5 hr;rw[jzof];omega);have iN:(i:Int)<(k:Int):=qO;have c0:wr.cell? (aD b i)=some (.s r.1 r.2.1.length r.2.2):=(by rw[XI.o.cell (p:=(aD b i)) qp,HB.o.cell];simp[hr,Kq]);have qj:=(HR.o r (yJ hr)).K XI.o;obtain⟨A,x,c⟩:=r;simp only at qi c0 qj qf;have qk:=Hx qj;clear hr qj;(go_wp2_with (at_builtin;go_must (refine nF _ rfl (.tmp 31) (.tmp 32) 42 rfl w.heap.size 3 ti (vI 0) 8 underlying42 hi qo qy qz rfl v (eS (rs.take i)).length (ints (eS (rs.take i))) rfl ?c0 A x.length c (ints x) rfl ?c1 ?c2 ?c3 (gW _) ?c4 ?c5 ?c6 ?_)));(case c0=>exact OI.o);(case c1=>exact(bX _).symm);(case c2=>exact qk.o.rd);(case c3=>intro hA;by_cases hx:x.length=0;{exact .inr hx};exfalso;obtain⟨b9,o9,qH,qB,e9,_⟩:=qk.o (fun e=>hx (by have:=congrArg List.length e;simpa [ints]using this));rw[hA]at e9;cases e9);(case c4=>unfold maxLen;omega);(case c5=>omega);(case c6=>exact XI.o.size);intro v2 w2 qe qa _;have X2:Hid (Ext w w2):=Hx (Below.grown XI.o qa XI.o.size (fun q hq=>(OI.o.lt q hq).1));have O2:Hid (w2.ownsRow w.heap.size 3 1 v2 (eS (rs.take (i+1))).length (ints (eS (rs.take (i+1))))):=Hx (by rw[qf.o,jzf7,yQ];exact qe);clear qe qa;go_wp2;go_roundg (k-(i+1));exact⟨i+1,v2,rfl,qO,by go_num,rfl,O2,X2⟩;omega};obtain rfl:i=k:=qO;have qm:¬(i:Int)<(i:Int):=qO;have O3:=OI.o;rw[qw.o]at O3;have qA:=Hx O3;clear O3;go_wp2;go_ret;exact⟨v,rfl,qA.o,XI.o⟩
def jzoh{w:World}{p:Addr}{v:Value}(h:w.cell? p=some v):p.block<w.heap.size:=by
 unfold World.cell? at h;rcases Bc p.block w.heap.size with hlt|hge
 ·exact hlt
 rw[Fx hge]at h;simp at h
def Ext.cell_{w w'}(hx:Ext w w'){p:Addr}{v:Value}(h:w.cell? p=some v):w'.cell? p=some v:=(hx.cell (jzoh h)).trans h
def Ao(t:Tp)(x y:Nat×LN):Prop:=¬dD t y.2 x.2<0
structure KF(w w':World)(q g g':Nat):Prop where
 os:w'.os=w.os
 tape:w'.tape=w.tape
 output:w'.output=w.output
 size:w.heap.size<=w'.heap.size
 block:∀b,b<w.heap.size->b≠q->b≠g->w'.heap[b]?=w.heap[b]?
 row:g'=g\/w.heap.size<=g'
def KF.Aj{w w'}(q g:Nat)(h:Ext w w'):KF w w' q g g:=⟨h.os,h.tape,h.output,h.size,fun b hb _ _=>h.block b hb,.inl rfl⟩
def KF.Kz{w w':World}(q:Nat){g:Nat}(h:w.grownBy w' (some g)):KF w w' q g g:=⟨h.os,h.tape,h.output,h.size,fun b hb _ hg=>h.block b hb (fun e=>hg (by injection e)),.inl rfl⟩
def KF.IU{w w':World}{q:Nat}(g:Nat)(h:w.grownBy w' (some q)):KF w w' q g g:=⟨h.os,h.tape,h.output,h.size,fun b hb hq _=>h.block b hb (fun e=>hq (by injection e)),.inl rfl⟩
def KF.tr{w w1 w2}{q g g1 g2:Nat}(h:KF w w1 q g g1)(k:KF w1 w2 q g1 g2):KF w w2 q g g2:=by
 refine⟨k.os.trans h.os,k.tape.trans h.tape,k.output.trans h.output,yY h.size k.size,fun b hb hq hg=>?_,?_⟩;{have h1:=h.size;rw[k.block b qO hq (fun e=>by (rcases h.row with h2|h2);{exact hg (e.trans h2)};omega)];exact h.block b hb hq hg};(have h1:=h.size;rcases k.row with h2|h2);{rw[h2];exact h.row};exact .inr qO
def KF.ext{w0 w w'}{q g g':Nat}(k:KF w w' q g g')(h:Ext w0 w)(hq:w0.heap.size<=q)(hg:w0.heap.size<=g):Ext w0 w':=by
 have h1:=h.size;exact⟨k.os.trans h.os,k.tape.trans h.tape,k.output.trans h.output,yY h.size k.size,fun b hb=>(k.block b qO qO qO).trans (h.block b hb)⟩
def KF.blk{w w'}{q g g' b:Nat}{t:TypeId}{cs:Array Value}(k:KF w w' q g g')(h:ak w b t cs)(hq:b≠q)(hg:b≠g):ak w' b t cs:=(k.block b h.lt hq hg).trans h
def KF.Bz{w w'}{q g g':Nat}{A}{xs:List Value}{csq csg:Array Value}(k:KF w w' q g g')(hq:ak w q 214 csq)(hg:ak w g 212 csg)(h:og w 3 A xs):og w' 3 A xs:=fun hx=>by
 obtain⟨b,o,cs,fr,e,hb,hc⟩:=h hx;refine⟨b,o,cs,fr,e,(k.block b (gB hb) (fun e=>?_) (fun e=>?_)).trans hb,hc⟩;{subst e;(unfold ak at hq;rw[hq]at hb;injection hb with hb);(injection hb with _ hb);exact absurd hb qD};{subst e;(unfold ak at hg;rw[hg]at hb;injection hb with hb);(injection hb with _ hb);exact absurd hb qD}
def KF.rdF{B:Nat}{w w'}{q g g':Nat}{A}{xs:List Value}{csq csg:Array Value}(k:KF w w' q g g')(hq:ak w q 214 csq)(hg:ak w g 212 csg)(h:Ce B w A xs):Ce B w' A xs:=⟨k.Bz hq hg h.1,h.2⟩
def jzoi(ca cb:Nat)AX AY(cx cy:Nat)(x y:LN)w(hx:Rd w AX (ints x))(hy:Rd w AY (ints y))(hxl:x.length<=1000000)(hyl:y.length<=1000000):
  Calls prog 149 #[vI (ca:Nat),vI (cb:Nat),.s AX x.length cx,.s AY y.length cy] w fun e w'=>e=.returned (vI (FH (aI ca cb) (aI x.length y.length) (bG x y)))/\Ext w w':=by
 have HX:=Hx hx;have HY:=Hx hy;obtain⟨R,hR⟩:∃R,R=FH (aI ca cb) (aI x.length y.length) (bG x y):=⟨_,rfl⟩;have HR:=Hx hR;rw[<-hR];clear hx hy hR;go_enter func149,ntmps149;go_wp2_with fail;refine(pW ca cb _).mono ?_;rintro e w1 ⟨rfl,rfl⟩;go_wp2_with fail;refine(pW x.length y.length _).mono ?_;rintro e w1 ⟨rfl,rfl⟩;go_wp2_with fail;refine(jzb8 AX AY cx cy x y _ HX.o HY.o hxl hyl).mono ?_;rintro e w1 ⟨rfl,rfl⟩;go_wp2_with fail;refine(jzb6 w.heap.size (aI ca cb) (aI x.length y.length) (bG x y) _ (eN _ _ _)).mono ?_;rintro e w7 ⟨rfl,rfl⟩;have qa:=Hx ((eR w).alloc (.cells #[vI (aI ca cb),vI (aI x.length y.length),vI (bG x y)] 3));go_wp2;go_ret;exact⟨by rw[HR.o];rfl,qa.o⟩
def oM t(B g n c i j:Nat)(hs:List (Nat×LN))(x y:Nat×LN)w(h:bW t w B g n c hs)(hx:hs[i]?=some x)(hy:hs[j]?=some y)(hxl:x.2.length<=1000000)(hyl:y.2.length<=1000000)(hn:n<=1000000):
  Calls prog 253 #[.s (sA g) n c,vI (i:Int),vI (j:Int)] w fun e w'=>e=.returned (.bool (decide (dD t x.2 y.2<0)))/\Ext w w':=by
 obtain⟨AX,kx,⟨x0,x1,x2,x3⟩,_,qe,rx⟩:=h.at_ hx;obtain⟨AY,ky,⟨y0,y1,y2,y3⟩,_,qa,ry⟩:=h.at_ hy;have hi:i<n:=(by have:=(yH.1 hx).1;have:=h.len;omega);have hj:j<n:=(by have:=(yH.1 hy).1;have:=h.len;omega);have iN:(i:Int)<(n:Int):=qO;have jN:(j:Int)<(n:Int):=qO;have XD:Hid (Ext w w.drew):=Hx ((eR w).drewN 1);have RR:=Hx (ah (rx.K XD.o) (ry.K XD.o));obtain⟨px,x⟩:=x;obtain⟨py,y⟩:=y;simp only at x1 x3 y1 y3 hxl hyl RR⊢;have HR:Hid (dD t x y=FH (aI (bC t x) (bC t y)) (aI x.length y.length) (bG x y)):=Hx (rfl);generalize bC t x=ca at*;generalize bC t y=cb at*;have i0:w.drew.cell? (aD g (i*4+1))=some (vI (ca:Int)):=x1;have i1:w.drew.cell? (aD g (i*4+3))=some (.s AX x.length kx):=x3;have j0:w.drew.cell? (aD g (j*4+1))=some (vI (cb:Int)):=y1;have j1:w.drew.cell? (aD g (j*4+3))=some (.s AY y.length ky):=y3;rw[HR.o];generalize hO:FH (aI ca cb) (aI x.length y.length) (bG x y)=O at*;have HO:=Hx hO;clear x0 x1 x2 x3 y0 y1 y2 y3 rx ry hx hy h hO;go_enter func253,ntmps253;go_wp2
 go_region_held3 (fun w'=>w'.C g (i*4+1) (vI (ca:Int))/\w'.C g (i*4+3) (.s AX x.length kx)/\w'.C g (j*4+1) (vI (cb:Int))/\w'.C g (j*4+3) (.s AY y.length ky))
  (first|with_reducible exact⟨i0,i1,j0,j1⟩|fail)
  (first
  |(go_at_call 149
    with_reducible refine(jzoi ca cb AX AY kx ky x y _ RR.o.1.rd RR.o.2.rd hxl hyl).mono ?_
    rintro e w5 ⟨rfl,x5⟩;rw[HO.o];have E5:=Hx (XD.o.tr x5);have i0:=x5.cell_ i0;have i1:=x5.cell_ i1;have j0:=x5.cell_ j0;have j1:=x5.cell_ j1;clear x5)
  |fail)
 go_wp2;go_ret;exact⟨rfl,E5.o⟩
def sJ A(n c:Nat)w:Calls prog 137 #[.s A n c] w fun e w'=>e=.returned (vI (n:Int))/\w=w':=by
 go_enter func137,ntmps137;go_wp2;go_ret;exact⟨rfl,rfl⟩
def jzoj{w:World}{B g n c s m:Nat}{e:TypeId}{xs:List Value}(h:w.ownsRow B e s (.s (sA g) n c) n xs)(hm:m<=n):w.ownsRow B e s (.s (sA g) m c) m (xs.take (m*s)):=by
 have hl:=h.1;have qa:m*s<=n*s:=xS s hm;refine⟨by rw[xF];omega,?_⟩;rcases h.2 with⟨h3,h4⟩|⟨g',cap,cur,h3,h4,h5,h6,h7,h8,h9⟩
 ·cases h3
 injection h3 with e1 e2 e3
 injection e1 with e1
 injection e1 with e1
 subst e1 e3;exact .inr ⟨g,c,cur,rfl,h4,h5,qO,h7,h8,by rw[<-h9,List.take_take,Ik qa]⟩
def bW.short{t}{w}{B g n c m:Nat}{hs:List (Nat×LN)}(h:bW t w B g n c hs)(hm:m<=n):bW t w B g m c (hs.take m):=by
 obtain⟨css,h1,h2,h3,h4⟩:=h.row;have hf:(css.take m).flatten=css.flatten.take (m*4):=(by clear h3 h4 h;(induction css generalizing m n with|nil=>simp|cons a l ih=>(cases m with|zero=>simp|succ m=>have ha:=h2 a qS;rw[List.take_succ_cons,List.flatten_cons,List.flatten_cons,List.take_append,yU (by omega:a.length<=(m+1)*4),ha,show(m+1)*4-4=m*4 by omega,ih (n:=l.length) (m:=m) (by simp at h1;omega) rfl (fun cs hc=>h2 cs (by simp[hc]))])));refine⟨by rw[xF,h.len];omega,css.take m,by rw[xF];omega,fun cs hc=>h2 cs (xM hc),by rw[hf];exact jzoj h3 hm,fun i z hz=>?_⟩;rw[xG]at hz;split at hz;{rename_i him;obtain⟨cs,k1,k2⟩:=h4 i z hz;exact⟨cs,by rw[xG,qE him];exact k1,k2⟩};cases hz
def bW.grown{t}{w w'}{B g n c q:Nat}{hs:List (Nat×LN)}{t':TypeId}{cs':Array Value}(h:bW t w B g n c hs)(hg:w.grownBy w' (some q))(hb:ak w q t' cs')(h1:3≠t')(h2:212≠t'):bW t w' B g n c hs:=by
 obtain⟨cg,qa⟩:=h.blk;obtain⟨css,q1,q2,q3,q4⟩:=h.row;refine⟨h.len,css,q1,q2,q3.kept hg (.inr (fun e=>?_)),fun i z hz=>?_⟩;{have e:g=q:=(by have:(Value.slice (sA g) n c).ownBlock=some g:=rfl;rw[this]at e;injection e);exact qa.ne_ hb h2 e};obtain⟨cs,k1,k2⟩:=q4 i z hz;exact⟨cs,k1,k2.other hg hb h1⟩
def iO(t:Tp)(z:Nat×LN)(A:OA)(k:Nat):Value:=.agg #[vI (z.1:Int),vI (bC t z.2:Nat),vI 0,.s A z.2.length k]
def jzx(t:Tp)(w:World)(B q g n c:Nat)(z:Nat×LN)(hs:List (Nat×LN))(e:Ending)(w':World):Prop:=
 ∃(A:OA) (k:Nat),e=.returned (.iface 212 (iO t z A k))/\z.2.length<=k/\Ce B w' A (ints z.2)/\Ar t w' B q g n c hs/\KF w w' q g g
def jzok t(B q g n c:Nat)(hs:List (Nat×LN))(z:Nat×LN)w(h:Ar t w B q g (n+1) c hs)(hz:hs[n]?=some z)(hn:n<=1000000)(hc:n+1<=c):
  Calls prog 254 #[.pointer (sA q)] w (jzx t w B q g n c z (hs.take n)):=by
 obtain⟨A,k,⟨x0,x1,x2,x3⟩,_,hk,rx⟩:=h.row.at_ hz;obtain⟨c0,f0⟩:=h.box.one;obtain⟨z1,z2⟩:=z;simp only at x0 x1 x3 hk rx;have hg:=aM w q 0 (.s (sA g) n c);have K1:=show Ar t (w.setCell (aD q 0) (.s (sA g) n c)) B q g n c (hs.take n)from⟨by have:=h.box.sT 0 (.s (sA g) n c);simpa using this,(h.row.short (Nat.le_succ n)).grown hg h.box qD qD⟩;have XB:=(eR (w.setCell (aD q 0) (.s (sA g) n c))).alloc (.cells #[vI (z1:Int),vI (bC t z2:Nat),vI 0,.s A z2.length k] 212);have qa:=Hx (ah (K1.K XB) (ah ((rx.other hg h.box qD).K XB) ((KF.IU g hg).tr (KF.Aj q g XB))));have qf:q<w.heap.size:=h.box.lt;unfold jzx iO;simp only;generalize bC t z2=kc at*;have qe:((n+1:Nat):Int)-1=(n:Int):=qO;clear h hz rx hg K1 XB;go_enter func254,ntmps254;go_wp2;go_ret;exact⟨A,k,rfl,hk,qa.o.2.1,qa.o.1,qa.o.2.2⟩
def Tryz.JN:(prog.info? 212).map (·.size)=some 4:=by kernel_rfl
def oc4{a b c d:Value}(h0:a.oneCell'=true)(h1:b.oneCell'=true)(h2:c.oneCell'=true)(h3:d.oneCell'=true):(#[a,b,c,d]:Array Value).all (·.oneCell')=true:=by simp[h0,h1,h2,h3]
def bW.blkN{t}{w}{B g n c:Nat}{hs:List (Nat×LN)}(h:bW t w B g n c hs){cs:Array Value}(hb:ak w g 212 cs):n*4<=cs.size:=by
 obtain⟨css,_,_,h3,_⟩:=h.row;rcases h3.2 with⟨e,_⟩|⟨g',cap,cur,e,_,h5,h6,_,h8,_⟩
 ·cases e
 injection e with e e2 e3
 injection e with e
 injection e with e
 subst e e3;unfold ak at hb;rw[show w.heap[g]?=_ from h5]at hb;injection hb with hb
 injection hb with hb
 subst hb;omega
def oN t(B g n c i j:Nat)(hs:List (Nat×LN))(x y:Nat×LN)w(h:bW t w B g n c hs)(hx:hs[i]?=some x)(hy:hs[j]?=some y)(hn:n<=1000000):
  Calls prog 256 #[.s (sA g) n c,vI (i:Int),vI (j:Int)] w fun e w'=>e=.returned (.tuple #[])/\bW t w' B g n c (bM hs i j)/\w.grownBy w' (some g):=by
 obtain⟨AX,kx,⟨x0,x1,x2,x3⟩,⟨p0,p1,p2,p3⟩,qj,rx⟩:=h.at_ hx;obtain⟨AY,ky,⟨y0,y1,y2,y3⟩,⟨q0,q1,q2,q3⟩,qi,ry⟩:=h.at_ hy;have hi:i<n:=(by have:=(yH.1 hx).1;have:=h.len;omega);have hj:j<n:=(by have:=(yH.1 hy).1;have:=h.len;omega);have iN:(i:Int)<(n:Int):=qO;have jN:(j:Int)<(n:Int):=qO;obtain⟨cb,hb⟩:=h.blk;have qf:ak w.drew g 212 cb:=hb;have TH:=fun(W:World) (cs:Array Value) (hB:ak W g 212 cs) (hsz:cs.size=cb.size) (m:Nat) (hm:m<n)=>(show W.there g (m*4) 4 from fun q hq=>⟨by rw[hB.cell,Array.getElem?_eq_getElem (by rw[hsz];have:=h.blkN hb;omega)];rfl,hB.frozen _⟩);have T0:=Hx (TH _ _ qf rfl i hi);have T1:=Hx (TH _ _ ((((qf.sT (i*4) (vI (y.1:Int))).sT (i*4+1) (vI (bC t y.2:Nat))).sT (i*4+2) (vI 0)).sT (i*4+3) (.s AY y.2.length ky)) qS j hj);have qh:=jzb w.drew g i (vI (y.1:Int)) (vI (bC t y.2:Nat)) (vI 0) (.s AY y.2.length ky);have XD:=show Ext w w.drew from(eR w).drewN 1;have qa:=Hx (ah (((h.K XD).put (z:=y) hi qi (ry.K XD)).put (z:=x) hj qj ((rx.K XD).other qh qf qD)) ((show w.grownBy w.drew (some g)from⟨XD.os,XD.tape,XD.output,XD.size,fun b hb _=>XD.block b hb⟩).trans (qh.trans (jzb _ g j (vI (x.1:Int)) (vI (bC t x.2:Nat)) (vI 0) (.s AX x.2.length kx)))));have SW:=Hx (jza hx hy);have HI:=Hx Tryz.JN;obtain⟨px,x⟩:=x;obtain⟨py,y⟩:=y;simp only at x0 x1 x3 y0 y1 y3 qa SW T1⊢;generalize bC t x=ca at*;generalize bC t y=cb at*;clear qh rx ry hx hy h hb qf TH XD;obtain⟨W1,qe⟩:∃W1,W1=w.drew.setCells g (i*4) (#[vI (py:Int),vI (cb:Int),vI 0,.s AY y.length ky]:Array Value).toList:=⟨_,rfl⟩;obtain⟨W2,qg⟩:∃W2,W2=W1.setCells g (j*4) (#[vI (px:Int),vI (ca:Int),vI 0,.s AX x.length kx]:Array Value).toList:=⟨_,rfl⟩;have T1:Hid (W1.there g (j*4) 4):=Hx (by rw[qe];exact T1.o);have qa:Hid (bW t W2 B g n c ((hs.set i (py,y)).set j (px,x))/\w.grownBy W2 (some g)):=Hx (by rw[qg,qe];exact qa.o);have qm:=Hx qe;have qk:=Hx qg;clear qe qg;go_enter func256,ntmps256;(go_wp2;refine wp_region_any qK ?_;try (change wpAny _ _ _ _ _ _ _ (World.drew _)));refine wpAny_take (i:=0) (v:=?_) rfl qK qK qK (fun _ _ _ h=>h) (DF ⟨qR,?_⟩) ?_;rotate_left;(focus (intro w;go_simp;try with_reducible rfl));refine wpAny_take (i:=1) (v:=?_) rfl qK qK qK (fun _ _ _ h=>h) (DF ⟨qR,?_⟩) ?_;rotate_left;(focus (intro w;go_simp;try with_reducible rfl));refine wpAny_take (i:=2) (v:=?_) rfl qK qK qK (fun _ _ _ h=>h) (DF ⟨qR,?_⟩) ?_;rotate_left;(focus (intro w;go_simp;try with_reducible rfl));refine wpAny_take (i:=3) (v:=?_) rfl qK qK qK (fun _ _ _ h=>h) (DF ⟨qR,?_⟩) ?_;rotate_left;(focus (intro w;go_simp;try with_reducible rfl));refine wpAny_take (i:=4) (v:=?_) rfl qK qK qK (fun _ _ _ h=>h) (DF ⟨qR,?_⟩) ?_;rotate_left;(focus (intro w;go_simp;try with_reducible rfl));refine wpAny_take (i:=5) (v:=?_) rfl qK qK qK (fun _ _ _ h=>h) (DF ⟨qR,?_⟩) ?_;rotate_left;(focus (intro w;go_simp;try with_reducible rfl));refine wpAny_take (i:=6) (v:=?_) rfl qK qK qK (fun _ _ _ h=>h) (DF ⟨qR,?_⟩) ?_;rotate_left;(focus (intro w;go_simp;try with_reducible rfl));refine wpAny_take (i:=8) (v:=?_) rfl qK qK qK (fun _ _ _ h=>h) (DF ⟨qR,?_⟩) ?_;rotate_left;(focus (intro w;go_simp;try with_reducible rfl));refine wpAny_take (i:=9) (v:=?_) rfl qK qK qK (fun _ _ _ h=>h) (DF ⟨qR,?_⟩) ?_;rotate_left;(focus (intro w;go_simp;try with_reducible rfl));refine wpAny_take (i:=10) (v:=?_) rfl qK qK qK (fun _ _ _ h=>h) (DF ⟨qR,?_⟩) ?_;rotate_left;(focus (intro w;go_simp;try with_reducible rfl));refine wpAny_ready (rs:=[7,11]) qK qS ?_;refine AllReady.cons rfl (fun K hK=>?_) (AllReady.cons rfl (fun K hK=>?_) AllReady.nil);rotate_left
 focus
  go_simp;refine hK _ _ ?_;clear hK K;refine wpAny_ready (rs:=[7]) qK qS ?_;refine AllReady.cons rfl (fun K hK=>?_) AllReady.nil;go_simp;refine hK _ _ ?_;clear hK K
 rotate_left
 focus
  go_simp;refine hK _ _ ?_;clear hK K;refine wpAny_ready (rs:=[11]) qK qS ?_;refine AllReady.cons rfl (fun K hK=>?_) AllReady.nil;go_simp;refine hK _ _ ?_;clear hK K
 all_goals
  refine wpAny_take (i:=12) (v:=?_) rfl qK qK qK (fun _ _ _ h=>h) (DF ⟨qR,?_⟩) ?_;rotate_left
  focus (intro w;go_simp;try with_reducible rfl)
  refine wpAny_ready (rs:=[13]) qK qS ?_;refine AllReady.cons rfl (fun K hK=>?_) AllReady.nil;rw[qE qR];refine wp_store_mid 212 (.tmp 18) (.tmp 13) qR g (i*4) #[vI (py:Int),vI (cb:Int),vI 0,.s AY y.length ky] qR qR T0.o HI.o (oc4 rfl rfl rfl rfl) ?_;rw[<-qm.o];refine hK _ _ ?_;clear hK K;refine wpAny_take (i:=14) (v:=?_) rfl qK qK qK (fun _ _ _ h=>h) (DF ⟨qR,?_⟩) ?_;rotate_left
  focus (intro w;go_simp;try with_reducible rfl)
  refine wpAny_ready (rs:=[15]) qK qS ?_;refine AllReady.cons rfl (fun K hK=>?_) AllReady.nil;rw[qE qR];refine wp_store_mid 212 (.tmp 19) (.tmp 17) qR g (j*4) #[vI (px:Int),vI (ca:Int),vI 0,.s AX x.length kx] qR qR T1.o HI.o (oc4 rfl rfl rfl rfl) ?_;rw[<-qk.o];refine hK _ _ ?_;clear hK K;refine wpAny_done qK ?_ _;go_wp2
  go_end0
  exact⟨rfl,by rw[SW.o];exact qa.o.1,qa.o.2⟩
def jzol(P:Program)(ts:Array TypeId)(xt:TypeId)(a:Addr)(x y:String)w:(Builtin.ssaWrapNilChk_ ts xt #[.pointer (some a),strVal x,strVal y]).run P w=.ok (.pointer (some a)) w:=rfl
def jzom{P:Program}{K t e f:Nat}{name:String}{i:TypeInfo}{m:Method}(hi:P.info? t=some i)(hm:i.methods.find? (fun x=>x.name==name)=some m)(hp:m.path=#[])(hf:m.func=some (f,false))(ht:P.underlying t=some (.pointer e))(a:Addr)(v:Value)w(hl:(loadVar e a).run P w=.ok v w):
  (method (K+1) t (.pointer (some a)) name).run P w=.ok (f,v) w:=by
 have qa:(method (K+1) t (.pointer (some a)) name).run P w=((loadVar e a).run P w).andThen fun v w'=>.ok (f,v) w':=(by unfold method;simp[typeInfo,hi,hm,hp,hf,follow,receiverAt,run_underlying ht,Place.get,jzol,asAddr,go_sem]);rw[qa,hl];rfl
def jzon(q n c:Nat)A(w:World)(hb:w.C q 0 (.s A n c)):(loadVar 214 (aD q 0)).run prog w=.ok (.s A n c) w:=by
 simp[loadVar,go_sem,hb]
def KG(name:String)(f:Nat)(h:((prog.info? 210).bind fun i=>(i.methods.find? (fun x=>x.name==name)).map fun m=>(m.path,m.func))=some (#[],some (f,false)))(q n c:Nat)A(w:World)(hb:w.C q 0 (.s A n c)):(method 429 210 (.pointer (sA q)) name).run prog w=.ok (f,.s A n c) w:=by
 (cases hi:prog.info? 210 with|none=>rw[hi]at h;cases h|some i=>(rw[hi]at h;cases hm:i.methods.find? (fun x=>x.name==name)with|none=>simp[hm]at h|some m=>simp[hm]at h;exact jzom (K:=428) hi hm h.1 h.2 underlying210 _ _ w (jzon q n c A w hb)))
def mLen(q n c:Nat)A(w:World)(hb:w.C q 0 (.s A n c)):(method 429 210 (.pointer (sA q)) "Len").run prog w=.ok (137,.s A n c) w:=KG "Len" 137 qK q n c A w hb
def oO(q n c:Nat)A(w:World)(hb:w.C q 0 (.s A n c)):(method 429 210 (.pointer (sA q)) "Less").run prog w=.ok (253,.s A n c) w:=KG "Less" 253 qK q n c A w hb
def oP(q n c:Nat)A(w:World)(hb:w.C q 0 (.s A n c)):(method 429 210 (.pointer (sA q)) "Swap").run prog w=.ok (256,.s A n c) w:=KG "Swap" 256 qK q n c A w hb
def jzoo(q:Nat)w:(method 429 210 (.pointer (sA q)) "Push").run prog w=.ok (255,.pointer (sA q)) w:=by kernel_rfl
def mPop(q:Nat)w:(method 429 210 (.pointer (sA q)) "Pop").run prog w=.ok (254,.pointer (sA q)) w:=by kernel_rfl
def oQ{t}(o:Jy (Ao t)){x y:Nat×LN}(h:dD t x.2 y.2<0):Ao t x y:=by
 rcases o.tot x y with h1|h1
 ·exact h1
 exact absurd h h1
def Ar.swap{t}{w w'}{B q g n c:Nat}{hs hs':List (Nat×LN)}(h:Ar t w B q g n c hs)(hr:bW t w' B g n c hs')(hg:w.grownBy w' (some g)):Ar t w' B q g n c hs'/\KF w w' q g g:=by
 obtain⟨cg,qa⟩:=h.row.blk;exact⟨⟨(hg.block q h.box.lt (fun e=>by injection e with e;exact h.box.ne_ qa qD e)).trans h.box,hr⟩,KF.Kz q hg⟩
def jzop t(o:Jy (Ao t))(B q g n c j:Nat)(hs:List (Nat×LN))w(h:Ar t w B q g n c hs)(hup:Ib (Ao t) hs n j)(hj:j<n)(hlen:∀z∈hs,z.2.length<=1000000)(hn:n<=1000000):
  Calls prog 185 #[.iface 210 (.pointer (sA q)),vI (j:Int)] w fun e w'=>e=.returned (.tuple #[])/\∃qa,qa.Perm hs/\cT (Ao t) qa n/\Ar t w' B q g n c qa/\KF w w' q g g:=by
 have S0:Hid (hs.Perm hs/\Ib (Ao t) hs n j/\Ar t w B q g n c hs/\KF w w q g g):=Hx (⟨.refl _,hup,h,KF.Aj q g (eR _)⟩);have HL:=Hx hlen;have O:=Hx o;clear h hup hlen o;go_enter func185,ntmps185;go_wp2;go_loopg [1,4] j (fun m jt _ wr=>∃(k:Nat) (qa:List (Nat×LN)),k=m/\k<n/\jt=vI (k:Int)/\Hid (qa.Perm hs/\Ib (Ao t) qa n k/\Ar t wr B q g n c qa/\KF w wr q g g));exact⟨j,hs,rfl,hj,rfl,S0⟩;obtain⟨k,qa,rfl,hk,rfl,L⟩:=hrel;by_cases h0:k=0;{subst h0;have qf:Hid (∃qa,qa.Perm hs/\cT (Ao t) qa n/\Ar t wr B q g n c qa/\KF w wr q g g):=Hx (⟨qa,L.o.1,L.o.2.1.done (.inl rfl),L.o.2.2⟩);have qm:((0:Int)-1).tdiv 2=0:=qD;clear L;go_wp2;(go_end0);exact⟨rfl,qf.o⟩};obtain⟨i,hi⟩:∃i,i=(k-1)/2:=⟨_,rfl⟩;have qj:i<k:=qO;have qk:((k:Int)-1).tdiv 2=(i:Int):=(by rw[Int.tdiv_eq_ediv_of_nonneg qO];omega);have qi:((i:Int)==(k:Int))=false:=yK.2 qO;have HI:=Hx hi;have hl:=L.o.2.2.1.row.len;obtain⟨x,hx⟩:∃x,qa[k]?=some x:=⟨_,yG qO⟩;obtain⟨y,hy⟩:∃y,qa[i]?=some y:=⟨_,yG qO⟩;have qg:=HL.o x (L.o.1.mem_iff.1 (yJ hx));have qh:=HL.o y (L.o.1.mem_iff.1 (yJ hy));have hm:=oO q n c (sA g) wr L.o.2.2.1.box.one.1;have HX:=Hx (ah hx hy);clear hi hl hx hy;go_wp2_with fail;refine(oM t B g n c k i qa x y _ L.o.2.2.1.row HX.o.1 HX.o.2 qg qh hn).r fun w1 x1=>?_;have L1:Hid (qa.Perm hs/\Ib (Ao t) qa n k/\Ar t w1 B q g n c qa/\KF w w1 q g g):=Hx (⟨L.o.1,L.o.2.1,L.o.2.2.1.K x1,L.o.2.2.2.tr (KF.Aj q g x1)⟩);clear L x1 hm;by_cases qe:dD t x.2 y.2<0;{have hd:decide (dD t x.2 y.2<0)=true:=yO qe;rw[hd];have UP:Hid (Ib (Ao t) (bM qa i k) n i):=Hx (by have:=L1.o.2.1.step O.o qO hk (by rw[<-HI.o];exact HX.o.2) HX.o.1 (oQ O.o qe);rw[<-HI.o]at this;exact this);have PM:=Hx ((oF HX.o.2 HX.o.1).trans L1.o.1);have hm:=oP q n c (sA g) w1 L1.o.2.2.1.box.one.1;clear qe hd;go_wp2_with fail;refine(oN t B g n c i k qa y x _ L1.o.2.2.1.row HX.o.2 HX.o.1 hn).mono ?_;rintro e w2 ⟨rfl,r2,g2⟩;have Q2:=L1.o.2.2.1.swap r2 g2;have L2:Hid ((bM qa i k).Perm hs/\Ib (Ao t) (bM qa i k) n i/\Ar t w2 B q g n c (bM qa i k)/\KF w w2 q g g):=Hx (⟨PM.o,UP.o,Q2.1,L1.o.2.2.2.tr Q2.2⟩);clear r2 g2 Q2 hm;go_wp2;go_roundg i;exact⟨i,bM qa i k,rfl,qO,rfl,L2⟩;omega};have hd:decide (dD t x.2 y.2<0)=false:=yP qe;rw[hd];have qf:Hid (∃qa,qa.Perm hs/\cT (Ao t) qa n/\Ar t w1 B q g n c qa/\KF w w1 q g g):=Hx (⟨qa,L1.o.1,L1.o.2.1.done (.inr (fun a b ha hb=>by (rw[<-HI.o,HX.o.2]at ha;rw[HX.o.1]at hb;injection ha with ha;injection hb with hb);subst ha hb;exact qe)),L1.o.2.2⟩);clear qe hd;go_wp2;(go_end0);exact⟨rfl,qf.o⟩
def jzoq t(o:Jy (Ao t))(B q g n c m:Nat)(hs:List (Nat×LN))w(h:Ar t w B q g n c hs)(hdn:dS (Ao t) hs m 0)(hmn:m<=n)(hlen:∀z∈hs,z.2.length<=1000000)(hn:n<=1000000):
  Calls prog 183 #[.iface 210 (.pointer (sA q)),vI 0,vI (m:Int)] w fun e w'=>(∃b:Bool,e=.returned (.bool b))/\∃qa,qa.Perm hs/\cT (Ao t) qa m/\(∀k,m<=k->qa[k]?=hs[k]?)/\Ar t w' B q g n c qa/\KF w w' q g g:=by
 have S0:Hid (dS (Ao t) hs m 0/\Ar t w B q g n c hs/\KF w w q g g):=Hx (⟨hdn,h,KF.Aj q g (eR _)⟩);have HL:=Hx hlen;have O:=Hx o;clear h hdn hlen o;go_enter func183,ntmps183;go_wp2;go_loopg [7,8,9,10] m (fun mm it _ _ _ wr=>∃(i:Nat) (qa:List (Nat×LN)),m-i=mm/\i<=m/\it=vI (i:Int)/\Hid (qa.Perm hs/\dS (Ao t) qa m i/\(∀k,m<=k->qa[k]?=hs[k]?)/\Ar t wr B q g n c qa/\KF w wr q g g));exact⟨0,hs,rfl,yZ _,rfl,Hx ⟨.refl _,S0.o.1,fun _ _=>rfl,S0.o.2.1,S0.o.2.2⟩⟩;obtain⟨i,qa,rfl,qT,rfl,L⟩:=hrel;obtain⟨j1,qt⟩:∃j1,j1=2*i+1:=⟨_,rfl⟩;have qM:(2:Int)*(i:Int)+1=(j1:Int):=qO;have qi:=Hx qt;by_cases h1:m<=j1;{(have qJ:(m:Int)<=(j1:Int):=by omega);have qh:Hid (∃qa,qa.Perm hs/\cT (Ao t) qa m/\(∀k,m<=k->qa[k]?=hs[k]?)/\Ar t wr B q g n c qa/\KF w wr q g g):=Hx (⟨qa,L.o.1,L.o.2.1.done (fun k a b hk0 hkm hki=>qO),L.o.2.2⟩);clear L qt;go_wp2;go_ret;exact⟨⟨_,rfl⟩,qh.o⟩};have qB:¬(m:Int)<=(j1:Int):=qO;have qI:¬((j1:Int)<0):=qO;have hl:=L.o.2.2.2.1.row.len;obtain⟨x,hx⟩:∃x,qa[i]?=some x:=⟨_,yG qO⟩;obtain⟨y,hy⟩:∃y,qa[j1]?=some y:=⟨_,yG qO⟩;have qp:=HL.o x (L.o.1.mem_iff.1 (yJ hx));have qC:=HL.o y (L.o.1.mem_iff.1 (yJ hy));have HX:=Hx (ah hx hy);have qm:j1<m:=qO;obtain⟨j2,qz⟩:∃j2,j2=j1+1:=⟨_,rfl⟩;have qQ:(j1:Int)+1=(j2:Int):=qO;have qo:=Hx qz;clear hx hy qt h1;by_cases h2:j2<m;{(have qy:(j2:Int)<(m:Int):=by omega);obtain⟨y2,qw⟩:∃y2,qa[j2]?=some y2:=⟨_,yG qO⟩;have qx:=HL.o y2 (L.o.1.mem_iff.1 (yJ qw));have qj:=Hx qw;have qH:=oO q n c (sA g) wr L.o.2.2.2.1.box.one.1;clear hl qw qz;go_wp2_with fail;refine(oM t B g n c j2 j1 qa y2 y _ L.o.2.2.2.1.row qj.o HX.o.2 qx qC hn).r fun wx x2=>?_;have M:Hid (qa.Perm hs/\dS (Ao t) qa m i/\(∀k,m<=k->qa[k]?=hs[k]?)/\Ar t wx B q g n c qa/\KF w wx q g g):=Hx (⟨L.o.1,L.o.2.1,L.o.2.2.1,L.o.2.2.2.1.K x2,L.o.2.2.2.2.tr (KF.Aj q g x2)⟩);clear L x2 qH;by_cases qf:dD t y2.2 y.2<0;{have hd:decide (dD t y2.2 y.2<0)=true:=yO qf;rw[hd];obtain⟨z,hz⟩:∃z,z=y2:=⟨_,rfl⟩;have HZ:=Hx (show qa[j2]?=some z by rw[hz];exact qj.o);have qg:=Hx (show(j2-1)/2=i by have:=qi.o;have:=qo.o;omega);have qk:j2<m:=h2;have qe:Hid (∀(k:Nat) (c:Nat×LN),0<k->k<m->(k-1)/2=i->qa[k]?=some c->Ao t z c):=Hx (fun k c hk0 hkm hki hc=>by (have:=qi.o;have:=qo.o;rcases(show k=j1\/k=j2 by omega)with e|e);{subst e;(rw[HX.o.2]at hc;injection hc with hc;subst hc);rw[hz];exact oQ O.o qf};(subst e;rw[HZ.o]at hc;injection hc with hc;subst hc);exact O.o.refl _);clear hd qf hz qj;have qn:=HL.o z (M.o.1.mem_iff.1 (yJ HZ.o));have hm:=oO q n c (sA g) wx M.o.2.2.2.1.box.one.1;go_wp2_with fail;refine(oM t B g n c j2 i qa z x _ M.o.2.2.2.1.row HZ.o HX.o.1 qn qp hn).r fun w3 x3=>?_;have M3:Hid (qa.Perm hs/\dS (Ao t) qa m i/\(∀k,m<=k->qa[k]?=hs[k]?)/\Ar t w3 B q g n c qa/\KF w w3 q g g):=Hx (⟨M.o.1,M.o.2.1,M.o.2.2.1,M.o.2.2.2.1.K x3,M.o.2.2.2.2.tr (KF.Aj q g x3)⟩);clear x3 hm;by_cases qf:dD t z.2 x.2<0;{have hd:decide (dD t z.2 x.2<0)=true:=yO qf;rw[hd];have DN:Hid (dS (Ao t) (bM qa i j2) m j2):=Hx (M3.o.2.1.step O.o qO qk qg.o HX.o.1 HZ.o (oQ O.o qf) qe.o);have PM:=Hx ((oF HX.o.1 HZ.o).trans M3.o.1);have KP:Hid (∀k,m<=k->(bM qa i j2)[k]?=hs[k]?):=Hx (fun k hk=>by rw[lV HX.o.1 HZ.o,qF qO,qF qO];exact M3.o.2.2.1 k hk);have hm:=oP q n c (sA g) w3 M3.o.2.2.2.1.box.one.1;clear qf hd;go_wp2_with fail;refine(oN t B g n c i j2 qa x z _ M3.o.2.2.2.1.row HX.o.1 HZ.o hn).mono ?_;rintro e w4 ⟨rfl,r4,g4⟩;have Q4:=M3.o.2.2.2.1.swap r4 g4;have L4:Hid ((bM qa i j2).Perm hs/\dS (Ao t) (bM qa i j2) m j2/\(∀k,m<=k->(bM qa i j2)[k]?=hs[k]?)/\Ar t w4 B q g n c (bM qa i j2)/\KF w w4 q g g):=Hx (⟨PM.o,DN.o,KP.o,Q4.1,M3.o.2.2.2.2.tr Q4.2⟩);clear r4 g4 Q4 qe hm;go_wp2;go_roundg (m-j2);exact⟨j2,bM qa i j2,rfl,qO,rfl,L4⟩;omega};have hd:decide (dD t z.2 x.2<0)=false:=yP qf;rw[hd];have qh:Hid (∃qa,qa.Perm hs/\cT (Ao t) qa m/\(∀k,m<=k->qa[k]?=hs[k]?)/\Ar t w3 B q g n c qa/\KF w w3 q g g):=Hx (⟨qa,M3.o.1,M3.o.2.1.done (fun k a b hk0 hkm hki ha hb=>by (rw[HX.o.1]at ha;injection ha with ha);subst ha;exact O.o.tr _ _ _ (show Ao t x z from qf) (qe.o k b hk0 hkm hki hb)),M3.o.2.2⟩);clear qe qf hd;go_wp2;go_ret;exact⟨⟨_,rfl⟩,qh.o⟩};have hd:decide (dD t y2.2 y.2<0)=false:=yP qf;rw[hd];obtain⟨z,hz⟩:∃z,z=y:=⟨_,rfl⟩;have HZ:=Hx (show qa[j1]?=some z by rw[hz];exact HX.o.2);have qg:=Hx (show(j1-1)/2=i by have:=qi.o;omega);have qk:j1<m:=qm;have qe:Hid (∀(k:Nat) (c:Nat×LN),0<k->k<m->(k-1)/2=i->qa[k]?=some c->Ao t z c):=Hx (fun k c hk0 hkm hki hc=>by (have:=qi.o;have:=qo.o;rcases(show k=j1\/k=j2 by omega)with e|e);{subst e;(rw[HZ.o]at hc;injection hc with hc;subst hc);exact O.o.refl _};(subst e;rw[qj.o]at hc;injection hc with hc;subst hc);rw[hz];exact qf);clear hd qf hz qj;have qn:=HL.o z (M.o.1.mem_iff.1 (yJ HZ.o));have hm:=oO q n c (sA g) wx M.o.2.2.2.1.box.one.1;go_wp2_with fail;refine(oM t B g n c j1 i qa z x _ M.o.2.2.2.1.row HZ.o HX.o.1 qn qp hn).r fun w3 x3=>?_;have M3:Hid (qa.Perm hs/\dS (Ao t) qa m i/\(∀k,m<=k->qa[k]?=hs[k]?)/\Ar t w3 B q g n c qa/\KF w w3 q g g):=Hx (⟨M.o.1,M.o.2.1,M.o.2.2.1,M.o.2.2.2.1.K x3,M.o.2.2.2.2.tr (KF.Aj q g x3)⟩);clear x3 hm;by_cases qf:dD t z.2 x.2<0;{have hd:decide (dD t z.2 x.2<0)=true:=yO qf;rw[hd];have DN:Hid (dS (Ao t) (bM qa i j1) m j1):=Hx (M3.o.2.1.step O.o qO qk qg.o HX.o.1 HZ.o (oQ O.o qf) qe.o);have PM:=Hx ((oF HX.o.1 HZ.o).trans M3.o.1);have KP:Hid (∀k,m<=k->(bM qa i j1)[k]?=hs[k]?):=Hx (fun k hk=>by rw[lV HX.o.1 HZ.o,qF qO,qF qO];exact M3.o.2.2.1 k hk);have hm:=oP q n c (sA g) w3 M3.o.2.2.2.1.box.one.1;clear qf hd;go_wp2_with fail;refine(oN t B g n c i j1 qa x z _ M3.o.2.2.2.1.row HX.o.1 HZ.o hn).mono ?_;rintro e w4 ⟨rfl,r4,g4⟩;have Q4:=M3.o.2.2.2.1.swap r4 g4;have L4:Hid ((bM qa i j1).Perm hs/\dS (Ao t) (bM qa i j1) m j1/\(∀k,m<=k->(bM qa i j1)[k]?=hs[k]?)/\Ar t w4 B q g n c (bM qa i j1)/\KF w w4 q g g):=Hx (⟨PM.o,DN.o,KP.o,Q4.1,M3.o.2.2.2.2.tr Q4.2⟩);clear r4 g4 Q4 qe hm;go_wp2;go_roundg (m-j1);exact⟨j1,bM qa i j1,rfl,qO,rfl,L4⟩;omega};have hd:decide (dD t z.2 x.2<0)=false:=yP qf;rw[hd];have qh:Hid (∃qa,qa.Perm hs/\cT (Ao t) qa m/\(∀k,m<=k->qa[k]?=hs[k]?)/\Ar t w3 B q g n c qa/\KF w w3 q g g):=Hx (⟨qa,M3.o.1,M3.o.2.1.done (fun k a b hk0 hkm hki ha hb=>by (rw[HX.o.1]at ha;injection ha with ha);subst ha;exact O.o.tr _ _ _ (show Ao t x z from qf) (qe.o k b hk0 hkm hki hb)),M3.o.2.2⟩);clear qe qf hd;go_wp2;go_ret;exact⟨⟨_,rfl⟩,qh.o⟩};have qy:¬(j2:Int)<(m:Int):=qO;obtain⟨z,hz⟩:∃z,z=y:=⟨_,rfl⟩;have HZ:=Hx (show qa[j1]?=some z by rw[hz];exact HX.o.2);have qg:=Hx (show(j1-1)/2=i by have:=qi.o;omega);have qk:j1<m:=qm;have qe:Hid (∀(k:Nat) (c:Nat×LN),0<k->k<m->(k-1)/2=i->qa[k]?=some c->Ao t z c):=Hx (fun k c hk0 hkm hki hc=>by (have:=qi.o;have:=qo.o;obtain rfl:k=j1:=qO;rw[HZ.o]at hc;injection hc with hc;subst hc);exact O.o.refl _);obtain⟨wx,qA⟩:∃wx,wr=wx:=⟨_,rfl⟩;subst qA;have M:=L;clear hz hl qz L;have qn:=HL.o z (M.o.1.mem_iff.1 (yJ HZ.o));have hm:=oO q n c (sA g) wr M.o.2.2.2.1.box.one.1;go_wp2_with fail;refine(oM t B g n c j1 i qa z x _ M.o.2.2.2.1.row HZ.o HX.o.1 qn qp hn).r fun w3 x3=>?_;have M3:Hid (qa.Perm hs/\dS (Ao t) qa m i/\(∀k,m<=k->qa[k]?=hs[k]?)/\Ar t w3 B q g n c qa/\KF w w3 q g g):=Hx (⟨M.o.1,M.o.2.1,M.o.2.2.1,M.o.2.2.2.1.K x3,M.o.2.2.2.2.tr (KF.Aj q g x3)⟩);clear x3 hm;by_cases qf:dD t z.2 x.2<0;{have hd:decide (dD t z.2 x.2<0)=true:=yO qf;rw[hd];have DN:Hid (dS (Ao t) (bM qa i j1) m j1):=Hx (M3.o.2.1.step O.o qO qk qg.o HX.o.1 HZ.o (oQ O.o qf) qe.o);have PM:=Hx ((oF HX.o.1 HZ.o).trans M3.o.1);have KP:Hid (∀k,m<=k->(bM qa i j1)[k]?=hs[k]?):=Hx (fun k hk=>by rw[lV HX.o.1 HZ.o,qF qO,qF qO];exact M3.o.2.2.1 k hk);have hm:=oP q n c (sA g) w3 M3.o.2.2.2.1.box.one.1;clear qf hd;go_wp2_with fail;refine(oN t B g n c i j1 qa x z _ M3.o.2.2.2.1.row HX.o.1 HZ.o hn).mono ?_;rintro e w4 ⟨rfl,r4,g4⟩;have Q4:=M3.o.2.2.2.1.swap r4 g4;have L4:Hid ((bM qa i j1).Perm hs/\dS (Ao t) (bM qa i j1) m j1/\(∀k,m<=k->(bM qa i j1)[k]?=hs[k]?)/\Ar t w4 B q g n c (bM qa i j1)/\KF w w4 q g g):=Hx (⟨PM.o,DN.o,KP.o,Q4.1,M3.o.2.2.2.2.tr Q4.2⟩);clear r4 g4 Q4 qe hm;go_wp2;go_roundg (m-j1);exact⟨j1,bM qa i j1,rfl,qO,rfl,L4⟩;omega};have hd:decide (dD t z.2 x.2<0)=false:=yP qf;rw[hd];have qh:Hid (∃qa,qa.Perm hs/\cT (Ao t) qa m/\(∀k,m<=k->qa[k]?=hs[k]?)/\Ar t w3 B q g n c qa/\KF w w3 q g g):=Hx (⟨qa,M3.o.1,M3.o.2.1.done (fun k a b hk0 hkm hki ha hb=>by (rw[HX.o.1]at ha;injection ha with ha);subst ha;exact O.o.tr _ _ _ (show Ao t x z from qf) (qe.o k b hk0 hkm hki hb)),M3.o.2.2⟩);clear qe qf hd;go_wp2;go_ret;exact⟨⟨_,rfl⟩,qh.o⟩
def jzf8(t:Tp)(w:World)(B q g n c:Nat)(hs:List (Nat×LN))(e:Ending)(w':World):Prop:=
 ∃(z:Nat×LN) (hs':List (Nat×LN)),hs.Perm (z::hs')/\(∀y∈hs,Ao t z y)/\cT (Ao t) hs' n/\jzx t w B q g n c z hs' e w'
def jzor{le:Nat×LN->Nat×LN->Prop}{l:List (Nat×LN)}{n:Nat}(h:cT le l n):cT le (l.take n) n:=fun k a b h0 hk ha hb=>by
 rw[xG]at ha hb;rw[qE qO]at ha hb;exact h k a b h0 hk ha hb
def jzos t(o:Jy (Ao t))(B q g n c:Nat)(hs:List (Nat×LN))w(h:Ar t w B q g (n+1) c hs)(hp:cT (Ao t) hs (n+1))(hlen:∀z∈hs,z.2.length<=1000000)(hn:n+1<=1000000)(hc:n+1<=c):
  Calls prog 138 #[.iface 210 (.pointer (sA q))] w (jzf8 t w B q g n c hs):=by
 have hl:=h.row.len;obtain⟨x,hx⟩:∃x,hs[0]?=some x:=⟨_,yG qO⟩;obtain⟨y,hy⟩:∃y,hs[n]?=some y:=⟨_,yG qO⟩;have HL:=Hx hlen;have O:=Hx o;have H:=Hx (ah h hp);have HX:=Hx (ah hx hy);have HN:=Hx hl;have qf:=mLen q (n+1) c (sA g) w h.box.one.1;have qk:((n+1:Nat):Int)-1=(n:Int):=qO;clear h hp hlen o hl hx hy;go_enter func138,ntmps138;go_wp2_with fail;refine(sJ _ (n+1) c _).mono ?_;rintro e w1 ⟨rfl,rfl⟩;have qg:=oP q (n+1) c (sA g) w H.o.1.box.one.1;clear qf;go_wp2_with fail;refine(oN t B g (n+1) c 0 n hs x y _ H.o.1.row HX.o.1 HX.o.2 hn).mono ?_;rintro e w2 ⟨rfl,r2,g2⟩;have Q2:=H.o.1.swap r2 g2;have L2:Hid (Ar t w2 B q g (n+1) c (bM hs 0 n)/\KF w w2 q g g):=Hx (Q2);have DN:=Hx (cT.pop H.o.2 HN.o HX.o.1 HX.o.2);have PM:=Hx (oF HX.o.1 HX.o.2);clear r2 g2 Q2 qg;go_wp2_with fail;refine(jzoq t O.o B q g (n+1) c n (bM hs 0 n) _ L2.o.1 DN.o (Nat.le_succ n) (fun z hz=>HL.o z (PM.o.mem_iff.1 hz)) hn).mono ?_;rintro e w3 ⟨⟨b,rfl⟩,qa,p3,h3,k3,q3,f3⟩;have L3:Hid (Ar t w3 B q g (n+1) c qa/\KF w w3 q g g):=Hx (⟨q3,L2.o.2.tr f3⟩);have hz:qa[n]?=some x:=(by rw[k3 n (yX n),lV HX.o.1 HX.o.2,qE rfl]);have S3:=Hx (ah hz (ah (p3.trans PM.o) h3));clear p3 h3 k3 q3 f3 hz;have qe:=mPop q w3;go_wp2_with fail;refine(jzok t B q g n c qa x _ L3.o.1 S3.o.1 qO hc).mono ?_;rintro e w4 ⟨A,k,rfl,hk,r4,q4,f4⟩
 have qi:=Hx (show jzf8 t w B q g n c hs (.returned (.iface 212 (iO t x A k))) w4 from by
  refine⟨x,qa.take n,?_,fun y hy=>?_,jzor S3.o.2.2,A,k,rfl,hk,r4,q4,L3.o.2.tr f4⟩
  ·have e3:qa=qa.take n++[x]:=(by apply uK;intro j;have qj:qa.length=n+1:=(by rw[S3.o.2.1.length_eq];exact HN.o);by_cases hj:j<n;{rw[yR (by rw[xF];omega),xG,qE hj]};by_cases qh:j=n;{subst qh;rw[yS (by rw[xF];omega),xF,S3.o.1,show j-min j qa.length=0 by omega];rfl};rw[yI qO,yI (by rw[yQ,xF];simp;omega)]);refine S3.o.2.1.symm.trans ?_;rw[e3];refine(List.perm_append_comm).trans ?_
   rw[List.take_append_of_le_length (by rw[xF];have:qa.length=n+1:=by rw[S3.o.2.1.length_eq];exact HN.o
                                        omega),List.take_take,Nat.min_self]
   exact .refl _
  obtain⟨j,hj⟩:=List.mem_iff_getElem?.1 hy;exact H.o.2.top O.o (by rw[HN.o];exact yX _) j x y (by have:=(yH.1 hj).1;have:=HN.o;omega) HX.o.1 hj)
 clear r4 q4 f4 S3 L3 qe;go_wp2;go_ret;exact qi.o
def Tryz.Lf:(prog.info? 212).map (fun i=>(i.zero,i.size,i.bytes))=some (some (.agg #[vI 0,vI 0,vI 0,zN]),4,48):=by kernel_rfl
def jzot{o:Oper}{a:Act}{K:Act->World->Prop}{Q:Exit->Act->World->Prop}(W:World)(s x:Operand)
  (ho:o.op=.call {callee:=.builtin .append,args:=#[s,x],argTypes:=#[214,214]})
  (B:Nat) (v:Value) (n:Nat) (xs:List Value) (hs:a.eval s=v) (hown:W.ownsRow B 212 4 v n xs) (u0 u1 u2 u3:Value) (h0:u0.oneCell'=true) (h1:u1.oneCell'=true) (h2:u2.oneCell'=true) (h3:u3.oneCell'=true) (g:Nat) (hx:a.eval x=.s (sA g) 1 1)
  (hblk:ak W g 212 #[u0,u1,u2,u3]) (hl:n<=1000000000) (hB:B<=W.heap.size)
  (h:∀v' w',w'.ownsRow B 212 4 v' (n+1) (xs++[u0,u1,u2,u3])->W.grownBy w' v.ownBlock->(v'.ownBlock=v.ownBlock\/v'.ownBlock=some W.heap.size)->K (a.put o.dst v') w'):o.wp prog a W K Q:=by
 obtain⟨ti,hi,qf,qg,qe⟩:=info_parts Tryz.Lf;obtain⟨v',w',qa,k1,k2,k3,k4⟩:=run_append_own_at (P:=prog) W B 214 o.type 212 ti _ 4 48 underlying214 hi qf qg qe rfl qD v n xs hown (aD g 0) 1 1 [u0,u1,u2,u3] rfl (fun j u hj=>by
  rw[mE,CU];exact(hblk.cell j).trans (by simpa using hj)) (fun u hu=>by
  (simp only[xZ,List.not_mem_nil,or_false]at hu;rcases hu with rfl|rfl|rfl|rfl);{exact h0};{exact h1};{exact h2}
  exact h3) (by unfold maxLen;omega) qO hB
 unfold Oper.wp execOp;simp only[ho,resolve,invoke,builtin,Sem.run_bind,Sem.run_pure,Result.andThen_ok,List.map_toArray,Ka,List.map_nil,hs,hx,qa];exact h v' w' k1 k2 k4
def jzf9{w:World}{B n s:Nat}{e:TypeId}{v:Value}{xs:List Value}(h:w.ownsRow B e s v (n+1) xs):∃g c,v=.s (sA g) (n+1) c/\n+1<=c:=by
 rcases h.2 with⟨_,h4⟩|⟨g',cap,cur,h3,h4,h5,h6,_⟩
 ·omega
 exact⟨g',cap,h3,h6⟩
def KF.grow{w w':World}{q g g':Nat}(h:w.grownBy w' (some g))(hg:g'=g\/w.heap.size<=g'):KF w w' q g g':=⟨h.os,h.tape,h.output,h.size,fun b hb _ hn=>h.block b hb (fun e=>hn (by injection e)),hg⟩
def jzga{w:World}{B n s:Nat}{e:TypeId}{v:Value}{xs:List Value}(h:w.ownsRow B e s v n xs):∀k,v.ownBlock=some k->∃cs fr,w.heap[k]?=some (.cells cs e fr):=by
 intro k hk;rcases h.2 with⟨rfl,_⟩|⟨g,cap,cur,rfl,_,e3,_⟩
 ·cases hk
 have hk:some g=some k:=hk;injection hk with hk
 subst hk;exact⟨cur,_,e3⟩
def bW.push{t}{W w':World}{B g n c g' c':Nat}{hs:List (Nat×LN)}{z:Nat×LN}{A}{k:Nat}{css:List (List Value)}(hl:hs.length=n)(h1:css.length=n)(h2:∀cs∈css,cs.length=4)(hown:W.ownsRow B 212 4 (.s (sA g) n c) n css.flatten)
  (h4:∀(i:Nat) (z:Nat×LN),hs[i]?=some z->∃cs,css[i]?=some cs/\Ig t B W cs z) (hk:z.2.length<=k) (hA:Ce B W A (ints z.2))
  (own':w'.ownsRow B 212 4 (.s (sA g') (n+1) c') (n+1) (css.flatten++[vI (z.1:Int),vI (bC t z.2:Nat),vI 0,.s A z.2.length k])) (grow:W.grownBy w' (Value.slice (sA g) n c).ownBlock):bW t w' B g' (n+1) c' (hs++[z]):=by
 have qa:=jzga hown;refine⟨by simp[hl],css++[[vI (z.1:Int),vI (bC t z.2:Nat),vI 0,.s A z.2.length k]],by simp[h1],fun cs hc=>?_,by rw[List.flatten_append];simpa using own',fun i y hy=>?_⟩;{(rcases xY.1 hc with hc|hc);{exact h2 cs hc};simp at hc;rw[hc];rfl};by_cases hi:i<hs.length;{rw[yR hi]at hy;obtain⟨cs,k1,k2⟩:=h4 i y hy;exact⟨cs,by rw[yR qO];exact k1,k2.gK grow qa qD⟩};rw[yS qO]at hy;have qe:i-hs.length=0:=(by (rcases Ee (i-hs.length)with h0|h0);{exact h0};rw[yI (by simp;omega)]at hy;cases hy);rw[qe]at hy;simp at hy;subst hy;exact⟨_,by rw[yS qO,show i-css.length=0 by omega];rfl,Ig.gK ⟨A,k,rfl,hk,hA⟩ grow qa qD⟩
def jzgb(t:Tp)(w:World)(B q g n:Nat)(hs:List (Nat×LN))(e:Ending)(w':World):Prop:=
 e=.returned (.tuple #[])/\∃g' c',n<=c'/\Ar t w' B q g' n c' hs/\KF w w' q g g'
def jzou{t}{w W w':World}{B q g n c g' c':Nat}{hs:List (Nat×LN)}{z:Nat×LN}{A}{k:Nat}{css:List (List Value)}(X:Ext w W)(hqu:Ar t W B q g n c hs)(h1:css.length=n)(h2:∀cs∈css,cs.length=4)(hown:W.ownsRow B 212 4 (.s (sA g) n c) n css.flatten)
  (h4:∀(i:Nat) (z:Nat×LN),hs[i]?=some z->∃cs,css[i]?=some cs/\Ig t B W cs z) (hk:z.2.length<=k) (hA:Ce B W A (ints z.2))
  (own':w'.ownsRow B 212 4 (.s (sA g') (n+1) c') (n+1) (css.flatten++[vI (z.1:Int),vI (bC t z.2:Nat),vI 0,.s A z.2.length k])) (grow:W.grownBy w' (Value.slice (sA g) n c).ownBlock)
  (hb:(Value.slice (sA g') (n+1) c').ownBlock=(Value.slice (sA g) n c).ownBlock\/(Value.slice (sA g') (n+1) c').ownBlock=some W.heap.size) (hc:n+1<=c'):
  (w'.C q 0 (.s (sA g) n c)/\w'.frozen? (aD q 0)=false)/\jzgb t w B q g (n+1) (hs++[z]) (.returned (.tuple #[])) (w'.setCell (aD q 0) (.s (sA g') (n+1) c')):=by
 have hR:=bW.push hqu.row.len h1 h2 hown h4 hk hA own' grow;have qa:=hqu.box.gK grow (jzga hown) qD;have gs:=aM w' q 0 (.s (sA g') (n+1) c');have qe:g'=g\/W.heap.size<=g':=(by (rcases hb with hb|hb);{have hb:some g'=some g:=hb;(injection hb with hb);exact .inl hb};(have hb:some g'=some W.heap.size:=hb;injection hb with hb);exact .inr qO);refine⟨qa.one,rfl,g',c',hc,⟨?_,hR.grown gs qa qD qD⟩,((KF.Aj q g X).tr (KF.grow grow qe)).tr (KF.IU g' gs)⟩;have:=qa.sT 0 (.s (sA g') (n+1) c');simpa using this
def jzov t(B q g n c:Nat)(hs:List (Nat×LN))(z:Nat×LN)A(k:Nat)w(h:Ar t w B q g n c hs)(hk:z.2.length<=k)(hA:Ce B w A (ints z.2))(hn:n<=1000000)(hB:B<=w.heap.size):
  Calls prog 255 #[.pointer (sA q),.iface 212 (iO t z A k)] w (jzgb t w B q g (n+1) (hs++[z])):=by
 obtain⟨z1,z2⟩:=z;simp only at hk hA;have XB:=(eR w).alloc (.cells #[vI (z1:Int),vI (bC t z2:Nat),vI 0,.s A z2.length k] 212);have HB:=(eN w 212 #[vI (z1:Int),vI (bC t z2:Nat),vI 0,.s A z2.length k]);obtain⟨W,hW⟩:∃W,W=w.alloc (.cells #[vI (z1:Int),vI (bC t z2:Nat),vI 0,.s A z2.length k] 212):=⟨_,rfl⟩;have qn:Hid (W.heap.size=w.heap.size+1):=Hx (by rw[hW];simp);rw[<-hW]at HB XB;have X3:=XB.tr (((eR W).drewN 1).alloc (.cells #[vI (z1:Int),vI (bC t z2:Nat),vI 0,.s A z2.length k] 212));have X3:Ext w (W.drew.alloc (.cells #[vI (z1:Int),vI (bC t z2:Nat),vI 0,.s A z2.length k] 212)):=X3;have H3:=h.K X3;obtain⟨css,h1,h2,qg,h4⟩:=H3.row.row;have HQ:=h.K XB;obtain⟨V,hV⟩:∃V:Value,V=.s (sA g) n c:=⟨_,rfl⟩;have qi:W.drew.cell? (aD q 0)=some V:=(by rw[hV];exact HQ.box.one.1);have qt:(W.drew.alloc (.cells #[vI (z1:Int),vI (bC t z2:Nat),vI 0,.s A z2.length k] 212)).cell? (aD q 0)=some V:=aS qi _;have qh:(W.alloc (.cells #[vI (z1:Int),vI (bC t z2:Nat),vI 0,.s A z2.length k] 212)).drew.cell? (aD q 0)=some V:=jzch (aS (jzch qi) _);have qw:(W.alloc (.cells #[vI (z1:Int),vI (bC t z2:Nat),vI 0,.s A z2.length k] 212)).cell? (aD q 0)=some V:=qh;have OV:Hid ((W.drew.alloc (.cells #[vI (z1:Int),vI (bC t z2:Nat),vI 0,.s A z2.length k] 212)).ownsRow B 212 4 V n css.flatten):=Hx (by rw[hV];exact qg);have HV:=Hx hV;have l0:W.drew.cell? (aD w.heap.size 0)=some (vI (z1:Int)):=(HB.cell 0).trans rfl;have l1:W.drew.cell? (aD w.heap.size 1)=some (vI (bC t z2:Nat)):=(HB.cell 1).trans rfl;have l2:W.drew.cell? (aD w.heap.size 2)=some (vI 0):=(HB.cell 2).trans rfl;have l3:W.drew.cell? (aD w.heap.size 3)=some (.s A z2.length k):=(HB.cell 3).trans rfl;have qp:q<W.heap.size:=HQ.box.lt;have qy:w.heap.size<W.heap.size:=HB.lt;have qk:¬q=W.heap.size:=Ht qp;have FN:=Hx (ah X3 (ah H3 (ah h1 (ah h2 (ah qg (ah h4 (ah hk (hA.K X3))))))));unfold iO;simp only;generalize hkc:bC t z2=kc at*;have qm:=Hx hkc.symm;clear hkc;have HW:=Hx hW;have qx:∀w:World,(Instr.typeAssert (.iface 212 (.agg #[vI (z1:Int),vI (kc:Nat),vI 0,.s A z2.length k])) 20 212 true).run prog w=.ok (.tuple #[.agg #[vI (z1:Int),vI (kc:Nat),vI 0,.s A z2.length k],.bool true]) w:=fun w=>qR;clear hV h hA XB hW HB HQ X3 H3 h1 h2 qg h4
 go_enter func255,ntmps255
 go_upto_region 2 with fail
 rw[<-HW.o];refine wp_region_any qK ?_;try (change wpAny _ _ _ _ _ _ _ (World.drew _))
 refine wpAny_take (i:=0) (v:=?_) rfl qK qK qK (fun _ _ _ h=>h) (DF ⟨qR,?_⟩) ?_;rotate_left
 focus (intro w;go_simp;try with_reducible rfl)
 refine wpAny_take (i:=1) (v:=?_) rfl qK qK qK (fun _ _ _ h=>h) (DF ⟨qR,?_⟩) ?_;rotate_left
 focus (intro w;go_simp;try with_reducible rfl)
 refine wpAny_take (i:=2) (v:=?_) rfl qK qK qK (fun _ _ _ h=>h) (DF ⟨qR,?_⟩) ?_;rotate_left
 focus (intro w;go_simp;try with_reducible rfl)
 refine wpAny_ready (rs:=[3,4]) qK qS ?_;refine AllReady.cons rfl (fun K hK=>?_) (AllReady.cons rfl (fun K hK=>?_) AllReady.nil)
 focus
  go_simp;refine hK _ _ ?_;clear hK K;refine wpAny_ready (rs:=[4]) qK qS ?_;refine AllReady.cons rfl (fun K hK=>?_) AllReady.nil;go_simp;refine hK _ _ ?_;clear hK K;refine wpAny_ready (rs:=[5]) qK qS ?_;refine AllReady.cons rfl (fun K hK=>?_) AllReady.nil;go_simp;refine hK _ _ ?_;clear hK K
 rotate_left
 focus
  go_simp;refine hK _ _ ?_;clear hK K;refine wpAny_ready (rs:=[3,5]) qK qS ?_;refine AllReady.cons rfl (fun K hK=>?_) (AllReady.cons rfl (fun K hK=>?_) AllReady.nil)
  focus
   go_simp;refine hK _ _ ?_;clear hK K;refine wpAny_ready (rs:=[5]) qK qS ?_;refine AllReady.cons rfl (fun K hK=>?_) AllReady.nil;go_simp;refine hK _ _ ?_;clear hK K
  rotate_left
  focus
   go_simp;refine hK _ _ ?_;clear hK K;refine wpAny_ready (rs:=[3]) qK qS ?_;refine AllReady.cons rfl (fun K hK=>?_) AllReady.nil;go_simp;refine hK _ _ ?_;clear hK K
 all_goals
  refine wpAny_ready (rs:=[6]) qK qS ?_;refine AllReady.cons rfl (fun K hK=>?_) AllReady.nil;rw[qE qR];refine jzot (W.drew.alloc (.cells #[vI (z1:Int),vI (kc:Nat),vI 0,.s A z2.length k] 212)) (.tmp 15) (.tmp 17) qR B V n css.flatten qR OV.o _ _ _ _ rfl rfl rfl rfl (W.heap.size) qR (eN W.drew _ _) qO (by have:=qn.o;simp;omega) ?_;intro v' w' qf qa qe;rw[HV.o]at qa qe;rw[qm.o]at qf;obtain⟨g',c',rfl,qo⟩:=jzf9 qf;have qj:=Hx (jzou (z:=(z1,z2)) FN.o.1 FN.o.2.1 FN.o.2.2.1 FN.o.2.2.2.1 FN.o.2.2.2.2.1 FN.o.2.2.2.2.2.1 FN.o.2.2.2.2.2.2.1 FN.o.2.2.2.2.2.2.2 qf qa qe qo);obtain⟨c9,f9⟩:=qj.o.1;clear qf qa qe;refine hK _ _ ?_;clear hK K;refine wpAny_take (i:=7) (v:=?_) rfl qK qK qK (fun _ _ _ h=>h) (DF ⟨qR,?_⟩) ?_;rotate_left
  focus (intro w;go_simp;try with_reducible rfl)
  refine wpAny_ready (rs:=[8]) qK qS ?_;refine AllReady.cons rfl (fun K hK=>?_) AllReady.nil;go_simp;refine hK _ _ ?_;clear hK K;refine wpAny_done qK ?_ _;go_wp2
  go_end0
  exact qj.o.2
def jzy(t:Tp)(w:World)(B q g n:Nat)(hs:List (Nat×LN))(e:Ending)(w':World):Prop:=
 e=.returned (.tuple #[])/\∃(g' c':Nat) (hs':List (Nat×LN)),hs'.Perm hs/\cT (Ao t) hs' n/\n<=c'/\Ar t w' B q g' n c' hs'/\KF w w' q g g'
def jzow t(o:Jy (Ao t))(B q g n c:Nat)(hs:List (Nat×LN))(z:Nat×LN)A(k:Nat)w(h:Ar t w B q g n c hs)(hp:cT (Ao t) hs n)(qa:∀y∈z::hs,y.2.length<=1000000)(hk:z.2.length<=k)(hA:Ce B w A (ints z.2))(hn:n+1<=1000000)(hB:B<=w.heap.size):
  Calls prog 142 #[.iface 210 (.pointer (sA q)),.iface 212 (iO t z A k)] w (jzy t w B q g (n+1) (z::hs)):=by
 have hl:=h.row.len;have H:=Hx (ah h (ah hp (ah qa (ah hk hA))));have O:=Hx o;have HN:=Hx hl;have qh:=jzoo q w;have qk:((n+1:Nat):Int)-1=(n:Int):=qO;clear h hp qa hk hA o hl;generalize hkg:iO t z A k=V;have qg:=Hx hkg;clear hkg;go_enter func142,ntmps142;go_wp2_with fail;rw[<-qg.o];refine(jzov t B q g n c hs z A k _ H.o.1 H.o.2.2.2.1 H.o.2.2.2.2 qO hB).mono ?_;rintro e w1 ⟨rfl,g1,c1,qi,q1,f1⟩;have L1:=Hx (ah q1 f1);have UP:Hid (Ib (Ao t) (hs++[z]) (n+1) n):=Hx (by have:=cT.push (le:=Ao t) (l:=hs) (by rw[HN.o];exact H.o.2.1) z;rw[HN.o]at this;exact this);have qf:=mLen q (n+1) c1 (sA g1) w1 q1.box.one.1;clear q1 f1 qh;go_wp2_with fail;refine(sJ _ (n+1) c1 _).mono ?_;rintro e w2 ⟨rfl,rfl⟩;go_wp2_with fail;refine(jzop t O.o B q g1 (n+1) c1 n (hs++[z]) _ L1.o.1 UP.o qO (fun y hy=>H.o.2.2.1 y (by (rcases xY.1 hy with hy|hy);{exact xO _ hy};simp at hy;rw[hy];exact List.mem_cons_self)) hn).mono ?_
 rintro e w3 ⟨rfl,qe,p3,h3,q3,f3⟩;have qj:=Hx (show jzy t w B q g (n+1) (z::hs) (.returned (.tuple #[])) w3 from
  ⟨rfl,g1,c1,qe,p3.trans (List.perm_append_singleton z hs),h3,qi,q3,L1.o.2.tr f3⟩)
 clear p3 h3 q3 f3 qf;go_wp2;(go_end0);exact qj.o
def jzz(t:Tp)(down:List Bool)(s d:Nat)(w:World)(e:Ending)(w':World):Prop:=
 (∃(x:LN) (A:OA) (k:Nat),e=.returned (.tuple #[.s A x.length k,.bool true])/\x.length<=k/\Ce w.heap.size w' A (ints x)/\FW t down d s x d/\(∀p,FW t down d s p d->ou (bO t) x p)/\Ext w w')\/
 (e=.returned (.tuple #[zN,bF])/\(∀p,¬FW t down d s p d)/\Ext w w')
def JE(V:List Bool):List Value:=V.map fun b=>vI (if b then 0 else-1)
structure FV(F:Array Value)(w wr:World)(L:List Value):Prop where
 fin:ak wr w.heap.size 134 F
 Ih:ak wr (w.heap.size+1) 3 L.toArray
 ext:Ext w wr
def FV.K{F:Array Value}{w wr w'}{L:List Value}(h:FV F w wr L)(hx:Ext wr w'):FV F w w' L:=⟨h.fin.K hx,h.Ih.K hx,h.ext.tr hx⟩
def FV.grow(F:Array Value){w wr}{L:List Value}(h:FV F w wr L)(k:Nat)(u:Value):wr.grownBy (wr.setCell (aD (w.heap.size+1) k) u) (some (w.heap.size+1)):=aM _ _ _ _
def FV.set{F:Array Value}{w wr}{L:List Value}(h:FV F w wr L)(k:Nat)(u:Value):FV F w (wr.setCell (aD (w.heap.size+1) k) u) (L.set k u):=by
 have hg:=aM wr (w.heap.size+1) k u;refine⟨(hg.block _ h.fin.lt (fun e=>by injection e with e;omega)).trans h.fin,?_,Below.grown h.ext hg h.ext.size (fun q hq=>by injection hq with hq;omega)⟩;have:=h.Ih.sT k u;rw[yD]at this;exact this
def FV.kf{F:Array Value}{w wr w'}{L:List Value}{q g g':Nat}(h:FV F w wr L)(k:KF wr w' q g g')(hq:w.heap.size+2<=q)(hg:w.heap.size+2<=g):FV F w w' L:=
 ⟨k.blk h.fin qO qO,k.blk h.Ih qO qO,k.ext h.ext qO qO⟩
def jzox(V:List Bool)(n:Nat):(JE V).set n (vI 0)=JE (V.set n true):=by
 unfold JE;rw[List.map_set];rfl
def Ar.start t(w:World)(B s:Nat)(hB:B<=w.heap.size):Ar t ((w.alloc (.cells #[vI (s:Int),vI 0,vI 0,zN] 212)).alloc (.cells #[.s (sA w.heap.size) 1 1] 214)) B (w.heap.size+1) w.heap.size 1 1 [(s,[])]:=by
 (have hb:=(eN w 212 #[vI (s:Int),vI 0,vI 0,zN]).K ((eR _).alloc (.cells #[.s (sA w.heap.size) 1 1] 214));refine⟨ak.new' (w.alloc _) _ _ qS,rfl,[[vI (s:Int),vI 0,vI 0,zN]],rfl,fun cs h=>by simp at h;rw[h];rfl,⟨rfl,.inr ⟨_,_,_,rfl,hB,hb,yX _,qD,rfl,rfl⟩⟩,fun i z hz=>?_⟩;cases i with|zero=>(injection hz with hz);subst hz;exact⟨_,rfl,none,0,rfl,yX _,og.nil _ _ _,fun p hp=>by cases hp⟩|succ i=>cases hz)
def iP(N i:Nat):List Value:=(List.range N).map fun j=>vI (if j<i then-1 else 0)
def jzoy(N:Nat):madeCells #[vI 0] N=(iP N 0).toArray:=by
 apply Array.ext';apply uK;intro i;unfold iP;by_cases hi:i<N;{simp[madeCells,hi,Nat.mod_one]};rw[yI (by simp[madeCells];omega),yI (by simp;omega)]
def jzoz(N i:Nat):(iP N i).set i (vI (-1))=iP N (i+1):=by
 unfold iP;apply uK;intro j;rw[kZs];by_cases e:i=j;{subst e;by_cases hi:i<N;{rw[qE rfl,qE (by simpa using hi),yW,xJ hi];simp};rw[qE rfl,qF (by simpa using hi),yW,yI (by simp;omega)];rfl};rw[qF e,yW,yW];by_cases hj:j<N;{rw[xJ hj];simp only[Gu];have h1:(j<i↔j<i+1):=qO;by_cases h2:j<i;{rw[qE h2,qE (h1.1 h2)]};rw[qF h2,qF (fun h3=>h2 (h1.2 h3))]};rw[yI (by simp;omega)];rfl
def jzo0(N:Nat):iP N N=JE (List.replicate N false):=by
 unfold iP JE;apply uK;intro j;rw[yW,yW];by_cases hj:j<N;{rw[xJ hj,xB,qE hj];simp[hj]};rw[yI (by simp;omega),yI (by simp;omega)];rfl
def jzgc t:Jy (Ao t):=by
 have h:Ao t=fun x y=>ou (bO t) x.2 y.2:=(by funext x y;exact propext (jzel t x.2 y.2).symm);rw[h];exact jznb t
def jzo1{t}(hv:aG t=true){n:Nat}(hn:(n:Int)<t.nodes):t.over=[]\/(n:Int)<t.over.length:=by
 unfold aG cF at hv;simp at hv;rcases hv.1.2 with h|h
 ·exact .inl h
 right;omega
def jzo2{t}{down:List Bool}(hf:bU t down=true){a:Nat}(ha:a<2*t.links.length):down=[]\/a<down.length:=by
 unfold bU at hf;rcases of_decide_eq_true hf with h|h
 ·exact .inl (FJ.1 h)
 right;omega
def jz0{w}{g:Nat}{t:TypeId}{a b c d:Value}(h:ak w g t #[a,b,c,d]):(w.C g 0 a/\w.C g 1 b/\w.C g 2 c/\w.C g 3 d)/\w.frozen? (aD g 0)=false/\w.frozen? (aD g 1)=false/\w.frozen? (aD g 2)=false/\w.frozen? (aD g 3)=false:=
 ⟨⟨(h.cell 0).trans rfl,(h.cell 1).trans rfl,(h.cell 2).trans rfl,(h.cell 3).trans rfl⟩,h.frozen 0,h.frozen 1,h.frozen 2,h.frozen 3⟩
def jzo3{w0 w:World}{g:Nat}{t:TypeId}{cs:Array Value}(h:ak w g t cs)(hg:w0.heap.size<=g)(hx:Ext w0 w)(v0 v1 v2 v3:Value):Ext w0 ((((w.setCell (aD g 0) v0).setCell (aD g 1) v1).setCell (aD g 2) v2).setCell (aD g 3) v3):=
 Ext.sT (Ext.sT (Ext.sT (Ext.sT hx hg v0) hg v1) hg v2) hg v3
structure Ir(t:Tp)(down:List Bool)(s d N:Nat)(F:Array Value)(w wx:World)(q:Nat)(V:List Bool)(fin:Nat->LN)(hs:List (Nat×LN))(g c n k:Nat)(todo:LN):Prop where
 ki:KI t down (bO t) s d V fin hs k todo
 hp:cT (Ao t) hs n
 qu:Ar t wx (w.heap.size+2) q g n c hs
 st:FV F w wx (JE V)
 nn:n+todo.length+V.count false*(2*t.links.length+1)<=N*(2*t.links.length+1)+1
 hq:w.heap.size+2<=q
 hc:n<=c
def jzo4 t AO(co:Nat)AL(cl:Nat)AD(cd:Nat)(down:List Bool)(gO N s d:Nat)w(ht:aR w t AO co AL cl)(hv:aG t=true)(hN:t.nodes=(N:Int))(hll:t.links.length<=256)(vy:Rd w AD (bB down))(hdl:down.length<=cd)(hdc:down.length<=600)(hfit:bU t down=true)(hO:LL w gO N (aL t))(hs:s<N)(hd:d<N)(hN64:N<=64):
  Calls prog 76 #[.agg #[vI t.nodes,.s AO t.over.length co,.s AL t.links.length cl,.s AD down.length cd,vI (d:Int),vI 0,.s (sA gO) N N],vI (s:Int),zN,.map none] w (jzz t down s d w):=by
 have HT:=Hx (ah ht (ah hv (ah vy hO)));have HF:=Hx hfit;have qB:=Hx hN;rw[hN];clear ht hv vy hO hfit hN;have zt:=run_make_row' (P:=prog) 42 3 (vI 0) 8 underlying42 Tryz.info3 rfl .i64 .i64 N qO qO
 go_enter func76,ntmps76
 go_wp2
 go_loopg [11,27] N (fun j _ it wr=>∃i:Nat,N-i=j/\i<=N/\it=vI (i:Int)/\Hid (FV #[vI (N:Int),.s AO t.over.length co,.s AL t.links.length cl,.s AD down.length cd,vI (d:Int),vI 0,.s (sA gO) N N] w wr (iP N i)))
 case atStart=>exact⟨0,rfl,yZ _,rfl,Hx ⟨(eN w _ _).K ((eR _).alloc _),by rw[<-jzoy];exact ak.new' (w.alloc _) _ _ qS,((eR w).alloc _).alloc _⟩⟩
 obtain⟨i,rfl,hi,rfl,S⟩:=hrel;by_cases zy:i<N
 ·have iN:(i:Int)<(N:Int):=by omega
  have S2:Hid (FV _ w (wr.setCell (aD (w.heap.size+1) i) (vI (-1))) (iP N (i+1))):=Hx (by rw[<-jzoz];exact S.o.set i _);obtain⟨v0,c0⟩:∃v,wr.cell? (aD (w.heap.size+1) i)=some v:=by
   rw[S.o.Ih.cell];exact⟨_,Array.getElem?_eq_getElem (by simp[iP];exact zy)⟩
  have f0:=S.o.Ih.frozen i;go_wp2
  go_roundg (N-(i+1))
  case measure=>omega
  exact⟨i+1,rfl,qO,by go_num,S2⟩
 obtain rfl:N=i:=qO;have zT:¬(N:Int)<(N:Int):=qO;have S1:Hid (FV _ w wr (JE (List.replicate N false))):=Hx (by rw[<-jzo0];exact S.o);clear S;go_wp2
 go_loopg [12,14,36] 0 (fun k dt at_ it wx=>it=vI 0/\dt=vI 0/\at_=undef/\wr=wx)
 case atStart=>exact⟨rfl,rfl,rfl,rfl⟩
 obtain⟨rfl,rfl,rfl,rfl⟩:=hrel;have zz:w.heap.size+2<=wr.heap.size:=(by have:=S1.o.Ih.lt;omega);have XA:=((eR wr).alloc (.cells #[vI (s:Int),vI 0,vI 0,zN] 212)).alloc (.cells #[.s (sA wr.heap.size) 1 1] 214);have S2:=Hx (S1.o.K XA);have Q2:=Hx (Ar.start t wr (w.heap.size+2) s zz);have I0:=Hx (show Ir t down s d N _ w _ (wr.heap.size+1) (List.replicate N false) (fun _=>[]) [(s,[])] wr.heap.size 1 1 0 []from by
  have qf:t.nodes.toNat=N:=(by rw[qB.o];simp);refine⟨?_,fun k a b h0 hk=>qO,Q2.o,S2.o,?_,qO,yX _⟩
  ·have:=KI.start (t:=t) (down:=down) (ps:=bO t) (s:=s) (d:=d) (fin:=fun _=>[]) (by rw[qf];exact hs) (by rw[qf];exact hd) 0
   rw[qf]at this;exact this
  simp;omega)
 clear S2 Q2 S1 zt;go_wp2;generalize wr.heap.size+1=q at*
 go_loopg [8,9,16,17,19,20] (N*(2*t.links.length+1)+1) (fun m _ _ _ _ _ _ wx=>∃(V:List Bool) (fin:Nat->LN) (hs:List (Nat×LN)) (g c n:Nat),n+V.count false*(2*t.links.length+1)<=m/\Hid (Ir t down s d N #[vI (N:Int),.s AO t.over.length co,.s AL t.links.length cl,.s AD down.length cd,vI (d:Int),vI 0,.s (sA gO) N N] w wx q V fin hs g c n 0 []))
 case atStart=>exact⟨_,_,_,_,_,_,by have:=I0.o.nn;simpa using this,I0⟩
 obtain⟨V,fin,qH,g,c,n,v8,I⟩:=hrel;have qf:t.nodes.toNat=N:=(by rw[qB.o];simp);have c0:=I.o.qu.box.one.1;cases n with
 |zero=>
  have HE:Hid (qH=[]):=Hx (FJ.1 I.o.qu.row.len)
  go_wp2_with fail
  refine(sJ _ 0 c _).mono ?_;rintro e w1 ⟨rfl,rfl⟩;have z0:¬((0:Int)>0):=qD;have zM:¬(((0:Nat):Int)>0):=qD;have zO:¬((0:Int)<0):=qD;have ve:=Hx (show jzz t down s d w (.returned (.tuple #[zN,bF])) wr from .inr ⟨rfl,fun p=>by
   have:=I.o.ki;rw[HE.o]at this;exact this.none_ HT.o.2.1 (oI t) (by rw[qf];exact hs) p,I.o.st.ext⟩)
  clear I;go_wp2;exact bodyPost_ret (v:=.tuple #[zN,bF]) (by simp[results,results76,go_sem]) rfl ve.o
 |succ n=>
  go_wp2_with fail
  refine(sJ _ (n+1) c _).mono ?_;rintro e w1 ⟨rfl,rfl⟩;have zW:((n+1:Nat):Int)>0:=qO;have zG:((n:Int)+1)>0:=by omega
  go_wp2_with fail
  have O:=jzgc t;have vL:Hid (n+1<=1000000):=Hx (by have:=I.o.nn;have h8:N*(2*t.links.length+1)<=64*513:=DK hN64 qO;omega);have vm:=Hx (show∀z∈qH,z.2.length<=1000000 from fun z hz=>by
   have h1:=I.o.ki.size z.1 z.2 hz;have h2:=List.count_le_length (a:=true) (l:=V);rw[I.o.ki.len,qf]at h2;omega)
  refine(jzos t O (w.heap.size+2) q g n c qH _ I.o.qu I.o.hp vm.o vL.o I.o.hc).mono ?_;rintro e w2 ⟨z,qn,vx,vV,v4,A,k,rfl,hk,hA,v7,v6⟩;have P2:=Hx (ah vx (ah vV (ah v4 (ah hk (ah hA (ah v7 v6))))));clear vx vV v4 hk hA v7 v6 O c0;obtain⟨zn,zx⟩:=z;have zw:∀W:World,(Instr.typeAssert (.iface 212 (.agg #[vI (zn:Int),vI (bC t zx:Nat),vI 0,.s A zx.length k])) 20 212 true).run prog W=.ok (.tuple #[.agg #[vI (zn:Int),vI (bC t zx:Nat),vI 0,.s A zx.length k],.bool true]) W:=fun W=>qR;unfold iO;simp only;generalize hkc:bC t zx=kc at*;have qa:(zn,zx)∈qH:=P2.o.1.mem_iff.2 List.mem_cons_self;have qz:zn<N:=by
   rw[<-qf];rcases I.o.ki.lab _ _ qa with⟨_,h1⟩|⟨y,a,u,_,_,h2,_,h3⟩
   ·rw[h1,qf];exact hs
   rw[h3];exact(gM HT.o.2.1 h2).2.2.1
  obtain⟨b,hb⟩:∃b,V[zn]?=some b:=⟨_,yG (by rw[I.o.ki.len,qf];exact qz)⟩;have S2:=Hx (I.o.st.kf P2.o.2.2.2.2.2.2 I.o.hq I.o.qu.row.lo);have X3:=(eR w2).alloc (.cells #[vI (zn:Int),vI (kc:Nat),vI 0,.s A zx.length k] 212);have qC:=eN w2 212 #[vI (zn:Int),vI (kc:Nat),vI 0,.s A zx.length k];have i0:(w2.alloc (.cells #[vI (zn:Int),vI (kc:Nat),vI 0,.s A zx.length k] 212)).drew.cell? (aD (w.heap.size+1) zn)=some (vI (if b then 0 else-1)):=by
   have h1:=(S2.o.K X3).Ih.cell zn;refine Eq.trans h1 ?_;unfold JE;simp[hb]
  have l0:(w2.alloc (.cells #[vI (zn:Int),vI (kc:Nat),vI 0,.s A zx.length k] 212)).drew.cell? (aD w2.heap.size 0)=some (vI (zn:Int)):=(qC.cell 0).trans rfl;have l2:(w2.alloc (.cells #[vI (zn:Int),vI (kc:Nat),vI 0,.s A zx.length k] 212)).drew.cell? (aD w2.heap.size 2)=some (vI 0):=(qC.cell 2).trans rfl;have iN:(zn:Int)<(N:Int):=qO;cases b with
  |true=>
   simp only[if_true]at i0;have I3:=Hx (show Ir t down s d N _ w (w2.alloc (.cells #[vI (zn:Int),vI (kc:Nat),vI 0,.s A zx.length k] 212)).drew q V fin qn g c n 0 []from
    ⟨I.o.ki.skip (fun z hz=>by simpa using P2.o.1.mem_iff.1 hz) (fun z hz=>P2.o.1.mem_iff.2 (xO _ hz)) hb 0,P2.o.2.2.1,(P2.o.2.2.2.2.2.1.K X3).K ((eR _).drewN 1),(S2.o.K X3).K ((eR _).drewN 1),by have:=I.o.nn;simp at this⊢;omega,I.o.hq,by have:=I.o.hc;omega⟩)
   clear I P2 S2 X3 qC
   go_wp2_with fail
   go_region
   go_wp2
   go_roundg (gk-1)
   case measure=>omega
   exact⟨V,fin,qn,g,c,n,qO,I3⟩
  |false=>
   simp only[Jr,if_false]at i0;have f0:(w2.alloc (.cells #[vI (zn:Int),vI (kc:Nat),vI 0,.s A zx.length k] 212)).frozen? (aD (w.heap.size+1) zn)=false:=(S2.o.K X3).Ih.frozen zn;have ze:decide ((-1:Int)≥0)=false:=qD;have vh:¬((0:Int)<= -1):=by decide
   go_wp2_with fail
   go_region
   go_upto_region 20 with fail
   have zo:w.heap.size+1<w2.heap.size:=S2.o.Ih.lt;have q3:=aM (w2.alloc (.cells #[vI (zn:Int),vI (kc:Nat),vI 0,.s A zx.length k] 212)) (w.heap.size+1) zn (vI 0);have XD:=(eR ((w2.alloc (.cells #[vI (zn:Int),vI (kc:Nat),vI 0,.s A zx.length k] 212)).setCell (aD (w.heap.size+1) zn) (vI 0))).drewN 1;have J3:=Hx (show FV _ w (((w2.alloc (.cells #[vI (zn:Int),vI (kc:Nat),vI 0,.s A zx.length k] 212)).setCell (aD (w.heap.size+1) zn) (vI 0))).drew (JE (V.set zn true))/\Ar t (((w2.alloc (.cells #[vI (zn:Int),vI (kc:Nat),vI 0,.s A zx.length k] 212)).setCell (aD (w.heap.size+1) zn) (vI 0))).drew (w.heap.size+2) q g n c qn/\Ce (w.heap.size+2) (((w2.alloc (.cells #[vI (zn:Int),vI (kc:Nat),vI 0,.s A zx.length k] 212)).setCell (aD (w.heap.size+1) zn) (vI 0))).drew A (ints zx)/\ak (((w2.alloc (.cells #[vI (zn:Int),vI (kc:Nat),vI 0,.s A zx.length k] 212)).setCell (aD (w.heap.size+1) zn) (vI 0))).drew w2.heap.size 212 #[vI (zn:Int),vI (kc:Nat),vI 0,.s A zx.length k]from
    ⟨by rw[<-jzox];exact((S2.o.K X3).set zn _).K XD,((P2.o.2.2.2.2.2.1.K X3).below q3 (S2.o.K X3).Ih qO).K XD,((P2.o.2.2.2.2.1.K X3).below q3 qO).K XD,(show ak _ _ _ _ from(q3.block _ qC.lt (fun e=>by injection e with e;omega)).trans qC).K XD⟩)
   clear q3 XD i0 l0 l2 f0 zw qC X3 ze vh;generalize ((w2.alloc (.cells #[vI (zn:Int),vI (kc:Nat),vI 0,.s A zx.length k] 212)).setCell (aD (w.heap.size+1) zn) (vI 0)).drew=W3 at*;have vY:=Hx hkc;have F4:W3.cell? (aD w.heap.size 4)=some (vI (d:Int)):=(J3.o.1.fin.cell 4).trans rfl;have L0:W3.cell? (aD w2.heap.size 0)=some (vI (zn:Int)):=(J3.o.2.2.2.cell 0).trans rfl;have L3:W3.cell? (aD w2.heap.size 3)=some (.s A zx.length k):=(J3.o.2.2.2.cell 3).trans rfl;have HM:Hid (∀m y,(m,y)∈qH->ou (bO t) zx y):=Hx (fun m y h=>(jzel t zx y).2 (P2.o.2.1 (m,y) h));clear hkc;by_cases vl:zn=d
   ·obtain rfl:d=zn:=vl.symm
    have vn:=Hx (I.o.ki.found HT.o.2.1 (oI t) (by rw[qf];exact hs) qa HM.o);have HZ:Hid (zx.length<=1000000):=Hx (vm.o _ qa);clear hb qa
    go_wp2_with fail
    refine(jzog [(none,[],0),(A,zx,k)] 2 _ _ rfl (eN W3 42 #[zN,.s A zx.length k]) (fun r hr=>by
     rcases xZ.1 hr with rfl|hr
     ·exact og.nil _ _ _
     obtain rfl:r=(A,zx,k):=(by simpa using hr);exact(J3.o.2.2.1.K ((eR _).alloc _)).1) qO (by have:=HZ.o;simp[eQ];omega)).mono ?_
    rintro e w4 ⟨v,rfl,qj,x4⟩;have qX:eS [(none,[],0),(A,zx,k)]=zx:=(by simp[eS]);rw[qX]at qj;obtain⟨A4,c4,rfl,vO,r4⟩:=fA qj rfl;have ve:=Hx (show jzz t down s d w (.returned (.tuple #[.s A4 zx.length c4,.bool true])) w4 from .inl ⟨zx,A4,c4,rfl,vO,⟨r4,fun p hp=>by
     subst hp;have h1:=(qj.lt p.block rfl).1;have h2:=(J3.o.1.ext.alloc (.cells #[zN,.s A zx.length k] 42)).size;omega⟩,vn.o.1,vn.o.2,(J3.o.1.ext.alloc _).tr x4⟩)
    clear qj x4 r4 qX vO I J3 vn;go_wp2;exact bodyPost_ret (v:=.tuple #[.s A4 zx.length c4,.bool true]) (by simp[results,results76,go_sem]) rfl ve.o
   have zX:¬((zn:Int)=(d:Int)):=qO;have zi:=Hx (show zn=s->zx=[]from fun e=>by
    subst e;exact(HM.o _ _ (I.o.ki.src hb)).anti (ou.nil (oI t) zx))
   have q5:V.count false=(V.set zn true).count false+1:=by
    have hl:=(yH.1 hb).1;have he:=(yH.1 hb).2;have zq:0<V.count false:=List.count_pos_iff.2 (yJ hb);rw[List.count_set hl,he];simp;omega
   have D3:=Hx (show Ir t down s d N _ w W3 q (V.set zn true) (fun u=>if u=zn then zx else fin u) qn g c n zn (aL t zn)from
    ⟨I.o.ki.reach HT.o.2.1 (oI t) (by rw[qf];exact hs) qa (fun z hz=>by simpa using P2.o.1.mem_iff.1 hz) (fun z hz=>P2.o.1.mem_iff.2 (xO _ hz)) HM.o hb vl,P2.o.2.2.1,J3.o.2.1,J3.o.1,by
     have h1:=I.o.nn;have h2:=lJ t (2*t.links.length) zn;change (aL t zn).length<=_ at h2;rw[q5,xP]at h1;simp at h1;omega,I.o.hq,by have:=I.o.hc;omega⟩)
   have zB:n+(V.set zn true).count false*(2*t.links.length+1)+2*t.links.length+2<=gk:=by
    rw[q5,xP]at v8;omega
   have q0:=Hx (ah J3.o.2.2.1 J3.o.2.2.2);have vT:=Hx (show g≠w2.heap.size from fun e=>by
    obtain⟨cb,q2⟩:=P2.o.2.2.2.2.2.1.row.blk;have:=q2.lt;omega)
   have zg:=Hx (show zx=[]->zn=s from fun e=>by
    rcases I.o.ki.lab _ _ qa with⟨_,h1⟩|⟨y,a,u,h1,_⟩
    ·exact h1
    rw[e]at h1;simp at h1)
   have zh:zx.length<=64:=by
    have h1:=I.o.ki.size _ _ qa;have h2:=List.count_le_length (a:=true) (l:=V);rw[I.o.ki.len,qf]at h2;omega
   have zv:=Hx (show(zn,zx)∈qH/\kc<=65535*64 from⟨qa,by
    have:=jzej HT.o.2.1 zx;rw[vY.o]at this;exact yY this (Dx _ zh)⟩)
   have zD:Hid ((V.set zn true)[zn]?=some true):=Hx (yM (yH.1 hb).1);clear I hb q5 v8 qa vm vl vL;generalize V.set zn true=V2 at*;have zH:Hid ((fun u=>if u=zn then zx else fin u) zn=zx):=Hx (qE rfl);generalize (fun u=>if u=zn then zx else fin u)=D8 at*;generalize w2.heap.size=g2 at*;clear zo
   go_upto_region 22 with fail
   go_cut [119] (fun sl wx=>sl=.bool (decide (0<zx.length)&&bP t (zn:Int))/\Hid (Ir t down s d N #[vI (N:Int),.s AO t.over.length co,.s AL t.links.length cl,.s AD down.length cd,vI (d:Int),vI 0,.s (sA gO) N N] w wx q V2 D8 qn g c n zn (aL t zn))/\Hid (Ce (w.heap.size+2) wx A (ints zx)/\ak wx g2 212 #[vI (zn:Int),vI (kc:Nat),vI 0,.s A zx.length k]))
   case first=>
    by_cases hz:zx.length=0
    ·have HZ:=Hx hz
     have qI:¬((zx.length:Int)>0):=qO;have qV:¬((0:Int)<(zx.length:Int)):=qO;clear hz;go_wp2;go_meet;exact⟨by rw[HZ.o];rfl,D3,q0⟩
    have qI:((zx.length:Int)>0):=qO;have HZ:=Hx (show 0<zx.length by omega);have F0:W3.cell? (aD w.heap.size 0)=some (vI (N:Int)):=(D3.o.st.fin.cell 0).trans rfl;have F1:W3.cell? (aD w.heap.size 1)=some (.s AO t.over.length co):=(D3.o.st.fin.cell 1).trans rfl;have F2:W3.cell? (aD w.heap.size 2)=some (.s AL t.links.length cl):=(D3.o.st.fin.cell 2).trans rfl;have zF:=Hx (show Calls prog 116 #[.agg #[vI (N:Int),.s AO t.over.length co,.s AL t.links.length cl],vI (zn:Int)] W3 fun e w'=>e=.returned (.bool (bP t (zn:Int)))/\Ext W3 w' from by
     have h1:=tR t AO co AL cl (zn:Int) W3 (HT.o.1.K D3.o.st.ext) qO (jzo1 HT.o.2.1 (by rw[qB.o];omega));rw[qB.o]at h1;exact h1)
    go_wp2_with fail
    refine zF.o.mono ?_;rintro e w4 ⟨rfl,x4⟩;have X4:=Hx x4;clear x4;go_wp2;go_meet;exact⟨by rw[yO HZ.o];rfl,Hx ⟨D3.o.ki,D3.o.hp,D3.o.qu.K X4.o,D3.o.st.K X4.o,D3.o.nn,D3.o.hq,D3.o.hc⟩,Hx ⟨q0.o.1.K X4.o,q0.o.2.K X4.o⟩⟩
   obtain⟨rfl,D4,B4⟩:=hcut;clear q0 F4 L0 L3;obtain⟨bo,q9⟩:∃bo,(decide (0<zx.length)&&bP t (zn:Int))=bo:=⟨_,rfl⟩;have vK:=Hx q9;rw[q9];clear q9;cases bo with
   |true=>
    have I5:=Hx (show Ir t down s d N _ w wc q V2 D8 qn g c n 0 []from by
     have h1:=vK.o;rw[vM,decide_eq_true_eq]at h1;have h2:=D4.o;exact⟨h2.ki.dead (fun e=>by have h3:=zi.o e;rw[h3]at h1;simp at h1) h1.2 0,h2.hp,h2.qu,h2.st,by have:=h2.nn;simp;omega,h2.hq,h2.hc⟩)
    clear D4 B4;go_wp2
    go_roundg (gk-1)
    case measure=>omega
    exact⟨V2,D8,qn,g,c,n,qO,I5⟩
   |false=>
    have zE:=Hx (show zn=s\/bP t (zn:Int)=false from by
     by_cases h0:zx=[]
     ·exact .inl (zg.o h0)
     right
     have h1:=vK.o;have h2:0<zx.length:=List.length_pos_iff.2 h0;rw[yO h2]at h1;exact h1)
    have F6:wc.cell? (aD w.heap.size 6)=some (.s (sA gO) N N):=(D4.o.st.fin.cell 6).trans rfl;have L0:wc.cell? (aD g2 0)=some (vI (zn:Int)):=(B4.o.2.cell 0).trans rfl;obtain⟨V0,v1,v2⟩:=HT.o.2.2.2;have vp:=((v1.K D4.o.st.ext).cell zn).trans (pL _ V0 zn qz);obtain⟨AR,cr,v3,zb,za⟩:=v2 zn qz;rw[v3]at vp;have zI:=Hx za;have qJ:=lJ t (2*t.links.length) zn;change (aL t zn).length<=_ at qJ;have vj:=zb;obtain⟨M,hM⟩:∃M,(aL t zn).length=M:=⟨_,rfl⟩;have q1:=Hx hM;rw[hM]at vp qJ zb;clear v1 v2 v3 za vj hM;go_wp2;have I5:=Hx (ah D4.o (ah B4.o vT.o));have zA:q≠g2:=B4.o.2.ne_ D4.o.qu.box qD |> fun h e=>h e.symm;clear D4 B4 vT F6 L0 vp
    go_loopg [19,20,127] M (fun j _ _ it wy=>∃(i:Nat) (hs:List (Nat×LN)) (gi ci ni:Nat),M-i=j/\i<=M/\it=vI (i:Int)/\Hid (Ir t down s d N #[vI (N:Int),.s AO t.over.length co,.s AL t.links.length cl,.s AD down.length cd,vI (d:Int),vI 0,.s (sA gO) N N] w wy q V2 D8 hs gi ci ni zn ((aL t zn).drop i)/\(Ce (w.heap.size+2) wy A (ints zx)/\ak wy g2 212 #[vI (zn:Int),vI (kc:Nat),vI 0,.s A zx.length k])/\gi≠g2/\ni+(M-i)<=n+M))
    case atStart=>exact⟨0,qn,g,c,n,rfl,yZ _,rfl,Hx ⟨I5.o.1,I5.o.2.1,I5.o.2.2,qO⟩⟩
    obtain⟨i,qm,gi,ci,ni,rfl,zR,rfl,I6⟩:=hrel;by_cases vo:i<M
    ·obtain⟨a,ha⟩:∃a,(aL t zn)[i]?=some a:=⟨_,yG (by rw[q1.o];exact vo)⟩
     have qw:(aL t zn).drop i=a::(aL t zn).drop (i+1):=by
      obtain⟨h1,h2⟩:=yH.1 ha;rw[<-h2];exact Ju h1
     have vU:=Hx (yJ ha);have vF:a<2*t.links.length:=vX.1 (List.mem_filter.1 vU.o).1;have qU:a/2<t.links.length:=qO;have I7:Hid (Ir t down s d N _ w _ q V2 D8 qm gi ci ni zn (a::(aL t zn).drop (i+1))):=Hx (by rw[<-qw];exact I6.o.1);obtain⟨bR,oR,eR,zp,q8⟩:=zI.o.rd.at_ (i:=i) (by rw[bX,q1.o];exact vo);have cR:wr.cell? (aD bR (oR+i))=some (vI (a:Int)):=by
      rw[I7.o.st.ext.cell (p:=(aD bR (oR+i))) zp];refine(q8 i (by rw[bX,q1.o];exact vo)).trans ?_;simp[ints,ha]
     have iM:(i:Int)<(M:Int):=qO;have F3:wr.cell? (aD w.heap.size 3)=some (.s AD down.length cd):=(I7.o.st.fin.cell 3).trans rfl;have L3:wr.cell? (aD g2 3)=some (.s A zx.length k):=(I6.o.2.1.2.cell 3).trans rfl;have vt:=Hx (pI AD cd down a wr (HT.o.2.2.1.K I7.o.st.ext) hdl qO (jzo2 HF.o vF) qO);subst eR;clear q8 qw ha;obtain⟨bd,q7⟩:∃bd,cE down a=bd:=⟨_,rfl⟩;have vJ:=Hx q7;rw[q7]at vt;clear q7
     go_upto_region 26 with fail
     go_cut [145] (fun sl wy=>sl=.bool bd/\wr=wy)
     case first=>
      go_wp2_with fail
      refine vt.o.mono ?_;rintro e w5 ⟨rfl,rfl⟩;cases bd with
      |true=>
       go_wp2;go_meet;exact⟨rfl,rfl⟩
      |false=>
       by_cases hz:zx.length=0
       ·have HZ:=Hx hz
        have qI:decide ((zx.length:Int)=0)=true:=(by rw[decide_eq_true_eq];omega);have qV:((zx.length:Int)==0)=true:=(by rw[beq_iff_eq];omega);have zk:(zx.length:Int)=0:=qO;have zQ:(Instr.lookup 209 (.map none) (vI (a:Int)) false).run prog wr=.ok bF wr:=qK;clear hz;go_wp2;go_meet;exact⟨rfl,rfl⟩
       have qI:decide ((zx.length:Int)=0)=false:=(by rw[decide_eq_false_iff_not];omega);have qV:((zx.length:Int)==0)=false:=(by rw[yK];omega);have zk:¬(zx.length:Int)=0:=qO;go_wp2;go_meet;exact⟨rfl,rfl⟩
     obtain⟨rfl,rfl⟩:=hcut;clear vt;cases bd with
     |true=>
      have I8:=Hx (show Ir t down s d N _ w _ q V2 D8 qm gi ci ni zn ((aL t zn).drop (i+1))from
       ⟨I7.o.ki.off vJ.o,I7.o.hp,I7.o.qu,I7.o.st,by have:=I7.o.nn;simp at this⊢;omega,I7.o.hq,I7.o.hc⟩)
      have J8:=Hx (ah I6.o.2.1 (ah I6.o.2.2.1 I6.o.2.2.2));clear I6;go_wp2
      go_roundg (M-(i+1))
      case measure=>omega
      exact⟨i+1,qm,gi,ci,ni,rfl,qO,by go_num,Hx ⟨I8.o,J8.o.1,J8.o.2.1,by have:=J8.o.2.2;omega⟩⟩
     |false=>
      clear cR F3 L3;have lw:w.heap.size<wr.heap.size:=I7.o.st.fin.lt;have lg:g2<wr.heap.size:=I6.o.2.1.2.lt;have qh:=Hx (show∀wx,Ext wr wx->(wx.C w.heap.size 0 (vI (N:Int))/\wx.C w.heap.size 1 (.s AO t.over.length co)/\wx.C w.heap.size 2 (.s AL t.links.length cl)/\wx.C g2 1 (vI (kc:Nat))/\wx.C g2 2 (vI 0))from fun wx hx=>
       have hb:=I6.o.2.1.2.K hx;have hf:=I7.o.st.fin.K hx
       ⟨(hf.cell 0).trans rfl,(hf.cell 1).trans rfl,(hf.cell 2).trans rfl,(hb.cell 1).trans rfl,(hb.cell 2).trans rfl⟩)
      obtain⟨hh,qi,z2⟩:=pN HT.o.2.1 vF;have qx:=Hx (show∀wx,Ext wr wx->Calls prog 106 #[.agg #[vI (N:Int),.s AO t.over.length co,.s AL t.links.length cl],vI a] wx fun e w'=>e=.returned (vI (hh:Int))/\Ext wx w' from fun wx hx=>by
       have h1:=mC t AO co AL cl a wx ((HT.o.1.K I7.o.st.ext).K hx) qU;rw[qB.o,qi]at h1;exact h1)
      obtain⟨ca,qZ⟩:∃ca,dJ t a=ca:=⟨_,rfl⟩;have qy:=Hx (show∀wx,Ext wr wx->Calls prog 141 #[.agg #[vI (N:Int),.s AO t.over.length co,.s AL t.links.length cl],vI a] wx fun e w'=>e=.returned (vI (ca:Int))/\Ext wx w' from fun wx hx=>by
       have h1:=jzoc t AO co AL cl a wx ((HT.o.1.K I7.o.st.ext).K hx) HT.o.2.1 qU;rw[qB.o,qZ]at h1;exact h1)
      have zf:=Hx qi;have zs:=Hx qZ;have q2:ca<=65535:=(by rw[<-qZ];exact jzj HT.o.2.1 a);have zP:=zv.o.2;have zj:IntKind.i64.wrap ((kc:Int)+(ca:Int))=(kc:Int)+(ca:Int):=IntWalk.i64_in _ qO;have XD:Hid (Ext wr wr.drew):=Hx ((eR wr).drewN 1);have XA:Hid (Ext wr (wr.alloc (.cells #[vI 0,vI 0,vI 0,zN] 212)).drew):=Hx (((eR wr).alloc _).drewN 1);have BN:Hid (ak (wr.alloc (.cells #[vI 0,vI 0,vI 0,zN] 212)).drew wr.heap.size 212 #[vI 0,vI 0,vI 0,zN]):=Hx (eN wr _ _);obtain⟨i0,i1,i2,i3,i4⟩:=qh.o _ XD.o;obtain⟨y0,y1,y2,y3,y4⟩:=qh.o _ XA.o;clear qi qZ
      go_upto_region 27 with fail
      go_cut [20] (fun sl wx=>∃g3:Nat,sl=.pointer (sA g3)/\Hid (wr.heap.size<=g3/\ak wx g3 212 #[vI (hh:Int),vI ((kc:Int)+(ca:Int)),vI 0,zN]/\Ext wr wx))
      case first=>
       go_region_held3 (fun w'=>w'.C w.heap.size 0 (vI (N:Int))/\w'.C w.heap.size 1 (.s AO t.over.length co)/\w'.C w.heap.size 2 (.s AL t.links.length cl)/\w'.C g2 1 (vI (kc:Nat))/\w'.C g2 2 (vI 0))
        (first|with_reducible exact⟨i0,i1,i2,i3,i4⟩|with_reducible exact⟨y0,y1,y2,y3,y4⟩|with_reducible exact⟨aS i0 _,aS i1 _,aS i2 _,aS i3 _,aS i4 _⟩|exact⟨aF (aF (aF (aF i0 fT) fT) fT) fT,aF (aF (aF (aF i1 fT) fT) fT) fT,aF (aF (aF (aF i2 fT) fT) fT) fT,aF (aF (aF (aF i3 fG) fG) fG) fG,aF (aF (aF (aF i4 fG) fG) fG) fG⟩|fail)
        (first
         |(go_at_call 106
           first
           |(with_reducible refine(qx.o _ (by with_reducible exact XD.o)).mono ?_
             rintro e w8 ⟨rfl,x8⟩;have E8:=Hx (XD.o.tr x8))
           |(with_reducible refine(qx.o _ (by with_reducible exact XA.o)).mono ?_
             rintro e w8 ⟨rfl,x8⟩;have E8:=Hx (XA.o.tr x8);have B8:=Hx (BN.o.K x8))
           obtain⟨i0,i1,i2,i3,i4⟩:=qh.o _ E8.o;clear x8)
         |(go_at_call 141
           first
           |(with_reducible refine(qy.o _ (by with_reducible exact E8.o)).mono ?_
             rintro e w9 ⟨rfl,x9⟩;have E9:=Hx (E8.o.tr x9);have z1:wr.heap.size<=w8.heap.size:=E8.o.size
             first
             |(have B9:=Hx (B8.o.K x9)
               obtain⟨⟨v0,v1,v2,v3⟩,r0,r1,r2,r3⟩:=jz0 B9.o;have gg:wr.heap.size<=wr.heap.size:=yX _;have fT:w.heap.size≠wr.heap.size:=Ht lw;have fG:g2≠wr.heap.size:=Ht lg)
             |skip)
           |(with_reducible refine(qy.o _ (by with_reducible exact E8.o.alloc (.cells #[vI 0,vI 0,vI 0,zN] 212))).mono ?_
             rintro e w9 ⟨rfl,x9⟩;have E9:=Hx ((E8.o.alloc (.cells #[vI 0,vI 0,vI 0,zN] 212)).tr x9);have gg:wr.heap.size<=w8.heap.size:=E8.o.size;have fT:w.heap.size≠w8.heap.size:=Ht (yL lw gg);have fG:g2≠w8.heap.size:=Ht (yL lg gg);have B9:=Hx ((eN w8 212 #[vI 0,vI 0,vI 0,zN]).K x9);obtain⟨⟨v0,v1,v2,v3⟩,r0,r1,r2,r3⟩:=jz0 B9.o)
           obtain⟨i0,i1,i2,i3,i4⟩:=qh.o _ E9.o;clear x9)
         |fail)
       all_goals
        go_wp2;go_meet
        first
        |exact⟨_,rfl,Hx ⟨gg,(((B9.o.sT 0 _).sT 1 _).sT 2 _).sT 3 _,jzo3 B9.o gg E9.o _ _ _ _⟩⟩
        |exact⟨w9.heap.size,rfl,Hx ⟨E9.o.size,eN w9 _ _,E9.o.alloc _⟩⟩
      obtain⟨g3,rfl,B9⟩:=hcut;clear qh qx qy i0 i1 i2 i3 i4 y0 y1 y2 y3 y4 zj;have F5:wc.cell? (aD w.heap.size 5)=some (vI 0):=((I7.o.st.K B9.o.2.2).fin.cell 5).trans rfl;have L2:wc.cell? (aD g3 2)=some (vI 0):=(B9.o.2.1.cell 2).trans rfl;have L3:wc.cell? (aD g2 3)=some (.s A zx.length k):=((I6.o.2.1.2.K B9.o.2.2).cell 3).trans rfl;have vW:=Hx (jzcf A k zx wc (I6.o.2.1.1.K B9.o.2.2).1 qO);obtain⟨ti,hi,vH,qI,qV⟩:=info_parts Tryz.info3;have zY:wr.heap.size<=wc.heap.size:=B9.o.2.2.size;have zU:g3<wc.heap.size:=B9.o.2.1.lt
      go_wp2_with fail
      refine vW.o.mono ?_;rintro e v5 ⟨zC,rfl,qo,vc⟩;have vu:=Hx qo;have v9:=Hx vc;have zu:wc.heap.size<=v5.heap.size:=vc.size;clear qo vc vW F5 L2 L3
      go_wp2_with (at_builtin;go_must (refine wpList_append_own_at _ rfl (.tmp 182) (.tmp 184) 42 rfl wc.heap.size 3 ti (vI 0) 1 8 underlying42 hi vH qI qV rfl qD zC zx.length (ints zx) rfl (vu.o.alloc _) (aD v5.heap.size 0) 1 1 [vI (a:Int)] rfl rfl ?c1 ?c2 ?c3 ?c4 ?c5 ?_))
      case c1=>
       intro j u hj
       match j,hj with
       |0,hj=>simp at hj;subst hj;simp[Addr.add]
      case c2=>intro u hu;simp at hu;subst hu;rfl
      case c3=>unfold maxLen;omega
      case c4=>omega
      case c5=>simp;omega
      intro zS qt qe qp _ _;have q6:Hid (Ext wc qt):=Hx (Below.grown (v9.o.alloc (.cells #[vI (a:Int)] 3)) qp (by simp;omega) (fun q hq=>(vu.o.lt q hq).1));have qY:=Hx (B9.o.2.1.K q6.o);obtain⟨qg,qk,vd,va⟩:=jzf9 qe;subst vd;have vz:=Hx (show Ce (w.heap.size+2) qt (sA qg) (ints (zx++[a]))from by
       have e1:ints zx++[vI (a:Int)]=ints (zx++[a]):=(by rw[jzf7];rfl);rw[e1]at qe;obtain⟨A5,c5,e5,_,r5⟩:=fA qe qS;injection e5 with e5
       subst e5;refine⟨r5,fun p hp=>?_⟩;injection hp with hp
       subst hp;have:=(qe.lt qg rfl).1;have h2:=I7.o.st.Ih.lt;simp only;omega)
      have q4:qt.cell? (aD g3 3)=some zN:=(qY.o.cell 3).trans rfl;have zK:qt.frozen? (aD g3 3)=false:=qY.o.frozen 3;clear qp qe vu hi vH qI qV
      go_upto_region 32 with fail
      have qA:Hid (Ext wr (qt.setCell (aD g3 3) (.s (sA qg) (zx.length+1) qk))):=Hx (Ext.sT (B9.o.2.2.tr q6.o) B9.o.1 _);have zc:Hid (ak (qt.setCell (aD g3 3) (.s (sA qg) (zx.length+1) qk)) g3 212 #[vI (hh:Int),vI ((kc:Int)+(ca:Int)),vI 0,.s (sA qg) (zx.length+1) qk]):=Hx (qY.o.sT 3 _);have zd:Hid (Ce (w.heap.size+2) (qt.setCell (aD g3 3) (.s (sA qg) (zx.length+1) qk)) (sA qg) (ints (zx++[a]))):=Hx (vz.o.other (aM _ _ _ _) qY.o qD);clear q4 zK vz qY q6 v9;generalize qt.setCell (aD g3 3) (.s (sA qg) (zx.length+1) qk)=w12 at*;have qT:iO t (hh,zx++[a]) (sA qg) qk=.agg #[vI (hh:Int),vI ((kc:Int)+(ca:Int)),vI 0,.s (sA qg) (zx.length+1) qk]:=by
       unfold iO;simp[jzd6,vY.o,zs.o]
      have vg:ni+1<=1000000:=by
       have h1:=I7.o.nn;have h8:N*(2*t.links.length+1)<=64*513:=DK hN64 qO;simp at h1;omega
      have qM:=Hx (show Calls prog 142 #[.iface 210 (.pointer (sA q)),.iface 212 (.agg #[vI (hh:Int),vI ((kc:Int)+(ca:Int)),vI 0,.s (sA qg) (zx.length+1) qk])] w12 (jzy t w12 (w.heap.size+2) q gi (ni+1) ((hh,zx++[a])::qm))from by
       have h1:=jzow t (jzgc t) (w.heap.size+2) q gi ni ci qm (hh,zx++[a]) (sA qg) qk w12 (I7.o.qu.K qA.o) I7.o.hp (fun y hy=>by
        rcases xZ.1 hy with rfl|hy
        ·simp;omega
        have h2:=I7.o.ki.size y.1 y.2 hy;have h3:=List.count_le_length (a:=true) (l:=V2);rw[I7.o.ki.len,qf]at h3;omega) (by simpa using va) zd.o vg (by have:=(I7.o.st.K qA.o).Ih.lt;omega)
       rw[qT]at h1;exact h1)
      obtain⟨⟨l0,l1,l2,l3⟩,_⟩:=jz0 zc.o;clear qT zd zc
      go_wp2_with fail
      refine qM.o.mono ?_;rintro e vk ⟨rfl,vq,q4,qQ,vG,vw,vi,vZ,qW⟩;have I9:=Hx (show Ir t down s d N _ w vk q V2 D8 qQ vq q4 (ni+1) zn ((aL t zn).drop (i+1))from
       ⟨I7.o.ki.push zD.o zE.o vU.o vJ.o (fun z=>by
        rw[vG.mem_iff,xZ,zH.o,zf.o,xL]),vw,vZ,(I7.o.st.K qA.o).kf qW I7.o.hq I7.o.qu.row.lo,by have:=I7.o.nn;simp at this⊢;omega,I7.o.hq,vi⟩)
      have J9:=Hx (show(Ce (w.heap.size+2) vk A (ints zx)/\ak vk g2 212 #[vI (zn:Int),vI (kc:Nat),vI 0,.s A zx.length k])/\vq≠g2/\ni+1+(M-(i+1))<=n+M from by
       have K:=I7.o.qu.K qA.o;obtain⟨cb,q2⟩:=K.row.blk;refine⟨⟨qW.rdF K.box q2 (I6.o.2.1.1.K qA.o),qW.blk (I6.o.2.1.2.K qA.o) (fun e=>zA e.symm) (fun e=>I6.o.2.2.1 e.symm)⟩,fun e=>?_,by have:=I6.o.2.2.2;omega⟩;rcases qW.row with e2|e2
       ·exact I6.o.2.2.1 (by rw[<-e2,e])
       have:=qA.o.size;omega)
      clear vG vw vZ qW qM l0 l1 l2 l3 I6 I7;go_wp2
      go_roundg (M-(i+1))
      case measure=>omega
      exact⟨i+1,qQ,vq,q4,ni+1,rfl,qO,by go_num,Hx ⟨I9.o,J9.o.1,J9.o.2.1,J9.o.2.2⟩⟩
    obtain rfl:i=M:=qO;have zm:¬((i:Int)<(i:Int)):=qO;have zJ:¬(i<i):=Ho i;have I7:=Hx (show Ir t down s d N _ w _ q V2 D8 qm gi ci ni zn []from by
     have h1:=I6.o.1;rw[D5 (by rw[q1.o];exact yX _)]at h1;exact h1)
    have zZ:ni<=n+i:=(by have:=I6.o.2.2.2;omega);have I8:=Hx (show Ir t down s d N _ w _ q V2 D8 qm gi ci ni 0 []from
     ⟨⟨I7.o.ki.len,I7.o.ki.lab,I7.o.ki.size,I7.o.ki.best,fun u a h1 h2 h3 h4 h5=>by
       rcases I7.o.ki.front u a h1 h2 h3 h4 h5 with⟨_,h6⟩|h6
       ·cases h6
       exact .inr h6,I7.o.ki.src,I7.o.ki.dd⟩,I7.o.hp,I7.o.qu,I7.o.st,I7.o.nn,I7.o.hq,I7.o.hc⟩)
    clear I6 I7;go_wp2
    go_roundg (gk-1)
    case measure=>omega
    exact⟨V2,D8,qm,gi,ci,ni,qO,I8⟩
def jzgd{w}{g:Nat}{t:TypeId}{a b c d e f h:Value}(hb:ak w g t #[a,b,c,d,e,f,h]):(w.C g 0 a/\w.C g 1 b/\w.C g 2 c/\w.C g 3 d/\w.C g 4 e/\w.C g 5 f/\w.C g 6 h)/\w.frozen? (aD g 0)=false/\w.frozen? (aD g 1)=false/\w.frozen? (aD g 2)=false/\w.frozen? (aD g 3)=false/\w.frozen? (aD g 4)=false/\w.frozen? (aD g 5)=false/\w.frozen? (aD g 6)=false:=
 ⟨⟨(hb.cell 0).trans rfl,(hb.cell 1).trans rfl,(hb.cell 2).trans rfl,(hb.cell 3).trans rfl,(hb.cell 4).trans rfl,(hb.cell 5).trans rfl,(hb.cell 6).trans rfl⟩,hb.frozen 0,hb.frozen 1,hb.frozen 2,hb.frozen 3,hb.frozen 4,hb.frozen 5,hb.frozen 6⟩
def jzo5{w0 w:World}{g:Nat}(hg:w0.heap.size<=g)(hx:Ext w0 w)(v0 v1 v2 v3 v4 v5 v6:Value):Ext w0 (((((((w.setCell (aD g 0) v0).setCell (aD g 1) v1).setCell (aD g 2) v2).setCell (aD g 3) v3).setCell (aD g 4) v4).setCell (aD g 5) v5).setCell (aD g 6) v6):=
 Ext.sT (Ext.sT (Ext.sT (Ext.sT (Ext.sT (Ext.sT (Ext.sT hx hg v0) hg v1) hg v2) hg v3) hg v4) hg v5) hg v6
def jzo6(w:World)(g:Nat)(v0 v1 v2 v3 v4 v5 v6:Value):w.grownBy (((((((w.setCell (aD g 0) v0).setCell (aD g 1) v1).setCell (aD g 2) v2).setCell (aD g 3) v3).setCell (aD g 4) v4).setCell (aD g 5) v5).setCell (aD g 6) v6) (some g):=
 ((((((aM w g 0 v0).trans (aM _ g 1 v1)).trans (aM _ g 2 v2)).trans (aM _ g 3 v3)).trans (aM _ g 4 v4)).trans (aM _ g 5 v5)).trans (aM _ g 6 v6)
def jzo7(w:World)(r:LN×Int)(e:Ending)(w':World):Prop:=
 (r.2=0/\∃(g:Nat) (A:OA) (k:Nat),e=.returned (.tuple #[.s (sA g) 1 1,vI 0])/\w'.C g 0 (.s A r.1.length k)/\r.1.length<=k/\og w' 3 A (ints r.1)/\Ext w w')\/
 (r.2≠0/\e=.returned (.tuple #[zN,vI r.2])/\Ext w w')
def oS(w:World)(r:LN×Int)(e:Ending)(w':World):Prop:=
 (r.2=0/\∃(g:Nat) (A:OA) (k:Nat),e=.returned (.tuple #[.s (sA g) 1 1,vI 0])/\w'.C g 0 (.s A r.1.length k)/\r.1.length<=k/\Ce w.heap.size w' A (ints r.1)/\Ext w w')\/
 (r.2≠0/\e=.returned (.tuple #[zN,vI r.2])/\Ext w w')
def oS.weak{w}{r:LN×Int}{e:Ending}{w'}(h:oS w r e w'):jzo7 w r e w':=by
 rcases h with⟨h1,g,A,k,h2,h3,h4,h5,h6⟩|h
 ·exact .inl ⟨h1,g,A,k,h2,h3,h4,h5.1,h6⟩
 exact .inr h
def jzo8{t}(hv:aG t=true):1<=t.nodes/\t.nodes<=64:=by
 unfold aG cF kg at hv;simp at hv;exact hv.1.1.1
def jzo9 t AO(co:Nat)AL(cl:Nat)AD(cd:Nat)(down:List Bool)(s d:Int)w(ht:aR w t AO co AL cl)(hll:t.links.length<=256)(hdn:Rd w AD (bB down))(hdl:down.length<=cd)(hdc:down.length<=600):
  Calls prog 28 #[.agg #[vI t.nodes,.s AO t.over.length co,.s AL t.links.length cl],.s AD down.length cd,vI s,vI d,vI 1,vI 0] w (oS w (Co t down (bO t) s d)):=by
 have HT:=Hx (ht);have qJ:=Hx (hdn);have h3:=ht.ll;have h4:=ht.cl;clear ht hdn;generalize hR:Co t down (bO t) s d=R;have HR:=Hx (hR);clear hR;obtain⟨b0,e0⟩:=aU w #[vI t.nodes,.s AO t.over.length co,.s AL t.links.length cl] 25;obtain⟨⟨i0,i1,i2⟩,g0,g1,g2⟩:=b0.t3;have BB:=Hx b0;clear b0;go_enter func28,ntmps28;(go_upto_region 1 with fail);go_cut [39] (fun s wx=>s=.bool (!aG t||!bU t down)/\Hid (ak wx w.heap.size 25 #[vI t.nodes,.s AO t.over.length co,.s AL t.links.length cl]/\Ext w wx));(case first=>(go_wp2_with fail);refine(pJ t AO co AL cl _ (HT.o.K e0)).r fun w1 qg=>?_;have qn:=BB.o.K qg;obtain⟨⟨i0,i1,i2⟩,g0,g1,g2⟩:=qn.t3;have E1:=Hx (ah qn (e0.tr qg));clear qg qn;cases hv:aG t;(case false=>go_wp2;go_meet;exact⟨by simp[hv],E1⟩);have HV:=Hx (hv);go_wp2_with fail;refine(jza9 t AO co AL cl AD cd down _ (HT.o.K E1.o.2)).r fun w2 qf=>?_;have E2:=Hx (ah (E1.o.1.K qf) (E1.o.2.tr qf));clear qf;cases hf:bU t down;(case false=>go_wp2;go_meet;exact⟨by simp[hf],E2⟩);have HF:=Hx (hf);go_wp2;go_meet;exact⟨by simp[HV.o,HF.o],E2⟩);obtain⟨rfl,E3⟩:=hcut;clear i0 i1 i2 g0 g1 g2 e0;obtain⟨⟨i0,i1,i2⟩,g0,g1,g2⟩:=E3.o.1.t3;obtain⟨b1,qt⟩:∃b,(!aG t||!bU t down)=b:=⟨_,rfl⟩;have qy:=Hx qt;rw[qt];clear qt;cases b1;(case true=>have hr:R=([],1):=(by rw[<-HR.o];have:cO t down (bO t)=true:=(by unfold cO;rw[qy.o];rfl);unfold Co;rw[this];rfl);subst hr;go_wp2;exact bodyPost_ret (v:=.tuple #[zN,vI 1]) (by simp[results,results28,go_sem]) rfl (.inr ⟨qD,rfl,E3.o.2⟩));have qe:Hid (aG t=true/\bU t down=true):=Hx (by have:=qy.o;simpa using this);have qj:dR t s d= !(Cr t.nodes s&&Cr t.nodes d):=(by unfold dR Cr;rw[Bool.eq_iff_iff];simp;omega);have qi:=Hx (qj);clear qj;(go_upto_region 3 with fail);go_cut [49] (fun x wx=>x=.bool (dR t s d)/\Hid (ak wx w.heap.size 25 #[vI t.nodes,.s AO t.over.length co,.s AL t.links.length cl]/\Ext w wx));(case first=>(go_wp2_with fail);refine(lI t AO co AL cl s _).r fun w1 qg=>?_;have E4:=Hx (ah (E3.o.1.K qg) (E3.o.2.tr qg));obtain⟨⟨i0,i1,i2⟩,g0,g1,g2⟩:=E4.o.1.t3;clear qg;cases hn:Cr t.nodes s;(case false=>go_wp2;go_meet;exact⟨by rw[qi.o,hn];rfl,E4⟩);have HN:=Hx hn;clear hn;go_wp2_with fail;refine(lI t AO co AL cl d _).r fun w2 qf=>?_;have E5:=Hx (ah (E4.o.1.K qf) (E4.o.2.tr qf));clear qf;go_wp2;go_meet;exact⟨by rw[qi.o,HN.o];simp,E5⟩);obtain⟨rfl,E6⟩:=hcut;clear i0 i1 i2 g0 g1 g2 E3;obtain⟨⟨i0,i1,i2⟩,g0,g1,g2⟩:=E6.o.1.t3;have qx:Hid (cO t down (bO t)=false):=Hx (by unfold cO;rw[qe.o.1,qe.o.2,jzei];rfl);cases hb2:dR t s d;(case true=>have hr:R=([],2):=(by rw[<-HR.o];unfold Co;rw[qx.o,hb2];rfl);subst hr;go_wp2;exact bodyPost_ret (v:=.tuple #[zN,vI 2]) (by simp[results,results28,go_sem]) rfl (.inr ⟨qD,rfl,E6.o.2⟩))
 obtain⟨k1,k2,k3,k4⟩:0<=s/\s<t.nodes/\0<=d/\d<t.nodes:=(by unfold dR at hb2;simp at hb2;omega);have qQ:=Hx hb2;obtain⟨s',rfl⟩:=Il k1;obtain⟨d',rfl⟩:=Il k3;have qp:=jzo8 qe.o.1;obtain⟨N,hN⟩:=Il (show 0<=t.nodes by omega);have qm:=Hx hN;have qC:s'<N:=qO;have qI:d'<N:=qO;have qo:N<=64:=qO;have qH:=Hx (show R=match eH t down (bO t) s' d' with
  |none=>([],11)
  |some l=>(l,0)from by rw[<-HR.o];unfold Co;rw[qx.o,qQ.o];rfl)
 clear hb2 hN k1 k2 k3 k4 HR qp;have XD:Hid (Ext wc wc.drew):=Hx ((eR wc).drewN 1);have XA:Hid (Ext wc (wc.alloc (.cells #[vI 0,zN,zN,zN,vI 0,vI 0,zN] 134)).drew):=Hx (((eR wc).alloc _).drewN 1);have BN:Hid (ak (wc.alloc (.cells #[vI 0,zN,zN,zN,vI 0,vI 0,zN] 134)).drew wc.heap.size 134 #[vI 0,zN,zN,zN,vI 0,vI 0,zN]):=Hx (eN wc _ _);have qa:Hid (∀wx,Ext wc wx->(wx.C w.heap.size 0 (vI t.nodes)/\wx.C w.heap.size 1 (.s AO t.over.length co)/\wx.C w.heap.size 2 (.s AL t.links.length cl))):=Hx (fun wx hx=>(E6.o.1.K hx).t3.1);obtain⟨i0,i1,i2⟩:=qa.o _ XD.o;obtain⟨y0,y1,y2⟩:=qa.o _ XA.o;have lw:w.heap.size<wc.heap.size:=E6.o.1.lt;(go_upto_region 5 with fail);go_cut [14] (fun sl wx=>∃g gL:Nat,sl=.pointer (sA g)/\Hid (wc.heap.size<=g/\ak wx g 134 #[vI t.nodes,.s AO t.over.length co,.s AL t.links.length cl,.s AD down.length cd,vI (d':Int),vI 0,.s (sA gL) N N]/\LL wx gL N (aL t)/\Ext wc wx))
 case first=>
  go_region_held3 (fun w'=>w'.C w.heap.size 0 (vI t.nodes)/\w'.C w.heap.size 1 (.s AO t.over.length co)/\w'.C w.heap.size 2 (.s AL t.links.length cl))
   (first|with_reducible exact⟨i0,i1,i2⟩|with_reducible exact⟨y0,y1,y2⟩|with_reducible exact⟨aS i0 _,aS i1 _,aS i2 _⟩|exact⟨aF (aF (aF (aF (aF (aF (aF i0 fT) fT) fT) fT) fT) fT) fT,aF (aF (aF (aF (aF (aF (aF i1 fT) fT) fT) fT) fT) fT) fT,aF (aF (aF (aF (aF (aF (aF i2 fT) fT) fT) fT) fT) fT) fT⟩|fail)
   (first
    |(go_at_call 75
      first
      |(with_reducible refine(tW t AO co AL cl _ ((HT.o.K E6.o.2).K (by with_reducible exact XD.o)) qe.o.1).mono ?_
        rintro e w8 ⟨gL,N',qB,rfl,qw,x8⟩;have E8:=Hx (XD.o.tr x8))
      |(with_reducible refine(tW t AO co AL cl _ ((HT.o.K E6.o.2).K (by with_reducible exact XA.o)) qe.o.1).mono ?_
        rintro e w8 ⟨gL,N',qB,rfl,qw,x8⟩;have E8:=Hx (XA.o.tr x8);have B8:=Hx (BN.o.K x8);obtain⟨⟨v0,v1,v2,v3,v4,v5,v6⟩,r0,r1,r2,r3,r4,r5,r6⟩:=jzgd B8.o;have gg:wc.heap.size<=wc.heap.size:=yX _;have fT:w.heap.size≠wc.heap.size:=Ht lw)
      obtain rfl:N'=N:=(by have:=qm.o;omega);have L8:=Hx qw;obtain⟨i0,i1,i2⟩:=qa.o _ E8.o;clear x8 qw qB)
    |fail)
  all_goals
   go_wp2;go_meet
   first
   |exact⟨_,gL,rfl,Hx ⟨gg,(((((((B8.o.sT 0 _).sT 1 _).sT 2 _).sT 3 _).sT 4 _).sT 5 _).sT 6 _),L8.o.other (jzo6 _ _ _ _ _ _ _ _ _) B8.o qD qD,jzo5 gg E8.o _ _ _ _ _ _ _⟩⟩
   |exact⟨w8.heap.size,gL,rfl,Hx ⟨E8.o.size,eN w8 _ _,L8.o.K ((eR w8).alloc _),E8.o.alloc _⟩⟩
 (obtain⟨g,gL,rfl,E9⟩:=hcut;clear qa i0 i1 i2 y0 y1 y2 g0 g1 g2;obtain⟨⟨v0,v1,v2,v3,v4,v5,v6⟩,_⟩:=jzgd E9.o.2.1;have qA:=Hx (jzo4 t AO co AL cl AD cd down gL N s' d' _ ((HT.o.K E6.o.2).K E9.o.2.2.2) qe.o.1 qm.o hll ((qJ.o.K E6.o.2).K E9.o.2.2.2) hdl hdc qe.o.2 E9.o.2.2.1 qC qI qo);have qM:¬((1:Int)<1):=qD;have qz:s'<t.nodes.toNat:=(by rw[qm.o];simpa using qC);have qT:d'<t.nodes.toNat:=by rw[qm.o];simpa using qI);go_wp2_with fail;refine qA.o.mono ?_;rintro e w3 qk;rcases qk with⟨x,A,k,rfl,hk,rx,hle,Kg,x3⟩|⟨rfl,hno,x3⟩
 ·have qh:Hid (R.2=0/\R.1=x):=Hx (by have h1:=qH.o;rw[jzm9 qe.o.1 qz hle Kg]at h1;rw[h1];exact⟨rfl,rfl⟩);have FX:Hid (x.length<=k/\Ce w.heap.size w3 A (ints x)/\Ext w w3):=Hx (⟨hk,⟨rx.1,fun p hp=>yY (E6.o.2.tr E9.o.2.2.2).size (rx.2 p hp)⟩,(E6.o.2.tr E9.o.2.2.2).tr x3⟩);clear hk rx hle Kg x3 qA;go_wp2;go_loopg [17] 0 (fun j s17 wx=>s17=.s (sA w3.heap.size) 1 1/\w3.alloc (.cells #[.s A x.length k] 42)=wx);exact⟨rfl,rfl⟩
  obtain⟨rfl,rfl⟩:=hrel;have BX:=Hx (show oS w R (.returned (.tuple #[.s (sA w3.heap.size) 1 1,vI 0])) (w3.alloc (.cells #[.s A x.length k] 42))from
   .inl ⟨qh.o.1,w3.heap.size,A,k,rfl,by rw[qh.o.2];exact(eN w3 42 #[.s A x.length k]).cell 0,by rw[qh.o.2];exact FX.o.1,by rw[qh.o.2];exact⟨FX.o.2.1.1.K ((eR _).alloc _),FX.o.2.1.2⟩,FX.o.2.2.alloc _⟩)
  go_wp2;exact bodyPost_ret (v:=.tuple #[.s (sA w3.heap.size) 1 1,vI 0]) (by simp[results,results28,go_sem]) rfl BX.o
 have qh:Hid (oS w R (.returned (.tuple #[zN,vI 11])) w3):=Hx (by have h1:=qH.o;rw[jzna qe.o.1 qz hno]at h1;rw[h1];exact .inr ⟨qD,rfl,(E6.o.2.tr E9.o.2.2.2).tr x3⟩);clear x3 hno;go_wp2;exact bodyPost_ret (v:=.tuple #[zN,vI 11]) (by simp[results,results28,go_sem]) rfl qh.o
def cmp3(a b:Rat):(aW a b= -1/\a<b)\/(aW a b=0/\a=b)\/(aW a b=1/\b<a):=by
 unfold aW;by_cases h:a<b;{exact .inl ⟨by rw[qE h],h⟩};by_cases h2:a=b;{exact .inr (.inl ⟨by rw[qF h,qE h2],h2⟩)};exact .inr (.inr ⟨by rw[qF h,qF h2],qG⟩)
def eT(T:Sx.Tb)(j i:Nat):Bool:=decide (0<Sx.at_ (T.row i).co j)&&(match Sx.um T j i with
 |none=>true
 |some b=>decide (Sx.quo T j i<Sx.quo T j b\/Sx.quo T j i=Sx.quo T j b/\Sx.cu T.bn i<Sx.cu T.bn b))
def jzpa(T:Sx.Tb)(j i:Nat):Sx.um T j (i+1)=if eT T j i=true then some i else Sx.um T j i:=by
 show(if 0<Sx.at_ (T.row i).co j then(match Sx.um T j i with
  |none=>some i
  |some b=>if Sx.quo T j i<Sx.quo T j b\/Sx.quo T j i=Sx.quo T j b/\Sx.cu T.bn i<Sx.cu T.bn b then some i else some b)else Sx.um T j i)=_
 unfold eT;by_cases h:0<Sx.at_ (T.row i).co j;{rw[qE h,yO h,IX];(cases Sx.um T j i with|none=>simp|some b=>by_cases h2:Sx.quo T j i<Sx.quo T j b\/Sx.quo T j i=Sx.quo T j b/\Sx.cu T.bn i<Sx.cu T.bn b;{simp[h2]};simp[h2])};rw[qF h,yP h];simp
def lq(T:Sx.Tb)(j i:Nat):Rat:=match Sx.um T j i with
 |none=>0
 |some b=>Sx.quo T j b
def jzge(q:Rat):aB q<=0↔¬0<q:=by
 have h:q.num<0↔q<0:=(by rw[<-Int.not_le,Rat.num_nonneg,Rat.not_le]);unfold aB;by_cases h0:q.num=0;{rw[qE h0];have:q=0:=Rat.num_eq_zero.1 h0;rw[this];decide};rw[qF h0];have h3:q≠0:=fun e=>h0 (by rw[e];rfl);by_cases h1:q.num<0;{rw[qE h1];have:=h.1 h1;exact⟨fun _=>qG,fun _=>qD⟩};rw[qF h1];have:¬q<0:=fun x=>h1 (h.2 x);exact⟨fun h=>qO,fun h=>absurd qG h⟩
def jzpb(B j P:Nat)(L:aQ)(T:Sx.Tb)w(h:aH w B L T)(q7:Km T)(q6:Kl T P)(hP:P<=100000)(hj:j<T.ay.length)(hm0:0<L.m)(hm:L.m<=1000000)(hK:T.ay.length<=1000000000000):
  Calls prog 82 #[.pointer (sA L.p),vI (j:Int)] w fun e w'=>e=.returned (vI (iE (Sx.Ck T j)))/\Ext w w':=by
 obtain⟨g,cr,q2,vw⟩:=h.Cu hm0;obtain⟨gb,cb,q4,vu⟩:=h.Dp hm0;obtain⟨cp,qX,_,p0,p1,_,_⟩:=h.DV;rw[q2]at p0;rw[q4]at p1;have q0:=(qX.cell 0).trans p0;have Q1:=Hx ((qX.cell 1).trans p1);have qh:=h.bn;rw[q4]at qh;have HE:=Hx (show Sx.Ck T j=Sx.um T j L.m by unfold Sx.Ck;rw[h.rl]);have q3:=qX.lt;have qM:gb<w.heap.size:=rG (gJ qh hm0);have vc:=Hx qh;have H:=Hx (ah h (ah q7 q6));have HV:=Hx q2;have vi:=h.rl;clear h q7 q6 q2 q4 qX p0 p1 qh;generalize ES:T.ay.length=K at*;have q5:=Hx ES;clear ES;have jN:(j:Int)<(K:Int):=qO;have j0:(0:Int)<=(j:Int):=qO;have L0:=Hx (eN w 33 rV);have LX:=Hx ((eR w).alloc (.cells rV 33))
 go_enter func82,ntmps82
 go_wp2
 go_loopg [5,7,8,9,10,11,17] L.m (fun q bt _ _ _ _ _ it wr=>∃i:Nat,L.m-i=q/\i<=L.m/\it=vI (i:Int)/\bt=vI (iE (Sx.um T j i))/\Hid (Ext w wr/\∃nl Al ll cl qi qj qm,ak wr w.heap.size 33 #[.bool nl,.s Al ll cl,.s qi qj qm]/\aC wr nl Al ll cl qi qj qm (lq T j i)))
 case atStart=>exact⟨0,rfl,yZ _,rfl,rfl,Hx ⟨LX.o,_,_,_,_,_,_,_,L0.o,fE _⟩⟩
 obtain⟨i,rfl,hi,rfl,rfl,I⟩:=hrel;clear q0;by_cases qA:i<L.m
 ·have iN:(i:Int)<(L.m:Int):=by omega
  have i0:(0:Int)<=(i:Int):=qO;have qY:i<T.rows.length:=(by rw[vi];exact qA);have qJ:(T.row i).co.length=K:=(by rw[H.o.2.1.cl i qY,q5.o]);obtain⟨gv,cv,hV,q9,qB⟩:=(H.o.1.co i qA).form (by rw[qJ];omega);rw[qJ]at hV q9;obtain⟨ca,hb,nr,R1,m1,d1,qy,qC,qz,r0,r1,r2,r3,rr⟩:=H.o.1.rwa qA HV.o;rw[hV]at r0;have qZ:=H.o.1.co i qA;rw[hV]at qZ;obtain⟨nf,F1,f1,e1,qH,qI,qQ,⟨x0,x1,x2⟩,_,rf⟩:=qZ.cell (aZ (show j<(T.row i).co.length by rw[qJ];exact hj));have EX:=Hx I.o.1;have k0:=aA EX.o ((hb.cell _).trans r0);have k1:=aA EX.o ((hb.cell _).trans r1);have k2:=aA EX.o ((hb.cell _).trans r2);have k3:=aA EX.o ((hb.cell _).trans r3);have x0:=aA EX.o x0;have x1:=aA EX.o x1;have x2:=aA EX.o x2;have RR:=Hx (ah (rr.K EX.o) (rf.K EX.o));have vl:=Hx (H.o.2.2.co i qY _ (yJ (aZ (show j<(T.row i).co.length by rw[qJ];exact hj))));have vh:=Hx (H.o.2.2.re i qY);have HS:=Hx (jzpa T j i);obtain⟨bx,e0⟩:=aU wr #[.s (sA gv) K cv,.bool nr,.s R1 m1 d1,.s qy qC qz] 145;have SG:=Hx (dA nf F1 f1 e1 qH qI qQ (Sx.at_ (T.row i).co j) _ (RR.o.2.K e0));have BX:=Hx (ah bx e0);have vd:gv<wr.heap.size:=yL qB EX.o.size;clear hV hb r0 r1 r2 r3 rr rf qZ bx e0 qJ q9 qB
  go_wp2_with fail
  refine SG.o.mono ?_;rintro e w4 ⟨rfl,x4⟩;have E4:=Hx (BX.o.2.tr x4);have B4:=Hx (BX.o.1.K x4);clear x4;by_cases hx:0<Sx.at_ (T.row i).co j
  ·have HX:=Hx hx
   have HP:Hid (Sx.at_ (T.row i).co j≠0):=Hx (fun e=>by rw[e]at hx;exact absurd hx Gt);have hs:decide (aB (Sx.at_ (T.row i).co j)<=0)=false:=yP fun h=>(jzge _).1 h hx;clear hx;generalize aB (Sx.at_ (T.row i).co j)=sg at*
   go_upto_region 7 with fail
   have qf:=Hx (show∀wx,Ext w4 wx->((wx.C wr.heap.size 0 (.s (sA gv) K cv)/\wx.C wr.heap.size 1 (.bool nr)/\wx.C wr.heap.size 2 (.s R1 m1 d1)/\wx.C wr.heap.size 3 (.s qy qC qz))/\wx.C gv (j*3) (.bool nf)/\wx.C gv (j*3+1) (.s F1 f1 e1)/\wx.C gv (j*3+2) (.s qH qI qQ))from fun wx hx=>
    ⟨⟨(B4.o.K hx).cell 0,(B4.o.K hx).cell 1,(B4.o.K hx).cell 2,(B4.o.K hx).cell 3⟩,aA (E4.o.tr hx) x0,aA (E4.o.tr hx) x1,aA (E4.o.tr hx) x2⟩)
   have XD:Hid (Ext w4 w4.drew):=Hx ((eR w4).drewN 1);have XA:Hid (Ext w4 (w4.alloc (.cells rV 33)).drew):=Hx (((eR w4).alloc _).drewN 1);have BN:Hid (ak (w4.alloc (.cells rV 33)).drew w4.heap.size 33 rV):=Hx (eN w4 _ _);have IC:=Hx (qf.o _ XD.o);have UC:=Hx (qf.o _ XA.o);obtain⟨⟨a0,a1,a2,a3⟩,a4,a5,a6⟩:=IC.o;obtain⟨⟨u0,u1,u2,u3⟩,u4,u5,u6⟩:=UC.o;obtain⟨vp,vt⟩:=RR.o.1.lens vh.o;obtain⟨vq,vo⟩:=RR.o.2.lens vl.o;clear x0 x1 x2 k0 k1 k2 k3
   go_cut [9] (fun sl wx=>∃(gs:Nat) (ns:Bool) (A3:OA) (l3 c3:Nat) (qw:OA) (qt qx:Nat),sl=.pointer (sA gs)/\Hid (w4.heap.size<=gs/\ak wx gs 33 #[.bool ns,.s A3 l3 c3,.s qw qt qx]/\aC wx ns A3 l3 c3 qw qt qx (Sx.quo T j i)/\Ext w4 wx))
   case first=>
    go_region_held3 (fun wx=>(wx.C wr.heap.size 0 (.s (sA gv) K cv)/\wx.C wr.heap.size 1 (.bool nr)/\wx.C wr.heap.size 2 (.s R1 m1 d1)/\wx.C wr.heap.size 3 (.s qy qC qz))/\wx.C gv (j*3) (.bool nf)/\wx.C gv (j*3+1) (.s F1 f1 e1)/\wx.C gv (j*3+2) (.s qH qI qQ))
     (first|with_reducible exact IC.o|with_reducible exact UC.o|with_reducible exact I9.o|with_reducible exact S9.o|exact qf.o _ (E9.o.alloc _)|fail)
     (first
      |(go_at_call 150
        first
        |(with_reducible refine(pZ nr nf R1 m1 d1 qy qC qz F1 f1 e1 qH qI qQ (T.row i).re (Sx.at_ (T.row i).co j) w4.drew (RR.o.1.K (E4.o.tr XD.o)) (RR.o.2.K (E4.o.tr XD.o)) HP.o qO qO qO qO).mono ?_
          rintro e w9 ⟨n9,A9,l9,c9,qV,qW,qT,rfl,h9,x9⟩;have E9:=Hx (XD.o.tr x9))
        |(with_reducible refine(pZ nr nf R1 m1 d1 qy qC qz F1 f1 e1 qH qI qQ (T.row i).re (Sx.at_ (T.row i).co j) (w4.alloc (.cells rV 33)).drew (RR.o.1.K (E4.o.tr XA.o)) (RR.o.2.K (E4.o.tr XA.o)) HP.o qO qO qO qO).mono ?_
          rintro e w9 ⟨n9,A9,l9,c9,qV,qW,qT,rfl,h9,x9⟩;have E9:=Hx (XA.o.tr x9);have B9:=Hx (BN.o.K x9);obtain⟨⟨v0,v1,v2⟩,z0,z1,z2⟩:=B9.o.t3;have gg:w4.heap.size<=w4.heap.size:=yX _;have S9:=Hx (qf.o _ (eY (w:=w4) h9 B9.o gg E9.o).2))
        have R9:=Hx h9;have I9:=Hx (qf.o _ E9.o);obtain⟨⟨a0,a1,a2,a3⟩,a4,a5,a6⟩:=I9.o;clear x9 h9)
      |fail)
    all_goals
     go_wp2;go_meet
     first
     |(obtain⟨k1,k2⟩:=eY (w:=w4) R9.o B9.o gg E9.o
       exact⟨_,n9,A9,l9,c9,qV,qW,qT,rfl,Hx ⟨gg,((B9.o.sT 0 _).sT 1 _).sT 2 _,k1,k2⟩⟩)
     |(have xb:=(eR w9).alloc (.cells #[.bool n9,.s A9 l9 c9,.s qV qW qT] 33)
       exact⟨w9.heap.size,n9,A9,l9,c9,qV,qW,qT,rfl,Hx ⟨E9.o.size,eN w9 _ _,R9.o.K xb,E9.o.tr xb⟩⟩)
   obtain⟨gs,ns,A3,l3,c3,qw,qt,qx,rfl,G⟩:=hcut;obtain⟨EI,nl,Al,ll,cl,qi,qj,qm,qn,qk⟩:=I.o;have EC:=Hx (EX.o.tr (E4.o.tr G.o.2.2.2));have LC:=Hx (ah (qn.K (E4.o.tr G.o.2.2.2)) (qk.K (E4.o.tr G.o.2.2.2)));clear EI qn qk qf I a0 a1 a2 a3 a4 a5 a6 u0 u1 u2 u3 u4 u5 u6;cases hlv:Sx.um T j i with
   |none=>
    have qo:=Hx hlv;have E5:=EC;have G5:=Hx (ah G.o.2.1 G.o.2.2.1);have L5:=LC;clear hlv G;have ve:iE none= -1:=rfl;rw[ve];have vk:decide ((0:Int)<= -1)=false:=rfl
    go_upto_region 11 with fail
    go_cut [67] (fun s wx=>s=.bool (eT T j i)/\Ext wc wx)
    case first=>
     have HB:=Hx (show eT T j i=true by unfold eT;rw[qo.o,yO HX.o];rfl);have q1:decide ((-1:Int)<0)=true:=rfl;refine cA qK qK ?_
     repeat (go_big_quiet_step (fail))
     refine wpQuiet_nil ?_;rintro _ ⟨x,rfl⟩;go_wp2;go_meet;exact⟨by rw[HB.o],x.ext⟩
    obtain⟨rfl,qe⟩:=hcut;have E2:=Hx (E5.o.tr qe);have G2:=Hx (ah (G5.o.1.K qe) (G5.o.2.K qe));have L2:=Hx (ah (L5.o.1.K qe) (L5.o.2.K qe));clear qe;cases hc:eT T j i with
    |false=>
     have qa:=Hx (show Sx.um T j (i+1)=Sx.um T j i by rw[HS.o,hc];rfl);have qg:=Hx (show lq T j (i+1)=lq T j i by unfold lq;rw[qa.o]);go_wp2
     go_roundg (L.m-(i+1))
     case measure=>omega
     exact⟨i+1,rfl,qO,by go_num,by rw[qa.o,qo.o];rfl,Hx ⟨E2.o,_,_,_,_,_,_,_,L2.o.1,by rw[qg.o];exact L2.o.2⟩⟩
    |true=>
     have qa:=Hx (show Sx.um T j (i+1)=some i by rw[HS.o,hc];rfl);have qg:=Hx (show lq T j (i+1)=Sx.quo T j i by unfold lq;rw[qa.o]);obtain⟨⟨s0,s1,s2⟩,_⟩:=G2.o.1.t3;obtain⟨⟨p0,p1,p2⟩,f0,f1,f2⟩:=L2.o.1.t3;obtain⟨r1,r2⟩:=eY (w:=w) G2.o.2 L2.o.1 (yX _) E2.o;have b3:=((L2.o.1.sT 0 (.bool ns)).sT 1 (.s A3 l3 c3)).sT 2 (.s qw qt qx);have RF:=Hx (fun wx (hx:Ext _ wx)=>ah (b3.K hx) (ah (r1.K hx) (r2.tr hx)));clear r1 r2 hc b3;go_wp2
     go_region
     all_goals
      go_wp2
      go_roundg (L.m-(i+1))
      case measure=>omega
      case rel=>exact⟨i+1,rfl,qO,by go_num,by rw[qa.o];rfl,Hx (by
       first
       |(obtain⟨u1,u2,u3⟩:=RF.o _ ((eR _).drewN 1)
         exact⟨u3,_,_,_,_,_,_,_,u1,by rw[qg.o];exact u2⟩)
       |(obtain⟨u1,u2,u3⟩:=RF.o _ (eR _)
         exact⟨u3,_,_,_,_,_,_,_,u1,by rw[qg.o];exact u2⟩))⟩
   |some b=>
    have qo:=Hx hlv;have vn:b<i:=(Sx.wh T j i hlv).1;have vg:=Hx (show lq T j i=Sx.quo T j b by unfold lq;rw[hlv]);have SQ:=Hx (show dx (Sx.quo T j i) (2*P)/\dx (Sx.quo T j b) (2*P)from by
     have q3:b<T.rows.length:=qO;have h1:∀k,k<T.rows.length->0<Sx.at_ (T.row k).co j->dx (Sx.quo T j k) (2*P):=fun k hk hp=>by
      have:=(H.o.2.2.re k hk).div (H.o.2.2.co k hk _ (yJ (aZ (show j<(T.row k).co.length by rw[H.o.2.1.cl k hk,q5.o];exact hj)))) (fun e=>by rw[e]at hp;exact absurd hp Gt);exact this.mono qO
     exact⟨h1 i qY HX.o,h1 b q3 (Sx.wh T j i hlv).2.1⟩)
    have vj:iE (some b)=(b:Int):=rfl;rw[vj];have vk:decide ((0:Int)<=(b:Int))=true:=yO qO;obtain⟨⟨s0,s1,s2⟩,_⟩:=G.o.2.1.t3;obtain⟨⟨p0,p1,p2⟩,_⟩:=LC.o.1.t3;obtain⟨g1,g2⟩:=G.o.2.2.1.lens SQ.o.1;have qU:=LC.o.2;rw[vg.o]at qU;obtain⟨g3,g4⟩:=qU.lens SQ.o.2;have va:=Hx qU;clear hlv qU
    go_wp2_with fail
    refine(gT ns nl A3 l3 c3 qw qt qx Al ll cl qi qj qm (Sx.quo T j i) (Sx.quo T j b) wc G.o.2.2.1 va.o qO qO qO qO).r fun w5 x5=>?_;generalize hord:aW (Sx.quo T j i) (Sx.quo T j b)=ord;have qp:=Hx hord;clear hord;have E5:=Hx (EC.o.tr x5);have G5:=Hx (ah (G.o.2.1.K x5) (G.o.2.2.1.K x5));have L5:=Hx (ah (LC.o.1.K x5) (LC.o.2.K x5));clear x5 G va s0 s1 s2 p0 p1 p2
    go_upto_region 11 with fail
    go_cut [67] (fun s wx=>s=.bool (eT T j i)/\Ext w5 wx)
    case first=>
     rcases cmp3 (Sx.quo T j i) (Sx.quo T j b)with⟨e,hlt⟩|⟨e,heq⟩|⟨e,hgt⟩
     ·obtain rfl:=qp.o.symm.trans e
      have HB:=Hx (show eT T j i=true by
       unfold eT;rw[qo.o,yO HX.o,IX];exact yO (.inl hlt))
      have q1:decide ((-1:Int)<0)=true:=rfl;refine cA qK qK ?_
      repeat (go_big_quiet_step (fail))
      refine wpQuiet_nil ?_;rintro _ ⟨x,rfl⟩;go_wp2;go_meet;exact⟨by rw[HB.o],x.ext⟩
     ·obtain rfl:=qp.o.symm.trans e
      have HB:=Hx (show decide (((Sx.cu T.bn i:Nat):Int)<((Sx.cu T.bn b:Nat):Int))=eT T j i by
       unfold eT;rw[qo.o,yO HX.o,IX,heq];simp[Gt])
      have q1:decide ((0:Int)<0)=false:=rfl;have vm:decide ((0:Int)=0)=true:=rfl;have z1:=XW.cell _ _ _ (yL q3 E5.o.size) (aA E5.o Q1.o);have zi:=XW.cell _ _ _ (yL qM E5.o.size) (aA E5.o (gJ vc.o qA));have zb:=XW.cell _ _ _ (yL qM E5.o.size) (aA E5.o (gJ vc.o (show b<L.m by omega)));refine cA qK qK ?_
      repeat (go_big_quiet_step (fail))
      refine wpQuiet_nil ?_;rintro _ ⟨x,rfl⟩;go_wp2;go_meet;refine⟨?_,x.ext⟩;rw[<-HB.o]
      first|rfl|simp
     obtain rfl:=qp.o.symm.trans e;have HB:=Hx (show eT T j i=false by
      unfold eT;rw[qo.o,yO HX.o,IX];refine yP fun h=>?_;rcases h with h|⟨h,_⟩
      ·grind
      grind)
     have q1:decide ((1:Int)<0)=false:=rfl;have vm:decide ((1:Int)=0)=false:=rfl;refine cA qK qK ?_
     repeat (go_big_quiet_step (fail))
     refine wpQuiet_nil ?_;rintro _ ⟨x,rfl⟩;go_wp2;go_meet;exact⟨by rw[HB.o],x.ext⟩
    obtain⟨rfl,qe⟩:=hcut;have E2:=Hx (E5.o.tr qe);have G2:=Hx (ah (G5.o.1.K qe) (G5.o.2.K qe));have L2:=Hx (ah (L5.o.1.K qe) (L5.o.2.K qe));clear qe;cases hc:eT T j i with
    |false=>
     have qa:=Hx (show Sx.um T j (i+1)=Sx.um T j i by rw[HS.o,hc];rfl);have qg:=Hx (show lq T j (i+1)=lq T j i by unfold lq;rw[qa.o]);go_wp2
     go_roundg (L.m-(i+1))
     case measure=>omega
     exact⟨i+1,rfl,qO,by go_num,by rw[qa.o,qo.o];rfl,Hx ⟨E2.o,_,_,_,_,_,_,_,L2.o.1,by rw[qg.o];exact L2.o.2⟩⟩
    |true=>
     have qa:=Hx (show Sx.um T j (i+1)=some i by rw[HS.o,hc];rfl);have qg:=Hx (show lq T j (i+1)=Sx.quo T j i by unfold lq;rw[qa.o]);obtain⟨⟨s0,s1,s2⟩,_⟩:=G2.o.1.t3;obtain⟨⟨p0,p1,p2⟩,f0,f1,f2⟩:=L2.o.1.t3;obtain⟨r1,r2⟩:=eY (w:=w) G2.o.2 L2.o.1 (yX _) E2.o;have b3:=((L2.o.1.sT 0 (.bool ns)).sT 1 (.s A3 l3 c3)).sT 2 (.s qw qt qx);have RF:=Hx (fun wx (hx:Ext _ wx)=>ah (b3.K hx) (ah (r1.K hx) (r2.tr hx)));clear r1 r2 hc b3;go_wp2
     go_region
     all_goals
      go_wp2
      go_roundg (L.m-(i+1))
      case measure=>omega
      case rel=>exact⟨i+1,rfl,qO,by go_num,by rw[qa.o];rfl,Hx (by
       first
       |(obtain⟨u1,u2,u3⟩:=RF.o _ ((eR _).drewN 1)
         exact⟨u3,_,_,_,_,_,_,_,u1,by rw[qg.o];exact u2⟩)
       |(obtain⟨u1,u2,u3⟩:=RF.o _ (eR _)
         exact⟨u3,_,_,_,_,_,_,_,u1,by rw[qg.o];exact u2⟩))⟩
  have hs:decide (aB (Sx.at_ (T.row i).co j)<=0)=true:=yO ((jzge _).2 hx);have q8:eT T j i=false:=(by unfold eT;rw[yP hx];rfl);have qa:=Hx (show Sx.um T j (i+1)=Sx.um T j i by rw[HS.o,q8];rfl);have qg:=Hx (show lq T j (i+1)=lq T j i by unfold lq;rw[qa.o]);have I2:=Hx (show Ext w w4/\∃nl Al ll cl qi qj qm,ak w4 w.heap.size 33 #[.bool nl,.s Al ll cl,.s qi qj qm]/\aC w4 nl Al ll cl qi qj qm (lq T j (i+1))from by
   obtain⟨EI,nl,Al,ll,cl,qi,qj,qm,qn,qk⟩:=I.o;exact⟨EX.o.tr E4.o,nl,Al,ll,cl,qi,qj,qm,qn.K E4.o,by rw[qg.o];exact qk.K E4.o⟩)
  clear hx q8 I;generalize aB (Sx.at_ (T.row i).co j)=sg at*;go_wp2
  go_roundg (L.m-(i+1))
  case measure=>omega
  exact⟨i+1,rfl,qO,by go_num,by rw[qa.o],I2⟩
 obtain rfl:i=L.m:=qO;go_wp2;go_ret;exact⟨by rw[HE.o];rfl,I.o.1⟩
def jzpc(T:Sx.Tb)(i j:Nat):(Sx.Ai T i j).ay.length=T.ay.length:=by
 show(T.ay.set j _).length=_;rw[yV]
def kX(T:Sx.Tb):∀n,(Sx.ig n T).ay.length=T.ay.length
 |0=>rfl
 |n+1=>by
  have ih:=kX T n;show((Sx.stepT (Sx.ig n T)).getD (Sx.ig n T)).ay.length=_;cases h:Sx.stepT (Sx.ig n T)with
  |none=>exact ih
  |some T'=>
   obtain⟨i,j,_,_,e⟩:=Sx.Bj h;show T'.ay.length=_;rw[e,jzpc,ih]
def jzpd(T:Sx.Tb){n i j:Nat}(h1:Sx.Bw (Sx.ig n T)=some j)(h2:Sx.Ck (Sx.ig n T) j=some i):Sx.ig (n+1) T=Sx.Ai (Sx.ig n T) i j:=by
 show(Sx.stepT (Sx.ig n T)).getD (Sx.ig n T)=_;unfold Sx.stepT;rw[h1];simp only[];rw[h2];rfl
def jzpe(B P N:Nat)(L:aQ)(T:Sx.Tb)w(h:aH w B L T)(he:Sx.Bw (Sx.ig N T)=none)(hs:∀n,n<N->∃j i,Sx.Bw (Sx.ig n T)=some j/\Sx.Ck (Sx.ig n T) j=some i)
  (qi:∀n,n<=N->Km (Sx.ig n T)/\Kl (Sx.ig n T) P) (hP:P<=100000) (hm0:0<L.m) (hm:L.m<=1000000) (Kh:0<T.ay.length) (hK:T.ay.length<=1000000000000):
  Calls prog 30 #[.pointer (sA L.p)] w fun e w'=>e=.returned (.bool true)/\aH w' B L (Sx.ig N T)/\fu L.S w w':=by
 have H0:Hid (aH w B L (Sx.ig 0 T)/\fu L.S w w):=Hx (⟨h,fu.refl _ _⟩);have HH:=Hx (ah he (ah hs qi));clear h he hs qi;go_enter func30,ntmps30;go_wp2;go_loopg [3,4] N (fun q _ _ wr=>∃n:Nat,N-n=q/\n<=N/\Hid (aH wr B L (Sx.ig n T)/\fu L.S w wr));exact⟨0,rfl,yZ _,H0⟩;obtain⟨n,rfl,hn,I⟩:=hrel;have qe:=Hx (jzl2 B L (Sx.ig n T) wr I.o.1 (HH.o.2.2 n hn).1.gl (by rw[kX];exact Kh) (by rw[kX];exact hK));go_wp2_with fail;refine qe.o.mono ?_;rintro e w2 ⟨rfl,x2⟩;have I2:Hid (aH w2 B L (Sx.ig n T)/\fu L.S w w2):=Hx (⟨I.o.1.K x2,I.o.2.tr (eE (S:=L.S) x2) fun b hb=>.inl hb⟩);clear qe I x2;by_cases qt:n<N;{obtain⟨j,i,hj,hi⟩:=HH.o.2.1 n qt;rw[hj];have qf:j<T.ay.length:=(by have:=(Sx.Aq _ _ hj).1;rw[(HH.o.2.2 n hn).1.gl,kX]at this;exact this);have qn:i<L.m:=(by have:=(Sx.wh _ _ _ hi).1;rw[I2.o.1.rl]at this;exact this);have qj:Sx.at_ ((Sx.ig n T).row i).co j≠0:=fun e=>(by have:=(Sx.wh _ _ _ hi).2.1;rw[e]at this;exact absurd this Gt);have qh:=Hx (jzpb B j P L (Sx.ig n T) w2 I2.o.1 (HH.o.2.2 n hn).1 (HH.o.2.2 n hn).2 hP (by rw[kX];exact qf) hm0 hm (by rw[kX];exact hK));have qp:iE (some j)=(j:Int):=rfl;rw[qp];have qk:decide ((j:Int)<0)=false:=yP qO;go_wp2_with fail;refine qh.o.mono ?_;rintro e w3 ⟨rfl,x3⟩;rw[hi];have qa:iE (some i)=(i:Int):=rfl;rw[qa];have qo:decide ((i:Int)<0)=false:=yP qO;have I3:Hid (aH w3 B L (Sx.ig n T)/\fu L.S w w3):=Hx (⟨I2.o.1.K x3,I2.o.2.tr (eE (S:=L.S) x3) fun b hb=>.inl hb⟩);have BG:=Hx (eN w3 142 #[.pointer (some (aD L.p 3))]);have XB:=Hx ((eR w3).alloc (.cells #[.pointer (some (aD L.p 3))] 142));have qg:=Hx (jzmn B i j w3.heap.size P L (Sx.ig n T) _ (I3.o.1.K XB.o) (HH.o.2.2 n hn).1 (HH.o.2.2 n hn).2 hP qn (by rw[kX];exact qf) qj hm (by rw[kX];exact hK) BG.o);have ST:=Hx (jzpd T hj hi);clear qh x3 hj hi qj;go_wp2_with fail;refine qg.o.mono ?_;rintro e w4 ⟨rfl,h4,k4⟩;have I4:Hid (aH w4 B L (Sx.ig (n+1) T)/\fu L.S w w4):=Hx (⟨by rw[ST.o];exact h4,(I3.o.2.tr (eE (S:=L.S) XB.o) fun b hb=>.inl hb).tr k4 fun b hb=>.inl hb⟩);clear h4 k4 qg;go_wp2;go_roundg (N-(n+1));exact⟨n+1,rfl,qO,I4⟩;omega};obtain rfl:n=N:=qO;rw[HH.o.1];have qm:iE none= -1:=rfl;rw[qm];have qk:decide ((-1:Int)<0)=true:=rfl;go_wp2;go_ret;exact⟨rfl,I2.o⟩
def CJ.base{w0 w1 w}{x mb:Nat}{t}{AO}{co:Nat}{AL}{cl:Nat}{l:List Dm}{AD}{cd:Nat}{L:aQ}{T:Sx.Tb}{vP:Value}{P Q:List (Nat×LN)}(h:CJ w1 w x mb t AO co AL cl l AD cd L T vP P Q)(hx:Ext w0 w1)(ht:aR w0 t AO co AL cl)(hd:CK w0 l AD cd):CJ w0 w x mb t AO co AL cl l AD cd L T vP P Q:=by
 obtain⟨css,h1,h2,h3,h4⟩:=h.pat;exact⟨hx.tr h.ext,ht,hd,h.box,yY hx.size h.xlo,h.tab.mono hx.size,h.m,⟨css,h1,h2,h3.mono hx.size,h4⟩,h.map,yY hx.size h.KD⟩
structure fM(w wx:World)(x mb:Nat)(t:Tp)(AO:OA)(co:Nat)(AL:OA)(cl:Nat)(l:List Dm)(AD:OA)(cd:Nat)(L:aQ)(T:Sx.Tb)(vP:Value)(P:List (Nat×LN)):Prop where
 fl:CJ w wx x mb t AO co AL cl l AD cd L T vP P P
 lp:Sx.BH (2*t.links.length) l.length (nk l) (aV t) T P
 dif:P.Nodup
 loop:∀p∈P,p.1<l.length/\Az t (aY l p.1) (aX l p.1) p.2
section
variable {w wx wy:World} {x mb:Nat} {t:Tp} {AO:Option Addr} {co:Nat} {AL:Option Addr} {cl:Nat} {l:List Dm} {AD:Option Addr} {cd:Nat} {L:aQ} {T:Sx.Tb} {vP:Value} {P:List (Nat×List Nat)}
def fM.K(h:fM w wx x mb t AO co AL cl l AD cd L T vP P)(hx:Ext wx wy):fM w wy x mb t AO co AL cl l AD cd L T vP P:=⟨h.fl.K hx,h.lp,h.dif,h.loop⟩
def fM.few(h:fM w wx x mb t AO co AL cl l AD cd L T vP P)(hf:Fit t l)(hl:t.links.length<=10)(hN:t.nodes<=7):P.length<=(Sx.Df l.length 21 6).length:=
 Sx.He h.dif fun p hp=>by
  obtain⟨h1,h2⟩:=h.loop p hp;obtain⟨h3,_⟩:=hf.nodes h1;have h4:=h2.len hf.v h3;refine⟨h1,fun a ha=>?_,qO⟩;have:=iH _ h2.1 a ha;omega
def jzpf(D:Nat)(hD:D<=4):(Sx.Df D 21 6).length<=3000000000:=by
 have h1:=Sx.Hy D 21 6 qD;have h2:D*((6+1)*21^6)<=4*((6+1)*21^6):=xS _ hD;have h3:4*((6+1)*21^6)<=3000000000:=qD;omega
end
def jz1(d:Nat)(Dn:Int):∀(Zs:List ((Nat×LN)×Rat)) (r:Rat),(∀z∈Zs,Sx.sj (z.2*(Dn:Rat)))->Sx.sj (r*(Dn:Rat))->∀z∈Sx.cut d r Zs,Sx.sj (z.2*(Dn:Rat))
 | [],r,_,_,z,hz=>by cases hz
 |y::Zs,r,h,hr,z,hz=>by
  have h1:=h y qS;have h2:∀z∈Zs,Sx.sj (z.2*(Dn:Rat)):=fun z hz=>h z (xO _ hz);have hm:Sx.sj ((if r<y.2 then r else y.2)*(Dn:Rat)):=(by split <;> assumption);unfold Sx.cut at hz;by_cases hd:y.1.1=d
  ·rw[qE hd]at hz
   generalize (if r<y.2 then r else y.2)=m at hz hm;rcases xY.1 hz with hz|hz
   ·split at hz
    ·rw[xD.1 hz];exact hm
    ·cases hz
   ·refine jz1 d Dn Zs _ h2 ?_ z hz
    obtain⟨a,ha⟩:=hr;obtain⟨b,hb⟩:=hm;exact⟨a-b,by rw[Rat.intCast_sub, <-ha, <-hb];grind⟩
  ·rw[qF hd]at hz
   exact jz1 d Dn Zs r h2 hr z hz
def jzpg{t}{l:List Dm}{T:Sx.Tb}{P:List (Nat×LN)}(hf:Fit t l)(hl:t.links.length<=10)(hD:l.length<=4)(h:Sx.BH (2*t.links.length) l.length (nk l) (aV t) T P)(hz:∀z∈Sx.tq T P,0<=z.2):∀z∈Sx.uj l.length (nk l) T.goal.re (Sx.tq T P),dx z.2 41:=fun z hzm=>by
 obtain⟨_,_,_,_,Dn,d1,d2,d3,d4⟩:=oJ hf hl hD h;have hm:∀z∈Sx.tq T P,Sx.Qn Dn ZB z.2:=fun z hz=>d4 z.2 (List.mem_of_mem_drop (Sx.BI P ((Sx.Cq T).drop 1) hz).2);unfold Sx.uj at hzm;obtain⟨d,hd,qa⟩:=Hl.1 hzm;have hd:=vX.1 hd;obtain⟨e1,e2,f,e3,e4⟩:=Sx.uw qa;have hI:=jz1 d Dn (Sx.tq T P) (T.goal.re*nk l d) (fun z hz=>(hm z hz).1) (by obtain⟨a,ha⟩:=d3.1;obtain⟨b,hb⟩:=(hf.am hd).2.1;exact⟨a*b,by rw[Jp, <-ha, <-hb];grind⟩) z qa;have hq:=hm _ e3;have h0:=hz _ e3;exact jzfw (v:=f) (am:=1) d1 d2 hq.2 h0 (show((1:Int):Rat)<=((1048576:Int):Rat)from Hr.2 qD) qG qG (by rw[Rat.mul_one];exact e4) hI
def mW(w:World)(t:Tp)(l:List Dm)(e:Ending)(w':World):Prop:=
 (dQ t l=false/\e=.returned (.tuple #[.agg #[bF,zN,zN,zN,zN],vI 1])/\Ext w w')\/
 (Fit t l/\(∃d,d<l.length/\∀y,¬Az t (aY l d) (aX l d) y)/\e=.returned (.tuple #[.agg #[bF,zN,zN,zN,zN],vI 11])/\Ext w w')\/
 (Fit t l/\∃(v:Rat) (Z:List ((Nat×LN)×Rat)) (pr:LQ) (neg:Bool) (A1:OA) (n1 c1:Nat) (A2:OA) (n2 c2:Nat) (AP:OA) (cp gp:Nat),
  cL t l v Z pr/\dx v 20/\(∀z∈Z,dx z.2 41)/\(∀q∈pr,dx q 20)/\Z.length<=24/\
  e=.returned (.tuple #[.agg #[.bool neg,.s A1 n1 c1,.s A2 n2 c2,.s AP Z.length cp,.s (sA gp) (2*t.links.length) (2*t.links.length)],vI 0])/\
  aC w' neg A1 n1 c1 A2 n2 c2 v/\Z.length<=cp/\Jm w' AP (Z.map Ah)/\QL w' (sA gp) pr/\Ext w w')
def jzgf t AO(co:Nat)AL(cl:Nat)(l:List Dm)AD(cd:Nat)w(ht:aR w t AO co AL cl)(hd:CK w l AD cd)(hl:t.links.length<=10)(hD:l.length<=4)(hN:aG t=true->t.nodes<=7)(q5:Tab w):
  Calls prog 7 #[.agg #[vI t.nodes,.s AO t.over.length co,.s AL t.links.length cl],.s AD l.length cd] w (mW w t l):=by
 have HT:=Hx (ah ht (ah hd (ah hN q5)));have vp:=hd.len;have vu:=ht.ll;obtain⟨qQ,q2,e0⟩:=cN w #[vI t.nodes,.s AO t.over.length co,.s AL t.links.length cl] 25 #[bF,zN,zN,zN,zN] 37;obtain⟨⟨i0,i1,i2⟩,_⟩:=qQ.t3;have E0:=Hx (ah qQ (ah q2 e0));clear ht hd hN q5 qQ q2 e0;go_enter func7,ntmps7;(go_upto_region 1 with fail);go_step3
 have vo:((w.alloc (.cells #[vI t.nodes,.s AO t.over.length co,.s AL t.links.length cl] 25)).alloc (.cells #[bF,zN,zN,zN,zN] 37)).heap.size=w.heap.size+2:=qS;generalize (w.alloc (.cells #[vI t.nodes,.s AO t.over.length co,.s AL t.links.length cl] 25)).alloc (.cells #[bF,zN,zN,zN,zN] 37)=W0 at*;have H0:Hid (aR W0 t AO co AL cl/\CK W0 l AD cd/\Tab W0):=Hx (⟨HT.o.1.K E0.o.2.2,HT.o.2.1.K E0.o.2.2,HT.o.2.2.2.K E0.o.2.2⟩);have qk:=Hx (show∀wx,Ext W0 wx->((wx.C (w.heap.size+1) 0 bF/\wx.C (w.heap.size+1) 1 zN/\wx.C (w.heap.size+1) 2 zN/\wx.C (w.heap.size+1) 3 zN/\wx.C (w.heap.size+1) 4 zN)/\
   (wx.frozen? (aD (w.heap.size+1) 0)=false/\wx.frozen? (aD (w.heap.size+1) 1)=false/\wx.frozen? (aD (w.heap.size+1) 2)=false/\wx.frozen? (aD (w.heap.size+1) 3)=false/\wx.frozen? (aD (w.heap.size+1) 4)=false))from fun wx hx=>
  ⟨⟨(E0.o.2.1.K hx).cell 0,(E0.o.2.1.K hx).cell 1,(E0.o.2.1.K hx).cell 2,(E0.o.2.1.K hx).cell 3,(E0.o.2.1.K hx).cell 4⟩,(E0.o.2.1.K hx).frozen 0,(E0.o.2.1.K hx).frozen 1,(E0.o.2.1.K hx).frozen 2,(E0.o.2.1.K hx).frozen 3,(E0.o.2.1.K hx).frozen 4⟩)
 have qp:=Hx (show∀wx,Ext W0 wx->(ak (((((wx.setCell (aD (w.heap.size+1) 0) bF).setCell (aD (w.heap.size+1) 1) zN).setCell (aD (w.heap.size+1) 2) zN).setCell (aD (w.heap.size+1) 3) zN).setCell (aD (w.heap.size+1) 4) zN) (w.heap.size+1) 37 #[bF,zN,zN,zN,zN]/\
   Ext w (((((wx.setCell (aD (w.heap.size+1) 0) bF).setCell (aD (w.heap.size+1) 1) zN).setCell (aD (w.heap.size+1) 2) zN).setCell (aD (w.heap.size+1) 3) zN).setCell (aD (w.heap.size+1) 4) zN))from fun wx hx=>by
  have hB:=E0.o.2.1.K hx;have s0:=hB.sT 0 bF;have s1:=s0.sT 1 zN;have s2:=s1.sT 2 zN;have s3:=s2.sT 3 zN;have s4:=s3.sT 4 zN;refine⟨s4,(eG (S:=fun b=>b=w.heap.size+1) (gS wx (w.heap.size+1) _ _ _ _ _) fun g e=>by injection e with e;exact e.symm).ext (E0.o.2.2.tr hx) fun b hb=>by rw[hb];omega⟩)
 (go_wp2_with fail);refine(jze9 t AO co AL cl l AD cd _ H0.o.1 H0.o.2.1).r fun w1 vd=>?_;have X1:=Hx vd;clear vd;cases hv:dQ t l;{have qw:=Hx (qp.o _ X1.o);have HV:=Hx hv;obtain⟨⟨v0,v1,v2,v3,v4⟩,r0,r1,r2,r3,r4⟩:=qk.o _ X1.o;clear qp qk hv i0 i1 i2;go_wp2;have qe:=qw.o.1;exact bodyPost_ret (v:=.tuple #[.agg #[bF,zN,zN,zN,zN],vI 1]) (by simp[results,results7,go_sem,qe.cell]) rfl (.inl ⟨HV.o,rfl,qw.o.2⟩)};have qa:=Hx ((mT qO).1 hv);have q8:t.nodes<=7:=HT.o.2.2.1 qa.o.v;clear hv i0 i1 i2;obtain⟨⟨i0,i1,i2⟩,_⟩:=(E0.o.1.K X1.o).t3;go_wp2_with fail;refine(jzn0 t AO co AL cl l AD cd _ (H0.o.1.K X1.o) (H0.o.2.1.K X1.o) qa.o hl hD).mono ?_;rintro e w2 ⟨x,mb,L0,T0,rfl,F0,P0⟩;have S0:Hid (fM W0 w2 x mb t AO co AL cl l AD cd L0 T0 zN []):=Hx (⟨F0.base X1.o H0.o.1 H0.o.2.1,P0,List.nodup_nil,fun p hp=>by cases hp⟩);clear F0 P0 i0 i1 i2;go_wp2
 go_loopg [7,8,9,10,21] l.length (fun q _ _ _ _ it wx=>∃(n:Nat) (L:aQ) (T:Sx.Tb) (vP:Value) (P:List (Nat×LN)),l.length-n=q/\n<=l.length/\it=vI (n:Int)/\
  Hid (fM W0 wx x mb t AO co AL cl l AD cd L T vP P/\P.length<=n/\(∀p∈P,p.1<n)/\(∀d,d<n->∃y,Az t (aY l d) (aX l d) y)/\(0<n->P≠ [])))
 (case atStart=>exact⟨0,L0,T0,_,[],rfl,yZ _,rfl,Hx ⟨S0.o,yX _,(fun p hp=>by cases hp),(fun d hd=>qO),fun h=>qO⟩⟩);obtain⟨n,L,T,vP,P,rfl,hn,rfl,I⟩:=hrel;by_cases qy:n<l.length
 ·obtain⟨d,hd⟩:∃d,l[n]?=some d:=⟨_,yG qy⟩;obtain⟨b,o,rfl,hb,a0,a1,a2,a3⟩:=H0.o.2.1.at_ hd;have a0:=aA I.o.1.fl.ext a0;have a1:=aA I.o.1.fl.ext a1;have a2:=aA I.o.1.fl.ext a2;have a3:=aA I.o.1.fl.ext a3;have hb:b<wr.heap.size:=yL hb I.o.1.fl.ext.size;have HN:Hid (aY l n<t.nodes.toNat/\aX l n<t.nodes.toNat/\d.src=(aY l n:Int)/\d.dst=(aX l n:Int)):=Hx (by obtain⟨h1,h2,h3,h4,h5⟩:=qa.o.nodes qy;have e:l[n]=d:=(yH.1 hd).2;rw[e]at h4 h5;exact⟨h1,h2,h4,h5⟩);have nN:(n:Int)<(l.length:Int):=qO;have n0:(0:Int)<=(n:Int):=qO;have X8:Hid (Ext wr (wr.alloc (.cells #[vI d.src,vI d.dst,vI d.amount,vI d.prio] 60))):=Hx ((eR wr).alloc _);have B8:=Hx (eN wr 60 #[vI d.src,vI d.dst,vI d.amount,vI d.prio]);clear hd;(go_upto_region 7 with fail);clear a0 a1 a2 a3;generalize wr.alloc (.cells #[vI d.src,vI d.dst,vI d.amount,vI d.prio] 60)=W8 at*;have X0:Hid (Ext W0 W8):=Hx (I.o.1.fl.ext.tr X8.o);generalize hbd:wr.heap.size=bd at*;generalize hR:Co t [] (bO t) d.src d.dst=R;have HR:=Hx hR;clear hR;have y0:=B8.o.cell 0;have y1:=B8.o.cell 1;obtain⟨⟨z0,z1,z2⟩,_⟩:=(E0.o.1.K X0.o).t3;have SH:=Hx (jzo9 t AO co AL cl none 0 [] d.src d.dst _ (H0.o.1.K X0.o) qO (Rd.nil _ _) qD qD);rw[HR.o]at SH;go_wp2_with fail;refine SH.o.mono ?_;rintro e w5 qf;have qC:=Hx (iI (d:=aX l n) qa.o.v (jzei t) HN.o.1 HN.o.2.1);rw[<-HN.o.2.2.1, <-HN.o.2.2.2,HR.o]at qC;rcases qf with⟨hr2,g,A,k,rfl,hg,hk,hrd,hx5⟩|⟨hr2,rfl,hx5⟩
  ·obtain⟨qz,vj⟩:Az t (aY l n) (aX l n) R.1/\R.1.length<=64:=(by (rcases qC.o with⟨y,h1,h2,_⟩|⟨h1,_⟩);{rw[h1];have:=h2.len qa.o.v HN.o.1;refine⟨h2,?_⟩;simp only;omega};rw[h1]at hr2;exact absurd hr2 qD);have qh:=Hx qz;have E5:Hid (Ext W0 w5):=Hx (X0.o.tr hx5);have I5:=Hx (I.o.1.K (X8.o.tr hx5));have q1:=Hx (jzfm I5.o.fl qa.o hl hD I5.o.lp (by have:=I.o.2.1;omega) n qy A R.1.length k R.1 rfl hrd.1 (fun hx ad had hs=>by have h1:=hrd.2 ad had;have h2:=(I.o.1.fl.tab.ty hs).2.1;have h3:=X8.o.size;omega) hk (fun a ha=>iH _ qh.o.1 a ha) vj (H0.o.2.2.K E5.o));clear y0 y1 z0 z1 z2 qz hrd hk hx5;go_wp2_with fail;(refine q1.o.mono ?_;rintro e wA qf;clear q1;rcases qf with⟨hin,_,_⟩|⟨Jd,rfl,L2,vP2,F2,k2,JU⟩);{exact absurd (I.o.2.2.1 _ hin) (Ho n)}
   have vi:L.m=2*t.links.length+l.length:=I.o.1.fl.m;have GG:=Hx (show fM W0 wA x mb t AO co AL cl l (some (aD b o)) cd L2 (Sx.Aa T 0 (aO L.m (Et (2*t.links.length) (n,R.1)))) vP2 (P++[(n,R.1)])/\(P++[(n,R.1)]).length<=n+1/\(∀p∈P++[(n,R.1)],p.1<n+1)/\(∀d,d<n+1->∃y,Az t (aY l d) (aX l d) y)/\(0<n+1->P++[(n,R.1)]≠ [])from
    ⟨⟨F2,by
      rw[vi];exact I5.o.lp.add (kB _ _) fun i hi=>jzex _ _ (n,R.1) (fun a ha=>iH _ qh.o.1 a ha) i hi,by
      rw[List.nodup_append];exact⟨I5.o.dif,qS,fun p hp q hq e=>Jd (by rw[xD.1 hq]at e;rw[<-e];exact hp)⟩,fun p hp=>by
      rcases xY.1 hp with hp|hp
      ·
       exact I5.o.loop p hp
      ·
       rw[xD.1 hp]
       exact⟨qy,qh.o⟩⟩,by
      rw[yQ,J5];have:=I.o.2.1;omega,fun p hp=>by
      rcases xY.1 hp with hp|hp
      ·
       have:=I.o.2.2.1 p hp
       omega
      ·
       rw[xD.1 hp]
       exact Nat.lt_succ_self n,fun d' hd'=>by
      by_cases e:d'=n
      ·
       subst e
       exact⟨_,qh.o⟩
      exact I.o.2.2.2.1 d' qO,fun _ e=>by simp at e⟩)
   clear F2 k2 JU Jd I I5 qC;go_wp2;go_roundg (l.length-(n+1));exact⟨n+1,L2,_,vP2,_,rfl,qO,by go_num,GG⟩;omega
  have vc:R.2=11/\∀y,¬Az t (aY l n) (aX l n) y:=(by (rcases qC.o with⟨y,h1,h2,_⟩|⟨h1,h2⟩);{rw[h1]at hr2;exact absurd rfl hr2};rw[h1];exact⟨rfl,h2⟩);have ve:=Hx vc.2;rw[vc.1];have E5:Hid (Ext W0 w5):=Hx (X0.o.tr hx5);have qw:=Hx (qp.o _ E5.o);obtain⟨⟨v0,v1,v2,v3,v4⟩,r0,r1,r2,r3,r4⟩:=qk.o _ E5.o;clear qp qk y0 y1 z0 z1 z2 hx5 I;go_wp2;have qe:=qw.o.1;exact bodyPost_ret (v:=.tuple #[.agg #[bF,zN,zN,zN,zN],vI 11]) (by simp[results,results7,go_sem,qe.cell]) rfl (.inr (.inl ⟨qa.o,⟨n,qy,ve.o⟩,rfl,qw.o.2⟩))
 obtain rfl:n=l.length:=qO;have qH:=Hx I.o.2.2.2.1;have S1:Hid (fM W0 wr x mb t AO co AL cl l AD cd L T vP P/\P≠ []):=Hx (⟨I.o.1,I.o.2.2.2.2 qa.o.n⟩);clear I;go_wp2;go_step3;go_wp2;go_loopg [] ((Sx.Df l.length 21 6).length-P.length) (fun q wx=>∃(L:aQ) (T:Sx.Tb) (vP:Value) (P:List (Nat×LN)),(Sx.Df l.length 21 6).length-P.length=q/\Hid (fM W0 wx x mb t AO co AL cl l AD cd L T vP P/\P≠ []));exact⟨L,T,vP,P,rfl,S1⟩;obtain⟨L,T,vP,P,rfl,I⟩:=hrel;have vn:=I.o.1.few qa.o hl q8;have vt:=jzpf l.length hD;have qm:=I.o.1.lp.shape;obtain⟨N,he,hs⟩:=I.o.1.lp.max qa.o.n (fun d hd=>(qa.o.am hd).1) fun p hp=>(by (obtain⟨h1,h2⟩:=I.o.1.loop p hp;have h3:=h2.ne (qa.o.nodes h1).2.2.1;cases hx:p.2 with|nil=>exact absurd hx h3|cons a rs=>exact⟨a,qS,iH _ h2.1 a (by rw[hx];simp)⟩));have vg:L.m=2*t.links.length+l.length:=I.o.1.fl.m;have vq:=qa.o.n;have MX:=Hx (jzpe W0.heap.size 20 N L T wr I.o.1.fl.tab he hs (fun n _=>by have h9:=oJ qa.o hl hD (I.o.1.lp.iter n);exact⟨h9.1,h9.2.1⟩) qD qO qO qO qO);have HE:=Hx he;have q4:wr.cell? (aD x 4)=some (.pointer (sA L.p)):=I.o.1.fl.box.cell 4;clear qm he hs;go_wp2_with fail;refine MX.o.mono ?_;rintro e w3 ⟨rfl,va,k3⟩;have S3:Hid (fM W0 w3 x mb t AO co AL cl l AD cd L (Sx.ig N T) vP P):=Hx (⟨I.o.1.fl.Ga va k3 rfl rfl fun b h=>.inl h,I.o.1.lp.iter N,I.o.1.dif,I.o.1.loop⟩);have vh:=Hx I.o.2;have qA:∃T3,T3=Sx.ig N T:=⟨_,rfl⟩;obtain⟨T3,qA⟩:=qA;rw[<-qA]at S3 HE;clear q4 I va k3 qA;have qm:=S3.o.lp.shape;have q4:w3.cell? (aD x 4)=some (.pointer (sA L.p)):=S3.o.fl.box.cell 4;have PR:=jzdx W0.heap.size L T3 w3 S3.o.fl.tab qm.2.1 qO qO qO qO qm.2.2.2.2.1 (fun j hj=>by have:=qm.2.2.2.2.2.1 j hj;omega);rw[vg]at PR;have qV:=Hx PR;clear PR qm;go_wp2_with fail
 refine qV.o.mono ?_;rintro e w4 ⟨gl,rfl,qY,vk,x4⟩;have S4:=Hx (S3.o.K x4);have qi:=Hx (S3.o.lp.best HE.o qa.o.n (fun d hd=>(qa.o.am hd).1) S3.o.dif fun p hp=>(S3.o.loop p hp).1);have q3:T3.rows.length=2*t.links.length+l.length:=S3.o.lp.iq.2;have qt:(Sx.Ba T3).length=2*t.links.length+l.length:=(by unfold Sx.Ba;rw[Sx.Af,q3]);have qB:=Hx (oJ qa.o hl hD S3.o.lp);have qW:=Hx (jzn4 S4.o.fl qa.o hl hD S4.o.lp S4.o.dif S4.o.loop qO gl (Sx.Ba T3) qY qt qB.o.2.2.1 (fun q hq=>by
  obtain⟨i,hi,e⟩:=List.mem_iff_getElem.1 hq;have h9:=qi.o.pos i qO;unfold Sx.at_ at h9;rw[yG hi]at h9;rw[<-e];exact h9) (fun hb=>by
  have:=(S3.o.fl.lo.1 gl hb).2;omega) H0.o.2.2)
 clear qV q4 qY x4;go_wp2_with fail;refine qW.o.mono ?_;rintro e w5 ⟨more,L5,T5,qJ,P5,rfl,G5⟩;clear qW;cases more
 ·obtain⟨rfl,rfl,qx⟩:=G5.non rfl;have qn:=Hx qx;have S5:Hid (fM W0 w5 x mb t AO co AL cl l AD cd L5 T5 qJ P5):=Hx (⟨G5.fl,G5.lp,G5.dif,G5.loop⟩);have q0:=Hx (jzob S5.o.fl qa.o hl hD S5.o.lp qi.o.vnn qi.o.fnn qO (fun p hp=>(S5.o.loop p hp).1) vh.o)
  have q6:=Hx (show cL t l T5.goal.re (Sx.uj l.length (nk l) T5.goal.re (Sx.tq T5 P5)) ((Sx.Ba T5).take (2*t.links.length))from
   jzne qa.o qi.o q3 (fun p hp=>(S5.o.loop p hp).2) (xW.2 fun p hp=>by
    obtain⟨z,hz,rfl⟩:=Bv.1 hp;exact yO (Sx.BI P5 _ hz).1) (fun d hd=>by
    have qI:((Sx.Ba T5).take (2*t.links.length)).length=2*t.links.length:=(by rw[xF,qt];omega);have qg:dL t ((Sx.Ba T5).take (2*t.links.length))=true:=fY qI fun q hq=>by
     obtain⟨i,hi,e⟩:=List.mem_iff_getElem.1 (xM hq);have h9:=qi.o.pos i qO;unfold Sx.at_ at h9;rw[yG hi]at h9;rw[<-e];exact h9
    obtain⟨n1,n2,_⟩:=qa.o.nodes hd;have hn:=qn.o d hd;unfold Ea;rcases iI qa.o.v qg n1 n2 with⟨y,h1,h2,_⟩|⟨_,h2⟩
    ·
     rw[h1]at hn⊢
     by_cases qZ:nu ((Sx.Ba T5).take (2*t.links.length)) y<Sx.at_ (Sx.Ba T5) (2*t.links.length+d)
     ·
      have h4:=qi.o.path _ (hn rfl qZ)
      have h5:=h2.Gd ((Sx.Ba T5).take (2*t.links.length));have h6:(Sx.sm (2*t.links.length) fun a=>if a∈y then Sx.at_ (Sx.Ba T5) a else 0)=Sx.sm (2*t.links.length) fun a=>if a∈y then Sx.at_ ((Sx.Ba T5).take (2*t.links.length)) a else 0:=Sx.au _ fun a ha=>by
       unfold Sx.at_;rw[xG,qE ha]
      show _<=nu _ y;rw[h5, <-h6];exact h4
     show _<=nu _ y;exact Dy.1 qZ
    obtain⟨y,hy⟩:=qH.o d hd;exact absurd hy (h2 y)) qH.o)
  clear qx G5;go_wp2_with fail
  refine q0.o.mono ?_;rintro e w6 ⟨neg,A1,n1,c1,A2,n2,c2,AP,cp,gp,rfl,qU,qT,⟨B9,qj⟩,⟨qs,qM,q9⟩,q7⟩;have E6:Hid (Ext W0 w6):=Hx (S5.o.fl.ext.tr q7);have k5:fu (fun b=>b=w.heap.size+1) w6 (((((w6.setCell (aD (w.heap.size+1) 0) (.bool neg)).setCell (aD (w.heap.size+1) 1) (.s A1 n1 c1)).setCell (aD (w.heap.size+1) 2) (.s A2 n2 c2)).setCell (aD (w.heap.size+1) 3) (.s AP (Sx.uj l.length (nk l) T5.goal.re (Sx.tq T5 P5)).length cp)).setCell (aD (w.heap.size+1) 4) (.s (sA gp) (2*t.links.length) (2*t.links.length))):=
   eG (gS w6 (w.heap.size+1) _ _ _ _ _) fun g e=>by injection e with e;exact e.symm
  have RB:=E0.o.2.1.K E6.o;have hn:=fun tt (ht:37≠tt)=>oh.one RB ht;have HB:=Hx (((((RB.sT 0 (.bool neg)).sT 1 (.s A1 n1 c1)).sT 2 (.s A2 n2 c2)).sT 3 (.s AP (Sx.uj l.length (nk l) T5.goal.re (Sx.tq T5 P5)).length cp)).sT 4 (.s (sA gp) (2*t.links.length) (2*t.links.length)));have vm:Hid (mW w t l (.returned (.tuple #[.agg #[.bool neg,.s A1 n1 c1,.s A2 n2 c2,.s AP (Sx.uj l.length (nk l) T5.goal.re (Sx.tq T5 P5)).length cp,.s (sA gp) (2*t.links.length) (2*t.links.length)],vI 0])) (((((w6.setCell (aD (w.heap.size+1) 0) (.bool neg)).setCell (aD (w.heap.size+1) 1) (.s A1 n1 c1)).setCell (aD (w.heap.size+1) 2) (.s A2 n2 c2)).setCell (aD (w.heap.size+1) 3) (.s AP (Sx.uj l.length (nk l) T5.goal.re (Sx.tq T5 P5)).length cp)).setCell (aD (w.heap.size+1) 4) (.s (sA gp) (2*t.links.length) (2*t.links.length)))):=Hx (by refine .inr (.inr ⟨qa.o,_,_,_,neg,A1,n1,c1,A2,n2,c2,AP,cp,gp,q6.o,qB.o.2.1.gr,jzpg qa.o hl hD S5.o.lp qi.o.fnn,fun q hq=>qB.o.2.2.1 q (xM hq),?_,rfl,k5.oz (hn _ qD) qU,qT,?_,?_,k5.ext (E0.o.2.2.tr E6.o) fun b hb=>by rw[hb];omega⟩);{have:=S5.o.lp.few S5.o.dif;omega};{refine Ak.plr (qj.fr k5 (fun g hg e=>?_) fun cs y _ hy=>hy.fr k5 (hn _ qD) (hn _ qD));obtain⟨xs,ho⟩:=qj.own;obtain⟨cs,qe⟩:=aT ho hg;rw[e]at qe;exact absurd (bI qe RB).2 qD};have vl:=qM.fr k5 (hn _ qD) fun e=>(by obtain⟨cs,qe⟩:=qM.blk;rw[e]at qe;exact absurd (bI qe RB).2 qD);rw[<-q9];exact vl.ql.take _);obtain⟨⟨v0,v1,v2,v3,v4⟩,r0,r1,r2,r3,r4⟩:=qk.o _ E6.o;clear qp qk qU qT qj qM q9 q7 k5 RB hn q0 q6 qi qB qn qH;generalize Sx.uj l.length (nk l) T5.goal.re (Sx.tq T5 P5)=ZZ at*;go_wp2;have qe:=HB.o;exact bodyPost_ret (v:=.tuple #[.agg #[.bool neg,.s A1 n1 c1,.s A2 n2 c2,.s AP ZZ.length cp,.s (sA gp) (2*t.links.length) (2*t.links.length)],vI 0]) (by simp[results,results7,go_sem,qe.cell]) rfl vm.o
 have qo:=G5.J2 rfl;have S5:Hid (fM W0 w5 x mb t AO co AL cl l AD cd L5 T5 qJ P5/\P5≠ []):=Hx (⟨⟨G5.fl,G5.lp,G5.dif,G5.loop⟩,fun e=>by rw[e]at qo;exact absurd qo (Nat.not_lt_zero _)⟩);have qX:=S5.o.1.few qa.o hl q8;clear G5;go_wp2;go_roundg ((Sx.Df l.length 21 6).length-P5.length);exact⟨L5,T5,qJ,P5,rfl,S5⟩;omega
def eA(t:Tp)(ps:List bK)(n:Nat):LN:=(List.range n).filter fun a=>decide (aV t a<=Sx.at_ (bS t ps).1 a)
def iQ(t:Tp)(ps:List bK):LN:=if(bS t ps).2=0 then eA t ps (bS t ps).1.length else []
def jzph t(ps:List bK)(n:Nat):(eA t ps n).length<=n:=by
 unfold eA;have:=List.length_filter_le (fun a=>decide (aV t a<=Sx.at_ (bS t ps).1 a)) (List.range n);rw[Jt]at this;exact this
def jzpi t(ps:List bK)(n:Nat):eA t ps (n+1)=if aV t n<=Sx.at_ (bS t ps).1 n then eA t ps n++[n]else eA t ps n:=by
 unfold eA;rw[IY,List.filter_append];by_cases h:aV t n<=Sx.at_ (bS t ps).1 n;{rw[qE h];simp[h]};rw[qF h];simp[h]
def jzgg{t}{Ps:List bK}{P:Nat}(hsz:∀p∈Ps,dx p.flow P):∀q∈(bS t Ps).1,dx q (1+cD Ps*(P+1)):=fun q hq=>by
 unfold bS at hq;split at hq;{(cases hl:Cy (2*t.links.length) (List.replicate (2*t.links.length) 0) Ps with|none=>rw[hl]at hq;cases hq|some ld=>rw[hl]at hq;exact oK (P:=P) Ps (k:=1) (ld:=List.replicate (2*t.links.length) 0) hsz (fun q hq=>by rw[uF hq];exact dx.zero) dx.zero hl q hq)};{cases hq}
def jzpj{t}{Ps:List bK}(h:(bS t Ps).2=0):aG t=true/\(bS t Ps).1.length=2*t.links.length/\Cy (2*t.links.length) (List.replicate (2*t.links.length) 0) Ps=some (bS t Ps).1:=by
 unfold bS at h⊢;split at h;{rename_i hv;(rw[qE hv];cases hl:Cy (2*t.links.length) (List.replicate (2*t.links.length) 0) Ps with|none=>rw[hl]at h;exact absurd h qD|some ld=>exact⟨hv,by rw[sF _ hl,xC],rfl⟩)};exact absurd h qD
def sK(x y:Rat):0<=aW x y↔y<=x:=by
 have h:=jzt x y;constructor;{intro h1;exact Dy.1 fun h2=>by have:=h.2 h2;omega};intro h1;have h2:¬aW x y<0:=fun h3=>Dy.2 h1 (h.1 h3);omega
def kY{t}(hv:aG t=true){a:Nat}(ha:a<2*t.links.length):dx (aV t a) 1:=by
 obtain⟨h,_,_,_,h5,h6,h7⟩:=kV hv ha;rw[h5];exact dx.int (by unfold dh;omega)
def jzpk t AO(co:Nat)AL(cl:Nat)(Ps:List bK)PA(np cp P:Nat)(hnp:Ps.length=np)w(ht:aR w t AO co AL cl)(hp:Jm w PA Ps)(hnl:np<=1000000)(hsz:∀p∈Ps,dx p.flow P)(hP1:1<=P)(hal:∀p∈Ps,p.aj.length<=1000000)(hK:1+cD Ps*(P+1)<=50000000)(hPb:P<=100000000):
  Calls prog 24 #[.agg #[vI t.nodes,.s AO t.over.length co,.s AL t.links.length cl],.s PA np cp] w fun e w'=>∃(A:OA) (c:Nat),e=.returned (.s A (iQ t Ps).length c)/\(iQ t Ps).length<=c/\og w' 3 A (ints (iQ t Ps))/\Ext w w':=by
 have HT:=Hx ht;have SZ:=Hx (jzgg (t:=t) hsz);have qJ:=ht.ll;obtain⟨qm,e0⟩:=aU w #[vI t.nodes,.s AO t.over.length co,.s AL t.links.length cl] 25;obtain⟨⟨i0,i1,i2⟩,_⟩:=qm.t3;have E0:=Hx (ah qm e0);have LD:=Hx (fun wx (hx:Ext w wx)=>jzfv t AO co AL cl Ps PA np cp P hnp wx (ht.K hx) (hp.K hx fun cs x h=>h.K hx) hnl hsz hP1 hal hK hPb);clear ht hp hsz hal qm e0;go_enter func24,ntmps24;go_wp2_with fail;refine(LD.o _ E0.o.2).mono ?_;rintro e w1 ⟨A,rfl,qw,qn⟩;have E1:=Hx (ah (E0.o.1.K qn) (E0.o.2.tr qn));clear qn i0 i1 i2;by_cases he:(bS t Ps).2=0
 ·obtain⟨hv,qg,_⟩:=jzpj he;have qy:t.links.length<=256:=(by have:=hv;unfold aG cF at this;simp at this;exact this.1.1.2);have HR:=Hx (show iQ t Ps=eA t Ps (2*t.links.length) by unfold iQ;rw[qE he,qg]);generalize hld:(bS t Ps).1=ld at*;generalize (bS t Ps).2=e9 at*;subst he;have I0:Hid (QL w1 A ld/\Ext w1 w1/\w1.ownsRow w1.heap.size 3 1 zN 0 []):=Hx (⟨qw,eR _,World.ownsRow_nil _ _ _ _⟩);clear qw;go_wp2;go_loopg [7,8,9,20] ld.length (fun q vF _ _ it wx=>∃(n:Nat) (vG:Value),ld.length-n=q/\n<=ld.length/\it=vI (n:Int)/\vG=vF/\Hid (Ext w1 wx/\wx.ownsRow w1.heap.size 3 1 vF (eA t Ps n).length (ints (eA t Ps n))));exact⟨0,_,rfl,yZ _,rfl,rfl,Hx ⟨I0.o.2.1,I0.o.2.2⟩⟩;obtain⟨n,vF,rfl,hn,rfl,rfl,I⟩:=hrel;by_cases qf:n<ld.length
  ·obtain⟨b,o,neg,A1,n1,c1,A2,n2,c2,rfl,hb,a0,a1,a2,qp⟩:=I0.o.1.at_ (aZ qf);have a0:=aA I.o.1 a0;have a1:=aA I.o.1 a1;have a2:=aA I.o.1 a2;have hb:b<wr.heap.size:=yL hb I.o.1.size;have RA:=Hx (qp.K I.o.1);have qA:=(SZ.o _ (yJ (aZ qf))).mono hK;have nN:(n:Int)<(ld.length:Int):=qO;have n0:(0:Int)<=(n:Int):=qO;have X8:Hid (Ext wr (wr.alloc (.cells #[.bool neg,.s A1 n1 c1,.s A2 n2 c2] 33))):=Hx ((eR wr).alloc _);have B8:=Hx (eN wr 33 #[.bool neg,.s A1 n1 c1,.s A2 n2 c2]);clear qp;go_upto_region 8 with fail
   clear a0 a1 a2;generalize wr.alloc (.cells #[.bool neg,.s A1 n1 c1,.s A2 n2 c2] 33)=W8 at*;generalize hbd:wr.heap.size=bd at*;have XW:Hid (Ext w1 W8):=Hx (I.o.1.tr X8.o);have qt:=Hx ((eE (S:=fun _=>False) X8.o).own I.o.2 (fun _ _ h=>h));obtain⟨l1,qM⟩:=RA.o.lens qA;have qa:=Hx (show∀wx,Ext W8 wx->(wx.C bd 0 (.bool neg)/\wx.C bd 1 (.s A1 n1 c1)/\wx.C bd 2 (.s A2 n2 c2))/\(wx.C w.heap.size 0 (vI t.nodes)/\wx.C w.heap.size 1 (.s AO t.over.length co)/\wx.C w.heap.size 2 (.s AL t.links.length cl))from fun wx hx=>
    ⟨⟨(B8.o.K hx).cell 0,(B8.o.K hx).cell 1,(B8.o.K hx).cell 2⟩,(E1.o.1.K (XW.o.tr hx)).cell 0,(E1.o.1.K (XW.o.tr hx)).cell 1,(E1.o.1.K (XW.o.tr hx)).cell 2⟩)
   (have XD:Hid (Ext W8 W8.drew):=Hx ((eR W8).drewN 1);have eu:=Hx (qa.o _ XD.o);have NX:=Hx (jzpi t Ps n);rw[hld]at NX;refine wX qa 4 ?_;refine wV 0 ?_;try simp only[qP]);refine wU [4,3] 1 ?_;(refine wP 2 ?_;try simp only[qP]);(refine wC 3 rfl (fun KK hK=>?_);go_simp;refine(sC t AO co AL cl n _ (HT.o.K (E1.o.2.tr (XW.o.tr XD.o))) hv qO).mono ?_;rintro e w5 ⟨n5,A5,l5,c5,qz,qH,qC,rfl,h5,x5⟩;have E5:=Hx (XD.o.tr x5);have eu:=Hx (qa.o _ E5.o);have R5:=Hx h5;obtain⟨l2,qU⟩:=h5.lens (kY hv (show n<2*t.links.length by omega));refine hK.o _ _ eu.o ?_;clear hK KK x5 h5;try simp only[qP]);(refine bE qK rfl qR (fun KK hK=>?_);go_simp;refine(gT neg n5 A1 n1 c1 A2 n2 c2 A5 l5 c5 qz qH qC (Sx.at_ ld n) (aV t n) _ (RA.o.K (X8.o.tr E5.o)) R5.o qO qO qO qO).r fun w6 x6=>?_;have E6:=Hx (E5.o.tr x6);have qi:=Hx ((eE (S:=fun _=>False) E6.o).own qt.o (fun _ _ h=>h));have X6:=Hx (XW.o.tr E6.o);refine hK.o _ _ ?_;clear hK KK x6 qa qt I;try simp only[qP]);refine iY (i:=5) qK rfl qR (fun KK hK=>?_);go_simp;refine hK.o _ _ ?_;clear hK KK;refine wpAny_done qK ?_ _;by_cases qj:aV t n<=Sx.at_ ld n;{have h9:=(sK _ _).2 qj;rw[qE qj]at NX;have d9:decide (0<=aW (Sx.at_ ld n) (aV t n))=true:=yO h9;have qQ:=jzph t Ps n;have BC:=Hx (eN w6 3 #[vI (n:Int)]);have XC:=Hx ((eR w6).alloc (.cells #[vI (n:Int)] 3));have VB:=Hx ((eE (S:=fun _=>False) XC.o).own qi.o (fun _ _ h=>h));have qx:=Hx XC.o.size;clear qi;(go_wp2_with (at_builtin;refine kS _ 42 3 _ 1 8 rfl _ _ rfl underlying42 Tryz.Cz rfl qD w1.heap.size vF (eA t Ps n).length (ints (eA t Ps n)) rfl VB.o [vI (n:Int)] rfl (by simp[Value.oneCell']) w6.heap.size rfl BC.o (by unfold maxLen;omega) qO (by have:=X6.o.size;have:=qx.o;omega) ?_));intro g9 c9 w9 qh qe qo;have k9:=eG (S:=fun b=>vF.ownBlock=some b) qe fun g e=>e;have J:Hid (Ext w1 w9/\w9.ownsRow w1.heap.size 3 1 (.s (sA g9) ((eA t Ps n).length+1) c9) (eA t Ps (n+1)).length (ints (eA t Ps (n+1)))):=Hx (⟨k9.ext (X6.o.tr XC.o) fun b hb=>(VB.o.lt b hb).1,by rw[NX.o,yQ,J5,gU];exact qh⟩);clear k9 qh qe qo qx;go_wp2;go_roundg (ld.length-(n+1));exact⟨n+1,_,rfl,qO,by go_num,rfl,J⟩;omega};have h9:¬0<=aW (Sx.at_ ld n) (aV t n):=fun h=>qj ((sK _ _).1 h);rw[qF qj]at NX;have d9:decide (0<=aW (Sx.at_ ld n) (aV t n))=false:=yP h9;have J:Hid (Ext w1 w6/\w6.ownsRow w1.heap.size 3 1 vF (eA t Ps (n+1)).length (ints (eA t Ps (n+1)))):=Hx (⟨X6.o,by rw[NX.o];exact qi.o⟩);clear qi;go_wp2;go_roundg (ld.length-(n+1));exact⟨n+1,vF,rfl,qO,by go_num,rfl,J⟩;omega
  obtain rfl:n=ld.length:=qO;obtain⟨A',c',rfl,qB,qk⟩:=fA I.o.2 rfl;go_wp2;go_ret;rw[HR.o, <-qg];exact⟨A',c',rfl,qB,qk,E1.o.2.tr I.o.1⟩
 have HR:=Hx (show iQ t Ps=[] by unfold iQ;rw[qF he]);generalize (bS t Ps).2=e9 at*;have qI:(e9==0)=false:=yK.2 he;have qT:decide (e9=0)=false:=yP he;go_wp2;go_ret;rw[HR.o];exact⟨none,0,rfl,yX _,fun h=>absurd rfl h,E1.o.2⟩
def jzgh(l:List Bool)(k:Nat)(b:Bool):(bB l).toArray.setIfInBounds k (.bool b)=(bB (l.set k b)).toArray:=by
 rw[yD];unfold bB;rw[List.map_set]
def jzgi(l:List Bool)(k:Nat)(b:Bool)(h:l[k]?=some b):(bB l).toArray[k]?=some (.bool b):=by
 unfold bB;simp[h]
section
variable {t:Tp}
def jzgj{u a:Nat}:a∈aL t u↔a<2*t.links.length/\dG t a=(u:Int):=by
 unfold aL cG;rw[List.mem_filter,vX,beq_iff_eq]
end
end Go.Proofs.YtfeeacaofjpkaaaGreatDoor
