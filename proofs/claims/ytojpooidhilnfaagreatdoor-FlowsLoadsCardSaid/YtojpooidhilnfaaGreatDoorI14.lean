/- Part 14 of 25 of what the Flows claims share (the white space is struck, the texts are joined). -/
import Derived.Deep.Slices
import Derived.Test.YtojpooidhilnfaaGreatDoorI13
set_option linter.unusedVariables false
set_option linter.unusedSimpArgs false
set_option maxRecDepth 100000
set_option maxHeartbeats 8000000
namespace Go.Proofs.YtojpooidhilnfaaGreatDoor
open Go.RowKit
def eD(t:Tp)(a:Nat):Nat:=match t.links[a/2]? with
 |some l=>if a%2=0 then l.c0.toNat else l.c1.toNat
 |none=>0
def bC(t:Tp)(x:LN):Nat:=x.foldl (fun s a=>s+eD t a) 0
theorem jzlj t(x:LN)(a:Nat):bC t (x++[a])=bC t x+eD t a:=by unfold bC;rw[kZt];rfl
def bJ(t:Tp):LQ:=(List.range (2*t.links.length)).map fun a=>((eD t a:Int):Rat)
theorem jzlk(t:Tp)(a:Nat)(ha:a/2<t.links.length):(bJ t)[a]?.getD 0=((eD t a:Int):Rat):=by
 unfold bJ;rw[yW,xJ (by omega)];rfl
theorem jzcx t(x:LN):prQ (bJ t) x=((bC t x:Int):Rat):=by
 have qa:∀(y:LN) (s:Nat),y.foldl (fun s a=>s+(bJ t)[a]?.getD 0) ((s:Int):Rat)=((y.foldl (fun s a=>s+eD t a) s:Nat):Int):=(by intro y;(induction y with|nil=>intro s;rfl|cons a y ih=>intro s;rw[List.foldl_cons,List.foldl_cons, <-ih (s+eD t a)];congr 1;rw[kZv,Rat.intCast_add];congr 1;by_cases ha:a/2<t.links.length;{exact jzlk t a ha};have h1:eD t a=0:=(by unfold eD;rw[yI (by omega)]);have h2:(bJ t)[a]?=none:=(by unfold bJ;rw[yI (by simp;omega)]);rw[h1,h2];rfl));exact qa x 0
def cV(t:Tp)(x y:LN):Int:=or3 (aI (bC t x) (bC t y)) (aI x.length y.length) (bH x y)
theorem jzll(a b:Nat):aX ((a:Int):Rat) ((b:Int):Rat)=aI a b:=by
 unfold aX aI;by_cases h:a<b;{rw[if_pos (Rat.intCast_lt_intCast.2 (by omega)),if_pos h]};rw[if_neg (fun h2=>h (by have:=Rat.intCast_lt_intCast.1 h2;omega)),if_neg h];by_cases e:a=b;{subst e;rw[if_pos rfl,if_pos rfl]};rw[if_neg (fun h2=>e (by have:=Rat.intCast_inj.1 h2;omega)),if_neg e]
theorem jzlm t(x y:LN):cA (bJ t) x y=decide (cV t x y<0):=by
 unfold cA mX cV;rw[jzcx,jzcx,jzll]
def RdF(B:Nat)(w:World)(A:OA)(xs:List Value):Prop:=RdT w 3 A xs/\∀p,A=some p->B<=p.block
theorem RdF.rd{B:Nat}{w}{A}{xs:List Value}(h:RdF B w A xs):Rd w A xs:=h.1.rd
theorem RdF.K{B:Nat}{w w'}{A}{xs:List Value}(h:RdF B w A xs)(hx:Ext w w'):RdF B w' A xs:=⟨h.1.K hx,h.2⟩
theorem RdF.other{B:Nat}{w w'}{A}{xs:List Value}{g:Nat}{t':TypeId}{cs':Array Value}(h:RdF B w A xs)(hg:w.grownBy w' (some g))(hb:Blk w g t' cs')(hne:3≠t'):RdF B w' A xs:=⟨h.1.other hg hb hne,h.2⟩
theorem RdF.gK{B:Nat}{w w'}{A}{xs:List Value}{t':TypeId}{row:Option Nat}(h:RdF B w A xs)(hg:w.grownBy w' row)(hr:∀k,row=some k->∃cs fr,w.heap[k]?=some (.cells cs t' fr))(hne:3≠t'):RdF B w' A xs:=⟨h.1.gK hg hr hne,h.2⟩
theorem RdF.below{B:Nat}{w w'}{A}{xs:List Value}{g:Nat}(h:RdF B w A xs)(hg:w.grownBy w' (some g))(hB:g<B):RdF B w' A xs:=by
 refine⟨fun hx=>?_,h.2⟩;obtain⟨b,o,cs,fr,e,hb,hc⟩:=h.1 hx;have:=h.2 _ e;refine⟨b,o,cs,fr,e,(hg.block b (iR hb) (fun e2=>?_)).trans hb,hc⟩;injection e2 with e2
 subst e2;simp at this;omega
def KLb(t:Tp)(B:Nat)(w:World)(cs:List Value)(z:Nat×LN):Prop:=
 ∃(A:OA) (c:Nat),cs=[vI (z.1:Int),vI (bC t z.2:Nat),vI 0,.s A z.2.length c]/\z.2.length<=c/\RdF B w A (ints z.2)
theorem KLb.K{t}{B:Nat}{w w'}{cs:List Value}{z:Nat×LN}(h:KLb t B w cs z)(hx:Ext w w'):KLb t B w' cs z:=by
 obtain⟨A,c,h1,h2,h3⟩:=h;exact⟨A,c,h1,h2,h3.K hx⟩
theorem KLb.other{t}{B:Nat}{w w'}{cs:List Value}{z:Nat×LN}{g:Nat}{t':TypeId}{cs':Array Value}(h:KLb t B w cs z)(hg:w.grownBy w' (some g))(hb:Blk w g t' cs')(hne:3≠t'):KLb t B w' cs z:=by
 obtain⟨A,c,h1,h2,h3⟩:=h;exact⟨A,c,h1,h2,h3.other hg hb hne⟩
theorem KLb.gK{t}{B:Nat}{w w'}{cs:List Value}{z:Nat×LN}{t':TypeId}{row:Option Nat}(h:KLb t B w cs z)(hg:w.grownBy w' row)(hr:∀k,row=some k->∃cs fr,w.heap[k]?=some (.cells cs t' fr))(hne:3≠t'):KLb t B w' cs z:=by
 obtain⟨A,c,h1,h2,h3⟩:=h;exact⟨A,c,h1,h2,h3.gK hg hr hne⟩
structure bM(t:Tp)(w:World)(B g n c:Nat)(hs:List (Nat×LN)):Prop where
 len:hs.length=n
 row:∃css:List (List Value),css.length=n/\(∀cs∈css,cs.length=4)/\w.ownsRow B 225 4 (.s (sA g) n c) n css.flatten/\∀(i:Nat) (z:Nat×LN),hs[i]?=some z->∃cs,css[i]?=some cs/\KLb t B w cs z
theorem bM.blk{t}{w}{B g n c:Nat}{hs:List (Nat×LN)}(h:bM t w B g n c hs):∃cs,Blk w g 225 cs:=by
 obtain⟨css,_,_,h3,_⟩:=h.row;rcases h3.2 with⟨e,_⟩|⟨g',cap,cur,e,_,h5,_⟩
 ·cases e
 injection e with e
 injection e with e
 injection e with e
 subst e;exact⟨cur,h5⟩
theorem bM.K{t}{w w'}{B g n c:Nat}{hs:List (Nat×LN)}(h:bM t w B g n c hs)(hx:Ext w w'):bM t w' B g n c hs:=by
 obtain⟨css,h1,h2,h3,h4⟩:=h.row;refine⟨h.len,css,h1,h2,h3.kept (bO hx) (bP _),fun i z hz=>?_⟩;obtain⟨cs,k1,k2⟩:=h4 i z hz;exact⟨cs,k1,k2.K hx⟩
theorem bM.at_{t}{w}{B g n c:Nat}{hs:List (Nat×LN)}(h:bM t w B g n c hs){i:Nat}{z:Nat×LN}(hz:hs[i]?=some z):
  ∃(A:OA) (k:Nat),(w.cell? (aD g (i*4))=some (vI (z.1:Int))/\w.cell? (aD g (i*4+1))=some (vI (bC t z.2:Nat))/\w.cell? (aD g (i*4+2))=some (vI 0)/\w.cell? (aD g (i*4+3))=some (.s A z.2.length k))/\
   (w.frozen? (aD g (i*4))=false/\w.frozen? (aD g (i*4+1))=false/\w.frozen? (aD g (i*4+2))=false/\w.frozen? (aD g (i*4+3))=false)/\z.2.length<=k/\RdF B w A (ints z.2):=by
 obtain⟨css,h1,h2,h3,h4⟩:=h.row;obtain⟨cs,k1,A,k,rfl,k2,k3⟩:=h4 i z hz;have hi:=(yH.1 hz).1;have qf:i<n:=(by have:=h.len;omega);obtain⟨cb,hb⟩:=h.blk;have qa:∀j,j<4->w.cell? (aD g (i*4+j))=([vI (z.1:Int),vI (bC t z.2:Nat),vI 0,.s A z.2.length k]:List Value)[j]?:=fun j hj=>(by (have hf:=dK css h2 i j (by omega) hj;rw[k1]at hf;rcases h3.2 with⟨e,_⟩|⟨g',cap,cur,e,_,h5,h6,h7,h8,h9⟩);{cases e};(injection e with e1 e2 e3);(injection e1 with e1);(injection e1 with e1);subst e1;have qe:Blk w g 225 cur:=h5;rw[qe.cell, <-kQw];rw[<-h9,xG,if_pos (by omega)]at hf;exact hf);exact⟨A,k,⟨qa 0 (by omega),qa 1 (by omega),qa 2 (by omega),qa 3 (by omega)⟩,⟨hb.frozen _,hb.frozen _,hb.frozen _,hb.frozen _⟩,k2,k3⟩
theorem rA{w:World}{B g n c s k:Nat}{e:TypeId}{xs:List Value}(h:w.ownsRow B e s (.s (sA g) n c) n xs)(u:Value):(w.setCell (aD g k) u).ownsRow B e s (.s (sA g) n c) n (xs.set k u):=by
 refine⟨by rw[yV];exact h.1,?_⟩;rcases h.2 with⟨h3,h4⟩|⟨g',cap,cur,h3,h4,h5,h6,h7,h8,h9⟩
 ·cases h3
 have qa:=h3;injection h3 with e1 e2 e3
 injection e1 with e1
 injection e1 with e1
 subst e1;refine .inr ⟨g,cap,cur.setIfInBounds k u,qa,h4,(show Blk w g e cur from h5).sT k u,h6,h7,by simpa using h8,?_⟩;rw[Array.toList_setIfInBounds, <-h9,List.take_set]
theorem jzln{w:World}{B g n c i:Nat}{e:TypeId}{css:List (List Value)}(h:w.ownsRow B e 4 (.s (sA g) n c) n css.flatten)(h1:css.length=n)(h2:∀cs∈css,cs.length=4)(hi:i<n)(v0 v1 v2 v3:Value):
  ((((w.setCell (aD g (i*4)) v0).setCell (aD g (i*4+1)) v1).setCell (aD g (i*4+2)) v2).setCell (aD g (i*4+3)) v3).ownsRow B e 4 (.s (sA g) n c) n (css.set i [v0,v1,v2,v3]).flatten:=by
 have qa:i<css.length:=(by omega);obtain⟨cs,qf⟩:∃cs,css[i]?=some cs:=⟨_,yG qa⟩;have qe:cs.length=4:=h2 cs (yJ qf);have e0:css=css.set i cs:=(by apply uK;intro j;by_cases e:i=j;{subst e;rw[yM qa];exact qf};rw[vN e]);have b:=rA (k:=i*4+3) (rA (k:=i*4+2) (rA (k:=i*4+1) (rA (k:=i*4+0) h v0) v1) v2) v3;rw[e0,fA css h2 i qa cs 0 _ qe (by omega),fA css h2 i qa _ 1 _ (by simp[qe]) (by omega),fA css h2 i qa _ 2 _ (by simp[qe]) (by omega),fA css h2 i qa _ 3 _ (by simp[qe]) (by omega)]at b;have e3:(((cs.set 0 v0).set 1 v1).set 2 v2).set 3 v3=[v0,v1,v2,v3]:=(by (rcases cs with _|⟨a0,_|⟨a1,_|⟨a2,_|⟨a3,_|⟨a4,r⟩⟩⟩⟩⟩);all_goals first|(simp at qe;done)|rfl);rw[e3]at b;exact b
theorem uV(w:World)(g i:Nat)(v0 v1 v2 v3:Value):w.grownBy ((((w.setCell (aD g (i*4)) v0).setCell (aD g (i*4+1)) v1).setCell (aD g (i*4+2)) v2).setCell (aD g (i*4+3)) v3) (some g):=
 (((aL w g (i*4) v0).trans (aL _ g (i*4+1) v1)).trans (aL _ g (i*4+2) v2)).trans (aL _ g (i*4+3) v3)
theorem bM.put{t}{w}{B g n c i:Nat}{hs:List (Nat×LN)}{z:Nat×LN}{A}{k:Nat}(h:bM t w B g n c hs)(hi:i<n)(hk:z.2.length<=k)(hA:RdF B w A (ints z.2)):
  bM t ((((w.setCell (aD g (i*4)) (vI (z.1:Int))).setCell (aD g (i*4+1)) (vI (bC t z.2:Nat))).setCell (aD g (i*4+2)) (vI 0)).setCell (aD g (i*4+3)) (.s A z.2.length k)) B g n c (hs.set i z):=by
 obtain⟨cb,hb⟩:=h.blk;obtain⟨css,h1,h2,h3,h4⟩:=h.row;have hg:=uV w g i (vI (z.1:Int)) (vI (bC t z.2:Nat)) (vI 0) (.s A z.2.length k);refine⟨by rw[yV];exact h.len,css.set i [vI (z.1:Int),vI (bC t z.2:Nat),vI 0,.s A z.2.length k],by rw[yV];exact h1,fun cs hc=>?_,jzln h3 h1 h2 hi _ _ _ _,fun j y hj=>?_⟩;{(rcases xE hc with hc|hc);{exact h2 cs hc};rw[hc];rfl};by_cases e:i=j;{subst e;(rw[yM (by have:=h.len;omega)]at hj;injection hj with hj);subst hj;exact⟨_,yM (by omega),A,k,rfl,hk,hA.other hg hb (by decide)⟩};rw[vN e]at hj;obtain⟨cs,k1,k2⟩:=h4 j y hj;exact⟨cs,by rw[vN e];exact k1,k2.other hg hb (by decide)⟩
structure KQu(t:Tp)(w:World)(B q g n c:Nat)(hs:List (Nat×LN)):Prop where
 box:Blk w q 227 #[.s (sA g) n c]
 row:bM t w B g n c hs
theorem KQu.K{t}{w w'}{B q g n c:Nat}{hs:List (Nat×LN)}(h:KQu t w B q g n c hs)(hx:Ext w w'):KQu t w' B q g n c hs:=⟨h.box.K hx,h.row.K hx⟩
theorem bM.below{t}{w w'}{B g n c b:Nat}{hs:List (Nat×LN)}(h:bM t w B g n c hs)(hg:w.grownBy w' (some b))(hB:b<B)(hgB:B<=g):bM t w' B g n c hs:=by
 obtain⟨css,h1,h2,h3,h4⟩:=h.row;refine⟨h.len,css,h1,h2,h3.kept hg (.inr (fun e=>?_)),fun i z hz=>?_⟩;{have e:some g=some b:=e;(injection e with e);omega};obtain⟨cs,k1,A,c',k2,k3,k4⟩:=h4 i z hz;exact⟨cs,k1,A,c',k2,k3,k4.below hg hB⟩
theorem bM.lo{t}{w}{B g n c:Nat}{hs:List (Nat×LN)}(h:bM t w B g n c hs):B<=g:=by
 obtain⟨css,h1,h2,h3,h4⟩:=h.row;exact(h3.lt g rfl).1
theorem KQu.below{t}{w w'}{B q g n c b:Nat}{hs:List (Nat×LN)}{cs:Array Value}(h:KQu t w B q g n c hs)(hg:w.grownBy w' (some b))(hb:Blk w b 3 cs)(hB:b<B):KQu t w' B q g n c hs:=
 ⟨(hg.block q h.box.lt (fun e=>by injection e with e;exact h.box.ne_ hb (by decide) e)).trans h.box,h.row.below hg hB h.row.lo⟩
def fF(t:Tp)(down:List Bool)(ps:LQ):Bool:=!aJ t||!dJ t down||!dZ t ps
def chP(t:Tp)(down:List Bool)(ps:LQ)(s d:Int):LN×Int:=
 if fF t down ps then([],1)else if eW t s d then([],2)else match eS t down ps s.toNat d.toNat with
  |none=>([],11)
  |some l=>(l,0)
def jzlo(w:World)(ps:LQ)(r:LN×Int)(e:Ending)(w':World):Prop:=
 ∃(A:OA) (c:Nat) (neg:Bool) (A1:OA) (n1 c1:Nat) (A2:OA) (n2 c2:Nat),e=.returned (.tuple #[.s A r.1.length c,.agg #[.bool neg,.s A1 n1 c1,.s A2 n2 c2],vI r.2])/\r.1.length<=c/\RdT w' 3 A (ints r.1)/\aE w' neg A1 n1 c1 A2 n2 c2 (prQ ps r.1)/\Ext w w'
def nU(w:World)(ps:LQ)(r:LN×Int)(e:Ending)(w':World):Prop:=
 ∃(A:OA) (c:Nat) (neg:Bool) (A1:OA) (n1 c1:Nat) (A2:OA) (n2 c2:Nat),e=.returned (.tuple #[.s A r.1.length c,.agg #[.bool neg,.s A1 n1 c1,.s A2 n2 c2],vI r.2])/\r.1.length<=c/\RdN w.heap.size w' A (ints r.1)/\aE w' neg A1 n1 c1 A2 n2 c2 (prQ ps r.1)/\Ext w w'
theorem nU.weak{w}{ps:LQ}{r:LN×Int}{e:Ending}{w'}(h:nU w ps r e w'):jzlo w ps r e w':=by
 obtain⟨A,c,neg,A1,n1,c1,A2,n2,c2,h1,h2,h3,h4,h5⟩:=h;exact⟨A,c,neg,A1,n1,c1,A2,n2,c2,h1,h2,h3.1,h4,h5⟩
theorem RdN.nil(B:Nat)w:RdN B w none []:=⟨RdT.nil _ _ _,fun p hp=>by cases hp⟩
theorem jzlp(t:Tp)(AO:OA)(co:Nat)(AL:OA)(cl:Nat)(AD:OA)(cd:Nat)(down:List Bool)(PP:OA)(cp:Nat)(ps:LQ)(P:Nat)(s d:Int)(w:World)(ht:bA w t AO co AL cl)(za:Rd w AD (cB down))(hcd:down.length<=281474976710656)(hdc:down.length<=cd)(hps:QL w PP ps)(hpl:ps.length<=1000000)(hP:1<=P)(hP2:P<=1000000)(hsz:∀q∈ps,SzQ q P):
  Calls Tryz.prog 81 #[.agg #[vI t.nodes,.s AO t.over.length co,.s AL t.links.length cl],.s AD down.length cd,.s PP ps.length cp,vI s,vI d] w (nU w ps (chP t down ps s d)):=by
 have HT:=Hx (ht)
 have jn:=Hx (za)
 have ym:=Hx (hps)
 have zg:=Hx (hsz)
 have h3:=ht.ll
 have h4:=ht.cl
 clear ht za hps hsz
 generalize hR:chP t down ps s d=R
 have HR:=Hx (hR)
 clear hR
 obtain⟨b0,b1,e0⟩:=dD w #[vI t.nodes,.s AO t.over.length co,.s AL t.links.length cl] 25 #[.bool false,zN,zN] 35
 obtain⟨⟨i0,i1,i2⟩,g0,g1,g2⟩:=b0.t3
 have BB:=Hx (kQa b0 b1)
 clear b0 b1
 go_enter Tryz.func81,Tryz.ntmps81
 go_upto_region 1 with fail
 go_cut [35] (fun s wx=>s=.bool (fF t down ps)/\Blk wx w.heap.size 25 #[vI t.nodes,.s AO t.over.length co,.s AL t.links.length cl]/\Blk wx (w.heap.size+1) 35 #[.bool false,zN,zN]/\Ext w wx)
 case first=>
  go_wp2_with fail
  refine(oZ t AO co AL cl _ (HT.o.K e0)).mono ?_
  rintro e w1 ⟨rfl,qN⟩
  have qn:=BB.o.1.K qN
  have qp:=BB.o.2.K qN
  obtain⟨⟨i0,i1,i2⟩,g0,g1,g2⟩:=qn.t3
  have E1:=Hx (e0.tr qN)
  clear qN
  cases hv:aJ t
  case false=>
   go_wp2
   go_meet
   exact⟨by simp[fF,hv],qn,qp,E1.o⟩
  case true=>
   have HV:=Hx (hv)
   go_wp2_with fail
   refine(jz6 t AO co AL cl AD cd down _ (HT.o.K E1.o)).mono ?_
   rintro e w2 ⟨rfl,q9⟩
   have qn:=qn.K q9
   have qp:=qp.K q9
   obtain⟨⟨i0,i1,i2⟩,g0,g1,g2⟩:=qn.t3
   have E2:=Hx (E1.o.tr q9)
   clear q9
   cases hf:dJ t down
   case false=>
    go_wp2
    go_meet
    exact⟨by simp[fF,hf],qn,qp,E2.o⟩
   case true=>
    have HF:=Hx (hf)
    go_wp2_with fail
    refine(jzja t AO co AL cl PP cp ps _ (HT.o.K E2.o) (ym.o.K E2.o) hpl).mono ?_
    rintro e w3 ⟨rfl,vo⟩
    have qn:=qn.K vo
    have qp:=qp.K vo
    have E3:=Hx (E2.o.tr vo)
    clear vo
    go_wp2
    go_meet
    exact⟨by simp[fF,HV.o,HF.o],qn,qp,E3.o⟩
 case rest=>
  obtain⟨rfl,qn,qp,hx⟩:=hcut
  clear i0 i1 i2 g0 g1 g2 e0 BB
  have EX:=Hx (hx)
  obtain⟨⟨i0,i1,i2⟩,g0,g1,g2⟩:=qn.t3
  obtain⟨⟨j0,j1,j2⟩,k0,k1,k2⟩:=qp.t3
  cases hb1:fF t down ps
  case true=>
   have hr:R=([],1):=by rw[<-HR.o];unfold chP;rw[hb1];rfl
   subst hr
   go_wp2
   have vp:=((qp.sT 0 (.bool false)).sT 1 zN).sT 2 zN
   exact bodyPost_ret (v:=.tuple #[zN,.agg #[.bool false,zN,zN],vI 1]) (by simp[results,Tryz.results81,go_sem,vp.cell]) rfl
    ⟨none,0,false,none,0,0,none,0,0,rfl,yX _,RdN.nil _ _,eZ _,((EX.o.sT (by first|(simp;omega)|simp) _).sT (by first|(simp;omega)|simp) _).sT (by first|(simp;omega)|simp) _⟩
  case false=>
   have xl:=Hx (hb1)
   clear hb1
   have zs:eW t s d= !(ndB t.nodes s&&ndB t.nodes d):=by
    unfold eW ndB
    rw[Bool.eq_iff_iff]
    simp
    omega
   have zp:=Hx (zs)
   have zk:=Hx qp
   clear zs qp
   go_upto_region 3 with fail
   go_cut [46] (fun x wx=>x=.bool (eW t s d)/\Blk wx w.heap.size 25 #[vI t.nodes,.s AO t.over.length co,.s AL t.links.length cl]/\Blk wx (w.heap.size+1) 35 #[.bool false,zN,zN]/\Ext w wx)
   case first=>
    go_wp2_with fail
    refine(lA t AO co AL cl s _).mono ?_
    rintro e w1 ⟨rfl,qN⟩
    have qn:=qn.K qN
    have vO:=Hx (zk.o.K qN)
    obtain⟨⟨i0,i1,i2⟩,g0,g1,g2⟩:=qn.t3
    have E1:=Hx (EX.o.tr qN)
    clear qN
    cases hn1:ndB t.nodes s
    case false=>
     go_wp2
     go_meet
     exact⟨by rw[zp.o,hn1];rfl,qn,vO.o,E1.o⟩
    case true=>
     have y8:=Hx (hn1)
     clear hn1
     go_wp2_with fail
     refine(lA t AO co AL cl d _).mono ?_
     rintro e w2 ⟨rfl,q9⟩
     have qn:=qn.K q9
     have yN:=Hx (vO.o.K q9)
     have E2:=Hx (E1.o.tr q9)
     clear q9
     go_wp2
     go_meet
     exact⟨by rw[zp.o,y8.o];simp,qn,yN.o,E2.o⟩
   case rest=>
    obtain⟨rfl,qn,qp,hx⟩:=hcut
    clear i0 i1 i2 g0 g1 g2 j0 j1 j2 k0 k1 k2 EX zk
    have EX:=Hx (hx)
    obtain⟨⟨i0,i1,i2⟩,g0,g1,g2⟩:=qn.t3
    obtain⟨⟨j0,j1,j2⟩,k0,k1,k2⟩:=qp.t3
    clear hx
    cases hb2:eW t s d
    case true=>
     have hr:R=([],2):=by rw[<-HR.o];unfold chP;rw[xl.o,hb2];rfl
     subst hr
     go_wp2
     have vp:=((qp.sT 0 (.bool false)).sT 1 zN).sT 2 zN
     exact bodyPost_ret (v:=.tuple #[zN,.agg #[.bool false,zN,zN],vI 2]) (by simp[results,Tryz.results81,go_sem,vp.cell]) rfl
      ⟨none,0,false,none,0,0,none,0,0,rfl,yX _,RdN.nil _ _,eZ _,((EX.o.sT (by first|(simp;omega)|simp) _).sT (by first|(simp;omega)|simp) _).sT (by first|(simp;omega)|simp) _⟩
    case false=>
     have hv:aJ t=true/\dJ t down=true/\dZ t ps=true:=by
      have:=xl.o
      unfold fF at this
      simp at this
      exact⟨this.1.1,this.1.2,this.2⟩
     have yk:0<=s/\s<t.nodes/\0<=d/\d<t.nodes:=by
      unfold eW at hb2
      simp at hb2
      omega
     have hr:R=match eS t down ps s.toNat d.toNat with
      |none=>([],11)
      |some l=>(l,0):=by rw[<-HR.o];unfold chP;rw[xl.o,hb2];rfl
     obtain⟨n,rfl⟩:∃n:Nat,s=(n:Int):=⟨s.toNat,by omega⟩
     obtain⟨m,rfl⟩:∃m:Nat,d=(m:Int):=⟨d.toNat,by omega⟩
     rw[xL,xL]at hr
     have zz:=Hx (hr)
     have HV:=Hx (hv)
     have SD:=Hx (yk)
     have zk:=Hx qp
     clear hr hv yk hb2 HR qp
     go_wp2_with fail
     refine(sU t AO co AL cl _ (HT.o.K EX.o) HV.o.1).mono ?_
     rintro e w1 ⟨gll,N,hN,rfl,x3,qN⟩
     have qn:=qn.K qN
     have vO:=Hx (zk.o.K qN)
     have E1:=Hx (EX.o.tr qN)
     have x6:=Hx (x3)
     clear qN x3 i0 i1 i2 g0 g1 g2 j0 j1 j2 k0 k1 k2 zk EX
     have zu:N<=64:=by
      have:=HV.o.1
      unfold aJ cC inB at this
      simp at this
      omega
     have ja:=jzjg N (by omega)
     have xd:=Hx qn
     rw[hN]at qn
     obtain⟨⟨i0,i1,i2⟩,g0,g1,g2⟩:=qn.t3
     have zw:n<N/\m<N:=by have:=SD.o;omega
     have xq:=xd.o.lt
     have xc:=vO.o.lt
     have HN:=Hx (hN)
     clear hN qn
     obtain⟨zw,jO⟩:=zw
     have yx:(n:Int)<(N:Int):=by omega
     have jp:(madeCells #[.bool false,.bool false,.bool false,zN,zN,zN] (N*6))[n*6]?=some (.bool false):=by
      have zO:∀cs∈List.replicate N zeroCells,cs.length=6:=fun cs h=>by rw[uF h];rfl
      rw[tN,xI]
      have h1:=dK _ zO n 0 (by rw[xC];exact zw) (by omega)
      rw[kQ3,xB,if_pos zw,kQ1]at h1
      rw[h1];rfl
     have yp:bZ (cH N n)<=N:=by have:=pN (cH N n);simp[cH]at this⊢;omega
     have LM:=Hx (jzjh w1 ps N n zw)
     have yb:=Hx (show gT w (w1.alloc (.cells ((madeCells #[.bool false,.bool false,.bool false,zN,zN,zN] (N*6)).setIfInBounds (n*6) (.bool true)) 216)) t AO co AL cl ps w1.heap.size gll N (cH N n)from
      ⟨xd.o.alloc _,vO.o.alloc _,LM.o,by simp[cH],fun l hl=>by
       have hu:=pN (cH N n)
       have:l.arcs=[]:=by
        unfold cH at hl
        rcases xE hl with h|h
        ·rw[uF h]
        ·rw[h]
       rw[this];simpa using hu,x6.o.K ((eR w1).alloc _),by omega,E1.o.alloc _,ArF.made _ _ _ _⟩)
     have qW:eS t down ps n m=gS t down ps m (N+1) (cH N n):=by unfold eS;rw[HN.o];rfl
     rw[qW]at zz
     clear qW
     go_wp2
     clear ja jp i0 i1 i2 g0 g1 g2 xd vO LM x6 E1 xq xc
     generalize hDR:gS t down ps m (N+1) (cH N n)=DR at*
     have xy:=Hx hDR
     clear hDR
     generalize w1.heap.size=g at*
     generalize w1.alloc (.cells ((madeCells #[.bool false,.bool false,.bool false,zN,zN,zN] (N*6)).setIfInBounds (n*6) (.bool true)) 216)=w2 at*
     go_loopg [15,16,18,19,20] N (fun k _ _ _ _ _ wr=>∃(f:Nat) (ls:List Lb),f=k/\bZ ls<=f/\gT w wr t AO co AL cl ps g gll N ls/\gS t down ps m (f+1) ls=DR)
     case atStart=>exact⟨N,cH N n,rfl,yp,yb.o,xy.o⟩
     case round=>
      clear yb xy yp
      obtain⟨f,ls,rfl,jW,qQ,vy⟩:=hrel
      have qL:=jzjd g ps ls wr qQ.lab (jza4 hP hP2 zg.o qQ.ok qQ.len zu) (by rw[qQ.len];omega)
      rw[qQ.len]at qL
      have vj:=Hx qL
      have zi:=tM ps ls ls.length
      have xh:=mZ ps ls ls.length
      change bS ps ls= -1\/_ at zi
      change 0<=bS ps ls->∃l,ls[(bS ps ls).toNat]?=some l/\_ at xh
      rw[gS]at vy
      have ST:=Hx qQ
      have xj:=Hx vy
      have FF:=Hx xh
      clear qL qQ vy xh
      go_wp2_with fail
      refine vj.o.mono ?_
      rintro e w3 ⟨rfl,vo⟩
      have qw:=Hx (ST.o.K vo)
      clear vo ST vj
      generalize bS ps ls=q at*
      by_cases hq:q<0
      ·have hr:R=([],11):=by
        rw[zz.o, <-xj.o,if_pos hq]
       subst hr
       have x2:decide (q<0)=true:=yO hq
       have qp:=qw.o.rr
       have EX:=Hx qw.o.ext
       obtain⟨⟨j0,j1,j2⟩,k0,k1,k2⟩:=qp.t3
       go_wp2
       have vp:=((qp.sT 0 (.bool false)).sT 1 zN).sT 2 zN
       exact bodyPost_ret (v:=.tuple #[zN,.agg #[.bool false,zN,zN],vI 11]) (by simp[results,Tryz.results81,go_sem,vp.cell]) rfl
        ⟨none,0,false,none,0,0,none,0,0,rfl,yX _,RdN.nil _ _,eZ _,((EX.o.sT (by first|(simp;omega)|simp) _).sT (by first|(simp;omega)|simp) _).sT (by first|(simp;omega)|simp) _⟩
      ·have x2:decide (q<0)=false:=yP hq
       rcases zi with zi|zi
       ·omega
       obtain⟨v,rfl⟩:∃v:Nat,q=(v:Int):=⟨q.toNat,by omega⟩
       obtain⟨lv,qJ,z7,vx⟩:=FF.o (by omega)
       rw[xL]at qJ
       have jf:v<ls.length:=(yH.1 qJ).1
       have xK:v<N:=by have:=qw.o.len;omega
       have yt:(v:Int)<(N:Int):=by omega
       have vt:=xj.o
       rw[if_neg hq,xL]at vt
       have vw:=Hx vt
       have q8:=Hx qJ
       have yo:=Hx (kQa z7 vx)
       obtain⟨neg,A,n1,c1,A',zy,zB,AX,cx,⟨i0,i1,i2,i3,i4,i5⟩,vn,yc,xf⟩:=qw.o.lab.at_ qJ
       rw[z7]at i0
       rw[vx]at i1
       clear vt xj FF qJ z7 vx zi hq
       by_cases yz:v=m
       ·subst yz
        have jE:((v:Int)==(v:Int))=true:=by simp
        have qp:=qw.o.rr
        have y6:R=(lv.arcs,0):=by
         rw[zz.o, <-vw.o,if_pos rfl]
         unfold cX
         rw[q8.o]
         rfl
        subst y6
        obtain⟨⟨j0,j1,j2⟩,k0,k1,k2⟩:=qp.t3
        have jF:g≠w.heap.size+1:=by have:=qw.o.gg;omega
        have qk:=qw.o.lab.lt
        have RT:=Hx vn
        have XX:=Hx (kQa xf (qw.o.fa v _ _ _ i5))
        have jx:=Hx qp
        clear vn xf qp
        go_wp2
        go_region
        go_wp2
        have q0:Blk w3 (w.heap.size+1) 35 _:=jx.o
        have q1:=q0.sT 0 (.bool neg)
        have q2:=q1.sT 1 (.s A n1 c1)
        have vp:=q2.sT 2 (.s A' zy zB)
        have x0:RdT w3 3 AX (ints lv.arcs):=XX.o.1
        have r0:aE w3 neg A n1 c1 A' zy zB (prQ ps lv.arcs):=RT.o
        have EX:=qw.o.ext
        refine bodyPost_ret (v:=.tuple #[.s AX lv.arcs.length cx,.agg #[.bool neg,.s A n1 c1,.s A' zy zB],vI 0]) (by simp[results,Tryz.results81,go_sem,vp.cell]) rfl
         ⟨AX,cx,neg,A,n1,c1,A',zy,zB,rfl,yc,?_,?_,?_⟩
        ·refine⟨?_,XX.o.2⟩
         exact((x0.sT (p:=(aD (w.heap.size+1) 0)) q0 (by decide) _).sT (p:=(aD (w.heap.size+1) 1)) q1 (by decide) _).sT (p:=(aD (w.heap.size+1) 2)) q2 (by decide) _
        ·exact((r0.sT (p:=(aD (w.heap.size+1) 0)) q0 (by decide) _).sT (p:=(aD (w.heap.size+1) 1)) q1 (by decide) _).sT (p:=(aD (w.heap.size+1) 2)) q2 (by decide) _
        ·exact(((EX.sT (by first|(simp;omega)|simp) _).sT (by first|(simp;omega)|simp) _).sT (by first|(simp;omega)|simp) _).drewN 1
       ·have jE:((v:Int)==(m:Int))=false:=yK.2 (by omega)
        have zn:=jza2 q8.o yo.o.2
        have yl:(dV ls v).length=N:=by unfold dV;rw[q8.o,yV];exact qw.o.len
        have xx:nA (dV ls v):=fun l hl=>by
         have h1:l.arcs.length+bZ ls<=ls.length:=by
          unfold dV at hl
          rw[q8.o]at hl
          rcases xE hl with h|h
          ·exact qw.o.ok l h
          ·rw[h];exact qw.o.ok lv (yJ q8.o)
         have:=qw.o.len
         omega
        have yq:=Hx (qw.o.turn (aL w3 g (v*6+1) (.bool true)) (qw.o.lab.mark q8.o) yl xx (qw.o.fa.mark qw.o.lab _))
        have jr:w3.frozen? (aD g (v*6+1))=false:=by
         obtain⟨css,_,_,h9,_⟩:=qw.o.lab
         exact h9.frozen _
        have vt:=vw.o
        rw[if_neg (by omega)]at vt
        have xm:=Hx vt
        have AV:=Hx (show∃l,(dV ls v)[v]?=some l/\l.done=true/\l.arcs.length+bZ (dV ls v)<N by
         refine⟨⟨lv.known,true,lv.arcs⟩,?_,rfl,?_⟩
         ·unfold dV;rw[q8.o,yM jf]
         ·have h1:=qw.o.ok lv (yJ q8.o)
          have h2:=qw.o.len
          simp only[]
          omega)
        have yd:=Hx zn
        clear zn yl xx vt vw vn xf zz i0 i2 i3 i4 i5 yc yo
        go_upto_region 14 with fail
        go_cut [] (fun wx=>gT w wx t AO co AL cl ps g gll N (dV ls v))
        case first=>
         go_wp2
         go_meet
         exact yq.o
        case rest=>
         clear yq qw jr i1 q8 x2
         obtain⟨V,v1,v2⟩:=hcut.ll
         have x7:=(v1.cell v).trans (pA _ V v xK)
         obtain⟨AR,cr,v3,jQ,vH⟩:=v2 v xK
         rw[v3]at x7
         have z9:=pB t (2*t.links.length) v
         change (aW t v).length<=_ at z9
         have xv:=Hx hcut
         have ye:=Hx vH
         clear v1 v2 v3 V vH hcut
         generalize hL:(aW t v).length=L at*
         have HL:=Hx (hL)
         clear hL
         generalize hM:dV ls v=ls0 at*
         have HM:=Hx hM
         clear hM
         go_wp2
         go_loopg [18,19,20,84] L (fun k _ _ _ it wr=>∃j:Nat,L-j=k/\j<=L/\it=vI j/\RdT wr 3 AR (ints (aW t v))/\gT w wr t AO co AL cl ps g gll N (((aW t v).take j).foldl (dL t down ps m v) ls0)/\bZ (((aW t v).take j).foldl (dL t down ps m v) ls0)=bZ ls0/\∃l,(((aW t v).take j).foldl (dL t down ps m v) ls0)[v]?=some l/\l.done=true/\l.arcs.length+bZ ls0<N)
         case atStart=>exact⟨0,rfl,yZ _,rfl,ye.o,xv.o,rfl,AV.o⟩
         case round=>
          clear xv AV x7 ye
          obtain⟨j,rfl,hj,rfl,vH,qQ,yr,jw⟩:=hrel
          generalize hQ:((aW t v).take j).foldl (dL t down ps m v) ls0=lq at*
          have HQ:=Hx (hQ)
          have zm:=Hx (yr)
          clear hQ yr
          obtain⟨la,yn,za,xa⟩:=jw
          have vq:=Hx yn
          have qY:=Hx za
          clear yn za
          by_cases xw:j<L
          ·obtain⟨a,ha⟩:∃a,(aW t v)[j]?=some a:=⟨_,yG (by rw[HL.o];exact xw)⟩
           have jA:a<2*t.links.length:=jzhr (yJ ha)
           obtain⟨h,hh,ju⟩:=jzab HV.o.1 jA
           rw[HN.o]at ju
           have jB:a<ps.length:=by
            have:=HV.o.2.2
            unfold dZ at this
            simp at this
            omega
           obtain⟨b,o,rfl,jL,xt⟩:=vH.rd.ints_ (k:=j) (by rw[HL.o];exact xw)
           rw[ha,kQ1]at xt
           have zv:=qQ.tt
           obtain⟨⟨i0,i1,i2⟩,zP,xo,xp⟩:=zv.t3
           have qK:=Hx (show((aW t v).take (j+1)).foldl (dL t down ps m v) ls0=dL t down ps m v lq a by
            rw[kQr,ha,kZt,HQ.o];rfl)
           have z6:=Hx qQ
           have x5:=Hx vH
           have HH:=Hx (hh)
           clear ha qQ vH hh zv HQ
           go_wp2_with fail
           refine(lT t AO co AL cl a _ (HT.o.K z6.o.ext) (by omega)).mono ?_
           rintro e w6 ⟨rfl,qt⟩
           rw[HH.o]
           have vh:=Hx (z6.o.K qt)
           have zV:=Hx (x5.o.K qt)
           clear qt z6 x5 i0 i1 i2 zP xo xp xt
           have x4:h<lq.length:=by have:=vh.o.len;omega
           have jZ:(h:Int)<(N:Int):=by omega
           obtain⟨lh,zI⟩:∃lh,lq[h]?=some lh:=⟨_,yG x4⟩
           obtain⟨jz,A2,n2,c2,jG,jH,jJ,jS,jX,⟨y0,y1,y2,y3,y4,y5⟩,ve,yy,zc⟩:=vh.o.lab.at_ zI
           have qy:=Hx (show dL t down ps m v lq a=if lh.done||!cZ t down a m then lq else if !lh.known||cA ps (cX lq v++[a]) lh.arcs then lq.set h ⟨true,false,cX lq v++[a]⟩else lq by
            unfold dL
            rw[HH.o,xL,zI])
           have zh:=Hx zI
           clear zI
           cases hld:lh.done
           case true=>
            rw[hld]at y1
            have hS:=qy.o
            rw[hld]at hS
            simp only[Bool.true_or,if_true]at hS
            have HS:=Hx (qK.o.trans hS)
            have vF:=Hx (show∃l,lq[v]?=some l/\l.done=true/\l.arcs.length+bZ ls0<N from⟨la,vq.o,qY.o,xa⟩)
            clear hS qK qy hld
            go_wp2
            go_roundg (L-(j+1))
            case measure=>omega
            case rel=>exact⟨j+1,rfl,by omega,by go_num,zV.o,by rw[HS.o];exact vh.o,by rw[HS.o];exact zm.o,by rw[HS.o];exact vF.o⟩
           case false=>
            rw[hld]at y1
            have zv:=vh.o.tt
            obtain⟨⟨i0,i1,i2⟩,zP,xo,xp⟩:=zv.t3
            have xz:t.over=[]\/aM t a<t.over.length:=by
             have:=HV.o.1
             unfold aJ cC at this
             simp at this
             rw[HH.o]
             have jM:=HN.o
             rcases this.1.2 with e|e
             ·exact .inl e
             ·right;omega
            have yj:down=[]\/a<down.length:=by
             have:=HV.o.2.1
             unfold dJ at this
             simp at this
             rcases this with e|e
             ·exact .inl e
             ·right;omega
            have yg:=Hx xz
            have yf:=Hx yj
            have xi:=Hx hld
            clear xz yj zv hld
            go_wp2_with fail
            refine(jzhj t AO co AL cl AD cd down a m _ (HT.o.K vh.o.ext) (by omega) (jn.o.K vh.o.ext) hdc hcd yf.o (by rw[HH.o];omega) yg.o).mono ?_
            rintro e w7 ⟨rfl,zt⟩
            have q7:=Hx (vh.o.K zt)
            have zX:=Hx (zV.o.K zt)
            have zY:=Hx (ve.K zt)
            have jq:=Hx (zc.K zt)
            clear zt vh zV i0 i1 i2 zP xo xp yg yf y0 y1 y2 y3 y4 y5 ve zc
            cases hus:cZ t down a m
            case false=>
             have hS:=qy.o
             rw[hus]at hS
             simp only[Bool.not_false,Bool.or_true,if_true]at hS
             have HS:=Hx (qK.o.trans hS)
             have vF:=Hx (show∃l,lq[v]?=some l/\l.done=true/\l.arcs.length+bZ ls0<N from⟨la,vq.o,qY.o,xa⟩)
             clear hS qK qy hus
             go_wp2
             go_roundg (L-(j+1))
             case measure=>omega
             case rel=>exact⟨j+1,rfl,by omega,by go_num,zX.o,by rw[HS.o];exact q7.o,by rw[HS.o];exact zm.o,by rw[HS.o];exact vF.o⟩
            case true=>
             have hS:=qy.o
             rw[hus,xi.o]at hS
             simp only[Bool.not_true,Bool.or_false,kZq,if_false]at hS
             have HS:=Hx (qK.o.trans hS)
             have ze:=Hx qK.o
             clear hS qK qy hus
             go_upto_region 20 with fail
             obtain⟨qT,Av,nv,cv,vK,v0,vU,vL,vZ,⟨yu,jl,qF,qC,qG,qI⟩,zU,yw,yh⟩:=q7.o.lab.at_ vq.o
             obtain⟨qa,zC⟩:∃qa,ps[a]?=some qa:=⟨_,yG jB⟩
             obtain⟨bp,op,qR,Ap,np,vR,v4,vJ,vV,rfl,qi,qE,qH,qD,xg⟩:=(ym.o.K q7.o.ext).at_ zC
             have zo:=Hx (show ps[a]?.getD 0=qa by rw[zC];rfl)
             have qg:=q7.o.lab.lt
             have zd:SzQ (prQ ps la.arcs) 134217728:=(SzQ.pr hP zg.o la.arcs).mono (by
              have h2:la.arcs.length*(P+1)<=64*1000001:=kQq (by omega) (by omega)
              omega)
             have qJ:=zU.lens zd
             have q5:=xg.lens ((zg.o qa (yJ zC)).mono (show P<=134217728 by omega))
             have vY:=Hx zU
             have vW:=Hx xg
             have vT:=Hx yh
             have jd:la.arcs.length<=64:=by omega
             obtain⟨ti,hi,qX,q4,qV⟩:=info_parts Tryz.info3
             have zT:=Hx xa
             clear zC zU xg yh zd yu jl
             obtain⟨W,xr⟩:∃W,W=w7:=⟨_,rfl⟩
             have q7:=Hx (xr▸q7.o)
             subst xr
             go_cut [20] (tO W ps (la.arcs++[a]))
             case first=>
              have c2:=qF
              have c3:=qC
              have c4:=qG
              have c5:=qI
              have p0:=qE
              have p1:=qH
              have p2:=qD
              have jN:(0:Int)<=(a:Int):=by omega
              have jT:(a:Int)<(ps.length:Int):=by omega
              have xn:=Hx (show Ext W W.drew from((eR W)).drewN 1)
              have zK:=Hx (show Ext W (W.alloc (.cells #[vI (a:Int)] 3)).drew from((eR W).alloc _).drewN 1)
              have zM:=Hx (show Ext W (W.alloc (.cells #[.bool false,.bool false,.bool false,zN,zN,zN] 216)).drew from((eR W).alloc _).drewN 1)
              have vG:=Hx (show Ext W ((W.alloc (.cells #[vI (a:Int)] 3)).alloc (.cells #[.bool false,.bool false,.bool false,zN,zN,zN] 216)).drew from(((eR W).alloc _).alloc _).drewN 1)
              have vl:=Hx (show Ext W ((W.alloc (.cells #[.bool false,.bool false,.bool false,zN,zN,zN] 216)).alloc (.cells #[vI (a:Int)] 3)).drew from(((eR W).alloc _).alloc _).drewN 1)
              go_region_held3 (fun w'=>w'.cell? (aD g (v*6+2))=some (.bool qT)/\w'.cell? (aD g (v*6+3))=some (.s Av nv cv)/\w'.cell? (aD g (v*6+4))=some (.s vK v0 vU)/\w'.cell? (aD g (v*6+5))=some (.s vL la.arcs.length vZ)/\w'.cell? (aD bp (op+a*3))=some (.bool qR)/\w'.cell? (aD bp (op+a*3+1))=some (.s Ap np vR)/\w'.cell? (aD bp (op+a*3+2))=some (.s v4 vJ vV))
              (first|with_reducible exact⟨c2,c3,c4,c5,p0,p1,p2⟩|with_reducible exact⟨aH c2 _,aH c3 _,aH c4 _,aH c5 _,aH p0 _,aH p1 _,aH p2 _⟩|with_reducible exact⟨aH (aH c2 _) _,aH (aH c3 _) _,aH (aH c4 _) _,aH (aH c5 _) _,aH (aH p0 _) _,aH (aH p1 _) _,aH (aH p2 _) _⟩|with_reducible exact⟨cS c2,cS c3,cS c4,cS c5,cS p0,cS p1,cS p2⟩|with_reducible exact⟨cS (aH c2 _),cS (aH c3 _),cS (aH c4 _),cS (aH c5 _),cS (aH p0 _),cS (aH p1 _),cS (aH p2 _)⟩|with_reducible exact⟨cS (aH (aH c2 _) _),cS (aH (aH c3 _) _),cS (aH (aH c4 _) _),cS (aH (aH c5 _) _),cS (aH (aH p0 _) _),cS (aH (aH p1 _) _),cS (aH (aH p2 _) _)⟩|with_reducible exact⟨(aB (aB (aB (aB (aB (aB c2 (kQb (yL qg qk))) (kQb (yL qg qk))) (kQb (yL qg qk))) (kQb (yL qg qk))) (kQb (yL qg qk))) (kQb (yL qg qk))),(aB (aB (aB (aB (aB (aB c3 (kQb (yL qg qk))) (kQb (yL qg qk))) (kQb (yL qg qk))) (kQb (yL qg qk))) (kQb (yL qg qk))) (kQb (yL qg qk))),(aB (aB (aB (aB (aB (aB c4 (kQb (yL qg qk))) (kQb (yL qg qk))) (kQb (yL qg qk))) (kQb (yL qg qk))) (kQb (yL qg qk))) (kQb (yL qg qk))),(aB (aB (aB (aB (aB (aB c5 (kQb (yL qg qk))) (kQb (yL qg qk))) (kQb (yL qg qk))) (kQb (yL qg qk))) (kQb (yL qg qk))) (kQb (yL qg qk))),(aB (aB (aB (aB (aB (aB p0 (kQb (yL qi qk))) (kQb (yL qi qk))) (kQb (yL qi qk))) (kQb (yL qi qk))) (kQb (yL qi qk))) (kQb (yL qi qk))),(aB (aB (aB (aB (aB (aB p1 (kQb (yL qi qk))) (kQb (yL qi qk))) (kQb (yL qi qk))) (kQb (yL qi qk))) (kQb (yL qi qk))) (kQb (yL qi qk))),(aB (aB (aB (aB (aB (aB p2 (kQb (yL qi qk))) (kQb (yL qi qk))) (kQb (yL qi qk))) (kQb (yL qi qk))) (kQb (yL qi qk))) (kQb (yL qi qk)))⟩|fail "none")
              (first
              |(rw[if_pos (by rfl)]
                first
                |refine fP _ (.tmp 117) (.tmp 119) 44 (by rfl) W.heap.size 3 ti (vI 0) 8 Tryz.underlying44 hi qX q4 qV rfl v6 la.arcs.length (ints la.arcs) (by rfl) (by with_reducible exact O6.o.kept (bO ((eR qf))) (bP _)) (sA W.heap.size) 1 1 [vI (a:Int)] (by rfl) rfl (by with_reducible exact gA (SB.o.K ((eR qf)))) (fun h=>by cases h) (fun u hu=>by simp at hu;subst hu;rfl) (by unfold maxLen;omega) (by omega) (by with_reducible exact(X6.o.tr ((eR qf))).size) ?_
                |refine fP _ (.tmp 117) (.tmp 119) 44 (by rfl) W.heap.size 3 ti (vI 0) 8 Tryz.underlying44 hi qX q4 qV rfl v6 la.arcs.length (ints la.arcs) (by rfl) (by with_reducible exact O6.o.kept (bO ((eR qf))) (bP _)) (sA (W.heap.size+1)) 1 1 [vI (a:Int)] (by rfl) rfl (by with_reducible exact gA (SB.o.K ((eR qf)))) (fun h=>by cases h) (fun u hu=>by simp at hu;subst hu;rfl) (by unfold maxLen;omega) (by omega) (by with_reducible exact(X6.o.tr ((eR qf))).size) ?_
                |refine fP _ (.tmp 117) (.tmp 119) 44 (by rfl) W.heap.size 3 ti (vI 0) 8 Tryz.underlying44 hi qX q4 qV rfl v6 la.arcs.length (ints la.arcs) (by rfl) (by with_reducible exact O6.o.kept (bO ((eR qf))) (bP _)) (sA w5.heap.size) 1 1 [vI (a:Int)] (by rfl) rfl (by with_reducible exact gA (SB.o.K ((eR qf)))) (fun h=>by cases h) (fun u hu=>by simp at hu;subst hu;rfl) (by unfold maxLen;omega) (by omega) (by with_reducible exact(X6.o.tr ((eR qf))).size) ?_
                |refine fP _ (.tmp 117) (.tmp 119) 44 (by rfl) W.heap.size 3 ti (vI 0) 8 Tryz.underlying44 hi qX q4 qV rfl v6 la.arcs.length (ints la.arcs) (by rfl) (by with_reducible exact O6.o.kept (bO ((eR qf))) (bP _)) (sA (w5.heap.size+1)) 1 1 [vI (a:Int)] (by rfl) rfl (by with_reducible exact gA (SB.o.K ((eR qf)))) (fun h=>by cases h) (fun u hu=>by simp at hu;subst hu;rfl) (by unfold maxLen;omega) (by omega) (by with_reducible exact(X6.o.tr ((eR qf))).size) ?_
                intro v8 w8 qj qe _
                obtain⟨g8,c8,rfl,qO⟩:=mR qj
                have qz:∀k,v6.ownBlock=some k->∃cs fr,(qf).heap[k]?=some (.cells cs 3 fr):=fun k hk=>Lib.ownsRow_kind (O6.o.kept (bO ((eR qf))) (bP _)) k hk
                have X8:=Hx (show Ext W w8 from Below.grown (X6.o.tr ((eR qf))) qe (X6.o.tr ((eR qf))).size (fun k hk=>(O6.o.lt k hk).1))
                have R8:=Hx ((R6.o.K ((eR qf))).gK qe qz (by decide))
                have qB:=nC qj
                have qo:(la.arcs++[a]).length=la.arcs.length+1:=by simp
                have qZ:=Hx (nD (W:=W) (ps:=ps) (arcs:=la.arcs++[a]) (k:=la.arcs.length+1) (cx:=c8) qo R8.o (by rw[qo];exact qO) qB X8.o)
                first
                 |(have qh:=Hx (Blk.gK (SL.o.K ((eR qf))) qe qz (by decide))
                   have qk:=vu.o
                   have q3:=Hx (nE (W:=W) (ps:=ps) (arcs:=la.arcs++[a]) (k:=la.arcs.length+1) (cx:=c8) qo qh.o R8.o (by rw[qo];exact qO) qB qk X8.o)
                   have l0:=qh.o.cell 0
                   have zA:=qh.o.frozen 0
                   have l1:=qh.o.cell 1
                   have zF:=qh.o.frozen 1
                   have l2:=qh.o.cell 2
                   have zx:=qh.o.frozen 2
                   have l3:=qh.o.cell 3
                   have zD:=qh.o.frozen 3
                   have l4:=qh.o.cell 4
                   have zG:=qh.o.frozen 4
                   have l5:=qh.o.cell 5
                   have zE:=qh.o.frozen 5)
                 |skip
                have c2:=(X8.o.cell (p:=(aD g (v*6+2))) qg).trans qF
                have c3:=(X8.o.cell (p:=(aD g (v*6+3))) qg).trans qC
                have c4:=(X8.o.cell (p:=(aD g (v*6+4))) qg).trans qG
                have c5:=(X8.o.cell (p:=(aD g (v*6+5))) qg).trans qI
                have p0:=(X8.o.cell (p:=(aD bp (op+a*3))) qi).trans qE
                have p1:=(X8.o.cell (p:=(aD bp (op+a*3+1))) qi).trans qH
                have p2:=(X8.o.cell (p:=(aD bp (op+a*3+2))) qi).trans qD
                clear qj qe qz qB)
              |(rw[if_pos (by rfl)]
                refine fP _ (.tmp 117) (.tmp 119) 44 (by rfl) W.heap.size 3 ti (vI 0) 8 Tryz.underlying44 hi qX q4 qV rfl v6 la.arcs.length (ints la.arcs) (by rfl) (by with_reducible exact O6.o.kept (bO ((eR qf).alloc (.cells #[vI (a:Int)] 3))) (bP _)) (sA qf.heap.size) 1 1 [vI (a:Int)] (by rfl) rfl (by with_reducible exact gA (show Blk (qf.alloc (.cells #[vI (a:Int)] 3)) (qf.heap.size) 3 #[vI (a:Int)]from eN qf 3 #[vI (a:Int)])) (fun h=>by cases h) (fun u hu=>by simp at hu;subst hu;rfl) (by unfold maxLen;omega) (by omega) (by with_reducible exact(X6.o.tr ((eR qf).alloc (.cells #[vI (a:Int)] 3))).size) ?_
                intro v8 w8 qj qe _
                obtain⟨g8,c8,rfl,qO⟩:=mR qj
                have qz:∀k,v6.ownBlock=some k->∃cs fr,((qf.alloc (.cells #[vI (a:Int)] 3))).heap[k]?=some (.cells cs 3 fr):=fun k hk=>Lib.ownsRow_kind (O6.o.kept (bO ((eR qf).alloc (.cells #[vI (a:Int)] 3))) (bP _)) k hk
                have X8:=Hx (show Ext W w8 from Below.grown (X6.o.tr ((eR qf).alloc (.cells #[vI (a:Int)] 3))) qe (X6.o.tr ((eR qf).alloc (.cells #[vI (a:Int)] 3))).size (fun k hk=>(O6.o.lt k hk).1))
                have R8:=Hx ((R6.o.K ((eR qf).alloc (.cells #[vI (a:Int)] 3))).gK qe qz (by decide))
                have qB:=nC qj
                have qo:(la.arcs++[a]).length=la.arcs.length+1:=by simp
                have qZ:=Hx (nD (W:=W) (ps:=ps) (arcs:=la.arcs++[a]) (k:=la.arcs.length+1) (cx:=c8) qo R8.o (by rw[qo];exact qO) qB X8.o)
                first
                 |(have qh:=Hx (Blk.gK (SL.o.K ((eR qf).alloc (.cells #[vI (a:Int)] 3))) qe qz (by decide))
                   have qk:=vu.o
                   have q3:=Hx (nE (W:=W) (ps:=ps) (arcs:=la.arcs++[a]) (k:=la.arcs.length+1) (cx:=c8) qo qh.o R8.o (by rw[qo];exact qO) qB qk X8.o)
                   have l0:=qh.o.cell 0
                   have zA:=qh.o.frozen 0
                   have l1:=qh.o.cell 1
                   have zF:=qh.o.frozen 1
                   have l2:=qh.o.cell 2
                   have zx:=qh.o.frozen 2
                   have l3:=qh.o.cell 3
                   have zD:=qh.o.frozen 3
                   have l4:=qh.o.cell 4
                   have zG:=qh.o.frozen 4
                   have l5:=qh.o.cell 5
                   have zE:=qh.o.frozen 5)
                 |skip
                have c2:=(X8.o.cell (p:=(aD g (v*6+2))) qg).trans qF
                have c3:=(X8.o.cell (p:=(aD g (v*6+3))) qg).trans qC
                have c4:=(X8.o.cell (p:=(aD g (v*6+4))) qg).trans qG
                have c5:=(X8.o.cell (p:=(aD g (v*6+5))) qg).trans qI
                have p0:=(X8.o.cell (p:=(aD bp (op+a*3))) qi).trans qE
                have p1:=(X8.o.cell (p:=(aD bp (op+a*3+1))) qi).trans qH
                have p2:=(X8.o.cell (p:=(aD bp (op+a*3+2))) qi).trans qD
                clear qj qe qz qB)
              |(rw[if_pos (by rfl)]
                first
                |refine fP _ (.tmp 117) (.tmp 119) 44 (by rfl) W.heap.size 3 ti (vI 0) 8 Tryz.underlying44 hi qX q4 qV rfl v6 la.arcs.length (ints la.arcs) (by rfl) (by with_reducible exact O6.o.kept (bO ((eR qf).alloc (.cells #[.bool false,.bool false,.bool false,zN,zN,zN] 216))) (bP _)) (sA W.heap.size) 1 1 [vI (a:Int)] (by rfl) rfl (by with_reducible exact gA (SB.o.K ((eR qf).alloc (.cells #[.bool false,.bool false,.bool false,zN,zN,zN] 216)))) (fun h=>by cases h) (fun u hu=>by simp at hu;subst hu;rfl) (by unfold maxLen;omega) (by omega) (by with_reducible exact(X6.o.tr ((eR qf).alloc (.cells #[.bool false,.bool false,.bool false,zN,zN,zN] 216))).size) ?_
                |refine fP _ (.tmp 117) (.tmp 119) 44 (by rfl) W.heap.size 3 ti (vI 0) 8 Tryz.underlying44 hi qX q4 qV rfl v6 la.arcs.length (ints la.arcs) (by rfl) (by with_reducible exact O6.o.kept (bO ((eR qf).alloc (.cells #[.bool false,.bool false,.bool false,zN,zN,zN] 216))) (bP _)) (sA (W.heap.size+1)) 1 1 [vI (a:Int)] (by rfl) rfl (by with_reducible exact gA (SB.o.K ((eR qf).alloc (.cells #[.bool false,.bool false,.bool false,zN,zN,zN] 216)))) (fun h=>by cases h) (fun u hu=>by simp at hu;subst hu;rfl) (by unfold maxLen;omega) (by omega) (by with_reducible exact(X6.o.tr ((eR qf).alloc (.cells #[.bool false,.bool false,.bool false,zN,zN,zN] 216))).size) ?_
                |refine fP _ (.tmp 117) (.tmp 119) 44 (by rfl) W.heap.size 3 ti (vI 0) 8 Tryz.underlying44 hi qX q4 qV rfl v6 la.arcs.length (ints la.arcs) (by rfl) (by with_reducible exact O6.o.kept (bO ((eR qf).alloc (.cells #[.bool false,.bool false,.bool false,zN,zN,zN] 216))) (bP _)) (sA w5.heap.size) 1 1 [vI (a:Int)] (by rfl) rfl (by with_reducible exact gA (SB.o.K ((eR qf).alloc (.cells #[.bool false,.bool false,.bool false,zN,zN,zN] 216)))) (fun h=>by cases h) (fun u hu=>by simp at hu;subst hu;rfl) (by unfold maxLen;omega) (by omega) (by with_reducible exact(X6.o.tr ((eR qf).alloc (.cells #[.bool false,.bool false,.bool false,zN,zN,zN] 216))).size) ?_
                |refine fP _ (.tmp 117) (.tmp 119) 44 (by rfl) W.heap.size 3 ti (vI 0) 8 Tryz.underlying44 hi qX q4 qV rfl v6 la.arcs.length (ints la.arcs) (by rfl) (by with_reducible exact O6.o.kept (bO ((eR qf).alloc (.cells #[.bool false,.bool false,.bool false,zN,zN,zN] 216))) (bP _)) (sA (w5.heap.size+1)) 1 1 [vI (a:Int)] (by rfl) rfl (by with_reducible exact gA (SB.o.K ((eR qf).alloc (.cells #[.bool false,.bool false,.bool false,zN,zN,zN] 216)))) (fun h=>by cases h) (fun u hu=>by simp at hu;subst hu;rfl) (by unfold maxLen;omega) (by omega) (by with_reducible exact(X6.o.tr ((eR qf).alloc (.cells #[.bool false,.bool false,.bool false,zN,zN,zN] 216))).size) ?_
                intro v8 w8 qj qe _
                obtain⟨g8,c8,rfl,qO⟩:=mR qj
                have qz:∀k,v6.ownBlock=some k->∃cs fr,((qf.alloc (.cells #[.bool false,.bool false,.bool false,zN,zN,zN] 216))).heap[k]?=some (.cells cs 3 fr):=fun k hk=>Lib.ownsRow_kind (O6.o.kept (bO ((eR qf).alloc (.cells #[.bool false,.bool false,.bool false,zN,zN,zN] 216))) (bP _)) k hk
                have X8:=Hx (show Ext W w8 from Below.grown (X6.o.tr ((eR qf).alloc (.cells #[.bool false,.bool false,.bool false,zN,zN,zN] 216))) qe (X6.o.tr ((eR qf).alloc (.cells #[.bool false,.bool false,.bool false,zN,zN,zN] 216))).size (fun k hk=>(O6.o.lt k hk).1))
                have R8:=Hx ((R6.o.K ((eR qf).alloc (.cells #[.bool false,.bool false,.bool false,zN,zN,zN] 216))).gK qe qz (by decide))
                have qB:=nC qj
                have qo:(la.arcs++[a]).length=la.arcs.length+1:=by simp
                have qZ:=Hx (nD (W:=W) (ps:=ps) (arcs:=la.arcs++[a]) (k:=la.arcs.length+1) (cx:=c8) qo R8.o (by rw[qo];exact qO) qB X8.o)
                have qh:=Hx (Blk.gK (show Blk (qf.alloc (.cells #[.bool false,.bool false,.bool false,zN,zN,zN] 216)) (qf.heap.size) 216 #[.bool false,.bool false,.bool false,zN,zN,zN]from eN qf 216 #[.bool false,.bool false,.bool false,zN,zN,zN]) qe qz (by decide))
                have qk:W.heap.size<=qf.heap.size:=by have:=X6.o.size;omega
                have q3:=Hx (nE (W:=W) (ps:=ps) (arcs:=la.arcs++[a]) (k:=la.arcs.length+1) (cx:=c8) qo qh.o R8.o (by rw[qo];exact qO) qB qk X8.o)
                have l0:=qh.o.cell 0
                have l1:=qh.o.cell 1
                have l2:=qh.o.cell 2
                have l3:=qh.o.cell 3
                have l4:=qh.o.cell 4
                have l5:=qh.o.cell 5
                have zA:=qh.o.frozen 0
                have zF:=qh.o.frozen 1
                have zx:=qh.o.frozen 2
                have zD:=qh.o.frozen 3
                have zG:=qh.o.frozen 4
                have zE:=qh.o.frozen 5
                have c2:=(X8.o.cell (p:=(aD g (v*6+2))) qg).trans qF
                have c3:=(X8.o.cell (p:=(aD g (v*6+3))) qg).trans qC
                have c4:=(X8.o.cell (p:=(aD g (v*6+4))) qg).trans qG
                have c5:=(X8.o.cell (p:=(aD g (v*6+5))) qg).trans qI
                have p0:=(X8.o.cell (p:=(aD bp (op+a*3))) qi).trans qE
                have p1:=(X8.o.cell (p:=(aD bp (op+a*3+1))) qi).trans qH
                have p2:=(X8.o.cell (p:=(aD bp (op+a*3+2))) qi).trans qD
                clear qj qe qz qB)
              |(rw[if_pos (by rfl)]
                refine fP _ (.tmp 117) (.tmp 119) 44 (by rfl) W.heap.size 3 ti (vI 0) 8 Tryz.underlying44 hi qX q4 qV rfl v6 la.arcs.length (ints la.arcs) (by rfl) (by with_reducible exact O6.o.kept (bO (((eR qf).alloc (.cells #[vI (a:Int)] 3)).alloc (.cells #[.bool false,.bool false,.bool false,zN,zN,zN] 216))) (bP _)) (sA qf.heap.size) 1 1 [vI (a:Int)] (by rfl) rfl (by with_reducible exact gA (show Blk ((qf.alloc (.cells #[vI (a:Int)] 3)).alloc (.cells #[.bool false,.bool false,.bool false,zN,zN,zN] 216)) (qf.heap.size) 3 #[vI (a:Int)]from(eN qf 3 #[vI (a:Int)]).alloc (.cells #[.bool false,.bool false,.bool false,zN,zN,zN] 216))) (fun h=>by cases h) (fun u hu=>by simp at hu;subst hu;rfl) (by unfold maxLen;omega) (by omega) (by with_reducible exact(X6.o.tr (((eR qf).alloc (.cells #[vI (a:Int)] 3)).alloc (.cells #[.bool false,.bool false,.bool false,zN,zN,zN] 216))).size) ?_
                intro v8 w8 qj qe _
                obtain⟨g8,c8,rfl,qO⟩:=mR qj
                have qz:∀k,v6.ownBlock=some k->∃cs fr,(((qf.alloc (.cells #[vI (a:Int)] 3)).alloc (.cells #[.bool false,.bool false,.bool false,zN,zN,zN] 216))).heap[k]?=some (.cells cs 3 fr):=fun k hk=>Lib.ownsRow_kind (O6.o.kept (bO (((eR qf).alloc (.cells #[vI (a:Int)] 3)).alloc (.cells #[.bool false,.bool false,.bool false,zN,zN,zN] 216))) (bP _)) k hk
                have X8:=Hx (show Ext W w8 from Below.grown (X6.o.tr (((eR qf).alloc (.cells #[vI (a:Int)] 3)).alloc (.cells #[.bool false,.bool false,.bool false,zN,zN,zN] 216))) qe (X6.o.tr (((eR qf).alloc (.cells #[vI (a:Int)] 3)).alloc (.cells #[.bool false,.bool false,.bool false,zN,zN,zN] 216))).size (fun k hk=>(O6.o.lt k hk).1))
                have R8:=Hx ((R6.o.K (((eR qf).alloc (.cells #[vI (a:Int)] 3)).alloc (.cells #[.bool false,.bool false,.bool false,zN,zN,zN] 216))).gK qe qz (by decide))
                have qB:=nC qj
                have qo:(la.arcs++[a]).length=la.arcs.length+1:=by simp
                have qZ:=Hx (nD (W:=W) (ps:=ps) (arcs:=la.arcs++[a]) (k:=la.arcs.length+1) (cx:=c8) qo R8.o (by rw[qo];exact qO) qB X8.o)
                have qh:=Hx (Blk.gK (show Blk ((qf.alloc (.cells #[vI (a:Int)] 3)).alloc (.cells #[.bool false,.bool false,.bool false,zN,zN,zN] 216)) (qf.heap.size+1) 216 #[.bool false,.bool false,.bool false,zN,zN,zN]from Blk.new' (g:=qf.heap.size+1) (qf.alloc (.cells #[vI (a:Int)] 3)) 216 #[.bool false,.bool false,.bool false,zN,zN,zN] (by simp)) qe qz (by decide))
                have qk:W.heap.size<=qf.heap.size+1:=by have:=X6.o.size;omega
                have q3:=Hx (nE (W:=W) (ps:=ps) (arcs:=la.arcs++[a]) (k:=la.arcs.length+1) (cx:=c8) qo qh.o R8.o (by rw[qo];exact qO) qB qk X8.o)
                have l0:=qh.o.cell 0
                have l1:=qh.o.cell 1
                have l2:=qh.o.cell 2
                have l3:=qh.o.cell 3
                have l4:=qh.o.cell 4
                have l5:=qh.o.cell 5
                have zA:=qh.o.frozen 0
                have zF:=qh.o.frozen 1
                have zx:=qh.o.frozen 2
                have zD:=qh.o.frozen 3
                have zG:=qh.o.frozen 4
                have zE:=qh.o.frozen 5
                have c2:=(X8.o.cell (p:=(aD g (v*6+2))) qg).trans qF
                have c3:=(X8.o.cell (p:=(aD g (v*6+3))) qg).trans qC
                have c4:=(X8.o.cell (p:=(aD g (v*6+4))) qg).trans qG
                have c5:=(X8.o.cell (p:=(aD g (v*6+5))) qg).trans qI
                have p0:=(X8.o.cell (p:=(aD bp (op+a*3))) qi).trans qE
                have p1:=(X8.o.cell (p:=(aD bp (op+a*3+1))) qi).trans qH
                have p2:=(X8.o.cell (p:=(aD bp (op+a*3+2))) qi).trans qD
                clear qj qe qz qB)
              |(rw[if_pos (by rfl)]
                refine fP _ (.tmp 117) (.tmp 119) 44 (by rfl) W.heap.size 3 ti (vI 0) 8 Tryz.underlying44 hi qX q4 qV rfl v6 la.arcs.length (ints la.arcs) (by rfl) (by with_reducible exact O6.o.kept (bO (((eR qf).alloc (.cells #[.bool false,.bool false,.bool false,zN,zN,zN] 216)).alloc (.cells #[vI (a:Int)] 3))) (bP _)) (sA (qf.heap.size+1)) 1 1 [vI (a:Int)] (by rfl) rfl (by with_reducible exact gA (show Blk ((qf.alloc (.cells #[.bool false,.bool false,.bool false,zN,zN,zN] 216)).alloc (.cells #[vI (a:Int)] 3)) (qf.heap.size+1) 3 #[vI (a:Int)]from Blk.new' (g:=qf.heap.size+1) (qf.alloc (.cells #[.bool false,.bool false,.bool false,zN,zN,zN] 216)) 3 #[vI (a:Int)] (by simp))) (fun h=>by cases h) (fun u hu=>by simp at hu;subst hu;rfl) (by unfold maxLen;omega) (by omega) (by with_reducible exact(X6.o.tr (((eR qf).alloc (.cells #[.bool false,.bool false,.bool false,zN,zN,zN] 216)).alloc (.cells #[vI (a:Int)] 3))).size) ?_
                intro v8 w8 qj qe _
                obtain⟨g8,c8,rfl,qO⟩:=mR qj
                have qz:∀k,v6.ownBlock=some k->∃cs fr,(((qf.alloc (.cells #[.bool false,.bool false,.bool false,zN,zN,zN] 216)).alloc (.cells #[vI (a:Int)] 3))).heap[k]?=some (.cells cs 3 fr):=fun k hk=>Lib.ownsRow_kind (O6.o.kept (bO (((eR qf).alloc (.cells #[.bool false,.bool false,.bool false,zN,zN,zN] 216)).alloc (.cells #[vI (a:Int)] 3))) (bP _)) k hk
                have X8:=Hx (show Ext W w8 from Below.grown (X6.o.tr (((eR qf).alloc (.cells #[.bool false,.bool false,.bool false,zN,zN,zN] 216)).alloc (.cells #[vI (a:Int)] 3))) qe (X6.o.tr (((eR qf).alloc (.cells #[.bool false,.bool false,.bool false,zN,zN,zN] 216)).alloc (.cells #[vI (a:Int)] 3))).size (fun k hk=>(O6.o.lt k hk).1))
                have R8:=Hx ((R6.o.K (((eR qf).alloc (.cells #[.bool false,.bool false,.bool false,zN,zN,zN] 216)).alloc (.cells #[vI (a:Int)] 3))).gK qe qz (by decide))
                have qB:=nC qj
                have qo:(la.arcs++[a]).length=la.arcs.length+1:=by simp
                have qZ:=Hx (nD (W:=W) (ps:=ps) (arcs:=la.arcs++[a]) (k:=la.arcs.length+1) (cx:=c8) qo R8.o (by rw[qo];exact qO) qB X8.o)
                have qh:=Hx (Blk.gK (show Blk ((qf.alloc (.cells #[.bool false,.bool false,.bool false,zN,zN,zN] 216)).alloc (.cells #[vI (a:Int)] 3)) (qf.heap.size) 216 #[.bool false,.bool false,.bool false,zN,zN,zN]from(eN qf 216 #[.bool false,.bool false,.bool false,zN,zN,zN]).alloc (.cells #[vI (a:Int)] 3)) qe qz (by decide))
                have qk:W.heap.size<=qf.heap.size:=by have:=X6.o.size;omega
                have q3:=Hx (nE (W:=W) (ps:=ps) (arcs:=la.arcs++[a]) (k:=la.arcs.length+1) (cx:=c8) qo qh.o R8.o (by rw[qo];exact qO) qB qk X8.o)
                have l0:=qh.o.cell 0
                have l1:=qh.o.cell 1
                have l2:=qh.o.cell 2
                have l3:=qh.o.cell 3
                have l4:=qh.o.cell 4
                have l5:=qh.o.cell 5
                have zA:=qh.o.frozen 0
                have zF:=qh.o.frozen 1
                have zx:=qh.o.frozen 2
                have zD:=qh.o.frozen 3
                have zG:=qh.o.frozen 4
                have zE:=qh.o.frozen 5
                have c2:=(X8.o.cell (p:=(aD g (v*6+2))) qg).trans qF
                have c3:=(X8.o.cell (p:=(aD g (v*6+3))) qg).trans qC
                have c4:=(X8.o.cell (p:=(aD g (v*6+4))) qg).trans qG
                have c5:=(X8.o.cell (p:=(aD g (v*6+5))) qg).trans qI
                have p0:=(X8.o.cell (p:=(aD bp (op+a*3))) qi).trans qE
                have p1:=(X8.o.cell (p:=(aD bp (op+a*3+1))) qi).trans qH
                have p2:=(X8.o.cell (p:=(aD bp (op+a*3+2))) qi).trans qD
                clear qj qe qz qB)
              |(go_at_call 70
                refine(lY vL vZ la.arcs _ (by with_reducible exact vT.o.K (X5.o.tr ((eR w5)))) (by omega)).mono ?_
                rintro e qf ⟨v6,rfl,qm,qt⟩
                have E6:=Hx (Ext.tr ((eR w5)) qt)
                have X6:=Hx (X5.o.tr E6.o)
                have R6:=Hx (R5.o.K E6.o)
                have O6:=Hx (show qf.ownsRow W.heap.size 3 1 v6 la.arcs.length (ints la.arcs)from qm.mono (X5.o.tr ((eR w5))).size)
                first|(have SB:=Hx (SB.o.K E6.o))|skip
                first|(have SL:=Hx (SL.o.K E6.o))|skip
                have c2:=(X6.o.cell (p:=(aD g (v*6+2))) qg).trans qF
                have c3:=(X6.o.cell (p:=(aD g (v*6+3))) qg).trans qC
                have c4:=(X6.o.cell (p:=(aD g (v*6+4))) qg).trans qG
                have c5:=(X6.o.cell (p:=(aD g (v*6+5))) qg).trans qI
                have p0:=(X6.o.cell (p:=(aD bp (op+a*3))) qi).trans qE
                have p1:=(X6.o.cell (p:=(aD bp (op+a*3+1))) qi).trans qH
                have p2:=(X6.o.cell (p:=(aD bp (op+a*3+2))) qi).trans qD
                clear qm qt)
              |(go_at_call 70
                refine(lY vL vZ la.arcs _ (by with_reducible exact vT.o.K (X5.o.tr ((eR w5).alloc (.cells #[vI (a:Int)] 3)))) (by omega)).mono ?_
                rintro e qf ⟨v6,rfl,qm,qt⟩
                have E6:=Hx (Ext.tr ((eR w5).alloc (.cells #[vI (a:Int)] 3)) qt)
                have X6:=Hx (X5.o.tr E6.o)
                have R6:=Hx (R5.o.K E6.o)
                have O6:=Hx (show qf.ownsRow W.heap.size 3 1 v6 la.arcs.length (ints la.arcs)from qm.mono (X5.o.tr ((eR w5).alloc (.cells #[vI (a:Int)] 3))).size)
                have SB:=Hx (Blk.K (show Blk (w5.alloc (.cells #[vI (a:Int)] 3)) (w5.heap.size) 3 #[vI (a:Int)]from eN w5 3 #[vI (a:Int)]) qt)
                first|(have SL:=Hx (SL.o.K E6.o))|skip
                have c2:=(X6.o.cell (p:=(aD g (v*6+2))) qg).trans qF
                have c3:=(X6.o.cell (p:=(aD g (v*6+3))) qg).trans qC
                have c4:=(X6.o.cell (p:=(aD g (v*6+4))) qg).trans qG
                have c5:=(X6.o.cell (p:=(aD g (v*6+5))) qg).trans qI
                have p0:=(X6.o.cell (p:=(aD bp (op+a*3))) qi).trans qE
                have p1:=(X6.o.cell (p:=(aD bp (op+a*3+1))) qi).trans qH
                have p2:=(X6.o.cell (p:=(aD bp (op+a*3+2))) qi).trans qD
                clear qm qt)
              |(go_at_call 70
                refine(lY vL vZ la.arcs _ (by with_reducible exact vT.o.K (X5.o.tr ((eR w5).alloc (.cells #[.bool false,.bool false,.bool false,zN,zN,zN] 216)))) (by omega)).mono ?_
                rintro e qf ⟨v6,rfl,qm,qt⟩
                have E6:=Hx (Ext.tr ((eR w5).alloc (.cells #[.bool false,.bool false,.bool false,zN,zN,zN] 216)) qt)
                have X6:=Hx (X5.o.tr E6.o)
                have R6:=Hx (R5.o.K E6.o)
                have O6:=Hx (show qf.ownsRow W.heap.size 3 1 v6 la.arcs.length (ints la.arcs)from qm.mono (X5.o.tr ((eR w5).alloc (.cells #[.bool false,.bool false,.bool false,zN,zN,zN] 216))).size)
                first|(have SB:=Hx (SB.o.K E6.o))|skip
                have SL:=Hx (Blk.K (show Blk (w5.alloc (.cells #[.bool false,.bool false,.bool false,zN,zN,zN] 216)) (w5.heap.size) 216 #[.bool false,.bool false,.bool false,zN,zN,zN]from eN w5 216 #[.bool false,.bool false,.bool false,zN,zN,zN]) qt)
                have vu:=Hx (show W.heap.size<=w5.heap.size by have:=X5.o.size;omega)
                have c2:=(X6.o.cell (p:=(aD g (v*6+2))) qg).trans qF
                have c3:=(X6.o.cell (p:=(aD g (v*6+3))) qg).trans qC
                have c4:=(X6.o.cell (p:=(aD g (v*6+4))) qg).trans qG
                have c5:=(X6.o.cell (p:=(aD g (v*6+5))) qg).trans qI
                have p0:=(X6.o.cell (p:=(aD bp (op+a*3))) qi).trans qE
                have p1:=(X6.o.cell (p:=(aD bp (op+a*3+1))) qi).trans qH
                have p2:=(X6.o.cell (p:=(aD bp (op+a*3+2))) qi).trans qD
                clear qm qt)
              |(go_at_call 70
                refine(lY vL vZ la.arcs _ (by with_reducible exact vT.o.K (X5.o.tr (((eR w5).alloc (.cells #[vI (a:Int)] 3)).alloc (.cells #[.bool false,.bool false,.bool false,zN,zN,zN] 216)))) (by omega)).mono ?_
                rintro e qf ⟨v6,rfl,qm,qt⟩
                have E6:=Hx (Ext.tr (((eR w5).alloc (.cells #[vI (a:Int)] 3)).alloc (.cells #[.bool false,.bool false,.bool false,zN,zN,zN] 216)) qt)
                have X6:=Hx (X5.o.tr E6.o)
                have R6:=Hx (R5.o.K E6.o)
                have O6:=Hx (show qf.ownsRow W.heap.size 3 1 v6 la.arcs.length (ints la.arcs)from qm.mono (X5.o.tr (((eR w5).alloc (.cells #[vI (a:Int)] 3)).alloc (.cells #[.bool false,.bool false,.bool false,zN,zN,zN] 216))).size)
                have SB:=Hx (Blk.K (show Blk ((w5.alloc (.cells #[vI (a:Int)] 3)).alloc (.cells #[.bool false,.bool false,.bool false,zN,zN,zN] 216)) (w5.heap.size) 3 #[vI (a:Int)]from(eN w5 3 #[vI (a:Int)]).alloc (.cells #[.bool false,.bool false,.bool false,zN,zN,zN] 216)) qt)
                have SL:=Hx (Blk.K (show Blk ((w5.alloc (.cells #[vI (a:Int)] 3)).alloc (.cells #[.bool false,.bool false,.bool false,zN,zN,zN] 216)) (w5.heap.size+1) 216 #[.bool false,.bool false,.bool false,zN,zN,zN]from Blk.new' (g:=w5.heap.size+1) (w5.alloc (.cells #[vI (a:Int)] 3)) 216 #[.bool false,.bool false,.bool false,zN,zN,zN] (by simp)) qt)
                have vu:=Hx (show W.heap.size<=w5.heap.size+1 by have:=X5.o.size;omega)
                have c2:=(X6.o.cell (p:=(aD g (v*6+2))) qg).trans qF
                have c3:=(X6.o.cell (p:=(aD g (v*6+3))) qg).trans qC
                have c4:=(X6.o.cell (p:=(aD g (v*6+4))) qg).trans qG
                have c5:=(X6.o.cell (p:=(aD g (v*6+5))) qg).trans qI
                have p0:=(X6.o.cell (p:=(aD bp (op+a*3))) qi).trans qE
                have p1:=(X6.o.cell (p:=(aD bp (op+a*3+1))) qi).trans qH
                have p2:=(X6.o.cell (p:=(aD bp (op+a*3+2))) qi).trans qD
                clear qm qt)
              |(go_at_call 70
                refine(lY vL vZ la.arcs _ (by with_reducible exact vT.o.K (X5.o.tr (((eR w5).alloc (.cells #[.bool false,.bool false,.bool false,zN,zN,zN] 216)).alloc (.cells #[vI (a:Int)] 3)))) (by omega)).mono ?_
                rintro e qf ⟨v6,rfl,qm,qt⟩
                have E6:=Hx (Ext.tr (((eR w5).alloc (.cells #[.bool false,.bool false,.bool false,zN,zN,zN] 216)).alloc (.cells #[vI (a:Int)] 3)) qt)
                have X6:=Hx (X5.o.tr E6.o)
                have R6:=Hx (R5.o.K E6.o)
                have O6:=Hx (show qf.ownsRow W.heap.size 3 1 v6 la.arcs.length (ints la.arcs)from qm.mono (X5.o.tr (((eR w5).alloc (.cells #[.bool false,.bool false,.bool false,zN,zN,zN] 216)).alloc (.cells #[vI (a:Int)] 3))).size)
                have SB:=Hx (Blk.K (show Blk ((w5.alloc (.cells #[.bool false,.bool false,.bool false,zN,zN,zN] 216)).alloc (.cells #[vI (a:Int)] 3)) (w5.heap.size+1) 3 #[vI (a:Int)]from Blk.new' (g:=w5.heap.size+1) (w5.alloc (.cells #[.bool false,.bool false,.bool false,zN,zN,zN] 216)) 3 #[vI (a:Int)] (by simp)) qt)
                have SL:=Hx (Blk.K (show Blk ((w5.alloc (.cells #[.bool false,.bool false,.bool false,zN,zN,zN] 216)).alloc (.cells #[vI (a:Int)] 3)) (w5.heap.size) 216 #[.bool false,.bool false,.bool false,zN,zN,zN]from(eN w5 216 #[.bool false,.bool false,.bool false,zN,zN,zN]).alloc (.cells #[vI (a:Int)] 3)) qt)
                have vu:=Hx (show W.heap.size<=w5.heap.size by have:=X5.o.size;omega)
                have c2:=(X6.o.cell (p:=(aD g (v*6+2))) qg).trans qF
                have c3:=(X6.o.cell (p:=(aD g (v*6+3))) qg).trans qC
                have c4:=(X6.o.cell (p:=(aD g (v*6+4))) qg).trans qG
                have c5:=(X6.o.cell (p:=(aD g (v*6+5))) qg).trans qI
                have p0:=(X6.o.cell (p:=(aD bp (op+a*3))) qi).trans qE
                have p1:=(X6.o.cell (p:=(aD bp (op+a*3+1))) qi).trans qH
                have p2:=(X6.o.cell (p:=(aD bp (op+a*3+2))) qi).trans qD
                clear qm qt)
              |(go_at_call 58
                refine(fW qT qR Av nv cv vK v0 vU Ap np vR v4 vJ vV (prQ ps la.arcs) qa _ (by with_reducible exact vY.o.K (xn.o)) (by with_reducible exact vW.o.K (xn.o)) qJ.1 qJ.2 q5.1 q5.2 (eQ (kQx (kQ7 _) (kQ7 _)))).mono ?_
                rintro e w5 ⟨qA,A5,n5,c5,q6,vc,va,rfl,qP,qx⟩
                have X5:=Hx (Ext.tr (xn.o) qx)
                have R5:=Hx (show aE w5 qA A5 n5 c5 q6 vc va (prQ ps (la.arcs++[a])) by rw[mY,zo.o];exact qP)
                have c2:=(X5.o.cell (p:=(aD g (v*6+2))) qg).trans qF
                have c3:=(X5.o.cell (p:=(aD g (v*6+3))) qg).trans qC
                have c4:=(X5.o.cell (p:=(aD g (v*6+4))) qg).trans qG
                have c5:=(X5.o.cell (p:=(aD g (v*6+5))) qg).trans qI
                have p0:=(X5.o.cell (p:=(aD bp (op+a*3))) qi).trans qE
                have p1:=(X5.o.cell (p:=(aD bp (op+a*3+1))) qi).trans qH
                have p2:=(X5.o.cell (p:=(aD bp (op+a*3+2))) qi).trans qD
                clear qx qP)
              |(go_at_call 58
                refine(fW qT qR Av nv cv vK v0 vU Ap np vR v4 vJ vV (prQ ps la.arcs) qa _ (by with_reducible exact vY.o.K (zK.o)) (by with_reducible exact vW.o.K (zK.o)) qJ.1 qJ.2 q5.1 q5.2 (eQ (kQx (kQ7 _) (kQ7 _)))).mono ?_
                rintro e w5 ⟨qA,A5,n5,c5,q6,vc,va,rfl,qP,qx⟩
                have X5:=Hx (Ext.tr (zK.o) qx)
                have R5:=Hx (show aE w5 qA A5 n5 c5 q6 vc va (prQ ps (la.arcs++[a])) by rw[mY,zo.o];exact qP)
                have SB:=Hx (Blk.K (show Blk (W.alloc (.cells #[vI (a:Int)] 3)).drew (W.heap.size) 3 #[vI (a:Int)]from eN W 3 #[vI (a:Int)]) qx)
                have c2:=(X5.o.cell (p:=(aD g (v*6+2))) qg).trans qF
                have c3:=(X5.o.cell (p:=(aD g (v*6+3))) qg).trans qC
                have c4:=(X5.o.cell (p:=(aD g (v*6+4))) qg).trans qG
                have c5:=(X5.o.cell (p:=(aD g (v*6+5))) qg).trans qI
                have p0:=(X5.o.cell (p:=(aD bp (op+a*3))) qi).trans qE
                have p1:=(X5.o.cell (p:=(aD bp (op+a*3+1))) qi).trans qH
                have p2:=(X5.o.cell (p:=(aD bp (op+a*3+2))) qi).trans qD
                clear qx qP)
              |(go_at_call 58
                refine(fW qT qR Av nv cv vK v0 vU Ap np vR v4 vJ vV (prQ ps la.arcs) qa _ (by with_reducible exact vY.o.K (zM.o)) (by with_reducible exact vW.o.K (zM.o)) qJ.1 qJ.2 q5.1 q5.2 (eQ (kQx (kQ7 _) (kQ7 _)))).mono ?_
                rintro e w5 ⟨qA,A5,n5,c5,q6,vc,va,rfl,qP,qx⟩
                have X5:=Hx (Ext.tr (zM.o) qx)
                have R5:=Hx (show aE w5 qA A5 n5 c5 q6 vc va (prQ ps (la.arcs++[a])) by rw[mY,zo.o];exact qP)
                have SL:=Hx (Blk.K (show Blk (W.alloc (.cells #[.bool false,.bool false,.bool false,zN,zN,zN] 216)).drew (W.heap.size) 216 #[.bool false,.bool false,.bool false,zN,zN,zN]from eN W 216 #[.bool false,.bool false,.bool false,zN,zN,zN]) qx)
                have vu:=Hx (show W.heap.size<=W.heap.size by omega)
                have c2:=(X5.o.cell (p:=(aD g (v*6+2))) qg).trans qF
                have c3:=(X5.o.cell (p:=(aD g (v*6+3))) qg).trans qC
                have c4:=(X5.o.cell (p:=(aD g (v*6+4))) qg).trans qG
                have c5:=(X5.o.cell (p:=(aD g (v*6+5))) qg).trans qI
                have p0:=(X5.o.cell (p:=(aD bp (op+a*3))) qi).trans qE
                have p1:=(X5.o.cell (p:=(aD bp (op+a*3+1))) qi).trans qH
                have p2:=(X5.o.cell (p:=(aD bp (op+a*3+2))) qi).trans qD
                clear qx qP)
              |(go_at_call 58
                refine(fW qT qR Av nv cv vK v0 vU Ap np vR v4 vJ vV (prQ ps la.arcs) qa _ (by with_reducible exact vY.o.K (vG.o)) (by with_reducible exact vW.o.K (vG.o)) qJ.1 qJ.2 q5.1 q5.2 (eQ (kQx (kQ7 _) (kQ7 _)))).mono ?_
                rintro e w5 ⟨qA,A5,n5,c5,q6,vc,va,rfl,qP,qx⟩
                have X5:=Hx (Ext.tr (vG.o) qx)
                have R5:=Hx (show aE w5 qA A5 n5 c5 q6 vc va (prQ ps (la.arcs++[a])) by rw[mY,zo.o];exact qP)
                have SB:=Hx (Blk.K (show Blk ((W.alloc (.cells #[vI (a:Int)] 3)).alloc (.cells #[.bool false,.bool false,.bool false,zN,zN,zN] 216)).drew (W.heap.size) 3 #[vI (a:Int)]from(eN W 3 #[vI (a:Int)]).alloc (.cells #[.bool false,.bool false,.bool false,zN,zN,zN] 216)) qx)
                have SL:=Hx (Blk.K (show Blk ((W.alloc (.cells #[vI (a:Int)] 3)).alloc (.cells #[.bool false,.bool false,.bool false,zN,zN,zN] 216)).drew (W.heap.size+1) 216 #[.bool false,.bool false,.bool false,zN,zN,zN]from Blk.new' (g:=W.heap.size+1) (W.alloc (.cells #[vI (a:Int)] 3)) 216 #[.bool false,.bool false,.bool false,zN,zN,zN] (by simp)) qx)
                have vu:=Hx (show W.heap.size<=W.heap.size+1 by omega)
                have c2:=(X5.o.cell (p:=(aD g (v*6+2))) qg).trans qF
                have c3:=(X5.o.cell (p:=(aD g (v*6+3))) qg).trans qC
                have c4:=(X5.o.cell (p:=(aD g (v*6+4))) qg).trans qG
                have c5:=(X5.o.cell (p:=(aD g (v*6+5))) qg).trans qI
                have p0:=(X5.o.cell (p:=(aD bp (op+a*3))) qi).trans qE
                have p1:=(X5.o.cell (p:=(aD bp (op+a*3+1))) qi).trans qH
                have p2:=(X5.o.cell (p:=(aD bp (op+a*3+2))) qi).trans qD
                clear qx qP)
              |(go_at_call 58
                refine(fW qT qR Av nv cv vK v0 vU Ap np vR v4 vJ vV (prQ ps la.arcs) qa _ (by with_reducible exact vY.o.K (vl.o)) (by with_reducible exact vW.o.K (vl.o)) qJ.1 qJ.2 q5.1 q5.2 (eQ (kQx (kQ7 _) (kQ7 _)))).mono ?_
                rintro e w5 ⟨qA,A5,n5,c5,q6,vc,va,rfl,qP,qx⟩
                have X5:=Hx (Ext.tr (vl.o) qx)
                have R5:=Hx (show aE w5 qA A5 n5 c5 q6 vc va (prQ ps (la.arcs++[a])) by rw[mY,zo.o];exact qP)
                have SB:=Hx (Blk.K (show Blk ((W.alloc (.cells #[.bool false,.bool false,.bool false,zN,zN,zN] 216)).alloc (.cells #[vI (a:Int)] 3)).drew (W.heap.size+1) 3 #[vI (a:Int)]from Blk.new' (g:=W.heap.size+1) (W.alloc (.cells #[.bool false,.bool false,.bool false,zN,zN,zN] 216)) 3 #[vI (a:Int)] (by simp)) qx)
                have SL:=Hx (Blk.K (show Blk ((W.alloc (.cells #[.bool false,.bool false,.bool false,zN,zN,zN] 216)).alloc (.cells #[vI (a:Int)] 3)).drew (W.heap.size) 216 #[.bool false,.bool false,.bool false,zN,zN,zN]from(eN W 216 #[.bool false,.bool false,.bool false,zN,zN,zN]).alloc (.cells #[vI (a:Int)] 3)) qx)
                have vu:=Hx (show W.heap.size<=W.heap.size by omega)
                have c2:=(X5.o.cell (p:=(aD g (v*6+2))) qg).trans qF
                have c3:=(X5.o.cell (p:=(aD g (v*6+3))) qg).trans qC
                have c4:=(X5.o.cell (p:=(aD g (v*6+4))) qg).trans qG
                have c5:=(X5.o.cell (p:=(aD g (v*6+5))) qg).trans qI
                have p0:=(X5.o.cell (p:=(aD bp (op+a*3))) qi).trans qE
                have p1:=(X5.o.cell (p:=(aD bp (op+a*3+1))) qi).trans qH
                have p2:=(X5.o.cell (p:=(aD bp (op+a*3+2))) qi).trans qD
                clear qx qP)
              |fail "no arm")
              all_goals
               go_wp2
               go_meet
               first|exact qZ.o|exact q3.o
             case rest=>
              generalize hnx:la.arcs++[a]=nx at*
              have x1:=Hx hnx
              have jP:nx.length<=65:=by rw[<-hnx];simp;omega
              clear hnx
              obtain⟨gl,vz,A9,n9,c9,xe,zZ,zJ,zH,zQ,rfl,bl,r9,xb,⟨x9,y9⟩,qk,zS⟩:=hcut
              have jj:=Hx (show∀p,zH=some p->w.heap.size<=p.block from fun p hp=>yY q7.o.ext.size (y9 p hp))
              clear y9
              have vd:=Hx (q7.o.K zS)
              have yi:=Hx (zX.o.K zS)
              have qM:=Hx bl
              have R9:=Hx r9
              have X9:=Hx x9
              have je:gl≠g:=by omega
              obtain⟨zW,A3,n3,c3,jk,ji,jm,y7,jv,⟨y0,y1,y2,y3,y4,y5⟩,zL,xk,ya⟩:=vd.o.lab.at_ zh.o
              have R3:=Hx zL
              have X3:=Hx ya
              have qS:=vd.o.lab.lt
              have xu:=Hx (show cX lq v=la.arcs by unfold cX;rw[vq.o];rfl)
              have zj:SzQ (prQ ps nx) 268435456:=(SzQ.pr hP zg.o nx).mono (by
               have h2:nx.length*(P+1)<=65*1000001:=kQq (by omega) (by omega)
               omega)
              have vm:=jza4 hP hP2 zg.o vd.o.ok vd.o.len zu lh (yJ zh.o)
              have x8:=r9.lens zj
              have xX:=zL.lens vm.1
              have z8:=vm.2
              clear bl r9 x9 zL ya zS zj vm q7 zX zY jq qF qC qG qI qE qH qD vY vW vT qg qi
              go_upto_region 21 with fail
              go_cut [136] (fun s wx=>s=.bool (!lh.known||cA ps nx lh.arcs)/\Ext wc wx)
              case first=>
               obtain⟨lk,ld,vk⟩:=lh
               simp only[]at y0 y5 xk z8
               have z0:=XW.cell _ _ _ qS y0
               cases lk
               case false=>
                refine cM (by kernel_rfl) (by kernel_rfl) ?_
                repeat (go_big_quiet_step (fail))
                refine wpQuiet_nil ?_
                rintro _ ⟨x,rfl⟩
                go_wp2
                go_meet
                exact⟨rfl,x.ext⟩
               case true=>
                have z1:=XW.cell _ _ _ qS y1
                have z2:=XW.cell _ _ _ qS y2
                have z3:=XW.cell _ _ _ qS y3
                have z4:=XW.cell _ _ _ qS y4
                have z5:=XW.cell _ _ _ qS y5
                have u0:=XW.cell _ _ _ qM.o.lt (qM.o.cell 0)
                have u1:=XW.cell _ _ _ qM.o.lt (qM.o.cell 1)
                have u2:=XW.cell _ _ _ qM.o.lt (qM.o.cell 2)
                have u3:=XW.cell _ _ _ qM.o.lt (qM.o.cell 3)
                have u4:=XW.cell _ _ _ qM.o.lt (qM.o.cell 4)
                have u5:=XW.cell _ _ _ qM.o.lt (qM.o.cell 5)
                have jK:(0:Int)<=(h:Int):=by omega
                refine cM (by kernel_rfl) (by kernel_rfl) ?_
                repeat (go_big_quiet_step ((go_at_call 140;exact Calls.ext_of (jza0 _ _ vz _ _ zW A9 n9 c9 xe zZ zJ A3 n3 c3 jk ji jm zH y7 zQ jv (prQ ps nx) (prQ ps vk) nx vk _ (R9.o.K (XW.ext _)) (R3.o.K (XW.ext _)) x8.1 x8.2 xX.1 xX.2 (X9.o.rd.K (XW.ext _)) (X3.o.rd.K (XW.ext _)) (by omega) (by omega)))))
                refine wpQuiet_nil ?_
                rintro _ ⟨x,rfl⟩
                go_wp2
                go_meet
                exact⟨rfl,x.ext⟩
              case rest=>
               obtain⟨rfl,v5⟩:=hcut
               have qU:=Hx (vd.o.K v5)
               have xA:=Hx (yi.o.K v5)
               have v7:=Hx (qM.o.K v5)
               have jo:=Hx (show LbR _ ps [.bool true,.bool false,.bool vz,.s A9 n9 c9,.s xe zZ zJ,.s zH nx.length zQ] ⟨true,false,nx⟩from⟨vz,A9,n9,c9,xe,zZ,zJ,zH,zQ,rfl,R9.o.K v5,xb,X9.o.K v5⟩)
               have v9:=HS.o
               rw[xu.o,x1.o]at v9
               have xN:=Hx (show bZ (((aW t v).take (j+1)).foldl (dL t down ps m v) ls0)=bZ ls0 by rw[ze.o,jza3];exact zm.o)
               clear v5 vd yi qM R9 X9 R3 X3 y0 y1 y2 y3 y4 y5 HS xu
               cases hcnd:(!lh.known||cA ps nx lh.arcs)
               case false=>
                have HS:=Hx (show((aW t v).take (j+1)).foldl (dL t down ps m v) ls0=lq by rw[v9,hcnd];rfl)
                have vF:=Hx (show∃l,lq[v]?=some l/\l.done=true/\l.arcs.length+bZ ls0<N from⟨la,vq.o,qY.o,zT.o⟩)
                clear v9 hcnd
                go_wp2
                go_roundg (L-(j+1))
                case measure=>omega
                case rel=>exact⟨j+1,rfl,by omega,by go_num,xA.o,by rw[HS.o];exact qU.o,xN.o,by rw[HS.o];exact vF.o⟩
               case true=>
                have HS:=Hx (show((aW t v).take (j+1)).foldl (dL t down ps m v) ls0=lq.set h ⟨true,false,nx⟩ by rw[v9,hcnd];rfl)
                obtain⟨jg,A4,n4,c4,jU,jY,jI,jR,jV,⟨y0,y1,y2,y3,y4,y5⟩,_,_,_⟩:=qU.o.lab.at_ zh.o
                obtain⟨css,_,_,vi,_⟩:=qU.o.lab
                have f0:=vi.frozen (h*6)
                have f1:=vi.frozen (h*6+1)
                have f2:=vi.frozen (h*6+2)
                have f3:=vi.frozen (h*6+3)
                have f4:=vi.frozen (h*6+4)
                have f5:=vi.frozen (h*6+5)
                have l0:=v7.o.cell 0
                have l1:=v7.o.cell 1
                have l2:=v7.o.cell 2
                have l3:=v7.o.cell 3
                have l4:=v7.o.cell 4
                have l5:=v7.o.cell 5
                simp only[xI,kQi,List.getElem?_cons_succ]at l0 l1 l2 l3 l4 l5
                have yv:=Hx vi
                have jC:h≠v:=by
                 rintro rfl
                 have e1:=vq.o
                 rw[zh.o]at e1
                 injection e1 with e1
                 have e2:=qY.o
                 rw[<-e1,xi.o]at e2
                 cases e2
                have zR:nx.length=la.arcs.length+1:=by rw[<-x1.o];simp
                have vg:=jza1 (l:=⟨true,false,nx⟩) zh.o xi.o rfl
                have zb:nA (lq.set h ⟨true,false,nx⟩):=fun l hl=>by
                 rw[vg,yV,qU.o.len]
                 rcases xE hl with h9|h9
                 ·have:=qU.o.ok l h9
                  rw[qU.o.len]at this
                  exact this
                 ·rw[h9]
                  have h1:=zT.o
                  have h2:=zm.o
                  simp only[]
                  omega
                have jb:=Hx zb
                have vF:=Hx (show∃l,(lq.set h ⟨true,false,nx⟩)[v]?=some l/\l.done=true/\l.arcs.length+bZ ls0<N from⟨la,by rw[vN jC];exact vq.o,qY.o,zT.o⟩)
                have jy:=Hx (qU.o.lab.put x4 jo.o)
                have jt:=Hx (show(lq.set h ⟨true,false,nx⟩).length=N by rw[yV];exact qU.o.len)
                clear v9 hcnd vi zR vg zb
                go_wp2
                go_roundg (L-(j+1))
                case measure=>omega
                case rel=>exact⟨j+1,rfl,by omega,by go_num,xA.o.other (jza5 _ _ _ _ _ _ _ _ _) yv.o (by decide),by rw[HS.o];exact qU.o.turn (jza5 _ _ _ _ _ _ _ _ _) jy.o jt.o jb.o (qU.o.fa.put qU.o.lab _ _ _ _ _ jj.o),xN.o,by rw[HS.o];exact vF.o⟩
          ·have jc:j=L:=by omega
           subst jc
           have zf:gS t down ps m f lq=DR:=by
            have h1:=xm.o
            have h2:=HQ.o
            rw[yU (by rw[HL.o];exact yX _)]at h2
            rw[<-h1, <-h2]
           have jD:1<=f:=by
            have:=yd.o
            omega
           have zq:=Hx (show bZ lq<=f-1/\gS t down ps m (f-1+1) lq=DR by
            refine⟨?_,by rw[Nat.sub_add_cancel jD];exact zf⟩
            have h1:=yd.o
            have h2:=zm.o
            omega)
           have vd:=Hx qQ
           clear zf qQ vH
           go_wp2
           go_roundg (f-1)
           case measure=>omega
           case rel=>exact⟨f-1,lq,rfl,zq.o.1,vd.o,zq.o.2⟩
end Go.Proofs.YtojpooidhilnfaaGreatDoor
namespace Go.Proofs.YtojpooidhilnfaaGreatDoor
theorem jzcy(q:Rat):aC q<0↔q<0:=by
 have h:q.num<0↔q<0:=(by rw[<-Int.not_le,Rat.num_nonneg,Rat.not_le]);unfold aC;split;{rename_i h0;rw[<-h,h0]};split;{rename_i h1;exact⟨fun _=>h.1 h1,fun _=>by decide⟩};rename_i h1;exact⟨fun x=>by omega,fun x=>absurd (h.2 x) h1⟩
open Go.RowKit Go.ChangeShapes Go.WideShapes Go.Deep
theorem uW{α:Type}(mk:α->List Value)(k:Nat)(hk:∀a,(mk a).length=k)(l:List α)(i r:Nat)(hi:i<l.length)(hr:r<k):(l.flatMap mk)[i*k+r]?=(mk l[i])[r]?:=by
 (induction l generalizing i with|nil=>simp at hi|cons a l ih=>(cases i with|zero=>simp only[xU,Nat.zero_mul,kQu,yB];rw[yR (by rw[hk];exact hr)]|succ i=>simp only[xU,yC];rw[yS (by rw[hk,xP];omega),hk,show(i+1)*k+r-k=i*k+r by rw[xP];omega];exact ih i (by simpa using hi)))
theorem jzcz{α:Type}(mk:α->List Value)(k:Nat)(hk:∀a,(mk a).length=k)(l:List α):(l.flatMap mk).length=l.length*k:=by
 (induction l with|nil=>simp|cons a l ih=>rw[xU,yQ,ih,hk,kQo,xP];omega)
theorem jzlq{w:World}{a:Addr}{v:Value}(h:w.cell? a=some v):a.spot=none/\a.block<w.heap.size:=by
 unfold World.cell? at h;split at h;{rename_i hb;split at h;{cases h};rename_i hs;refine⟨by cases ha:a.spot <;> simp_all,Nat.lt_of_not_le fun hge=>by rw[kQn hge]at hb;cases hb⟩};cases h
theorem nV{H:Type}{enc:TypeId×Value->H}{P:Program}{w}{base:Nat}{spare:Nat->Bool}{held:Bool}{α:Type}[Inhabited α](mk:α->List Value)(wf:α->Prop)(k:Nat)(hk1:0<k)(hk:∀a,(mk a).length=k){t e:TypeId}{fuel:Nat}{cs:List Value}{x:DataW H×List MemPlace}
  (ht:P.underlying t=some (.slice e)) (hc:P.cellsOf e=k) (hel:∀(n:Nat) (qe:List Value) (y:DataW H×List MemPlace),DataW.trod enc P w base spare held n e qe=some y->∃a,qe=mk a/\wf a)
  (h:DataW.trod enc P w base spare held fuel t cs=some x):
  ∃(A:OA) (l:List α) (c:Nat),cs=[.s A l.length c]/\l.length<=c/\c<=maxLen/\(∀a∈l,wf a)/\Rd w A (l.flatMap mk):=by
 (rcases open_slice ht h with⟨rfl,_⟩|⟨a,len,cap,m,n,D,Pl,rfl,hb,hl,hm,hmm,rfl,hx⟩);{exact⟨none,[],0,rfl,yX _,yZ _,(fun _ h=>by cases h),Rd.nil _ _⟩};have qj:len<=m:=(by rw[hmm];split <;> omega);obtain⟨F,hF⟩:=choose_lt (α:=α) (p:=fun i v=>w.cells? base (a.add (i*k)) k=some (mk v)/\wf v) (n:=m) (fun i hi=>by obtain⟨qe,h1,h2⟩:=hx i hi;rw[hc]at h1;obtain⟨v,rfl,hv⟩:=hel _ _ _ h2;exact⟨v,h1,hv⟩);refine⟨some a,(List.range len).map F,cap,by simp,by simpa using hl,hm,?_,?_⟩;{intro v hv;obtain⟨i,hi,rfl⟩:=kQl.1 hv;exact(hF i (by have:=vX.1 hi;omega)).2};intro qi;have qf:0<len:=(by (rcases kQm len with h0|h0);{subst h0;simp at qi};exact h0);have qa:∀i r,i<len->r<k->w.cell? (a.add (i*k+r))=(mk (F i))[r]?:=fun i r hi hr=>(by have:=(World.cells?_some (hF i (by omega)).1).2.2 r hr;rwa [add_add]at this);have qh:=qa 0 0 qf hk1;rw[show a.add (0*k+0)=a from by simp[Addr.add],yG (by rw[hk];exact hk1)]at qh;obtain⟨hs,qg⟩:=jzlq qh;obtain⟨b,o,s⟩:=a;simp only at hs qg;subst hs;refine⟨b,o,rfl,qg,fun j hj=>?_⟩;rw[jzcz mk k hk,xV,kZm]at hj;have hd:j/k<len:=Nat.div_lt_of_lt_mul (by rw[vE];exact hj);have hr:=xT j hk1;have h1:=qa (j/k) (j%k) hd hr;have h2:=uW mk k hk ((List.range len).map F) (j/k) (j%k) (by simpa using hd) hr;rw[kG,vE,kZj]at h1;rw[vE (j/k) k,kZj]at h2;rw[h1,h2];simp
theorem jzc0{n:Int}(h:(Lit.int .i64 n).wf=true):i64 n:=by
 simp[Lit.wf,IntKind.min,IntKind.max,IntKind.signed,IntKind.bits]at h;unfold i64;omega
theorem jzlr(l:List Bool):cB l=l.flatMap fun b:Bool=>[Value.bool b]:=by
 (induction l with|nil=>rfl|cons a l ih=>rw[xU, <-ih];rfl)
theorem jzls{H:Type}{enc:TypeId×Value->H}{P:Program}{w}{base:Nat}{spare:Nat->Bool}{held:Bool}{t e:TypeId}{fuel:Nat}{cs:List Value}{x:DataW H×List MemPlace}
  (ht:P.underlying t=some (.slice e)) (he:P.underlying e=some .bool) (hc:P.cellsOf e=1) (h:DataW.trod enc P w base spare held fuel t cs=some x):
  ∃(A:OA) (l:List Bool) (c:Nat),cs=[.s A l.length c]/\l.length<=c/\c<=maxLen/\Rd w A (cB l):=by
 obtain⟨A,l,c,h1,h2,h3,_,h5⟩:=nV (fun b:Bool=>[Value.bool b]) (fun _=>True) 1 (by decide) (fun _=>rfl) ht hc (fun n cs' y hy=>by obtain⟨b,rfl,_⟩:=DataW.trod_bool he hy;exact⟨b,rfl,trivial⟩) h;refine⟨A,l,c,h1,h2,h3,?_⟩;rw[jzlr];exact h5
instance:Inhabited Lk:=⟨⟨0,0,0,0,0,0,0⟩⟩
theorem jzlt{α:Type}{l:List α}(h:l.length=7):∃a b c d e f g,l=[a,b,c,d,e,f,g]:=by
 match l,h with
 | [a,b,c,d,e,f,g],_=>exact⟨a,b,c,d,e,f,g,rfl⟩
theorem jzlu{α:Type}{l:List α}(h:l.length=2):∃a b,l=[a,b]:=by
 match l,h with
 | [a,b],_=>exact⟨a,b,rfl⟩
theorem iC{α:Type}{l:List α}{n:Nat}(i:Nat)(h:l.length=n)(hi:i<n):∃y,l[i]?=some y:=⟨_,yG (by omega)⟩
section
variable {H:Type} {enc:TypeId×Value->H} {w:World} {base:Nat} {spare:Nat->Bool} {held:Bool}
theorem Tryz.cells_int:Tryz.prog.cellsOf 3=1:=by kernel_rfl
theorem kL{n:Nat}{v:Value}{y:Option (DataW H×List MemPlace)}{z:DataW H×List MemPlace}(hy:y=some z)(h:DataW.trod enc Tryz.prog w base spare held n 3 [v]=y):∃x,v=vI x/\i64 x:=by
 rw[hy]at h;obtain⟨x,e,_,hw⟩:=DataW.trod_int Tryz.underlying3 h;exact⟨x,by simpa using e,jzc0 hw⟩
theorem jzlv{n:Nat}{cs:List Value}{y:DataW H×List MemPlace}(h:DataW.trod enc Tryz.prog w base spare held n 83 cs=some y):∃l:Lk,cs=l.cells/\l.wf:=by
 obtain⟨xs,m,_,_,hl,qa,hf⟩:=DataW.trod_struct Tryz.underlying83 h;have c7:Tryz.prog.cellsOf 83=7:=(by kernel_rfl);have c2:Tryz.prog.cellsOf 81=2:=(by kernel_rfl);have c1:=Tryz.cells_int;rw[c7]at hl;obtain⟨a0,a1,a2,a3,a4,a5,a6,rfl⟩:=jzlt hl;have qa:xs.length=6:=qa;have h0:DataW.trod enc Tryz.prog w base spare held m 3 (List.take (Tryz.prog.cellsOf 3) (List.drop 0 [a0,a1,a2,a3,a4,a5,a6]))=xs[0]?:=hf 0 _ rfl;have h1:DataW.trod enc Tryz.prog w base spare held m 3 (List.take (Tryz.prog.cellsOf 3) (List.drop 1 [a0,a1,a2,a3,a4,a5,a6]))=xs[1]?:=hf 1 _ rfl;have h2:DataW.trod enc Tryz.prog w base spare held m 81 (List.take (Tryz.prog.cellsOf 81) (List.drop 2 [a0,a1,a2,a3,a4,a5,a6]))=xs[2]?:=hf 2 _ rfl;have h3:DataW.trod enc Tryz.prog w base spare held m 3 (List.take (Tryz.prog.cellsOf 3) (List.drop 4 [a0,a1,a2,a3,a4,a5,a6]))=xs[3]?:=hf 3 _ rfl;have h4:DataW.trod enc Tryz.prog w base spare held m 3 (List.take (Tryz.prog.cellsOf 3) (List.drop 5 [a0,a1,a2,a3,a4,a5,a6]))=xs[4]?:=hf 4 _ rfl;have h5:DataW.trod enc Tryz.prog w base spare held m 3 (List.take (Tryz.prog.cellsOf 3) (List.drop 6 [a0,a1,a2,a3,a4,a5,a6]))=xs[5]?:=hf 5 _ rfl;clear hf h;obtain⟨y0,e0⟩:=iC 0 qa (by omega);obtain⟨y1,e1⟩:=iC 1 qa (by omega);obtain⟨y2,e2⟩:=iC 2 qa (by omega);obtain⟨y3,e3⟩:=iC 3 qa (by omega);obtain⟨y4,e4⟩:=iC 4 qa (by omega);obtain⟨y5,e5⟩:=iC 5 qa (by omega);rw[c1]at h0 h1 h3 h4 h5;rw[c2]at h2;obtain⟨x0,rfl,g0⟩:=kL e0 h0;obtain⟨x1,rfl,g1⟩:=kL e1 h1;obtain⟨x4,rfl,g4⟩:=kL e3 h3;obtain⟨x5,rfl,g5⟩:=kL e4 h4;obtain⟨x6,rfl,g6⟩:=kL e5 h5;rw[e2]at h2;obtain⟨zs,m2,_,_,_,hz,qe⟩:=DataW.trod_array Tryz.underlying81 h2;have k0:=qe 0 (by decide);have k1:=qe 1 (by decide);obtain⟨z0,d0⟩:=iC 0 hz (by omega);obtain⟨z1,d1⟩:=iC 1 hz (by omega);simp only[c1]at k0 k1;obtain⟨x2,rfl,g2⟩:=kL d0 k0;obtain⟨x3,rfl,g3⟩:=kL d1 k1;exact⟨⟨x0,x1,x2,x3,x4,x5,x6⟩,rfl,g0,g1,g2,g3,g4,g5,g6⟩
theorem jzlw{v:Value}{d:DataW H}{p:List MemPlace}{r:Reach}{b0:Nat}(hv:Value.okWide Tryz.prog w r b0 25 v)(h:DataW.Trod enc Tryz.prog w base spare held 25 v d p):
  ∃(t:Tp) (AO:OA) (co:Nat) (AL:OA) (cl:Nat),v=.agg #[vI t.nodes,.s AO t.over.length co,.s AL t.links.length cl]/\i64 t.nodes/\t.over.length<=co/\t.links.length<=cl/\co<=maxLen/\cl<=maxLen/\Rd w AO (cB t.over)/\Rd w AL (t.links.flatMap Lk.cells)/\∀l∈t.links,l.wf:=by
 obtain⟨v0,v1,v2,y0,y1,y2,n,rfl,_,_,h0,h1,h2⟩:=Joins.open_agg3 Tryz.underlying25 (by kernel_rfl) (by kernel_rfl) hv h;obtain⟨N,rfl,hN⟩:=kL rfl h0;obtain⟨AO,over,co,e1,l1,m1,r1⟩:=jzls Tryz.underlying22 Tryz.underlying4 (by kernel_rfl) h1;obtain⟨AL,links,cl,e2,l2,m2,wf,r2⟩:=nV Lk.cells Lk.wf 7 (by decide) (fun _=>rfl) Tryz.underlying23 (by kernel_rfl) (fun n cs y hy=>jzlv hy) h2;injection e1 with e1
 injection e2 with e2
 subst e1 e2;exact⟨⟨N,over,links⟩,AO,co,AL,cl,rfl,hN,l1,l2,m1,m2,r1,r2,wf⟩
structure Fr where
 num:Int
 den:Int
instance:Inhabited Fr:=⟨⟨0,0⟩⟩
def Fr.cells(x:Fr):List Value:=[.int .i8 x.num,.int .i8 x.den]
def Fr.wf(x:Fr):Prop:=(-128<=x.num/\x.num<=127)/\(-128<=x.den/\x.den<=127)
theorem jzlx{n:Nat}{cs:List Value}{y:DataW H×List MemPlace}(h:DataW.trod enc Tryz.prog w base spare held n 116 cs=some y):∃x:Fr,cs=x.cells/\x.wf:=by
 obtain⟨xs,m,_,_,hl,qa,hf⟩:=DataW.trod_struct Tryz.underlying116 h;have c2:Tryz.prog.cellsOf 116=2:=(by kernel_rfl);have c1:Tryz.prog.cellsOf 114=1:=(by kernel_rfl);rw[c2]at hl;obtain⟨a0,a1,rfl⟩:=jzlu hl;have qa:xs.length=2:=qa;have h0:DataW.trod enc Tryz.prog w base spare held m 114 (List.take (Tryz.prog.cellsOf 114) (List.drop 0 [a0,a1]))=xs[0]?:=hf 0 _ rfl;have h1:DataW.trod enc Tryz.prog w base spare held m 114 (List.take (Tryz.prog.cellsOf 114) (List.drop 1 [a0,a1]))=xs[1]?:=hf 1 _ rfl;clear hf h;obtain⟨y0,e0⟩:=iC 0 qa (by omega);obtain⟨y1,e1⟩:=iC 1 qa (by omega);rw[c1]at h0 h1;rw[e0]at h0;rw[e1]at h1;obtain⟨x0,f0,_,g0⟩:=DataW.trod_int Tryz.underlying114 h0;obtain⟨x1,f1,_,g1⟩:=DataW.trod_int Tryz.underlying114 h1;simp at f0 f1;subst f0 f1;exact⟨⟨x0,x1⟩,rfl,bounds_i8 g0,bounds_i8 g1⟩
end
end Go.Proofs.YtojpooidhilnfaaGreatDoor
