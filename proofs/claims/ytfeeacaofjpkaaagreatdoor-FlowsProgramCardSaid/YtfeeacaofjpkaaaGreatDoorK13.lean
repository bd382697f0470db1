/- Walks, part 13. -/
import Derived.Deep.Slices
import Derived.Test.YtfeeacaofjpkaaaGreatDoorK12
set_option linter.unusedVariables false
set_option linter.unusedSimpArgs false
set_option maxRecDepth 100000
set_option maxHeartbeats 8000000
namespace Go.Proofs.YtfeeacaofjpkaaaGreatDoor
open Go.Proofs.Tryz
open Go.RowKit
def eQ(t:Tp)(a:Nat):Nat:=match t.links[a/2]? with
 |some l=>if a%2=0 then l.c0.toNat else l.c1.toNat
 |none=>0
def bI(t:Tp)(x:LN):Nat:=x.foldl (fun s a=>s+eQ t a) 0
theorem jzkk t(x:LN)(a:Nat):bI t (x++[a])=bI t x+eQ t a:=by unfold bI;rw[kZt];rfl
def bS(t:Tp):LQ:=(List.range (2*t.links.length)).map fun a=>((eQ t a:Int):Rat)
theorem jzkl(t:Tp)(a:Nat)(ha:a/2<t.links.length):(bS t)[a]?.getD 0=((eQ t a:Int):Rat):=by
 unfold bS;rw[yW,xJ qO];rfl
theorem jzcj t(x:LN):prQ (bS t) x=((bI t x:Int):Rat):=by
 have qa:∀(y:LN) (s:Nat),y.foldl (fun s a=>s+(bS t)[a]?.getD 0) ((s:Int):Rat)=((y.foldl (fun s a=>s+eQ t a) s:Nat):Int):=(by intro y;(induction y with|nil=>intro s;rfl|cons a y ih=>intro s;rw[List.foldl_cons,List.foldl_cons, <-ih (s+eQ t a)];congr 1;rw[kZv,Rat.intCast_add];congr 1;by_cases ha:a/2<t.links.length;{exact jzkl t a ha};have h1:eQ t a=0:=(by unfold eQ;rw[yI qO]);have h2:(bS t)[a]?=none:=(by unfold bS;rw[yI (by simp;omega)]);rw[h1,h2];rfl));exact qa x 0
def dI(t:Tp)(x y:LN):Int:=or3 (aS (bI t x) (bI t y)) (aS x.length y.length) (bP x y)
theorem jzkm(a b:Nat):bG ((a:Int):Rat) ((b:Int):Rat)=aS a b:=by
 unfold bG aS;by_cases h:a<b;{rw[qE (Rat.intCast_lt_intCast.2 qO),qE h]};rw[qF (fun h2=>h (by have:=Rat.intCast_lt_intCast.1 h2;omega)),qF h];by_cases e:a=b;{subst e;rw[qE rfl,qE rfl]};rw[qF (fun h2=>e (by have:=Rat.intCast_inj.1 h2;omega)),qF e]
theorem jzkn t(x y:LN):cM (bS t) x y=decide (dI t x y<0):=by
 unfold cM nH dI;rw[jzcj,jzcj,jzkm]
def RdF(B:Nat)(w:World)(A:OA)(xs:List Value):Prop:=RdT w 3 A xs/\∀p,A=some p->B<=p.block
theorem RdF.rd{B:Nat}{w}{A}{xs:List Value}(h:RdF B w A xs):Rd w A xs:=h.1.rd
theorem RdF.K{B:Nat}{w w'}{A}{xs:List Value}(h:RdF B w A xs)(hx:Ext w w'):RdF B w' A xs:=⟨h.1.K hx,h.2⟩
theorem RdF.other{B:Nat}{w w'}{A}{xs:List Value}{g:Nat}{t':TypeId}{cs':Array Value}(h:RdF B w A xs)(hg:w.grownBy w' (some g))(hb:Blk w g t' cs')(hne:3≠t'):RdF B w' A xs:=⟨h.1.other hg hb hne,h.2⟩
theorem RdF.gK{B:Nat}{w w'}{A}{xs:List Value}{t':TypeId}{row:Option Nat}(h:RdF B w A xs)(hg:w.grownBy w' row)(hr:∀k,row=some k->∃cs fr,w.heap[k]?=some (.cells cs t' fr))(hne:3≠t'):RdF B w' A xs:=⟨h.1.gK hg hr hne,h.2⟩
theorem RdF.below{B:Nat}{w w'}{A}{xs:List Value}{g:Nat}(h:RdF B w A xs)(hg:w.grownBy w' (some g))(hB:g<B):RdF B w' A xs:=by
 refine⟨fun hx=>?_,h.2⟩;obtain⟨b,o,cs,fr,e,hb,hc⟩:=h.1 hx;have:=h.2 _ e;refine⟨b,o,cs,fr,e,(hg.block b (iF hb) (fun e2=>?_)).trans hb,hc⟩;injection e2 with e2
 subst e2;simp at this;omega
def KLb(t:Tp)(B:Nat)(w:World)(cs:List Value)(z:Nat×LN):Prop:=
 ∃(A:OA) (c:Nat),cs=[vI (z.1:Int),vI (bI t z.2:Nat),vI 0,.s A z.2.length c]/\z.2.length<=c/\RdF B w A (ints z.2)
theorem KLb.K{t}{B:Nat}{w w'}{cs:List Value}{z:Nat×LN}(h:KLb t B w cs z)(hx:Ext w w'):KLb t B w' cs z:=by
 obtain⟨A,c,h1,h2,h3⟩:=h;exact⟨A,c,h1,h2,h3.K hx⟩
theorem KLb.other{t}{B:Nat}{w w'}{cs:List Value}{z:Nat×LN}{g:Nat}{t':TypeId}{cs':Array Value}(h:KLb t B w cs z)(hg:w.grownBy w' (some g))(hb:Blk w g t' cs')(hne:3≠t'):KLb t B w' cs z:=by
 obtain⟨A,c,h1,h2,h3⟩:=h;exact⟨A,c,h1,h2,h3.other hg hb hne⟩
theorem KLb.gK{t}{B:Nat}{w w'}{cs:List Value}{z:Nat×LN}{t':TypeId}{row:Option Nat}(h:KLb t B w cs z)(hg:w.grownBy w' row)(hr:∀k,row=some k->∃cs fr,w.heap[k]?=some (.cells cs t' fr))(hne:3≠t'):KLb t B w' cs z:=by
 obtain⟨A,c,h1,h2,h3⟩:=h;exact⟨A,c,h1,h2,h3.gK hg hr hne⟩
structure bW(t:Tp)(w:World)(B g n c:Nat)(hs:List (Nat×LN)):Prop where
 len:hs.length=n
 row:∃css:List (List Value),css.length=n/\(∀cs∈css,cs.length=4)/\w.ownsRow B 212 4 (.s (sA g) n c) n css.flatten/\∀(i:Nat) (z:Nat×LN),hs[i]?=some z->∃cs,css[i]?=some cs/\KLb t B w cs z
theorem bW.blk{t}{w}{B g n c:Nat}{hs:List (Nat×LN)}(h:bW t w B g n c hs):∃cs,Blk w g 212 cs:=by
 obtain⟨css,_,_,h3,_⟩:=h.row;rcases h3.2 with⟨e,_⟩|⟨g',cap,cur,e,_,h5,_⟩
 ·cases e
 injection e with e
 injection e with e
 injection e with e
 subst e;exact⟨cur,h5⟩
theorem bW.K{t}{w w'}{B g n c:Nat}{hs:List (Nat×LN)}(h:bW t w B g n c hs)(hx:Ext w w'):bW t w' B g n c hs:=by
 obtain⟨css,h1,h2,h3,h4⟩:=h.row;refine⟨h.len,css,h1,h2,h3.kept (eZ hx) (fA _),fun i z hz=>?_⟩;obtain⟨cs,k1,k2⟩:=h4 i z hz;exact⟨cs,k1,k2.K hx⟩
theorem bW.at_{t}{w}{B g n c:Nat}{hs:List (Nat×LN)}(h:bW t w B g n c hs){i:Nat}{z:Nat×LN}(hz:hs[i]?=some z):
  ∃(A:OA) (k:Nat),(w.cell? (aD g (i*4))=some (vI (z.1:Int))/\w.cell? (aD g (i*4+1))=some (vI (bI t z.2:Nat))/\w.cell? (aD g (i*4+2))=some (vI 0)/\w.cell? (aD g (i*4+3))=some (.s A z.2.length k))/\
   (w.frozen? (aD g (i*4))=false/\w.frozen? (aD g (i*4+1))=false/\w.frozen? (aD g (i*4+2))=false/\w.frozen? (aD g (i*4+3))=false)/\z.2.length<=k/\RdF B w A (ints z.2):=by
 obtain⟨css,h1,h2,h3,h4⟩:=h.row;obtain⟨cs,k1,A,k,rfl,k2,k3⟩:=h4 i z hz;have hi:=(yH.1 hz).1;have qf:i<n:=(by have:=h.len;omega);obtain⟨cb,hb⟩:=h.blk;have qa:∀j,j<4->w.cell? (aD g (i*4+j))=([vI (z.1:Int),vI (bI t z.2:Nat),vI 0,.s A z.2.length k]:List Value)[j]?:=fun j hj=>(by (have hf:=eL css h2 i j qO hj;rw[k1]at hf;rcases h3.2 with⟨e,_⟩|⟨g',cap,cur,e,_,h5,h6,h7,h8,h9⟩);{cases e};(injection e with e1 e2 e3);(injection e1 with e1);(injection e1 with e1);subst e1;have qe:Blk w g 212 cur:=h5;rw[qe.cell, <-kQw];rw[<-h9,xG,qE qO]at hf;exact hf);exact⟨A,k,⟨qa 0 qO,qa 1 qO,qa 2 qO,qa 3 qO⟩,⟨hb.frozen _,hb.frozen _,hb.frozen _,hb.frozen _⟩,k2,k3⟩
theorem rC{w:World}{B g n c s k:Nat}{e:TypeId}{xs:List Value}(h:w.ownsRow B e s (.s (sA g) n c) n xs)(u:Value):(w.setCell (aD g k) u).ownsRow B e s (.s (sA g) n c) n (xs.set k u):=by
 refine⟨by rw[yV];exact h.1,?_⟩;rcases h.2 with⟨h3,h4⟩|⟨g',cap,cur,h3,h4,h5,h6,h7,h8,h9⟩
 ·cases h3
 have qa:=h3;injection h3 with e1 e2 e3
 injection e1 with e1
 injection e1 with e1
 subst e1;refine .inr ⟨g,cap,cur.setIfInBounds k u,qa,h4,(show Blk w g e cur from h5).sT k u,h6,h7,by simpa using h8,?_⟩;rw[Array.toList_setIfInBounds, <-h9,List.take_set]
theorem jzko{w:World}{B g n c i:Nat}{e:TypeId}{css:List (List Value)}(h:w.ownsRow B e 4 (.s (sA g) n c) n css.flatten)(h1:css.length=n)(h2:∀cs∈css,cs.length=4)(hi:i<n)(v0 v1 v2 v3:Value):
  ((((w.setCell (aD g (i*4)) v0).setCell (aD g (i*4+1)) v1).setCell (aD g (i*4+2)) v2).setCell (aD g (i*4+3)) v3).ownsRow B e 4 (.s (sA g) n c) n (css.set i [v0,v1,v2,v3]).flatten:=by
 have qa:i<css.length:=qO;obtain⟨cs,qf⟩:∃cs,css[i]?=some cs:=⟨_,yG qa⟩;have qe:cs.length=4:=h2 cs (yJ qf);have e0:css=css.set i cs:=(by apply uK;intro j;by_cases e:i=j;{subst e;rw[yM qa];exact qf};rw[vN e]);have b:=rC (k:=i*4+3) (rC (k:=i*4+2) (rC (k:=i*4+1) (rC (k:=i*4+0) h v0) v1) v2) v3;rw[e0,iI css h2 i qa cs 0 _ qe qO,iI css h2 i qa _ 1 _ (by simp[qe]) qO,iI css h2 i qa _ 2 _ (by simp[qe]) qO,iI css h2 i qa _ 3 _ (by simp[qe]) qO]at b;have e3:(((cs.set 0 v0).set 1 v1).set 2 v2).set 3 v3=[v0,v1,v2,v3]:=(by (rcases cs with _|⟨a0,_|⟨a1,_|⟨a2,_|⟨a3,_|⟨a4,r⟩⟩⟩⟩⟩);all_goals first|(simp at qe;done)|rfl);rw[e3]at b;exact b
theorem uS(w:World)(g i:Nat)(v0 v1 v2 v3:Value):w.grownBy ((((w.setCell (aD g (i*4)) v0).setCell (aD g (i*4+1)) v1).setCell (aD g (i*4+2)) v2).setCell (aD g (i*4+3)) v3) (some g):=
 (((aM w g (i*4) v0).trans (aM _ g (i*4+1) v1)).trans (aM _ g (i*4+2) v2)).trans (aM _ g (i*4+3) v3)
theorem bW.put{t}{w}{B g n c i:Nat}{hs:List (Nat×LN)}{z:Nat×LN}{A}{k:Nat}(h:bW t w B g n c hs)(hi:i<n)(hk:z.2.length<=k)(hA:RdF B w A (ints z.2)):
  bW t ((((w.setCell (aD g (i*4)) (vI (z.1:Int))).setCell (aD g (i*4+1)) (vI (bI t z.2:Nat))).setCell (aD g (i*4+2)) (vI 0)).setCell (aD g (i*4+3)) (.s A z.2.length k)) B g n c (hs.set i z):=by
 obtain⟨cb,hb⟩:=h.blk;obtain⟨css,h1,h2,h3,h4⟩:=h.row;have hg:=uS w g i (vI (z.1:Int)) (vI (bI t z.2:Nat)) (vI 0) (.s A z.2.length k);refine⟨by rw[yV];exact h.len,css.set i [vI (z.1:Int),vI (bI t z.2:Nat),vI 0,.s A z.2.length k],by rw[yV];exact h1,fun cs hc=>?_,jzko h3 h1 h2 hi _ _ _ _,fun j y hj=>?_⟩;{(rcases xE hc with hc|hc);{exact h2 cs hc};rw[hc];rfl};by_cases e:i=j;{subst e;(rw[yM (by have:=h.len;omega)]at hj;injection hj with hj);subst hj;exact⟨_,yM qO,A,k,rfl,hk,hA.other hg hb qD⟩};rw[vN e]at hj;obtain⟨cs,k1,k2⟩:=h4 j y hj;exact⟨cs,by rw[vN e];exact k1,k2.other hg hb qD⟩
structure KQu(t:Tp)(w:World)(B q g n c:Nat)(hs:List (Nat×LN)):Prop where
 box:Blk w q 214 #[.s (sA g) n c]
 row:bW t w B g n c hs
theorem KQu.K{t}{w w'}{B q g n c:Nat}{hs:List (Nat×LN)}(h:KQu t w B q g n c hs)(hx:Ext w w'):KQu t w' B q g n c hs:=⟨h.box.K hx,h.row.K hx⟩
theorem bW.below{t}{w w'}{B g n c b:Nat}{hs:List (Nat×LN)}(h:bW t w B g n c hs)(hg:w.grownBy w' (some b))(hB:b<B)(hgB:B<=g):bW t w' B g n c hs:=by
 obtain⟨css,h1,h2,h3,h4⟩:=h.row;refine⟨h.len,css,h1,h2,h3.kept hg (.inr (fun e=>?_)),fun i z hz=>?_⟩;{have e:some g=some b:=e;(injection e with e);omega};obtain⟨cs,k1,A,c',k2,k3,k4⟩:=h4 i z hz;exact⟨cs,k1,A,c',k2,k3,k4.below hg hB⟩
theorem bW.lo{t}{w}{B g n c:Nat}{hs:List (Nat×LN)}(h:bW t w B g n c hs):B<=g:=by
 obtain⟨css,h1,h2,h3,h4⟩:=h.row;exact(h3.lt g rfl).1
theorem KQu.below{t}{w w'}{B q g n c b:Nat}{hs:List (Nat×LN)}{cs:Array Value}(h:KQu t w B q g n c hs)(hg:w.grownBy w' (some b))(hb:Blk w b 3 cs)(hB:b<B):KQu t w' B q g n c hs:=
 ⟨(hg.block q h.box.lt (fun e=>by injection e with e;exact h.box.ne_ hb qD e)).trans h.box,h.row.below hg hB h.row.lo⟩
def fR(t:Tp)(down:List Bool)(ps:LQ):Bool:=!aH t||!dX t down||!eM t ps
def chP(t:Tp)(down:List Bool)(ps:LQ)(s d:Int):LN×Int:=
 if fR t down ps then([],1)else if fK t s d then([],2)else match fF t down ps s.toNat d.toNat with
  |none=>([],11)
  |some l=>(l,0)
def jzkp(w:World)(ps:LQ)(r:LN×Int)(e:Ending)(w':World):Prop:=
 ∃(A:OA) (c:Nat) (neg:Bool) (A1:OA) (n1 c1:Nat) (A2:OA) (n2 c2:Nat),e=.returned (.tuple #[.s A r.1.length c,.agg #[.bool neg,.s A1 n1 c1,.s A2 n2 c2],vI r.2])/\r.1.length<=c/\RdT w' 3 A (ints r.1)/\aB w' neg A1 n1 c1 A2 n2 c2 (prQ ps r.1)/\Ext w w'
def oA(w:World)(ps:LQ)(r:LN×Int)(e:Ending)(w':World):Prop:=
 ∃(A:OA) (c:Nat) (neg:Bool) (A1:OA) (n1 c1:Nat) (A2:OA) (n2 c2:Nat),e=.returned (.tuple #[.s A r.1.length c,.agg #[.bool neg,.s A1 n1 c1,.s A2 n2 c2],vI r.2])/\r.1.length<=c/\RdN w.heap.size w' A (ints r.1)/\aB w' neg A1 n1 c1 A2 n2 c2 (prQ ps r.1)/\Ext w w'
theorem oA.weak{w}{ps:LQ}{r:LN×Int}{e:Ending}{w'}(h:oA w ps r e w'):jzkp w ps r e w':=by
 obtain⟨A,c,neg,A1,n1,c1,A2,n2,c2,h1,h2,h3,h4,h5⟩:=h;exact⟨A,c,neg,A1,n1,c1,A2,n2,c2,h1,h2,h3.1,h4,h5⟩
theorem RdN.nil(B:Nat)w:RdN B w none []:=⟨RdT.nil _ _ _,fun p hp=>by cases hp⟩
theorem nO.ext{W w}{ps:LQ}{arcs:LN}{p:Value}(h:nO W ps arcs p w):Ext W w:=by
 obtain⟨_,_,_,_,_,_,_,_,_,_,_,_,_,_,_,_,h⟩:=h;exact h
structure VrR(b:Nat)(X Z:World)(a:Int)(oB oL:Option Nat):Prop where
 x:Ext X Z
 h0:b<=Z.heap.size
 sb:∀g,oB=some g->Blk Z g 3 #[vI a]
 sl:∀g,oL=some g->b<=g/\Blk Z g 170 rW
section
variable {b:Nat} {X Z Z':World} {a:Int} {oB oL:Option Nat}
theorem VrR.K(h:VrR b X Z a oB oL)(hx:Ext Z Z'):VrR b X Z' a oB oL:=⟨h.x.tr hx,yY h.h0 hx.size,fun g e=>(h.sb g e).K hx,fun g e=>⟨(h.sl g e).1,(h.sl g e).2.K hx⟩⟩
theorem VrR.re(h:VrR b X Z a oB oL):VrR b Z Z a oB oL:=⟨eR _,h.h0,h.sb,h.sl⟩
theorem VrR.ab(h:VrR b X Z a oB oL):VrR b X (Z.alloc (.cells #[vI a] 3)) a (some Z.heap.size) oL:=by
 have k:=h.K ((eR Z).alloc (.cells #[vI a] 3));exact⟨k.x,k.h0,fun g e=>by cases e;exact eN ..,k.sl⟩
theorem VrR.al(h:VrR b X Z a oB oL):VrR b X (Z.alloc (.cells rW 170)) a oB (some Z.heap.size):=by
 have k:=h.K ((eR Z).alloc (.cells rW 170));exact⟨k.x,k.h0,k.sb,fun g e=>by cases e;exact⟨h.h0,eN ..⟩⟩
theorem VrR.abl(h:VrR b X Z a oB oL):VrR b X ((Z.alloc (.cells #[vI a] 3)).alloc (.cells rW 170)) a (some Z.heap.size) (some (Z.heap.size+1)):=by
 have k:=h.ab.al;rwa [show(Z.alloc (.cells #[vI a] 3)).heap.size=Z.heap.size+1 by simp]at k
theorem VrR.alb(h:VrR b X Z a oB oL):VrR b X ((Z.alloc (.cells rW 170)).alloc (.cells #[vI a] 3)) a (some (Z.heap.size+1)) (some Z.heap.size):=by
 have k:=h.al.ab;rwa [show(Z.alloc (.cells rW 170)).heap.size=Z.heap.size+1 by simp]at k
theorem VrR.dr(h:VrR b X Z a oB oL):VrR b X Z.drew a oB oL:=h.K ((eR Z).drewN 1)
theorem VrR.calls{P:Program}{f:Nat}{args:Array Value}{Q:Ending->World->Prop}(_:VrR b X Z a oB oL)(k:Calls P f args Z Q):Calls P f args Z Q:=k
theorem VrR.wp{P:Program}{o:Oper}{c:Act}{K:Act->World->Prop}{Q:Exit->Act->World->Prop}(_:VrR b X Z a oB oL)(k:o.wp P c Z K Q):o.wp P c Z K Q:=k
end
theorem jzkq t AO(co:Nat)AL(cl:Nat)AD(cd:Nat)(down:List Bool)PP(cp:Nat)(ps:LQ)(P:Nat)(s d:Int)w(ht:bD w t AO co AL cl)(vm:Rd w AD (bH down))(hcd:down.length<=281474976710656)(hdc:down.length<=cd)(hps:QL w PP ps)(hpl:ps.length<=1000000)(hP:1<=P)(hP2:P<=1000000)(hsz:∀q∈ps,SzQ q P):
  Calls prog 49 #[.agg #[vI t.nodes,.s AO t.over.length co,.s AL t.links.length cl],.s AD down.length cd,.s PP ps.length cp,vI s,vI d] w (oA w ps (chP t down ps s d)):=by
 have HT:=Hx (ht);have jm:=Hx (vm);have yd:=Hx (hps);have vu:=Hx (hsz);have h3:=ht.ll;have h4:=ht.cl;clear ht vm hps hsz;generalize hR:chP t down ps s d=R;have HR:=Hx (hR);clear hR;obtain⟨b0,b1,e0⟩:=dK w #[vI t.nodes,.s AO t.over.length co,.s AL t.links.length cl] 25 rV 33;obtain⟨⟨i0,i1,i2⟩,g0,g1,g2⟩:=b0.t3;have BB:=Hx (kQa b0 b1);clear b0 b1;go_enter func49,ntmps49;(go_upto_region 1 with fail);go_cut [35] (fun s wx=>s=.bool (fR t down ps)/\Blk wx w.heap.size 25 #[vI t.nodes,.s AO t.over.length co,.s AL t.links.length cl]/\Blk wx (w.heap.size+1) 33 rV/\Ext w wx);(case first=>(go_wp2_with fail);refine(pH t AO co AL cl _ (HT.o.K e0)).mono ?_;rintro e w1 ⟨rfl,qo⟩;have qe:=BB.o.1.K qo;have qf:=BB.o.2.K qo;obtain⟨⟨i0,i1,i2⟩,g0,g1,g2⟩:=qe.t3;have E1:=Hx (e0.tr qo);clear qo;cases hv:aH t;(case false=>go_wp2;go_meet;exact⟨by simp[fR,hv],qe,qf,E1.o⟩);have HV:=Hx (hv);go_wp2_with fail;refine(jz9 t AO co AL cl AD cd down _ (HT.o.K E1.o)).mono ?_;rintro e w2 ⟨rfl,qH⟩;have qe:=qe.K qH;have qf:=qf.K qH;obtain⟨⟨i0,i1,i2⟩,g0,g1,g2⟩:=qe.t3;have E2:=Hx (E1.o.tr qH);clear qH;cases hf:dX t down;(case false=>go_wp2;go_meet;exact⟨by simp[fR,hf],qe,qf,E2.o⟩);have HF:=Hx (hf);go_wp2_with fail;refine(jziq t AO co AL cl PP cp ps _ (HT.o.K E2.o) (yd.o.K E2.o) hpl).mono ?_;rintro e w3 ⟨rfl,q3⟩;have qe:=qe.K q3;have qf:=qf.K q3;have E3:=Hx (E2.o.tr q3);clear q3;go_wp2;go_meet;exact⟨by simp[fR,HV.o,HF.o],qe,qf,E3.o⟩);obtain⟨rfl,qe,qf,hx⟩:=hcut;clear i0 i1 i2 g0 g1 g2 e0 BB;have EX:=Hx (hx);obtain⟨⟨i0,i1,i2⟩,g0,g1,g2⟩:=qe.t3;obtain⟨⟨j0,j1,j2⟩,k0,k1,k2⟩:=qf.t3;cases hb1:fR t down ps
 case true=>
  have hr:R=([],1):=(by rw[<-HR.o];unfold chP;rw[hb1];rfl);subst hr;go_wp2;have q4:=((qf.sT 0 bF).sT 1 zN).sT 2 zN;exact bodyPost_ret (v:=.tuple #[zN,.agg rV,vI 1]) (by simp[results,results49,go_sem,q4.cell]) rfl
   ⟨none,0,false,none,0,0,none,0,0,rfl,yX _,RdN.nil _ _,eJ _,((EX.o.sT qL _).sT qL _).sT qL _⟩
 have zV:=Hx (hb1);clear hb1;have vL:fK t s d= !(ndB t.nodes s&&ndB t.nodes d):=(by unfold fK ndB;rw[Bool.eq_iff_iff];simp;omega);have vJ:=Hx (vL);have vF:=Hx qf;clear vL qf;(go_upto_region 3 with fail);go_cut [46] (fun x wx=>x=.bool (fK t s d)/\Blk wx w.heap.size 25 #[vI t.nodes,.s AO t.over.length co,.s AL t.links.length cl]/\Blk wx (w.heap.size+1) 33 rV/\Ext w wx);(case first=>(go_wp2_with fail);refine(lJ t AO co AL cl s _).mono ?_;rintro e w1 ⟨rfl,qo⟩;have qe:=qe.K qo;have vh:=Hx (vF.o.K qo);obtain⟨⟨i0,i1,i2⟩,g0,g1,g2⟩:=qe.t3;have E1:=Hx (EX.o.tr qo);clear qo;cases hn1:ndB t.nodes s;(case false=>go_wp2;go_meet;exact⟨by rw[vJ.o,hn1];rfl,qe,vh.o,E1.o⟩);have yN:=Hx (hn1);clear hn1;go_wp2_with fail;refine(lJ t AO co AL cl d _).mono ?_;rintro e w2 ⟨rfl,qH⟩;have qe:=qe.K qH;have yx:=Hx (vh.o.K qH);have E2:=Hx (E1.o.tr qH);clear qH;go_wp2;go_meet;exact⟨by rw[vJ.o,yN.o];simp,qe,yx.o,E2.o⟩);obtain⟨rfl,qe,qf,hx⟩:=hcut;clear i0 i1 i2 g0 g1 g2 j0 j1 j2 k0 k1 k2 EX vF;have EX:=Hx (hx);obtain⟨⟨i0,i1,i2⟩,g0,g1,g2⟩:=qe.t3;obtain⟨⟨j0,j1,j2⟩,k0,k1,k2⟩:=qf.t3;clear hx;cases hb2:fK t s d
 case true=>
  have hr:R=([],2):=(by rw[<-HR.o];unfold chP;rw[zV.o,hb2];rfl);subst hr;go_wp2;have q4:=((qf.sT 0 bF).sT 1 zN).sT 2 zN;exact bodyPost_ret (v:=.tuple #[zN,.agg rV,vI 2]) (by simp[results,results49,go_sem,q4.cell]) rfl
   ⟨none,0,false,none,0,0,none,0,0,rfl,yX _,RdN.nil _ _,eJ _,((EX.o.sT qL _).sT qL _).sT qL _⟩
 have hv:aH t=true/\dX t down=true/\eM t ps=true:=(by have:=zV.o;unfold fR at this;simp at this;exact⟨this.1.1,this.1.2,this.2⟩);have x8:0<=s/\s<t.nodes/\0<=d/\d<t.nodes:=(by unfold fK at hb2;simp at hb2;omega);(have hr:R=match fF t down ps s.toNat d.toNat with|none=>([],11)|some l=>(l,0):=by rw[<-HR.o];unfold chP;rw[zV.o,hb2];rfl);obtain⟨n,rfl⟩:∃n:Nat,s=(n:Int):=⟨s.toNat,qO⟩;obtain⟨m,rfl⟩:∃m:Nat,d=(m:Int):=⟨d.toNat,qO⟩;rw[xL,xL]at hr;have v0:=Hx (hr);have HV:=Hx (hv);have SD:=Hx (x8);have vF:=Hx qf;clear hr hv x8 hb2 HR qf;go_wp2_with fail;refine(sZ t AO co AL cl _ (HT.o.K EX.o) HV.o.1).mono ?_;rintro e w1 ⟨gll,N,hN,rfl,xq,qo⟩;have qe:=qe.K qo;have vh:=Hx (vF.o.K qo);have E1:=Hx (EX.o.tr qo);have xu:=Hx (xq);clear qo xq i0 i1 i2 g0 g1 g2 j0 j1 j2 k0 k1 k2 vF EX;have vR:N<=64:=(by have:=HV.o.1;unfold aH cS inB at this;simp at this;omega);have y6:=jzix N qO;have zI:=Hx qe;rw[hN]at qe;obtain⟨⟨i0,i1,i2⟩,g0,g1,g2⟩:=qe.t3;have vV:n<N/\m<N:=(by have:=SD.o;omega);have zZ:=zI.o.lt;have zH:=vh.o.lt;have HN:=Hx (hN);clear hN qe;obtain⟨vV,jV⟩:=vV;have yu:(n:Int)<(N:Int):=qO;have jo:(madeCells rW (N*6))[n*6]?=some bF:=(by have zj:∀cs∈List.replicate N zeroCells,cs.length=6:=fun cs h=>(by rw[uF h];rfl);rw[tL,xI];have h1:=eL _ zj n 0 (by rw[xC];exact vV) qO;rw[kQ3,xB,qE vV,kQ1]at h1;rw[h1];rfl)
 have yj:cK (cZ N n)<=N:=(by have:=pR (cZ N n);simp[cZ]at this⊢;omega);have LM:=Hx (jziy w1 ps N n vV);have xy:=Hx (show iH w (w1.alloc (.cells ((madeCells rW (N*6)).setIfInBounds (n*6) (.bool true)) 170)) t AO co AL cl ps w1.heap.size gll N (cZ N n)from
  ⟨zI.o.alloc _,vh.o.alloc _,LM.o,by simp[cZ],fun l hl=>by
   have hu:=pR (cZ N n);have:l.arcs=[]:=by
    unfold cZ at hl;rcases xE hl with h|h
    ·
     rw[uF h]
    rw[h]
   rw[this];simpa using hu,xu.o.K ((eR w1).alloc _),qO,E1.o.alloc _,ArF.made _ _ _ _⟩)
 have qz:fF t down ps n m=iG t down ps m (N+1) (cZ N n):=(by unfold fF;rw[HN.o];rfl);rw[qz]at v0;clear qz;go_wp2;clear y6 jo i0 i1 i2 g0 g1 g2 zI vh LM xu E1 zZ zH;generalize hDR:iG t down ps m (N+1) (cZ N n)=DR at*;have xe:=Hx hDR;clear hDR;generalize w1.heap.size=g at*;generalize w1.alloc (.cells ((madeCells rW (N*6)).setIfInBounds (n*6) (.bool true)) 170)=w2 at*;go_loopg [15,16,18,19,20] N (fun k _ _ _ _ _ wr=>∃(f:Nat) (ls:List Lb),f=k/\cK ls<=f/\iH w wr t AO co AL cl ps g gll N ls/\iG t down ps m (f+1) ls=DR);exact⟨N,cZ N n,rfl,yj,xy.o,xe.o⟩;clear xy xe yj;obtain⟨f,ls,rfl,j8,qp,va⟩:=hrel;have qm:=jziu g ps ls wr qp.lab (jza1 hP hP2 vu.o qp.ok qp.len vR) (by rw[qp.len];omega);rw[qp.len]at qm;have qV:=Hx qm;have vx:=tK ps ls ls.length;have zQ:=nI ps ls ls.length;change cB ps ls= -1\/_ at vx;change 0<=cB ps ls->∃l,ls[(cB ps ls).toNat]?=some l/\_ at zQ;rw[iG]at va;have ST:=Hx qp;have zT:=Hx va;have FF:=Hx zQ;clear qm qp va zQ;go_wp2_with fail;refine qV.o.mono ?_;rintro e w3 ⟨rfl,q3⟩;have qg:=Hx (ST.o.K q3);clear q3 ST qV;generalize cB ps ls=q at*;by_cases hq:q<0
 ·have hr:R=([],11):=(by rw[v0.o, <-zT.o,qE hq])
  subst hr;have xo:decide (q<0)=true:=yO hq;have qf:=qg.o.rr;have EX:=Hx qg.o.ext;obtain⟨⟨j0,j1,j2⟩,k0,k1,k2⟩:=qf.t3;go_wp2;have q4:=((qf.sT 0 bF).sT 1 zN).sT 2 zN;exact bodyPost_ret (v:=.tuple #[zN,.agg rV,vI 11]) (by simp[results,results49,go_sem,q4.cell]) rfl
   ⟨none,0,false,none,0,0,none,0,0,rfl,yX _,RdN.nil _ _,eJ _,((EX.o.sT qL _).sT qL _).sT qL _⟩
 (have xo:decide (q<0)=false:=yP hq;rcases vx with vx|vx);{omega};obtain⟨v,rfl⟩:∃v:Nat,q=(v:Int):=⟨q.toNat,qO⟩;obtain⟨lv,qT,zA,q9⟩:=FF.o qO;rw[xL]at qT;have je:v<ls.length:=(yH.1 qT).1;have xi:v<N:=(by have:=qg.o.len;omega);have yo:(v:Int)<(N:Int):=qO;have q7:=zT.o;rw[qF hq,xL]at q7;have q8:=Hx q7;have qC:=Hx qT;have yi:=Hx (kQa zA q9);obtain⟨neg,A,n1,c1,A',vZ,v5,AX,cx,⟨i0,i1,i2,i3,i4,i5⟩,qZ,xK,zO⟩:=qg.o.lab.at_ qT;rw[zA]at i0;rw[q9]at i1;clear q7 zT FF qT zA q9 vx hq;by_cases yw:v=m
 ·subst yw;have jJ:((v:Int)==(v:Int))=true:=qS;have qf:=qg.o.rr;have yy:R=(lv.arcs,0):=(by rw[v0.o, <-q8.o,qE rfl];unfold dL;rw[qC.o];rfl);subst yy;obtain⟨⟨j0,j1,j2⟩,k0,k1,k2⟩:=qf.t3;have jK:g≠w.heap.size+1:=(by have:=qg.o.gg;omega);have yr:=qg.o.lab.lt;have RT:=Hx qZ;have XX:=Hx (kQa zO (qg.o.fa v _ _ _ i5));have jC:=Hx qf;clear qZ zO qf;go_wp2;go_region
  go_wp2;have q0:Blk w3 (w.heap.size+1) 33 _:=jC.o;have q1:=q0.sT 0 (.bool neg);have q2:=q1.sT 1 (.s A n1 c1);have q4:=q2.sT 2 (.s A' vZ v5);have x0:RdT w3 3 AX (ints lv.arcs):=XX.o.1;have r0:aB w3 neg A n1 c1 A' vZ v5 (prQ ps lv.arcs):=RT.o;have EX:=qg.o.ext;refine bodyPost_ret (v:=.tuple #[.s AX lv.arcs.length cx,.agg #[.bool neg,.s A n1 c1,.s A' vZ v5],vI 0]) (by simp[results,results49,go_sem,q4.cell]) rfl
   ⟨AX,cx,neg,A,n1,c1,A',vZ,v5,rfl,xK,?_,?_,?_⟩
  {refine⟨?_,XX.o.2⟩;exact((x0.sT (p:=(aD (w.heap.size+1) 0)) q0 qD _).sT (p:=(aD (w.heap.size+1) 1)) q1 qD _).sT (p:=(aD (w.heap.size+1) 2)) q2 qD _};{exact((r0.sT (p:=(aD (w.heap.size+1) 0)) q0 qD _).sT (p:=(aD (w.heap.size+1) 1)) q1 qD _).sT (p:=(aD (w.heap.size+1) 2)) q2 qD _};exact(((EX.sT qL _).sT qL _).sT qL _).drewN 1
 have jJ:((v:Int)==(m:Int))=false:=yK.2 qO;have vH:=jzaz qC.o yi.o.2;have ya:(eI ls v).length=N:=(by unfold eI;rw[qC.o,yV];exact qg.o.len);have xc:nJ (eI ls v):=fun l hl=>(by have h1:l.arcs.length+cK ls<=ls.length:=(by (unfold eI at hl;rw[qC.o]at hl;rcases xE hl with h|h);{exact qg.o.ok l h};rw[h];exact qg.o.ok lv (yJ qC.o));have:=qg.o.len;omega);have yk:=Hx (qg.o.turn (aM w3 g (v*6+1) (.bool true)) (qg.o.lab.mark qC.o) ya xc (qg.o.fa.mark qg.o.lab _));have jv:w3.frozen? (aD g (v*6+1))=false:=(by obtain⟨css,_,_,h9,_⟩:=qg.o.lab;exact h9.frozen _);have q7:=q8.o;rw[qF qO]at q7;have zW:=Hx q7;have AV:=Hx (show∃l,(eI ls v)[v]?=some l/\l.done=true/\l.arcs.length+cK (eI ls v)<N by refine⟨⟨lv.known,true,lv.arcs⟩,?_,rfl,?_⟩;{unfold eI;rw[qC.o,yM je]};have h1:=qg.o.ok lv (yJ qC.o);have h2:=qg.o.len;simp only[];omega);have xN:=Hx vH;clear vH ya xc q7 q8 qZ zO v0 i0 i2 i3 i4 i5 xK yi;(go_upto_region 14 with fail);go_cut [] (fun wx=>iH w wx t AO co AL cl ps g gll N (eI ls v));(case first=>go_wp2;go_meet;exact yk.o);clear yk qg jv i1 qC xo;obtain⟨V,v1,v2⟩:=hcut.ll;have xv:=(v1.cell v).trans (pJ _ V v xi);obtain⟨AR,cr,v3,jX,ve⟩:=v2 v xi;rw[v3]at xv;have zC:=lK t (2*t.links.length) v;change (aL t v).length<=_ at zC;have xa:=Hx hcut;have xX:=Hx ve;clear v1 v2 v3 V ve hcut;generalize hL:(aL t v).length=L at*;have HL:=Hx (hL);clear hL;generalize hM:eI ls v=ls0 at*;clear hM;go_wp2;go_loopg [18,19,20,84] L (fun k _ _ _ it wr=>∃j:Nat,L-j=k/\j<=L/\it=vI j/\RdT wr 3 AR (ints (aL t v))/\iH w wr t AO co AL cl ps g gll N (((aL t v).take j).foldl (dY t down ps m v) ls0)/\cK (((aL t v).take j).foldl (dY t down ps m v) ls0)=cK ls0/\∃l,(((aL t v).take j).foldl (dY t down ps m v) ls0)[v]?=some l/\l.done=true/\l.arcs.length+cK ls0<N);exact⟨0,rfl,yZ _,rfl,xX.o,xa.o,rfl,AV.o⟩;clear xa AV xv xX;obtain⟨j,rfl,hj,rfl,ve,qp,yl,jA⟩:=hrel;generalize hQ:((aL t v).take j).foldl (dY t down ps m v) ls0=lq at*;have HQ:=Hx (hQ);have vG:=Hx (yl);clear hQ yl;obtain⟨la,yf,vm,zE⟩:=jA;have q6:=Hx yf;have qA:=Hx vm;clear yf vm;by_cases xb:j<L
 ·obtain⟨a,ha⟩:∃a,(aL t v)[j]?=some a:=⟨_,yG (by rw[HL.o];exact xb)⟩;have jF:a<2*t.links.length:=jzaf (yJ ha);obtain⟨h,hh,jy⟩:=tA HV.o.1 jF;rw[HN.o]at jy;have jG:a<ps.length:=(by have:=HV.o.2.2;unfold eM at this;simp at this;omega);obtain⟨b,o,rfl,jR,z7⟩:=ve.rd.ints_ (k:=j) (by rw[HL.o];exact xb);rw[ha,kQ1]at z7;have vU:=qp.tt;obtain⟨⟨i0,i1,i2⟩,zk,zX,zY⟩:=vU.t3;have qk:=Hx (show((aL t v).take (j+1)).foldl (dY t down ps m v) ls0=dY t down ps m v lq a by rw[kQr,ha,kZt,HQ.o];rfl);have zz:=Hx qp;have xt:=Hx ve;have HH:=Hx (hh);clear ha qp ve hh vU HQ;go_wp2_with fail;refine(mA t AO co AL cl a _ (HT.o.K zz.o.ext) qO).mono ?_;rintro e w6 ⟨rfl,vi⟩;rw[HH.o];have qQ:=Hx (zz.o.K vi);have zu:=Hx (xt.o.K vi);clear vi zz xt i0 i1 i2 zk zX zY z7;have xr:h<lq.length:=(by have:=qQ.o.len;omega);have Qd:(h:Int)<(N:Int):=qO;obtain⟨lh,za⟩:∃lh,lq[h]?=some lh:=⟨_,yG xr⟩;obtain⟨jE,A2,n2,c2,jL,jN,jP,j3,Qa,⟨y0,y1,y2,y3,y4,y5⟩,qJ,yv,vo⟩:=qQ.o.lab.at_ za;have qh:=Hx (show dY t down ps m v lq a=if lh.done||!dF t down a m then lq else if !lh.known||cM ps (dL lq v++[a]) lh.arcs then lq.set h ⟨true,false,dL lq v++[a]⟩else lq by unfold dY;rw[HH.o,xL,za]);have vw:=Hx za;clear za;cases hld:lh.done;(case true=>rw[hld]at y1;have hS:=qh.o;rw[hld]at hS;simp only[Bool.true_or,if_true]at hS;have HS:=Hx (qk.o.trans hS);have vd:Hid (∃l,lq[v]?=some l/\l.done=true/\l.arcs.length+cK ls0<N):=Hx (⟨la,q6.o,qA.o,zE⟩);clear hS qk qh hld;go_wp2;go_roundg (L-(j+1));exact⟨j+1,rfl,qO,by go_num,zu.o,by rw[HS.o];exact qQ.o,by rw[HS.o];exact vG.o,by rw[HS.o];exact vd.o⟩;omega);rw[hld]at y1;have vU:=qQ.o.tt;obtain⟨⟨i0,i1,i2⟩,zk,zX,zY⟩:=vU.t3;have xf:t.over=[]\/aK t a<t.over.length:=(by (have:=HV.o.1;unfold aH cS at this;simp at this;rw[HH.o];have jT:=HN.o;rcases this.1.2 with e|e);{exact .inl e};right;omega);have x5:down=[]\/a<down.length:=(by (have:=HV.o.2.1;unfold dX at this;simp at this;rcases this with e|e);{exact .inl e};right;omega);have x2:=Hx xf;have x1:=Hx x5;have zS:=Hx hld;clear xf x5 vU hld;go_wp2_with fail;refine(jzg5 t AO co AL cl AD cd down a m _ (HT.o.K qQ.o.ext) qO (jm.o.K qQ.o.ext) hdc hcd x1.o (by rw[HH.o];omega) x2.o).mono ?_;rintro e w7 ⟨rfl,vO⟩;have qB:=Hx (qQ.o.K vO);have zw:=Hx (zu.o.K vO);clear vO qQ zu i0 i1 i2 zk zX zY x2 x1 y0 y1 y2 y3 y4 y5 qJ vo;cases hus:dF t down a m;(case false=>have hS:=qh.o;rw[hus]at hS;simp only[Bool.not_false,Bool.or_true,if_true]at hS;have HS:=Hx (qk.o.trans hS);have vd:Hid (∃l,lq[v]?=some l/\l.done=true/\l.arcs.length+cK ls0<N):=Hx (⟨la,q6.o,qA.o,zE⟩);clear hS qk qh hus;go_wp2;go_roundg (L-(j+1));exact⟨j+1,rfl,qO,by go_num,zw.o,by rw[HS.o];exact qB.o,by rw[HS.o];exact vG.o,by rw[HS.o];exact vd.o⟩;omega);have hS:=qh.o;rw[hus,zS.o]at hS;simp only[Bool.not_true,Bool.or_false,kZq,if_false]at hS;have HS:=Hx (qk.o.trans hS);have vq:=Hx qk.o;clear hS qk qh hus;(go_upto_region 20 with fail);obtain⟨vg,Av,nv,cv,zc,zF,zi,zd,zD,⟨yp,jk,x6,z9,x7,yh⟩,zt,yt,x3⟩:=qB.o.lab.at_ q6.o;obtain⟨qa,v7⟩:∃qa,ps[a]?=some qa:=⟨_,yG jG⟩;obtain⟨bp,op,q5,Ap,np,zg,zR,zb,zp,rfl,v4,xl,ye,xd,zP⟩:=(yd.o.K qB.o.ext).at_ v7;have jr:=Hx (show ps[a]?.getD 0=qa by rw[v7];rfl);have vy:=qB.o.lab.lt;have vp:SzQ (prQ ps la.arcs) 134217728:=(SzQ.pr hP vu.o la.arcs).mono (by have h2:la.arcs.length*(P+1)<=64*1000001:=kQq qO qO;omega);have qT:=zt.lens vp;have xz:=zP.lens ((vu.o qa (yJ v7)).mono (show P<=134217728 by omega));have xA:=Hx zt;have xp:=Hx zP;have xh:=Hx x3;have jb:la.arcs.length<=64:=qO;obtain⟨ti,hi,jq,jB,jc⟩:=info_parts Tryz.info3;have zs:=Hx zE;clear v7 zt zP x3 vp yp jk;obtain⟨W,z6⟩:∃W,W=w7:=⟨_,rfl⟩;have qB:=Hx (z6▸qB.o);subst z6;go_cut [20] (nO W ps (la.arcs++[a]))
  case first=>
   have jU:(0:Int)<=(a:Int):=qO;have j4:(a:Int)<(ps.length:Int):=qO;have qj:Hid (∀w',Ext W w'->w'.cell? (aD g (v*6+2))=some (.bool vg)/\w'.cell? (aD g (v*6+3))=some (.s Av nv cv)/\w'.cell? (aD g (v*6+4))=some (.s zc zF zi)/\w'.cell? (aD g (v*6+5))=some (.s zd la.arcs.length zD)/\w'.cell? (aD bp (op+a*3))=some (.bool q5)/\w'.cell? (aD bp (op+a*3+1))=some (.s Ap np zg)/\w'.cell? (aD bp (op+a*3+2))=some (.s zR zb zp)):=Hx (fun w' hx=>⟨(hx.cell vy).trans x6,(hx.cell vy).trans z9,(hx.cell vy).trans x7,(hx.cell vy).trans yh,(hx.cell v4).trans xl,(hx.cell v4).trans ye,(hx.cell v4).trans xd⟩);have XB:=Hx (eR W);have V:Hid (VrR W.heap.size W W (a:Int) none none):=Hx (⟨eR W,yX _,fun _ h=>(by cases h),fun _ h=>(by cases h)⟩)
   go_region_held3 (fun w'=>w'.cell? (aD g (v*6+2))=some (.bool vg)/\w'.cell? (aD g (v*6+3))=some (.s Av nv cv)/\w'.cell? (aD g (v*6+4))=some (.s zc zF zi)/\w'.cell? (aD g (v*6+5))=some (.s zd la.arcs.length zD)/\w'.cell? (aD bp (op+a*3))=some (.bool q5)/\w'.cell? (aD bp (op+a*3+1))=some (.s Ap np zg)/\w'.cell? (aD bp (op+a*3+2))=some (.s zR zb zp))
   (first|with_reducible exact qj.o _ XB.o|with_reducible exact qj.o _ (XB.o.alloc _)|with_reducible exact qj.o _ ((XB.o.alloc _).alloc _)|with_reducible exact qj.o _ V.o.dr.x|with_reducible exact qj.o _ V.o.ab.dr.x|with_reducible exact qj.o _ V.o.al.dr.x|with_reducible exact qj.o _ V.o.abl.dr.x|with_reducible exact qj.o _ V.o.alb.dr.x|with_reducible exact qj.o _ vT.o.ext|fail "none")
   (first
   |(rw[qE qR]
     first
     |(have U:=Hx V.o;with_reducible refine U.o.wp ?_)
     |(have U:=Hx V.o.ab;with_reducible refine U.o.wp ?_)
     |(have U:=Hx V.o.al;with_reducible refine U.o.wp ?_)
     |(have U:=Hx V.o.abl;with_reducible refine U.o.wp ?_)
     |(have U:=Hx V.o.alb;with_reducible refine U.o.wp ?_)
     refine mD _ (.tmp 117) (.tmp 119) 42 qR W.heap.size 3 ti (vI 0) 8 underlying42 hi jq jB jc rfl v6 la.arcs.length (ints la.arcs) qR (O6.o.kept (eZ U.o.x) (fA _)) (some ⟨_,0,none⟩) 1 1 [vI (a:Int)] qR rfl (jziz (U.o.sb _ rfl)) (fun h=>by cases h) (fun u hu=>by simp at hu;subst hu;rfl) (by unfold maxLen;omega) qO (XB.o.tr U.o.x).size ?_;intro v8 w8 qy qi _;obtain⟨g8,c8,rfl,yc⟩:=jzh0 qy;have zo:=Lib.ownsRow_kind (O6.o.kept (eZ U.o.x) (fA _));have X8:Hid (Ext W w8):=Hx (Below.grown (XB.o.tr U.o.x) qi (XB.o.tr U.o.x).size (fun k hk=>(O6.o.lt k hk).1));have R8:=Hx ((R6.o.K U.o.x).gK qi zo qD);have zK:=jzi0 qy;have vW:(la.arcs++[a]).length=la.arcs.length+1:=qS;have zL:=Hx (jzi1 (W:=W) (ps:=ps) (arcs:=la.arcs++[a]) (k:=la.arcs.length+1) (cx:=c8) vW R8.o (by rw[vW];exact yc) zK X8.o)
     first
     |(have qt:=Hx (Blk.gK (U.o.sl _ rfl).2 qi zo qD)
       have vT:=Hx (jzi2 (W:=W) (ps:=ps) (arcs:=la.arcs++[a]) (k:=la.arcs.length+1) (cx:=c8) vW qt.o R8.o (by rw[vW];exact yc) zK (U.o.sl _ rfl).1 X8.o);have l0:=qt.o.cell 0;have jS:=qt.o.frozen 0;have l1:=qt.o.cell 1;have j9:=qt.o.frozen 1;have l2:=qt.o.cell 2;have jM:=qt.o.frozen 2;have l3:=qt.o.cell 3;have jZ:=qt.o.frozen 3;have l4:=qt.o.cell 4;have Qb:=qt.o.frozen 4;have l5:=qt.o.cell 5;have j5:=qt.o.frozen 5)
     |skip
     have XB:=X8;clear qy qi zo zK U)
   |(go_at_call 108
     first
     |(have U:=Hx V.o;with_reducible refine U.o.calls ?_)
     |(have U:=Hx V.o.ab;with_reducible refine U.o.calls ?_)
     |(have U:=Hx V.o.al;with_reducible refine U.o.calls ?_)
     |(have U:=Hx V.o.abl;with_reducible refine U.o.calls ?_)
     |(have U:=Hx V.o.alb;with_reducible refine U.o.calls ?_)
     refine(jza2 zd zD la.arcs _ (xh.o.K (XB.o.tr U.o.x)) qO).mono ?_;rintro e jp ⟨v6,rfl,qW,vi⟩;have E6:=Hx (U.o.K vi);have R6:=Hx (R5.o.K E6.o.x);have O6:Hid (jp.ownsRow W.heap.size 3 1 v6 la.arcs.length (ints la.arcs)):=Hx (qW.mono (XB.o.tr U.o.x).size);have XB:=Hx (XB.o.tr E6.o.x);have V:=Hx E6.o.re;clear qW vi U)
   |(go_at_call 18
     first
     |(have U:=Hx V.o.dr;with_reducible refine U.o.calls ?_)
     |(have U:=Hx V.o.ab.dr;with_reducible refine U.o.calls ?_)
     |(have U:=Hx V.o.al.dr;with_reducible refine U.o.calls ?_)
     |(have U:=Hx V.o.abl.dr;with_reducible refine U.o.calls ?_)
     |(have U:=Hx V.o.alb.dr;with_reducible refine U.o.calls ?_)
     refine(kF vg q5 Av nv cv zc zF zi Ap np zg zR zb zp (prQ ps la.arcs) qa _ (xA.o.K U.o.x) (xp.o.K U.o.x) qT.1 qT.2 xz.1 xz.2 (gI (kQx (kQ7 _) (kQ7 _)))).mono ?_;rintro e w5 ⟨zJ,A5,n5,c5,y7,jw,jt,rfl,yg,zh⟩;have R5:=Hx (show aB w5 zJ A5 n5 c5 y7 jw jt (prQ ps (la.arcs++[a])) by rw[jzit,jr.o];exact yg);have XB:=Hx (U.o.K zh).x;have V:=Hx (U.o.K zh).re;clear zh yg U)
   |fail "no arm")
   all_goals
    go_wp2;go_meet
    first|exact zL.o|exact vT.o
  generalize hnx:la.arcs++[a]=nx at*;have xm:=Hx hnx;have jW:nx.length<=65:=(by rw[<-hnx];simp;omega);clear hnx;obtain⟨gl,vc,A9,n9,c9,zM,zy,ze,v9,zm,rfl,bl,r9,zG,⟨x9,y9⟩,yr,zq⟩:=hcut;have ji:Hid (∀p,v9=some p->w.heap.size<=p.block):=Hx (fun p hp=>yY qB.o.ext.size (y9 p hp));clear y9;have qI:=Hx (qB.o.K zq);have x4:=Hx (zw.o.K zq);have qn:=Hx bl;have R9:=Hx r9;have X9:=Hx x9;have jd:gl≠g:=qO;obtain⟨zv,A3,n3,c3,jj,jg,jl,yz,jz,⟨y0,y1,y2,y3,y4,y5⟩,zf,zU,xx⟩:=qI.o.lab.at_ vw.o;have R3:=Hx zf;have X3:=Hx xx;have qw:=qI.o.lab.lt;have z8:=Hx (show dL lq v=la.arcs by unfold dL;rw[q6.o];rfl);have vz:SzQ (prQ ps nx) 268435456:=(SzQ.pr hP vu.o nx).mono (by have h2:nx.length*(P+1)<=65*1000001:=kQq qO qO;omega);have qY:=jza1 hP hP2 vu.o qI.o.ok qI.o.len vR lh (yJ vw.o);have xw:=r9.lens vz;have xk:=zf.lens qY.1;have zB:=qY.2;clear bl r9 x9 zf xx zq vz qY qB zw x6 z9 x7 yh xl ye xd xA xp xh vy v4;(go_upto_region 21 with fail);go_cut [136] (fun s wx=>s=.bool (!lh.known||cM ps nx lh.arcs)/\Ext wc wx);(case first=>obtain⟨lk,ld,qX⟩:=lh;simp only[]at y0 y5 zU zB;have z0:=XW.cell _ _ _ qw y0;cases lk;(case false=>refine dG qK qK ?_;(repeat (go_big_quiet_step (fail)));refine wpQuiet_nil ?_;rintro _ ⟨x,rfl⟩;go_wp2;go_meet;exact⟨rfl,x.ext⟩);have z1:=XW.cell _ _ _ qw y1;have z2:=XW.cell _ _ _ qw y2;have z3:=XW.cell _ _ _ qw y3;have z4:=XW.cell _ _ _ qw y4;have z5:=XW.cell _ _ _ qw y5;have u0:=XW.cell _ _ _ qn.o.lt (qn.o.cell 0);have u1:=XW.cell _ _ _ qn.o.lt (qn.o.cell 1);have u2:=XW.cell _ _ _ qn.o.lt (qn.o.cell 2);have u3:=XW.cell _ _ _ qn.o.lt (qn.o.cell 3);have u4:=XW.cell _ _ _ qn.o.lt (qn.o.cell 4);have u5:=XW.cell _ _ _ qn.o.lt (qn.o.cell 5);have jQ:(0:Int)<=(h:Int):=qO;refine dG qK qK ?_;(repeat (go_big_quiet_step ((go_at_call 109;exact Calls.ext_of (jzax _ _ vc _ _ zv A9 n9 c9 zM zy ze A3 n3 c3 jj jg jl v9 yz zm jz (prQ ps nx) (prQ ps qX) nx qX _ (R9.o.K (XW.ext _)) (R3.o.K (XW.ext _)) xw.1 xw.2 xk.1 xk.2 (X9.o.rd.K (XW.ext _)) (X3.o.rd.K (XW.ext _)) qO qO)))));refine wpQuiet_nil ?_;rintro _ ⟨x,rfl⟩;go_wp2;go_meet;exact⟨rfl,x.ext⟩);obtain⟨rfl,vj⟩:=hcut;have qx:=Hx (qI.o.K vj);have xg:=Hx (x4.o.K vj);have vk:=Hx (qn.o.K vj);have jn:Hid (LbR _ ps [.bool true,bF,.bool vc,.s A9 n9 c9,.s zM zy ze,.s v9 nx.length zm] ⟨true,false,nx⟩):=Hx (⟨vc,A9,n9,c9,zM,zy,ze,v9,zm,rfl,R9.o.K vj,zG,X9.o.K vj⟩);have vl:=HS.o;rw[z8.o,xm.o]at vl;have xj:=Hx (show cK (((aL t v).take (j+1)).foldl (dY t down ps m v) ls0)=cK ls0 by rw[vq.o,jza0];exact vG.o);clear vj qI x4 qn R9 X9 R3 X3 y0 y1 y2 y3 y4 y5 HS z8;cases hcnd:(!lh.known||cM ps nx lh.arcs);(case false=>have HS:=Hx (show((aL t v).take (j+1)).foldl (dY t down ps m v) ls0=lq by rw[vl,hcnd];rfl);have vd:Hid (∃l,lq[v]?=some l/\l.done=true/\l.arcs.length+cK ls0<N):=Hx (⟨la,q6.o,qA.o,zs.o⟩);clear vl hcnd;go_wp2;go_roundg (L-(j+1));exact⟨j+1,rfl,qO,by go_num,xg.o,by rw[HS.o];exact qx.o,xj.o,by rw[HS.o];exact vd.o⟩;omega);have HS:=Hx (show((aL t v).take (j+1)).foldl (dY t down ps m v) ls0=lq.set h ⟨true,false,nx⟩ by rw[vl,hcnd];rfl);obtain⟨jf,A4,n4,c4,j6,Qc,jO,jY,j7,⟨y0,y1,y2,y3,y4,y5⟩,_,_,_⟩:=qx.o.lab.at_ vw.o;obtain⟨css,_,_,qU,_⟩:=qx.o.lab;have f0:=qU.frozen (h*6);have f1:=qU.frozen (h*6+1);have f2:=qU.frozen (h*6+2);have f3:=qU.frozen (h*6+3);have f4:=qU.frozen (h*6+4);have f5:=qU.frozen (h*6+5);have l0:=vk.o.cell 0;have l1:=vk.o.cell 1;have l2:=vk.o.cell 2;have l3:=vk.o.cell 3;have l4:=vk.o.cell 4;have l5:=vk.o.cell 5;simp only[xI,kQi,List.getElem?_cons_succ]at l0 l1 l2 l3 l4 l5;have yq:=Hx qU;have jH:h≠v:=(by (rintro rfl;have e1:=q6.o;rw[vw.o]at e1;injection e1 with e1);have e2:=qA.o;rw[<-e1,zS.o]at e2;cases e2);have zn:nx.length=la.arcs.length+1:=(by rw[<-xm.o];simp);have qM:=jzay (l:=⟨true,false,nx⟩) vw.o zS.o rfl;have vn:nJ (lq.set h ⟨true,false,nx⟩):=fun l hl=>(by (rw[qM,yV,qx.o.len];rcases xE hl with h9|h9);{have:=qx.o.ok l h9;rw[qx.o.len]at this;exact this};rw[h9];have h1:=zs.o;have h2:=vG.o;simp only[];omega);have y8:=Hx vn;have vd:Hid (∃l,(lq.set h ⟨true,false,nx⟩)[v]?=some l/\l.done=true/\l.arcs.length+cK ls0<N):=Hx (⟨la,by rw[vN jH];exact q6.o,qA.o,zs.o⟩);have jD:=Hx (qx.o.lab.put xr jn.o);have jx:=Hx (show(lq.set h ⟨true,false,nx⟩).length=N by rw[yV];exact qx.o.len);clear vl hcnd qU zn qM vn;go_wp2;go_roundg (L-(j+1));exact⟨j+1,rfl,qO,by go_num,xg.o.other (jza3 _ _ _ _ _ _ _ _ _) yq.o qD,by rw[HS.o];exact qx.o.turn (jza3 _ _ _ _ _ _ _ _ _) jD.o jx.o y8.o (qx.o.fa.put qx.o.lab _ _ _ _ _ ji.o),xj.o,by rw[HS.o];exact vd.o⟩;omega
 have ja:j=L:=qO;subst ja;have vt:iG t down ps m f lq=DR:=(by have h1:=zW.o;have h2:=HQ.o;rw[yU (by rw[HL.o];exact yX _)]at h2;rw[<-h1, <-h2]);have jI:1<=f:=(by have:=xN.o;omega);have vK:=Hx (show cK lq<=f-1/\iG t down ps m (f-1+1) lq=DR by refine⟨?_,by rw[Nat.sub_add_cancel jI];exact vt⟩;have h1:=xN.o;have h2:=vG.o;omega);have qI:=Hx qp;clear vt qp ve;go_wp2;go_roundg (f-1);exact⟨f-1,lq,rfl,vK.o.1,qI.o,vK.o.2⟩;omega
end Go.Proofs.YtfeeacaofjpkaaaGreatDoor
namespace Go.Proofs.YtfeeacaofjpkaaaGreatDoor
open Go.Proofs.Tryz
theorem jzck(q:Rat):aC q<0↔q<0:=by
 have h:q.num<0↔q<0:=(by rw[<-Int.not_le,Rat.num_nonneg,Rat.not_le]);unfold aC;split;{rename_i h0;rw[<-h,h0]};split;{rename_i h1;exact⟨fun _=>h.1 h1,fun _=>qD⟩};rename_i h1;exact⟨fun x=>qO,fun x=>absurd (h.2 x) h1⟩
open Go.RowKit Go.ChangeShapes Go.WideShapes Go.Deep
theorem jzkr{α:Type}(mk:α->List Value)(k:Nat)(hk:∀a,(mk a).length=k)(l:List α)(i r:Nat)(hi:i<l.length)(hr:r<k):(l.flatMap mk)[i*k+r]?=(mk l[i])[r]?:=by
 (induction l generalizing i with|nil=>simp at hi|cons a l ih=>(cases i with|zero=>simp only[xU,Nat.zero_mul,kQu,yB];rw[yR (by rw[hk];exact hr)]|succ i=>simp only[xU,yC];rw[yS (by rw[hk,xP];omega),hk,show(i+1)*k+r-k=i*k+r by rw[xP];omega];exact ih i (by simpa using hi)))
theorem jzks{α:Type}(mk:α->List Value)(k:Nat)(hk:∀a,(mk a).length=k)(l:List α):(l.flatMap mk).length=l.length*k:=by
 (induction l with|nil=>simp|cons a l ih=>rw[xU,yQ,ih,hk,kQo,xP];omega)
theorem jzkt{w:World}{a:Addr}{v:Value}(h:w.cell? a=some v):a.spot=none/\a.block<w.heap.size:=by
 unfold World.cell? at h;split at h;{rename_i hb;split at h;{cases h};rename_i hs;refine⟨by cases ha:a.spot <;> simp_all,Nat.lt_of_not_le fun hge=>by rw[kQn hge]at hb;cases hb⟩};cases h
theorem uT{H:Type}{enc:TypeId×Value->H}{P:Program}{w}{base:Nat}{spare:Nat->Bool}{held:Bool}{α:Type}[Inhabited α](mk:α->List Value)(wf:α->Prop)(k:Nat)(hk1:0<k)(hk:∀a,(mk a).length=k){t e:TypeId}{fuel:Nat}{cs:List Value}{x:DataW H×List MemPlace}
  (ht:P.underlying t=some (.slice e)) (hc:P.cellsOf e=k) (hel:∀(n:Nat) (qe:List Value) (y:DataW H×List MemPlace),DataW.trod enc P w base spare held n e qe=some y->∃a,qe=mk a/\wf a)
  (h:DataW.trod enc P w base spare held fuel t cs=some x):
  ∃(A:OA) (l:List α) (c:Nat),cs=[.s A l.length c]/\l.length<=c/\c<=maxLen/\(∀a∈l,wf a)/\Rd w A (l.flatMap mk):=by
 (rcases open_slice ht h with⟨rfl,_⟩|⟨a,len,cap,m,n,D,Pl,rfl,hb,hl,hm,hmm,rfl,hx⟩);{exact⟨none,[],0,rfl,yX _,yZ _,(fun _ h=>by cases h),Rd.nil _ _⟩};have qj:len<=m:=(by rw[hmm];split <;> omega);obtain⟨F,hF⟩:=choose_lt (α:=α) (p:=fun i v=>w.cells? base (a.add (i*k)) k=some (mk v)/\wf v) (n:=m) (fun i hi=>by obtain⟨qe,h1,h2⟩:=hx i hi;rw[hc]at h1;obtain⟨v,rfl,hv⟩:=hel _ _ _ h2;exact⟨v,h1,hv⟩);refine⟨some a,(List.range len).map F,cap,qS,by simpa using hl,hm,?_,?_⟩;{intro v hv;obtain⟨i,hi,rfl⟩:=kQl.1 hv;exact(hF i (by have:=vX.1 hi;omega)).2};intro qi;have qf:0<len:=(by (rcases kQm len with h0|h0);{subst h0;simp at qi};exact h0);have qa:∀i r,i<len->r<k->w.cell? (a.add (i*k+r))=(mk (F i))[r]?:=fun i r hi hr=>(by have:=(World.cells?_some (hF i qO).1).2.2 r hr;rwa [add_add]at this);have qh:=qa 0 0 qf hk1;rw[show a.add (0*k+0)=a from by simp[Addr.add],yG (by rw[hk];exact hk1)]at qh;obtain⟨hs,qg⟩:=jzkt qh;obtain⟨b,o,s⟩:=a;simp only at hs qg;subst hs;refine⟨b,o,rfl,qg,fun j hj=>?_⟩;rw[jzks mk k hk,xV,kZm]at hj;have hd:j/k<len:=Nat.div_lt_of_lt_mul (by rw[vE];exact hj);have hr:=xT j hk1;have h1:=qa (j/k) (j%k) hd hr;have h2:=jzkr mk k hk ((List.range len).map F) (j/k) (j%k) (by simpa using hd) hr;rw[mC,vE,kZj]at h1;rw[vE (j/k) k,kZj]at h2;rw[h1,h2];simp
theorem jzku{n:Int}(h:(Lit.int .i64 n).wf=true):i64 n:=by
 simp[Lit.wf,IntKind.min,IntKind.max,IntKind.signed,IntKind.bits]at h;unfold i64;omega
theorem jzkv(l:List Bool):bH l=l.flatMap fun b:Bool=>[Value.bool b]:=by
 (induction l with|nil=>rfl|cons a l ih=>rw[xU, <-ih];rfl)
theorem jzkw{H:Type}{enc:TypeId×Value->H}{P:Program}{w}{base:Nat}{spare:Nat->Bool}{held:Bool}{t e:TypeId}{fuel:Nat}{cs:List Value}{x:DataW H×List MemPlace}
  (ht:P.underlying t=some (.slice e)) (he:P.underlying e=some .bool) (hc:P.cellsOf e=1) (h:DataW.trod enc P w base spare held fuel t cs=some x):
  ∃(A:OA) (l:List Bool) (c:Nat),cs=[.s A l.length c]/\l.length<=c/\c<=maxLen/\Rd w A (bH l):=by
 obtain⟨A,l,c,h1,h2,h3,_,h5⟩:=uT (fun b:Bool=>[Value.bool b]) (fun _=>True) 1 qD (fun _=>rfl) ht hc (fun n cs' y hy=>by obtain⟨b,rfl,_⟩:=DataW.trod_bool he hy;exact⟨b,rfl,trivial⟩) h;refine⟨A,l,c,h1,h2,h3,?_⟩;rw[jzkv];exact h5
instance:Inhabited Lk:=⟨⟨0,0,0,0,0,0,0⟩⟩
theorem jzkx{α:Type}{l:List α}(h:l.length=7):∃a b c d e f g,l=[a,b,c,d,e,f,g]:=by
 match l,h with
 | [a,b,c,d,e,f,g],_=>exact⟨a,b,c,d,e,f,g,rfl⟩
theorem gE{α:Type}{l:List α}{n:Nat}(i:Nat)(h:l.length=n)(hi:i<n):∃y,l[i]?=some y:=⟨_,yG qO⟩
section
variable {H:Type} {enc:TypeId×Value->H} {w:World} {base:Nat} {spare:Nat->Bool} {held:Bool}
theorem Tryz.cells_int:prog.cellsOf 3=1:=by kernel_rfl
theorem gF{n:Nat}{v:Value}{y:Option (DataW H×List MemPlace)}{z:DataW H×List MemPlace}(hy:y=some z)(h:DataW.trod enc prog w base spare held n 3 [v]=y):∃x,v=vI x/\i64 x:=by
 rw[hy]at h;obtain⟨x,e,_,hw⟩:=DataW.trod_int underlying3 h;exact⟨x,by simpa using e,jzku hw⟩
theorem jzky{n:Nat}{cs:List Value}{y:DataW H×List MemPlace}(h:DataW.trod enc prog w base spare held n 63 cs=some y):∃l:Lk,cs=l.cells/\l.wf:=by
 obtain⟨xs,m,_,_,hl,qa,hf⟩:=DataW.trod_struct underlying63 h;have c7:prog.cellsOf 63=7:=qK;have c2:prog.cellsOf 61=2:=qK;have c1:=Tryz.cells_int;rw[c7]at hl;obtain⟨a0,a1,a2,a3,a4,a5,a6,rfl⟩:=jzkx hl;have qa:xs.length=6:=qa;have h0:DataW.trod enc prog w base spare held m 3 (List.take (prog.cellsOf 3) (List.drop 0 [a0,a1,a2,a3,a4,a5,a6]))=xs[0]?:=hf 0 _ rfl;have h1:DataW.trod enc prog w base spare held m 3 (List.take (prog.cellsOf 3) (List.drop 1 [a0,a1,a2,a3,a4,a5,a6]))=xs[1]?:=hf 1 _ rfl;have h2:DataW.trod enc prog w base spare held m 61 (List.take (prog.cellsOf 61) (List.drop 2 [a0,a1,a2,a3,a4,a5,a6]))=xs[2]?:=hf 2 _ rfl;have h3:DataW.trod enc prog w base spare held m 3 (List.take (prog.cellsOf 3) (List.drop 4 [a0,a1,a2,a3,a4,a5,a6]))=xs[3]?:=hf 3 _ rfl;have h4:DataW.trod enc prog w base spare held m 3 (List.take (prog.cellsOf 3) (List.drop 5 [a0,a1,a2,a3,a4,a5,a6]))=xs[4]?:=hf 4 _ rfl;have h5:DataW.trod enc prog w base spare held m 3 (List.take (prog.cellsOf 3) (List.drop 6 [a0,a1,a2,a3,a4,a5,a6]))=xs[5]?:=hf 5 _ rfl;clear hf h;obtain⟨y0,e0⟩:=gE 0 qa qO;obtain⟨y1,e1⟩:=gE 1 qa qO;obtain⟨y2,e2⟩:=gE 2 qa qO;obtain⟨y3,e3⟩:=gE 3 qa qO;obtain⟨y4,e4⟩:=gE 4 qa qO;obtain⟨y5,e5⟩:=gE 5 qa qO;rw[c1]at h0 h1 h3 h4 h5;rw[c2]at h2;obtain⟨x0,rfl,g0⟩:=gF e0 h0;obtain⟨x1,rfl,g1⟩:=gF e1 h1;obtain⟨x4,rfl,g4⟩:=gF e3 h3;obtain⟨x5,rfl,g5⟩:=gF e4 h4;obtain⟨x6,rfl,g6⟩:=gF e5 h5;rw[e2]at h2;obtain⟨zs,m2,_,_,_,hz,qe⟩:=DataW.trod_array underlying61 h2;have k0:=qe 0 qD;have k1:=qe 1 qD;obtain⟨z0,d0⟩:=gE 0 hz qO;obtain⟨z1,d1⟩:=gE 1 hz qO;simp only[c1]at k0 k1;obtain⟨x2,rfl,g2⟩:=gF d0 k0;obtain⟨x3,rfl,g3⟩:=gF d1 k1;exact⟨⟨x0,x1,x2,x3,x4,x5,x6⟩,rfl,g0,g1,g2,g3,g4,g5,g6⟩
theorem jzkz{v:Value}{d:DataW H}{p:List MemPlace}{r:Reach}{b0:Nat}(hv:Value.okWide prog w r b0 25 v)(h:DataW.Trod enc prog w base spare held 25 v d p):
  ∃(t:Tp) (AO:OA) (co:Nat) (AL:OA) (cl:Nat),v=.agg #[vI t.nodes,.s AO t.over.length co,.s AL t.links.length cl]/\i64 t.nodes/\t.over.length<=co/\t.links.length<=cl/\co<=maxLen/\cl<=maxLen/\Rd w AO (bH t.over)/\Rd w AL (t.links.flatMap Lk.cells)/\∀l∈t.links,l.wf:=by
 obtain⟨v0,v1,v2,y0,y1,y2,n,rfl,_,_,h0,h1,h2⟩:=Joins.open_agg3 underlying25 qK qK hv h;obtain⟨N,rfl,hN⟩:=gF rfl h0;obtain⟨AO,over,co,e1,l1,m1,r1⟩:=jzkw underlying22 underlying4 qK h1;obtain⟨AL,links,cl,e2,l2,m2,wf,r2⟩:=uT Lk.cells Lk.wf 7 qD (fun _=>rfl) underlying23 qK (fun n cs y hy=>jzky hy) h2;injection e1 with e1
 injection e2 with e2
 subst e1 e2;exact⟨⟨N,over,links⟩,AO,co,AL,cl,rfl,hN,l1,l2,m1,m2,r1,r2,wf⟩
end
end Go.Proofs.YtfeeacaofjpkaaaGreatDoor
namespace Go.Proofs.YtfeeacaofjpkaaaGreatDoor
open Go.Proofs.Tryz
open Go.RowKit
theorem jzcl t(down:List Bool)(d:Nat):∀(f:Nat) (path:LN) (n:Nat) (seen:List Bool),∀p∈bM t down d f path n seen,p.length<path.length+f
 |0,path,n,seen,p,hp=>by simp[bM]at hp
 |f+1,path,n,seen,p,hp=>by
  unfold bM at hp
  split at hp
  ·simp at hp;subst hp;omega
  ·split at hp
   ·simp at hp
   ·obtain⟨a,_,h⟩:=kZx.1 hp
    split at h
    ·simp at h
    ·have:=jzcl t down d f _ _ _ p h
     simp at this;omega
theorem jzcm{a b c:Rat}(h1:a<b)(h2:b<c):a<c:=by
 have h3:=kQs (vB h1) (vB h2);refine Rat.lt_of_le_of_ne h3 ?_;rintro rfl;exact(kQ4.2 (vB h1)) h2
theorem jzk0(a b:Rat):a<b\/a=b\/b<a:=by
 by_cases h:a<b;{exact .inl h};by_cases h2:b<a;{exact .inr (.inr h2)};exact .inr (.inl (Rat.le_antisymm (kQ4.1 h2) (kQ4.1 h)))
theorem iU(ps:LQ)(x y:LN):cM ps x y=true↔prQ ps x<prQ ps y\/(prQ ps x=prQ ps y/\(x.length<y.length\/(x.length=y.length/\bP x y<0))):=by
 unfold cM nH or3 bG aS;rw[decide_eq_true_iff];by_cases h1:prQ ps x<prQ ps y;{simp[h1]};by_cases h2:prQ ps x=prQ ps y;{by_cases h3:x.length<y.length;{simp[h1,h2,h3,kZf]};by_cases h4:x.length=y.length;{simp[h1,h2,h3,h4,kZf]};simp[h1,h2,h3,h4,kZf]};simp[h1,h2]
theorem jzcn:∀x y:LN,x.length=y.length->¬bP x y<0->¬bP y x<0->x=y
 | [],[],_,_,_=>rfl
 |a::x,b::y,hl,h1,h2=>by
  unfold bP at h1 h2;by_cases e:a<b
  ·rw[qE e]at h1;omega
  ·by_cases e2:a=b
   ·subst e2
    simp at h1 h2 hl;rw[jzcn x y hl qO qO]
   ·rw[qE qO]at h2;omega
theorem jzk1:∀x y:LN,x.length=y.length->x=y\/bP x y<0\/bP y x<0:=fun x y h=>by
 by_cases h1:bP x y<0;{exact .inr (.inl h1)};{by_cases h2:bP y x<0;{exact .inr (.inr h2)};{exact .inl (jzcn x y h h1 h2)}}
theorem uU:∀x y z:LN,x.length=y.length->y.length=z.length->bP x y<0->bP y z<0->bP x z<0
 | [],[],[],_,_,h,_=>h
 |a::x,b::y,c::z,hl,hl2,h1,h2=>by
  unfold bP at h1 h2⊢;simp only[kQo]at hl hl2;by_cases e1:a<b <;> by_cases e2:b<c <;> by_cases e3:a=b <;> by_cases e4:b=c <;> simp[e1,e2,e3,e4]at h1 h2⊢ <;> try omega
  ·subst e3 e4
   exact uU x y z qO qO h1 h2
theorem uV:∀x:LN,bP x x=0
 | []=>rfl
 |a::x=>by unfold bP;simp[uV x]
theorem jzco:∀(x y z:LN),x.length=y.length->bP x y<0->bP (x++z) (y++z)<0
 | [],[],_,_,h=>by simp[bP]at h
 |a::x,b::y,z,hl,h=>by
  simp only[List.cons_append];unfold bP at h⊢;by_cases e:a<b
  ·simp[e]
  ·by_cases e2:a=b
   ·subst e2
    simp at h⊢;exact jzco x y z (by simpa using hl) h
   ·simp[e,e2]at h
def leL(ps:LQ)(x y:LN):Prop:=cM ps y x=false
theorem mP(ps:LQ)(x y:LN):leL ps x y↔x=y\/cM ps x y=true:=by
 unfold leL;constructor;{intro h;(have h':¬cM ps y x=true:=(by simp[h]);rw[iU]at h';rcases jzk0 (prQ ps x) (prQ ps y)with h1|h1|h1);{exact .inr ((iU ps x y).2 (.inl h1))};{(rcases Nat.lt_trichotomy x.length y.length with h2|h2|h2);{exact .inr ((iU ps x y).2 (.inr ⟨h1,.inl h2⟩))};{(rcases jzk1 x y h2 with h3|h3|h3);{exact .inl h3};{exact .inr ((iU ps x y).2 (.inr ⟨h1,.inr ⟨h2,h3⟩⟩))};exact absurd (.inr ⟨h1.symm,.inr ⟨h2.symm,h3⟩⟩) h'};exact absurd (.inr ⟨h1.symm,.inl h2⟩) h'};exact absurd (.inl h1) h'};(intro h;apply Bool.eq_false_iff.2;intro hb;rw[iU]at hb;rcases h with h|h);{subst h;(rcases hb with h1|⟨_,h1|⟨_,h1⟩⟩);{exact kZf h1};{omega};rw[uV]at h1;omega};(rw[iU]at h;rcases h with h1|⟨h1,h2⟩);{(rcases hb with h3|⟨h3,_⟩);{exact kZf (jzcm h1 h3)};rw[h3]at h1;exact kZf h1};(rcases hb with h3|⟨_,h3⟩);{rw[h1]at h3;exact kZf h3};(rcases h2 with h2|⟨h2,h4⟩ <;> rcases h3 with h3|⟨h3,h5⟩ <;> try omega);have:=uU x y x h2 h3 h4 h5;rw[uV]at this;omega
theorem jzk2{ps:LQ}{x y z:LN}(h1:cM ps x y=true)(h2:cM ps y z=true):cM ps x z=true:=by
 (rw[iU]at*;rcases h1 with h1|⟨h1,h1'⟩ <;> rcases h2 with h2|⟨h2,h2'⟩);{exact .inl (jzcm h1 h2)};{exact .inl (by rw[<-h2];exact h1)};{exact .inl (by rw[h1];exact h2)};(refine .inr ⟨h1.trans h2,?_⟩;rcases h1' with h1'|⟨h1',g1⟩ <;> rcases h2' with h2'|⟨h2',g2⟩);{exact .inl qO};{exact .inl qO};{exact .inl qO};exact .inr ⟨qO,uU x y z h1' h2' g1 g2⟩
theorem leL.refl(ps:LQ)(x:LN):leL ps x x:=(mP ps x x).2 (.inl rfl)
theorem leL.trans{ps:LQ}{x y z:LN}(h1:leL ps x y)(h2:leL ps y z):leL ps x z:=by
 rw[mP]at*;rcases h1 with rfl|h1
 ·exact h2
 rcases h2 with rfl|h2
 ·exact .inr h1
 exact .inr (jzk2 h1 h2)
theorem leL.anti{ps:LQ}{x y:LN}(h1:leL ps x y)(h2:leL ps y x):x=y:=by
 rcases(mP ps x y).1 h1 with h|h
 ·exact h
 unfold leL at h2;rw[h]at h2;cases h2
theorem leL.of_bef{ps:LQ}{x y:LN}(h:cM ps x y=true):leL ps x y:=(mP ps x y).2 (.inr h)
theorem leL.of_not{ps:LQ}{x y:LN}(h:¬cM ps x y=true):leL ps y x:=by unfold leL;simpa using h
theorem lR(ps:LQ)(x y:LN):prQ ps (x++y)=prQ ps x+prQ ps y:=by
 have qa:∀(l:LN) (s:Rat),l.foldl (fun s a=>s+ps[a]?.getD 0) s=s+prQ ps l:=(by intro l;unfold prQ;(induction l with|nil=>intro s;simp[Rat.add_zero]|cons a l ih=>intro s;rw[List.foldl_cons,List.foldl_cons,ih,ih (0+_),Rat.zero_add,Rat.add_assoc]));unfold prQ;rw[kZt,qa];rfl
def eD(ps:LQ):Prop:=∀a:Nat,(0:Rat)<=ps[a]?.getD 0
theorem jzcp{ps:LQ}(h:eD ps):∀x:LN,0<=prQ ps x:=by
 intro x;(induction x with|nil=>exact vC|cons a x ih=>rw[show a::x=[a]++x from rfl,lR];have:prQ ps [a]=0+ps[a]?.getD 0:=rfl;rw[this,Rat.zero_add];have h1:=Rat.add_le_add_left (c:=prQ ps x) |>.2 (h a);rw[Rat.add_zero,Rat.add_comm]at h1;exact kQs ih h1)
theorem jzcq{ps:LQ}(h:eD ps)(x y z:LN)(hy:y≠ []):cM ps (x++z) (x++y++z)=true:=by
 rw[iU];have h1:prQ ps (x++z)<=prQ ps (x++y++z):=(by rw[lR,lR,lR];have h2:=Rat.add_le_add_left (c:=prQ ps x) |>.2 (jzcp h y);rw[Rat.add_zero]at h2;exact(Rat.add_le_add_right (c:=prQ ps z)).2 h2);have h3:(x++z).length<(x++y++z).length:=(by have:=List.length_pos_iff.2 hy;simp;omega);by_cases h4:prQ ps (x++z)=prQ ps (x++y++z);{exact .inr ⟨h4,.inl h3⟩};exact .inl (Rat.lt_of_le_of_ne h1 h4)
theorem leL.ext{ps:LQ}(h:eD ps)(x y:LN):leL ps x (x++y):=by
 by_cases hy:y=[];{subst hy;rw[List.append_nil];exact leL.refl ps x};have:=jzcq h x y [] hy;simp at this;exact leL.of_bef this
theorem leL.app{ps:LQ}{x y:LN}(h:leL ps x y)(z:LN):leL ps (x++z) (y++z):=by
 rcases(mP ps x y).1 h with rfl|h
 ·exact leL.refl _ _
 apply leL.of_bef;rw[iU]at*;rw[lR,lR];rcases h with h|⟨h,h'⟩
 ·exact .inl (Rat.add_lt_add_right.2 h)
 refine .inr ⟨by rw[h],?_⟩;rcases h' with h'|⟨h',g⟩
 ·exact .inl (by simp;omega)
 exact .inr ⟨by simp;omega,jzco x y z h' g⟩
theorem leL.nil{ps:LQ}(h:eD ps)(x:LN):leL ps [] x:=by
 have:=leL.ext h [] x;simpa using this
def FW(t:Tp)(down:List Bool)(d:Nat):Nat->LN->Nat->Prop
 |u,[],v=>u=v
 |u,a::p,v=>a∈aL t u/\dF t down a d=true/\FW t down d (aK t a).toNat p v
theorem FW.app{t}{down:List Bool}{d:Nat}:∀(p:LN) {q:LN} {u v x:Nat},FW t down d u p v->FW t down d v q x->FW t down d u (p++q) x
 | [],_,_,_,_,h1,h2=>by
   have h1:_=_:=h1;subst h1;exact h2
 |_::p,_,_,_,_,h1,h2=>⟨h1.1,h1.2.1,FW.app p h1.2.2 h2⟩
theorem FW.snoc_inv{t}{down:List Bool}{d:Nat}:∀(p:LN) {a u v:Nat},FW t down d u (p++[a]) v->∃m,FW t down d u p m/\a∈aL t m/\dF t down a d=true/\v=(aK t a).toNat
 | [],a,u,v,h=>⟨u,rfl,h.1,h.2.1,h.2.2.symm⟩
 |b::p,a,u,v,h=>by
  obtain⟨m,h1,h2⟩:=FW.snoc_inv p h.2.2;exact⟨m,⟨h.1,h.2.1,h1⟩,h2⟩
theorem FW.one{t}{down:List Bool}{d a u:Nat}(h1:a∈aL t u)(h2:dF t down a d=true):FW t down d u [a] (aK t a).toNat:=⟨h1,h2,rfl⟩
theorem gW{t}(hv:aH t=true){n a:Nat}(h:a∈aL t n):0<=aK t a/\aK t a<t.nodes/\(aK t a).toNat<t.nodes.toNat/\dQ t a=(n:Int):=by
 unfold aL cE at h;rw[List.mem_filter,vX]at h;obtain⟨h1,h2⟩:=h;have h2:dQ t a=(n:Int):=(by simpa using h2);have hl:a/2<t.links.length:=qO;unfold aH at hv;rw[vM,xW]at hv;have qa:=hv.2 _ (xR hl);unfold Lk.ok ndB at qa;simp at qa;have:0<=aK t a/\aK t a<t.nodes:=(by unfold aK;rw[yG hl];simp only[];split <;> omega);exact⟨this.1,this.2,qO,h2⟩
theorem jzcr(ps:LQ)(ls:List Lb):∀k,∀(m:Nat) (l:Lb),m<k->ls[m]?=some l->l.known=true->l.done=false->0<=cF ps ls k/\leL ps (dL ls (cF ps ls k).toNat) l.arcs
 |0,m,_,h,_,_,_=>by omega
 |k+1,m,l,hm,hl,h1,h2=>by
  have ih:=jzcr ps ls k m l;by_cases e:m=k
  ·subst e
   unfold cF;rw[hl];simp only[h1,h2,Bool.not_false,Bool.and_true,kZg]
   split
   ·refine⟨qO,?_⟩
    rw[xL];unfold dL;rw[hl];exact leL.refl _ _
   rename_i hc
   simp only[Bool.or_eq_true,not_or,decide_eq_true_eq]at hc;refine⟨qO,leL.of_not (by exact hc.2)⟩
  obtain⟨i1,i2⟩:=ih qO hl h1 h2;unfold cF
  split
  ·exact⟨i1,i2⟩
  rename_i lk hk
  split
  ·rename_i hc
   refine⟨qO,?_⟩;rw[xL];simp only[vM,Bool.or_eq_true,decide_eq_true_eq]at hc;have hb:cM ps lk.arcs ((ls[(cF ps ls k).toNat]?.map Lb.arcs).getD [])=true:=by
    rcases hc.2 with h|h
    ·omega
    exact h
   have:dL ls k=lk.arcs:=(by unfold dL;rw[hk];rfl);rw[this];exact(leL.of_bef hb).trans i2
  exact⟨i1,i2⟩
theorem uW{ps:LQ}{ls:List Lb}{m:Nat}{l:Lb}(hl:ls[m]?=some l)(h1:l.known=true)(h2:l.done=false):0<=cB ps ls/\leL ps (dL ls (cB ps ls).toNat) l.arcs:=
 jzcr ps ls _ m l (yH.1 hl).1 hl h1 h2
structure DI(t:Tp)(down:List Bool)(ps:LQ)(s d:Nat)(ls:List Lb):Prop where
 len:ls.length=t.nodes.toNat
 walk:∀(v:Nat) (l:Lb),ls[v]?=some l->l.known=true->FW t down d s l.arcs v
 src:∃l,ls[s]?=some l/\l.known=true/\l.arcs=[]
 dd:∀l,ls[d]?=some l->l.done=false
 kn:∀(v:Nat) (l:Lb),ls[v]?=some l->l.done=true->l.known=true
 lo:∀(v m:Nat) (l k:Lb),ls[v]?=some l->l.done=true->ls[m]?=some k->k.known=true->k.done=false->leL ps l.arcs k.arcs
 step:∀(u a:Nat) (l:Lb),ls[u]?=some l->l.done=true->a∈aL t u->dF t down a d=true->∃k,ls[(aK t a).toNat]?=some k/\k.known=true/\leL ps k.arcs (l.arcs++[a])
theorem DI.low{t}{down:List Bool}{ps:LQ}{s d:Nat}{ls:List Lb}(h:DI t down ps s d ls)(hp:eD ps):∀(n:Nat) (p:LN) (v:Nat),p.length=n->FW t down d s p v->
  (∃l,ls[v]?=some l/\l.done=true/\leL ps l.arcs p)\/(∃(m:Nat) (k:Lb),ls[m]?=some k/\k.known=true/\k.done=false/\leL ps k.arcs p)
 |0,p,v,hn,hw=>by
  have:p=[]:=kQp.1 hn;subst this;have hw:s=v:=hw;subst hw;obtain⟨l,h1,h2,h3⟩:=h.src;cases hd:l.done
  ·exact .inr ⟨s,l,h1,h2,hd,by rw[h3];exact leL.refl _ _⟩
  exact .inl ⟨l,h1,hd,by rw[h3];exact leL.refl _ _⟩
 |n+1,p,v,hn,hw=>by
  obtain⟨q,a,rfl⟩:∃q a,p=q++[a]:=by
   have:p≠ []:=(by rintro rfl;simp at hn);exact⟨p.dropLast,p.getLast this,(List.dropLast_concat_getLast this).symm⟩
  obtain⟨u,h1,h2,h3,rfl⟩:=FW.snoc_inv q hw;rcases h.low hp n q u (by simpa using hn) h1 with⟨l,k1,k2,k3⟩|⟨m,k,k1,k2,k3,k4⟩
  ·obtain⟨k,j1,j2,j3⟩:=h.step u a l k1 k2 h2 h3
   have qa:=j3.trans (k3.app [a]);cases hd:k.done
   ·exact .inr ⟨_,k,j1,j2,hd,qa⟩
   exact .inl ⟨k,j1,hd,qa⟩
  exact .inr ⟨m,k,k1,k2,k3,k4.trans (leL.ext hp q [a])⟩
structure DJ(t:Tp)(down:List Bool)(ps:LQ)(s d n:Nat)(X:LN)(done:LN)(ls:List Lb):Prop where
 len:ls.length=t.nodes.toNat
 walk:∀(v:Nat) (l:Lb),ls[v]?=some l->l.known=true->FW t down d s l.arcs v
 src:∃l,ls[s]?=some l/\l.known=true/\l.arcs=[]
 dd:∀l,ls[d]?=some l->l.done=false
 kn:∀(v:Nat) (l:Lb),ls[v]?=some l->l.done=true->l.known=true
 lo:∀(v m:Nat) (l k:Lb),ls[v]?=some l->l.done=true->ls[m]?=some k->k.known=true->k.done=false->leL ps l.arcs k.arcs
 step:∀(u a:Nat) (l:Lb),u≠n->ls[u]?=some l->l.done=true->a∈aL t u->dF t down a d=true->∃k,ls[(aK t a).toNat]?=some k/\k.known=true/\leL ps k.arcs (l.arcs++[a])
 own:∃l,ls[n]?=some l/\l.done=true/\l.known=true/\l.arcs=X
 all:∀(v:Nat) (l:Lb),ls[v]?=some l->l.done=true->leL ps l.arcs X
 past:∀a∈done,dF t down a d=true->∃k,ls[(aK t a).toNat]?=some k/\k.known=true/\leL ps k.arcs (X++[a])
theorem DI.mark{t}{down:List Bool}{ps:LQ}{s d:Nat}{ls:List Lb}(h:DI t down ps s d ls)(h0:0<=cB ps ls)(hd:(cB ps ls).toNat≠d):
  DJ t down ps s d (cB ps ls).toNat (dL ls (cB ps ls).toNat) [] (eI ls (cB ps ls).toNat):=by
 obtain⟨l,h1,h2,h3⟩:=nI ps ls ls.length h0;have h1:ls[(cB ps ls).toNat]?=some l:=h1;have qg:∀(m:Nat) (k:Lb),ls[m]?=some k->k.known=true->k.done=false->leL ps l.arcs k.arcs:=fun m k e1 e2 e3=>(by have:=(uW (ps:=ps) e1 e2 e3).2;unfold dL at this;rw[h1]at this;exact this);have hX:dL ls (cB ps ls).toNat=l.arcs:=(by unfold dL;rw[h1];rfl);rw[hX];generalize (cB ps ls).toNat=n at*;have qe:=(yH.1 h1).1;have hm:eI ls n=ls.set n ⟨l.known,true,l.arcs⟩:=(by unfold eI;rw[h1]);rw[hm];have qa:∀(v:Nat) (k:Lb),(ls.set n ⟨l.known,true,l.arcs⟩)[v]?=some k->(v=n/\k=⟨l.known,true,l.arcs⟩)\/(v≠n/\ls[v]?=some k):=fun v k e=>(by by_cases hv:v=n;{subst hv;(rw[yM qe]at e;injection e with e);exact .inl ⟨rfl,e.symm⟩};rw[vN (fun h=>hv h.symm)]at e;exact .inr ⟨hv,e⟩);have put:∀(v:Nat) (k:Lb),ls[v]?=some k->∃k',(ls.set n ⟨l.known,true,l.arcs⟩)[v]?=some k'/\k'.known=k.known/\k'.arcs=k.arcs:=fun v k e=>(by by_cases hv:v=n;{subst hv;(rw[h1]at e;injection e with e);subst e;exact⟨_,yM qe,rfl,rfl⟩};exact⟨k,by rw[vN (fun h=>hv h.symm)];exact e,rfl,rfl⟩);refine⟨by rw[yV];exact h.len,?_,?_,?_,?_,?_,?_,⟨_,yM qe,rfl,h2,rfl⟩,?_,qS⟩;{intro v k e hk;(rcases qa v k e with⟨rfl,rfl⟩|⟨_,e'⟩);{exact h.walk _ l h1 h2};exact h.walk v k e' hk};{obtain⟨k,e1,e2,e3⟩:=h.src;obtain⟨k',f1,f2,f3⟩:=put s k e1;exact⟨k',f1,f2.trans e2,f3.trans e3⟩};{intro k e;(rcases qa d k e with⟨rfl,rfl⟩|⟨_,e'⟩);{exact absurd rfl hd};exact h.dd k e'};{intro v k e hk;(rcases qa v k e with⟨rfl,rfl⟩|⟨_,e'⟩);{exact h2};exact h.kn v k e' hk};{intro v m x k ev hx em qh qf;(rcases qa m k em with⟨rfl,rfl⟩|⟨_,em'⟩);{cases qf};(rcases qa v x ev with⟨rfl,rfl⟩|⟨_,ev'⟩);{exact qg m k em' qh qf};exact h.lo v m x k ev' hx em' qh qf};{intro u a x hu e hx ha qi;(rcases qa u x e with⟨rfl,rfl⟩|⟨_,e'⟩);{exact absurd rfl hu};obtain⟨k,f1,f2,f3⟩:=h.step u a x e' hx ha qi;obtain⟨k',g1,g2,g3⟩:=put _ k f1;exact⟨k',g1,g2.trans f2,by rw[g3];exact f3⟩};(intro v x e hx;rcases qa v x e with⟨rfl,rfl⟩|⟨_,e'⟩);{exact leL.refl _ _};exact h.lo v n x l e' hx h1 h2 h3
theorem DJ.relax{t}{down:List Bool}{ps:LQ}{s d n:Nat}{X done:LN}{ls:List Lb}(h:DJ t down ps s d n X done ls)(hv:aH t=true)(hp:eD ps){a:Nat}(ha:a∈aL t n):
  DJ t down ps s d n X (done++[a]) (dY t down ps d n ls a):=by
 obtain⟨qA,qB,qy,_⟩:=gW hv ha;obtain⟨ln,qh,qo,qm,qi⟩:=h.own;have hX:dL ls n=X:=(by unfold dL;rw[qh];exact qi);obtain⟨lm,qe⟩:∃lm,ls[(aK t a).toNat]?=some lm:=⟨_,yG (by rw[h.len];exact qy)⟩;have qj:=(yH.1 qe).1;unfold dY;rw[qe,hX];simp only[];split;{rename_i hc;(refine⟨h.len,h.walk,h.src,h.dd,h.kn,h.lo,h.step,h.own,h.all,fun b hb qf=>?_⟩;rcases xY.1 hb with hb|hb);{exact h.past b hb qf};have:b=a:=(by simpa using hb);subst this;rw[qf]at hc;have qn:lm.done=true:=(by simpa using hc);exact⟨lm,qe,h.kn _ lm qe qn,(h.all _ lm qe qn).trans (leL.ext hp X [b])⟩};rename_i hc;(simp only[Bool.or_eq_true,not_or,Bool.not_eq_true,Bool.not_eq_false']at hc;obtain⟨qt,qk⟩:=hc;have qk:dF t down a d=true:=by simpa using qk);split;{rename_i hb;have qp:lm.known=true->leL ps (X++[a]) lm.arcs:=fun hk=>(by rw[hk]at hb;exact leL.of_bef (by simpa using hb));generalize hM:(aK t a).toNat=M at*;have qg:∀(v:Nat) (k:Lb),(ls.set M ⟨true,false,X++[a]⟩)[v]?=some k->(v=M/\k=⟨true,false,X++[a]⟩)\/(v≠M/\ls[v]?=some k):=fun v k e=>(by by_cases hv:v=M;{subst hv;(rw[yM qj]at e;injection e with e);exact .inl ⟨rfl,e.symm⟩};rw[vN (fun h=>hv h.symm)]at e;exact .inr ⟨hv,e⟩);have put:∀(v:Nat) (k:Lb),ls[v]?=some k->k.known=true->∃k',(ls.set M ⟨true,false,X++[a]⟩)[v]?=some k'/\k'.known=true/\leL ps k'.arcs k.arcs:=fun v k e hk=>(by by_cases hv:v=M;{subst hv;(rw[qe]at e;injection e with e);subst e;exact⟨_,yM qj,rfl,qp hk⟩};exact⟨k,by rw[vN (fun h=>hv h.symm)];exact e,hk,leL.refl _ _⟩);have qz:n≠M:=(by (rintro rfl;rw[qh]at qe;injection qe with e);rw[<-e,qo]at qt;cases qt);refine⟨by rw[yV];exact h.len,?_,?_,?_,?_,?_,?_,⟨ln,by rw[vN (fun h=>qz h.symm)];exact qh,qo,qm,qi⟩,?_,?_⟩;{intro v k e hk;(rcases qg v k e with⟨rfl,rfl⟩|⟨_,e'⟩);{have:=FW.app X (by rw[<-qi];exact h.walk n ln qh qm) (FW.one ha qk);rw[hM]at this;exact this};exact h.walk v k e' hk};{obtain⟨k,e1,e2,e3⟩:=h.src;by_cases hs:s=M;{subst hs;(rw[qe]at e1;injection e1 with e1);subst e1;have h9:=(qp e2).anti (by rw[e3];exact leL.nil hp _);rw[e3]at h9;simp at h9};exact⟨k,by rw[vN (fun h=>hs h.symm)];exact e1,e2,e3⟩};{intro k e;(rcases qg d k e with⟨rfl,rfl⟩|⟨_,e'⟩);{rfl};exact h.dd k e'};{intro v k e hk;(rcases qg v k e with⟨rfl,rfl⟩|⟨_,e'⟩);{rfl};exact h.kn v k e' hk};{intro v m x k ev hx em qx qw;(rcases qg v x ev with⟨rfl,rfl⟩|⟨_,ev'⟩);{cases hx};(rcases qg m k em with⟨rfl,rfl⟩|⟨_,em'⟩);{exact(h.all v x ev' hx).trans (leL.ext hp X [a])};exact h.lo v m x k ev' hx em' qx qw};{intro u b x hu e hx qa qf;(rcases qg u x e with⟨rfl,rfl⟩|⟨_,e'⟩);{cases hx};obtain⟨k,f1,f2,f3⟩:=h.step u b x hu e' hx qa qf;obtain⟨k',g1,g2,g3⟩:=put _ k f1 f2;exact⟨k',g1,g2,g3.trans f3⟩};{intro v x e hx;(rcases qg v x e with⟨rfl,rfl⟩|⟨_,e'⟩);{cases hx};exact h.all v x e' hx};(intro b qa qf;rcases xY.1 qa with qa|qa);{obtain⟨k,f1,f2,f3⟩:=h.past b qa qf;obtain⟨k',g1,g2,g3⟩:=put _ k f1 f2;exact⟨k',g1,g2,g3.trans f3⟩};have:b=a:=(by simpa using qa);subst this;rw[hM];exact⟨_,yM qj,rfl,leL.refl _ _⟩};rename_i hb;(simp only[Bool.or_eq_true,not_or,Bool.not_eq_true,Bool.not_eq_false']at hb;refine⟨h.len,h.walk,h.src,h.dd,h.kn,h.lo,h.step,h.own,h.all,fun b qa qf=>?_⟩;rcases xY.1 qa with qa|qa);{exact h.past b qa qf};have:b=a:=(by simpa using qa);subst this;exact⟨lm,qe,by simpa using hb.1,hb.2⟩
theorem DJ.fold{t}{down:List Bool}{ps:LQ}{s d n:Nat}{X:LN}(hv:aH t=true)(hp:eD ps):∀(al done:LN) (ls:List Lb),DJ t down ps s d n X done ls->(∀a∈al,a∈aL t n)->DJ t down ps s d n X (done++al) (al.foldl (dY t down ps d n) ls)
 | [],done,ls,h,_=>by rw[List.append_nil];exact h
 |a::al,done,ls,h,ha=>by
  have:=DJ.fold hv hp al (done++[a]) _ (h.relax hv hp (ha a qS)) (fun b hb=>ha b (by simp[hb]));rw[List.append_assoc]at this;exact this
theorem DJ.di{t}{down:List Bool}{ps:LQ}{s d n:Nat}{X:LN}{ls:List Lb}(h:DJ t down ps s d n X (aL t n) ls):DI t down ps s d ls:=by
 refine⟨h.len,h.walk,h.src,h.dd,h.kn,h.lo,fun u a l e hl ha hus=>?_⟩;by_cases hu:u=n;{subst hu;obtain⟨ln,qe,_,_,qa⟩:=h.own;rw[qe]at e;injection e with e;subst e;rw[qa];exact h.past a ha hus};exact h.step u a l hu e hl ha hus
theorem jzcs t(down:List Bool)(ps:LQ)(d n:Nat):∀(al:LN) (ls:List Lb),cK (al.foldl (dY t down ps d n) ls)=cK ls
 | [],_=>rfl
 |a::al,ls=>by rw[List.foldl_cons,jzcs t down ps d n al,jza0]
theorem uX{t}{down:List Bool}{ps:LQ}{s d:Nat}(hv:aH t=true)(hp:eD ps):∀(f:Nat) (ls:List Lb),DI t down ps s d ls->cK ls<f->
  match iG t down ps d f ls with
  |none=>∀p,¬FW t down d s p d
  |some p=>FW t down d s p d/\∀q,FW t down d s q d->leL ps p q
 |0,ls,_,h=>by omega
 |f+1,ls,hi,hf=>by
  unfold iG;by_cases h1:cB ps ls<0
  ·rw[qE h1]
   simp only[];intro p hw;rcases hi.low hp _ p d rfl hw with⟨l,k1,k2,_⟩|⟨m,k,k1,k2,k3,_⟩
   ·rw[hi.dd l k1]at k2;cases k2
   ·have:=(uW (ps:=ps) k1 k2 k3).1
    omega
  ·rw[qF h1]
   by_cases h2:(cB ps ls).toNat=d
   ·rw[qE h2]
    simp only[];obtain⟨l,e1,e2,e3⟩:=nI ps ls ls.length (show 0<=cB ps ls by omega);have e1:ls[(cB ps ls).toNat]?=some l:=e1;have hX:dL ls (cB ps ls).toNat=l.arcs:=(by unfold dL;rw[e1];rfl);refine⟨?_,fun q hw=>?_⟩
    ·rw[hX]
     have:=hi.walk _ l e1 e2;rw[h2]at this;exact this
    ·rcases hi.low hp _ q d rfl hw with⟨l,k1,k2,_⟩|⟨m,k,k1,k2,k3,k4⟩
     ·rw[hi.dd l k1]at k2;cases k2
     ·exact(uW k1 k2 k3).2.trans k4
   ·rw[qF h2]
    have hj:=(DJ.fold hv hp (aL t (cB ps ls).toNat) [] _ (hi.mark qO h2) (fun _ h=>h));rw[List.nil_append]at hj;refine uX hv hp f _ hj.di ?_;rw[jzcs];obtain⟨l,e1,e2,e3⟩:=nI ps ls ls.length (show 0<=cB ps ls by omega);have:=jzaz (ls:=ls) e1 e3;unfold cB at*;omega
theorem jzct{t:Tp}{down:List Bool}{ps:LQ}{s d:Nat}(hs:s<t.nodes.toNat):DI t down ps s d (cZ t.nodes.toNat s):=by
 unfold cZ;have qa:∀(v:Nat) (k:Lb),((List.replicate t.nodes.toNat (⟨false,false,[]⟩:Lb)).set s ⟨true,false,[]⟩)[v]?=some k->k.done=false/\k.arcs=[]/\(k.known=true->v=s):=fun v k e=>(by by_cases hv:v=s;{subst hv;(rw[yM (by simp[hs])]at e;injection e with e);subst e;exact⟨rfl,rfl,fun _=>rfl⟩};rw[vN (fun h=>hv h.symm)]at e;have:=uF (yJ e);subst this;exact⟨rfl,rfl,fun h=>by cases h⟩);refine⟨qS,?_,⟨_,yM (by simp[hs]),rfl,rfl⟩,fun l e=>(qa d l e).1,?_,?_,?_⟩;{intro v k e hk;have:=qa v k e;rw[this.2.1,this.2.2 hk];exact rfl};{intro v k e hk;rw[(qa v k e).1]at hk;cases hk};{intro v m l k e hk;rw[(qa v l e).1]at hk;cases hk};intro u a l e hk;rw[(qa u l e).1]at hk;cases hk
theorem jzcu{t}{down:List Bool}{s d:Nat}(hv:aH t=true):∀(f:Nat) (path:LN) (u:Nat) (seen:List Bool) (q:LN),FW t down d s path u->q∈bM t down d f path u seen->FW t down d s q d
 |0,_,_,_,_,_,h=>by simp[bM]at h
 |f+1,path,u,seen,q,hw,h=>by
  unfold bM at h;by_cases h1:u=d
  ·rw[qE h1]at h
   have:q=path:=(by simpa using h);subst this;rw[<-h1];rw[<-h1]at hw;exact hw
  rw[qF h1]at h;by_cases h2:0<path.length/\bT t u=true
  ·rw[qE h2]at h;simp at h
  rw[qF h2]at h;rw[kZx]at h;obtain⟨a,ha,hq⟩:=h;by_cases h3:(bZ down a||seen[(aK t a).toNat]?.getD false)=true
  ·rw[qE h3]at hq;simp at hq
  rw[qF h3]at hq;simp only[Bool.or_eq_true,not_or,Bool.not_eq_true]at h3;obtain⟨g1,g2,g3,_⟩:=gW hv ha;have qa:dF t down a d=true:=by
   unfold dF;rw[h3.1];by_cases h4:aK t a=(d:Int)
   ·simp[h4]
   cases h5:bT t (aK t a)
   ·simp
   exfalso;cases f with
   |zero=>simp[bM]at hq
   |succ f=>
    unfold bM at hq;rw[qF qO,qE ⟨qS,by rw[Int.toNat_of_nonneg g1];exact h5⟩]at hq;simp at hq
  exact jzcu hv f (path++[a]) _ _ q (FW.app path hw (FW.one ha qa)) hq
theorem rD{t}{ps:LQ}(h:eM t ps=true):eD ps:=by
 (intro a;cases e:ps[a]? with|none=>exact vC|some q=>unfold eM at h;simp at h;have:=h.2 q (yJ e);rw[kQ1, <-kQ4, <-jzck];omega)
end Go.Proofs.YtfeeacaofjpkaaaGreatDoor
