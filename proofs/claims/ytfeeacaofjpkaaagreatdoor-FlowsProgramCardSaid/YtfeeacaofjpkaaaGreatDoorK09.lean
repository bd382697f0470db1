/- Walks, part 9. -/
import Derived.Test.YtfeeacaofjpkaaaGreatDoorK08
set_option linter.unusedVariables false
set_option linter.unusedSimpArgs false
set_option maxRecDepth 100000
set_option maxHeartbeats 8000000
namespace Go.Proofs.YtfeeacaofjpkaaaGreatDoor
open Go.Proofs.Tryz
open Go.RowKit
theorem QR.other{w w'}{cs:List Value}{q:Rat}{g:Nat}{t':TypeId}{cs':Array Value}(h:QR w cs q)(hg:w.grownBy w' (some g))(hb:Blk w g t' cs')(hne:196≠t'):QR w' cs q:=by
 obtain⟨neg,A,n,c,A',n',c',e,h1⟩:=h;exact⟨neg,A,n,c,A',n',c',e,h1.other hg hb hne⟩
def QB(w:World)(g:Nat)(qs:LQ):Prop:=
 ∃css:List (List Value),css.length=qs.length/\(∀cs∈css,cs.length=3)/\Blk w g 33 css.flatten.toArray/\∀(i:Nat) (q:Rat),qs[i]?=some q->∃cs,css[i]?=some cs/\QR w cs q
theorem QB.K{w w'}{g:Nat}{qs:LQ}(h:QB w g qs)(hx:Ext w w'):QB w' g qs:=by
 obtain⟨css,h1,h2,h3,h4⟩:=h;refine⟨css,h1,h2,h3.K hx,fun i q hl=>?_⟩;obtain⟨cs,k1,k2⟩:=h4 i q hl;exact⟨cs,k1,k2.K hx⟩
theorem QB.lt{w}{g:Nat}{qs:LQ}(h:QB w g qs):g<w.heap.size:=by
 obtain⟨css,_,_,h3,_⟩:=h;exact h3.lt
theorem QB.blk{w}{g:Nat}{qs:LQ}(h:QB w g qs):∃cs,Blk w g 33 cs:=by
 obtain⟨css,_,_,h3,_⟩:=h;exact⟨_,h3⟩
theorem QB.at_{w}{g:Nat}{qs:LQ}(h:QB w g qs){i:Nat}{q:Rat}(hl:qs[i]?=some q):
  ∃(neg:Bool) (A:OA) (n c:Nat) (A':OA) (n' c':Nat),
   (w.cell? (aD g (i*3))=some (.bool neg)/\w.cell? (aD g (i*3+1))=some (.s A n c)/\w.cell? (aD g (i*3+2))=some (.s A' n' c'))/\
   (w.frozen? (aD g (i*3))=false/\w.frozen? (aD g (i*3+1))=false/\w.frozen? (aD g (i*3+2))=false)/\aB w neg A n c A' n' c' q:=by
 obtain⟨css,h1,h2,h3,h4⟩:=h;obtain⟨cs,k1,neg,A,n,c,A',n',c',rfl,k2⟩:=h4 i q hl;have hi:=(yH.1 hl).1;have qa:∀k,k<3->w.cell? (aD g (i*3+k))=([.bool neg,.s A n c,.s A' n' c']:List Value)[k]?:=fun k hk=>(by rw[h3.cell,xI,eL css h2 i k qO hk,k1];rfl);exact⟨neg,A,n,c,A',n',c',⟨qa 0 qO,qa 1 qO,qa 2 qO⟩,⟨h3.frozen _,h3.frozen _,h3.frozen _⟩,k2⟩
theorem QB.other{w w'}{g g':Nat}{qs:LQ}{t':TypeId}{cs':Array Value}(h:QB w g qs)(hg:w.grownBy w' (some g'))(hb:Blk w g' t' cs')(hne:196≠t')(hgg:g≠g'):QB w' g qs:=by
 obtain⟨css,h1,h2,h3,h4⟩:=h;refine⟨css,h1,h2,(hg.block g h3.lt (fun e=>hgg (by injection e))).trans h3,fun i q hq=>?_⟩;obtain⟨cs,k1,k2⟩:=h4 i q hq;exact⟨cs,k1,k2.other hg hb hne⟩
theorem iI{K:Nat}(css:List (List Value))(h2:∀cs∈css,cs.length=K)(m:Nat)(hml:m<css.length)(c1:List Value)(k:Nat)(v:Value)(hc:c1.length=K)(hk:k<K):((css.set m c1).flatten).set (m*K+k) v=(css.set m (c1.set k v)).flatten:=by
 have qa:∀c∈css.set m c1,c.length=K:=fun c hcc=>(by (rcases xE hcc with h|h);{exact h2 c h};rw[h];exact hc);have h:=nL (css.set m c1) qa m k v (by rw[yV];exact hml) hk;rw[yM hml,kQ1,List.set_set]at h;exact h
theorem QB.put{w}{g m:Nat}{qs:LQ}{q:Rat}{neg:Bool}{A}{n c:Nat}{A'}{n' c':Nat}(h:QB w g qs)(hm:m<qs.length)(hl:aB w neg A n c A' n' c' q):
  QB (((w.setCell (aD g (m*3)) (.bool neg)).setCell (aD g (m*3+1)) (.s A n c)).setCell (aD g (m*3+2)) (.s A' n' c')) g (qs.set m q):=by
 obtain⟨css,h1,h2,h3,h4⟩:=h;have g2:=((aM w g (m*3) (.bool neg)).trans (aM _ g (m*3+1) (.s A n c))).trans (aM _ g (m*3+2) (.s A' n' c'));have qa:m<css.length:=qO;obtain⟨cs,qf⟩:∃cs,css[m]?=some cs:=⟨_,yG qa⟩;have qe:cs.length=3:=h2 cs (yJ qf);have e0:css=css.set m cs:=(by apply uK;intro i;by_cases e:m=i;{subst e;rw[yM qa];exact qf};rw[vN e]);have b:=((h3.sT (m*3+0) (.bool neg)).sT (m*3+1) (.s A n c)).sT (m*3+2) (.s A' n' c');rw[yD,yD,yD,e0,iI css h2 m qa cs 0 _ qe qO,iI css h2 m qa _ 1 _ (by simp[qe]) qO,iI css h2 m qa _ 2 _ (by simp[qe]) qO]at b;have e3:((cs.set 0 (.bool neg)).set 1 (.s A n c)).set 2 (.s A' n' c')=[.bool neg,.s A n c,.s A' n' c']:=(by (rcases cs with _|⟨a0,_|⟨a1,_|⟨a2,_|⟨a3,r⟩⟩⟩⟩);all_goals first|(simp at qe;done)|rfl);rw[e3]at b;refine⟨css.set m [.bool neg,.s A n c,.s A' n' c'],by simp[h1],fun c hcc=>?_,b,fun i p hi=>?_⟩;{(rcases xE hcc with h|h);{exact h2 c h};rw[h];rfl};by_cases e:m=i;{subst e;(rw[yM hm]at hi;injection hi with hi);subst hi;exact⟨_,yM qa,neg,A,n,c,A',n',c',rfl,hl.other g2 h3 qD⟩};rw[vN e]at hi;obtain⟨qg,k1,k2⟩:=h4 i p hi;exact⟨qg,by rw[vN e];exact k1,k2.other g2 h3 qD⟩
theorem QB.ql{w}{g:Nat}{qs:LQ}(h:QB w g qs):QL w (sA g) qs:=by
 obtain⟨css,h1,h2,h3,h4⟩:=h;exact⟨css,h1,h2,(RdT.of_blk h3 rfl).rd,h4⟩
theorem jzi9(N:Nat):madeCells rV (N*3)=(List.replicate N [Value.bool false,zN,zN]).flatten.toArray:=by
 apply Array.ext';apply uK;intro i;have qa:∀cs∈List.replicate N [Value.bool false,zN,zN],cs.length=3:=fun cs h=>(by rw[uF h];rfl);have hl:=fZ _ qa;rw[xC]at hl;by_cases hi:i<N*3;{have h1:=eL _ qa (i/3) (i%3) (by rw[xC];omega) qO;rw[show i/3*3+i%3=i by omega,xB,qE qO,kQ1]at h1;simp only[];rw[h1];have h2:(madeCells rV (N*3)).toList[i]?=some ((rV:Array Value)[i%3]!):=(by simp[madeCells,hi]);rw[h2];have h6:i%3=0\/i%3=1\/i%3=2:=qO;rcases h6 with e|e|e <;> rw[e] <;> rfl};rw[yI (by simp[madeCells];omega),yI (by simp only[];omega)]
theorem QB.made(w:World)(N:Nat):QB (w.alloc (.cells (madeCells rV (N*3)) 33)) w.heap.size (List.replicate N 0):=by
 refine⟨List.replicate N [bF,zN,zN],qS,fun cs h=>by rw[uF h];rfl,?_,fun i q hq=>?_⟩;{rw[jzi9];exact eN _ _ _};rw[xB]at hq;split at hq;{rename_i hi;(injection hq with hq);subst hq;exact⟨_,by rw[xB,qE hi],false,none,0,0,none,0,0,rfl,eJ _⟩};cases hq
theorem SzQ.mkQ_{s:Bool}{n d k:Nat}(hd:d≠0)(hn:n<B32^k)(hdd:d<B32^k):SzQ (mkQ s n d) k:=by
 refine⟨?_,?_⟩;{rw[sQ _ hd];exact kQ2 (kZi _ _) hn};rw[sR _ hd];exact kQ2 (kZi _ _) hdd
theorem pT{a b k m:Nat}(ha:a<B32^k)(hb:b<B32^m):a*b<B32^(k+m):=by
 rw[Nat.pow_add];rcases kQm b with h0|h0
 ·rw[h0,kQ8];exact Nat.mul_pos (kQy bB) (kQy bB)
 exact kZb ha (kQe hb) (kQy bB)
theorem SzQ.mul{a b:Rat}{k m:Nat}(ha:SzQ a k)(hb:SzQ b m):SzQ (a*b) (k+m):=by
 rw[tJ];exact SzQ.mkQ_ (kQx a.den_nz b.den_nz) (pT ha.1 hb.1) (pT ha.2 hb.2)
theorem SzQ.div{a b:Rat}{k m:Nat}(ha:SzQ a k)(hb:SzQ b m)(h0:b≠0):SzQ (a/b) (k+m):=by
 have hn:b.num≠0:=fun e=>h0 (Rat.num_eq_zero.1 e);rw[jza5 a b h0];refine SzQ.mkQ_ (kQx qO a.den_nz) (pT ha.1 hb.2) ?_;rw[kZl];exact pT hb.1 ha.2
theorem SzQ.fl{a:Rat}{k:Nat}(ha:SzQ a k)(hk:1<=k):SzQ (flQ a) k:=by
 unfold flQ flN;refine SzQ.mkQ_ qD (kQ2 (kZi _ _) ha.1) ?_;have h1:=kQk bB hk;have h2:1<B32^1:=qD;omega
theorem jzja(q:Rat):aC q<0↔q<0:=by
 have h:q.num<0↔q<0:=(by rw[<-Int.not_le,Rat.num_nonneg,Rat.not_le]);unfold aC;split;{rename_i h0;rw[<-h,h0]};split;{rename_i h1;exact⟨fun _=>h.1 h1,fun _=>qD⟩};rename_i h1;exact⟨fun x=>qO,fun x=>absurd (h.2 x) h1⟩
theorem dR.made(w:World)(n:Nat):dR (w.alloc (.cells (madeCells #[vI 0] n) 3)) w.heap.size (List.replicate n 0):=by
 refine⟨_,eN _ _ _,fun i hi=>?_⟩;rw[xC]at hi;rw[<-kQw,toList_madeCells_one];unfold atL;rw[xB,qE hi,xB,qE hi];rfl
theorem dR.rdT{w}{g:Nat}{l:LN}(h:dR w g l):RdT w 3 (sA g) (ints l):=fun _=>by
 obtain⟨cs,h1,h2⟩:=h;refine⟨g,0,cs,(0,0),rfl,h1,fun i hi=>?_⟩;rw[cW]at hi;rw[kQu,h2 i hi];unfold ints;rw[yW,jza7 hi];rfl
structure FrS(S:Nat->Prop)(w w':World):Prop where
 os:w'.os=w.os
 tape:w'.tape=w.tape
 output:w'.output=w.output
 size:w.heap.size<=w'.heap.size
 block:∀b,b<w.heap.size->¬S b->w'.heap[b]?=w.heap[b]?
def NoT(S:Nat->Prop)(w:World)(t:TypeId):Prop:=∀b,S b->∀cs fr,w.heap[b]?≠some (.cells cs t fr)
section
variable {S S':Nat->Prop} {w w' w2:World}
theorem FrS.of_ext(h:Ext w w'):FrS S w w':=⟨h.os,h.tape,h.output,h.size,fun b hb _=>h.block b hb⟩
theorem eE:type_of% @FrS.of_ext:=@FrS.of_ext
theorem FrS.refl(S:Nat->Prop)w:FrS S w w:=eE (eR w)
theorem FrS.of_grown{row:Option Nat}(h:w.grownBy w' row)(hs:∀g,row=some g->S g):FrS S w w':=⟨h.os,h.tape,h.output,h.size,fun b hb hn=>h.block b hb (fun e=>hn (hs b e.symm))⟩
theorem eG:type_of% @FrS.of_grown:=@FrS.of_grown
theorem FrS.tr(h:FrS S w w')(k:FrS S' w' w2)(hs:∀b,S' b->S b\/w.heap.size<=b):FrS S w w2:=
 ⟨k.os.trans h.os,k.tape.trans h.tape,k.output.trans h.output,yY h.size k.size,fun b hb hn=>(k.block b (yL hb h.size) (fun h1=>by
  rcases hs b h1 with h2|h2
  ·exact hn h2
  ·omega)).trans (h.block b hb hn)⟩
theorem FrS.mono(h:FrS S w w')(hs:∀b,S b->S' b):FrS S' w w':=⟨h.os,h.tape,h.output,h.size,fun b hb hn=>h.block b hb fun h1=>hn (hs b h1)⟩
theorem FrS.ext{w0}(k:FrS S w w')(h:Ext w0 w)(hs:∀b,S b->w0.heap.size<=b):Ext w0 w':=
 ⟨k.os.trans h.os,k.tape.trans h.tape,k.output.trans h.output,yY h.size k.size,fun b hb=>(k.block b (yL hb h.size) (fun h1=>by have:=hs b h1;omega)).trans (h.block b hb)⟩
theorem FrS.blk{b:Nat}{t:TypeId}{cs:Array Value}(k:FrS S w w')(h:Blk w b t cs)(hb:¬S b):Blk w' b t cs:=(k.block b h.lt hb).trans h
theorem FrS.rdT{t:TypeId}{A}{xs:List Value}(k:FrS S w w')(hn:NoT S w t)(h:RdT w t A xs):RdT w' t A xs:=fun hx=>by
 obtain⟨b,o,cs,fr,e1,e2,e3⟩:=h hx;refine⟨b,o,cs,fr,e1,(k.block b (iF e2) (fun h1=>?_)).trans e2,e3⟩;exact hn b h1 cs fr e2
theorem FrS.natR{A}{n c N:Nat}(k:FrS S w w')(hn:NoT S w 196)(h:aE w A n c N):aE w' A n c N:=by
 obtain⟨ds,h1,h2,h3,h4,h5⟩:=h;exact⟨ds,h1,h2,h3,h4,k.rdT hn h5⟩
theorem FrS.ratR{neg:Bool}{A}{n c:Nat}{A'}{n' c':Nat}{q:Rat}(k:FrS S w w')(hn:NoT S w 196)(h:aB w neg A n c A' n' c' q):aB w' neg A n c A' n' c' q:=
 ⟨h.1,k.natR hn h.2.1,k.natR hn h.2.2⟩
theorem FrS.qr{cs:List Value}{q:Rat}(k:FrS S w w')(hn:NoT S w 196)(h:QR w cs q):QR w' cs q:=by
 obtain⟨neg,A,n,c,A',n',c',e,h1⟩:=h;exact⟨neg,A,n,c,A',n',c',e,k.ratR hn h1⟩
theorem FrS.own{B n s:Nat}{e:TypeId}{v:Value}{xs:List Value}(k:FrS S w w')(h:w.ownsRow B e s v n xs)(hn:∀g,v.ownBlock=some g->¬S g):w'.ownsRow B e s v n xs:=by
 refine⟨h.1,?_⟩;rcases h.2 with h1|⟨g,cap,cur,h1,h2,h3,h4⟩
 ·exact .inl h1
 exact .inr ⟨g,cap,cur,h1,h2,(k.block g (iF h3) (hn g (by rw[h1];rfl))).trans h3,h4⟩
theorem FrS.oq{B:Nat}{v:Value}{qs:LQ}(k:FrS S w w')(hn:NoT S w 196)(h:OQ QR 33 w B v qs)(hv:∀g,v.ownBlock=some g->¬S g):OQ QR 33 w' B v qs:=by
 obtain⟨css,h1,h2,h3,h4⟩:=h;refine⟨css,h1,h2,k.own h3 hv,fun i q hq=>?_⟩;obtain⟨cs,k1,k2⟩:=h4 i q hq;exact⟨cs,k1,k.qr hn k2⟩
theorem bK{B n s:Nat}{e:TypeId}{v:Value}{xs:List Value}(h:w.ownsRow B e s v n xs){g:Nat}(hg:v.ownBlock=some g){t:TypeId}(ht:e≠t):∀cs fr,w.heap[g]?≠some (.cells cs t fr):=fun cs fr e2=>by
 (rcases h.2 with⟨h1,_⟩|⟨g',cap,cur,h1,h2,h3,h4⟩);{rw[h1]at hg;cases hg};{rw[h1]at hg;(injection hg with hg);(have hg:g'=g:=hg;subst hg;rw[h3]at e2;injection e2 with e2);(injection e2 with _ e2);exact ht e2}
theorem NoT.one{g:Nat}{t t':TypeId}{cs:Array Value}(h:Blk w g t cs)(ht:t≠t'):NoT (fun b=>b=g) w t':=fun b hb cs' fr e=>by
 subst hb;unfold Blk at h;rw[h]at e;injection e with e
 injection e with _ e
 exact ht e
theorem aW{B n s:Nat}{e:TypeId}{v:Value}{xs:List Value}(h:w.ownsRow B e s v n xs){g:Nat}(hg:v.ownBlock=some g):∃cs,Blk w g e cs:=by
 rcases h.2 with⟨h1,_⟩|⟨g',cap,cur,h1,h2,h3,h4⟩
 ·rw[h1]at hg;cases hg
 rw[h1]at hg;injection hg with hg
 have hg:g'=g:=hg;subst hg;exact⟨cur,h3⟩
theorem OQ.cell{B g c:Nat}{qs:LQ}{n:Nat}(h:OQ QR 33 w B (.s (sA g) n c) qs){i:Nat}{q:Rat}(hl:qs[i]?=some q):
  ∃(neg:Bool) (A:OA) (n c:Nat) (A':OA) (n' c':Nat),
   (w.cell? (aD g (i*3))=some (.bool neg)/\w.cell? (aD g (i*3+1))=some (.s A n c)/\w.cell? (aD g (i*3+2))=some (.s A' n' c'))/\
   (w.frozen? (aD g (i*3))=false/\w.frozen? (aD g (i*3+1))=false/\w.frozen? (aD g (i*3+2))=false)/\aB w neg A n c A' n' c' q:=by
 obtain⟨css,h1,h2,h3,h4⟩:=h;obtain⟨cs,k1,neg,A,n1,c1,A',n',c',rfl,k2⟩:=h4 i q hl;have hi:=(yH.1 hl).1;obtain⟨cb,hb⟩:=aW h3 (g:=g) rfl;have qa:∀k,k<3->w.cell? (aD g (i*3+k))=([.bool neg,.s A n1 c1,.s A' n' c']:List Value)[k]?:=fun k hk=>(by (have hf:=eL css h2 i k qO hk;rw[k1]at hf;rcases h3.2 with⟨e,_⟩|⟨g',cap,cur,e,_,h5,h6,h7,h8,h9⟩);{cases e};(injection e with e1 e2 e3);(injection e1 with e1);(injection e1 with e1);subst e1;have qe:Blk w g 33 cur:=h5;rw[qe.cell, <-kQw];rw[<-h9,xG,qE qO]at hf;exact hf);exact⟨neg,A,n1,c1,A',n',c',⟨qa 0 qO,qa 1 qO,qa 2 qO⟩,⟨hb.frozen _,hb.frozen _,hb.frozen _⟩,k2⟩
theorem nQ{B g n c s k:Nat}{e:TypeId}{xs:List Value}(h:w.ownsRow B e s (.s (sA g) n c) n xs)(u:Value):(w.setCell (aD g k) u).ownsRow B e s (.s (sA g) n c) n (xs.set k u):=by
 refine⟨by rw[yV];exact h.1,?_⟩;rcases h.2 with⟨h3,h4⟩|⟨g',cap,cur,h3,h4,h5,h6,h7,h8,h9⟩
 ·cases h3
 have qa:=h3;injection h3 with e1 e2 e3
 injection e1 with e1
 injection e1 with e1
 subst e1;refine .inr ⟨g,cap,cur.setIfInBounds k u,qa,h4,(show Blk w g e cur from h5).sT k u,h6,h7,by simpa using h8,?_⟩;rw[Array.toList_setIfInBounds, <-h9,List.take_set]
theorem dU(w:World)(g i:Nat)(v0 v1 v2:Value):w.grownBy (((w.setCell (aD g i) v0).setCell (aD g (i+1)) v1).setCell (aD g (i+2)) v2) (some g):=
 ((aM w g i v0).trans (aM _ g (i+1) v1)).trans (aM _ g (i+2) v2)
theorem OQ.put{B g n c m:Nat}{qs:LQ}{q:Rat}{neg:Bool}{A}{n1 c1:Nat}{A'}{n' c':Nat}(h:OQ QR 33 w B (.s (sA g) n c) qs)(hn:qs.length=n)(hm:m<qs.length)(hl:aB w neg A n1 c1 A' n' c' q):
  OQ QR 33 (((w.setCell (aD g (m*3)) (.bool neg)).setCell (aD g (m*3+1)) (.s A n1 c1)).setCell (aD g (m*3+2)) (.s A' n' c')) B (.s (sA g) n c) (qs.set m q):=by
 obtain⟨css,h1,h2,h3,h4⟩:=h;rw[hn]at h3;obtain⟨cb,hb⟩:=aW h3 (g:=g) rfl;have g2:=dU w g (m*3) (.bool neg) (.s A n1 c1) (.s A' n' c');have qa:m<css.length:=qO;obtain⟨cs,qf⟩:∃cs,css[m]?=some cs:=⟨_,yG qa⟩;have qe:cs.length=3:=h2 cs (yJ qf);have e0:css=css.set m cs:=(by apply uK;intro i;by_cases e:m=i;{subst e;rw[yM qa];exact qf};rw[vN e]);have b:=nQ (k:=m*3+2) (nQ (k:=m*3+1) (nQ (k:=m*3+0) h3 (.bool neg)) (.s A n1 c1)) (.s A' n' c');rw[e0,iI css h2 m qa cs 0 _ qe qO,iI css h2 m qa _ 1 _ (by simp[qe]) qO,iI css h2 m qa _ 2 _ (by simp[qe]) qO]at b;have e3:((cs.set 0 (.bool neg)).set 1 (.s A n1 c1)).set 2 (.s A' n' c')=[.bool neg,.s A n1 c1,.s A' n' c']:=(by (rcases cs with _|⟨a0,_|⟨a1,_|⟨a2,_|⟨a3,r⟩⟩⟩⟩);all_goals first|(simp at qe;done)|rfl);rw[e3]at b;refine⟨css.set m [.bool neg,.s A n1 c1,.s A' n' c'],by simp[h1],fun c hcc=>?_,by rw[yV,hn];exact b,fun i p hi=>?_⟩;{(rcases xE hcc with h|h);{exact h2 c h};rw[h];rfl};by_cases e:m=i;{subst e;(rw[yM hm]at hi;injection hi with hi);subst hi;exact⟨_,yM qa,neg,A,n1,c1,A',n',c',rfl,hl.other g2 hb qD⟩};rw[vN e]at hi;obtain⟨qg,k1,k2⟩:=h4 i p hi;exact⟨qg,by rw[vN e];exact k1,k2.other g2 hb qD⟩
def RwC(w:World)(cs:List Value)(V:Value)(q:Rat):Prop:=
 ∃(neg:Bool) (A:OA) (n c:Nat) (A':OA) (n' c':Nat),cs=[V,.bool neg,.s A n c,.s A' n' c']/\aB w neg A n c A' n' c' q
theorem RwC.K{cs:List Value}{V:Value}{q:Rat}(h:RwC w cs V q)(hx:Ext w w'):RwC w' cs V q:=by
 obtain⟨neg,A,n,c,A',n',c',e,h1⟩:=h;exact⟨neg,A,n,c,A',n',c',e,h1.K hx⟩
theorem FrS.rwc{cs:List Value}{V:Value}{q:Rat}(k:FrS S w w')(hn:NoT S w 196)(h:RwC w cs V q):RwC w' cs V q:=by
 obtain⟨neg,A,n,c,A',n',c',e,h1⟩:=h;exact⟨neg,A,n,c,A',n',c',e,k.ratR hn h1⟩
end
end Go.Proofs.YtfeeacaofjpkaaaGreatDoor
namespace Go.Proofs.YtfeeacaofjpkaaaGreatDoor
open Go.Proofs.Tryz
namespace Sx
def sm:Nat->(Nat->Rat)->Rat
 |0,_=>0
 |n+1,f=>sm n f+f n
theorem sm_congr:∀(n:Nat) {f g:Nat->Rat},(∀k,k<n->f k=g k)->sm n f=sm n g
 |0,_,_,_=>rfl
 |n+1,f,g,h=>by
  show sm n f+f n=sm n g+g n;rw[sm_congr n (fun k hk=>h k qO),h n qO]
theorem sm_zero:∀(n:Nat) {f:Nat->Rat},(∀k,k<n->f k=0)->sm n f=0
 |0,_,_=>rfl
 |n+1,f,h=>by
  show sm n f+f n=0;rw[sm_zero n (fun k hk=>h k qO),h n qO];grind
theorem sm_add:∀(n:Nat) (f g:Nat->Rat),sm n (fun k=>f k+g k)=sm n f+sm n g
 |0,_,_=>by show(0:Rat)=0+0;grind
 |n+1,f,g=>by
  show sm n (fun k=>f k+g k)+(f n+g n)=(sm n f+f n)+(sm n g+g n);rw[sm_add n f g];grind
theorem eO:∀(n:Nat) (c:Rat) (f:Nat->Rat),sm n (fun k=>c*f k)=c*sm n f
 |0,c,_=>by show(0:Rat)=c*0;grind
 |n+1,c,f=>by
  show sm n (fun k=>c*f k)+c*f n=c*(sm n f+f n);rw[eO n c f];grind
theorem tN(n:Nat)(c:Rat)(f:Nat->Rat):sm n (fun k=>f k*c)=sm n f*c:=by
 rw[Rat.mul_comm, <-eO];exact sm_congr n fun k _=>Rat.mul_comm _ _
theorem jza8(n:Nat)(f g:Nat->Rat):sm n (fun k=>f k-g k)=sm n f-sm n g:=by
 have h:=sm_add n (fun k=>f k-g k) g;have h2:sm n (fun k=>f k-g k+g k)=sm n f:=sm_congr n fun k _=>qG;rw[h2]at h;grind
theorem sm_one:∀(n:Nat) {f:Nat->Rat} {l:Nat},l<n->(∀k,k<n->k≠l->f k=0)->sm n f=f l
 |n+1,f,l,hl,h=>by
  show sm n f+f n=f l;by_cases e:l=n
  ·subst e
   rw[sm_zero l (fun k hk=>h k qO qO)];grind
  ·rw[sm_one n qO (fun k hk hkl=>h k qO hkl),h n qO (fun e2=>e e2.symm)];grind
theorem mJ(n:Nat):∀(m:Nat) (f:Nat->Nat->Rat),sm n (fun k=>sm m (fun l=>f k l))=sm m (fun l=>sm n (fun k=>f k l))
 |0,f=>sm_zero n fun k _=>rfl
 |m+1,f=>by
  show sm n (fun k=>sm m (fun l=>f k l)+f k m)=sm m (fun l=>sm n (fun k=>f k l))+sm n (fun k=>f k m);rw[sm_add,mJ n m f]
theorem kG:∀(n:Nat) {f:Nat->Rat},(∀k,k<n->0<=f k)->0<=sm n f
 |0,_,_=>vC
 |n+1,f,h=>by
  show 0<=sm n f+f n;have h1:=kG n (fun k hk=>h k qO);have h2:=h n qO;grind
theorem sm_le:∀(n:Nat) {f g:Nat->Rat},(∀k,k<n->f k<=g k)->sm n f<=sm n g
 |0,_,_,_=>vC
 |n+1,f,g,h=>by
  show sm n f+f n<=sm n g+g n;have h1:=sm_le n (fun k hk=>h k qO);have h2:=h n qO;grind
theorem jza9:∀(n:Nat) {f:Nat->Rat},0<sm n f->∃k,k<n/\0<f k
 |0,f,h=>absurd h (by show¬(0:Rat)<0;exact kZf)
 |n+1,f,h=>by
  have h:0<sm n f+f n:=h;by_cases h1:0<f n
  ·exact⟨n,qO,h1⟩
  ·obtain⟨k,hk,h2⟩:=jza9 n (f:=f) qG
   exact⟨k,qO,h2⟩
def piv(M:Nat->Nat->Rat)(i e:Nat):Nat->Nat->Rat:=fun k v=>if k=i then M i v/M i e else M k v-M k e*(M i v/M i e)
def fM(bas:Nat->Nat)(i e:Nat):Nat->Nat:=fun k=>if k=i then e else bas k
structure gM(m nv:Nat)(M:Nat->Nat->Rat)(bas:Nat->Nat):Prop where
 unit:∀l,l<m->∀k,k<=m->M k (bas l)=if k=l then 1 else 0
 lt:∀l,l<m->bas l<nv
theorem gM.inj{m nv:Nat}{M:Nat->Nat->Rat}{bas:Nat->Nat}(h:gM m nv M bas){k l:Nat}(hk:k<m)(hl:l<m)(e:bas k=bas l):k=l:=by
 by_cases h1:k=l;{exact h1};have h2:=h.unit k hk k qO;have h3:=h.unit l hl k qO;rw[e]at h2;rw[h2,qE rfl,qF h1]at h3;exact absurd h3 qD
theorem fN(M:Nat->Nat->Rat)(i e v:Nat):piv M i e i v=M i v/M i e:=by unfold piv;rw[qE rfl]
theorem dZ(M:Nat->Nat->Rat){i k:Nat}(e v:Nat)(h:k≠i):piv M i e k v=M k v-M k e*(M i v/M i e):=by unfold piv;rw[qF h]
theorem nR(bas:Nat->Nat)(i e:Nat):fM bas i e i=e:=by unfold fM;rw[qE rfl]
theorem mK(bas:Nat->Nat){i k:Nat}(e:Nat)(h:k≠i):fM bas i e k=bas k:=by unfold fM;rw[qF h]
theorem gM.pivot{m nv:Nat}{M:Nat->Nat->Rat}{bas:Nat->Nat}(h:gM m nv M bas){i e:Nat}(hi:i<m)(he:e<nv)(hp:M i e≠0):gM m nv (piv M i e) (fM bas i e):=by
 refine⟨fun l hl k hk=>?_,fun l hl=>?_⟩;{by_cases qa:l=i;{subst qa;rw[nR];by_cases qe:k=l;{subst qe;rw[fN,qE rfl];grind};rw[dZ M e e qe,qF qe];grind};rw[mK bas e qa];have h0:=h.unit l hl i qO;rw[qF (fun e=>qa e.symm)]at h0;by_cases qe:k=i;{subst qe;rw[fN,h0,qF (fun e=>qa e.symm)];grind};rw[dZ M e _ qe,h0,h.unit l hl k hk];grind};by_cases qa:l=i;{rw[qa,nR];exact he};rw[mK bas e qa];exact h.lt l hl
def Sp(m:Nat)(M M':Nat->Nat->Rat):Prop:=∃(A:Nat->Nat->Rat) (L:Nat->Rat),(∀k,k<m->∀v,M' k v=sm m fun l=>A k l*M l v)/\∀v,M' m v=M m v+sm m fun l=>L l*M l v
theorem Sp.refl(m:Nat)(M:Nat->Nat->Rat):Sp m M M:=⟨fun k l=>if k=l then 1 else 0,fun _=>0,fun k hk v=>by
 rw[sm_one m hk (fun l hl hlk=>by dsimp only;rw[qF (fun e=>hlk e.symm)];grind)];dsimp only;rw[qE rfl];grind,fun v=>by
 rw[sm_zero m (fun l _=>qG)];grind⟩
theorem Sp.trans{m:Nat}{M M' M2:Nat->Nat->Rat}(h:Sp m M M')(h2:Sp m M' M2):Sp m M M2:=by
 obtain⟨A,L,h3,h4⟩:=h;obtain⟨A',L',h5,h6⟩:=h2;have qa:∀(C:Nat->Rat) (v:Nat),sm m (fun l=>C l*M' l v)=sm m fun j=>(sm m fun l=>C l*A l j)*M j v:=fun C v=>(by have e1:sm m (fun l=>C l*M' l v)=sm m fun l=>sm m fun j=>C l*A l j*M j v:=sm_congr m fun l hl=>(by rw[h3 l hl v, <-eO];exact sm_congr m fun j _=>qG);rw[e1,mJ];exact sm_congr m fun j _=>by rw[<-tN]);refine⟨fun k j=>sm m fun l=>A' k l*A l j,fun j=>L j+sm m fun l=>L' l*A l j,fun k hk v=>?_,fun v=>?_⟩;{rw[h5 k hk v,qa]};rw[h6 v,h4 v,qa,Rat.add_assoc, <-sm_add];congr 1;exact sm_congr m fun j _=>by grind
theorem Sp.fwd{m:Nat}(M:Nat->Nat->Rat){i:Nat}(e:Nat)(hi:i<m):Sp m M (piv M i e):=by
 refine⟨fun k l=>if k=i then(if l=i then 1/M i e else 0)else(if l=k then 1 else if l=i then-M k e/M i e else 0),fun l=>if l=i then-M m e/M i e else 0,fun k hk v=>?_,fun v=>?_⟩;{by_cases qa:k=i;{subst qa;rw[fN,sm_one m hi (fun l _ hl=>by dsimp only;rw[qE rfl,qF hl];grind)];dsimp only;rw[qE rfl,qE rfl];grind};rw[dZ M e v qa];have e1:sm m (fun l=>(if k=i then(if l=i then 1/M i e else 0)else(if l=k then 1 else if l=i then-M k e/M i e else 0))*M l v)=sm m (fun l=>(if l=k then M k v else 0)+(if l=i then(-M k e/M i e)*M i v else 0)):=sm_congr m fun l _=>(by rw[qF qa];by_cases h1:l=k;{subst h1;rw[qE rfl,qE rfl,qF qa];grind};rw[qF h1,qF h1];by_cases h2:l=i;{subst h2;rw[qE rfl,qE rfl];grind};rw[qF h2,qF h2];grind);rw[e1,sm_add,sm_one m hk (fun l _ hl=>by rw[qF hl]),sm_one m hi (fun l _ hl=>by rw[qF hl]),qE rfl,qE rfl];grind};rw[dZ M e v qO,sm_one m hi (fun l _ hl=>by dsimp only;rw[qF hl];grind)];dsimp only;rw[qE rfl];grind
theorem Sp.bwd{m:Nat}(M:Nat->Nat->Rat){i:Nat}(e:Nat)(hi:i<m)(hp:M i e≠0):Sp m (piv M i e) M:=by
 refine⟨fun k l=>if k=i then(if l=i then M i e else 0)else(if l=k then 1 else if l=i then M k e else 0),fun l=>if l=i then M m e else 0,fun k hk v=>?_,fun v=>?_⟩;{by_cases qa:k=i;{subst qa;rw[sm_one m hi (fun l _ hl=>by dsimp only;rw[qE rfl,qF hl];grind)];dsimp only;rw[qE rfl,qE rfl,fN];grind};have e1:sm m (fun l=>(if k=i then(if l=i then M i e else 0)else(if l=k then 1 else if l=i then M k e else 0))*piv M i e l v)=sm m (fun l=>(if l=k then piv M i e k v else 0)+(if l=i then M k e*piv M i e i v else 0)):=sm_congr m fun l _=>(by rw[qF qa];by_cases h1:l=k;{subst h1;rw[qE rfl,qE rfl,qF qa];grind};rw[qF h1,qF h1];by_cases h2:l=i;{subst h2;rw[qE rfl,qE rfl];grind};rw[qF h2,qF h2];grind);rw[e1,sm_add,sm_one m hk (fun l _ hl=>by rw[qF hl]),sm_one m hi (fun l _ hl=>by rw[qF hl]),qE rfl,qE rfl,dZ M e v qa,fN];grind};rw[sm_one m hi (fun l _ hl=>by dsimp only;rw[qF hl];grind)];dsimp only;rw[qE rfl,dZ M e v qO,fN];grind
theorem Sp.goal{m nv:Nat}{M M':Nat->Nat->Rat}{bas:Nat->Nat}(h:Sp m M M')(hd:gM m nv M bas)(v:Nat):M' m v=M m v+sm m fun l=>M' m (bas l)*M l v:=by
 obtain⟨A,L,_,h4⟩:=h;rw[h4 v];congr 1;refine sm_congr m fun l hl=>?_;have h5:=h4 (bas l);rw[hd.unit l hl m qO,qF qO,sm_one m hl (fun j hj hjl=>by rw[hd.unit l hl j qO,qF hjl];grind),hd.unit l hl l qO,qE rfl]at h5;rw[h5];grind
structure Bl(m nv:Nat)(M:Nat->Nat->Rat)(bas:Nat->Nat)(i e:Nat):Prop where
 hi:i<m
 he:e<nv
 neg:M m e<0
 first:∀v,v<e->0<=M m v
 pos:0<M i e
 least:∀k,k<m->0<M k e->M i nv/M i e<=M k nv/M k e
 tie:∀k,k<m->0<M k e->M i nv/M i e=M k nv/M k e->bas i<=bas k
theorem jzba{a b:Rat}(h:0<=a)(h2:0<b):0<=a/b:=by
 rw[Rat.div_def];exact vA h (vB (Rat.inv_pos.2 h2))
theorem jzjb{a b c:Rat}(h:0<c)(h2:a<=b/c):a*c<=b:=by
 have:=kQ5 h2 (vB h);have e:b/c*c=b:=qG;rw[e]at this;exact this
theorem Bl.feas{m nv:Nat}{M:Nat->Nat->Rat}{bas:Nat->Nat}{i e:Nat}(h:Bl m nv M bas i e)(hf:∀k,k<m->0<=M k nv):∀k,k<m->0<=piv M i e k nv:=fun k hk=>by
 have h0:=jzba (hf i h.hi) h.pos;by_cases qa:k=i;{subst qa;rw[fN];exact h0};rw[dZ M e nv qa];by_cases hp:0<M k e;{have h1:=jzjb hp (h.least k hk hp);grind};have h1:=hf k hk;have h2:M k e*(M i nv/M i e)<=0:=(by have:=kQ5 (kQ4.1 hp) h0;grind);grind
theorem Bl.goal{m nv:Nat}{M:Nat->Nat->Rat}{bas:Nat->Nat}{i e:Nat}(h:Bl m nv M bas i e)(hf:∀k,k<m->0<=M k nv):M m nv<=piv M i e m nv/\(piv M i e m nv=M m nv->M i nv=0):=by
 have h0:=jzba (hf i h.hi) h.pos;have qa:m≠i:=(by have:=h.hi;omega);rw[dZ M e nv qa];refine⟨?_,fun e2=>?_⟩;{have:=kQ5 (vB h.neg) h0;grind};have h3:M m e*(M i nv/M i e)=0:=qG;have h4:=h.neg;have h5:=h.pos;have h6:M i nv/M i e=0:=(by (rcases Rat.mul_eq_zero.1 h3 with h7|h7);{grind};exact h7);grind
theorem tO:∀(n:Nat) (f:Nat->Nat),(∀k,k<n+1->f k<n)->∃a b,a<b/\b<n+1/\f a=f b
 |0,f,h=>absurd (h 0 qO) qO
 |n+1,f,h=>by
  by_cases h1:∃a,a<n+1/\f a=f (n+1)
  ·obtain⟨a,ha,e⟩:=h1
   exact⟨a,n+1,ha,qO,e⟩
  ·have qa:∀k,k<n+1->f k≠f (n+1):=fun k hk e=>h1 ⟨k,hk,e⟩
   obtain⟨a,b,qe,hb,e⟩:=tO n (fun k=>if f k=n then f (n+1)else f k) (fun k hk=>by
    have h2:=h k qO;have h3:=h (n+1) qO;have h4:=qa k hk
    split <;> omega)
   refine⟨a,b,qe,qO,?_⟩;have h5:=qa a qO;have h6:=qa b hb;by_cases ea:f a=n
   ·by_cases eb:f b=n
    ·rw[ea,eb]
    ·rw[qE ea,qF eb]at e;exact absurd e.symm h6
   ·by_cases eb:f b=n
    ·rw[qF ea,qE eb]at e;exact absurd e h5
    ·rw[qF ea,qF eb]at e;exact e
def iJ(p:Nat->Bool):Nat->Nat
 |0=>0
 |n+1=>2*iJ p n+if p n then 1 else 0
theorem jzbb(p:Nat->Bool):∀n,iJ p n<2^n
 |0=>by show 0<1;omega
 |n+1=>by
  have h:=jzbb p n;show 2*iJ p n+(if p n then 1 else 0)<2^(n+1);rw[vD]
  split <;> omega
theorem jzbc{p q:Nat->Bool}:∀{n:Nat},iJ p n=iJ q n->∀k,k<n->p k=q k
 |n+1,h,k,hk=>by
  have h:2*iJ p n+(if p n then 1 else 0)=2*iJ q n+(if q n then 1 else 0):=h;have e1:p n=q n:=by
   cases h1:p n <;> cases h2:q n
   ·rfl
   ·rw[h1,h2]at h;simp at h;omega
   ·rw[h1,h2]at h;simp at h;omega
   rfl
  have e2:iJ p n=iJ q n:=(by rw[e1]at h;omega);by_cases qa:k=n
  ·rw[qa];exact e1
  exact jzbc e2 k qO
theorem tP{p:Nat->Prop}{a:Nat}:∀{b:Nat},a<=b->¬p a->p b->∃n,a<=n/\n<b/\¬p n/\p (n+1)
 |b,hab,ha,hb=>by
  induction b with
  |zero=>obtain rfl:a=0:=by omega
         exact absurd hb ha
  |succ b ih=>
   by_cases h:p b
   ·by_cases qa:a<=b
    ·obtain⟨n,h1,h2,h3⟩:=ih qa h
     exact⟨n,h1,qO,h3⟩
    ·obtain rfl:a=b+1:=by omega
     exact absurd hb ha
   ·by_cases qa:a<=b
    ·exact⟨b,qa,qO,h,hb⟩
    ·obtain rfl:a=b+1:=by omega
     exact absurd hb ha
theorem jzbd{p:Nat->Prop}{a b:Nat}(hab:a<=b)(ha:p a)(hb:¬p b):∃n,a<=n/\n<b/\p n/\¬p (n+1):=by
 obtain⟨n,h1,h2,h3,h4⟩:=tP (p:=fun n=> ¬p n) hab (fun h=>h ha) hb;exact⟨n,h1,h2,Classical.not_not.1 h3,h4⟩
theorem jzjc(f:Nat->Nat)(a:Nat):∀b,a<b->∃c,a<=c/\c<b/\∀n,a<=n->n<b->f n<=f c
 |b,hab=>by
  induction b with
  |zero=>omega
  |succ b ih=>
   by_cases h:a<b
   ·obtain⟨c,h1,h2,h3⟩:=ih h
    by_cases h4:f b<=f c
    ·exact⟨c,h1,qO,fun n h5 h6=>by
     by_cases e:n=b
     ·rw[e];exact h4
     ·exact h3 n h5 qO⟩
    ·exact⟨b,qO,qO,fun n h5 h6=>by
     by_cases e:n=b
     ·rw[e];exact yX _
     ·have:=h3 n h5 qO;omega⟩
   ·obtain rfl:a=b:=by omega
    exact⟨a,yX _,qO,fun n h5 h6=>by
     obtain rfl:n=a:=qO;exact yX _⟩
structure Run(m nv N:Nat)(M:Nat->Nat->Nat->Rat)(bas:Nat->Nat->Nat)(i e:Nat->Nat):Prop where
 dict:gM m nv (M 0) (bas 0)
 feas:∀k,k<m->0<=M 0 k nv
 bl:∀n,n<N->Bl m nv (M n) (bas n) (i n) (e n)
 nextM:∀n,n<N->M (n+1)=piv (M n) (i n) (e n)
 nextB:∀n,n<N->bas (n+1)=fM (bas n) (i n) (e n)
section
variable {m nv N:Nat} {M:Nat->Nat->Nat->Rat} {bas:Nat->Nat->Nat} {i e:Nat->Nat}
theorem Run.d(h:Run m nv N M bas i e):∀n,n<=N->gM m nv (M n) (bas n)/\∀k,k<m->0<=M n k nv
 |0,_=>⟨h.dict,h.feas⟩
 |n+1,hn=>by
  obtain⟨h1,h2⟩:=h.d n qO;have h3:=h.bl n qO;rw[h.nextM n qO,h.nextB n qO];exact⟨h1.pivot h3.hi h3.he (fun e=>by have:=h3.pos;rw[e]at this;exact absurd this qD),h3.feas h2⟩
theorem Run.sp(h:Run m nv N M bas i e){a b:Nat}(hab:a<=b)(hb:b<=N):Sp m (M a) (M b)/\Sp m (M b) (M a):=by
 induction b with
 |zero=>obtain rfl:a=0:=by omega
        exact⟨Sp.refl _ _,Sp.refl _ _⟩
 |succ b ih=>
  by_cases e2:a=b+1
  ·subst e2;exact⟨Sp.refl _ _,Sp.refl _ _⟩
  obtain⟨h1,h2⟩:=ih qO qO;have h3:=h.bl b qO;rw[h.nextM b qO];exact⟨h1.trans (Sp.fwd _ _ h3.hi),(Sp.bwd _ _ h3.hi (fun e=>by have:=h3.pos;rw[e]at this;exact absurd this qD)).trans h2⟩
theorem Run.sp2(h:Run m nv N M bas i e){a b:Nat}(ha:a<=N)(hb:b<=N):Sp m (M a) (M b):=by
 rcases Nat.le_total a b with h1|h1
 ·exact(h.sp h1 hb).1
 exact(h.sp h1 ha).2
theorem Run.mono(h:Run m nv N M bas i e){a b:Nat}(hab:a<=b)(hb:b<=N):M a m nv<=M b m nv:=by
 induction b with
 |zero=>obtain rfl:a=0:=by omega
        exact vC
 |succ b ih=>
  by_cases e2:a=b+1
  ·subst e2;exact vC
  have h1:=ih qO qO;have h3:=((h.bl b qO).goal (h.d b qO).2).1;rw[<-h.nextM b qO]at h3;exact kQs h1 h3
def inB(m:Nat)(bas:Nat->Nat)(v:Nat):Prop:=∃l,l<m/\bas l=v
theorem gM.ent{m nv:Nat}{M:Nat->Nat->Rat}{bas:Nat->Nat}(h:gM m nv M bas){v:Nat}(hv:M m v≠0):¬inB m bas v:=fun⟨l,hl,e⟩=>by
 have:=h.unit l hl m (yX _);rw[e,qF qO]at this;exact hv this
theorem Run.ent(h:Run m nv N M bas i e){n:Nat}(hn:n<N):¬inB m (bas n) (e n)/\inB m (bas (n+1)) (e n):=by
 have h1:=h.bl n hn;refine⟨(h.d n qO).1.ent (fun e2=>by have:=h1.neg;rw[e2]at this;exact absurd this qD),i n,h1.hi,?_⟩;rw[h.nextB n hn,nR]
theorem Run.came(h:Run m nv N M bas i e){n v:Nat}(hn:n<N)(h1:¬inB m (bas n) v)(h2:inB m (bas (n+1)) v):e n=v:=by
 obtain⟨l,hl,h3⟩:=h2;rw[h.nextB n hn]at h3;by_cases e2:l=i n;{rw[e2,nR]at h3;exact h3};rw[mK _ _ e2]at h3;exact absurd ⟨l,hl,h3⟩ h1
theorem Run.went(h:Run m nv N M bas i e){n v:Nat}(hn:n<N)(h1:inB m (bas n) v)(h2:¬inB m (bas (n+1)) v):bas n (i n)=v:=by
 obtain⟨l,hl,h3⟩:=h1;by_cases e2:l=i n;{rw[<-e2];exact h3};refine absurd ⟨l,hl,?_⟩ h2;rw[h.nextB n hn,mK _ _ e2];exact h3
theorem Run.still(h:Run m nv N M bas i e){n v:Nat}(hn:n<N)(hz:M n (i n) nv=0)(x:Rat)(hx:x≠0):(∃l,l<m/\bas n l=v/\M n l nv=x)↔∃l,l<m/\bas (n+1) l=v/\M (n+1) l nv=x:=by
 have hr:∀l,l≠i n->bas (n+1) l=bas n l/\M (n+1) l nv=M n l nv:=fun l hl=>(by rw[h.nextB n hn,h.nextM n hn,mK _ _ hl,dZ _ _ _ hl,hz];exact⟨rfl,qG⟩);have qe:M (n+1) (i n) nv=0:=(by rw[h.nextM n hn,fN,hz];grind);constructor;{rintro ⟨l,hl,h1,h2⟩;have qa:l≠i n:=fun e2=>(by rw[e2,hz]at h2;exact hx h2.symm);obtain⟨h3,h4⟩:=hr l qa;exact⟨l,hl,by rw[h3];exact h1,by rw[h4];exact h2⟩};rintro ⟨l,hl,h1,h2⟩;have qa:l≠i n:=fun e2=>(by rw[e2,qe]at h2;exact hx h2.symm);obtain⟨h3,h4⟩:=hr l qa;exact⟨l,hl,by rw[<-h3];exact h1,by rw[<-h4];exact h2⟩
theorem Run.stay(h:Run m nv N M bas i e){a b v:Nat}(hab:a<=b)(hb:b<=N)(hz:∀n,a<=n->n<b->M n (i n) nv=0)(x:Rat)(hx:x≠0):(∃l,l<m/\bas a l=v/\M a l nv=x)↔∃l,l<m/\bas b l=v/\M b l nv=x:=by
 induction b with
 |zero=>obtain rfl:a=0:=by omega
        exact Iff.rfl
 |succ b ih=>
  by_cases e2:a=b+1
  ·subst e2;exact Iff.rfl
  exact(ih qO qO (fun n h1 h2=>hz n h1 qO)).trans (h.still qO (hz b qO qO) x hx)
theorem Run.twice(h:Run m nv N M bas i e){a b:Nat}(hab:a<b)(hb:b<=N)(hs:∀v,inB m (bas a) v↔inB m (bas b) v):False:=by
 have qz:M b m nv=M a m nv:=(by have h1:=(h.sp2 (a:=a) (b:=b) qO hb).goal (h.d a qO).1 nv;rw[sm_zero m (fun l hl=>by obtain⟨k,hk,qt⟩:=(hs (bas a l)).1 ⟨l,hl,rfl⟩;have:=(h.d b hb).1.unit k hk m (yX _);rw[qt,qF qO]at this;rw[this];grind)]at h1;grind);have hz:∀n,a<=n->n<b->M n (i n) nv=0:=fun n h1 h2=>(by refine((h.bl n qO).goal (h.d n qO).2).2 ?_;rw[<-h.nextM n qO];have h3:=h.mono h1 qO;have h4:=h.mono (a:=n) (b:=n+1) qO qO;have h5:=h.mono (a:=n+1) (b:=b) qO hb;grind);have qy:∀c c' v (x:Rat),a<=c->c<=b->a<=c'->c'<=b->x≠0->(∃l,l<m/\bas c l=v/\M c l nv=x)->∃l,l<m/\bas c' l=v/\M c' l nv=x:=fun c c' v x h1 h2 h3 h4 hx hp=>(by (rcases Nat.le_total c c' with h5|h5);{exact(h.stay h5 qO (fun n h6 h7=>hz n qO qO) x hx).1 hp};exact(h.stay h5 qO (fun n h6 h7=>hz n qO qO) x hx).2 hp);obtain⟨c',qo,qJ,qg⟩:=jzjc e a b hab;obtain⟨qB,qA⟩:=h.ent (n:=c') qO;obtain⟨c,qh,qk,qj⟩:∃c,a<=c/\c<b/\bas c (i c)=e c':=(by by_cases hA:inB m (bas a) (e c');{obtain⟨n,h1,h2,h3,h4⟩:=jzbd (p:=fun n=>inB m (bas n) (e c')) qo hA qB;exact⟨n,h1,qO,h.went qO h3 h4⟩};obtain⟨n,h1,h2,h3,h4⟩:=jzbd (p:=fun n=>inB m (bas n) (e c')) (a:=c'+1) (b:=b) qO qA (fun h5=>hA ((hs _).2 h5));exact⟨n,qO,h2,h.went qO h3 h4⟩);have qe:=h.bl c qO;have qa:=h.bl c' qO;have hD:=(h.d c qO).1;have qI:=(h.d c' qO).1;have qx:e c<e c':=(by have h1:=qg c qh qk;have h2:e c≠e c':=fun e2=>(h.ent (n:=c) qO).1 ⟨i c,qe.hi,by rw[qj,e2]⟩;omega);have hg:=(h.sp2 (a:=c) (b:=c') qO qO).goal hD (e c);have h1:=qa.first _ qx;have h2:=qe.neg;obtain⟨l,hl,qf⟩:=jza9 m (f:=fun l=>M c' m (bas c l)*M c l (e c)) qG;have qC:M c' m (bas c l)≠0:=fun e2=>(by rw[e2]at qf;grind);have qn:=qI.ent qC;have qw:inB m (bas c) (bas c l):=⟨l,hl,rfl⟩;have qM:bas c l<=e c':=(by have qi:∃n,a<=n/\n<b/\e n=bas c l:=(by by_cases hA:inB m (bas a) (bas c l);{obtain⟨n,h3,h4,h5,h6⟩:=tP (p:=fun n=>inB m (bas n) (bas c l)) (a:=c') (b:=b) qO qn ((hs _).1 hA);exact⟨n,qO,h4,h.came qO h5 h6⟩};obtain⟨n,h3,h4,h5,h6⟩:=tP (p:=fun n=>inB m (bas n) (bas c l)) qh hA qw;exact⟨n,h3,qO,h.came qO h5 h6⟩);obtain⟨n,h3,h4,h5⟩:=qi;rw[<-h5];exact qg n h3 h4);by_cases qm:bas c l=e c';{have qH:l=i c:=hD.inj hl qe.hi (by rw[qm,qj]);rw[qm,qH]at qf;have h3:=qa.neg;have h4:=kQ5 (vB h3) (vB qe.pos);grind};have h3:=qa.first _ (show bas c l<e c' by omega);have h4:0<M c l (e c):=(by refine Rat.not_le.1 fun h5=>?_;have h6:=yT h5 h3;grind);have h0:M c l nv=0:=(by refine Classical.byContradiction fun hx=>?_;obtain⟨k,hk,qp,_⟩:=qy c c' (bas c l) _ qh qO qo qO hx ⟨l,hl,rfl,rfl⟩;exact qn ⟨k,hk,qp⟩);have h5:=qe.tie l hl h4 (by rw[h0,hz c qh qk];grind);rw[qj]at h5;omega
open Classical in
theorem Run.short(h:Run m nv N M bas i e):N<2^nv:=by
 refine Nat.lt_of_not_le fun hN=>?_;obtain⟨a,b,qa,hb,hc⟩:=tO (2^nv) (fun n=>iJ (fun v=>decide (inB m (bas n) v)) nv) (fun n _=>jzbb _ nv);refine h.twice qa qO fun v=>?_;by_cases hv:v<nv;{have:=jzbc hc v hv;simpa using this};exact⟨fun⟨l,hl,e2⟩=>absurd ((h.d a qO).1.lt l hl) qO,fun⟨l,hl,e2⟩=>absurd ((h.d b qO).1.lt l hl) qO⟩
end
end Sx
namespace Sx
def sg(j:Nat):Rat:=if j%2=0 then 1 else-1
theorem jzjd(j:Nat):sg (j+1)= -sg j:=by
 unfold sg;by_cases h:j%2=0;{rw[qE h,qF qO]};rw[qF h,qE qO];rfl
def sk(j l:Nat):Nat:=if l<j then l else l+1
def mn(a:Nat->Nat->Rat)(j:Nat):Nat->Nat->Rat:=fun i l=>a (i+1) (sk j l)
def dt:Nat->(Nat->Nat->Rat)->Rat
 |0,_=>1
 |m+1,a=>sm (m+1) fun j=>sg j*a 0 j*dt m (mn a j)
theorem gN(m:Nat)(a:Nat->Nat->Rat):dt (m+1) a=sm (m+1) fun j=>sg j*a 0 j*dt m (mn a j):=rfl
theorem kY:∀(m:Nat) {a b:Nat->Nat->Rat},(∀i,i<m->∀j,j<m->a i j=b i j)->dt m a=dt m b
 |0,_,_,_=>rfl
 |m+1,a,b,h=>by
  rw[gN,gN];refine sm_congr _ fun j hj=>?_;have e:dt m (mn a j)=dt m (mn b j):=kY m fun i hi l hl=>h (i+1) qO (sk j l) (by unfold sk;split <;> omega);rw[h 0 qO j hj,e]
def rc(a:Nat->Nat->Rat)(k:Nat)(u:Nat->Rat):Nat->Nat->Rat:=fun i j=>if j=k then u i else a i j
theorem nS(a:Nat->Nat->Rat)(k:Nat)(u:Nat->Rat):mn (rc a k u) k=mn a k:=by
 funext i l;unfold mn rc sk;rw[qF (by split <;> omega)]
def us(j k:Nat):Nat:=if k<j then k else k-1
theorem nT(a:Nat->Nat->Rat){j k:Nat}(u:Nat->Rat)(h:j≠k):mn (rc a k u) j=rc (mn a j) (us j k) (fun i=>u (i+1)):=by
 funext i l;(unfold mn rc sk us;have:((if l<j then l else l+1)=k)↔(l=if k<j then k else k-1):=(by split <;> split <;> omega);by_cases h2:l=if k<j then k else k-1);{rw[qE (this.2 h2),qE h2]};rw[qF (fun h3=>h2 (this.1 h3)),qF h2]
theorem iL(a:Nat->Nat->Rat)(k:Nat)(u:Nat->Rat)(i:Nat):rc a k u i k=u i:=by unfold rc;rw[qE rfl]
theorem gQ(a:Nat->Nat->Rat){j k:Nat}(u:Nat->Rat)(i:Nat)(h:j≠k):rc a k u i j=a i j:=by unfold rc;rw[qF h]
theorem pU:∀(m:Nat) (a:Nat->Nat->Rat) (k:Nat) (u v:Nat->Rat),k<m->dt m (rc a k (fun i=>u i+v i))=dt m (rc a k u)+dt m (rc a k v)
 |0,_,_,_,_,h=>absurd h qO
 |m+1,a,k,u,v,hk=>by
  rw[gN,gN,gN, <-sm_add];refine sm_congr _ fun j hj=>?_;by_cases h:j=k
  ·subst h
   rw[iL,iL,iL,nS,nS,nS];grind
  ·rw[gQ _ _ _ h,gQ _ _ _ h,gQ _ _ _ h,nT _ _ h,nT _ _ h,nT _ _ h,pU m _ _ _ _ (by unfold us;split <;> omega)];grind
theorem tQ:∀(m:Nat) (a:Nat->Nat->Rat) (k:Nat) (c:Rat) (u:Nat->Rat),k<m->dt m (rc a k (fun i=>c*u i))=c*dt m (rc a k u)
 |0,_,_,_,_,h=>absurd h qO
 |m+1,a,k,c,u,hk=>by
  rw[gN,gN, <-eO];refine sm_congr _ fun j hj=>?_;by_cases h:j=k
  ·subst h
   rw[iL,iL,nS,nS];grind
  ·rw[gQ _ _ _ h,gQ _ _ _ h,nT _ _ h,nT _ _ h,tQ m _ _ _ _ (by unfold us;split <;> omega)];grind
theorem jzbe(m:Nat)(a:Nat->Nat->Rat)(k:Nat)(hk:k<m)(c:Nat->Rat)(u:Nat->Nat->Rat):∀n,dt m (rc a k (fun i=>sm n fun l=>c l*u l i))=sm n fun l=>c l*dt m (rc a k (u l))
 |0=>by
  have h:=tQ m a k 0 (fun _=>0) hk;have e:(fun i:Nat=>sm 0 fun l=>c l*u l i)=fun i=>(0:Rat)*(fun _:Nat=>(0:Rat)) i:=by
   funext i
   show(0:Rat)=0*0;grind
  rw[e,h];show 0*_=(0:Rat);grind
 |n+1=>by
  have h:=pU m a k (fun i=>sm n fun l=>c l*u l i) (fun i=>c n*u n i) hk;refine Eq.trans h ?_;rw[jzbe m a k hk c u n,tQ m a k _ _ hk];rfl
theorem jzje(n:Nat){f:Nat->Rat}{k l:Nat}(hk:k<n)(hl:l<n)(hkl:k≠l)(h:∀j,j<n->j≠k->j≠l->f j=0):sm n f=f k+f l:=by
 have e:sm n f=sm n fun j=>(if j=k then f k else 0)+(if j=l then f l else 0):=sm_congr n fun j hj=>(by by_cases h1:j=k;{subst h1;rw[qE rfl,qF hkl];grind};by_cases h2:j=l;{subst h2;rw[qF h1,qE rfl];grind};rw[qF h1,qF h2,h j hj h1 h2];grind);rw[e,sm_add,sm_one n hk (fun j _ hj=>by rw[qF hj]),sm_one n hl (fun j _ hj=>by rw[qF hj]),qE rfl,qE rfl]
theorem pV:∀(m:Nat) (a:Nat->Nat->Rat) (k:Nat),k+1<m->(∀i,i<m->a i k=a i (k+1))->dt m a=0
 |0,_,_,h,_=>absurd h qO
 |m+1,a,k,hk,h=>by
  rw[gN,jzje (m+1) (k:=k) (l:=k+1) qO hk qO (fun j hj h1 h2=>by
   have:dt m (mn a j)=0:=by
    by_cases h3:k<j
    ·exact pV m _ k qO (fun i hi=>by
     unfold mn sk;rw[qE h3,qE qO];exact h (i+1) qO)
    obtain⟨k',rfl⟩:∃k',k=k'+1:=⟨k-1,qO⟩;exact pV m _ k' qO (fun i hi=>by
     unfold mn sk;rw[qF qO,qF qO];exact h (i+1) qO)
   rw[this];grind)]
  have e:dt m (mn a k)=dt m (mn a (k+1)):=kY m fun i hi l hl=>by
   unfold mn sk;by_cases h1:l<k
   ·rw[qE h1,qE qO]
   by_cases h2:l=k
   ·subst h2
    rw[qF qO,qE qO];exact(h (i+1) qO).symm
   rw[qF h1,qF qO]
  rw[e, <-h 0 qO,jzjd];grind
theorem tR(a:Nat->Nat->Rat){k l:Nat}(u v:Nat->Rat)(h:k≠l):rc (rc a k u) l v=rc (rc a l v) k u:=by
 funext i j;unfold rc;by_cases h1:j=l;{subst h1;rw[qE rfl,qF (fun e=>h e.symm),qE rfl]};rw[qF h1,qF h1]
theorem jzjf(m:Nat)(a:Nat->Nat->Rat)(k:Nat)(hk:k+1<m)(u v:Nat->Rat):dt m (rc (rc a k u) (k+1) v)= -dt m (rc (rc a k v) (k+1) u):=by
 have h0:∀x:Nat->Rat,dt m (rc (rc a k x) (k+1) x)=0:=fun x=>pV m _ k hk fun i _=>(by rw[iL,gQ _ _ _ qO,iL]);have h1:=h0 (fun i=>u i+v i);have ha:∀x:Nat->Rat,dt m (rc (rc a k (fun i=>u i+v i)) (k+1) x)=dt m (rc (rc a k u) (k+1) x)+dt m (rc (rc a k v) (k+1) x):=fun x=>(by rw[tR a _ x qO,pU m _ k u v qO,tR a u x qO,tR a v x qO]);rw[pU m _ (k+1) u v hk,ha,ha,h0,h0]at h1;grind
theorem tU(a:Nat->Nat->Rat)(k:Nat):rc a k (fun i=>a i k)=a:=by
 funext i j;unfold rc;by_cases h:j=k;{rw[qE h,h]};rw[qF h]
theorem tW:∀(n m:Nat) (a:Nat->Nat->Rat) (k:Nat),k+1+n<m->(∀i,i<m->a i k=a i (k+1+n))->dt m a=0
 |0,m,a,k,hk,h=>pV m a k hk h
 |n+1,m,a,k,hk,h=>by
  have e:a=rc (rc a (k+1+n) (fun i=>a i (k+1+n))) (k+1+n+1) (fun i=>a i (k+1+n+1)):=by
   rw[tU];exact(tU a (k+1+n+1)).symm
  rw[e,jzjf m a (k+1+n) hk,tW n m _ k qO (fun i hi=>?_)]
  ·grind
  rw[gQ _ _ _ qO,gQ _ _ _ qO,gQ _ _ _ qO,iL];exact h i hi
theorem jzjg(m:Nat)(a:Nat->Nat->Rat){k l:Nat}(hk:k<m)(hl:l<m)(hkl:k≠l)(h:∀i,i<m->a i k=a i l):dt m a=0:=by
 (rcases Nat.lt_or_gt_of_ne hkl with h1|h1);{obtain⟨n,rfl⟩:∃n,l=k+1+n:=⟨l-k-1,qO⟩;exact tW n m a k hl h};obtain⟨n,rfl⟩:∃n,k=l+1+n:=⟨k-l-1,qO⟩;exact tW n m a l hk fun i hi=>(h i hi).symm
theorem jzjh(m:Nat)(a:Nat->Nat->Rat)(k:Nat)(hk:k<m)(c:Nat->Rat)(u:Nat->Rat)(h:∀i,i<m->u i=sm m fun l=>c l*a i l):dt m (rc a k u)=c k*dt m a:=by
 have e:dt m (rc a k u)=dt m (rc a k (fun i=>sm m fun l=>c l*(fun l i=>a i l) l i)):=kY m fun i hi j hj=>(by unfold rc;by_cases h1:j=k;{rw[qE h1,qE h1];exact h i hi};rw[qF h1,qF h1]);rw[e,jzbe m a k hk,sm_one m hk (fun l hl hlk=>by rw[jzjg m _ hk hl (fun e=>hlk e.symm) (fun i hi=>by rw[iL,gQ _ _ _ hlk])];grind),tU]
theorem jzbf:∀m,dt m (fun i j=>if i=j then 1 else 0)=1
 |0=>rfl
 |m+1=>by
  rw[gN,sm_one (m+1) (l:=0) qO (fun j _ hj=>by rw[qF (fun e=>hj e.symm)];grind)];have e:dt m (mn (fun i j=>if i=j then 1 else 0) 0)=dt m (fun i j=>if i=j then 1 else 0):=kY m fun i _ j _=>by
   unfold mn sk;rw[qF qO]
   dsimp only
   by_cases h:i=j
   ·rw[qE h,qE qO]
   ·rw[qF h,qF qO]
  rw[e,jzbf m,qE rfl];unfold sg;rw[qE rfl];grind
def isI(q:Rat):Prop:=∃z:Int,q=(z:Rat)
theorem isI.add{a b:Rat}:isI a->isI b->isI (a+b):=fun⟨x,h⟩ ⟨y,h2⟩=>⟨x+y,by rw[h,h2,Rat.intCast_add]⟩
theorem isI.mul{a b:Rat}:isI a->isI b->isI (a*b):=fun⟨x,h⟩ ⟨y,h2⟩=>⟨x*y,by rw[h,h2,kZu]⟩
theorem isI.neg{a:Rat}:isI a->isI (-a):=fun⟨x,h⟩=>⟨-x,by rw[h,Rat.intCast_neg]⟩
theorem isI.zero:isI 0:=⟨0,rfl⟩
theorem isI.one:isI 1:=⟨1,rfl⟩
theorem isI.sm:∀(n:Nat) {f:Nat->Rat},(∀k,k<n->isI (f k))->isI (sm n f)
 |0,_,_=>isI.zero
 |n+1,_,h=>(isI.sm n fun k hk=>h k qO).add (h n qO)
theorem jzbg:∀(m:Nat) {a:Nat->Nat->Rat},(∀i,i<m->∀j,j<m->isI (a i j))->isI (dt m a)
 |0,_,_=>isI.one
 |m+1,a,h=>by
  rw[gN];refine isI.sm _ fun j hj=>((?_:isI (sg j)).mul (h 0 qO j hj)).mul (jzbg m fun i hi l hl=>h (i+1) qO _ (by unfold sk;split <;> omega));unfold sg
  split
  ·exact isI.one
  ·exact isI.one.neg
def ab(q:Rat):Rat:=if q<0 then-q else q
theorem nU(q:Rat):0<=ab q:=by unfold ab;split <;> grind
theorem jzbh(a b:Rat):ab (a+b)<=ab a+ab b:=by unfold ab;split <;> split <;> split <;> grind
theorem lM(a:Rat):ab (-a)=ab a:=by unfold ab;split <;> split <;> grind
theorem tX(a b:Rat):ab (a*b)=ab a*ab b:=by
 have qa:∀x y:Rat,0<=x->0<=y->ab (x*y)=x*y:=fun x y hx hy=>(by unfold ab;rw[qF (kQ4.2 (vA hx hy))]);(have hp:∀x:Rat,0<=x->ab x=x:=fun x hx=>(by unfold ab;rw[qF (kQ4.2 hx)]);rcases Rat.le_total (a:=0) (b:=a)with h1|h1 <;> rcases Rat.le_total (a:=0) (b:=b)with h2|h2);{rw[qa a b h1 h2,hp a h1,hp b h2]};{have h3:=qa a (-b) h1 qG;rw[<-lM b,hp a h1,hp (-b) qG, <-h3, <-lM];congr 1;grind};{have h3:=qa (-a) b qG h2;rw[<-lM a,hp b h2,hp (-a) qG, <-h3, <-lM];congr 1;grind};have h3:=qa (-a) (-b) qG qG;rw[<-lM a, <-lM b,hp (-a) qG,hp (-b) qG, <-h3];congr 1;grind
theorem tY:∀(n:Nat) (f:Nat->Rat),ab (sm n f)<=sm n fun k=>ab (f k)
 |0,_=>by show ab 0<=0;decide
 |n+1,f=>by
  show ab (sm n f+f n)<=sm n (fun k=>ab (f k))+ab (f n);have h:=jzbh (sm n f) (f n);have h2:=tY n f;grind
def pr:Nat->(Nat->Rat)->Rat
 |0,_=>1
 |n+1,f=>pr n f*f n
theorem jzbi:∀(n:Nat) {f:Nat->Rat},(∀k,k<n->0<=f k)->0<=pr n f
 |0,_,_=>by show(0:Rat)<=1;decide
 |n+1,_,h=>vA (jzbi n fun k hk=>h k qO) (h n qO)
theorem jzbj:∀(n:Nat) {f g:Nat->Rat},(∀k,k<n->f k=g k)->pr n f=pr n g
 |0,_,_,_=>rfl
 |n+1,f,g,h=>by
  show pr n f*f n=pr n g*g n;rw[jzbj n (fun k hk=>h k qO),h n qO]
theorem tZ:∀(n:Nat) {f g:Nat->Rat},(∀k,k<n->0<=f k)->(∀k,k<n->f k<=g k)->pr n f<=pr n g
 |0,_,_,_,_=>vC
 |n+1,f,g,h0,h=>by
  show pr n f*f n<=pr n g*g n;have h1:=tZ n (fun k hk=>h0 k qO) (fun k hk=>h k qO);have h2:=jzbi n (fun k hk=>h0 k qO);have h3:=h0 n qO;have h4:=h n qO;exact kQs (kQ5 h1 h3) (yT h4 (kQs h2 h1))
theorem jzbk(x y:Nat->Rat)(hx:∀k,0<=x k)(hy:∀k,0<=y k):∀m,(sm (m+1) fun j=>x j*pr m fun l=>y (sk j l))<=pr (m+1) fun j=>x j+y j
 |0=>by
  show 0+x 0*1<=1*(x 0+y 0);have:=hy 0;grind
 |m+1=>by
  have ih:=jzbk x y hx hy m;have e1:sm (m+1+1) (fun j=>x j*pr (m+1) fun l=>y (sk j l))=sm (m+1) (fun j=>(x j*pr m fun l=>y (sk j l))*y (m+1))+x (m+1)*pr (m+1) y:=by
   show sm (m+1) _+_=_
   congr 1
   ·refine sm_congr _ fun j hj=>?_
    show x j*(pr m (fun l=>y (sk j l))*y (sk j m))=_;have:sk j m=m+1:=(by unfold sk;rw[qF qO]);rw[this];grind
   show x (m+1)*(pr (m+1) fun l=>y (sk (m+1) l))=_
   congr 1
   exact jzbj (m+1) fun l hl=>by unfold sk;rw[qE qO]
  rw[e1,tN];show _<=pr (m+1) (fun j=>x j+y j)*(x (m+1)+y (m+1));have h1:=kQ5 ih (hy (m+1));have h2:pr (m+1) y<=pr (m+1) fun j=>x j+y j:=tZ _ (fun k _=>hy k) (fun k _=>by have:=hx k;grind);have h3:=yT h2 (hx (m+1));grind
theorem jzji(n:Nat)(f:Nat->Rat):sm (n+1) f=f 0+sm n fun k=>f (k+1):=by
 (induction n with|zero=>show(0:Rat)+f 0=f 0+0;grind|succ n ih=>show sm (n+1) f+f (n+1)=f 0+(sm n (fun k=>f (k+1))+f (n+1));rw[ih];grind)
theorem jzbl:∀(m:Nat) (a:Nat->Nat->Rat),ab (dt m a)<=pr m fun j=>sm m fun i=>ab (a i j)
 |0,_=>by show ab 1<=1;decide
 |m+1,a=>by
  have h1:=tY (m+1) fun j=>sg j*a 0 j*dt m (mn a j);have h2:sm (m+1) (fun j=>ab (sg j*a 0 j*dt m (mn a j)))<=sm (m+1) (fun j=>ab (a 0 j)*pr m fun l=>sm m fun i=>ab (a (i+1) (sk j l))):=by
   refine sm_le (m+1) fun j hj=>?_;have h3:ab (sg j)=1:=(by unfold sg;split <;> rfl);have h4:ab (sg j*a 0 j*dt m (mn a j))=ab (a 0 j)*ab (dt m (mn a j)):=(by rw[tX,tX,h3,Rat.one_mul]);rw[h4];exact yT (jzbl m (mn a j)) (nU _)
  have h3:=jzbk (fun j=>ab (a 0 j)) (fun c=>sm m fun i=>ab (a (i+1) c)) (fun k=>nU _) (fun k=>kG m fun i _=>nU _) m;have h4:(fun j=>ab (a 0 j)+sm m fun i=>ab (a (i+1) j))=fun j=>sm (m+1) fun i=>ab (a i j):=by
   funext j
   exact(jzji m fun i=>ab (a i j)).symm
  have h5:pr (m+1) (fun j=>ab (a 0 j)+sm m fun i=>ab (a (i+1) j))=pr (m+1) fun j=>sm (m+1) fun i=>ab (a i j):=(by rw[h4]);rw[gN, <-h5];exact kQs h1 (kQs h2 h3)
def Col(m nv:Nat)(M:Nat->Nat->Rat)(bas:Nat->Nat)(col:Nat->Nat->Rat)(cost:Nat->Rat):Prop:=
 ∀v,v<=nv->(∀i,i<m->col v i=sm m fun l=>M l v*col (bas l) i)/\M m v=(sm m fun l=>M l v*cost (bas l))-cost v
theorem jzbm{m:Nat}{M:Nat->Nat->Rat}{bas:Nat->Nat}{i e:Nat}(hi:i<m)(hp:M i e≠0)(v:Nat)(f:Nat->Rat):(sm m fun l=>piv M i e l v*f (fM bas i e l))=(sm m fun l=>M l v*f (bas l))+(M i v/M i e)*(f e-sm m fun l=>M l e*f (bas l)):=by
 (have e1:(sm m fun l=>piv M i e l v*f (fM bas i e l))=sm m fun l=>((M l v*f (bas l))-(M i v/M i e)*(M l e*f (bas l)))+if l=i then(M i v/M i e)*f e else 0:=sm_congr m fun l _=>(by by_cases h:l=i;{subst h;rw[fN,nR,qE rfl];grind};rw[dZ M e v h,mK bas e h,qF h];grind));rw[e1,sm_add,jza8,eO,sm_one m (f:=fun l=>if l=i then(M i v/M i e)*f e else 0) hi (fun l _ hl=>by rw[qF hl]),qE rfl];grind
theorem Col.pivot{m nv:Nat}{M:Nat->Nat->Rat}{bas:Nat->Nat}{col:Nat->Nat->Rat}{cost:Nat->Rat}(h:Col m nv M bas col cost){i e:Nat}(hi:i<m)(he:e<nv)(hp:M i e≠0):Col m nv (piv M i e) (fM bas i e) col cost:=fun v hv=>by
 have h1:=h v hv;have h2:=h e qO;refine⟨fun j hj=>?_,?_⟩;{rw[jzbm hi hp v fun v=>col v j, <-h1.1 j hj, <-h2.1 j hj];grind};{rw[jzbm hi hp v cost,dZ M e v qO,h1.2,h2.2];grind}
def dB(m:Nat)(col:Nat->Nat->Rat)(bas:Nat->Nat):Rat:=dt m fun i l=>col (bas l) i
theorem Col.det{m nv:Nat}{M:Nat->Nat->Rat}{bas:Nat->Nat}{col:Nat->Nat->Rat}{cost:Nat->Rat}(h:Col m nv M bas col cost){k:Nat}(hk:k<m){v:Nat}(hv:v<=nv):dt m (rc (fun i l=>col (bas l) i) k (col v))=M k v*dB m col bas:=
 jzjh m _ k hk (fun l=>M l v) (col v) fun i hi=>(h v hv).1 i hi
theorem Col.det_piv{m nv:Nat}{M:Nat->Nat->Rat}{bas:Nat->Nat}{col:Nat->Nat->Rat}{cost:Nat->Rat}(h:Col m nv M bas col cost){i e:Nat}(hi:i<m)(he:e<nv):dB m col (fM bas i e)=M i e*dB m col bas:=by
 rw[<-h.det hi (show e<=nv by omega)];unfold dB;refine kY m fun k _ l _=>?_;unfold rc fM;by_cases h1:l=i;{rw[qE h1,qE h1]};rw[qF h1,qF h1]
def pW(m nv:Nat)(M:Nat->Nat->Rat)(col:Nat->Nat->Rat)(cost:Nat->Rat):Prop:=
 ∀v,v<=nv->(∀k,k<m->M k v=sm m fun i=>M k i*col v i)/\M m v=(sm m fun i=>M m i*col v i)-cost v
theorem pW.pivot{m nv:Nat}{M:Nat->Nat->Rat}{col:Nat->Nat->Rat}{cost:Nat->Rat}(h:pW m nv M col cost){i:Nat}(e:Nat)(hi:i<m):pW m nv (piv M i e) col cost:=fun v hv=>by
 obtain⟨h1,h2⟩:=h v hv;have qf:∀c:Rat,(sm m fun j=>(M i j/M i e)*col v j)=M i v/M i e:=fun _=>(by have e1:(sm m fun j=>(M i j/M i e)*col v j)=sm m fun j=>(1/M i e)*(M i j*col v j):=sm_congr m fun j _=>qG;rw[e1,eO, <-h1 i hi];grind);have qa:∀k,k≠i->(sm m fun j=>piv M i e k j*col v j)=(sm m fun j=>M k j*col v j)-M k e*(M i v/M i e):=fun k hk=>(by have e1:(sm m fun j=>piv M i e k j*col v j)=sm m fun j=>M k j*col v j-M k e*((M i j/M i e)*col v j):=sm_congr m fun j _=>(by rw[dZ M e j hk];grind);rw[e1,jza8,eO,qf 0]);refine⟨fun k hk=>?_,?_⟩;{by_cases qe:k=i;{subst qe;rw[fN, <-qf 0];exact sm_congr m fun j _=>by rw[fN]};{rw[qa k qe,dZ M e v qe, <-h1 k hk]}};{rw[qa m qO,dZ M e v qO,h2];grind}
end Sx
namespace Sx
structure Rw where
 co:LQ
 re:Rat
structure Tb where
 rows:List Rw
 bas:LN
 fre:LN
 goal:Rw
 cols:Nat
def at_(l:LQ)(k:Nat):Rat:=l[k]?.getD 0
def atN(l:LN)(k:Nat):Nat:=l[k]?.getD 0
def Tb.row(T:Tb)(i:Nat):Rw:=T.rows[i]?.getD ⟨[],0⟩
theorem gR(n:Nat)(f:Nat->Rat){k:Nat}(hk:k<n):at_ ((List.range n).map f) k=f k:=by
 unfold at_;rw[yW,xJ hk];rfl
def subL(x:LQ)(j:Nat)(f:Rat)(y:LQ)(i:Nat):LQ:=(List.range x.length).map fun k=>if k<i then(if k=j then 0 else at_ x k)-f*at_ y k else(if k=j then 0 else at_ x k)
def subR(r:Rw)(j:Nat)(b:Rw):Rw:=if at_ r.co j=0 then r else⟨subL r.co j (at_ r.co j) b.co r.co.length,r.re-at_ r.co j*b.re⟩
def sclL(x:LQ)(j:Nat)(q:Rat)(i:Nat):LQ:=(List.range x.length).map fun k=>if k<i then(if k=j then 1 else at_ x k)*q else(if k=j then 1 else at_ x k)
def sclR(r:Rw)(j:Nat):Rw:=⟨sclL r.co j (1/at_ r.co j) r.co.length,r.re*(1/at_ r.co j)⟩
def pivT(T:Tb)(i j:Nat):Tb:=
 ⟨(List.range T.rows.length).map (fun k=>if k=i then sclR (T.row i) j else subR (T.row k) j (sclR (T.row i) j)),T.bas.set i (atN T.fre j),T.fre.set j (atN T.bas i),subR T.goal j (sclR (T.row i) j),T.cols⟩
theorem subL_len(x:LQ)(j:Nat)(f:Rat)(y:LQ)(i:Nat):(subL x j f y i).length=x.length:=by unfold subL;simp
theorem sclL_len(x:LQ)(j:Nat)(q:Rat)(i:Nat):(sclL x j q i).length=x.length:=by unfold sclL;simp
theorem jzbn(r:Rw)(j:Nat)(b:Rw):(subR r j b).co.length=r.co.length:=by
 unfold subR;split;{rfl};exact subL_len _ _ _ _ _
theorem jzjj(r:Rw)(j:Nat):(sclR r j).co.length=r.co.length:=sclL_len _ _ _ _
theorem jzbo(r:Rw)(j:Nat)(b:Rw){k:Nat}(hk:k<r.co.length):at_ (subR r j b).co k=(if k=j then 0 else at_ r.co k)-at_ r.co j*at_ b.co k:=by
 unfold subR;split;{rename_i h;rw[h];by_cases e:k=j;{subst e;rw[qE rfl,h];grind};rw[qF e];grind};unfold subL;rw[gR _ _ hk,qE hk]
theorem jzbp(r:Rw)(j:Nat)(b:Rw):(subR r j b).re=r.re-at_ r.co j*b.re:=by
 unfold subR;split;{rename_i h;rw[h];grind};rfl
theorem jzjk(r:Rw)(j:Nat){k:Nat}(hk:k<r.co.length):at_ (sclR r j).co k=(if k=j then 1 else at_ r.co k)/at_ r.co j:=by
 unfold sclR sclL;simp only[];rw[gR _ _ hk,qE hk];grind
theorem jzjl(T:Tb)(i j:Nat):(pivT T i j).rows.length=T.rows.length:=by unfold pivT;simp
theorem jzjm(T:Tb)(i j:Nat){k:Nat}(hk:k<T.rows.length):(pivT T i j).row k=if k=i then sclR (T.row i) j else subR (T.row k) j (sclR (T.row i) j):=by
 unfold pivT;show(((List.range T.rows.length).map _)[k]?).getD _=_;rw[yW,xJ hk];rfl
structure Rep(T:Tb)(m nv:Nat)(M:Nat->Nat->Rat):Prop where
 rl:T.rows.length=m
 bl:T.bas.length=m
 fl:T.fre.length+m=nv
 cl:∀k,k<m->(T.row k).co.length=T.fre.length
 gl:T.goal.co.length=T.fre.length
 fv:∀j,j<T.fre.length->atN T.fre j<nv
 fi:∀j k,j<T.fre.length->k<T.fre.length->atN T.fre j=atN T.fre k->j=k
 fb:∀j l,j<T.fre.length->l<m->atN T.fre j≠atN T.bas l
 co:∀k j,k<m->j<T.fre.length->at_ (T.row k).co j=M k (atN T.fre j)
 go:∀j,j<T.fre.length->at_ T.goal.co j=M m (atN T.fre j)
 re:∀k,k<m->(T.row k).re=M k nv
 gr:T.goal.re=M m nv
 di:gM m nv M (atN T.bas)
theorem iO(l:LN)(i v k:Nat)(hi:i<l.length):atN (l.set i v) k=if k=i then v else atN l k:=by
 unfold atN;by_cases e:k=i;{subst e;rw[qE rfl,yM hi];rfl};rw[qF e,vN (fun h=>e h.symm)]
theorem Rep.pivot{T:Tb}{m nv:Nat}{M:Nat->Nat->Rat}(h:Rep T m nv M){i j:Nat}(hi:i<m)(hj:j<T.fre.length)(hp:at_ (T.row i).co j≠0):Rep (pivT T i j) m nv (Sx.piv M i (atN T.fre j)):=by
 (have qn:i<T.bas.length:=(by rw[h.bl];exact hi);have e1:(pivT T i j).bas=T.bas.set i (atN T.fre j):=rfl;have e2:(pivT T i j).fre=T.fre.set j (atN T.bas i):=rfl;have e3:(pivT T i j).goal=subR T.goal j (sclR (T.row i) j):=rfl;have qe:(pivT T i j).fre.length=T.fre.length:=(by rw[e2,yV]);have qf:∀k,k<m->(pivT T i j).row k=if k=i then sclR (T.row i) j else subR (T.row k) j (sclR (T.row i) j):=fun k hk=>jzjm T i j (by rw[h.rl];exact hk));(have qj:=h.co i j hi hj;rw[qj]at hp;have qm:∀k,k<=m->M k (atN T.bas i)=if k=i then 1 else 0:=h.di.unit i hi);have qk:M i (atN T.bas i)=1:=(by rw[qm i qO,qE rfl]);have qg:=h.cl i hi;have qh:∀k,k<T.fre.length->at_ (sclR (T.row i) j).co k=(if k=j then 1 else M i (atN T.fre k))/M i (atN T.fre j):=fun k hk=>(by rw[jzjk _ _ (by rw[qg];exact hk),qj,h.co i k hi hk]);have qi:(sclR (T.row i) j).re=M i nv/M i (atN T.fre j):=(by show(T.row i).re*(1/at_ (T.row i).co j)=_;rw[qj,h.re i hi];grind);refine⟨by rw[jzjl];exact h.rl,by rw[e1,yV];exact h.bl,by rw[qe];exact h.fl,fun k hk=>?_,by rw[e3,jzbn,qe];exact h.gl,fun k hk=>?_,fun k l hk hl e=>?_,fun k l hk hl e=>?_,fun k l hk hl=>?_,fun l hl=>?_,fun k hk=>?_,?_,?_⟩;{rw[qf k hk,qe];split;{rw[jzjj];exact qg};rw[jzbn];exact h.cl k hk};{rw[qe]at hk;rw[e2,iO _ _ _ _ hj];split;{exact h.di.lt i hi};exact h.fv k hk};{rw[qe]at hk hl;rw[e2,iO _ _ _ _ hj,iO _ _ _ _ hj]at e;by_cases h1:k=j;{by_cases h2:l=j;{rw[h1,h2]};rw[qE h1,qF h2]at e;exact absurd e.symm (h.fb l i hl hi)};by_cases h2:l=j;{rw[qF h1,qE h2]at e;exact absurd e (h.fb k i hk hi)};rw[qF h1,qF h2]at e;exact h.fi k l hk hl e};{rw[qe]at hk;rw[e1,e2,iO _ _ _ _ hj,iO _ _ _ _ qn]at e;by_cases h1:k=j;{by_cases h2:l=i;{rw[qE h1,qE h2]at e;exact h.fb j i hj hi e.symm};rw[qE h1,qF h2]at e;exact h2 (h.di.inj hl hi e.symm)};by_cases h2:l=i;{rw[qF h1,qE h2]at e;exact h1 (h.fi k j hk hj e)};rw[qF h1,qF h2]at e;exact h.fb k l hk hl e};{rw[qe]at hl;rw[qf k hk,e2,iO _ _ _ _ hj];by_cases qa:k=i;{subst qa;rw[qE rfl,qh l hl,fN];split;{rw[qk]};rfl};rw[qF qa,jzbo _ _ _ (by rw[h.cl k hk];exact hl),qh l hl,h.co k j hk hj,h.co k l hk hl,dZ _ _ _ qa];split;{rw[qm k qO,qF qa,qk]};rfl};{rw[qe]at hl;rw[e3,e2,iO _ _ _ _ hj,jzbo _ _ _ (by rw[h.gl];exact hl),qh l hl,h.go j hj,h.go l hl,dZ _ _ _ qO];split;{rw[qm m qO,qF qO,qk]};rfl};{rw[qf k hk];by_cases qa:k=i;{subst qa;rw[qE rfl,qi,fN]};rw[qF qa,jzbp,qi,h.co k j hk hj,h.re k hk,dZ _ _ _ qa]};{rw[e3,jzbp,qi,h.go j hj,h.gr,dZ _ _ _ qO]};have hb:atN (pivT T i j).bas=fM (atN T.bas) i (atN T.fre j):=(by funext l;rw[e1,iO _ _ _ _ qn];rfl);rw[hb];exact h.di.pivot hi (h.fv j hj) hp
def entN(T:Tb):Nat->Option Nat
 |0=>none
 |j+1=>if at_ T.goal.co j<0 then(match entN T j with
  |none=>some j
  |some b=>if atN T.fre j<atN T.fre b then some j else some b)else entN T j
def entT(T:Tb):Option Nat:=entN T T.goal.co.length
theorem entN_some(T:Tb):∀(n:Nat) {b:Nat},entN T n=some b->b<n/\at_ T.goal.co b<0/\∀j,j<n->at_ T.goal.co j<0->atN T.fre b<=atN T.fre j
 |0,_,h=>by cases h
 |n+1,b,h=>by
  have h:(if at_ T.goal.co n<0 then(match entN T n with
   |none=>some n
   |some b=>if atN T.fre n<atN T.fre b then some n else some b)else entN T n)=some b:=h
  by_cases h1:at_ T.goal.co n<0
  ·rw[qE h1]at h
   cases h2:entN T n with
   |none=>
    rw[h2]at h;injection h with h
    subst h;refine⟨qO,h1,fun j hj hn=>?_⟩;by_cases e:j=n
    ·rw[e];exact yX _
    ·exfalso
     have qa:∀k,entN T k=none->∀j,j<k->¬at_ T.goal.co j<0:=fun k=>by
      induction k with
      |zero=>intro _ j hj;omega
      |succ k ih=>
       intro hk j hj;have hk:(if at_ T.goal.co k<0 then(match entN T k with
        |none=>some k
        |some b=>if atN T.fre k<atN T.fre b then some k else some b)else entN T k)=none:=hk
       by_cases h3:at_ T.goal.co k<0
       ·rw[qE h3]at hk
        cases h4:entN T k with
        |none=>rw[h4]at hk;cases hk
        |some c=>rw[h4]at hk;simp only[]at hk;split at hk <;> cases hk
       ·rw[qF h3]at hk
        by_cases e:j=k
        ·rw[e];exact h3
        ·exact ih hk j qO
     exact qa n h2 j qO hn
   |some c=>
    rw[h2]at h;obtain⟨g1,g2,g3⟩:=entN_some T n h2;simp only[]at h;by_cases h3:atN T.fre n<atN T.fre c
    ·rw[qE h3]at h
     injection h with h
     subst h;refine⟨qO,h1,fun j hj hn=>?_⟩;by_cases e:j=n
     ·rw[e];exact yX _
     ·have:=g3 j qO hn;omega
    ·rw[qF h3]at h
     injection h with h
     subst h;refine⟨qO,g2,fun j hj hn=>?_⟩;by_cases e:j=n
     ·rw[e];omega
     ·exact g3 j qO hn
  ·rw[qF h1]at h
   obtain⟨g1,g2,g3⟩:=entN_some T n h;refine⟨qO,g2,fun j hj hn=>?_⟩;by_cases e:j=n
   ·rw[e]at hn;exact absurd hn h1
   ·exact g3 j qO hn
theorem jzbq(T:Tb):∀(n:Nat),entN T n=none->∀j,j<n->0<=at_ T.goal.co j
 |0,_,j,hj=>by omega
 |n+1,h,j,hj=>by
  have h:(if at_ T.goal.co n<0 then(match entN T n with
   |none=>some n
   |some b=>if atN T.fre n<atN T.fre b then some n else some b)else entN T n)=none:=h
  by_cases h1:at_ T.goal.co n<0
  ·rw[qE h1]at h
   cases h4:entN T n with
   |none=>rw[h4]at h;cases h
   |some c=>rw[h4]at h;simp only[]at h;split at h <;> cases h
  ·rw[qF h1]at h
   by_cases e:j=n
   ·rw[e];exact kQ4.1 h1
   ·exact jzbq T n h j qO
def quo(T:Tb)(j k:Nat):Rat:=(T.row k).re/at_ (T.row k).co j
def levN(T:Tb)(j:Nat):Nat->Option Nat
 |0=>none
 |i+1=>if 0<at_ (T.row i).co j then(match levN T j i with
  |none=>some i
  |some b=>if quo T j i<quo T j b\/quo T j i=quo T j b/\atN T.bas i<atN T.bas b then some i else some b)else levN T j i
def levT(T:Tb)(j:Nat):Option Nat:=levN T j T.rows.length
theorem uA(T:Tb)(j:Nat):∀(n:Nat),levN T j n=none->∀k,k<n->at_ (T.row k).co j<=0
 |0,_,k,hk=>by omega
 |n+1,h,k,hk=>by
  have h:(if 0<at_ (T.row n).co j then(match levN T j n with
   |none=>some n
   |some b=>if quo T j n<quo T j b\/quo T j n=quo T j b/\atN T.bas n<atN T.bas b then some n else some b)else levN T j n)=none:=h
  by_cases h1:0<at_ (T.row n).co j
  ·rw[qE h1]at h
   cases h4:levN T j n with
   |none=>rw[h4]at h;cases h
   |some c=>rw[h4]at h;simp only[]at h;split at h <;> cases h
  ·rw[qF h1]at h
   by_cases e:k=n
   ·rw[e];exact kQ4.1 h1
   ·exact uA T j n h k qO
theorem levN_some(T:Tb)(j:Nat):∀(n:Nat) {b:Nat},levN T j n=some b->b<n/\0<at_ (T.row b).co j/\∀k,k<n->0<at_ (T.row k).co j->quo T j b<=quo T j k/\(quo T j b=quo T j k->atN T.bas b<=atN T.bas k)
 |0,_,h=>by cases h
 |n+1,b,h=>by
  have h:(if 0<at_ (T.row n).co j then(match levN T j n with
   |none=>some n
   |some b=>if quo T j n<quo T j b\/quo T j n=quo T j b/\atN T.bas n<atN T.bas b then some n else some b)else levN T j n)=some b:=h
  by_cases h1:0<at_ (T.row n).co j
  ·rw[qE h1]at h
   cases h2:levN T j n with
   |none=>
    rw[h2]at h;injection h with h
    subst h;refine⟨qO,h1,fun k hk hp=>?_⟩;by_cases e:k=n
    ·rw[e];exact⟨vC,fun _=>yX _⟩
    ·have:=uA T j n h2 k qO
     exact absurd hp (kQ4.2 this)
   |some c=>
    rw[h2]at h;obtain⟨g1,g2,g3⟩:=levN_some T j n h2;simp only[]at h;by_cases h3:quo T j n<quo T j c\/quo T j n=quo T j c/\atN T.bas n<atN T.bas c
    ·rw[qE h3]at h
     injection h with h
     subst h;refine⟨qO,h1,fun k hk hp=>?_⟩;by_cases e:k=n
     ·rw[e];exact⟨vC,fun _=>yX _⟩
     ·obtain⟨k1,k2⟩:=g3 k qO hp
      rcases h3 with h3|⟨h3,h4⟩
      ·exact⟨qG,fun e2=>qG⟩
      ·exact⟨qG,fun e2=>by
       have:=k2 qG;omega⟩
    ·rw[qF h3]at h
     injection h with h
     subst h;refine⟨qO,g2,fun k hk hp=>?_⟩;by_cases e:k=n
     ·subst e
      refine⟨kQ4.1 fun h4=>h3 (.inl h4),fun e2=>Nat.le_of_not_lt fun h4=>h3 (.inr ⟨e2.symm,h4⟩)⟩
     ·exact g3 k qO hp
  ·rw[qF h1]at h
   obtain⟨g1,g2,g3⟩:=levN_some T j n h;refine⟨qO,g2,fun k hk hp=>?_⟩;by_cases e:k=n
   ·rw[e]at hp;exact absurd hp h1
   ·exact g3 k qO hp
theorem Rep.all{T:Tb}{m nv:Nat}{M:Nat->Nat->Rat}(h:Rep T m nv M){v:Nat}(hv:v<nv):(∃l,l<m/\atN T.bas l=v)\/∃j,j<T.fre.length/\atN T.fre j=v:=by
 refine Classical.byContradiction fun hn=>?_;have hf:=h.fl;obtain⟨a,b,qf,hb,e⟩:=tO nv (fun k=>if k<m then atN T.bas k else if k<nv then atN T.fre (k-m)else v) (fun k hk=>by split;{rename_i h1;exact h.di.lt k h1};split;{exact h.fv (k-m) qO};exact hv);by_cases qa:b<m;{rw[qE (show a<m by omega),qE qa]at e;have:=h.di.inj (show a<m by omega) qa e;omega};rw[qF qa]at e;by_cases qe:b<nv;{rw[qE qe]at e;by_cases ha:a<m;{rw[qE ha]at e;exact h.fb (b-m) a qO ha e.symm};rw[qF ha,qE qO]at e;have:=h.fi (a-m) (b-m) qO qO e;omega};rw[qF qe]at e;by_cases ha:a<m;{rw[qE ha]at e;exact hn (.inl ⟨a,ha,e⟩)};rw[qF ha,qE qO]at e;exact hn (.inr ⟨a-m,qO,e⟩)
theorem Rep.bland{T:Tb}{m nv:Nat}{M:Nat->Nat->Rat}(h:Rep T m nv M){i j:Nat}(hj:entT T=some j)(hi:levT T j=some i):j<T.fre.length/\i<m/\Bl m nv M (atN T.bas) i (atN T.fre j):=by
 obtain⟨e1,e2,e3⟩:=entN_some T _ hj;obtain⟨l1,l2,l3⟩:=levN_some T j _ hi;rw[h.gl]at e1;rw[h.rl]at l1;refine⟨e1,l1,l1,h.fv j e1,by rw[<-h.go j e1];exact e2,fun v hv=>?_,by rw[<-h.co i j l1 e1];exact l2,fun k hk hp=>?_,fun k hk hp he=>?_⟩;{have qa:v<nv:=Nat.lt_trans hv (h.fv j e1);(rcases h.all qa with⟨l,hl,rfl⟩|⟨k,hk,rfl⟩);{rw[h.di.unit l hl m (yX _),qF qO];exact vC};rw[<-h.go k hk];refine kQ4.1 fun hn=>?_;have:=e3 k (by rw[h.gl];exact hk) hn;omega};{rw[<-h.co k j hk e1]at hp;have:=(l3 k (by rw[h.rl];exact hk) hp).1;unfold quo at this;rw[h.re i l1,h.re k hk,h.co i j l1 e1,h.co k j hk e1]at this;exact this};rw[<-h.co k j hk e1]at hp;refine(l3 k (by rw[h.rl];exact hk) hp).2 ?_;unfold quo;rw[h.re i l1,h.re k hk,h.co i j l1 e1,h.co k j hk e1];exact he
def stepT(T:Tb):Option Tb:=match entT T with
 |none=>none
 |some j=>match levT T j with
  |none=>none
  |some i=>some (pivT T i j)
theorem stepT_some{T T':Tb}(h:stepT T=some T'):∃i j,entT T=some j/\levT T j=some i/\T'=pivT T i j:=by
 (unfold stepT at h;cases h1:entT T with|none=>rw[h1]at h;cases h|some j=>(rw[h1]at h;simp only[]at h;cases h2:levT T j with|none=>rw[h2]at h;cases h|some i=>(rw[h2]at h;injection h with h);exact⟨i,j,rfl,h2,h.symm⟩))
def iterT:Nat->Tb->Tb
 |0,T=>T
 |n+1,T=>(stepT (iterT n T)).getD (iterT n T)
theorem jzjn{T:Tb}{m nv:Nat}{M:Nat->Nat->Rat}(h:Rep T m nv M)(hf:∀k,k<m->0<=M k nv):∃N,stepT (iterT N T)=none/\∀n,n<N->stepT (iterT n T)≠none:=by
 have qg:∃N,stepT (iterT N T)=none:=(by refine Classical.byContradiction fun hn=>?_;have hs:∀n,∃i j,entT (iterT n T)=some j/\levT (iterT n T) j=some i/\iterT (n+1) T=pivT (iterT n T) i j:=fun n=>(by (cases h1:stepT (iterT n T)with|none=>exact absurd ⟨n,h1⟩ hn|some T'=>obtain⟨i,j,h2,h3,h4⟩:=stepT_some h1;refine⟨i,j,h2,h3,?_⟩;show(stepT (iterT n T)).getD _=_;rw[h1, <-h4];rfl));(let I:Nat->Nat:=fun n=>(hs n).choose);(let J:Nat->Nat:=fun n=>(hs n).choose_spec.choose);have qe:∀n,entT (iterT n T)=some (J n)/\levT (iterT n T) (J n)=some (I n)/\iterT (n+1) T=pivT (iterT n T) (I n) (J n):=fun n=>(hs n).choose_spec.choose_spec;(let MM:Nat->Nat->Nat->Rat:=fun n=>Nat.rec M (fun k Mk=>Sx.piv Mk (I k) (atN (iterT k T).fre (J k))) n);have qa:∀n,Rep (iterT n T) m nv (MM n):=fun n=>(by (induction n with|zero=>exact h|succ n ih=>obtain⟨h1,h2,h3⟩:=qe n;obtain⟨g1,g2,g3⟩:=ih.bland h1 h2;rw[h3];exact ih.pivot g2 g1 (fun e=>by have:=g3.pos;rw[<-ih.co _ _ g2 g1,e]at this;exact absurd this qD)));have qf:Run m nv (2^nv) MM (fun n=>atN (iterT n T).bas) I (fun n=>atN (iterT n T).fre (J n)):=(by refine⟨h.di,hf,fun n _=>((qa n).bland (qe n).1 (qe n).2.1).2.2,fun n _=>rfl,fun n _=>?_⟩;obtain⟨h1,h2,h3⟩:=qe n;obtain⟨g1,g2,g3⟩:=(qa n).bland h1 h2;funext l;show atN (iterT (n+1) T).bas l=_;rw[h3];show atN ((iterT n T).bas.set (I n) _) l=_;rw[iO _ _ _ _ (by rw[(qa n).bl];exact g2)];rfl);have:=qf.short;omega);obtain⟨N,hN⟩:=qg;(induction N using Nat.strongRecOn with|ind N ih=>by_cases h1:∃n,n<N/\stepT (iterT n T)=none;{obtain⟨n,hn,h2⟩:=h1;exact ih n hn h2};exact⟨N,hN,fun n hn h2=>h1 ⟨n,hn,h2⟩⟩)
end Sx
end Go.Proofs.YtfeeacaofjpkaaaGreatDoor
