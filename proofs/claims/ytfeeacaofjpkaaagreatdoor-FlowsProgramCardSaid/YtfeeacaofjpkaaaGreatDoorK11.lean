/- Walks, part 11. -/
import Derived.Test.YtfeeacaofjpkaaaGreatDoorK10
set_option linter.unusedVariables false
set_option linter.unusedSimpArgs false
set_option maxRecDepth 100000
set_option maxHeartbeats 8000000
namespace Go.Proofs.YtfeeacaofjpkaaaGreatDoor
open Go.Proofs.Tryz
open Go.RowKit
def cG(T:Sx.Tb)(k:Nat)(r:Sx.Rw):Sx.Tb:=⟨T.rows.set k r,T.bas,T.fre,T.goal,T.cols⟩
def fP(T:Sx.Tb)(r:Sx.Rw):Sx.Tb:=⟨T.rows,T.bas,T.fre,r,T.cols⟩
theorem nW(T:Sx.Tb){k:Nat}(r:Sx.Rw)(i:Nat)(hk:k<T.rows.length):(cG T k r).row i=if i=k then r else T.row i:=by
 unfold cG Sx.Tb.row;by_cases e:i=k;{subst e;rw[qE rfl];simp only[];rw[yM hk];rfl};rw[qF e];simp only[];rw[vN (fun e2=>e e2.symm)]
theorem aZ{w}{g:Nat}{t t':TypeId}{cs cs':Array Value}(h:Blk w g t cs)(h':Blk w g t' cs'):cs=cs'/\t=t':=by
 unfold Blk at h h';rw[h]at h';injection h' with h'
 injection h' with e1 e2
 exact⟨e1,e2⟩
theorem iR{w:World}{B n s:Nat}{e:TypeId}{v:Value}{xs:List Value}(h:w.ownsRow B e s v n xs)(hn:0<n):∃g c cur,v=.s (sA g) n c/\B<=g/\Blk w g e cur/\n<=c/\c<=maxLen/\cur.size=c*s/\cur.toList.take (n*s)=xs:=by
 rcases h.2 with⟨_,h1⟩|⟨g,cap,cur,h1,h2,h3,h4,h5,h6,h7⟩
 ·omega
 exact⟨g,cap,cur,h1,h2,h3,h4,h5,h6,h7⟩
theorem jzb0{w w':World}{B g m cr k:Nat}{css:List (List Value)}{cs':Array Value}{t:TypeId}{cs:Array Value}{cn:List Value}(h:w.ownsRow B t 4 (.s (sA g) m cr) m css.flatten)(hl:css.length=m)(h4:∀c∈css,c.length=4)(hk:k<m)(hb:Blk w g t cs)(hb':Blk w' g t cs')(hsz:cs'.size=cs.size)(hcn:cn.length=4)
  (hin:∀r,r<4->cs'[k*4+r]?=cn[r]?) (hout:∀i,(i<k*4\/k*4+4<=i)->cs'[i]?=cs[i]?):w'.ownsRow B t 4 (.s (sA g) m cr) m (css.set k cn).flatten:=by
 have qe:∀c∈css.set k cn,c.length=4:=fun c hc=>(by (rcases xE hc with h1|h1);{exact h4 c h1};rw[h1];exact hcn);obtain⟨g',c',qg,e1,e2,e3,e4,e5,e6,e7⟩:=iR h qO;injection e1 with e1 _ e1c;(injection e1 with e1);(injection e1 with e1);subst e1 e1c;obtain⟨rfl,_⟩:=aZ hb e3;have qh:=fZ css h4;have qa:=fZ (css.set k cn) qe;rw[yV]at qa;refine⟨by rw[qa,hl],.inr ⟨g,cr,cs',rfl,e2,hb',e4,e5,by rw[hsz];exact e6,?_⟩⟩;apply uK;intro i;by_cases hi:i<m*4;{rw[xG,qE hi,kQw];have qf:i/4*4+i%4=i:=qO;have f1:=eL (css.set k cn) qe (i/4) (i%4) (by rw[yV];omega) qO;have f0:=eL css h4 (i/4) (i%4) qO qO;rw[qf]at f1 f0;rw[f1];by_cases e:k=i/4;{rw[<-e,yM qO];have:=hin (i%4) qO;rw[show k*4+i%4=i by omega]at this;rw[this];rfl};rw[vN e, <-f0, <-e7,xG,qE hi,kQw];exact hout i qO};rw[yI (by simp;omega),yI (by rw[qa];omega)]
section
variable {w w':World} {B:Nat} {L:aT} {T:Sx.Tb}
theorem aF.row_upd(h:aF w B L T){k:Nat}(hk:k<L.m){r:Sx.Rw}{g cr gv K cv:Nat}{cs cs':Array Value}(hvr:L.vr=.s (sA g) L.m cr)(hV:L.V k=.s (sA gv) K cv)
  (hb:Blk w g 145 cs) (hb':Blk w' g 145 cs') (hsb:lP (k*4) cs cs') (hr:RwA w' cs' (k*4) (L.V k) r.re) (ho:OQ QR 33 w' B (L.V k) r.co) (hf:FrS (fun b=>b=g\/b=gv) w w'):aF w' B L (cG T k r):=by
 have qa:∃c,Blk w gv 33 c:=(by obtain⟨xs,h1⟩:=(h.co k hk).own;exact aW h1 (by rw[hV];rfl));obtain⟨qj,qa⟩:=qa;have qh:∀t,145≠t->33≠t->NoT (fun b=>b=g\/b=gv) w t:=fun t h1 h2 b hbb c fr e=>(by (rcases hbb with rfl|rfl);{exact NoT.one hb h1 b rfl c fr e};exact NoT.one qa h2 b rfl c fr e);have qe:=qh 196 qD qD;have far:∀{t:TypeId} {b:Nat} {c:Array Value},Blk w b t c->t≠145->t≠33->¬(b=g\/b=gv):=fun hbb h1 h2 e=>(by (rcases e with rfl|rfl);{exact h1 (aZ hbb hb).2};exact h2 (aZ hbb qa).2);have qg:∀i,i<=L.m->i≠k->∀qs,OQ QR 33 w B (L.V i) qs->OQ QR 33 w' B (L.V i) qs:=fun i hi hne qs hq=>hf.oq qe hq fun b hbb e=>(by (obtain⟨xs,h1⟩:=hq.own;obtain⟨c,h2⟩:=aW h1 hbb;rcases e with rfl|rfl);{have:=(aZ h2 hb).2;exact absurd this qD};(rcases h.sep i k hi (kQe hk) hne with h3|h3);{rw[h3]at hbb;cases hbb};exact h3 (by rw[hbb,hV];rfl));have qi:(cG T k r).rows.length=L.m:=(by show(T.rows.set k r).length=_;rw[yV];exact h.rl);have qf:k<T.rows.length:=(by rw[h.rl];exact hk);refine⟨qi,h.lo,?_,?_,h.bl,?_,?_,h.bf,fun i hi=>?_,qg L.m (yX _) qO _ h.go,h.sep⟩;{obtain⟨gs,h1,h2⟩:=h.box;exact⟨gs,hf.rwc qe h1,hf.blk h2 (far h2 qD qD)⟩};{obtain⟨css,h1,h2,h3,h4⟩:=h.rows;obtain⟨neg,A,n,c,A',n',c',r0,r1,r2,r3,rr⟩:=hr;refine⟨css.set k [L.V k,.bool neg,.s A n c,.s A' n' c'],by rw[yV];exact h1,fun c hc=>?_,?_,fun i hi=>?_⟩;{(rcases xE hc with h5|h5);{exact h2 c h5};rw[h5];rfl};{rw[hvr]at h3⊢;(refine jzb0 h3 h1 h2 hk hb hb' hsb.1 rfl (fun j hj=>?_) fun i hi=>hsb.2 i qO qO qO;rcases(show j=0\/j=1\/j=2\/j=3 by omega)with rfl|rfl|rfl|rfl);{exact r0};{exact r1};{exact r2};exact r3};rw[nW T r i qf];by_cases e:i=k;{subst e;exact⟨_,yM qO,by rw[qE rfl];exact⟨neg,A,n,c,A',n',c',rfl,rr⟩⟩};obtain⟨c,h5,h6⟩:=h4 i hi;exact⟨c,by rw[vN (fun e2=>e e2.symm)];exact h5,by rw[qF e];exact hf.rwc qe h6⟩};{refine hf.own h.bas fun b hbb=>?_;obtain⟨c,h1⟩:=aW h.bas hbb;exact far h1 qD qD};{refine hf.own h.fre fun b hbb=>?_;obtain⟨c,h1⟩:=aW h.fre hbb;exact far h1 qD qD};rw[nW T r i qf];by_cases e:i=k;{subst e;rw[qE rfl];exact ho};rw[qF e];exact qg i (kQe hi) e _ (h.co i hi)
theorem aF.goal_upd(h:aF w B L T){r:Sx.Rw}{gv K cv:Nat}{cs cs':Array Value}(hV:L.V L.m=.s (sA gv) K cv)
  (hb:Blk w L.p 147 cs) (hb':Blk w' L.p 147 cs') (hsb:lP 3 cs cs') (hr:RwA w' cs' 3 (L.V L.m) r.re) (ho:OQ QR 33 w' B (L.V L.m) r.co) (hf:FrS (fun b=>b=L.p\/b=gv) w w'):aF w' B L (fP T r):=by
 have qa:∃c,Blk w gv 33 c:=(by obtain⟨xs,h1⟩:=h.go.own;exact aW h1 (by rw[hV];rfl));obtain⟨qi,qa⟩:=qa;have qe:NoT (fun b=>b=L.p\/b=gv) w 196:=fun b hbb c fr e=>(by (rcases hbb with rfl|rfl);{exact NoT.one hb qD _ rfl c fr e};exact NoT.one qa qD _ rfl c fr e);have far:∀{t:TypeId} {b:Nat} {c:Array Value},Blk w b t c->t≠147->t≠33->¬(b=L.p\/b=gv):=fun hbb h1 h2 e=>(by (rcases e with rfl|rfl);{exact h1 (aZ hbb hb).2};exact h2 (aZ hbb qa).2);refine⟨h.rl,h.lo,?_,?_,h.bl,?_,?_,h.bf,fun i hi=>?_,ho,h.sep⟩;{obtain⟨gs,h1,h2⟩:=h.box;obtain⟨e1,_⟩:=aZ hb h2;obtain⟨n0,A0,m0,d0,qf,qg,qh,e0,_⟩:=h1;obtain⟨neg,A,n,c,A',n',c',r0,r1,r2,r3,rr⟩:=hr;refine⟨[L.V L.m,.bool neg,.s A n c,.s A' n' c'],⟨neg,A,n,c,A',n',c',rfl,rr⟩,?_⟩;have:cs'=([L.vr,L.vb,L.vf]++[L.V L.m,Value.bool neg,.s A n c,.s A' n' c']++[Value.int .i64 ((fP T r).cols:Int)]).toArray:=(by apply Array.ext_getElem?;intro i;by_cases h3:i=3;{subst h3;rw[r0];rfl};by_cases h4:i=4;{subst h4;rw[r1];rfl};by_cases h5:i=5;{subst h5;rw[r2];rfl};by_cases h6:i=6;{subst h6;rw[r3];rfl};(rw[hsb.2 i qO qO qO,e1,e0];rcases(show i=0\/i=1\/i=2\/i=7\/8<=i by omega)with rfl|rfl|rfl|rfl|h8);{rfl};{rfl};{rfl};{rfl};rw[kQn (by simpa using h8),kQn (by simpa using h8)]);rw[<-this];exact hb'};{obtain⟨css,h1,h2,h3,h4⟩:=h.rows;refine⟨css,h1,h2,hf.own h3 fun b hbb=>?_,fun i hi=>?_⟩;{obtain⟨c,h5⟩:=aW h3 hbb;exact far h5 qD qD};obtain⟨c,h5,h6⟩:=h4 i hi;exact⟨c,h5,hf.rwc qe h6⟩};{refine hf.own h.bas fun b hbb=>?_;obtain⟨c,h1⟩:=aW h.bas hbb;exact far h1 qD qD};{refine hf.own h.fre fun b hbb=>?_;obtain⟨c,h1⟩:=aW h.fre hbb;exact far h1 qD qD};(refine hf.oq qe (h.co i hi) fun b hbb e=>?_;obtain⟨xs,h1⟩:=(h.co i hi).own;obtain⟨c,h2⟩:=aW h1 hbb;rcases e with rfl|rfl);{have:=(aZ h2 hb).2;exact absurd this qD};(rcases h.sep i L.m (kQe hi) (yX _) qO with h3|h3);{rw[h3]at hbb;cases hbb};exact h3 (by rw[hbb,hV];rfl)
end
section
variable {w w':World} {B:Nat} {L:aT} {T:Sx.Tb}
theorem aF.vr_form(h:aF w B L T)(hm:0<L.m):∃g c,L.vr=.s (sA g) L.m c/\L.m<=c:=by
 obtain⟨css,_,_,h3,_⟩:=h.rows;obtain⟨g,c,qa,h1,_,_,h2,_⟩:=iR h3 hm;exact⟨g,c,h1,h2⟩
theorem aF.vb_form(h:aF w B L T)(hm:0<L.m):∃g c,L.vb=.s (sA g) L.m c/\L.m<=c:=by
 obtain⟨g,c,qa,h1,_,_,h2,_⟩:=iR h.bas hm;exact⟨g,c,h1,h2⟩
theorem aF.vf_form(h:aF w B L T)(hm:0<T.fre.length):∃g c,L.vf=.s (sA g) T.fre.length c/\T.fre.length<=c:=by
 obtain⟨g,c,qa,h1,_,_,h2,_⟩:=iR h.fre hm;exact⟨g,c,h1,h2⟩
theorem OQ.form{v:Value}{qs:LQ}(h:OQ QR 33 w B v qs)(hq:0<qs.length):∃g c,v=.s (sA g) qs.length c/\qs.length<=c/\g<w.heap.size:=by
 obtain⟨xs,h3⟩:=h.own;obtain⟨g,c,qa,h1,_,h4,h2,_⟩:=iR h3 hq;exact⟨g,c,h1,h2,h4.lt⟩
theorem aF.rwa(h:aF w B L T){i g c:Nat}(hi:i<L.m)(hvr:L.vr=.s (sA g) L.m c):∃cs,Blk w g 145 cs/\RwA w cs (i*4) (L.V i) (T.row i).re:=by
 obtain⟨css,h1,h2,h3,h4⟩:=h.rows;obtain⟨g',c',qe,e1,_,e3,_,_,_,e7⟩:=iR h3 qO;rw[hvr]at e1;injection e1 with e1 _ _
 injection e1 with e1
 injection e1 with e1
 subst e1;obtain⟨cs,k1,neg,A,n,c1,A',n',qf,rfl,k2⟩:=h4 i hi;have qa:∀r,r<4->qe[i*4+r]?=([L.V i,.bool neg,.s A n c1,.s A' n' qf]:List Value)[r]?:=fun r hr=>by
  have hf:=eL css h2 i r qO hr;rw[k1, <-e7,xG,qE qO,kQw]at hf;exact hf
 exact⟨qe,e3,neg,A,n,c1,A',n',qf,qa 0 qO,qa 1 qO,qa 2 qO,qa 3 qO,k2⟩
theorem aF.goa(h:aF w B L T):∃cs,Blk w L.p 147 cs/\RwA w cs 3 (L.V L.m) T.goal.re/\cs[0]?=some L.vr/\cs[1]?=some L.vb/\cs[2]?=some L.vf/\cs[7]?=some (vI (T.cols:Int)):=by
 obtain⟨gs,⟨neg,A,n,c,A',n',c',rfl,k2⟩,h2⟩:=h.box;exact⟨_,h2,⟨neg,A,n,c,A',n',c',rfl,rfl,rfl,rfl,k2⟩,rfl,rfl,rfl,rfl⟩
theorem lP.refl(o:Nat)(cs:Array Value):lP o cs cs:=⟨rfl,fun _ _ _ _=>rfl⟩
theorem aF.co_set(h:aF w B L T){i g c gv K cv n:Nat}{q:Rat}{neg:Bool}{A}{n1 c1:Nat}{A'}{n1' c1':Nat}(hi:i<L.m)(hvr:L.vr=.s (sA g) L.m c)(hV:L.V i=.s (sA gv) K cv)(hK:(T.row i).co.length=K)(hn:n<K)(hq:aB w neg A n1 c1 A' n1' c1' q):
  aF (((w.setCell (aD gv (n*3)) (.bool neg)).setCell (aD gv (n*3+1)) (.s A n1 c1)).setCell (aD gv (n*3+2)) (.s A' n1' c1')) B L (cG T i ⟨(T.row i).co.set n q,(T.row i).re⟩)/\
  FrS L.S w (((w.setCell (aD gv (n*3)) (.bool neg)).setCell (aD gv (n*3+1)) (.s A n1 c1)).setCell (aD gv (n*3+2)) (.s A' n1' c1')):=by
 obtain⟨cs,hb,hr⟩:=h.rwa hi hvr;have qj:=dU w gv (n*3) (.bool neg) (.s A n1 c1) (.s A' n1' c1');obtain⟨xs,ho⟩:=(h.co i hi).own;obtain⟨cr,qf⟩:=aW ho (show(L.V i).ownBlock=some gv by rw[hV];rfl);have qh:g≠gv:=fun e=>(by subst e;have:=(aZ hb qf).2;exact absurd this qD);have hF:FrS (fun b=>b=gv) w (((w.setCell (aD gv (n*3)) (.bool neg)).setCell (aD gv (n*3+1)) (.s A n1 c1)).setCell (aD gv (n*3+2)) (.s A' n1' c1')):=eG qj fun b e=>(by injection e with e;exact e.symm);have qi:NoT (fun b=>b=gv) w 196:=NoT.one qf qD;obtain⟨rn,RA,qk,qm,qg,qe,qa,r0,r1,r2,r3,rr⟩:=hr;refine⟨h.row_upd hi hvr hV hb (hF.blk hb qh) (lP.refl _ _) ⟨rn,RA,qk,qm,qg,qe,qa,r0,r1,r2,r3,hF.ratR qi rr⟩ ?_ (hF.mono fun b hb=>.inr hb),hF.mono fun b hb=>.inr (.inr (.inr (.inr ⟨i,kQe hi,by rw[hV,hb];rfl⟩)))⟩;rw[hV];have:=h.co i hi;rw[hV]at this;exact this.put hK (by rw[hK];exact hn) hq
theorem aF.re_set(h:aF w B L T){i g c:Nat}{q:Rat}{neg:Bool}{A}{n1 c1:Nat}{A'}{n1' c1':Nat}(hi:i<L.m)(hvr:L.vr=.s (sA g) L.m c)(hc:0<(T.row i).co.length)(hq:aB w neg A n1 c1 A' n1' c1' q):
  aF (((w.setCell (aD g (i*4+1)) (.bool neg)).setCell (aD g (i*4+1+1)) (.s A n1 c1)).setCell (aD g (i*4+1+2)) (.s A' n1' c1')) B L (cG T i ⟨(T.row i).co,q⟩)/\
  FrS L.S w (((w.setCell (aD g (i*4+1)) (.bool neg)).setCell (aD g (i*4+1+1)) (.s A n1 c1)).setCell (aD g (i*4+1+2)) (.s A' n1' c1')):=by
 obtain⟨cs,hb,hr⟩:=h.rwa hi hvr;obtain⟨gv,cv,hV,_,_⟩:=(h.co i hi).form hc;have qg:=dU w g (i*4+1) (.bool neg) (.s A n1 c1) (.s A' n1' c1');have hF:FrS (fun b=>b=g) w (((w.setCell (aD g (i*4+1)) (.bool neg)).setCell (aD g (i*4+1+1)) (.s A n1 c1)).setCell (aD g (i*4+1+2)) (.s A' n1' c1')):=eG qg fun b e=>(by injection e with e;exact e.symm);have qa:NoT (fun b=>b=g) w 196:=NoT.one hb qD;obtain⟨rn,RA,qj,qk,qi,qf,qe,r0,r1,r2,r3,rr⟩:=hr;have qh:i*4+3<cs.size:=(kZn.1 r3).1;refine⟨h.row_upd hi hvr hV hb (((hb.sT (i*4+1) _).sT (i*4+1+1) _).sT (i*4+1+2) _) ⟨qS,fun k h1 h2 h3=>?_⟩ ⟨neg,A,n1,c1,A',n1',c1',?_,?_,?_,?_,hF.ratR qa hq⟩ ?_ (hF.mono fun b hb=>.inl hb),hF.mono fun b hb=>.inr (.inl (by rw[hvr,hb];rfl))⟩;{rw[xH qO,xH qO,xH qO]};{rw[xH qO,xH qO,xH qO];exact r0};{rw[xH qO,xH qO,kQ0 qO]};{rw[xH qO,kQ0 (by simp;omega)]};{rw[kQ0 (by simp;omega)]};refine hF.oq qa (h.co i hi) fun b hbb e=>?_;obtain⟨xs,h1⟩:=(h.co i hi).own;obtain⟨c2,h2⟩:=aW h1 hbb;subst e;have:=(aZ hb h2).2;exact absurd this qD
def rA(T:Sx.Tb)(l:LN):Sx.Tb:=⟨T.rows,l,T.fre,T.goal,T.cols⟩
def uE(T:Sx.Tb)(l:LN):Sx.Tb:=⟨T.rows,T.bas,l,T.goal,T.cols⟩
theorem jzb1(l:LN)(i v:Nat):(ints l).set i (vI (v:Int))=ints (l.set i v):=by unfold ints;rw[List.map_set]
theorem aF.int_far(h:aF w B L T){g:Nat}{cs:Array Value}(hb:Blk w g 3 cs){i:Nat}(u:Value):FrS (fun b=>b=g) w (w.setCell (aD g i) u)/\NoT (fun b=>b=g) w 196/\(∃gs,RwC (w.setCell (aD g i) u) gs (L.V L.m) T.goal.re/\Blk (w.setCell (aD g i) u) L.p 147 ([L.vr,L.vb,L.vf]++gs++[Value.int .i64 (T.cols:Int)]).toArray)/\
  (∃css:List (List Value),css.length=L.m/\(∀cs∈css,cs.length=4)/\(w.setCell (aD g i) u).ownsRow B 145 4 L.vr L.m css.flatten/\∀k,k<L.m->∃cs,css[k]?=some cs/\RwC (w.setCell (aD g i) u) cs (L.V k) (T.row k).re)/\
  (∀k,k<L.m->OQ QR 33 (w.setCell (aD g i) u) B (L.V k) (T.row k).co)/\OQ QR 33 (w.setCell (aD g i) u) B (L.V L.m) T.goal.co:=by
 have hF:FrS (fun b=>b=g) w (w.setCell (aD g i) u):=eG (aM w g i u) fun b e=>(by injection e with e;exact e.symm);have hn:NoT (fun b=>b=g) w 196:=NoT.one hb qD;have far:∀{t:TypeId} {b:Nat} {c:Array Value},Blk w b t c->t≠3->¬b=g:=fun hbb h1 e=>(by subst e;exact h1 (aZ hbb hb).2);have qa:∀k,k<=L.m->∀qs,OQ QR 33 w B (L.V k) qs->OQ QR 33 (w.setCell (aD g i) u) B (L.V k) qs:=fun k _ qs hq=>hF.oq hn hq fun b hbb=>(by obtain⟨xs,h1⟩:=hq.own;obtain⟨c,h2⟩:=aW h1 hbb;exact far h2 qD);refine⟨hF,hn,?_,?_,fun k hk=>qa k (kQe hk) _ (h.co k hk),qa L.m (yX _) _ h.go⟩;{obtain⟨gs,h1,h2⟩:=h.box;exact⟨gs,hF.rwc hn h1,hF.blk h2 (far h2 qD)⟩};obtain⟨css,h1,h2,h3,h4⟩:=h.rows;refine⟨css,h1,h2,hF.own h3 fun b hbb=>?_,fun k hk=>?_⟩;{obtain⟨c,h5⟩:=aW h3 hbb;exact far h5 qD};obtain⟨c,h5,h6⟩:=h4 k hk;exact⟨c,h5,hF.rwc hn h6⟩
theorem aF.bas_set(h:aF w B L T){gb c i v:Nat}(hvb:L.vb=.s (sA gb) L.m c):aF (w.setCell (aD gb i) (vI (v:Int))) B L (rA T (T.bas.set i v))/\FrS L.S w (w.setCell (aD gb i) (vI (v:Int))):=by
 obtain⟨cs,hb⟩:=aW h.bas (show L.vb.ownBlock=some gb by rw[hvb];rfl);obtain⟨hF,hn,h1,h2,h3,h4⟩:=h.int_far hb (i:=i) (vI (v:Int));refine⟨⟨h.rl,h.lo,h1,h2,by show(T.bas.set i v).length=L.m;rw[yV];exact h.bl,?_,hF.own h.fre fun b hbb e=>?_,h.bf,h3,h4,h.sep⟩,hF.mono fun b hb=>.inr (.inr (.inl (by rw[hvb,hb];rfl)))⟩;{have:=h.bas;rw[hvb]at this⊢;have:=nQ (k:=i) this (vI (v:Int));rw[jzb1]at this;exact this};(rcases h.bf with h5|h5);{rw[hvb]at h5;cases h5};exact h5 (by rw[hbb,hvb,e];rfl)
theorem aF.fre_set(h:aF w B L T){gf c i v:Nat}(hvf:L.vf=.s (sA gf) T.fre.length c):aF (w.setCell (aD gf i) (vI (v:Int))) B L (uE T (T.fre.set i v))/\FrS L.S w (w.setCell (aD gf i) (vI (v:Int))):=by
 obtain⟨cs,hb⟩:=aW h.fre (show L.vf.ownBlock=some gf by rw[hvf];rfl);obtain⟨hF,hn,h1,h2,h3,h4⟩:=h.int_far hb (i:=i) (vI (v:Int));refine⟨⟨h.rl,h.lo,h1,h2,h.bl,hF.own h.bas fun b hbb e=>?_,?_,h.bf,h3,h4,h.sep⟩,hF.mono fun b hb=>.inr (.inr (.inr (.inl (by rw[hvf,hb];rfl))))⟩;{(rcases h.bf with h5|h5);{rw[h5]at hbb;cases hbb};exact h5 (by rw[hbb,hvf,e];rfl)};have:=h.fre;show(w.setCell (aD gf i) (vI (v:Int))).ownsRow B 3 1 L.vf (T.fre.set i v).length (ints (T.fre.set i v));rw[yV];rw[hvf]at this⊢;have:=nQ (k:=i) this (vI (v:Int));rw[jzb1]at this;exact this
end
def iS:Option Nat->Int
 |none=> -1
 |some b=>(b:Int)
theorem jzb2(q:Rat):aC q<0↔q<0:=jzja q
def iT(T:Sx.Tb)(n:Nat):Bool:=decide (Sx.at_ T.goal.co n<0)&&(match Sx.entN T n with
 |none=>true
 |some b=>decide (Sx.atN T.fre n<Sx.atN T.fre b))
theorem jzjx(T:Sx.Tb)(n:Nat):Sx.entN T (n+1)=if iT T n=true then some n else Sx.entN T n:=by
 show(if Sx.at_ T.goal.co n<0 then(match Sx.entN T n with
  |none=>some n
  |some b=>if Sx.atN T.fre n<Sx.atN T.fre b then some n else some b)else Sx.entN T n)=_
 unfold iT;by_cases h:Sx.at_ T.goal.co n<0;{rw[qE h,yO h,kZg];(cases Sx.entN T n with|none=>simp|some b=>by_cases h2:Sx.atN T.fre n<Sx.atN T.fre b;{simp[h2]};simp[h2])};rw[qF h,yP h];simp
theorem gT{w:World}{B g c n i:Nat}{l:LN}(h:w.ownsRow B 3 1 (.s (sA g) n c) n (ints l))(hi:i<n):w.cell? (aD g i)=some (vI (Sx.atN l i:Nat)):=by
 obtain⟨g',c',qa,e1,_,e3,_,_,_,e7⟩:=iR h qO;injection e1 with e1 _ _
 injection e1 with e1
 injection e1 with e1
 subst e1;have hl:l.length=n:=(by have:=h.1;rw[cW]at this;omega);rw[e3.cell, <-kQw];have h1:(qa.toList.take (n*1))[i]?=(ints l)[i]?:=(by rw[e7]);rw[xG,qE qO]at h1;rw[h1];unfold ints Sx.atN;rw[yW,yG qO];rfl
theorem jzjy(B:Nat)(L:aT)(T:Sx.Tb)w(h:aF w B L T)(qh:T.goal.co.length=T.fre.length)(hK0:0<T.fre.length)(hK:T.fre.length<=1000000000000):
  Calls prog 81 #[.pointer (sA L.p),.pointer (some (aD L.p 3))] w fun e w'=>e=.returned (vI (iS (Sx.entT T)))/\Ext w w':=by
 have qa:=h.go;obtain⟨gv,cv,hV,qH,qy⟩:=qa.form qO;rw[qh]at hV qH;rw[hV]at qa;obtain⟨cp,qg,qB,p0,p1,p2,p7⟩:=h.goa;obtain⟨ni,AI,li,ci,qJ,qU,qQ,a0,a1,a2,a3,ra⟩:=qB;rw[hV]at a0;have q3:=(qg.cell 3).trans a0;obtain⟨gf,cf,qj,qM⟩:=h.vf_form hK0;rw[qj]at p2;have qe:=h.fre;rw[qj]at qe;have q2:=(qg.cell 2).trans p2;have HE:=Hx (show Sx.entT T=Sx.entN T T.fre.length by unfold Sx.entT;rw[qh]);have qt:=qg.lt;have Q2:=Hx q2;clear q2;have qf:gf<w.heap.size:=pZ (gT qe hK0);have HC:=Hx (kQa qa (kQa qe qh));clear h hV qg a0 a1 a2 a3 ra p0 p1 p2 p7 qj qa qe qh;generalize hKK:T.fre.length=K at*;clear hKK;go_enter func81,ntmps81;go_wp2;go_loopg [5,6,7,13] K (fun m bt _ _ it wr=>∃k:Nat,K-k=m/\k<=K/\it=vI (k:Int)/\bt=vI (iS (Sx.entN T k))/\Hid (Ext w wr));exact⟨0,rfl,yZ _,rfl,rfl,Hx (eR _)⟩;obtain⟨k,rfl,hk,rfl,rfl,EX⟩:=hrel;by_cases qo:k<K;{(have kN:(k:Int)<(K:Int):=by omega);have k0:(0:Int)<=(k:Int):=qO;obtain⟨neg,A,n,c,A',n',c',⟨i0,i1,i2⟩,_,hR⟩:=HC.o.1.cell (aO (show k<T.goal.co.length by rw[HC.o.2.2];exact qo));have i0:=aA EX.o i0;have i1:=aA EX.o i1;have i2:=aA EX.o i2;have R:=Hx (hR.K EX.o);have HS:=Hx (jzjx T k);generalize hbo:iS (Sx.entN T k)=bo at*;have qm:=Hx hbo;clear hbo;have q3:=aA EX.o q3;clear hR;(go_upto_region 5 with fail);obtain⟨bx,e0⟩:=bA wr #[.bool neg,.s A n c,.s A' n' c'] 33;generalize wr.alloc (.cells #[.bool neg,.s A n c,.s A' n' c'] 33)=W at*;have y0:=XW.cell _ _ _ bx.lt (bx.cell 0);have y1:=XW.cell _ _ _ bx.lt (bx.cell 1);have y2:=XW.cell _ _ _ bx.lt (bx.cell 2);have EW:=Hx (EX.o.tr e0);have E0:=Hx e0;clear e0 bx i0 i1 i2 EX;go_cut [41] (fun s wx=>s=.bool (iT T k)/\Ext w wx);(case first=>by_cases hx:Sx.at_ T.goal.co k<0;{have hs:decide (aC (Sx.at_ T.goal.co k)<0)=true:=yO ((jzb2 _).2 hx);(cases hE:Sx.entN T k with|none=>have HB:=Hx (show iT T k=true by unfold iT;rw[hE,yO hx];rfl);have qz:decide ((-1:Int)<0)=true:=rfl;have qx:bo= -1:=(by rw[<-qm.o,hE];rfl);subst qx;clear hx hE;refine dG qK qK ?_;(repeat (go_big_quiet_step ((go_at_call 46;exact Calls.ext_of (cV neg A n c A' n' c' (Sx.at_ T.goal.co k) _ (R.o.K (E0.o.tr (XW.ext _))))))));refine wpQuiet_nil ?_;rintro _ ⟨x,rfl⟩;go_wp2;go_meet;exact⟨by rw[HB.o],EW.o.tr x.ext⟩|some b=>have qT:b<k:=(Sx.entN_some T k hE).1;have HB:=Hx (show decide (((Sx.atN T.fre k:Nat):Int)<((Sx.atN T.fre b:Nat):Int))=iT T k by unfold iT;rw[hE,yO hx,kZg];simp);have qC:bo=(b:Int):=(by rw[<-qm.o,hE];rfl);subst qC;have qz:decide ((b:Int)<0)=false:=yP qO;have bN:(b:Int)<(K:Int):=qO;have b0:(0:Int)<=(b:Int):=qO;have z2:=XW.cell _ _ _ (yL qt EW.o.size) (aA EW.o Q2.o);have zk:=XW.cell _ _ _ (yL qf EW.o.size) (aA EW.o (gT HC.o.2.1 qo));have zb:=XW.cell _ _ _ (yL qf EW.o.size) (aA EW.o (gT HC.o.2.1 (show b<K by omega)));clear hx hE;refine dG qK qK ?_;(repeat (go_big_quiet_step ((go_at_call 46;exact Calls.ext_of (cV neg A n c A' n' c' (Sx.at_ T.goal.co k) _ (R.o.K (E0.o.tr (XW.ext _))))))));refine wpQuiet_nil ?_;rintro _ ⟨x,rfl⟩;go_wp2;go_meet;refine⟨?_,EW.o.tr x.ext⟩;rw[<-HB.o];first|rfl|simp)};have hs:decide (aC (Sx.at_ T.goal.co k)<0)=false:=yP (fun h=>hx ((jzb2 _).1 h));have HB:=Hx (show iT T k=false by unfold iT;rw[yP hx];rfl);refine dG qK qK ?_;(repeat (go_big_quiet_step ((go_at_call 46;exact Calls.ext_of (cV neg A n c A' n' c' (Sx.at_ T.goal.co k) _ (R.o.K (E0.o.tr (XW.ext _))))))));refine wpQuiet_nil ?_;rintro _ ⟨x,rfl⟩;go_wp2;go_meet;exact⟨by rw[HB.o],EW.o.tr x.ext⟩);obtain⟨rfl,qn⟩:=hcut;have qp:=Hx qn;clear qn y0 y1 y2 EW E0;have qi:=HS.o;generalize iT T k=cond at*;cases cond;(case false=>have qk:=Hx (show Sx.entN T (k+1)=Sx.entN T k by rw[qi];rfl);clear qi HS;go_wp2;go_roundg (K-(k+1));exact⟨k+1,rfl,qO,by go_num,by rw[qk.o,qm.o],qp⟩;omega);have qk:=Hx (show Sx.entN T (k+1)=some k by rw[qi];rfl);clear qi HS;go_wp2;go_roundg (K-(k+1));exact⟨k+1,rfl,qO,by go_num,by rw[qk.o];rfl,qp⟩;omega};have qw:k=K:=qO;subst qw;have qA:Hid (Sx.entN T k=Sx.entT T):=Hx (HE.o.symm);go_wp2;go_ret;exact⟨by rw[<-qA.o];rfl,EX.o⟩
theorem OQ.pushed{W w':World}{B:Nat}{v v':Value}{qs:LQ}{css:List (List Value)}(h1:css.length=qs.length)(h2:∀cs∈css,cs.length=3)(hown:W.ownsRow B 33 3 v qs.length css.flatten)
  (h4:∀(i:Nat) (q:Rat),qs[i]?=some q->∃cs,css[i]?=some cs/\QR W cs q) {neg:Bool} {A} {n c:Nat} {A'} {n' c':Nat} {q:Rat} (hq:aB W neg A n c A' n' c' q)
  (own':w'.ownsRow B 33 3 v' (qs.length+1) (css.flatten++[.bool neg,.s A n c,.s A' n' c'])) (grow:W.grownBy w' v.ownBlock):OQ QR 33 w' B v' (qs++[q]):=by
 have k:FrS (fun b=>v.ownBlock=some b) W w':=eG grow fun g e=>e;have hn:NoT (fun b=>v.ownBlock=some b) W 196:=fun _ hb=>bK hown hb qD;refine⟨css++[[.bool neg,.s A n c,.s A' n' c']],by simp[h1],fun cs hc=>?_,by rw[List.flatten_append,yQ];simpa using own',fun i p hi=>?_⟩;{(rcases xY.1 hc with hc|hc);{exact h2 cs hc};rw[xD.1 hc];rfl};by_cases e:i<qs.length;{rw[yR e]at hi;obtain⟨cs,k1,k2⟩:=h4 i p hi;exact⟨cs,by rw[yR qO];exact k1,k.qr hn k2⟩};(have hl:=(yH.1 hi).1;rw[yQ]at hl;have hl:i<qs.length+1:=hl;have e2:i=qs.length:=qO;subst e2;rw[yS qO,Nat.sub_self]at hi;injection hi with hi);subst hi;exact⟨_,by rw[yS qO,h1,Nat.sub_self];rfl,neg,A,n,c,A',n',c',rfl,k.ratR hn hq⟩
def gU(T:Sx.Tb)(vals X:LQ)(base:Rat)(js:LN)(n:Nat):Rat:=Sx.addC T vals X base (js.take n)
theorem jzb3(T:Sx.Tb)(vals X:LQ)(base:Rat)(js:LN){n j:Nat}(h:js[n]?=some j):gU T vals X base js (n+1)=gU T vals X base js n+Sx.at_ X j*Sx.at_ vals (Sx.atN T.fre j):=by
 unfold gU;rw[kQr,h];exact Sx.addC_snoc T vals X base (js.take n) j
theorem uG{T:Sx.Tb}{vals X:LQ}{base:Rat}{js:LN}{P:Nat}(hX:∀q∈X,SzQ q P)(hv:∀q∈vals,SzQ q P)(hb:SzQ base P)(h0:∀j∈js,j<X.length/\Sx.atN T.fre j<vals.length):∀n,n<=js.length->SzQ (gU T vals X base js n) (P+n*(2*P+1))
 |0,_=>by
  have:gU T vals X base js 0=base:=rfl;rw[this];exact hb.mono qO
 |n+1,hn=>by
  have hj:js[n]?=some js[n]:=yG qO;rw[jzb3 T vals X base js hj];obtain⟨k1,k2⟩:=h0 js[n] (xR qO);have h1:=(hX _ (yJ (aO k1))).mul (hv _ (yJ (aO k2)));have h2:=(uG hX hv hb h0 n qO).add h1;refine h2.mono ?_;have e:(n+1)*(2*P+1)=n*(2*P+1)+(2*P+1):=Nat.succ_mul _ _;rw[e];generalize n*(2*P+1)=y at*;omega
theorem jzb4{w}{A}{l:LN}(h:Rd w A (ints l)){k x:Nat}(hx:l[k]?=some x):∃b o:Nat,A=some (aD b o)/\b<w.heap.size/\w.cell? (aD b (o+k))=some (vI (x:Int)):=by
 have hk:=(yH.1 hx).1;obtain⟨b,o,e,qa,hc⟩:=h (by intro e;have h1:=cW l;rw[e]at h1;have h1:0=l.length:=h1;omega);refine⟨b,o,e,qa,?_⟩;rw[hc k (by rw[cW];omega)];unfold ints;rw[yW,hx];rfl
def jzb5(w:World)(B b o:Nat)(tr:TypeId)(cs:Array Value)(V:Value)(X:LQ)(s:Rat)(e:Ending)(w':World):Prop:=
 ∃g' c',e=.returned (.tuple #[])/\OQ QR 33 w' B (.s (sA g') (X.length+1) c') (X++[s])/\Blk w' b tr (cs.setIfInBounds o (.s (sA g') (X.length+1) c'))/\
  FrS (fun x=>x=b\/V.ownBlock=some x) w w'/\(some g'=V.ownBlock\/w.heap.size<=g')
theorem jzb6(T:Sx.Tb)(w:World)(B b o p gvb gl gsb gtb P m csl:Nat)SA(tr:TypeId)(cs:Array Value)(V:Value)(X qe:LQ)(js:LN)(basic:Int)(base:Rat)
  (hB:B<=w.heap.size) (hb:Blk w b tr cs) (vc:cs[o]?=some V) (hX:OQ QR 33 w B V X) (htr:tr≠33) (htr2:tr≠196)
  (qV:Blk w gvb 35 #[.s (sA gl) m m]) (qo:QB w gl qe) (hvl:qe.length=m)
  (ve:Blk w gsb 42 #[.s SA js.length csl]) (vl:Rd w SA (ints js)) (q5:Blk w gtb 80 #[.pointer (sA p)])
  (vi:∀j∈js,∃gf K cf,w.cell? (aD p 2)=some (.s (sA gf) K cf)/\j<K/\w.cell? (aD gf j)=some (vI (Sx.atN T.fre j:Nat)))
  (qA:∀j∈js,j<X.length/\Sx.atN T.fre j<m) (hbase:(∃i:Nat,basic=(i:Int)/\i<m/\base=Sx.at_ qe i)\/(¬(0<=basic/\basic<(m:Int))/\base=0))
  (hm:m<=1000000) (qI:∀q∈X,SzQ q P) (qx:∀q∈qe,SzQ q P) (hP:P<=10000) (hP1:1<=P) (hjl:js.length<=1000) (hXl:X.length<=1000000000000):
  Calls prog 136 #[.pointer (some (aD b o)),vI basic,.pointer (sA gvb),.pointer (sA gsb),.pointer (sA gtb)] w (jzb5 w B b o tr cs V X (Sx.addC T qe X base js)):=by
 have HB:=Hx (kQa hb (kQa vc (kQa hX (kQa qV (kQa qo (kQa ve (kQa vl q5)))))));have HJ:=Hx (kQa vi qA);have SZ:=Hx (show∀n,n<=js.length->SzQ (gU T qe X base js n) 30000000 from fun n hn=>by
  have q1:SzQ base P:=by
   rcases hbase with⟨i,_,h2,h3⟩|⟨_,h3⟩
   ·rw[h3];exact qx _ (yJ (aO qO))
   rw[h3];exact(show SzQ 0 1 from⟨qD,qD⟩).mono hP1
  refine(uG qI qx q1 (fun j hj=>⟨(qA j hj).1,by rw[hvl];exact(qA j hj).2⟩) n hn).mono ?_;have:n*(2*P+1)<=1000*20001:=kQq qO qO;omega)
 have HS:=Hx (kQa qI qx);have qw:=Hx hvl;have i1:w.cell? (aD gvb 0)=some (.s (sA gl) m m):=qV.cell 0;have B0:=Hx (eN w 33 rV);have X0:=Hx ((eR w).alloc (.cells rV 33));have i1:=aA X0.o i1
 go_enter func136,ntmps136
 by_cases qz:0<=basic
 case' pos=>have qC:decide ((0:Int)<=basic)=true:=yO qz
 case' neg=>have qC:decide ((0:Int)<=basic)=false:=yP qz
 all_goals
  go_upto_if 17 with fail
  go_cut [] (fun wx=>∃ns S1 ls qg qf qh qa,Hid (Blk wx w.heap.size 33 #[.bool ns,.s S1 ls qg,.s qf qh qa]/\aB wx ns S1 ls qg qf qh qa base/\Ext w wx))
  case first=>
   rcases hbase with⟨i,rfl,him,hbe⟩|⟨hn,hbe⟩
   ·skip
    have h1:decide ((i:Int)<(m:Int))=true:=yO qO;have iN:(i:Int)<(m:Int):=qO;have i0:(0:Int)<=(i:Int):=by omega
    first
    |(exfalso;omega)
    |(obtain⟨ny,Y1,my,fy,vj,va,q4,⟨s0,s1,s2⟩,_,hy⟩:=HB.o.2.2.2.2.1.at_ (aO (show i<qe.length by rw[qw.o];exact him))
      obtain⟨⟨p0,p1,p2⟩,f0,f1,f2⟩:=B0.o.t3;obtain⟨b2,e2⟩:=bA w #[.bool ny,.s Y1 my fy,.s vj va q4] 33;have RF:=Hx (kQa b2 (kQa (hy.K e2) e2));have vg:=Hx hbe;have s0:=aA X0.o s0;have s1:=aA X0.o s1;have s2:=aA X0.o s2;go_wp2;go_meet;exact⟨_,_,_,_,_,_,_,Hx ⟨RF.o.1,by rw[vg.o];exact RF.o.2.1,RF.o.2.2⟩⟩)
   have qt:Hid (aB (w.alloc (.cells rV 33)) false none 0 0 none 0 0 base):=Hx (by rw[hbe];exact eJ _)
   first
   |(have hq:0<=basic:=qz
     have h1:decide (basic<(m:Int))=false:=yP (fun h=>hn ⟨hq,h⟩);go_wp2;go_meet;exact⟨_,_,_,_,_,_,_,Hx ⟨B0.o,qt.o,X0.o⟩⟩)
   |(go_wp2
     go_meet;exact⟨_,_,_,_,_,_,_,Hx ⟨B0.o,qt.o,X0.o⟩⟩)
  obtain⟨vw,S0,vo,vp,vu,q6,vk,I0⟩:=hcut;generalize hgs:w.heap.size=gsum at*;have j0:wc.cell? (aD gsb 0)=some (.s SA js.length csl):=(HB.o.2.2.2.2.2.1.K I0.o.2.2).cell 0;go_wp2
  go_loopg [9,24] js.length (fun q _ it wx=>∃(n:Nat) (ns:Bool) (S1:OA) (ls qg:Nat) (qf:OA) (qh qa:Nat),js.length-n=q/\n<=js.length/\it=vI (n:Int)/\Hid (Blk wx gsum 33 #[.bool ns,.s S1 ls qg,.s qf qh qa]/\aB wx ns S1 ls qg qf qh qa (gU T qe X base js n)/\Ext w wx))
  case atStart=>exact⟨0,_,_,_,_,_,_,_,rfl,yZ _,rfl,I0⟩
  obtain⟨n,ns,S1,ls,qg,qf,qh,qa,rfl,hn,rfl,I⟩:=hrel;by_cases vn:n<js.length
  ·have nN:(n:Int)<(js.length:Int):=by omega
   have n0:(0:Int)<=(n:Int):=qO;obtain⟨x,hx⟩:∃x,js[n]?=some x:=⟨_,yG vn⟩;have NX:=Hx (jzb3 T qe X base js hx);obtain⟨sb,so,rfl,vt,jc⟩:=jzb4 (HB.o.2.2.2.2.2.2.1.K I.o.2.2) hx;obtain⟨gf,K,cf,c1,vq,c2⟩:=HJ.o.1 x (yJ hx);obtain⟨qH,qB⟩:=HJ.o.2 x (yJ hx);obtain⟨gx,cx,qW,_,_⟩:=HB.o.2.2.1.form qO;have qU:=HB.o.2.2.1;rw[qW]at qU;obtain⟨nf,F1,f1,e1,qX,qY,qZ,⟨a0,a1,a2⟩,_,rf⟩:=qU.cell (aO qH);obtain⟨nv,V1,v1,d1,qM,qT,qQ,⟨b0,b1,b2⟩,_,rv⟩:=HB.o.2.2.2.2.1.at_ (aO (show Sx.atN T.fre x<qe.length by rw[qw.o];exact qB));have LE:=Hx (kQa (I.o.2.1.lens (SZ.o n hn)) (kQa (rf.lens (HS.o.1 _ (yJ (aO qH)))) (rv.lens (HS.o.2 _ (yJ (aO (show Sx.atN T.fre x<qe.length by rw[qw.o];exact qB)))))));generalize Sx.atN T.fre x=f at*;have qi:=Hx (show∀wx,Ext wr wx->wx.cell? (aD gsum 0)=some (.bool ns)/\wx.cell? (aD gsum 1)=some (.s S1 ls qg)/\wx.cell? (aD gsum 2)=some (.s qf qh qa)/\wx.cell? (aD b o)=some (.s (sA gx) X.length cx)/\wx.cell? (aD gx (x*3))=some (.bool nf)/\wx.cell? (aD gx (x*3+1))=some (.s F1 f1 e1)/\wx.cell? (aD gx (x*3+2))=some (.s qX qY qZ)/\wx.cell? (aD gvb 0)=some (.s (sA gl) m m)/\wx.cell? (aD gtb 0)=some (.pointer (sA p))/\wx.cell? (aD p 2)=some (.s (sA gf) K cf)/\wx.cell? (aD gf x)=some (vI (f:Int))/\wx.cell? (aD gl (f*3))=some (.bool nv)/\wx.cell? (aD gl (f*3+1))=some (.s V1 v1 d1)/\wx.cell? (aD gl (f*3+2))=some (.s qM qT qQ)from fun wx hx=>
    ⟨(I.o.1.K hx).cell 0,(I.o.1.K hx).cell 1,(I.o.1.K hx).cell 2,aA (I.o.2.2.tr hx) ((HB.o.1.cell o).trans (by rw[HB.o.2.1,qW])),aA (I.o.2.2.tr hx) a0,aA (I.o.2.2.tr hx) a1,aA (I.o.2.2.tr hx) a2,(HB.o.2.2.2.1.K (I.o.2.2.tr hx)).cell 0,(HB.o.2.2.2.2.2.2.2.K (I.o.2.2.tr hx)).cell 0,aA (I.o.2.2.tr hx) c1,aA (I.o.2.2.tr hx) c2,aA (I.o.2.2.tr hx) b0,aA (I.o.2.2.tr hx) b1,aA (I.o.2.2.tr hx) b2⟩)
   have XD:Hid (Ext wr wr.drew):=Hx ((eR wr).drewN 1);have RF:=Hx (kQa rf rv);have HSW:=Hx (qi.o _ XD.o);have xX:(x:Int)<(X.length:Int):=qO;have xK:(x:Int)<(K:Int):=qO;have x0:(0:Int)<=(x:Int):=qO;have fm:(f:Int)<(m:Int):=qO;have f0:(0:Int)<=(f:Int):=by omega
   go_upto_region 6 with fail
   refine wX qi 20 ?_;refine wV 0 rfl HSW.o ?_;refine wP 1 rfl HSW.o ?_;refine wP 2 rfl HSW.o ?_;refine wP 3 rfl HSW.o ?_;refine wV 4 rfl HSW.o ?_;refine wP 5 rfl HSW.o ?_;refine wP 6 rfl HSW.o ?_;refine wV 7 rfl HSW.o ?_;refine wV 8 rfl HSW.o ?_;refine wV 9 rfl HSW.o ?_;refine wP 10 rfl HSW.o ?_;refine wP 11 rfl HSW.o ?_;refine wV 12 rfl HSW.o ?_;refine wP 13 rfl HSW.o ?_;refine wP 14 rfl HSW.o ?_;refine wV 15 rfl HSW.o ?_;refine wP 16 rfl HSW.o ?_;refine wV 17 rfl HSW.o ?_;refine wC 18 rfl (fun KK hK=>?_);go_simp;refine(fY nf nv F1 f1 e1 qX qY qZ V1 v1 d1 qM qT qQ (Sx.at_ X x) (Sx.at_ qe f) _ (RF.o.1.K (I.o.2.2.tr XD.o)) (RF.o.2.K (I.o.2.2.tr XD.o)) (by have:=LE.o;omega) (by have:=LE.o;omega) (by have:=LE.o;omega) (by have:=LE.o;omega)).mono ?_;rintro e w8 ⟨n8,A8,l8,c8,q3,vh,vm,rfl,h8,x8⟩;have E8:=Hx (XD.o.tr x8);have R8:=Hx h8;have L8:=Hx (h8.lens ((HS.o.1 _ (yJ (aO qH))).mul (HS.o.2 _ (yJ (aO (show f<qe.length by rw[qw.o];exact qB))))));refine hK.o _ _ (qi.o _ E8.o) ?_;have HSW:=Hx (qi.o _ E8.o);refine wC 19 rfl (fun KK hK=>?_);go_simp;refine(kF ns n8 S1 ls qg qf qh qa A8 l8 c8 q3 vh vm (gU T qe X base js n) (Sx.at_ X x*Sx.at_ qe f) _ (I.o.2.1.K E8.o) R8.o (by have:=LE.o;omega) (by have:=LE.o;omega) (by have:=L8.o;omega) (by have:=L8.o;omega) (gI (kQx (kQ7 _) (kQ7 _)))).mono ?_;rintro e w9 ⟨n9,A9,l9,c9,q9,vd,q2,rfl,h9,x9⟩;have E9:=Hx (E8.o.tr x9);rw[<-NX.o]at h9;have B9:=Hx (I.o.1.K E9.o);obtain⟨r1,r2⟩:=dH (w:=w) h9 B9.o qO (I.o.2.2.tr E9.o);have RQ:=Hx (kQa (((B9.o.sT 0 (.bool n9)).sT 1 (.s A9 l9 c9)).sT 2 (.s q9 vd q2)) (kQa r1 r2));refine hK.o _ _ (qi.o _ E9.o) ?_;have HSW:=Hx (qi.o _ E9.o);obtain⟨⟨t0,t1,t2⟩,z0,z1,z2⟩:=B9.o.t3;refine aY qK rfl qR (fun KK hK=>?_);go_simp;refine hK.o _ _ ?_;refine wpAny_done qK ?_ _;go_wp2
   go_roundg (js.length-(n+1))
   case measure=>omega
   exact⟨n+1,_,_,_,_,_,_,_,rfl,qO,by go_num,RQ⟩
  obtain rfl:n=js.length:=qO;have HE:=Hx (show gU T qe X base js js.length=Sx.addC T qe X base js by unfold gU;rw[yU (yX _)]);rw[HE.o]at I;obtain⟨css,h1,h2,qj,h4⟩:=HB.o.2.2.1.K QR.keep_ I.o.2.2;have XB:Hid (Ext wr (wr.alloc (.cells #[.bool ns,.s S1 ls qg,.s qf qh qa] 33)).drew):=Hx (((eR wr).alloc _).drewN 1);have qJ:wr.drew.cell? (aD b o)=some V:=(aA I.o.2.2 ((HB.o.1.cell o).trans HB.o.2.1));have HSW:Hid (wr.drew.cell? (aD b o)=some V/\wr.drew.cell? (aD gsum 0)=some (.bool ns)/\wr.drew.cell? (aD gsum 1)=some (.s S1 ls qg)/\wr.drew.cell? (aD gsum 2)=some (.s qf qh qa)):=Hx (⟨qJ,I.o.1.cell 0,I.o.1.cell 1,I.o.1.cell 2⟩)
  go_upto_region 8 with fail
  refine wp_region_last (fun w'=>w'.cell? (aD b o)=some V/\w'.cell? (aD gsum 0)=some (.bool ns)/\w'.cell? (aD gsum 1)=some (.s S1 ls qg)/\w'.cell? (aD gsum 2)=some (.s qf qh qa)) 10 qK ?_;refine wP 0 rfl HSW.o ?_;refine wP 1 rfl HSW.o ?_;refine wP 2 rfl HSW.o ?_;refine wP 3 rfl HSW.o ?_;refine wV 4 rfl HSW.o ?_;refine wV 5 rfl HSW.o ?_;refine wC 6 rfl (fun KK hK=>?_);go_simp;have qp:=Hx (show(wr.alloc (.cells #[.bool ns,.s S1 ls qg,.s qf qh qa] 33)).drew.cell? (aD b o)=some V/\(wr.alloc (.cells #[.bool ns,.s S1 ls qg,.s qf qh qa] 33)).drew.cell? (aD gsum 0)=some (.bool ns)/\(wr.alloc (.cells #[.bool ns,.s S1 ls qg,.s qf qh qa] 33)).drew.cell? (aD gsum 1)=some (.s S1 ls qg)/\(wr.alloc (.cells #[.bool ns,.s S1 ls qg,.s qf qh qa] 33)).drew.cell? (aD gsum 2)=some (.s qf qh qa)from
   ⟨aA XB.o qJ,(I.o.1.K XB.o).cell 0,(I.o.1.K XB.o).cell 1,(I.o.1.K XB.o).cell 2⟩)
  refine hK.o _ _ qp.o ?_;have HSW:=qp;have BW:Hid (Blk (wr.alloc (.cells #[.bool ns,.s S1 ls qg,.s qf qh qa] 33)).drew wr.heap.size 33 #[.bool ns,.s S1 ls qg,.s qf qh qa]):=Hx (eN wr _ _);generalize (wr.alloc (.cells #[.bool ns,.s S1 ls qg,.s qf qh qa] 33)).drew=W6 at*;obtain⟨css,h1,h2,qj,h4⟩:=HB.o.2.2.1.K QR.keep_ (I.o.2.2.tr XB.o);refine wC 7 rfl (fun KK hK=>?_);refine fO W6 35 33 _ 3 56 _ _ rfl underlying35 Tryz.info44 rfl qD B V X.length css.flatten qR qj [.bool ns,.s S1 ls qg,.s qf qh qa] rfl (by simp[Value.oneCell']) wr.heap.size qR BW.o (by unfold maxLen;omega) qO (by have:=(I.o.2.2.tr XB.o).size;omega) ?_;intro g7 c7 w7 qn qk qy;have k7:Hid (FrS (fun x=>V.ownBlock=some x) W6 w7):=Hx (eG qk fun g e=>e);have NB:Hid (¬V.ownBlock=some b):=Hx (fun e=>bK qj e (t:=tr) (fun h=>htr h.symm) _ _ (HB.o.1.K (I.o.2.2.tr XB.o)));have NS:=Hx (show¬V.ownBlock=some gsum from fun e=>by
   have h9:=(qj.lt gsum e).1;obtain⟨_,q8⟩:=HB.o.2.2.1.own;have:=(q8.lt gsum e).2;omega)
  have qm:=Hx (show w7.cell? (aD b o)=some V/\w7.cell? (aD gsum 0)=some (.bool ns)/\w7.cell? (aD gsum 1)=some (.s S1 ls qg)/\w7.cell? (aD gsum 2)=some (.s qf qh qa)from
   ⟨((k7.o.blk (HB.o.1.K (I.o.2.2.tr XB.o)) NB.o).cell o).trans HB.o.2.1,(k7.o.blk (I.o.1.K XB.o) NS.o).cell 0,(k7.o.blk (I.o.1.K XB.o) NS.o).cell 1,(k7.o.blk (I.o.1.K XB.o) NS.o).cell 2⟩)
  have q7:=Hx (OQ.pushed h1 h2 qj h4 (I.o.2.1.K XB.o) qn qk);have B7:=Hx (k7.o.blk (HB.o.1.K (I.o.2.2.tr XB.o)) NB.o);have N7:Hid (some g7=V.ownBlock\/w.heap.size<=g7):=Hx (qy.imp id fun e=>by have:=(I.o.2.2.tr XB.o).size;omega);have F7:Hid (FrS (fun x=>V.ownBlock=some x) w w7):=Hx ((eE (I.o.2.2.tr XB.o)).tr k7.o fun x hx=>.inl hx);have HG:=Hx (show g7≠b from fun e=>by
   obtain⟨_,h9⟩:=aW qn (g:=g7) rfl;rw[e]at h9;exact htr (aZ B7.o h9).2)
  refine hK.o _ _ qm.o ?_;have HSW:=qm;have z0:w7.frozen? (aD b o)=false:=B7.o.frozen _;have t0:w7.cell? (aD b o)=some V:=qm.o.1;refine wP 8 rfl HSW.o ?_;refine wP 9 rfl HSW.o ?_;refine aY qK rfl qR (fun KK hK=>?_);go_simp;refine hK.o _ _ ?_;refine wpAny_done qK ?_ _;have qt:=Hx (show jzb5 w B b o tr cs V X (Sx.addC T qe X base js) (.returned (.tuple #[])) (w7.setCell (aD b o) (.s (sA g7) (X.length+1) c7))from by
   have F8:FrS (fun x=>x=b) w7 (w7.setCell (aD b o) (.s (sA g7) (X.length+1) c7)):=eG (aM w7 b o _) fun g e=>(by injection e with e;exact e.symm);refine⟨g7,c7,rfl,F8.oq (NoT.one B7.o htr2) q7.o (fun g e hg=>HG.o (by have e:some g7=some g:=e;injection e with e;exact e.trans hg)),B7.o.sT o _,(F7.o.mono (S':=fun x=>x=b\/V.ownBlock=some x) fun x hx=>.inr hx).tr F8 fun x hx=>.inl (.inl hx),N7.o⟩)
  go_wp2
  go_end0
  exact qt.o
end Go.Proofs.YtfeeacaofjpkaaaGreatDoor
namespace Go.Proofs.YtfeeacaofjpkaaaGreatDoor
open Go.Proofs.Tryz
namespace Sx
def ls{α:Type}(f:α->Rat):List α->Rat
 | []=>0
 |a::l=>f a+ls f l
section
variable {α:Type}
theorem ls_app(f:α->Rat):∀l k:List α,ls f (l++k)=ls f l+ls f k
 | [],k=>by show ls f k=0+ls f k;grind
 |a::l,k=>by
  show f a+ls f (l++k)=f a+ls f l+ls f k;rw[ls_app f l k];grind
theorem gV{f g:α->Rat}:∀{l:List α},(∀a∈l,f a=g a)->ls f l=ls g l
 | [],_=>rfl
 |a::l,h=>by
  show f a+ls f l=g a+ls g l;rw[h a qS,gV fun b hb=>h b (by simp[hb])]
theorem nX{f:α->Rat}{l:List α}(h:∀a∈l,f a=0):ls f l=0:=by
 (induction l with|nil=>rfl|cons a l ih=>show f a+ls f l=0;rw[h a qS,ih fun b hb=>h b (by simp[hb])];grind)
theorem rB{f g:α->Rat}:∀{l:List α},(∀a∈l,f a<=g a)->ls f l<=ls g l
 | [],_=>vC
 |a::l,h=>by
  show f a+ls f l<=g a+ls g l;have h1:=h a qS;have h2:=rB (l:=l) fun b hb=>h b (by simp[hb]);grind
theorem uH{f:α->Rat}:∀{l:List α},(∀a∈l,0<=f a)->0<=ls f l
 | [],_=>vC
 |a::l,h=>by
  show 0<=f a+ls f l;have h1:=h a qS;have h2:=uH (l:=l) fun b hb=>h b (by simp[hb]);grind
theorem uI(f g:α->Rat):∀l:List α,ls (fun a=>f a+g a) l=ls f l+ls g l
 | []=>by show(0:Rat)=0+0;grind
 |a::l=>by
  show f a+g a+ls _ l=f a+ls f l+(g a+ls g l);rw[uI f g l];grind
theorem mM(c:Rat)(f:α->Rat):∀l:List α,ls (fun a=>c*f a) l=c*ls f l
 | []=>by show(0:Rat)=c*0;grind
 |a::l=>by
  show c*f a+ls _ l=c*(f a+ls f l);rw[mM c f l];grind
theorem mN(n:Nat)(f:α->Nat->Rat):∀l:List α,ls (fun a=>sm n (f a)) l=sm n fun k=>ls (fun a=>f a k) l
 | []=>by
   show(0:Rat)=_;exact(sm_zero n fun k _=>rfl).symm
 |a::l=>by
  show sm n (f a)+ls _ l=sm n fun k=>f a k+ls (fun a=>f a k) l;rw[mN n f l,sm_add]
theorem uJ{β:Type}(f:α->Rat)(g:β->List α):∀l:List β,ls f (l.flatMap g)=ls (fun b=>ls f (g b)) l
 | []=>rfl
 |b::l=>by
  rw[xU,ls_app,uJ f g l];rfl
theorem uL(f:Nat->Rat):∀n:Nat,ls f (List.range n)=sm n f
 |0=>rfl
 |n+1=>by
  rw[kZc,ls_app,uL f n];show sm n f+(f n+0)=sm n f+f n;grind
end
theorem nY:∀(n:Nat) (f:Nat->Rat),sm (n+1) f=f 0+sm n fun k=>f (k+1)
 |0,f=>by show 0+f 0=f 0+0;grind
 |n+1,f=>by
  show sm (n+1) f+f (n+1)=f 0+((sm n fun k=>f (k+1))+f (n+1));rw[nY n f];grind
def zipF:List (Nat×LN)->LQ->List ((Nat×LN)×Rat)
 |p::l,q::k=>(p,q)::zipF l k
 |_,_=>[]
theorem uM(F:Nat×LN->Rat->Rat)(d0:Nat×LN):∀(P:List (Nat×LN)) (fl:LQ),fl.length=P.length->ls (fun z=>F z.1 z.2) (zipF P fl)=sm P.length fun k=>F (P[k]?.getD d0) (at_ fl k)
 | [],[],_=>rfl
 |p::P,q::fl,h=>by
  have h:fl.length+1=P.length+1:=h;show F p q+ls (fun z=>F z.1 z.2) (zipF P fl)=sm (P.length+1) _;rw[nY,uM F d0 P fl qO];rfl
theorem zipF_keys:∀(P:List (Nat×LN)) (fl:LQ),fl.length=P.length->(zipF P fl).map (·.1)=P
 | [],[],_=>rfl
 |p::P,q::fl,h=>by
  have h:fl.length+1=P.length+1:=h;show p::(zipF P fl).map (·.1)=_;rw[zipF_keys P fl qO]
theorem zipF_mem:∀(P:List (Nat×LN)) (fl:LQ) {z:(Nat×LN)×Rat},z∈zipF P fl->z.1∈P/\z.2∈fl
 | [],_,_,h=>by cases h
 |_::_,[],_,h=>by cases h
 |p::P,q::fl,z,h=>by
  have h:z∈(p,q)::zipF P fl:=h;rcases xZ.1 h with e|e
  ·rw[e];exact⟨qS,qS⟩
  ·have:=zipF_mem P fl e
   exact⟨by simp[this.1],by simp[this.2]⟩
def cut(d:Nat):Rat->List ((Nat×LN)×Rat)->List ((Nat×LN)×Rat)
 |_,[]=>[]
 |r,z::l=>if z.1.1=d then(if 0<(if r<z.2 then r else z.2)then [(z.1,if r<z.2 then r else z.2)]else [])++cut d (r-(if r<z.2 then r else z.2)) l else cut d r l
theorem cut_mem{d:Nat}:∀{r:Rat} {l:List ((Nat×LN)×Rat)} {z:(Nat×LN)×Rat},z∈cut d r l->z.1.1=d/\0<z.2/\∃f,(z.1,f)∈l/\z.2<=f
 |_,[],_,h=>by cases h
 |r,y::l,z,h=>by
  unfold cut at h;by_cases hd:y.1.1=d
  ·rw[qE hd]at h
   rcases xY.1 h with h1|h1
   ·by_cases hp:0<(if r<y.2 then r else y.2)
    ·rw[qE hp]at h1
     have h1:=xD.1 h1;subst h1;refine⟨hd,hp,y.2,qS,?_⟩;show(if r<y.2 then r else y.2)<=y.2
     split <;> grind
    ·rw[qF hp]at h1
     cases h1
   ·obtain⟨a1,a2,f,a4,a5⟩:=cut_mem h1
    exact⟨a1,a2,f,by simp[a4],a5⟩
  ·rw[qF hd]at h
   obtain⟨a1,a2,f,a4,a5⟩:=cut_mem h;exact⟨a1,a2,f,by simp[a4],a5⟩
theorem cut_keys(d:Nat):∀(r:Rat) (l:List ((Nat×LN)×Rat)),((cut d r l).map (·.1)).Sublist (l.map (·.1))
 |_,[]=>List.Sublist.slnil
 |r,z::l=>by
  unfold cut;by_cases hd:z.1.1=d
  ·rw[qE hd,List.map_append]
   by_cases hp:0<(if r<z.2 then r else z.2)
   ·rw[qE hp];exact(cut_keys d _ l).cons_cons _
   ·rw[qF hp];exact(cut_keys d _ l).cons _
  ·rw[qF hd];exact(cut_keys d _ l).cons _
theorem uN(d:Nat):∀(r:Rat) (l:List ((Nat×LN)×Rat)),0<=r->(∀z∈l,0<=z.2)->r<=ls (fun z=>if z.1.1=d then z.2 else 0) l->ls (fun z=>z.2) (cut d r l)=r
 |r,[],h0,_,h=>by
  have h:r<=0:=h;show(0:Rat)=r;grind
 |r,z::l,h0,hz,h=>by
  have h:r<=(if z.1.1=d then z.2 else 0)+ls _ l:=h;have qa:=hz z qS;unfold cut
  split
  ·rename_i hd
   rw[qE hd]at h;rw[ls_app];have hr:0<=r-(if r<z.2 then r else z.2):=(by split <;> grind);have hl:∀z∈l,0<=z.2:=fun y hy=>hz y (by simp[hy]);have qe:0<=ls (fun z:(Nat×LN)×Rat=>if z.1.1=d then z.2 else 0) l:=uH fun y hy=>by
    split
    ·exact hl y hy
    ·exact vC
   rw[uN d _ l hr hl (by split <;> grind)];by_cases e:r<z.2
   ·rw[qE e]
    by_cases e2:0<r
    ·rw[qE e2];show r+0+_=_;grind
    ·rw[qF e2];show 0+_=_;grind
   ·rw[qF e]
    by_cases e2:0<z.2
    ·rw[qE e2];show z.2+0+_=_;grind
    ·rw[qF e2];show 0+_=_;grind
  ·rename_i hd
   rw[qF hd]at h;exact uN d r l h0 (fun y hy=>hz y (by simp[hy])) qG
theorem jzb7(d a:Nat):∀(r:Rat) (l:List ((Nat×LN)×Rat)),(∀z∈l,0<=z.2)->ls (fun z=>if a∈z.1.2 then z.2 else 0) (cut d r l)<=ls (fun z=>if z.1.1=d then(if a∈z.1.2 then z.2 else 0)else 0) l
 |r,[],_=>vC
 |r,z::l,hz=>by
  have qa:=hz z qS;have ih:=fun r=>jzb7 d a r l fun y hy=>hz y (by simp[hy]);show ls _ (cut d r (z::l))<=(if z.1.1=d then(if a∈z.1.2 then z.2 else 0)else 0)+ls _ l;unfold cut;by_cases hd:z.1.1=d
  ·rw[qE hd,qE hd,ls_app]
   have ih:=ih (r-(if r<z.2 then r else z.2));have:ls (fun z:(Nat×LN)×Rat=>if a∈z.1.2 then z.2 else 0) (if 0<(if r<z.2 then r else z.2)then [(z.1,if r<z.2 then r else z.2)]else [])<=if a∈z.1.2 then z.2 else 0:=by
    by_cases e:0<(if r<z.2 then r else z.2)
    ·rw[qE e]
     show(if a∈z.1.2 then(if r<z.2 then r else z.2)else 0)+0<=_;by_cases ea:a∈z.1.2
     ·rw[qE ea,qE ea];split <;> grind
     rw[qF ea,qF ea];grind
    rw[qF e];show(0:Rat)<=_
    split <;> grind
   grind
  rw[qF hd,qF hd];have ih:=ih r;grind
structure Adm(L2 D:Nat)(am cap:Nat->Rat)(v:Rat)(Z:List ((Nat×LN)×Rat)):Prop where
 dem:∀z∈Z,z.1.1<D
 pos:∀z∈Z,0<z.2
 dif:(Z.map (·.1)).Nodup
 sum:∀d,d<D->ls (fun z=>if z.1.1=d then z.2 else 0) Z=v*am d
 cap:∀a,a<L2->ls (fun z=>if a∈z.1.2 then z.2 else 0) Z<=cap a
theorem Adm.weak{L2 D:Nat}{am cap:Nat->Rat}{v:Rat}{Z:List ((Nat×LN)×Rat)}(h:Adm L2 D am cap v Z)(hD:0<D)(ham:∀d,d<D->0<am d){pr ch:Nat->Rat}(hp:∀a,a<L2->0<=pr a)
  (hch:∀z∈Z,ch z.1.1<=sm L2 fun a=>if a∈z.1.2 then pr a else 0) (hn:1<=sm D fun d=>am d*ch d):v<=sm L2 fun a=>pr a*cap a:=by
 have hv:0<=v:=(by have h1:=h.sum 0 hD;have h2:=ham 0 hD;have h3:0<=ls (fun z:(Nat×LN)×Rat=>if z.1.1=0 then z.2 else 0) Z:=uH fun z hz=>(by split;{exact vB (h.pos z hz)};exact vC);rw[h1]at h3;exact kQ4.1 fun h4=>(by have:=Rat.mul_lt_mul_of_pos_right h4 h2;grind));have e1:v*(sm D fun d=>am d*ch d)=ls (fun z=>z.2*ch z.1.1) Z:=(by rw[<-eO];have:(sm D fun d=>v*(am d*ch d))=sm D fun d=>ls (fun z=>(if z.1.1=d then z.2 else 0)*ch d) Z:=sm_congr D fun d hd=>(by have e:=mM (ch d) (fun z:(Nat×LN)×Rat=>if z.1.1=d then z.2 else 0) Z;rw[h.sum d hd]at e;have e2:ls (fun z:(Nat×LN)×Rat=>(if z.1.1=d then z.2 else 0)*ch d) Z=ls (fun z=>ch d*(if z.1.1=d then z.2 else 0)) Z:=gV fun z _=>qG;rw[e2,e];grind);rw[this, <-mN];exact gV fun z hz=>(by rw[sm_one D (h.dem z hz) fun d _ hd=>by rw[qF (fun e=>hd e.symm)];grind,qE rfl]));have e2:ls (fun z=>z.2*ch z.1.1) Z<=ls (fun z=>sm L2 fun a=>pr a*(if a∈z.1.2 then z.2 else 0)) Z:=rB fun z hz=>(by have h1:=yT (hch z hz) (vB (h.pos z hz));rw[<-eO]at h1;have:(sm L2 fun a=>z.2*(if a∈z.1.2 then pr a else 0))=sm L2 fun a=>pr a*(if a∈z.1.2 then z.2 else 0):=sm_congr L2 fun a _=>(by split <;> grind);rw[this]at h1;exact h1);have e3:ls (fun z=>sm L2 fun a=>pr a*(if a∈z.1.2 then z.2 else 0)) Z<=sm L2 fun a=>pr a*cap a:=(by rw[mN];refine sm_le L2 fun a ha=>?_;rw[mM];exact yT (h.cap a ha) (hp a ha));have e4:v*1<=v*(sm D fun d=>am d*ch d):=yT hn hv;grind
def planZ(D:Nat)(am:Nat->Rat)(v:Rat)(Z:List ((Nat×LN)×Rat)):List ((Nat×LN)×Rat):=(List.range D).flatMap fun d=>cut d (v*am d) Z
theorem jzb8{D:Nat}{am:Nat->Rat}{v:Rat}{Z:List ((Nat×LN)×Rat)}(h:(Z.map (·.1)).Nodup):((planZ D am v Z).map (·.1)).Nodup:=by
 unfold planZ;(induction D with|zero=>exact List.nodup_nil|succ D ih=>rw[kZc,List.flatMap_append,List.map_append,List.nodup_append];refine⟨ih,?_,fun x hx y hy=>?_⟩;{simp only[xU,List.flatMap_nil,List.append_nil];exact(cut_keys D _ Z).nodup h};obtain⟨z,hz,rfl⟩:=kQl.1 hx;obtain⟨z',qa,rfl⟩:=kQl.1 hy;simp only[xU,List.flatMap_nil,List.append_nil]at qa;obtain⟨d,hd,hz⟩:=kZx.1 hz;have h1:=(cut_mem hz).1;have h2:=(cut_mem qa).1;have h3:=vX.1 hd;intro e;rw[e]at h1;omega)
theorem jzjz{L2 D:Nat}{am cap:Nat->Rat}{v:Rat}{Z:List ((Nat×LN)×Rat)}(hz:∀z∈Z,0<=z.2)(hd:(Z.map (·.1)).Nodup)(hv:∀d,d<D->0<=v*am d)
  (hs:∀d,d<D->v*am d<=ls (fun z=>if z.1.1=d then z.2 else 0) Z) (hc:∀a,a<L2->ls (fun z=>if a∈z.1.2 then z.2 else 0) Z<=cap a):Adm L2 D am cap v (planZ D am v Z):=by
 refine⟨fun z h=>?_,fun z h=>?_,jzb8 hd,fun d h=>?_,fun a h=>?_⟩;{obtain⟨d,h1,h2⟩:=kZx.1 h;rw[(cut_mem h2).1];exact vX.1 h1};{obtain⟨d,h1,h2⟩:=kZx.1 h;exact(cut_mem h2).2.1};{unfold planZ;rw[uJ,uL,sm_one D h fun k hk hkd=>nX fun z hz2=>by rw[qF];rw[(cut_mem hz2).1];exact hkd];refine Eq.trans ?_ (uN d (v*am d) Z (hv d h) hz (hs d h));refine gV fun z hz2=>?_;rw[qE (cut_mem hz2).1]};refine kQs ?_ (hc a h);unfold planZ;rw[uJ,uL];refine kQs (sm_le D fun d _=>jzb7 d a _ Z hz) ?_;rw[<-mN];refine rB fun z hz2=>?_;by_cases e:z.1.1<D;{rw[sm_one D e fun k _ hk=>qF (fun h=>hk h.symm),qE rfl];exact vC};rw[sm_zero D fun k hk=>qF qO];split;{exact hz z hz2};exact vC
end Sx
namespace Sx
def prTo(T:Tb)(J:Nat):LQ:=(List.range T.rows.length).map fun i=>sm J fun j=>if atN T.fre j=i then at_ T.goal.co j else 0
def prT(T:Tb):LQ:=prTo T T.fre.length
def ptTo(T:Tb)(I:Nat):LQ:=(List.range T.cols).map fun k=>sm I fun l=>if atN T.bas l=T.rows.length+k then(T.row l).re else 0
def ptT(T:Tb):LQ:=ptTo T T.rows.length
theorem prTo_len(T:Tb)(J:Nat):(prTo T J).length=T.rows.length:=by unfold prTo;simp
theorem ptTo_len(T:Tb)(I:Nat):(ptTo T I).length=T.cols:=by unfold ptTo;simp
theorem gD(n:Nat)(f:Nat->Rat)(k:Nat):((List.range n).map f)[k]?=if k<n then some (f k)else none:=by
 by_cases h:k<n;{rw[qE h,yW,xJ h];rfl};rw[qF h];exact yI (by simp;omega)
theorem prTo_zero(T:Tb):prTo T 0=List.replicate T.rows.length 0:=by
 apply uK;intro k;unfold prTo;rw[gD,xB];rfl
theorem ptTo_zero(T:Tb):ptTo T 0=List.replicate T.cols 0:=by
 apply uK;intro k;unfold ptTo;rw[gD,xB];rfl
theorem prTo_skip(T:Tb){J:Nat}(h:T.rows.length<=atN T.fre J):prTo T (J+1)=prTo T J:=by
 apply uK;intro k;unfold prTo;rw[gD,gD];by_cases hk:k<T.rows.length;{rw[qE hk,qE hk];congr 1;show sm J _+(if atN T.fre J=k then _ else 0)=_;rw[qF qO];grind};rw[qF hk,qF hk]
theorem prTo_put(T:Tb){J:Nat}(_h:atN T.fre J<T.rows.length)(hi:∀j,j<J->atN T.fre j≠atN T.fre J):prTo T (J+1)=(prTo T J).set (atN T.fre J) (at_ T.goal.co J):=by
 apply uK;intro k;by_cases hk:k<T.rows.length;{by_cases e:k=atN T.fre J;{subst e;rw[yM (by rw[prTo_len];exact hk)];unfold prTo;rw[gD,qE hk];congr 1;show sm J _+(if atN T.fre J=atN T.fre J then _ else 0)=_;rw[qE rfl,sm_zero J fun j hj=>qF (hi j hj)];grind};rw[vN (fun e2=>e e2.symm)];unfold prTo;rw[gD,gD,qE hk,qE hk];congr 1;show sm J _+(if atN T.fre J=k then _ else 0)=_;rw[qF (fun e2=>e e2.symm)];grind};rw[yI (by rw[prTo_len];omega),yI (by rw[yV,prTo_len];omega)]
theorem ptTo_skip(T:Tb){I:Nat}(h:atN T.bas I<T.rows.length):ptTo T (I+1)=ptTo T I:=by
 apply uK;intro k;unfold ptTo;rw[gD,gD];by_cases hk:k<T.cols;{rw[qE hk,qE hk];congr 1;show sm I _+(if atN T.bas I=T.rows.length+k then _ else 0)=_;rw[qF qO];grind};rw[qF hk,qF hk]
theorem ptTo_put(T:Tb){I:Nat}(h:T.rows.length<=atN T.bas I)(hi:∀j,j<I->atN T.bas j≠atN T.bas I):ptTo T (I+1)=(ptTo T I).set (atN T.bas I-T.rows.length) (T.row I).re:=by
 apply uK;intro k;by_cases hk:k<T.cols;{by_cases e:k=atN T.bas I-T.rows.length;{subst e;rw[yM (by rw[ptTo_len];exact hk)];unfold ptTo;rw[gD,qE hk];congr 1;show sm I _+(if atN T.bas I=_ then _ else 0)=_;rw[qE qO,sm_zero I fun j hj=>qF (fun e2=>hi j hj qO)];grind};rw[vN (fun e2=>e e2.symm)];unfold ptTo;rw[gD,gD,qE hk,qE hk];congr 1;show sm I _+(if atN T.bas I=_ then _ else 0)=_;rw[qF qO];grind};rw[yI (by rw[ptTo_len];omega),yI (by rw[yV,ptTo_len];omega)]
theorem jzb9{T:Tb}{m nv:Nat}{M:Nat->Nat->Rat}(h:Rep T m nv M){i:Nat}(hi:i<m):at_ (prT T) i=M m i:=by
 (unfold prT prTo;rw[h.rl,gR m _ hi];have hf:=h.fl;rcases h.all (show i<nv by omega)with⟨l,hl,e⟩|⟨j,hj,e⟩);{rw[sm_zero _ fun k hk=>qF (fun e2=>h.fb k l hk hl (by rw[e2,e]))];have:=h.di.unit l hl m (yX m);rw[e,qF qO]at this;exact this.symm};rw[sm_one _ hj fun k hk hkj=>qF (fun e2=>hkj (h.fi k j hk hj (by rw[e2,e]))),qE e,h.go j hj,e]
theorem uO{T:Tb}{m nv:Nat}{M:Nat->Nat->Rat}(h:Rep T m nv M){k:Nat}(hk:k<T.cols):at_ (ptT T) k=xOf T m nv M (m+k):=by
 unfold ptT ptTo xOf;rw[gR _ _ hk,h.rl];exact sm_congr m fun l hl=>by rw[h.re l hl]
section
variable {L2 D:Nat} {am cap:Nat->Rat} {P:List (Nat×List Nat)} {T:Tb}
def ptZ(T:Tb)(P:List (Nat×LN)):List ((Nat×LN)×Rat):=zipF P ((ptT T).drop 1)
theorem FLP.cols(h:FLP L2 D am cap T P):T.cols=P.length+1/\T.rows.length=L2+D:=by
 obtain⟨M,h⟩:=h;have h1:=h.cols;have h2:=h.rep.fl;exact⟨qO,h.rep.rl⟩
theorem at_drop(l:LQ)(n k:Nat):at_ (l.drop n) k=at_ l (n+k):=by unfold at_;rw[List.getElem?_drop]
theorem FLP.drop_len(h:FLP L2 D am cap T P):((ptT T).drop 1).length=P.length:=by
 rw[List.length_drop];unfold ptT;rw[ptTo_len,h.cols.1];omega
theorem zipF_flow:∀(P:List (Nat×LN)) (fl:LQ),fl.length=P.length->∀(k:Nat) {p:Nat×LN} {f:Rat},(zipF P fl)[k]?=some (p,f)->at_ fl k=f
 | [],_,_,_,_,_,h=>by cases h
 |p::P,q::fl,hl,k,p',f,h=>by
  have hl:fl.length+1=P.length+1:=hl;cases k with
  |zero=>
   have h:some (p,q)=some (p',f):=h;injection h with h
   injection h with _ h
  |succ k=>exact zipF_flow P fl qO k h
structure Best(L2 D:Nat)(am cap:Nat->Rat)(T:Tb)(P:List (Nat×LN)):Prop where
 adm:Adm L2 D am cap T.goal.re (planZ D am T.goal.re (ptZ T P))
 pos:∀i,i<L2+D->0<=at_ (prT T) i
 worth:(sm L2 fun a=>at_ (prT T) a*cap a)=T.goal.re
 need:1<=sm D fun d=>am d*at_ (prT T) (L2+d)
 path:∀p∈P,at_ (prT T) (L2+p.1)<=sm L2 fun a=>if a∈p.2 then at_ (prT T) a else 0
 vnn:0<=T.goal.re
 fnn:∀z∈ptZ T P,0<=z.2
theorem FLP.best(h:FLP L2 D am cap T P)(he:entT T=none)(hD:0<D)(ham:∀d,d<D->0<am d)(hd:P.Nodup)(hP:∀p∈P,p.1<D):Best L2 D am cap T P:=by
 have qa:=h.drop_len;have qf:=h.cols.1;obtain⟨M,h⟩:=h;have hg:∀v,v<L2+D+1+P.length->0<=M (L2+D) v:=fun v hv=>(by (rcases h.rep.all hv with⟨l,hl,e⟩|⟨j,hj,e⟩);{have:=h.rep.di.unit l hl (L2+D) (yX _);rw[e,qF qO]at this;rw[this];exact vC};have:=jzbq T _ he j (by rw[h.rep.gl];exact hj);rw[h.rep.go j hj,e]at this;exact this);obtain⟨o1,o2,o3⟩:=jzjt h hg;obtain⟨p1,p2,p3,p4⟩:=jzju h;have hp:∀i,i<L2+D->at_ (prT T) i=M (L2+D) i:=fun i hi=>jzb9 h.rep hi;have hv:T.goal.re=M (L2+D) (L2+D+1+P.length):=h.rep.gr;have hx:∀k,k<P.length->at_ ((ptT T).drop 1) k=xOf T (L2+D) (L2+D+1+P.length) M (L2+D+1+k):=fun k hk=>(by rw[at_drop,uO h.rep qO, <-kZw]);have qe:0<=T.goal.re:=(by rw[hv,p2];exact p1 _);have hz:∀z∈ptZ T P,0<=z.2:=fun z hz=>(by obtain⟨_,h2⟩:=zipF_mem P _ hz;obtain⟨k,hk,e⟩:=List.getElem_of_mem h2;have:at_ ((ptT T).drop 1) k=z.2:=(by unfold at_;rw[yG hk,e];rfl);rw[<-this,hx k qO];exact p1 _);refine⟨jzjz hz (by unfold ptZ;rw[zipF_keys P _ qa];exact hd) (fun d hd=>vA qe (vB (ham d hd))) (fun d hd=>?_) (fun a ha=>?_),fun i hi=>by rw[hp i hi];exact hg i qO,?_,?_,fun p hp2=>?_,qe,hz⟩;{unfold ptZ;rw[uM (fun p f=>if p.1=d then f else 0) (0,[]) P _ qa,hv];refine kQs (p4 d hd) ?_;rw[sm_congr P.length fun k hk=>by rw[<-hx k hk]];exact vC};{unfold ptZ;rw[uM (fun p f=>if a∈p.2 then f else 0) (0,[]) P _ qa];refine kQs ?_ (p3 a ha);rw[sm_congr P.length fun k hk=>by rw[hx k hk]];exact vC};{rw[hv, <-o1];exact sm_congr L2 fun a ha=>by rw[hp a qO]};{rw[sm_congr D fun d hd=>show am d*at_ (prT T) (L2+d)=M (L2+D) (L2+d)*am d by rw[hp _ qO];grind];exact o2};(obtain⟨k,hk,e⟩:=List.getElem_of_mem hp2;have h1:=o3 k hk;rw[yG hk,e]at h1;have h1:=h1 (hP p hp2);rw[hp _ (by have:=hP p hp2;omega)];refine kQs h1 (sm_le L2 fun a ha=>?_);show(if a∈p.2 then M (L2+D) a else 0)<=if a∈p.2 then at_ (prT T) a else 0);rw[hp a qO];exact vC
theorem nodup_le{α:Type}[DecidableEq α]:∀{l k:List α},l.Nodup->(∀a∈l,a∈k)->l.length<=k.length
 | [],_,_,_=>yZ _
 |a::l,k,h,hs=>by
  have h1:=kZo.1 h;have h2:=nodup_le (l:=l) (k:=k.erase a) h1.2 fun b hb=>by
   have qa:b≠a:=fun e=>h1.1 (e▸hb);exact(List.mem_erase_of_ne qa).2 (hs b (by simp[hb]))
  rw[List.length_erase_of_mem (hs a qS)]at h2;have:=List.length_pos_of_mem (hs a qS);show l.length+1<=k.length;omega
theorem planZ_nn{D:Nat}{am:Nat->Rat}{v:Rat}{Z:List ((Nat×LN)×Rat)}{z:(Nat×LN)×Rat}(h:z∈planZ D am v Z):0<z.2/\∃f,(z.1,f)∈Z/\z.2<=f:=by
 obtain⟨d,_,h2⟩:=kZx.1 h;exact⟨(cut_mem h2).2.1,(cut_mem h2).2.2⟩
theorem FLP.few(h:FLP L2 D am cap T P)(hd:P.Nodup):(planZ D am T.goal.re (ptZ T P)).length<=L2+D:=by
 have qa:=h.drop_len;have qf:=h.cols.1;obtain⟨M,h⟩:=h;have h1:=nodup_le (l:=(planZ D am T.goal.re (ptZ T P)).map (·.1)) (k:=(List.range (L2+D)).map fun l=>P[atN T.bas l-(L2+D+1)]?.getD (0,[])) (jzb8 (by unfold ptZ;rw[zipF_keys P _ qa];exact hd)) fun p hp=>(by obtain⟨z,hz,rfl⟩:=kQl.1 hp;obtain⟨a1,f,a2,a3⟩:=planZ_nn hz;have hf:0<f:=qG;obtain⟨k,hk,e⟩:=List.getElem_of_mem a2;have qe:k<P.length:=(by have:(ptZ T P).length=P.length:=(by rw[<-xV (f:=(·.1))];unfold ptZ;rw[zipF_keys P _ qa]);omega);have e1:P[k]=z.1:=(by have h2:((ptZ T P).map (·.1))[k]?=some z.1:=(by rw[yW,yG hk,e];rfl);unfold ptZ at h2;rw[zipF_keys P _ qa,yG qe]at h2;exact Option.some.inj h2);have e2:at_ ((ptT T).drop 1) k=f:=zipF_flow P _ qa k (show(ptZ T P)[k]?=some (z.1,f) by rw[yG hk,e]);rw[at_drop,uO h.rep qO]at e2;have e3:xOf T (L2+D) (L2+D+1+P.length) M (L2+D+(1+k))≠0:=fun e4=>(by rw[e4]at e2;grind);refine kQl.2 ?_;refine Classical.byContradiction fun hn=>e3 (jzbt fun l hl e4=>hn ⟨l,vX.2 hl,?_⟩);rw[e4,show L2+D+(1+k)-(L2+D+1)=k by omega,yG qe];exact e1);rw[xV,xV,kZm]at h1;exact h1
def Qn(Dn:Int)(N:Nat)(q:Rat):Prop:=isI (q*(Dn:Rat))/\SzZ q N
theorem Qn.zero(Dn:Int){N:Nat}(hN:1<=N):Qn Dn N 0:=⟨by rw[Rat.zero_mul];exact isI.zero,by show 0<=N/\1<=N;omega⟩
theorem FLP.sizes(h:FLP L2 D am cap T P)(C:Nat)(hC:L2+D<=C)(hC1:1<=C)(hca:∀a,a<L2->isI (cap a)/\0<=cap a)(ham:∀d,d<D->isI (am d)/\0<=am d)(hsc:sm L2 cap<=((C:Int):Rat))(hsa:sm D am<=((C:Int):Rat)):
  ∃Dn:Int,Dn≠0/\Dn.natAbs<=C^(L2+D)/\
   (∀i,i<T.rows.length->(∀q∈(T.row i).co,Qn Dn ((L2+D+1)*C^(L2+D)) q)/\Qn Dn ((L2+D+1)*C^(L2+D)) (T.row i).re)/\
   (∀q∈T.goal.co,Qn Dn ((L2+D+1)*C^(L2+D)) q)/\Qn Dn ((L2+D+1)*C^(L2+D)) T.goal.re/\
   (∀q∈prT T,Qn Dn ((L2+D+1)*C^(L2+D)) q)/\∀q∈ptT T,Qn Dn ((L2+D+1)*C^(L2+D)) q:=by
 have qf:=h.cols.1;obtain⟨M,h,Dn,h0,h1,h2⟩:=h.size C hC hC1 hca ham hsc hsa;have qa:∀{l:LQ} {q:Rat},q∈l->∃k,k<l.length/\at_ l k=q:=fun {l q} hq=>(by obtain⟨k,hk,e⟩:=List.getElem_of_mem hq;exact⟨k,hk,by unfold at_;rw[yG hk,e];rfl⟩);have qg:=h.rep.rl;have hN:1<=(L2+D+1)*C^(L2+D):=Nat.mul_pos qO (kQy qO);refine⟨Dn,h0,h1,fun i hi=>⟨fun q hq=>?_,?_⟩,fun q hq=>?_,?_,fun q hq=>?_,fun q hq=>?_⟩;{obtain⟨k,hk,e⟩:=qa hq;rw[h.rep.cl i qO]at hk;rw[<-e,h.rep.co i k qO hk];exact h2 _ _ qO (kQe (h.rep.fv k hk))};{rw[h.rep.re i qO];exact h2 _ _ qO (yX _)};{obtain⟨k,hk,e⟩:=qa hq;rw[h.rep.gl]at hk;rw[<-e,h.rep.go k hk];exact h2 _ _ (yX _) (kQe (h.rep.fv k hk))};{rw[h.rep.gr];exact h2 _ _ (yX _) (yX _)};{obtain⟨k,hk,e⟩:=qa hq;have qe:k<L2+D:=(by unfold prT at hk;rw[prTo_len]at hk;omega);rw[<-e,jzb9 h.rep qe];exact h2 _ _ (yX _) qO};obtain⟨k,hk,e⟩:=qa hq;have qe:k<T.cols:=(by unfold ptT at hk;rw[ptTo_len]at hk;exact hk);rw[<-e,uO h.rep qe];by_cases hb:∃l,l<L2+D/\atN T.bas l=L2+D+k;{obtain⟨l,hl,e⟩:=hb;rw[<-e,h.x_bas hl];exact h2 _ _ qO (yX _)};rw[jzbt fun l hl e=>hb ⟨l,hl,e⟩];exact Qn.zero Dn hN
theorem FLP.shape(h:FLP L2 D am cap T P):(∀i,i<T.rows.length->(T.row i).co.length=T.fre.length)/\T.goal.co.length=T.fre.length/\T.fre.length=P.length+1/\T.bas.length=L2+D/\
  (∀j k,j<T.fre.length->k<T.fre.length->atN T.fre j=atN T.fre k->j=k)/\(∀j,j<T.fre.length->atN T.fre j<L2+D+1+P.length)/\
  (∀j k,j<T.bas.length->k<T.bas.length->atN T.bas j=atN T.bas k->j=k)/\∀j,j<T.bas.length->atN T.bas j<L2+D+1+P.length:=by
 have hc:=h.cols;obtain⟨M,h⟩:=h;have hb:=h.rep.bl;exact⟨fun i hi=>h.rep.cl i qO,h.rep.gl,by have:=h.cols;omega,hb,h.rep.fi,h.rep.fv,fun j k hj hk e=>h.rep.di.inj qO qO e,fun j hj=>h.rep.di.lt j qO⟩
end
end Sx
open Go.RowKit
theorem mO(n:Nat)(hn:n<=1000000000000)w:
  (Instr.makeSlice 35 (vI (n:Int)) (vI (n:Int))).run prog w=.ok (.s (sA w.heap.size) n n) (w.alloc (.cells (madeCells rV (n*3)) 33)):=by
 obtain⟨i,hi,hz,hs,hb⟩:=info_parts Tryz.info44;have qa:(i.bytes:Int)*(n:Int)<=281474976710656:=(by rw[hb];omega);have hr:=run_make (P:=prog) w 35 33 i _ underlying35 hi hz .i64 .i64 n n qO qO qa qO;simp only[xL]at hr;rw[hs]at hr;exact hr
theorem jzj0(B:Nat)(L:aT)(T:Sx.Tb)w(h:aF w B L T)(qw:T.goal.co.length=T.fre.length)(hm0:0<L.m)(hm:L.m<=1000000)(hK0:0<T.fre.length)(hK:T.fre.length<=1000000000000)
  (qg:∀j k,j<T.fre.length->k<T.fre.length->Sx.atN T.fre j=Sx.atN T.fre k->j=k) (qx:∀j,j<T.fre.length->Sx.atN T.fre j<=1000000000000) (gv cv:Nat) (hV:L.V L.m=.s (sA gv) T.fre.length cv)
  (ni:Bool) AI (li ci:Nat) AI' (li' ci':Nat):
  Calls prog 84 #[.pointer (sA L.p),.agg #[.s (sA gv) T.fre.length cv,.bool ni,.s AI li ci,.s AI' li' ci']] w fun e w'=>∃gl,e=.returned (.s (sA gl) L.m L.m)/\QB w' gl (Sx.prT T)/\w.heap.size<=gl/\Ext w w':=by
 have qa:=h.go;rw[hV]at qa;obtain⟨g,cr,qy,qQ⟩:=h.vr_form hm0;obtain⟨cp,qp,qz,p0,p1,p2,p7⟩:=h.goa;obtain⟨gf,cf,qo,qH⟩:=h.vf_form hK0;rw[qo]at p2;rw[qy]at p0;have qe:=h.fre;rw[qo]at qe;have q0:=(qp.cell 0).trans p0;have q2:=(qp.cell 2).trans p2;have qk:=h.rl;have HC:=Hx (kQa qa (kQa qe qw));have HI:=Hx (kQa qg qx);have qA:=mO L.m qO;obtain⟨bx,e0⟩:=bA w #[.s (sA gv) T.fre.length cv,.bool ni,.s AI li ci,.s AI' li' ci'] 145;have q0:=aA e0 q0;have q2:=aA e0 q2;clear h hV qp qz p0 p1 p2 p7 qy qo qa qe qw qg qx;have HE:Hid (Sx.prT T=Sx.prTo T T.fre.length):=Hx (rfl);generalize hKK:T.fre.length=K at*;clear hKK;have qh:(w.alloc (.cells #[.s (sA gv) K cv,.bool ni,.s AI li ci,.s AI' li' ci'] 145)).heap.size=w.heap.size+1:=qS;have qm:=QB.made (w.alloc (.cells #[.s (sA gv) K cv,.bool ni,.s AI li ci,.s AI' li' ci'] 145)) L.m;rw[qh]at qm;have QM:=Hx qm;clear qm;have xb:=(eR (w.alloc (.cells #[.s (sA gv) K cv,.bool ni,.s AI li ci,.s AI' li' ci'] 145))).alloc (.cells (madeCells rV (L.m*3)) 33);have q2:=aA xb q2;have BX:=Hx (bx.K xb);have E0:=Hx (e0.tr xb);have qj:w.heap.size<=w.heap.size+1:=Nat.le_succ _;have qn:w.heap.size≠w.heap.size+1:=qO;clear bx e0 xb;go_enter func84,ntmps84;(go_upto_region 2 with fail);generalize (w.alloc (.cells #[.s (sA gv) K cv,.bool ni,.s AI li ci,.s AI' li' ci'] 145))=W1 at*;clear qh;have I0:Hid (QB (W1.alloc (.cells (madeCells rV (L.m*3)) 33)) (w.heap.size+1) (Sx.prTo T 0)/\Blk (W1.alloc (.cells (madeCells rV (L.m*3)) 33)) w.heap.size 145 #[.s (sA gv) K cv,.bool ni,.s AI li ci,.s AI' li' ci']/\Ext w (W1.alloc (.cells (madeCells rV (L.m*3)) 33))):=Hx (⟨by rw[Sx.prTo_zero,qk];exact QM.o,BX.o,E0.o⟩);clear QM BX E0;go_wp2;go_loopg [6,7,19] K (fun q _ _ it wr=>∃n:Nat,K-n=q/\n<=K/\it=vI (n:Int)/\Hid (QB wr (w.heap.size+1) (Sx.prTo T n)/\Blk wr w.heap.size 145 #[.s (sA gv) K cv,.bool ni,.s AI li ci,.s AI' li' ci']/\Ext w wr));exact⟨0,rfl,yZ _,rfl,I0⟩;obtain⟨n,rfl,hn,rfl,I⟩:=hrel;clear I0 q0 q2 qA;by_cases qi:n<K
 ·(have nK:(n:Int)<(K:Int):=by omega);have n0:(0:Int)<=(n:Int):=qO;have qf:=aA I.o.2.2 (gT HC.o.2.1 qi);have qI:=HI.o.2 n (qi);have SK:=Hx (fun(h:T.rows.length<=Sx.atN T.fre n)=>Sx.prTo_skip T h);have SP:=Hx (fun(h:Sx.atN T.fre n<T.rows.length)=>Sx.prTo_put T h fun j hj e=>by have:=HI.o.1 j n qO (qi) e;omega);generalize hx:Sx.atN T.fre n=x at*;have x0:decide ((0:Int)<=(x:Int))=true:=yO qO;by_cases qt:x<L.m
  ·have x1:decide ((x:Int)<(L.m:Int))=true:=yO qO
   have xm:(x:Int)<(L.m:Int):=qO;have xp:(0:Int)<=(x:Int):=qO;have b0:wr.cell? (aD w.heap.size 0)=some (.s (sA gv) K cv):=I.o.2.1.cell 0;obtain⟨neg,A,l,c,A',l',c',⟨i0,i1,i2⟩,_,hR⟩:=HC.o.1.cell (aO (show n<T.goal.co.length by rw[HC.o.2.2];exact qi));have i0:=aA I.o.2.2 i0;have i1:=aA I.o.2.2 i1;have i2:=aA I.o.2.2 i2;have hR:=hR.K I.o.2.2;obtain⟨ny,Y1,my,fy,qJ,qM,qC,⟨s0,s1,s2⟩,⟨z0,z1,z2⟩,_⟩:=I.o.1.at_ (aO (show x<(Sx.prTo T n).length by rw[Sx.prTo_len,qk];exact qt));have I2:=Hx (show QB (((wr.setCell (aD (w.heap.size+1) (x*3)) (.bool neg)).setCell (aD (w.heap.size+1) (x*3+1)) (.s A l c)).setCell (aD (w.heap.size+1) (x*3+2)) (.s A' l' c')) (w.heap.size+1) (Sx.prTo T (n+1))/\
     Blk (((wr.setCell (aD (w.heap.size+1) (x*3)) (.bool neg)).setCell (aD (w.heap.size+1) (x*3+1)) (.s A l c)).setCell (aD (w.heap.size+1) (x*3+2)) (.s A' l' c')) w.heap.size 145 #[.s (sA gv) K cv,.bool ni,.s AI li ci,.s AI' li' ci']/\
     Ext w (((wr.setCell (aD (w.heap.size+1) (x*3)) (.bool neg)).setCell (aD (w.heap.size+1) (x*3+1)) (.s A l c)).setCell (aD (w.heap.size+1) (x*3+2)) (.s A' l' c'))from
    ⟨by rw[SP.o (by rw[qk];exact qt)];exact I.o.1.put (by rw[Sx.prTo_len,qk];exact qt) hR,((I.o.2.1.far (p:=(aD (w.heap.size+1) (x*3))) qn _).far (p:=(aD (w.heap.size+1) (x*3+1))) qn _).far (p:=(aD (w.heap.size+1) (x*3+2))) qn _,
     ((I.o.2.2.sT (p:=(aD (w.heap.size+1) (x*3))) qj _).sT (p:=(aD (w.heap.size+1) (x*3+1))) qj _).sT (p:=(aD (w.heap.size+1) (x*3+2))) qj _⟩)
   clear hR I SK SP hx;go_wp2;go_roundg (K-(n+1));exact⟨n+1,rfl,qO,by go_num,I2⟩;omega
  have x1:decide ((x:Int)<(L.m:Int))=false:=yP qO;have I2:Hid (QB wr (w.heap.size+1) (Sx.prTo T (n+1))/\Blk wr w.heap.size 145 #[.s (sA gv) K cv,.bool ni,.s AI li ci,.s AI' li' ci']/\Ext w wr):=Hx (⟨by rw[SK.o qO];exact I.o.1,I.o.2⟩);clear I SK SP hx;go_wp2;go_roundg (K-(n+1));exact⟨n+1,rfl,qO,by go_num,I2⟩;omega
 obtain rfl:n=K:=qO;go_wp2;go_ret;exact⟨w.heap.size+1,rfl,by rw[HE.o];exact I.o.1,qj,I.o.2.2⟩
theorem jzca(B:Nat)(L:aT)(T:Sx.Tb)w(h:aF w B L T)(hgl:T.goal.co.length=T.fre.length)(hm0:0<L.m)(hm:L.m<=1000000)(hK0:0<T.fre.length)(hK:T.fre.length<=1000000000000)
  (hinj:∀j k,j<T.fre.length->k<T.fre.length->Sx.atN T.fre j=Sx.atN T.fre k->j=k) (hbd:∀j,j<T.fre.length->Sx.atN T.fre j<=1000000000000):
  Calls prog 32 #[.pointer (sA L.p)] w fun e w'=>∃gl,e=.returned (.s (sA gl) L.m L.m)/\QB w' gl (Sx.prT T)/\w.heap.size<=gl/\Ext w w':=by
 obtain⟨gv,cv,hV,qj,qi⟩:=h.go.form qO;rw[hgl]at hV;obtain⟨cp,qa,qg,_⟩:=h.goa;obtain⟨ni,AI,li,ci,qf,qh,qe,a0,a1,a2,a3,ra⟩:=qg;rw[hV]at a0;have q3:=(qa.cell 3).trans a0;have q4:=(qa.cell (3+1)).trans a1;have q5:=(qa.cell (3+2)).trans a2;have q6:=(qa.cell (3+3)).trans a3;have PR:=Hx (jzj0 B L T w h hgl hm0 hm hK0 hK hinj hbd gv cv hV ni AI li ci qf qh qe);clear h hgl hV qa a0 a1 a2 a3 ra hinj hbd;go_enter func32,ntmps32;go_wp2_with fail;refine PR.o.mono ?_;rintro e w2 ⟨gl,rfl,h1,h2,h3⟩;have F:=Hx (kQa h1 (kQa h2 h3));clear h1 h2 h3 PR;go_wp2;go_ret;exact⟨gl,rfl,F.o⟩
theorem jzj1(B:Nat)(L:aT)(T:Sx.Tb)w(h:aF w B L T):
  Calls prog 85 #[.pointer (sA L.p)] w (cO w T.goal.re):=by
 obtain⟨cp,qa,qh,_⟩:=h.goa;obtain⟨ni,AI,li,ci,qe,qg,qf,a0,a1,a2,a3,ra⟩:=qh;have q4:=(qa.cell (3+1)).trans a1;have q5:=(qa.cell (3+2)).trans a2;have q6:=(qa.cell (3+3)).trans a3;clear h qa a0 a1 a2 a3;obtain⟨bx,e0⟩:=bA w rV 33;have q4:=aA e0 q4;have q5:=aA e0 q5;have q6:=aA e0 q6;obtain⟨⟨p0,p1,p2⟩,f0,f1,f2⟩:=bx.t3;obtain⟨b2,e2⟩:=bA w #[.bool ni,.s AI li ci,.s qe qg qf] 33;have F:=Hx (kQa (ra.K e2) e2);clear e0 ra;go_enter func85,ntmps85;go_wp2;exact bodyPost_ret (v:=.agg #[.bool ni,.s AI li ci,.s qe qg qf]) (by simp[results,results85,go_sem,b2.cell]) rfl (⟨ni,AI,li,ci,qe,qg,qf,rfl,F.o⟩)
theorem jzj2(B:Nat)(L:aT)(T:Sx.Tb)w(h:aF w B L T)(hm0:0<L.m)(hm:L.m<=1000000)(hc:T.cols<=1000000000000)
  (qe:∀j k,j<L.m->k<L.m->Sx.atN T.bas j=Sx.atN T.bas k->j=k) (qt:∀j,j<L.m->Sx.atN T.bas j<L.m+T.cols) (qy:∀i,i<L.m->0<(T.row i).co.length):
  Calls prog 86 #[.pointer (sA L.p)] w fun e w'=>∃gl,e=.returned (.s (sA gl) T.cols T.cols)/\QB w' gl (Sx.ptT T)/\w.heap.size<=gl/\Ext w w':=by
 obtain⟨g,cr,qo,qU⟩:=h.vr_form hm0;obtain⟨gb,cb,qn,qI⟩:=h.vb_form hm0;obtain⟨cp,qi,qB,p0,p1,p2,p7⟩:=h.goa;rw[qn]at p1;rw[qo]at p0;have qa:=h.bas;rw[qn]at qa;have q0:=(qi.cell 0).trans p0;have q1:=(qi.cell 1).trans p1;have q7:=(qi.cell 7).trans p7;have qA:=h.rl;have HC:=Hx (kQa qa (kQa h qo));have HI:=Hx (kQa qe (kQa qt qy));have HE:=Hx (show Sx.ptT T=Sx.ptTo T L.m by unfold Sx.ptT;rw[qA]);have qC:=mO T.cols hc;have QM:=Hx (QB.made w T.cols);have xb:=(eR w).alloc (.cells (madeCells rV (T.cols*3)) 33);have q1:=aA xb q1;have qp:=q0;have E0:=Hx xb;clear h qi qB p0 p1 p2 p7 qo qn qa qe qt qy xb;go_enter func86,ntmps86;(go_upto_region 2 with fail);have I0:Hid (QB (w.alloc (.cells (madeCells rV (T.cols*3)) 33)) w.heap.size (Sx.ptTo T 0)/\Ext w (w.alloc (.cells (madeCells rV (T.cols*3)) 33))):=Hx (⟨by rw[Sx.ptTo_zero];exact QM.o,E0.o⟩);have Q0:=Hx qp;clear QM E0 q0 qp q7;go_wp2;go_loopg [4,5,16] L.m (fun q _ _ it wr=>∃n:Nat,L.m-n=q/\n<=L.m/\it=vI (n:Int)/\Hid (QB wr w.heap.size (Sx.ptTo T n)/\Ext w wr));exact⟨0,rfl,yZ _,rfl,I0⟩;obtain⟨n,rfl,hn,rfl,I⟩:=hrel;clear I0 q1 qC;by_cases qg:n<L.m
 ·(have nK:(n:Int)<(L.m:Int):=by omega);have n0:(0:Int)<=(n:Int):=qO;have qf:=aA I.o.2 (gT HC.o.1 qg);have q0:=aA I.o.2 Q0.o;have qJ:=HI.o.2.1 n qg;have SK:=Hx (fun(h:Sx.atN T.bas n<T.rows.length)=>Sx.ptTo_skip T h);have SP:=Hx (fun(h:T.rows.length<=Sx.atN T.bas n)=>Sx.ptTo_put T h fun j hj e=>by have:=HI.o.1 j n qO qg e;omega);generalize hx:Sx.atN T.bas n=x at*;by_cases qT:x<L.m;{have x1:decide ((L.m:Int)<=(x:Int))=false:=yP qO;have I2:Hid (QB wr w.heap.size (Sx.ptTo T (n+1))/\Ext w wr):=Hx (⟨by rw[SK.o qO];exact I.o.1,I.o.2⟩);clear I SK SP hx;go_wp2;go_roundg (L.m-(n+1));exact⟨n+1,rfl,qO,by go_num,I2⟩;omega}
  obtain⟨y,rfl⟩:∃y,x=L.m+y:=⟨x-L.m,qO⟩;have x1:decide ((L.m:Int)<=((L.m+y:Nat):Int))=true:=yO qO;have qx:y<T.cols:=qO;have yN:(y:Int)<(T.cols:Int):=qO;have y0:(0:Int)<=(y:Int):=qO;have qz:IntKind.i64.wrap ((L.m:Int)+(y:Int)-(L.m:Int))=(y:Int):=(by rw[show(L.m:Int)+(y:Int)-(L.m:Int)=(y:Int) by omega,IntKind.wrap_i64];omega);obtain⟨ca,hb,nr,R1,m1,d1,qk,qj,qh,r0,r1,r2,r3,rr⟩:=HC.o.2.1.rwa qg HC.o.2.2;have k1:=aA I.o.2 ((hb.cell _).trans r1);have k2:=aA I.o.2 ((hb.cell _).trans r2);have k3:=aA I.o.2 ((hb.cell _).trans r3);obtain⟨ny,Y1,my,fy,qM,qQ,qH,⟨s0,s1,s2⟩,⟨z0,z1,z2⟩,_⟩:=I.o.1.at_ (aO (show y<(Sx.ptTo T n).length by rw[Sx.ptTo_len];exact qx));have qm:w.heap.size<=w.heap.size:=yX _;have RR:=Hx (rr.K I.o.2);have qw:=Hx (show∀wx,Ext wr wx->QB (((wx.setCell (aD w.heap.size (y*3)) (.bool nr)).setCell (aD w.heap.size (y*3+1)) (.s R1 m1 d1)).setCell (aD w.heap.size (y*3+2)) (.s qk qj qh)) w.heap.size (Sx.ptTo T (n+1))/\
    Ext w (((wx.setCell (aD w.heap.size (y*3)) (.bool nr)).setCell (aD w.heap.size (y*3+1)) (.s R1 m1 d1)).setCell (aD w.heap.size (y*3+2)) (.s qk qj qh))from fun wx hx2=>by
   have h1:=(I.o.1.K hx2).put (m:=y) (by rw[Sx.ptTo_len];exact qx) (RR.o.K hx2);have h2:=SP.o qO;rw[show L.m+y-T.rows.length=y by omega]at h2;rw[h2];exact⟨h1,(((I.o.2.tr hx2).sT (p:=(aD w.heap.size (y*3))) qm _).sT (p:=(aD w.heap.size (y*3+1))) qm _).sT (p:=(aD w.heap.size (y*3+2))) qm _⟩)
  (clear rr hb r0 r1 r2 r3 hx;have XD:Hid (Ext wr wr.drew):=Hx ((eR wr).drewN 1);have HSW:Hid (wr.drew.cell? (aD L.p 0)=some (.s (sA g) L.m cr)/\wr.drew.cell? (aD g (n*4+1))=some (.bool nr)/\wr.drew.cell? (aD g (n*4+2))=some (.s R1 m1 d1)/\wr.drew.cell? (aD g (n*4+3))=some (.s qk qj qh)):=Hx (⟨q0,k1,k2,k3⟩);go_wp2;refine wp_region_last (fun w'=>w'.cell? (aD L.p 0)=some (.s (sA g) L.m cr)/\w'.cell? (aD g (n*4+1))=some (.bool nr)/\w'.cell? (aD g (n*4+2))=some (.s R1 m1 d1)/\w'.cell? (aD g (n*4+3))=some (.s qk qj qh)) 17 qK ?_;refine wP 0 rfl HSW.o ?_;try simp only[qN]);refine wP 1 rfl HSW.o ?_;refine wP 2 rfl HSW.o ?_;refine wP 3 rfl HSW.o ?_;refine wP 4 rfl HSW.o ?_;refine wV 5 rfl HSW.o ?_;refine wP 6 rfl HSW.o ?_;refine wP 7 rfl HSW.o ?_;refine wP 8 rfl HSW.o ?_;refine wP 9 rfl HSW.o ?_;refine wP 10 rfl HSW.o ?_;refine wV 11 rfl HSW.o ?_;refine wP 12 rfl HSW.o ?_;refine wP 13 rfl HSW.o ?_;refine wP 14 rfl HSW.o ?_;refine wV 15 rfl HSW.o ?_;(refine wP 16 rfl HSW.o ?_;try simp only[qN]);refine aY qK rfl qR (fun KK hK=>?_);go_simp;refine hK.o _ _ ?_;clear hK KK;refine wpAny_done qK ?_ _;have I2:=Hx (qw.o _ XD.o);clear qw HSW XD SK SP I;go_wp2;go_roundg (L.m-(n+1));exact⟨n+1,rfl,qO,by go_num,I2⟩;omega
 obtain rfl:n=L.m:=qO;go_wp2;go_ret;exact⟨w.heap.size,rfl,by rw[HE.o];exact I.o.1,yX _,I.o.2⟩
end Go.Proofs.YtfeeacaofjpkaaaGreatDoor
