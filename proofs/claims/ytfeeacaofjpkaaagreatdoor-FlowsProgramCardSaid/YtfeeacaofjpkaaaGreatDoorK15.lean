/- Walks, part 15. -/
import Derived.Test.YtfeeacaofjpkaaaGreatDoorK14
set_option linter.unusedVariables false
set_option linter.unusedSimpArgs false
set_option maxRecDepth 100000
set_option maxHeartbeats 8000000
namespace Go.Proofs.YtfeeacaofjpkaaaGreatDoor
open Go.Proofs.Tryz
open Go.RowKit
theorem rN(T:Sx.Tb)(vals:LQ)(n:Nat):Sx.slk T vals (n+1)=if Sx.atN T.fre n<vals.length/\Sx.at_ vals (Sx.atN T.fre n)≠0 then Sx.slk T vals n++[n]else Sx.slk T vals n:=rfl
theorem lS(T:Sx.Tb)(vals:LQ):∀(n:Nat),∀j∈Sx.slk T vals n,j<n/\Sx.atN T.fre j<vals.length
 |0,_,h=>by cases h
 |n+1,j,h=>by
  rw[rN]at h;by_cases hc:Sx.atN T.fre n<vals.length/\Sx.at_ vals (Sx.atN T.fre n)≠0
  ·rw[qE hc]at h
   rcases xY.1 h with h|h
   ·have:=lS T vals n j h
    exact⟨qO,this.2⟩
   ·rw[xD.1 h]
    exact⟨qO,hc.1⟩
  ·rw[qF hc]at h
   have:=lS T vals n j h;exact⟨qO,this.2⟩
theorem jzdm(T:Sx.Tb)(vals:LQ):∀(n:Nat),(Sx.slk T vals n).length<=n
 |0=>yX _
 |n+1=>by
  rw[rN];have:=jzdm T vals n
  split
  ·rw[yQ];simp;omega
  ·omega
structure eT(w wx:World)(B:Nat)(L:aT)(Tc:Sx.Tb)(gt gl:Nat)(nc:Bool)(AC:OA)(lc cc:Nat)(AC':OA)(lc' cc':Nat)(vs:LQ):Prop where
 tab:aF wx B L Tc
 fr:FrS L.S w wx
 bt:Blk wx gt 80 #[.pointer (sA L.p)]
 bc:Blk wx (gt+1) 33 #[.bool nc,.s AC lc cc,.s AC' lc' cc']
 bv:Blk wx (gl+1) 35 #[.s (sA gl) L.m L.m]
 qb:QB wx gl vs
section
variable {w wx wy:World} {B:Nat} {L:aT} {Tc:Sx.Tb} {gt gl:Nat} {nc:Bool} {AC:Option Addr} {lc cc:Nat} {AC':Option Addr} {lc' cc':Nat} {vs:List Rat}
theorem eT.K(h:eT w wx B L Tc gt gl nc AC lc cc AC' lc' cc' vs)(hx:Ext wx wy):eT w wy B L Tc gt gl nc AC lc cc AC' lc' cc' vs:=
 ⟨h.tab.K hx,h.fr.tr (eE (S:=L.S) hx) fun b hb=>.inl hb,h.bt.K hx,h.bc.K hx,h.bv.K hx,h.qb.K hx⟩
theorem eT.put(h:eT w wx B L Tc gt gl nc AC lc cc AC' lc' cc' vs)(h1:w.heap.size<=gl)(h2:gt+1<gl)(h0:¬L.S gl){x:Nat}(hx:x<vs.length){neg:Bool}{A}{n c:Nat}{A'}{n' c':Nat}{q:Rat}(hq:aB wx neg A n c A' n' c' q):
  eT w (((wx.setCell (aD gl (x*3)) (.bool neg)).setCell (aD gl (x*3+1)) (.s A n c)).setCell (aD gl (x*3+2)) (.s A' n' c')) B L Tc gt gl nc AC lc cc AC' lc' cc' (vs.set x q):=by
 have k:FrS (fun b=>b=gl) wx (((wx.setCell (aD gl (x*3)) (.bool neg)).setCell (aD gl (x*3+1)) (.s A n c)).setCell (aD gl (x*3+2)) (.s A' n' c')):=eG (dU wx gl (x*3) _ _ _) fun g e=>(by injection e with e;exact e.symm);obtain⟨cs,hb⟩:=h.qb.blk;have qa:NoT (fun b=>b=gl) wx 196:=NoT.one hb qD;exact⟨h.tab.far k qa fun b hb hs=>h0 (hb▸hs),(h.fr.tr k fun b hb=>.inr (by rw[hb];exact h1)),k.blk h.bt qO,k.blk h.bc qO,k.blk h.bv qO,h.qb.put hx hq⟩
theorem eT.far{S:Nat->Prop}(h:eT w wx B L Tc gt gl nc AC lc cc AC' lc' cc' vs)(k:FrS S wx wy)(n32:NoT S wx 196)(hs:∀b,S b->w.heap.size<=b/\¬L.S b/\b≠gt/\b≠gt+1/\b≠gl/\b≠gl+1):eT w wy B L Tc gt gl nc AC lc cc AC' lc' cc' vs:=
 ⟨h.tab.far k n32 fun b hb=>(hs b hb).2.1,h.fr.tr k fun b hb=>.inr (hs b hb).1,k.blk h.bt fun hb=>(hs _ hb).2.2.1 rfl,k.blk h.bc fun hb=>(hs _ hb).2.2.2.1 rfl,k.blk h.bv fun hb=>(hs _ hb).2.2.2.2.2 rfl,h.qb.fr k n32 fun hb=>(hs _ hb).2.2.2.2.1 rfl⟩
end
structure gZ(wx:World)(B0:Nat)(L:aT)(gt gl gs:Nat)(vs:LQ)(vS:Value)(js:LN):Prop where
 bt:Blk wx gt 80 #[.pointer (sA L.p)]
 bv:Blk wx (gl+1) 35 #[.s (sA gl) L.m L.m]
 qb:QB wx gl vs
 sb:Blk wx gs 42 #[vS]
 sr:wx.ownsRow B0 3 1 vS js.length (ints js)
theorem gZ.fr{S:Nat->Prop}{wx wy}{B0:Nat}{L:aT}{gt gl gs:Nat}{vs:LQ}{vS:Value}{js:LN}(h:gZ wx B0 L gt gl gs vs vS js)(k:FrS S wx wy)(n32:NoT S wx 196)(hs:∀b,S b->b≠gt/\b≠gl/\b≠gl+1/\b≠gs/\vS.ownBlock≠some b):gZ wy B0 L gt gl gs vs vS js:=
 ⟨k.blk h.bt fun hb=>(hs _ hb).1 rfl,k.blk h.bv fun hb=>(hs _ hb).2.2.1 rfl,h.qb.fr k n32 fun hb=>(hs _ hb).2.1 rfl,k.blk h.sb fun hb=>(hs _ hb).2.2.2.1 rfl,k.own h.sr fun b hb hS=>(hs _ hS).2.2.2.2 hb⟩
structure iA(W6 wx:World)(B:Nat)(L Ln:aT)(T':Sx.Tb):Prop where
 tab:aF wx B Ln T'
 loc:Ln.p=L.p/\Ln.vr=L.vr/\Ln.vb=L.vb/\Ln.vf=L.vf/\Ln.m=L.m
 far:∀b,Ln.S b->L.S b\/W6.heap.size<=b
 fr:FrS L.S W6 wx
theorem iA.K{W6 wx wy}{B:Nat}{L Ln:aT}{T':Sx.Tb}(h:iA W6 wx B L Ln T')(hx:Ext wx wy):iA W6 wy B L Ln T':=⟨h.tab.K hx,h.loc,h.far,h.fr.tr (eE (S:=L.S) hx) fun b hb=>.inl hb⟩
theorem jzdn{W6 wx:World}{L Ln:aT}{k g' n c':Nat}(far:∀b,Ln.S b->L.S b\/W6.heap.size<=b)(hk:k<=Ln.m)(hw:W6.heap.size<=wx.heap.size)(hg:some g'=(Ln.V k).ownBlock\/wx.heap.size<=g'):∀b,(Ln.setV k (.s (sA g') n c')).S b->L.S b\/W6.heap.size<=b:=by
 (intro b hb;rcases hb with rfl|hb|hb|hb|⟨i,hi,hb⟩);{exact far _ (.inl rfl)};{exact far _ (.inr (.inl hb))};{exact far _ (.inr (.inr (.inl hb)))};{exact far _ (.inr (.inr (.inr (.inl hb))))};by_cases e:i=k;{subst e;(rw[Ln.setV_same]at hb;injection hb with hb);(have hb:g'=b:=hb;subst hb;rcases hg with h1|h1);{exact far _ (.inr (.inr (.inr (.inr ⟨i,hk,h1.symm⟩))))};exact .inr (yY hw h1)};rw[Ln.setV_ne _ e]at hb;exact far _ (.inr (.inr (.inr (.inr ⟨i,hi,hb⟩))))
theorem jzdo{w:World}{B n c:Nat}{e:TypeId}{A}{xs:List Value}(h:w.ownsRow B e 1 (.s A n c) n xs):RdT w e A xs:=by
 obtain⟨A',c',e1,_,h2⟩:=jzi4 h;injection e1 with e1;rw[e1];exact h2
section
variable {W6 wx:World} {B B0 P gt gl gs:Nat} {L Ln:aT} {T T':Sx.Tb} {vals:List Rat} {vS:Value} {js:List Nat}
theorem jzdp(h:aF wx B Ln T')(hf:T'.fre=T.fre)(hp:Ln.p=L.p)(hjs:∀j∈js,j<T.fre.length):∀j∈js,∃gf K cf,wx.cell? (aD L.p 2)=some (.s (sA gf) K cf)/\j<K/\wx.cell? (aD gf j)=some (vI (Sx.atN T.fre j:Nat)):=fun j hj=>by
 have qf:=hjs j hj;obtain⟨gf,cf,qe,_⟩:=h.vf_form (by rw[hf];omega);obtain⟨cp,qg,_,p0,p1,p2,p7⟩:=h.goa;have qa:=h.fre;rw[qe,hf]at qa;rw[qe,hf]at p2;exact⟨gf,T.fre.length,cf,by rw[<-hp];exact(qg.cell 2).trans p2,qf,gT qa qf⟩
theorem jzdq(h:iA W6 wx B L Ln T'){k g:Nat}{t:TypeId}{cs:Array Value}(hk:k<=Ln.m)(hb:Blk wx g t cs)(ht:t≠196)(hg:L.S g)(hfar:∀b,L.S b->b≠gt/\b≠gl/\b≠gl+1/\b≠gs/\vS.ownBlock≠some b)(hlt:∀b,W6.heap.size<=b->b≠gt/\b≠gl/\b≠gl+1/\b≠gs/\vS.ownBlock≠some b):
  NoT (fun x=>x=g\/(Ln.V k).ownBlock=some x) wx 196/\(∀b,(b=g\/(Ln.V k).ownBlock=some b)->L.S b\/W6.heap.size<=b)/\∀b,(b=g\/(Ln.V k).ownBlock=some b)->b≠gt/\b≠gl/\b≠gl+1/\b≠gs/\vS.ownBlock≠some b:=by
 have h2:∀b,(b=g\/(Ln.V k).ownBlock=some b)->L.S b\/W6.heap.size<=b:=fun b hb=>(by (rcases hb with rfl|hb);{exact .inl hg};exact h.far b (.inr (.inr (.inr (.inr ⟨k,hk,hb⟩)))));refine⟨fun b hbb c fr e=>?_,h2,fun b hbb=>?_⟩;{(rcases hbb with rfl|hbb);{exact NoT.one hb ht b rfl c fr e};obtain⟨qs,h3⟩:=h.tab.oq hk;obtain⟨xs,h4⟩:=h3.own;exact bK h4 hbb qD c fr e};(rcases h2 b hbb with h3|h3);{exact hfar b h3};exact hlt b h3
theorem jzlr(n g cr:Nat)(h:iA W6 wx B L Ln (dM T vals n))(hb:gZ wx B0 L gt gl gs vals vS js)(hjs:js=Sx.slk T vals T.fre.length)(hrl:T.rows.length=L.m)(hB:B<=wx.heap.size)
  (hfar:∀b,L.S b->b≠gt/\b≠gl/\b≠gl+1/\b≠gs/\vS.ownBlock≠some b) (hlt:∀b,W6.heap.size<=b->b≠gt/\b≠gl/\b≠gl+1/\b≠gs/\vS.ownBlock≠some b)
  (hn:n<L.m) (hvr:L.vr=.s (sA g) L.m cr) (hok:OkT T) (hsz:SzT T P) (hP1:1<=P) (hP:P<=10000) (hm:L.m<=1000) (hK:T.fre.length<=100000000000) (hvl:vals.length=L.m) (hvz:∀q∈vals,SzQ q P) (hjl:js.length<=1000):
  Calls prog 136 #[.pointer (some (aD g (n*4))),vI (Sx.atN T.bas n:Nat),.pointer (sA (gl+1)),.pointer (sA gs),.pointer (sA gt)] wx
   fun e w'=>e=.returned (.tuple #[])/\∃L2,iA W6 w' B L L2 (dM T vals (n+1))/\gZ w' B0 L gt gl gs vals vS js:=by
 obtain⟨e1,e2,e3,e4,e5⟩:=h.loc;have qh:n<T.rows.length:=qO;have qg:(dM T vals n).row n=T.row n:=(by rw[jzj4 _ _ _ qh,qF qO]);have qf:Ln.vr=.s (sA g) Ln.m cr:=(by rw[e2,e5];exact hvr);have qe:n<Ln.m:=qO;obtain⟨cb,qj,nr,R1,m1,d1,qy,qw,qt,r0,r1,r2,r3,qx⟩:=h.tab.rwa qe qf;have hX:=h.tab.co n qe;rw[qg]at hX;obtain⟨SA,qo,qn,qz⟩:=oG hb.sr;have qm:=hb.sb;have qk:=hb.sr;rw[qn]at qm qk;have qi:∀j∈js,j<T.fre.length/\Sx.atN T.fre j<L.m:=fun j hj=>(by rw[hjs]at hj;have:=lS T vals _ j hj;rw[hvl]at this;exact this);have qp:=hok.cl n qh;have qa:(∃i:Nat,((Sx.atN T.bas n:Nat):Int)=(i:Int)/\i<L.m/\(if Sx.atN T.bas n<vals.length then Sx.at_ vals (Sx.atN T.bas n)else 0)=Sx.at_ vals i)\/(¬(0<=((Sx.atN T.bas n:Nat):Int)/\((Sx.atN T.bas n:Nat):Int)<(L.m:Int))/\(if Sx.atN T.bas n<vals.length then Sx.at_ vals (Sx.atN T.bas n)else 0)=0):=(by by_cases e:Sx.atN T.bas n<vals.length;{exact .inl ⟨_,rfl,qO,qE e⟩};exact .inr ⟨qO,qF e⟩)
 refine(jzb6 T wx B g (n*4) L.p (gl+1) gl gs gt P L.m qo SA 145 cb (Ln.V n) (T.row n).co vals js _ _ hB qj r0 hX qD qD hb.bv hb.qb hvl qm (jzdo qk).rd hb.bt
  (jzdp h.tab rfl e1 fun j hj=>(qi j hj).1) (fun j hj=>⟨by rw[qp];exact(qi j hj).1,(qi j hj).2⟩) qa qO (hsz.co n qh) hvz hP hP1 hjl qO).mono ?_
 rintro e w' ⟨g',c',rfl,o9,b9,f9,n9⟩;have ht:=h.tab.row_push qe qf qj b9 o9 f9 n9;have hS:L.S g:=.inr (.inl (by rw[hvr];rfl));obtain⟨k1,k2,k3⟩:=jzdq (gt:=gt) (gl:=gl) (gs:=gs) (vS:=vS) h (kQe qe) qj qD hS hfar hlt;refine⟨rfl,Ln.setV n (.s (sA g') ((T.row n).co.length+1) c'),⟨?_,⟨e1,e2,e3,e4,e5⟩,jzdn h.far (kQe qe) h.fr.size n9,h.fr.tr f9 k2⟩,hb.fr f9 k1 k3⟩;rw[qg]at ht;rw[jzj7 T vals qh];unfold Sx.addR;rw[<-hjs];exact ht
theorem jzls(h:iA W6 wx B L Ln (dM T vals L.m))(hb:gZ wx B0 L gt gl gs vals vS js)(hjs:js=Sx.slk T vals T.fre.length)(hrl:T.rows.length=L.m)(hB:B<=wx.heap.size)
  (hfar:∀b,L.S b->b≠gt/\b≠gl/\b≠gl+1/\b≠gs/\vS.ownBlock≠some b) (hlt:∀b,W6.heap.size<=b->b≠gt/\b≠gl/\b≠gl+1/\b≠gs/\vS.ownBlock≠some b)
  (hok:OkT T) (hsz:SzT T P) (hP1:1<=P) (hP:P<=10000) (hm:L.m<=1000) (hK:T.fre.length<=100000000000) (hvl:vals.length=L.m) (hvz:∀q∈vals,SzQ q P) (hjl:js.length<=1000):
  Calls prog 136 #[.pointer (some (aD L.p 3)),vI (-1),.pointer (sA (gl+1)),.pointer (sA gs),.pointer (sA gt)] wx
   fun e w'=>e=.returned (.tuple #[])/\∃(L2:aT) (g' c':Nat),L2.V L.m=.s (sA g') (T.fre.length+1) c'/\iA W6 w' B L L2 (fP (dM T vals L.m) ⟨T.goal.co++[Sx.addC T vals T.goal.co 0 js],T.goal.re⟩)/\gZ w' B0 L gt gl gs vals vS js:=by
 obtain⟨e1,e2,e3,e4,e5⟩:=h.loc;obtain⟨cb,qi,⟨nr,R1,m1,d1,qt,qo,qn,r0,r1,r2,r3,qp⟩,p0,p1,p2,p7⟩:=h.tab.goa;have hX:OQ QR 33 wx B (Ln.V Ln.m) T.goal.co:=h.tab.go;obtain⟨SA,qm,qk,qw⟩:=oG hb.sr;have qh:=hb.sb;have qg:=hb.sr;rw[qk]at qh qg;have qe:∀j∈js,j<T.fre.length/\Sx.atN T.fre j<L.m:=fun j hj=>by
  rw[hjs]at hj;have:=lS T vals _ j hj;rw[hvl]at this;exact this
 have qj:=hok.gl;have qa:=qi;rw[e1]at qa;refine(jzb6 T wx B L.p 3 L.p (gl+1) gl gs gt P L.m qm SA 147 cb (Ln.V Ln.m) T.goal.co vals js (-1) 0 hB qa r0 hX qD qD hb.bv hb.qb hvl qh (jzdo qg).rd hb.bt
  (jzdp h.tab rfl e1 fun j hj=>(qe j hj).1) (fun j hj=>⟨by rw[qj];exact(qe j hj).1,(qe j hj).2⟩) (.inr ⟨qO,rfl⟩) qO hsz.go hvz hP hP1 hjl qO).mono ?_
 rintro e w' ⟨g',c',rfl,o9,b9,f9,n9⟩;obtain⟨k1,k2,k3⟩:=jzdq (gt:=gt) (gl:=gl) (gs:=gs) (vS:=vS) h (yX _) qa qD (.inl rfl) hfar hlt;rw[<-e1]at b9;have qf:=f9;rw[<-e1]at qf;have ht:=h.tab.goal_push qi b9 o9 qf n9;refine⟨rfl,Ln.setV Ln.m (.s (sA g') (T.goal.co.length+1) c'),g',c',?_,⟨ht,⟨e1,e2,e3,e4,e5⟩,jzdn h.far (yX _) h.fr.size n9,h.fr.tr f9 k2⟩,hb.fr f9 k1 k3⟩;rw[<-e5,Ln.setV_same,qj]
end
theorem aF.go_set{w}{B:Nat}{L:aT}{T:Sx.Tb}(h:aF w B L T){gv K cv n:Nat}{q:Rat}{neg:Bool}{A}{n1 c1:Nat}{A'}{n1' c1':Nat}(hV:L.V L.m=.s (sA gv) K cv)(hK:T.goal.co.length=K)(hn:n<K)(hq:aB w neg A n1 c1 A' n1' c1' q):
  aF (((w.setCell (aD gv (n*3)) (.bool neg)).setCell (aD gv (n*3+1)) (.s A n1 c1)).setCell (aD gv (n*3+2)) (.s A' n1' c1')) B L (fP T ⟨T.goal.co.set n q,T.goal.re⟩)/\
  FrS L.S w (((w.setCell (aD gv (n*3)) (.bool neg)).setCell (aD gv (n*3+1)) (.s A n1 c1)).setCell (aD gv (n*3+2)) (.s A' n1' c1')):=by
 obtain⟨cs,hb,hr,_⟩:=h.goa;have qj:=dU w gv (n*3) (.bool neg) (.s A n1 c1) (.s A' n1' c1');obtain⟨xs,ho⟩:=h.go.own;obtain⟨cr,qa⟩:=aW ho (show(L.V L.m).ownBlock=some gv by rw[hV];rfl);have qh:L.p≠gv:=fun e=>(by rw[<-e]at qa;have:=(aZ hb qa).2;exact absurd this qD);have hF:FrS (fun b=>b=gv) w (((w.setCell (aD gv (n*3)) (.bool neg)).setCell (aD gv (n*3+1)) (.s A n1 c1)).setCell (aD gv (n*3+2)) (.s A' n1' c1')):=eG qj fun b e=>(by injection e with e;exact e.symm);have qi:NoT (fun b=>b=gv) w 196:=NoT.one qa qD;obtain⟨rn,RA,qk,qm,qg,qf,qe,r0,r1,r2,r3,rr⟩:=hr;refine⟨h.goal_upd hV hb (hF.blk hb qh) (lP.refl _ _) ⟨rn,RA,qk,qm,qg,qf,qe,r0,r1,r2,r3,hF.ratR qi rr⟩ ?_ (hF.mono fun b hb=>.inr hb),hF.mono fun b hb=>.inr (.inr (.inr (.inr ⟨L.m,yX _,by rw[hV,hb];rfl⟩)))⟩;rw[hV];have:=h.go;rw[hV]at this;exact this.put hK (by rw[hK];exact hn) hq
theorem jzlt{T:Sx.Tb}{vals:LQ}{m:Nat}(hrl:T.rows.length=m)(cost:Rat):wH (fP (dM T vals m) ⟨T.goal.co++[Sx.addC T vals T.goal.co 0 (Sx.slk T vals T.fre.length)-cost],T.goal.re⟩) (T.fre++[m+T.cols])=Sx.addT T cost vals:=by
 subst hrl;unfold wH fP Sx.addT;rw[jzj8];rfl
theorem jzlu{W6 wx:World}{L Ln:aT}{g' n c':Nat}(far:∀b,Ln.S b->L.S b\/W6.heap.size<=b)(hw:W6.heap.size<=wx.heap.size)(hg:some g'=Ln.vf.ownBlock\/wx.heap.size<=g'):∀b,(Ln.setF (.s (sA g') n c')).S b->L.S b\/W6.heap.size<=b:=by
 (intro b hb;rcases hb with rfl|hb|hb|hb|⟨i,hi,hb⟩);{exact far _ (.inl rfl)};{exact far _ (.inr (.inl hb))};{exact far _ (.inr (.inr (.inl hb)))};{(injection hb with hb);(have hb:g'=b:=hb;subst hb;rcases hg with h1|h1);{exact far _ (.inr (.inr (.inr (.inl h1.symm))))};exact .inr (yY hw h1)};exact far _ (.inr (.inr (.inr (.inr ⟨i,hi,hb⟩))))
theorem jzlv(x:Int):mkQ (decide (x<0)) x.natAbs 1=(x:Rat):=by
 unfold mkQ;have e:(if decide (x<0)=true then-((x.natAbs:Nat):Int)else((x.natAbs:Nat):Int))=x:=(by by_cases h:x<0;{rw[qE (yO h)];omega};rw[qF (by simpa using h)];omega);rw[e,Rat.mkRat_one]
theorem dP(x:Int)w(h:i64 x):Calls prog 15 #[vI x] w (cO w (x:Rat)):=by
 have:=pF x w h.1 h.2;rw[jzlv]at this;exact this
def OwL{α:Type}(R:World->List Value->α->Prop)(e:TypeId)(s:Nat)(w:World)(B:Nat)(v:Value)(l:List α):Prop:=
 ∃css:List (List Value),css.length=l.length/\(∀cs∈css,cs.length=s)/\w.ownsRow B e s v l.length css.flatten/\∀(i:Nat) (x:α),l[i]?=some x->∃cs,css[i]?=some cs/\R w cs x
section
variable {α:Type} {R R':World->List Value->α->Prop} {e:TypeId} {s:Nat} {w w':World} {B:Nat} {v:Value} {l:List α}
theorem OwL.nil(R:World->List Value->α->Prop)(e:TypeId)(s:Nat)w(B:Nat):OwL R e s w B zN []:=
 ⟨[],rfl,(fun _ h=>by cases h),World.ownsRow_nil _ _ _ _,fun i x h=>by simp at h⟩
theorem OwL.own(h:OwL R e s w B v l):∃xs,w.ownsRow B e s v l.length xs:=by
 obtain⟨css,_,_,h3,_⟩:=h;exact⟨_,h3⟩
theorem OwL.form(h:OwL R e s w B v l):∃A c,v=.s A l.length c/\l.length<=c:=by
 obtain⟨xs,h⟩:=h.own;exact oG h
theorem OwL.fr{S:Nat->Prop}(h:OwL R e s w B v l)(k:FrS S w w')(hv:∀g,v.ownBlock=some g->¬S g)(hR:∀cs x,x∈l->R w cs x->R' w' cs x):OwL R' e s w' B v l:=by
 obtain⟨css,h1,h2,h3,h4⟩:=h;refine⟨css,h1,h2,k.own h3 hv,fun i x hx=>?_⟩;obtain⟨cs,k1,k2⟩:=h4 i x hx;exact⟨cs,k1,hR cs x (yJ hx) k2⟩
theorem OwL.K(h:OwL R e s w B v l)(hx:Ext w w')(hR:∀cs x,R w cs x->R w' cs x):OwL R e s w' B v l:=h.fr (S:=fun _=>False) (eE hx) (fun _ _ h=>h) fun cs x _=>hR cs x
theorem OwL.at_(h:OwL R e s w B v l){i:Nat}{x:α}(hi:l[i]?=some x):∃(g cap:Nat) (cs:List Value),v=.s (sA g) l.length cap/\g<w.heap.size/\cs.length=s/\(∀k,k<s->w.cell? (aD g (i*s+k))=cs[k]?)/\R w cs x:=by
 have qe:=(yH.1 hi).1;obtain⟨css,h1,h2,h3,h4⟩:=h;obtain⟨g,cap,qg,rfl,_,hb,_,_,_,qa⟩:=iR h3 qO;obtain⟨cs,k1,k2⟩:=h4 i x hi;refine⟨g,cap,cs,rfl,hb.lt,h2 cs (yJ k1),fun k hk=>?_,k2⟩;have h5:=eL css h2 i k qO hk;rw[k1,kQ1]at h5;have qf:i*s+k<l.length*s:=(by have:(i+1)*s<=l.length*s:=xS s qe;rw[xP,xQ]at this;omega);rw[hb.cell, <-h5, <-qa,xG,qE qf];simp
theorem OwL.pushed{x:α}{v':Value}{css:List (List Value)}{us:List Value}(h1:css.length=l.length)(h2:∀cs∈css,cs.length=s)(h4:∀(i:Nat) (y:α),l[i]?=some y->∃cs,css[i]?=some cs/\R w cs y)(hus:us.length=s)(hR:∀cs y,y∈l->R w cs y->R w' cs y)(hx:R w' us x)(own':w'.ownsRow B e s v' (l.length+1) (css.flatten++us)):OwL R e s w' B v' (l++[x]):=by
 refine⟨css++[us],by simp[h1],fun cs hc=>?_,by rw[List.flatten_append,yQ];simpa using own',fun i y hi=>?_⟩;{(rcases xY.1 hc with hc|hc);{exact h2 cs hc};rw[xD.1 hc];exact hus};by_cases e:i<l.length;{rw[yR e]at hi;obtain⟨cs,k1,k2⟩:=h4 i y hi;exact⟨cs,by rw[yR qO];exact k1,hR cs y (yJ hi) k2⟩};(have hl:=(yH.1 hi).1;rw[yQ]at hl;have hl:i<l.length+1:=hl;have e2:i=l.length:=qO;subst e2;rw[yS qO,Nat.sub_self]at hi;injection hi with hi);subst hi;exact⟨us,by rw[yS qO,h1,Nat.sub_self];rfl,hx⟩
theorem mT{n c:Nat}{A}{xs:List Value}(h:w.ownsRow B e s (.s A n c) n xs):RdT w e A xs:=by
 (obtain⟨h1,h2⟩:=h;rcases h2 with⟨h3,h4⟩|⟨g,cap,cur,h3,_,h5,h6,_,_,h9⟩);{subst h4;rw[Nat.zero_mul]at h1;obtain rfl:xs=[]:=kQz h1;exact RdT.nil _ _ _};(injection h3 with e1 _ _);subst e1;refine fun _=>⟨g,0,cur,(0,0),rfl,h5,fun i hi=>?_⟩;rw[kQu, <-h9,xG,qE qO];simp
end
def TmC(w:World)(cs:List Value)(t:Nat×Rat):Prop:=∃(neg:Bool) (A:OA) (n c:Nat) (A':OA) (n' c':Nat),cs=[vI (t.1:Int),.bool neg,.s A n c,.s A' n' c']/\aB w neg A n c A' n' c' t.2
theorem TmC.K{w w'}{cs:List Value}{t:Nat×Rat}(h:TmC w cs t)(hx:Ext w w'):TmC w' cs t:=by
 obtain⟨neg,A,n,c,A',n',c',h1,h2⟩:=h;exact⟨neg,A,n,c,A',n',c',h1,h2.K hx⟩
theorem TmC.fr{S:Nat->Prop}{w w'}{cs:List Value}{t:Nat×Rat}(h:TmC w cs t)(k:FrS S w w')(n:NoT S w 196):TmC w' cs t:=by
 obtain⟨neg,A,n1,c,A',n',c',h1,h2⟩:=h;exact⟨neg,A,n1,c,A',n',c',h1,k.ratR n h2⟩
abbrev TmO(w:World)(B:Nat)(v:Value)(ts:List (Nat×Rat)):Prop:=OwL TmC 128 4 w B v ts
theorem TmO.rd{w}{B c:Nat}{A}{ts:List (Nat×Rat)}(h:TmO w B (.s A ts.length c) ts):TmR w A ts:=by
 obtain⟨css,h1,h2,h3,h4⟩:=h;exact⟨css,h1,h2,mT h3,h4⟩
def PaC(S:Nat->Prop)(w:World)(cs:List Value)(p:Nat×LN):Prop:=∃(A:OA) (c:Nat),cs=[vI (p.1:Int),.s A p.2.length c,bF,zN,zN]/\p.2.length<=c/\RdT w 3 A (ints p.2)/\(p.2≠ []->∀ad,A=some ad->¬S ad.block)
theorem jzlw{S:Nat->Prop}{w w'}{t:TypeId}{A}{xs:List Value}(h:RdT w t A xs)(k:FrS S w w')(hA:xs≠ []->∀ad,A=some ad->¬S ad.block):RdT w' t A xs:=fun hx=>by
 obtain⟨b,o,cs,fr,e1,e2,e3⟩:=h hx;exact⟨b,o,cs,fr,e1,(k.block b (iF e2) (hA hx _ e1)).trans e2,e3⟩
theorem PaC.K{S:Nat->Prop}{w w'}{cs:List Value}{p:Nat×LN}(h:PaC S w cs p)(hx:Ext w w'):PaC S w' cs p:=by
 obtain⟨A,c,h1,h2,h3,h4⟩:=h;exact⟨A,c,h1,h2,h3.K hx,h4⟩
theorem jzdr:(prog.info? 98).map (fun i=>(i.zero,i.size,i.bytes))=some (some (.agg #[vI 0,zN,bF,zN,zN]),5,88):=by kernel_rfl
theorem jzds:(prog.info? 128).map (fun i=>(i.zero,i.size,i.bytes))=some (some (.agg #[vI 0,bF,zN,zN]),4,64):=by kernel_rfl
structure FlR(w0 w:World)(x mb:Nat)(t:Tp)(AO:OA)(co:Nat)(AL:OA)(cl:Nat)(l:List Dm)(AD:OA)(cd:Nat)(L:aT)(T:Sx.Tb)(vP:Value)(P Q:List (Nat×LN)):Prop where
 ext:Ext w0 w
 top:bD w0 t AO co AL cl
 dem:DmR w0 l AD cd
 box:Blk w x 83 #[vI t.nodes,.s AO t.over.length co,.s AL t.links.length cl,.s AD l.length cd,.pointer (sA L.p),vP,.map (some mb)]
 xlo:w0.heap.size<=x
 tab:aF w w0.heap.size L T
 m:L.m=2*t.links.length+l.length
 pat:OwL (PaC L.S) 98 5 w w0.heap.size vP P
 map:MpS w mb Q.length (Q.map dJ)
 mlo:w0.heap.size<=mb
def FlB(x mb:Nat)(L:aT)(vP:Value)(b:Nat):Prop:=b=x\/b=mb\/L.S b\/vP.ownBlock=some b
section
variable {w0 w w':World} {x mb:Nat} {t:Tp} {AO:Option Addr} {co:Nat} {AL:Option Addr} {cl:Nat} {l:List Dm} {AD:Option Addr} {cd:Nat} {L:aT} {T:Sx.Tb} {vP:Value} {P Q:List (Nat×List Nat)}
theorem FlR.K(h:FlR w0 w x mb t AO co AL cl l AD cd L T vP P Q)(hx:Ext w w'):FlR w0 w' x mb t AO co AL cl l AD cd L T vP P Q:=
 ⟨h.ext.tr hx,h.top,h.dem,h.box.K hx,h.xlo,h.tab.K hx,h.m,h.pat.K hx fun cs x k=>k.K hx,h.map.K hx,h.mlo⟩
theorem FlR.lo(h:FlR w0 w x mb t AO co AL cl l AD cd L T vP P Q):(∀b,FlB x mb L vP b->w0.heap.size<=b/\b<w.heap.size)/\NoT (FlB x mb L vP) w 196:=by
 obtain⟨xs,qa⟩:=h.pat.own;refine⟨fun b hb=>?_,fun b hb cs fr e=>?_⟩;{(rcases hb with rfl|rfl|hb|hb);{exact⟨h.xlo,h.box.lt⟩};{exact⟨h.mlo,h.map.lt⟩};{obtain⟨h1,h2,_⟩:=h.tab.ty hb;exact⟨h1,h2⟩};exact qa.lt b hb};(rcases hb with rfl|rfl|hb|hb);{exact NoT.one h.box qD _ rfl cs fr e};{obtain⟨D,⟨es,qe,h1,_⟩,_⟩:=h.map;rw[h1]at e;cases e};{exact h.tab.no32 b hb cs fr e};exact bK qa hb qD cs fr e
theorem FlR.sep(h:FlR w0 w x mb t AO co AL cl l AD cd L T vP P Q):¬L.S x/\¬L.S mb/\(∀b,vP.ownBlock=some b->¬L.S b/\b≠x/\b≠mb)/\x≠mb:=by
 obtain⟨xs,qa⟩:=h.pat.own;refine⟨fun hs=>?_,fun hs=>?_,fun b hb=>⟨fun hs=>?_,fun e=>?_,fun e=>?_⟩,fun e=>?_⟩;{exact h.tab.noT (t:=83) qD qD qD qD x hs _ _ h.box};{obtain⟨_,_,cs,t',k1,_⟩:=h.tab.ty hs;exact h.map.not k1};{obtain⟨cs,k⟩:=aW qa hb;exact h.tab.noT (t:=98) qD qD qD qD b hs _ _ k};{subst e;exact bK qa hb qD _ _ h.box};{obtain⟨cs,k⟩:=aW qa hb;rw[e]at k;exact h.map.not k};have:=h.box;rw[e]at this;exact h.map.not this
theorem PaC.fr{S X:Nat->Prop}{w w'}{cs:List Value}{p:Nat×LN}(h:PaC S w cs p)(k:FrS X w w')(hX:NoT X w 3):PaC S w' cs p:=by
 obtain⟨A,c,h1,h2,h3,h4⟩:=h;exact⟨A,c,h1,h2,k.rdT hX h3,h4⟩
theorem MpS.noT{b n:Nat}{ks:List (List UInt8)}(h:MpS w b n ks)(t:TypeId):NoT (fun x=>x=b) w t:=fun x hx cs fr e=>by
 subst hx;obtain⟨D,⟨es,qa,h1,_⟩,_⟩:=h;rw[h1]at e;cases e
theorem FlR.mapped(h:FlR w0 w x mb t AO co AL cl l AD cd L T vP P Q){p:Nat×LN}(hg:w.grownBy w' (some mb))(hm:MpS w' mb (Q.length+1) (dJ p::Q.map dJ)):FlR w0 w' x mb t AO co AL cl l AD cd L T vP P (Q++[p]):=by
 have k:FrS (fun b=>b=mb) w w':=eG hg fun g e=>(by injection e with e;exact e.symm);obtain⟨s1,s2,s3,s4⟩:=h.sep;exact⟨k.ext h.ext fun b hb=>by rw[hb];exact h.mlo,h.top,h.dem,k.blk h.box s4,h.xlo,h.tab.far k (h.map.noT _) fun b hb hs=>s2 (hb▸hs),h.m,h.pat.fr k (fun g hg e=>(s3 g hg).2.2 e) fun cs y _ hy=>hy.fr k (h.map.noT _),
  hm.congr qS (fun j=>by simp[or_comm]),h.mlo⟩
theorem FlR.pushed(h:FlR w0 w x mb t AO co AL cl l AD cd L T vP P Q){p:Nat×LN}{css:List (List Value)}{us:List Value}{g7 c7:Nat}{w7:World}(h1:css.length=P.length)(h2:∀cs∈css,cs.length=5)(h4:∀(i:Nat) (y:Nat×LN),P[i]?=some y->∃cs,css[i]?=some cs/\PaC L.S w cs y)(hus:us.length=5)(hp:PaC L.S w us p)
  (own7:w7.ownsRow w0.heap.size 98 5 (.s (sA g7) (P.length+1) c7) (P.length+1) (css.flatten++us)) (grow7:w.grownBy w7 vP.ownBlock):
  FlR w0 (w7.setCell (aD x 5) (.s (sA g7) (P.length+1) c7)) x mb t AO co AL cl l AD cd L T (.s (sA g7) (P.length+1) c7) (P++[p]) Q/\
   FrS (fun b=>b=x\/vP.ownBlock=some b) w (w7.setCell (aD x 5) (.s (sA g7) (P.length+1) c7)):=by
 have k7:FrS (fun b=>vP.ownBlock=some b) w w7:=eG grow7 fun g e=>e;obtain⟨s1,s2,s3,s4⟩:=h.sep;obtain⟨xs,qa⟩:=h.pat.own;have B7:=k7.blk h.box fun e=>(s3 x e).2.1 rfl;have k8:FrS (fun b=>b=x) w7 (w7.setCell (aD x 5) (.s (sA g7) (P.length+1) c7)):=eG (aM w7 x 5 _) fun g e=>(by injection e with e;exact e.symm);have n7:∀t,98≠t->NoT (fun b=>vP.ownBlock=some b) w t:=fun t ht b hb=>bK qa hb ht;have n8:∀t,83≠t->NoT (fun b=>b=x) w7 t:=fun t ht=>NoT.one B7 ht;have e7:Ext w0 w7:=k7.ext h.ext fun b hb=>(qa.lt b hb).1;have qe:OwL (PaC L.S) 98 5 w7 w0.heap.size (.s (sA g7) (P.length+1) c7) (P++[p]):=
  OwL.pushed h1 h2 h4 hus (fun cs y _ hy=>hy.fr k7 (n7 _ qD)) (hp.fr k7 (n7 _ qD)) own7
 have qf:g7≠x:=fun e=>(by obtain⟨cs,hb⟩:=aW own7 (g:=g7) rfl;rw[e]at hb;exact absurd (aZ hb B7).2 qD);refine⟨⟨k8.ext e7 fun b hb=>by rw[hb];exact h.xlo,h.top,h.dem,B7.sT 5 _,h.xlo,?_,h.m,qe.fr k8 (fun g hg e=>?_) fun cs y _ hy=>hy.fr k8 (n8 _ qD),(h.map.same (k7.block mb h.map.lt fun e=>(s3 mb e).2.2 rfl)).same (k8.block mb ?_ fun e=>s4 e.symm),h.mlo⟩,(k7.mono fun b hb=>.inr hb).tr k8 fun b hb=>.inl (.inl hb)⟩;{exact(h.tab.far k7 (n7 _ qD) fun b hb=>(s3 b hb).1).far k8 (n8 _ qD) fun b hb hs=>s1 (hb▸hs)};{(injection hg with hg);have hg:g7=g:=hg;exact qf (hg.trans e)};exact yL h.map.lt k7.size
theorem FlR.tabbed(h:FlR w0 w x mb t AO co AL cl l AD cd L T vP P Q){L':aT}{T':Sx.Tb}(ht:aF w' w0.heap.size L' T')(k:FrS L.S w w')(hp:L'.p=L.p)(hm:L'.m=L.m)(hS:∀b,L'.S b->L.S b\/w.heap.size<=b):FlR w0 w' x mb t AO co AL cl l AD cd L' T' vP P Q:=by
 (obtain⟨s1,s2,s3,s4⟩:=h.sep;have bx:=k.blk h.box s1;rw[<-hp]at bx;refine⟨k.ext h.ext fun b hb=>(h.tab.ty hb).1,h.top,h.dem,bx,h.xlo,ht,hm.trans h.m,?_,h.map.same (k.block mb h.map.lt s2),h.mlo⟩;refine h.pat.fr k (fun g hg=>(s3 g hg).1) fun cs y _ hy=>?_;obtain⟨A,c,h1,h2,h3,h4⟩:=hy;have qa:ints y.2≠ []->y.2≠ []:=fun hx e=>hx (by rw[e];rfl);refine⟨A,c,h1,h2,jzlw h3 k fun hx=>h4 (qa hx),fun hx ad had hs=>?_⟩;rcases hS _ hs with h5|h5);{exact h4 hx ad had h5};obtain⟨b,o,qe,fr,e1,e2,_⟩:=h3 (fun e=>hx (by have h6:=cW y.2;rw[e]at h6;exact kQp.1 h6.symm));(rw[had]at e1;injection e1 with e1);subst e1;have h7:w.heap.size<=b:=h5;have:=iF e2;omega
end
end Go.Proofs.YtfeeacaofjpkaaaGreatDoor
namespace Go.Proofs.YtfeeacaofjpkaaaGreatDoor
open Go.Proofs.Tryz
open Go Go.RowKit
variable {P:Program} {md:Region.Mode} {ops:Array Oper} {Q:Exit->Act->World->Prop} {S:World->Prop} {L:Nat}
def chainB(md:Region.Mode)(ops:Array Oper)(i:Nat):LN->Bool
 | []=>true
 | [m]=>awaitB md ops m i
 |m::m2::rest=>awaitB md ops m m2&&chainB md ops i (m2::rest)
theorem jzdt{i:Nat}{listed:Array Bool}(hi:listed.getD i true=false):∀(path:LN),chainB md ops i path=true->(∀m∈path,listed.getD m true=false)->∀j∈path,j∉Region.ready md ops listed
 | [],_,_,j,hj,_=>by cases hj
 | [m],hc,_,j,hj,hr=>by
   obtain rfl:j=m:=xD.1 hj;exact nG hc hr hi
 |m::m2::rest,hc,hu,j,hj,hr=>by
  have hc:(awaitB md ops m m2&&chainB md ops i (m2::rest))=true:=hc;rw[vM]at hc;rcases xZ.1 hj with e|e
  ·subst e
   exact nG hc.1 hr (hu m2 qS)
  ·exact jzdt hi (m2::rest) hc.2 (fun k hk=>hu k (xO _ hk)) j e hr
theorem jzlx{path:LN}{i:Nat}{oi:Oper}{v:Value}(hLp:L∈path)(hc:chainB md ops i path=true)(hi:ops[i]?=some oi)(hiL:i≠L)(hsel:∀(j:Nat) (o:Oper) cs b,ops[j]?=some o->o.op≠.select cs b)
  (hQ:∀c a w,Q (.panic c) (a.put oi.dst v) w->Q (.panic c) a w):
  ∀(qe:Nat) (qa:Array Bool) (a:Act) (w:World),(∀m∈path,qa.getD m true=false)->
   (∀j oj,ops[j]?=some oj->j≠i->qa.getD j true=false->(∀e∈oj.after,Region.binds md e=true->e.on≠i)->oi.apart ops oj=true)->
   i∈Region.ready md ops qa->YieldsIf P ops S oi v a->S w->
   wpAnyL P md ops Q S L qe (qa.setIfInBounds i true) (a.put oi.dst v) w->wpAnyL P md ops Q S L (qe+1) qa a w:=by
 intro qe
 induction qe with
 |zero=>
  intro qa a w _ _ hr hy hS H;refine⟨fun h=>(by rw[h]at hr;cases hr),fun j hj=>?_⟩;by_cases qg:j=i
  ·subst qg;exact hy.wpOp hi hS ⟨fun e=>absurd e hiL,fun _=>⟨hS,H⟩⟩
  have:=ready_mono hj qg;rw[H.1]at this;cases this
 |succ qe ih=>
  intro qa a w qt qf hr hy hS H;refine⟨fun h=>(by rw[h]at hr;cases hr),fun j hj=>?_⟩;by_cases qg:j=i
  ·subst qg;exact hy.wpOp hi hS ⟨fun e=>absurd e hiL,fun _=>⟨hS,H⟩⟩
  have qp:j∉path:=fun e=>jzdt (mem_ready.1 hr).1 path hc qt j e hj;have qj:j≠L:=fun e=>qp (e▸hLp);have h1:=H.2 j (ready_mono hj qg);obtain⟨qi,oj,qk,qm⟩:=mem_ready.1 hj;have qn:∀e∈oj.after,Region.binds md e=true->e.on≠i:=fun e he hb heq=>by
   have h1:=qm e he hb;have h0:=(mem_ready.1 hr).1;rw[heq]at h1;rcases kQd i qa.size with h'|h'
   ·simp[h']at h0 h1;rw[h0]at h1;cases h1
   simp[kQn h']at h1
  have h2:=wpOp_putIf qk (qf j oj qk qg qi qn) (fun cs b=>hsel i oi cs b hi) (fun cs b=>hsel j oj cs b qk) hQ hy h1;have qh:∀k ok,ops[k]?=some ok->k≠i->(qa.setIfInBounds j true).getD k true=false->
    (∀e∈ok.after,Region.binds md e=true->e.on≠i)->oi.apart ops ok=true:=fun k ok hk hki hun hno=>by
   refine qf k ok hk hki ?_ hno;by_cases qw:j=k
   ·subst qw;exact qi
   rw[getD_set_ne true qw]at hun;exact hun
  have qo:∀m∈path,(qa.setIfInBounds j true).getD m true=false:=fun m hm=>by
   have qx:j≠m:=fun e=>qp (e▸hm);rw[getD_set_ne true qx];exact qt m hm
  refine wpOp_mono (fun a' w' h3=>⟨fun e=>absurd e qj,fun _=>⟨(h3.2.2 qj).1,ih (qa.setIfInBounds j true) a' w' qo qh (ready_mono hr (Ne.symm qg)) h3.1 (h3.2.2 qj).1 ?_⟩⟩) h2;rw[Array.setIfInBounds_comm _ _ qg];exact(h3.2.2 qj).2
theorem wpAnyL_takep{path:LN}{i:Nat}{oi:Oper}{v:Value}{fuel:Nat}{listed:Array Bool}{a:Act}{w}(hi:ops[i]?=some oi)(hLp:path.contains L=true)(hc:chainB md ops i path=true)(hlm:path.all (fun m=>!listed.getD m true)=true)(hiL:i≠L)
  (hs:Region.noSelect ops=true) (hf:Region.free md ops listed i=true) (hr:(Region.ready md ops listed).contains i=true)
  (hQ:∀c a w,Q (.panic c) (a.put oi.dst v) w->Q (.panic c) a w) (hy:YieldsIf P ops S oi v a) (hS:S w)
  (h:wpAnyL P md ops Q S L fuel (listed.setIfInBounds i true) (a.put oi.dst v) w):wpAnyL P md ops Q S L (fuel+1) listed a w:=
 jzlx (by simpa using hLp) hc hi hiL (Region.noSelect_spec hs) hQ fuel listed a w (fun m hm=>by simpa using xW.1 hlm m hm) (Region.free_spec hi hf) (by simpa using hr) hy hS h
theorem wU(path:List Nat)(i:Nat){oi:Oper}{v:Value}{fuel:Nat}{listed:Array Bool}{a:Act}{w:World}(hi:ops[i]?=some oi)(hS:S w)(h:wpAnyL P md ops Q S L fuel (listed.setIfInBounds i true) (a.put oi.dst v) w)(hv:∀ w,S w->(execOp a.eval oi).run P w=.ok (.value v) w:=by intro w h;revert h;(try simp only [and_imp]);intros;go_simp;try with_reducible rfl)(hLp:path.contains L=true:=by kernel_rfl)(hc:chainB md ops i path=true:=by kernel_rfl)(hlm:path.all (fun m=>!listed.getD m true)=true:=by kernel_rfl)(hiL:i≠L:=by decide)(hs:Region.noSelect ops=true:=by kernel_rfl)(hf:Region.free md ops listed i=true:=by kernel_rfl)(hr:(Region.ready md ops listed).contains i=true:=by kernel_rfl)(hQ:∀ c a w,Q (.panic c) (a.put oi.dst v) w->Q (.panic c) a w:=by exact fun _ _ _ h=>h)(hw:Region.wanted oi (yielded ops a.tmps)=true:=by rfl):wpAnyL P md ops Q S L (fuel+1) listed a w:=wpAnyL_takep hi hLp hc hlm hiL hs hf hr hQ (kZe ⟨hw,hv⟩) hS h
end Go.Proofs.YtfeeacaofjpkaaaGreatDoor
namespace Go.Proofs.YtfeeacaofjpkaaaGreatDoor
open Go.Proofs.Tryz
open Go.RowKit
theorem jzdu(B P nt ct:Nat)(L:aT)(T:Sx.Tb)w(h:aF w B L T)(hB:B<=w.heap.size)(vW:OkT T)(vT:SzT T P)(hP1:1<=P)(hP:P<=10000)(hm0:0<L.m)(hm:L.m<=1000)(hK:T.fre.length<=100000000000)(hc:T.cols<=100000000000)
  (cost:Rat) (nc:Bool) AC (lc cc:Nat) AC' (lc' cc':Nat) (qY:aB w nc AC lc cc AC' lc' cc' cost) (hcsz:SzQ cost P)
  PT (ts:List (Nat×Rat)) (hnt:ts.length=nt) (ht:TmR w PT ts) (hnt2:nt<=1000000) (vU:∀t∈ts,t.1<L.m) (vR:∀q∈aQ L.m ts,SzQ q P) (hfb:∀j,j<T.fre.length->Sx.atN T.fre j<=1000000000000) (hjl:(Sx.slk T (aQ L.m ts) T.fre.length).length<=1000):
  Calls prog 72 #[.pointer (sA L.p),.agg #[.bool nc,.s AC lc cc,.s AC' lc' cc'],.s PT nt ct] w
   fun e w'=>∃L':aT,e=.returned (.tuple #[])/\L'.p=L.p/\L'.m=L.m/\aF w' B L' (Sx.addT T cost (aQ L.m ts))/\FrS L.S w w'/\∀b,L'.S b->L.S b\/w.heap.size<=b:=by
 obtain⟨g,cr,vw,zD⟩:=h.vr_form hm0;obtain⟨gb,cb,vH,zw⟩:=h.vb_form hm0;obtain⟨cp,qe,_,p0,p1,p2,p7⟩:=h.goa;rw[vw]at p0;have q0:=(qe.cell 0).trans p0;have q7:=(qe.cell 7).trans p7;have vy:=qe.lt;obtain⟨b0,b1,e0⟩:=dK w #[.pointer (sA L.p)] 80 #[.bool nc,.s AC lc cc,.s AC' lc' cc'] 33;have H:=Hx (kQa h (kQa vW vT));have HV:=Hx (kQa vw vH);have HT:=Hx (kQa qY (kQa ht (kQa vU vR)));have E0:=Hx (kQa e0 (kQa b0 b1));have y0:=XW.cell _ _ _ b0.lt (b0.cell 0);have y1:=XW.cell _ _ _ (yL vy e0.size) (aA e0 q0);have y2:=XW.cell _ _ _ (yL vy e0.size) (aA e0 q7);have zs:=h.rl;go_enter func72,ntmps72;(go_upto_region 1 with fail);(generalize (w.alloc (.cells #[.pointer (sA L.p)] 80)).alloc (.cells #[.bool nc,.s AC lc cc,.s AC' lc' cc'] 33)=W2 at*;have zi:IntKind.i64.wrap ((L.m:Int)+(T.cols:Int))=((L.m+T.cols:Nat):Int):=by rw[IntKind.wrap_i64];omega);go_cut [6] (fun s wx=>s=vI ((L.m+T.cols:Nat):Int)/\Ext W2 wx);(case first=>refine dG qK qK ?_;(repeat (go_big_quiet_step (fail)));refine wpQuiet_nil ?_;rintro _ ⟨x,rfl⟩;go_wp2;go_meet;first|exact⟨rfl,x.ext⟩|exact⟨qS,x.ext⟩);obtain⟨rfl,q8⟩:=hcut;have EC:=Hx (E0.o.1.tr q8);have BX:=Hx (kQa (E0.o.2.1.K q8) (E0.o.2.2.K q8));generalize hgt:w.heap.size=gt at*;have HC:=Hx (H.o.1.K EC.o);obtain⟨cp,qe,_,p0,p1,p2,p7⟩:=HC.o.goa;have q7:=(qe.cell 7).trans p7;have z7:wc.frozen? (aD L.p 7)=false:=qe.frozen _;have t0:wc.cell? (aD gt 0)=some (.pointer (sA L.p)):=BX.o.1.cell 0;have zE:=mO L.m qO;obtain⟨vK,q4⟩:=HC.o.cols_set (T.cols+1);rw[show((T.cols+1:Nat):Int)=(T.cols:Int)+1 by omega]at vK q4;have PG:Hid (∀x,w.heap.size<=x->¬L.S x):=Hx (fun x hx hs=>by have:=(H.o.1.ty hs).2.1;omega)
 have I3:=Hx (show aF (wc.setCell (aD L.p 7) (vI ((T.cols:Int)+1))) B L (fQ T (T.cols+1))/\FrS L.S w (wc.setCell (aD L.p 7) (vI ((T.cols:Int)+1)))/\Blk (wc.setCell (aD L.p 7) (vI ((T.cols:Int)+1))) gt 80 #[.pointer (sA L.p)]/\
   Blk (wc.setCell (aD L.p 7) (vI ((T.cols:Int)+1))) (gt+1) 33 #[.bool nc,.s AC lc cc,.s AC' lc' cc']from
  ⟨vK,(eE EC.o).tr q4 fun b hb=>.inl hb,q4.blk BX.o.1 (PG.o _ qO),q4.blk BX.o.2 (PG.o _ qO)⟩)
 (go_upto_region 3 with fail);generalize wc.setCell (aD L.p 7) (vI ((T.cols:Int)+1))=W3 at*;have t0:W3.cell? (aD gt 0)=some (.pointer (sA L.p)):=I3.o.2.2.1.cell 0;obtain⟨cp,qe,_,p0,p1,p2,p7⟩:=I3.o.1.goa;rw[HV.o.1]at p0;have q0:=(qe.cell 0).trans p0;have QM:=Hx (QB.made W3 L.m);have X4:=Hx ((eR W3).alloc (.cells (madeCells rV (L.m*3)) 33));have vF:(W3.alloc (.cells (madeCells rV (L.m*3)) 33)).heap.size=W3.heap.size+1:=qS;have zo:w.heap.size<=W3.heap.size:=I3.o.2.1.size;go_upto_region 4 with fail
 generalize W3.alloc (.cells (madeCells rV (L.m*3)) 33)=W4 at*;obtain⟨bv,e4⟩:=bA W4 #[.s (sA W3.heap.size) L.m L.m] 35;rw[vF]at bv;generalize qI:W3.heap.size=gl at*;have vh:gt+1<gl:=(by have:=I3.o.2.2.2.lt;omega);have I4:=Hx (show eT w (W4.alloc (.cells #[.s (sA gl) L.m L.m] 35)) B L (fQ T (T.cols+1)) gt gl nc AC lc cc AC' lc' cc' (aQ L.m (ts.take 0))from
  ⟨(I3.o.1.K X4.o).K e4,I3.o.2.1.tr (eE (S:=L.S) (X4.o.tr e4)) fun b hb=>.inl hb,I3.o.2.2.1.K (X4.o.tr e4),I3.o.2.2.2.K (X4.o.tr e4),bv,QM.o.K e4⟩)
 go_wp2;go_loopg [9,41] nt (fun q _ it wx=>∃n:Nat,nt-n=q/\n<=nt/\it=vI (n:Int)/\Hid (eT w wx B L (fQ T (T.cols+1)) gt gl nc AC lc cc AC' lc' cc' (aQ L.m (ts.take n))));exact⟨0,rfl,yZ _,rfl,I4⟩;obtain⟨n,rfl,hn,rfl,I⟩:=hrel;by_cases v4:n<nt;{(have nN:(n:Int)<(nt:Int):=by omega);have n0:(0:Int)<=(n:Int):=qO;obtain⟨t,vn⟩:∃t,ts[n]?=some t:=⟨_,yG qO⟩;have q1:TmR wr PT ts:=HT.o.2.1.fr I.o.fr (H.o.1.noT qD qD qD qD) H.o.1.no32;obtain⟨bq,oq,neg,A,l,c,A',l',c',rfl,zf,⟨i0,i1,i2,i3⟩,hR⟩:=q1.at_ vn;obtain⟨x,q⟩:=t;have qQ:x<L.m:=HT.o.2.2.1 _ (yJ vn);have xN:(x:Int)<(L.m:Int):=qO;have x0:(0:Int)<=(x:Int):=qO;have VT:=Hx (jzlq L.m ts vn);have vJ:x<(aQ L.m (ts.take n)).length:=(by rw[kI];exact qQ);obtain⟨bx,e0⟩:=bA wr #[vI (x:Int),.bool neg,.s A l c,.s A' l' c'] 128;have v0:wr.cell? (aD (gl+1) 0)=some (.s (sA gl) L.m L.m):=I.o.bv.cell 0;obtain⟨ny,Y1,my,fy,qX,qM,qH,⟨s0,s1,s2⟩,⟨z0,z1,z2⟩,_⟩:=I.o.qb.at_ (aO vJ);have vH:=I.o.bv.lt;have zg:=I.o.qb.lt;have I9:=Hx ((I.o.put qO vh (PG.o gl qO) vJ hR).K ((eR _).alloc (.cells #[vI (x:Int),.bool neg,.s A l c,.s A' l' c'] 128)));rw[<-VT.o]at I9;go_wp2;go_roundg (nt-(n+1));exact⟨n+1,rfl,qO,by go_num,I9⟩;omega};obtain rfl:n=nt:=qO;rw[yU qO]at I;obtain⟨AF,cf,va,v1⟩:=oG I.o.tab.fre;obtain⟨cp,qe,_,p0,p1,p2,p7⟩:=I.o.tab.goa;rw[va]at p2;have q2:=(qe.cell 2).trans p2;have t0:wr.cell? (aD gt 0)=some (.pointer (sA L.p)):=I.o.bt.cell 0;have zc:gt<wr.heap.size:=I.o.bt.lt;have vV:L.p<wr.heap.size:=qe.lt;have vx:w.heap.size<=wr.heap.size:=I.o.fr.size;have BS:=Hx (eN wr 42 #[zN]);have I5:=Hx (I.o.K ((eR wr).alloc (.cells #[zN] 42)));have qA:(fQ T (T.cols+1)).fre.length=T.fre.length:=rfl;rw[qA]at va v1 q2;have qh:=Hx va;have GB:Hid (gt+1<wr.heap.size/\gl+1<wr.heap.size):=Hx (⟨I.o.bc.lt,I.o.bv.lt⟩);have zd:=Hx hfb;generalize hgs:wr.heap.size=gs at*;generalize hKK:T.fre.length=K at*;have S0:Hid ((wr.alloc (.cells #[zN] 42)).ownsRow w.heap.size 3 1 zN (Sx.slk T (aQ L.m ts) 0).length (ints (Sx.slk T (aQ L.m ts) 0))):=Hx (World.ownsRow_nil _ _ _ _);(go_upto_region 10 with fail);have q2:=aU q2 (.cells #[zN] 42);have t0:=aU t0 (.cells #[zN] 42);generalize wr.alloc (.cells #[zN] 42)=W5 at*;go_wp2;go_loopg [11,12,57] K (fun q _ _ it wx=>∃(n:Nat) (vS:Value),K-n=q/\n<=K/\it=vI (n:Int)/\Hid (eT w wx B L (fQ T (T.cols+1)) gt gl nc AC lc cc AC' lc' cc' (aQ L.m ts)/\Blk wx gs 42 #[vS]/\wx.ownsRow w.heap.size 3 1 vS (Sx.slk T (aQ L.m ts) n).length (ints (Sx.slk T (aQ L.m ts) n))/\∀b,vS.ownBlock=some b->gs<b));exact⟨0,_,rfl,yZ _,rfl,Hx ⟨I5.o,BS.o,S0.o,fun b hb=>by cases hb⟩⟩;obtain⟨n2,vS,rfl,zB,rfl,J⟩:=hrel;by_cases vp:n2<K
 ·(have nN:(n2:Int)<(K:Int):=by omega);have n0:(0:Int)<=(n2:Int):=qO;obtain⟨gf,vZ⟩:∃gf,AF=(sA gf):=(by (have qa:=J.o.1.tab.fre;rw[qh.o]at qa;obtain⟨g',c',zj,e1,_⟩:=iR qa (show 0<T.fre.length by omega);injection e1 with e1);exact⟨g',e1⟩);subst vZ;have qa:=J.o.1.tab.fre;rw[qh.o,show(fQ T (T.cols+1)).fre.length=K from hKK]at qa;have qf:wr.cell? (aD gf n2)=some (vI (Sx.atN T.fre n2:Nat)):=gT qa vp;have NX:=Hx (rN T (aQ L.m ts) n2);have zv:Sx.atN T.fre n2<=1000000000000:=zd.o n2 vp;generalize hx:Sx.atN T.fre n2=x at*;have x0:decide ((0:Int)<=(x:Int))=true:=yO qO;have b7:wr.cell? (aD (gl+1) 0)=some (.s (sA gl) L.m L.m):=J.o.1.bv.cell 0;by_cases qQ:x<L.m
  ·have x1:decide ((x:Int)<(L.m:Int))=true:=yO qO;have xN:(x:Int)<(L.m:Int):=qO;have xp:(0:Int)<=(x:Int):=qO;obtain⟨ny,Y1,my,fy,qX,qM,qH,⟨s0,s1,s2⟩,_,hy⟩:=J.o.1.qb.at_ (aO (show x<(aQ L.m ts).length by rw[kI];exact qQ));have SG:=Hx (cV ny Y1 my fy qX qM qH (Sx.at_ (aQ L.m ts) x) wr hy);go_wp2_with fail;refine SG.o.mono ?_;rintro e w6 ⟨rfl,x6⟩;by_cases q6:Sx.at_ (aQ L.m ts) x=0;{have qJ:aC (Sx.at_ (aQ L.m ts) x)=0:=(iQ _).2 q6;rw[qJ];have J6:Hid (eT w w6 B L (fQ T (T.cols+1)) gt gl nc AC lc cc AC' lc' cc' (aQ L.m ts)/\Blk w6 gs 42 #[vS]/\w6.ownsRow w.heap.size 3 1 vS (Sx.slk T (aQ L.m ts) (n2+1)).length (ints (Sx.slk T (aQ L.m ts) (n2+1)))/\∀b,vS.ownBlock=some b->gs<b):=Hx (by rw[NX.o,qF (fun h=>h.2 q6)];exact⟨J.o.1.K x6,J.o.2.1.K x6,(eE (S:=fun _=>False) x6).own J.o.2.2.1 (fun _ _ h=>h),J.o.2.2.2⟩);go_wp2;go_roundg (K-(n2+1));exact⟨n2+1,vS,rfl,qO,by go_num,J6⟩;omega}
   have qJ:¬aC (Sx.at_ (aQ L.m ts) x)=0:=fun h=>q6 ((iQ _).1 h);have vF:(aC (Sx.at_ (aQ L.m ts) x) !=0)=true:=(by simpa using qJ);have zn:decide (aC (Sx.at_ (aQ L.m ts) x)=0)=false:=yP qJ;have zk:(aC (Sx.at_ (aQ L.m ts) x)==0)=false:=(by simpa using qJ);have v2:=Hx (show Sx.slk T (aQ L.m ts) (n2+1)=Sx.slk T (aQ L.m ts) n2++[n2] by rw[NX.o,qE ⟨by rw[kI];exact qQ,q6⟩]);generalize aC (Sx.at_ (aQ L.m ts) x)=sy at*;have J6:=Hx (show eT w w6 B L (fQ T (T.cols+1)) gt gl nc AC lc cc AC' lc' cc' (aQ L.m ts)/\Blk w6 gs 42 #[vS]/\w6.ownsRow w.heap.size 3 1 vS (Sx.slk T (aQ L.m ts) n2).length (ints (Sx.slk T (aQ L.m ts) n2))from
    ⟨J.o.1.K x6,J.o.2.1.K x6,(eE (S:=fun _=>False) x6).own J.o.2.2.1 (fun _ _ h=>h)⟩)
   have vg:=Hx J.o.2.2.2;have v6:gs<w6.heap.size:=J6.o.2.1.lt;have g0:w6.cell? (aD gs 0)=some vS:=J6.o.2.1.cell 0;have zp:(Sx.slk T (aQ L.m ts) n2).length<=K:=(by have:=jzdm T (aQ L.m ts) n2;omega);have XC:=Hx ((eR w6).alloc (.cells #[vI (n2:Int)] 3));have BC:=Hx (eN w6 3 #[vI (n2:Int)]);have VB:=Hx ((eE (S:=fun _=>False) XC.o).own J6.o.2.2 (fun _ _ h=>h));(go_wp2_with (at_builtin;refine kZ _ 42 3 _ 1 8 rfl _ _ rfl underlying42 Tryz.infoInt rfl qD w.heap.size vS (Sx.slk T (aQ L.m ts) n2).length (ints (Sx.slk T (aQ L.m ts) n2)) rfl VB.o [vI (n2:Int)] rfl (by simp[Value.oneCell']) w6.heap.size rfl BC.o (by unfold maxLen;omega) qO (by have:=J6.o.1.fr.size;have:=XC.o.size;omega) ?_));intro g9 c9 w9 qm qB vm;have vl:∀b,vS.ownBlock=some b->w.heap.size<=b:=fun b hb=>(VB.o.lt b hb).1;have k9:=eG (S:=fun b=>vS.ownBlock=some b) qB fun g e=>e;have n9:NoT (fun b=>vS.ownBlock=some b) (w6.alloc (.cells #[vI (n2:Int)] 3)) 196:=fun b hb=>bK VB.o hb qD;have J8:=Hx ((J6.o.1.K XC.o).far k9 n9 fun b hb=>by have h1:=vl b hb;have h2:=vg.o b hb;have h3:=GB.o;exact⟨h1,PG.o b h1,qO,qO,qO,qO⟩)
   have qV:=Hx (k9.blk (J6.o.2.1.K XC.o) fun hb=>by have:=vg.o gs hb;omega);have z9:w9.frozen? (aD gs 0)=false:=qV.o.frozen _;have y9:w9.cell? (aD gs 0)=some vS:=qV.o.cell 0;have vz:FrS (fun b=>b=gs) w9 (w9.setCell (aD gs 0) (.s (sA g9) ((Sx.slk T (aQ L.m ts) n2).length+1) c9)):=eG (aM w9 gs 0 _) fun g e=>(by injection e with e;exact e.symm);have zb:=Hx (show eT w (w9.setCell (aD gs 0) (.s (sA g9) ((Sx.slk T (aQ L.m ts) n2).length+1) c9)) B L (fQ T (T.cols+1)) gt gl nc AC lc cc AC' lc' cc' (aQ L.m ts)/\Blk (w9.setCell (aD gs 0) (.s (sA g9) ((Sx.slk T (aQ L.m ts) n2).length+1) c9)) gs 42 #[.s (sA g9) ((Sx.slk T (aQ L.m ts) n2).length+1) c9]/\
     (w9.setCell (aD gs 0) (.s (sA g9) ((Sx.slk T (aQ L.m ts) n2).length+1) c9)).ownsRow w.heap.size 3 1 (.s (sA g9) ((Sx.slk T (aQ L.m ts) n2).length+1) c9) (Sx.slk T (aQ L.m ts) (n2+1)).length (ints (Sx.slk T (aQ L.m ts) (n2+1)))/\
     ∀b,(Value.slice (sA g9) ((Sx.slk T (aQ L.m ts) n2).length+1) c9).ownBlock=some b->gs<b from by
    refine⟨J8.o.far vz (NoT.one qV.o qD) (fun b hb=>?_),qV.o.sT 0 _,?_,fun b hb=>?_⟩
    ·
     subst hb
     have h3:=GB.o;exact⟨vx,PG.o _ vx,qO,qO,qO,qO⟩
    ·
     rw[<-hgt]at qm
     rw[v2.o,yQ,kZd,kU];refine vz.own qm fun b hb e=>?_;obtain⟨zA,q1⟩:=aW qm hb;rw[e]at q1;exact absurd (aZ q1 qV.o).2 qD
    injection hb with hb
    have hb:g9=b:=hb;subst hb;rcases vm with h1|h1
    ·
     exact vg.o _ h1.symm
    have:=XC.o.size;omega)
   go_wp2;go_roundg (K-(n2+1));exact⟨n2+1,_,rfl,qO,by go_num,zb⟩;omega
  have x1:decide ((x:Int)<(L.m:Int))=false:=yP qO;have J6:Hid (eT w wr B L (fQ T (T.cols+1)) gt gl nc AC lc cc AC' lc' cc' (aQ L.m ts)/\Blk wr gs 42 #[vS]/\wr.ownsRow w.heap.size 3 1 vS (Sx.slk T (aQ L.m ts) (n2+1)).length (ints (Sx.slk T (aQ L.m ts) (n2+1)))/\∀b,vS.ownBlock=some b->gs<b):=Hx (by rw[NX.o,qF (fun h=>qQ (by have:=h.1;rw[kI]at this;exact this))];exact J.o);go_wp2;go_roundg (K-(n2+1));exact⟨n2+1,vS,rfl,qO,by go_num,J6⟩;omega
 obtain rfl:K=n2:=qO;generalize wr=W6 at*;have vL:=Hx (kI L.m ts);have ve:=Hx HT.o.2.2.2;generalize hvals:aQ L.m ts=vals at*;have q5:=Hx (show Sx.slk T vals K=Sx.slk T vals T.fre.length by rw[hKK]);generalize Sx.slk T vals K=js at*;have vo:Hid (∀b,L.S b->b≠gt/\b≠gl/\b≠gl+1/\b≠gs/\vS.ownBlock≠some b):=Hx (fun b hb=>by have h1:=(H.o.1.ty hb).2.1;refine⟨qO,qO,qO,qO,fun e=>?_⟩;have:=(J.o.2.2.1.lt b e).1;omega);have LT:Hid (∀b,W6.heap.size<=b->b≠gt/\b≠gl/\b≠gl+1/\b≠gs/\vS.ownBlock≠some b):=Hx (fun b hb=>by have h1:=J.o.1.bt.lt;have h2:=J.o.1.bv.lt;have h3:=J.o.2.1.lt;refine⟨qO,qO,qO,qO,fun e=>?_⟩;have:=(J.o.2.2.1.lt b e).2;omega)
 have qx:T.rows.length=L.m:=H.o.1.rl;have R0:=Hx (show iA W6 W6 B L L (dM T vals 0)/\gZ W6 w.heap.size L gt gl gs vals vS js from
  ⟨⟨by rw[jzj6];exact J.o.1.tab,⟨rfl,rfl,rfl,rfl,rfl⟩,fun b hb=>.inl hb,FrS.refl _ _⟩,J.o.1.bt,J.o.1.bv,J.o.1.qb,J.o.2.1,J.o.2.2.1⟩)
 have v3:B<=W6.heap.size:=(by have:=J.o.1.fr.size;omega);obtain⟨cp,qe,_,p0,p1,p2,p7⟩:=J.o.1.tab.goa;rw[HV.o.1]at p0;have q0:=(qe.cell 0).trans p0;have t0:W6.cell? (aD gt 0)=some (.pointer (sA L.p)):=J.o.1.bt.cell 0;go_wp2;go_loopg [14,89] L.m (fun q _ it wx=>∃(n:Nat) (Ln:aT),L.m-n=q/\n<=L.m/\it=vI (n:Int)/\Hid (iA W6 wx B L Ln (dM T vals n)/\gZ wx w.heap.size L gt gl gs vals vS js));exact⟨0,L,rfl,yZ _,rfl,R0⟩;obtain⟨n,Ln,rfl,hn,rfl,I⟩:=hrel;have vq:B<=wr.heap.size:=yY v3 I.o.1.fr.size;have AK:Hid (∀wx,Ext wr wx->gZ wx w.heap.size L gt gl gs vals vS js):=Hx (fun wx hx=>I.o.2.fr (S:=fun _=>False) (eE hx) (fun b hb=>hb.elim) (fun b hb=>hb.elim));by_cases vu:n<L.m
 ·(have nN:(n:Int)<(L.m:Int):=by omega);have n0:(0:Int)<=(n:Int):=qO;have qg:Hid (∀wx,Ext wr wx->wx.cell? (aD gt 0)=some (.pointer (sA L.p))/\wx.cell? (aD L.p 0)=some (.s (sA g) L.m cr)/\wx.cell? (aD L.p 1)=some (.s (sA gb) L.m cb)/\wx.cell? (aD gb n)=some (vI (Sx.atN T.bas n:Nat))):=Hx (fun wx hx=>by have I':=I.o.1.K hx;obtain⟨e1,e2,e3,e4,e5⟩:=I'.loc;obtain⟨cp,qe,_,p0,p1,p2,p7⟩:=I'.tab.goa;have qa:=I'.tab.bas;rw[e1]at qe;rw[e2,HV.o.1]at p0;rw[e3,HV.o.2]at p1;rw[e3,HV.o.2,e5]at qa;exact⟨(AK.o wx hx).bt.cell 0,(qe.cell 0).trans p0,(qe.cell 1).trans p1,gT qa vu⟩)
  have ze:=Hx (show∀wx,Ext wr wx->Calls prog 136 #[.pointer (some (aD g (n*4))),vI (Sx.atN T.bas n:Nat),.pointer (sA (gl+1)),.pointer (sA gs),.pointer (sA gt)] wx
    (fun e w'=>e=.returned (.tuple #[])/\∃L2,iA W6 w' B L L2 (dM T vals (n+1))/\gZ w' w.heap.size L gt gl gs vals vS js)from fun wx hx=>
   jzlr n g cr (I.o.1.K hx) (AK.o wx hx) q5.o qx (yY vq hx.size) vo.o LT.o vu HV.o.1 H.o.2.1 H.o.2.2 hP1 hP hm qO vL.o ve.o hjl)
  have XD:Hid (Ext wr wr.drew):=Hx ((eR wr).drewN 1);have HSW:=Hx (qg.o _ XD.o);(go_upto_region 20 with fail);refine wX qg 14 ?_;refine wP 0 rfl HSW.o ?_;refine wU [14,6,4,3,2] 1 rfl HSW.o ?_;refine wP 2 rfl HSW.o ?_;refine wP 3 rfl HSW.o ?_;refine wU [14,6] 4 rfl HSW.o ?_;refine wP 5 rfl HSW.o ?_;refine wP 6 rfl HSW.o ?_;refine wU [14,13,12,10,9,8] 7 rfl HSW.o ?_;refine wP 8 rfl HSW.o ?_;refine wP 9 rfl HSW.o ?_;refine wU [14,13,12] 10 rfl HSW.o ?_;refine wP 11 rfl HSW.o ?_;refine wP 12 rfl HSW.o ?_;refine wV 13 rfl HSW.o ?_;refine aY qK rfl qR (fun KK hK=>?_);go_simp;refine(ze.o _ XD.o).mono ?_;rintro e w9 ⟨rfl,L2,I9,A9⟩;have I9:=Hx (kQa I9 A9);refine hK.o _ _ ?_;refine wpAny_done qK ?_ _;go_wp2;go_roundg (L.m-(n+1));exact⟨n+1,L2,rfl,qO,by go_num,I9⟩;omega
 have e9:n=L.m:=qO;subst e9;have vk:=Hx (jzls (B0:=w.heap.size) I.o.1 I.o.2 q5.o qx vq vo.o LT.o H.o.2.1 H.o.2.2 hP1 hP hm qO vL.o ve.o hjl);have t0:wr.cell? (aD gt 0)=some (.pointer (sA L.p)):=I.o.2.bt.cell 0;go_wp2_with fail;refine(vk.o).mono ?_;rintro e w9 ⟨rfl,L2,g2,c2,vG,I9,A9⟩;rw[hKK]at vG;obtain⟨e1,e2,e3,e4,e5⟩:=I9.loc;have I9:=Hx (kQa vG (kQa I9 A9));have E5:=Hx (kQa e1 (kQa e4 e5));have t0:w9.cell? (aD gt 0)=some (.pointer (sA L.p)):=I9.o.2.2.bt.cell 0;obtain⟨cp,qe,⟨nr,R1,m1,d1,zq,zx,zt,r0,r1,r2,r3,zy⟩,p0,p1,p2,p7⟩:=I9.o.2.1.tab.goa;rw[e1]at qe;rw[e4,qh.o]at p2;rw[e5,I9.o.1]at r0;have q2:w9.cell? (aD L.p 2)=some (.s AF K cf):=(qe.cell 2).trans p2;have q3:w9.cell? (aD L.p 3)=some (.s (sA g2) (K+1) c2):=(qe.cell 3).trans r0;have qI:T.goal.co.length=K:=(by rw[H.o.2.1.gl];exact hKK);have v8:Hid (SzQ (Sx.addC T vals T.goal.co 0 js) 30000000):=Hx (by have h1:=uG (T:=T) (X:=T.goal.co) (vals:=vals) (base:=0) (js:=js) (P:=P) H.o.2.2.go ve.o ((show SzQ 0 1 from⟨qD,qD⟩).mono hP1) (fun j hj=>by have h2:=q5.o▸hj;have h3:=lS T vals _ j h2;rw[qI];omega) js.length (yX _);unfold gU at h1;rw[yU (yX _)]at h1;refine h1.mono ?_;have:js.length*(2*P+1)<=1000*20001:=kQq qO qO;omega);have vt:(T.goal.co++[Sx.addC T vals T.goal.co 0 js])[K]?=some (Sx.addC T vals T.goal.co 0 js):=(by rw[yS qO,qI,Nat.sub_self];rfl);have qi:=I9.o.2.1.tab.go;rw[e5,I9.o.1]at qi;have qi:OQ QR 33 w9 B (.s (sA g2) (K+1) c2) (T.goal.co++[Sx.addC T vals T.goal.co 0 js]):=qi;obtain⟨ny,Y1,my,fy,qX,qM,qH,⟨s0,s1,s2⟩,_,hy⟩:=qi.cell vt;have FC:Hid (FrS L.S w w9/\aB w9 nc AC lc cc AC' lc' cc' cost/\Blk w9 (gt+1) 33 #[.bool nc,.s AC lc cc,.s AC' lc' cc']):=Hx (by have k1:=J.o.1.fr.tr I9.o.2.1.fr fun b hb=>.inl hb;exact⟨k1,k1.ratR H.o.1.no32 HT.o.1,I9.o.2.1.fr.blk J.o.1.bc (PG.o _ qO)⟩)
 obtain⟨l1,zz⟩:=hy.lens v8.o;obtain⟨l2,zC⟩:=FC.o.2.1.lens hcsz;have RF:=Hx hy;have qg:=Hx (show∀wx,Ext w9 wx->wx.cell? (aD gt 0)=some (.pointer (sA L.p))/\wx.cell? (aD L.p 3)=some (.s (sA g2) (K+1) c2)/\(wx.cell? (aD g2 (K*3))=some (.bool ny)/\wx.cell? (aD g2 (K*3+1))=some (.s Y1 my fy)/\wx.cell? (aD g2 (K*3+2))=some (.s qX qM qH))/\
   (wx.cell? (aD (gt+1) 0)=some (.bool nc)/\wx.cell? (aD (gt+1) 1)=some (.s AC lc cc)/\wx.cell? (aD (gt+1) 2)=some (.s AC' lc' cc'))from fun wx hx=>
  ⟨aA hx t0,aA hx q3,⟨aA hx s0,aA hx s1,aA hx s2⟩,((FC.o.2.2.K hx).t3).1⟩)
 (have XD:Hid (Ext w9 w9.drew):=Hx ((eR w9).drewN 1);have HSW:=Hx (qg.o _ XD.o);have zm:(K:Int)<(K:Int)+1:=qO;have zu:(0:Int)<=(K:Int):=by omega);(go_upto_region 24 with fail);refine wX qg 17 ?_;refine wV 0 rfl HSW.o ?_;refine wP 1 rfl HSW.o ?_;refine wP 2 rfl HSW.o ?_;refine wP 3 rfl HSW.o ?_;refine wV 4 rfl HSW.o ?_;refine wP 5 rfl HSW.o ?_;refine wV 6 rfl HSW.o ?_;refine wP 7 rfl HSW.o ?_;refine wP 8 rfl HSW.o ?_;refine wP 9 rfl HSW.o ?_;refine wV 10 rfl HSW.o ?_;refine wP 11 rfl HSW.o ?_;refine wP 12 rfl HSW.o ?_;refine wV 13 rfl HSW.o ?_;refine wV 14 rfl HSW.o ?_;refine wC 15 rfl (fun KK hK=>?_);go_simp;refine(nP ny nc Y1 my fy qX qM qH AC lc cc AC' lc' cc' (Sx.addC T vals T.goal.co 0 js) cost _ (RF.o.K XD.o) (FC.o.2.1.K XD.o) qO qO qO qO).mono ?_;rintro e qz ⟨vj,vi,q9,vd,qp,qn,qw,rfl,v5,v7⟩;have qy:Hid (Ext w9 qz):=Hx (XD.o.tr v7);have HSW:=Hx (qg.o _ qy.o);have qZ:Hid (aF (((qz.setCell (aD g2 (K*3)) (.bool vj)).setCell (aD g2 (K*3+1)) (.s vi q9 vd)).setCell (aD g2 (K*3+2)) (.s qp qn qw)) B L2 (fP (dM T vals L.m) ⟨T.goal.co++[Sx.addC T vals T.goal.co 0 js-cost],T.goal.re⟩)/\FrS L2.S qz (((qz.setCell (aD g2 (K*3)) (.bool vj)).setCell (aD g2 (K*3+1)) (.s vi q9 vd)).setCell (aD g2 (K*3+2)) (.s qp qn qw))):=Hx (by have h1:=(I9.o.2.1.tab.K qy.o).go_set (gv:=g2) (K:=K+1) (cv:=c2) (n:=K) (by rw[E5.o.2.2];exact I9.o.1) (by show(T.goal.co++[_]).length=_;rw[yQ,qI];rfl) qO v5;have h2:(T.goal.co++[Sx.addC T vals T.goal.co 0 js]).set K (Sx.addC T vals T.goal.co 0 js-cost)=T.goal.co++[Sx.addC T vals T.goal.co 0 js-cost]:=(by rw[List.set_append_right _ _ qO,qI,Nat.sub_self];rfl);have h3:(fP (dM T vals L.m) ⟨T.goal.co++[Sx.addC T vals T.goal.co 0 js],T.goal.re⟩).goal.co.set K (Sx.addC T vals T.goal.co 0 js-cost)=T.goal.co++[Sx.addC T vals T.goal.co 0 js-cost]:=h2;rw[h3]at h1;exact h1);have qi:=(I9.o.2.1.tab.K qy.o).go;rw[E5.o.2.2,I9.o.1]at qi;have qi:OQ QR 33 qz B (.s (sA g2) (K+1) c2) (T.goal.co++[Sx.addC T vals T.goal.co 0 js]):=qi;obtain⟨_,_,_,_,_,_,_,_,⟨z0,z1,z2⟩,_⟩:=qi.cell vt;refine hK.o _ _ HSW.o ?_;refine wP 16 rfl HSW.o ?_;obtain⟨_,_,⟨t0,t1,t2⟩,_⟩:=HSW.o;refine aY qK rfl qR (fun KK hK=>?_);go_simp;refine hK.o _ _ ?_;refine wpAny_done qK ?_ _;generalize ((qz.setCell (aD g2 (K*3)) (.bool vj)).setCell (aD g2 (K*3+1)) (.s vi q9 vd)).setCell (aD g2 (K*3+2)) (.s qp qn qw)=W11 at*;have qU:Hid (∀b,L2.S b->b≠gt):=Hx (fun b hb=>by (rcases I9.o.2.1.far b hb with h1|h1);{exact(vo.o b h1).1};exact(LT.o b h1).1);have vO:=Hx (qZ.o.2.blk (I9.o.2.2.bt.K qy.o) fun hb=>qU.o _ hb rfl);have t0:W11.cell? (aD gt 0)=some (.pointer (sA L.p)):=vO.o.cell 0;have qg:Hid (∀wx,Ext W11 wx->wx.cell? (aD gt 0)=some (.pointer (sA L.p))/\wx.cell? (aD L.p 2)=some (.s AF K cf)):=Hx (fun wx hx=>by obtain⟨cp,qe,_,p0,p1,p2,p7⟩:=(qZ.o.1.K hx).goa;rw[E5.o.1]at qe;rw[E5.o.2.1,qh.o]at p2;exact⟨aA hx t0,(qe.cell 2).trans p2⟩);have XD:Hid (Ext W11 W11.drew):=Hx ((eR W11).drewN 1);have XB:Hid (Ext W11 (W11.alloc (.cells #[vI ((L.m:Int)+(T.cols:Int))] 3)).drew):=Hx (((eR W11).alloc _).drewN 1);have HSW:=Hx (qg.o _ XD.o);(go_upto_region 25 with fail);refine wX qg 10 ?_;refine wV 0 rfl HSW.o ?_;refine wV 1 rfl HSW.o ?_;refine wP 2 rfl HSW.o ?_;refine wP 3 rfl HSW.o ?_;refine wV 4 rfl HSW.o ?_;refine wP 5 rfl HSW.o ?_;refine wC 6 rfl (fun KK hK=>?_);go_simp;have qW:=Hx (qg.o _ XB.o);refine hK.o _ _ qW.o ?_;have HSW:=qW;have BW:Hid (Blk (W11.alloc (.cells #[vI ((L.m:Int)+(T.cols:Int))] 3)).drew W11.heap.size 3 #[vI ((L.m:Int)+(T.cols:Int))]):=Hx (eN W11 _ _);generalize (W11.alloc (.cells #[vI ((L.m:Int)+(T.cols:Int))] 3)).drew=W12 at*;have qT:=Hx (qZ.o.1.K XB.o);have qa:=qT.o.fre;rw[E5.o.2.1,qh.o]at qa;have qa:W12.ownsRow B 3 1 (.s AF K cf) T.fre.length (ints T.fre):=qa;rw[hKK]at qa;have zh:B<=W12.heap.size:=(by have:=qT.o.lo;have:=(qT.o.ty (.inl rfl)).2.1;omega);refine wC 7 rfl (fun KK hK=>?_);refine fO W12 42 3 _ 1 8 _ _ rfl underlying42 Tryz.infoInt rfl qD B (.s AF K cf) K (ints T.fre) qR qa [vI ((L.m:Int)+(T.cols:Int))] rfl (by simp[Value.oneCell']) W11.heap.size qR BW.o (by unfold maxLen;omega) qO zh ?_;intro g7 c7 w7 vc qj qC;have k7:Hid (FrS (fun b=>(Value.slice AF K cf).ownBlock=some b) W12 w7):=Hx (eG qj fun g e=>e);have za:Hid (∀b,(Value.slice AF K cf).ownBlock=some b->L2.S b):=Hx (fun b hb=>.inr (.inr (.inr (.inl (by rw[E5.o.2.1,qh.o];exact hb)))));obtain⟨cp,qe,_,p0,p1,p2,p7⟩:=qT.o.goa;have qo:=k7.o.blk qe fun hb=>bK qa hb qD _ _ qe;rw[E5.o.1]at qo;rw[E5.o.2.1,qh.o]at p2;have FP:Hid (aF (w7.setCell (aD L.p 2) (.s (sA g7) (K+1) c7)) B (L2.setF (.s (sA g7) (K+1) c7)) (Sx.addT T cost vals)/\FrS L2.S W12 (w7.setCell (aD L.p 2) (.s (sA g7) (K+1) c7))):=Hx (by have h1:=qT.o.fre_push (g7:=g7) (c7:=c7) (num:=L.m+T.cols) (w7:=w7) (by show w7.ownsRow B 3 1 (.s (sA g7) (T.fre.length+1) c7) (T.fre.length+1) (ints T.fre++[vI ((L.m+T.cols:Nat):Int)]);rw[hKK,kZv];exact vc) (by rw[E5.o.2.1,qh.o];exact qj) (by rw[E5.o.2.1,qh.o];exact qC.imp id fun e=>Nat.le_of_eq e.symm);have h2:=jzlt (vals:=vals) qx cost;rw[<-q5.o]at h2;have h3:(fP (dM T vals L.m) ⟨T.goal.co++[Sx.addC T vals T.goal.co 0 js-cost],T.goal.re⟩).fre=T.fre:=rfl;rw[h3,h2,hKK,E5.o.1]at h1;exact h1);have qt:Hid (∀b,L2.S b->L.S b\/w.heap.size<=b):=Hx (fun b hb=>(I9.o.2.1.far b hb).imp id fun h=>yY J.o.1.fr.size h);have v9:Hid (∃L':aT,L'.p=L.p/\L'.m=L.m/\aF (w7.setCell (aD L.p 2) (.s (sA g7) (K+1) c7)) B L' (Sx.addT T cost vals)/\FrS L.S w (w7.setCell (aD L.p 2) (.s (sA g7) (K+1) c7))/\∀b,L'.S b->L.S b\/gt<=b):=Hx (by rw[<-hgt];refine⟨L2.setF (.s (sA g7) (K+1) c7),E5.o.1,E5.o.2.2,FP.o.1,((((FC.o.1.tr (eE (S:=L.S) qy.o) fun b hb=>.inl hb).tr qZ.o.2 qt.o).tr (eE (S:=L.S) XB.o) fun b hb=>.inl hb).tr FP.o.2 qt.o),?_⟩;refine jzlu (W6:=w) (wx:=W12) qt.o ?_ ?_;{have h1:=FC.o.1.size;have h2:=qy.o.size;have h3:=qZ.o.2.size;have h4:=XB.o.size;omega};rw[E5.o.2.1,qh.o];exact qC.imp id fun e=>Nat.le_of_eq e.symm)
 have qk:=Hx (show w7.cell? (aD gt 0)=some (.pointer (sA L.p))/\w7.cell? (aD L.p 2)=some (.s AF K cf)from
  ⟨(k7.o.blk (vO.o.K XB.o) fun hb=>qU.o _ (za.o _ hb) rfl).cell 0,(qo.cell 2).trans p2⟩)
 have z0:w7.frozen? (aD L.p 2)=false:=qo.frozen _;have t0:w7.cell? (aD L.p 2)=some (.s AF K cf):=qk.o.2;refine hK.o _ _ qk.o ?_;have HSW:=qk;refine wP 8 rfl HSW.o ?_;refine wP 9 rfl HSW.o ?_;refine aY qK rfl qR (fun KK hK=>?_);go_simp;refine hK.o _ _ ?_;refine wpAny_done qK ?_ _;go_wp2;(go_end0);obtain⟨L9,f1,f2,f3,f4,f5⟩:=v9.o;refine⟨L9,rfl,f1,f2,?_,f4,?_⟩;{rw[hvals];exact f3};rw[hgt];exact f5
end Go.Proofs.YtfeeacaofjpkaaaGreatDoor
