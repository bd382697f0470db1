/- Walks, part 16. -/
import Derived.Test.YtfeeacaofjpkaaaGreatDoorK15
set_option linter.unusedVariables false
set_option linter.unusedSimpArgs false
set_option maxRecDepth 100000
set_option maxHeartbeats 8000000
namespace Go.Proofs.YtfeeacaofjpkaaaGreatDoor
open Go.Proofs.Tryz
open Go.RowKit
theorem rO t AO(co:Nat)AL(cl:Nat)(a:Nat)w(ht:bD w t AO co AL cl)(hv:aH t=true)(ha:a<2*t.links.length):
  Calls prog 48 #[.agg #[vI t.nodes,.s AO t.over.length co,.s AL t.links.length cl],vI (a:Int)] w (cO w (aP t a)):=by
 obtain⟨hl,_,_,_,k5,k6,k7⟩:=lB hv ha;have qf:=ht.ll;have qg:=ht.cl;obtain⟨lk,qe⟩:∃lk,t.links[a/2]?=some lk:=⟨_,yG hl⟩;have e0:t.links[a/2]=lk:=(yH.1 qe).2;rw[e0]at k5 k6 k7;obtain⟨b,o,rfl,hb,_,_,_,_,c4,_,_⟩:=ht.link qe;have HQ:=Hx k5;obtain⟨b0,b1,e1⟩:=dK w #[vI t.nodes,.s AO t.over.length co,.s (some (aD b o)) t.links.length cl] 25 rV 33;have i2:=b0.cell 2;have BB:=Hx (kQa b1 e1);have c4:=aA e1 c4;clear ht hv qe e0 k5 b0 b1 e1;go_enter func48,ntmps48;go_wp2_with fail;refine(dP lk.cap _ ⟨qO,qO⟩).mono ?_;rintro e w1 ⟨neg,A,n,c,A',n',c',rfl,hR,hx⟩;have B1:=BB.o.1.K hx;have F:=Hx (dH (w:=w) hR B1 qO (BB.o.2.tr hx));obtain⟨⟨j0,j1,j2⟩,z0,z1,z2⟩:=B1.t3;have qa:=((B1.sT 0 (.bool neg)).sT 1 (.s A n c)).sT 2 (.s A' n' c');have HB:=Hx qa;clear hR hx B1 BB qa;go_wp2;have qa:=HB.o;refine bodyPost_ret (v:=.agg #[.bool neg,.s A n c,.s A' n' c']) (by simp[results,results48,go_sem,qa.cell]) rfl ⟨neg,A,n,c,A',n',c',rfl,?_⟩;rw[HQ.o];exact F.o
def fC(L2 D:Nat)(cap:Nat->Rat)(n:Nat):LQ:=(List.range (L2+D)).map fun i=>if i<n then cap i else 0
theorem jzdv(L2 D:Nat)(cap:Nat->Rat)(n:Nat):(fC L2 D cap n).length=L2+D:=by unfold fC;simp
theorem jzly(L2 D:Nat)(cap:Nat->Rat):fC L2 D cap 0=List.replicate (L2+D) 0:=by
 unfold fC;apply uK;intro i;rw[yW,xB];by_cases h:i<L2+D;{rw[xJ h,qE h];simp};rw[yI (by simp;omega),qF h];rfl
theorem jzlz(L2 D:Nat)(cap:Nat->Rat){n:Nat}(hn:n<L2+D):(fC L2 D cap n).set n (cap n)=fC L2 D cap (n+1):=by
 unfold fC;apply uK;intro i;by_cases h:i<L2+D;{rw[yW,xJ h];by_cases e:n=i;{subst e;rw[yM (by simpa using h)];simp};rw[vN e,yW,xJ h];simp only[kQ9];by_cases h2:i<n;{rw[qE h2,qE qO]};rw[qF h2,qF qO]};rw[yI (by simp;omega),yI (by simp;omega)]
theorem jzl0(L2 D:Nat)(cap:Nat->Rat){i:Nat}(hi:i<L2+D):Sx.at_ (fC L2 D cap L2) i=Sx.fb L2 cap i:=by
 unfold fC Sx.at_ Sx.fb;rw[yW,xJ hi];rfl
theorem SzQ.int{n:Int}(h:n.natAbs<B32):SzQ (n:Rat) 1:=by
 refine⟨?_,?_⟩;{rw[Rat.num_intCast,Nat.pow_one];exact h};rw[Rat.den_intCast,Nat.pow_one];unfold B32;omega
theorem jzdw(bs:LQ){P:Nat}(hP:1<=P)(h:∀q∈bs,SzQ q P):OkT (Sx.newT bs)/\SzT (Sx.newT bs) P:=by
 have h0:SzQ 0 P:=SzQ.zero.mono hP;have qa:∀i,i<(Sx.newT bs).rows.length->((Sx.newT bs).row i).co=[]/\SzQ ((Sx.newT bs).row i).re P:=fun i hi=>(by have hi:i<(bs.map fun b=>(⟨[],b⟩:Sx.Rw)).length:=hi;rw[xV]at hi;have e:(Sx.newT bs).row i=⟨[],bs[i]⟩:=(by show((bs.map fun b=>(⟨[],b⟩:Sx.Rw))[i]?).getD _=_;rw[yW,yG hi];rfl);rw[e];exact⟨rfl,h _ (xR hi)⟩);refine⟨⟨fun i hi=>by rw[(qa i hi).1];rfl,rfl⟩,⟨fun i hi q hq=>?_,fun i hi=>(qa i hi).2,(fun q hq=>by cases hq),h0⟩⟩;rw[(qa i hi).1]at hq;cases hq
theorem aF.mono{w}{B B':Nat}{L:aT}{T:Sx.Tb}(h:aF w B L T)(hB:B'<=B):aF w B' L T:=by
 have oq:∀{v:Value} {qs:LQ},OQ QR 33 w B v qs->OQ QR 33 w B' v qs:=fun hq=>(by obtain⟨css,h1,h2,h3,h4⟩:=hq;exact⟨css,h1,h2,h3.mono hB,h4⟩);obtain⟨css,h1,h2,h3,h4⟩:=h.rows;exact⟨h.rl,yY hB h.lo,h.box,⟨css,h1,h2,h3.mono hB,h4⟩,h.bl,h.bas.mono hB,h.fre.mono hB,h.bf,fun i hi=>oq (h.co i hi),oq h.go,h.sep⟩
theorem jzl1 t AO(co:Nat)AL(cl:Nat)(l:List Dm)AD(cd:Nat)w(ht:bD w t AO co AL cl)(hd:DmR w l AD cd)(hf:Fit t l)(hl:t.links.length<=10)(hD:l.length<=4):
  Calls prog 27 #[.agg #[vI t.nodes,.s AO t.over.length co,.s AL t.links.length cl],.s AD l.length cd] w fun e w'=>∃(x mb:Nat) (L:aT) (T:Sx.Tb),e=.returned (.pointer (sA x))/\FlR w w' x mb t AO co AL cl l AD cd L T zN [] []/\Sx.FLP (2*t.links.length) l.length (amQ l) (aP t) T []:=by
 have HT:=Hx (kQa ht (kQa hd hf));have q3:=hd.len;have q5:=ht.ll;obtain⟨qw,e0⟩:=bA w #[vI t.nodes,.s AO t.over.length co,.s AL t.links.length cl] 25;obtain⟨⟨i0,i1,i2⟩,_⟩:=qw.t3;have E0:=Hx (kQa qw e0);clear ht hd hf qw e0;have qt:IntKind.i64.wrap (2*(t.links.length:Int)+(l.length:Int))=2*(t.links.length:Int)+(l.length:Int):=(by rw[IntKind.wrap_i64];omega);have qJ:=mO (2*t.links.length+l.length) qO;rw[show((2*t.links.length+l.length:Nat):Int)=2*(t.links.length:Int)+(l.length:Int) by omega]at qJ;go_enter func27,ntmps27;(go_upto_region 1 with fail);generalize w.alloc (.cells #[vI t.nodes,.s AO t.over.length co,.s AL t.links.length cl] 25)=W0 at*;have qV:w.heap.size<W0.heap.size:=E0.o.1.lt;go_wp2_with fail;refine(fX t AO co AL cl _ (HT.o.1.K E0.o.2)).mono ?_;rintro e w1 ⟨rfl,qx⟩;have E1:=Hx (kQa (E0.o.1.K qx) (E0.o.2.tr qx));clear qx i0 i1 i2;obtain⟨⟨i0,i1,i2⟩,_⟩:=E1.o.1.t3;have Q1:Hid (QB (w1.alloc (.cells (madeCells rV ((2*t.links.length+l.length)*3)) 33)) w1.heap.size (fC (2*t.links.length) l.length (aP t) 0)):=Hx (by rw[jzly];exact QB.made w1 (2*t.links.length+l.length));have X1:=Hx ((eR w1).alloc (.cells (madeCells rV ((2*t.links.length+l.length)*3)) 33));(go_upto_region 2 with fail);generalize w1.alloc (.cells (madeCells rV ((2*t.links.length+l.length)*3)) 33)=W2 at*;have qX:w.heap.size<w1.heap.size:=E1.o.1.lt;have BX:Hid (Blk W2 w.heap.size 25 #[vI t.nodes,.s AO t.over.length co,.s AL t.links.length cl]/\Ext w W2):=Hx (⟨E1.o.1.K X1.o,E1.o.2.tr X1.o⟩);clear qJ qt i0 i1 i2 X1;generalize w1.heap.size=g at*;obtain⟨⟨i0,i1,i2⟩,_⟩:=BX.o.1.t3;go_wp2_with fail;refine(fX t AO co AL cl _ (HT.o.1.K BX.o.2)).mono ?_;rintro e w3 ⟨rfl,qn⟩;have I3:Hid (QB w3 g (fC (2*t.links.length) l.length (aP t) 0)/\Blk w3 w.heap.size 25 #[vI t.nodes,.s AO t.over.length co,.s AL t.links.length cl]/\Ext w w3):=Hx (⟨Q1.o.K qn,BX.o.1.K qn,BX.o.2.tr qn⟩);clear qn i0 i1 i2 Q1 BX E1;go_wp2;go_loopg [6,19] (2*t.links.length) (fun q _ it wx=>∃n:Nat,2*t.links.length-n=q/\n<=2*t.links.length/\it=vI (n:Int)/\Hid (QB wx g (fC (2*t.links.length) l.length (aP t) n)/\Blk wx w.heap.size 25 #[vI t.nodes,.s AO t.over.length co,.s AL t.links.length cl]/\Ext w wx));exact⟨0,rfl,yZ _,rfl,I3⟩;obtain⟨n,rfl,hn,rfl,I⟩:=hrel;clear I3;obtain⟨⟨i0,i1,i2⟩,_⟩:=I.o.2.1.t3;by_cases qy:n<2*t.links.length
 ·(have nN:(n:Int)<2*(t.links.length:Int):=by omega);(have n0:(0:Int)<=(n:Int):=qO;have nM:(n:Int)<2*(t.links.length:Int)+(l.length:Int):=by omega);go_wp2_with fail
  refine(rO t AO co AL cl n _ (HT.o.1.K I.o.2.2) HT.o.2.2.v qy).mono ?_;rintro e w4 ⟨neg,A,k,c,A',k',c',rfl,hR,hx⟩;have qH:n<(fC (2*t.links.length) l.length (aP t) n).length:=(by rw[jzdv];omega);obtain⟨ny,Y1,my,fy,q6,q1,qY,⟨s0,s1,s2⟩,⟨z0,z1,z2⟩,_⟩:=(I.o.1.K hx).at_ (aO qH);have I4:=Hx (show QB (((w4.setCell (aD g (n*3)) (.bool neg)).setCell (aD g (n*3+1)) (.s A k c)).setCell (aD g (n*3+2)) (.s A' k' c')) g (fC (2*t.links.length) l.length (aP t) (n+1))/\Blk (((w4.setCell (aD g (n*3)) (.bool neg)).setCell (aD g (n*3+1)) (.s A k c)).setCell (aD g (n*3+2)) (.s A' k' c')) w.heap.size 25 #[vI t.nodes,.s AO t.over.length co,.s AL t.links.length cl]/\
    Ext w (((w4.setCell (aD g (n*3)) (.bool neg)).setCell (aD g (n*3+1)) (.s A k c)).setCell (aD g (n*3+2)) (.s A' k' c'))from by
   have k3:FrS (fun b=>b=g) w4 (((w4.setCell (aD g (n*3)) (.bool neg)).setCell (aD g (n*3+1)) (.s A k c)).setCell (aD g (n*3+2)) (.s A' k' c')):=eG (dU w4 g (n*3) _ _ _) fun g e=>(by injection e with e;exact e.symm);refine⟨?_,k3.blk (I.o.2.1.K hx) qO,k3.ext (I.o.2.2.tr hx) fun b hb=>by rw[hb];omega⟩;rw[<-jzlz _ _ _ (show n<2*t.links.length+l.length by omega)];exact(I.o.1.K hx).put qH hR)
  clear hR hx I i0 i1 i2;go_wp2;go_roundg (2*t.links.length-(n+1));exact⟨n+1,rfl,qO,by go_num,I4⟩;omega
 obtain rfl:2*t.links.length=n:=qO;have BL:=Hx (jzdv (2*t.links.length) l.length (aP t) (2*t.links.length));have BA:=Hx (fun i (hi:i<2*t.links.length+l.length)=>jzl0 (2*t.links.length) l.length (aP t) hi);generalize fC (2*t.links.length) l.length (aP t) (2*t.links.length)=bs at*;have XD:Hid (Ext wr wr.drew):=Hx ((eR wr).drewN 1);have XA:Hid (Ext wr (wr.alloc (.map #[] 0)).drew):=Hx (((eR wr).alloc _).drewN 1);have MA:Hid (MpS (wr.alloc (.map #[] 0)).drew wr.heap.size 0 []):=Hx (MpS.made wr);have qp:w.heap.size<wr.heap.size:=I.o.2.1.lt;clear hn qy;go_upto_region 7 with fail
 go_cut [7] (fun s wx=>∃(x mb:Nat) (L:aT),s=.pointer (sA x)/\Hid (Blk wx x 83 #[vI t.nodes,.s AO t.over.length co,.s AL t.links.length cl,.s AD l.length cd,.pointer (sA L.p),zN,.map (some mb)]/\MpS wx mb 0 []/\aF wx w.heap.size L (Sx.newT bs)/\L.m=2*t.links.length+l.length/\w.heap.size<=x/\w.heap.size<=mb/\
  Blk wx w.heap.size 25 #[vI t.nodes,.s AO t.over.length co,.s AL t.links.length cl]/\Ext w wx))
 case first=>
  have qa:Hid (∀wx,Ext wr wx->(wx.cell? (aD w.heap.size 0)=some (vI t.nodes)/\wx.cell? (aD w.heap.size 1)=some (.s AO t.over.length co)/\wx.cell? (aD w.heap.size 2)=some (.s AL t.links.length cl))):=Hx (fun wx hx=>(I.o.2.1.K hx).t3.1);have q2:∀W:World,(Instr.makeMap 81 none).run prog W=.ok (.map (some W.heap.size)) (W.alloc (.map #[] 0)):=fun W=>rfl;obtain⟨c0,c1,c2⟩:=qa.o _ XD.o;obtain⟨y0,y1,y2⟩:=qa.o _ XA.o
  go_region_held3 (fun w'=>w'.cell? (aD w.heap.size 0)=some (vI t.nodes)/\w'.cell? (aD w.heap.size 1)=some (.s AO t.over.length co)/\w'.cell? (aD w.heap.size 2)=some (.s AL t.links.length cl))
   (first|with_reducible exact⟨c0,c1,c2⟩|with_reducible exact⟨y0,y1,y2⟩|with_reducible exact⟨aU c0 _,aU c1 _,aU c2 _⟩|with_reducible exact⟨aU (aU c0 _) _,aU (aU c1 _) _,aU (aU c2 _) _⟩|fail)
   (first
    |(go_at_call 71
      first
      |(with_reducible refine(jzcb (2*t.links.length+l.length) (2*t.links.length+l.length) (sA g) bs BL.o _ (I.o.1.ql.K (by with_reducible exact XD.o)) qO).mono ?_
        rintro e w5 ⟨L,rfl,qj,qz,hT,qm⟩;have E5:=Hx (kQa (hT.mono (show w.heap.size<=wr.drew.heap.size from kQe qp)) (kQa qj (XD.o.tr qm))))
      |(with_reducible refine(jzcb (2*t.links.length+l.length) (2*t.links.length+l.length) (sA g) bs BL.o _ (I.o.1.ql.K (by with_reducible exact XA.o)) qO).mono ?_
        rintro e w5 ⟨L,rfl,qj,qz,hT,qm⟩;have E5:=Hx (kQa (hT.mono (show w.heap.size<=(wr.alloc (.map #[] 0)).drew.heap.size from yY (kQe qp) XA.o.size)) (kQa qj (XA.o.tr qm)));have M5:=Hx (MA.o.K qm))
      obtain⟨⟨c0,c1,c2⟩,_⟩:=(I.o.2.1.K E5.o.2.2).t3;clear qm hT qz qj)
    |fail)
  all_goals
   go_wp2;go_meet;have qZ:=E5.o.2.2.size
   first
   |exact⟨_,_,L,rfl,Hx ⟨Blk.new' (w5.alloc (.map #[] 0)) _ _ qS,(MpS.made w5).K ((eR _).alloc _),(E5.o.1.K ((eR w5).alloc (.map #[] 0))).K ((eR _).alloc _),E5.o.2.1,qO,qO,((I.o.2.1.K E5.o.2.2).K ((eR w5).alloc (.map #[] 0))).K ((eR _).alloc _),((I.o.2.2.tr E5.o.2.2).alloc _).alloc _⟩⟩
   |exact⟨_,_,L,rfl,Hx ⟨eN w5 _ _,M5.o.K ((eR w5).alloc _),E5.o.1.K ((eR w5).alloc _),E5.o.2.1,qO,qO,(I.o.2.1.K E5.o.2.2).K ((eR w5).alloc _),(I.o.2.2.tr E5.o.2.2).alloc _⟩⟩
 obtain⟨x,mb,L,rfl,I7⟩:=hcut;clear I XD XA MA i0 i1 i2 qp;have q7:w.heap.size<=wc.heap.size:=I7.o.2.2.2.2.2.2.2.size;have S0:Hid (TmO wc wc.heap.size zN (vTs (2*t.links.length) (amQ l) 0)):=Hx (OwL.nil _ _ _ _ _);go_wp2;go_loopg [8,9,10,38] l.length (fun q v8 _ _ it wx=>∃n:Nat,l.length-n=q/\n<=l.length/\it=vI (n:Int)/\Hid (TmO wx wc.heap.size v8 (vTs (2*t.links.length) (amQ l) n)/\Ext wc wx));exact⟨0,rfl,yZ _,rfl,Hx ⟨S0.o,eR _⟩⟩;obtain⟨n,rfl,hn,rfl,I⟩:=hrel;clear S0;have q4:wc.heap.size<=wr.heap.size:=I.o.2.size;obtain⟨A8,c8,qC,qT⟩:=I.o.1.form;have qe:(vTs (2*t.links.length) (amQ l) n).length=n:=(by unfold vTs;simp);rw[qe]at qC qT;subst qC;by_cases qI:n<l.length
 ·obtain⟨d,hd⟩:∃d,l[n]?=some d:=⟨_,yG qI⟩;have qQ:=Hx (show((d.amount:Int):Rat)=amQ l n by unfold amQ;rw[hd]);have qM:i64 d.amount:=(HT.o.2.1.wf d (yJ hd)).2.2.1;obtain⟨b,o,rfl,hb,a0,a1,a2,a3⟩:=(HT.o.2.1.K (I7.o.2.2.2.2.2.2.2.tr I.o.2)).at_ hd;have nN:(n:Int)<(l.length:Int):=qO;have n0:(0:Int)<=(n:Int):=qO;have X8:Hid (Ext wr (wr.alloc (.cells #[vI d.src,vI d.dst,vI d.amount,vI d.prio] 60))):=Hx ((eR wr).alloc _);have B8:=Hx (eN wr 60 #[vI d.src,vI d.dst,vI d.amount,vI d.prio]);clear hd;go_upto_region 12 with fail
  clear a0 a1 a2 a3;generalize wr.alloc (.cells #[vI d.src,vI d.dst,vI d.amount,vI d.prio] 60)=W8 at*;generalize hbd:wr.heap.size=bd at*;have qa:=Hx (show∀wx,Ext W8 wx->(wx.cell? (aD w.heap.size 0)=some (vI t.nodes)/\wx.cell? (aD w.heap.size 1)=some (.s AO t.over.length co)/\wx.cell? (aD w.heap.size 2)=some (.s AL t.links.length cl))/\wx.cell? (aD bd 2)=some (vI d.amount)from fun wx hx=>
   ⟨(((I7.o.2.2.2.2.2.2.1.K I.o.2).K (X8.o.tr hx)).t3).1,(B8.o.K hx).cell 2⟩)
  (have XD:Hid (Ext W8 W8.drew):=Hx ((eR W8).drewN 1);have HSW:=Hx (qa.o _ XD.o);refine wX qa 11 ?_;refine wP 0 rfl HSW.o ?_;try simp only[qN]);refine wV 1 rfl HSW.o ?_;refine wP 3 rfl HSW.o ?_;refine wP 5 rfl HSW.o ?_;(refine wV 6 rfl HSW.o ?_;try simp only[qN]);(refine wC 2 rfl (fun KK hK=>?_);go_simp;refine(fX t AO co AL cl _ (HT.o.1.K ((I7.o.2.2.2.2.2.2.2.tr I.o.2).tr (X8.o.tr XD.o)))).mono ?_;rintro e w2 ⟨rfl,x2⟩;have E2:=Hx (XD.o.tr x2);have HSW:=Hx (qa.o _ E2.o);refine hK.o _ _ HSW.o ?_;clear hK KK x2;try simp only[qN]);(have qW:IntKind.i64.wrap (2*(t.links.length:Int)+(n:Int))=2*(t.links.length:Int)+(n:Int):=(by rw[IntKind.wrap_i64];omega);refine wP 4 rfl HSW.o ?_;try simp only[qN]);(refine wC 7 rfl (fun KK hK=>?_);go_simp;refine(dP d.amount _ qM).mono ?_;rintro e w5 ⟨neg,A,k,c,A',k',c',rfl,hR,x5⟩;have E5:=Hx (E2.o.tr x5);have HSW:=Hx (qa.o _ E5.o);have R5:=Hx (qQ.o▸hR);refine hK.o _ _ HSW.o ?_;clear hK KK x5 hR;try simp only[qN]);(refine wP 8 rfl HSW.o ?_;try simp only[qN]);refine wC 9 rfl (fun KK hK=>?_);go_simp;have XB:Hid (Ext w5 (w5.alloc (.cells #[vI (2*(t.links.length:Int)+(n:Int)),.bool neg,.s A k c,.s A' k' c'] 128))):=Hx ((eR w5).alloc _);have qi:=Hx (qa.o _ (E5.o.tr XB.o));refine hK.o _ _ qi.o ?_;clear hK KK HSW;have HSW:=qi;clear qi;have BW:=Hx (eN w5 128 #[vI (2*(t.links.length:Int)+(n:Int)),.bool neg,.s A k c,.s A' k' c']);have R6:=Hx (R5.o.K XB.o);have E6:=Hx (E5.o.tr XB.o);generalize w5.alloc (.cells #[vI (2*(t.links.length:Int)+(n:Int)),.bool neg,.s A k c,.s A' k' c'] 128)=W6 at*;obtain⟨css,h1,h2,qf,h4⟩:=I.o.1.K (X8.o.tr E6.o) fun cs y hy=>hy.K (X8.o.tr E6.o);rw[qe]at h1 qf;have qU:wc.heap.size<=W6.heap.size:=(by have:=X8.o.size;have:=E6.o.size;omega);refine wC 10 rfl (fun KK hK=>?_);refine fO W6 126 128 _ 4 64 _ _ rfl underlying126 jzds rfl qD wc.heap.size (.s A8 n c8) n css.flatten qR qf [vI (2*(t.links.length:Int)+(n:Int)),.bool neg,.s A k c,.s A' k' c'] rfl (by simp[Value.oneCell']) w5.heap.size qR BW.o (by unfold maxLen;omega) qO qU ?_;intro g7 c7 w7 qk qg qo;have k7:Hid (FrS (fun b=>(Value.slice A8 n c8).ownBlock=some b) W6 w7):=Hx (eG qg fun g e=>e);have n7:Hid (NoT (fun b=>(Value.slice A8 n c8).ownBlock=some b) W6 196):=Hx (fun b hb=>bK qf hb qD);have T7:Hid (TmO w7 wc.heap.size (.s (sA g7) (n+1) c7) (vTs (2*t.links.length) (amQ l) (n+1))):=Hx (by rw[jzc9];refine OwL.pushed (css:=css) (by rw[qe];exact h1) h2 h4 (us:=[vI (2*(t.links.length:Int)+(n:Int)),.bool neg,.s A k c,.s A' k' c']) rfl (fun cs y _ hy=>hy.fr k7.o n7.o) ⟨neg,A,k,c,A',k',c',?_,k7.o.ratR n7.o R6.o⟩ (by rw[qe];exact qk);have e9:((2*t.links.length+n:Nat):Int)=2*(t.links.length:Int)+(n:Int):=qO;simp only[e9])
  have X7:Hid (Ext wc w7):=Hx (k7.o.ext (I.o.2.tr (X8.o.tr E6.o)) fun b hb=>(qf.lt b hb).1);have qh:=Hx (show(w7.cell? (aD w.heap.size 0)=some (vI t.nodes)/\w7.cell? (aD w.heap.size 1)=some (.s AO t.over.length co)/\w7.cell? (aD w.heap.size 2)=some (.s AL t.links.length cl))/\w7.cell? (aD bd 2)=some (vI d.amount)from
   ⟨((I7.o.2.2.2.2.2.2.1.K X7.o).t3).1,(k7.o.blk (B8.o.K E6.o) fun hb=>bK qf hb qD _ _ (B8.o.K E6.o)).cell 2⟩)
  (refine hK.o _ _ qh.o ?_;clear hK KK HSW qk qg qf qo h1 h2 h4 css;have HSW:=qh;try simp only[qN]);refine aY qK rfl qR (fun KK hK=>?_);go_simp;refine hK.o _ _ ?_;clear hK KK HSW qh k7 n7 qa XD E2 E5 XB;refine wpAny_done qK ?_ _;go_wp2;go_roundg (l.length-(n+1));exact⟨n+1,rfl,qO,by go_num,Hx ⟨T7.o,X7.o⟩⟩;omega
 obtain rfl:l.length=n:=qO;clear hn qI;have qa:Hid (∀wx,Ext wr wx->wx.cell? (aD x 4)=some (.pointer (sA L.p))/\True):=Hx (fun wx hx=>⟨(I7.o.1.K (I.o.2.tr hx)).cell 4,trivial⟩);have XD:Hid (Ext wr wr.drew):=Hx ((eR wr).drewN 1);have HSW:=Hx (qa.o _ XD.o);(go_upto_region 14 with fail);(refine wX qa 6 ?_;refine wP 0 rfl HSW.o ?_;try simp only[qN]);refine wP 1 rfl HSW.o ?_;refine wP 2 rfl HSW.o ?_;refine wV 3 rfl HSW.o ?_;(refine wP 5 rfl HSW.o ?_;try simp only[qN]);refine wC 4 rfl (fun KK hK=>?_);go_simp;refine(dP 1 _ (by unfold i64;omega)).mono ?_;rintro e w5 ⟨neg,A,k,c,A',k',c',rfl,hR,x5⟩;have E5:=Hx (XD.o.tr x5);have HSW:=Hx (qa.o _ E5.o);have R5:=Hx hR;refine hK.o _ _ HSW.o ?_;clear hK KK x5 hR;try simp only[qN]
 have E7:Hid (Ext wc w5):=Hx (I.o.2.tr E5.o);have FL:=Hx (show FlR w w5 x mb t AO co AL cl l AD cd L (Sx.newT bs) zN [] []from
  ⟨I7.o.2.2.2.2.2.2.2.tr E7.o,HT.o.1,HT.o.2.1,I7.o.1.K E7.o,I7.o.2.2.2.2.1,I7.o.2.2.1.K E7.o,I7.o.2.2.2.1,OwL.nil _ _ _ _ _,I7.o.2.1.K E7.o,I7.o.2.2.2.2.2.1⟩)
 have qj:L.m=2*t.links.length+l.length:=I7.o.2.2.2.1;have TM:Hid (TmR w5 A8 (vTs (2*t.links.length) (amQ l) l.length)):=Hx (TmO.rd (B:=wc.heap.size) (c:=c8) (by rw[qe];exact I.o.1.K E5.o fun cs y hy=>hy.K E5.o));have SB:Hid (∀q∈bs,SzQ q 20):=Hx (fun q hq=>by obtain⟨i,hi,rfl⟩:=List.mem_iff_getElem.1 hq;have h1:i<2*t.links.length+l.length:=(by rw[<-BL.o];exact hi);have h2:=BA.o i h1;unfold Sx.at_ Sx.fb at h2;rw[yG hi]at h2;have h2:bs[i]=_:=h2;rw[h2];split;{rename_i h3;obtain⟨h4,_,_,_,h5,h6,h7⟩:=lB HT.o.2.2.v h3;rw[h5];exact(SzQ.int (by unfold B32;omega)).mono qD};exact SzQ.zero.mono qD);have AM:Hid (∀d,d<l.length->SzQ (amQ l d) 20):=Hx (fun d hd=>by obtain⟨_,_,_,h4,h5,h6⟩:=HT.o.2.2.am hd;rw[h4];exact(SzQ.int (by unfold B32;omega)).mono qD)
 have qA:=Hx (jzdu w.heap.size 20 l.length c8 L (Sx.newT bs) w5 FL.o.tab FL.o.ext.size (jzdw bs qD SB.o).1 (jzdw bs qD SB.o).2 qD qD (by have:=HT.o.2.2.n;omega) qO (yZ _) (yZ _)
  1 neg A k c A' k' c' R5.o ((SzQ.int (n:=1) qD).mono qD) A8 (vTs (2*t.links.length) (amQ l) l.length) qe TM.o qO (fun tt htt=>by
    unfold vTs at htt;obtain⟨d,hd,rfl⟩:=kQl.1 htt;have:=vX.1 hd;simp only;omega) (jzdb _ _ (SzQ.zero.mono qD) fun tt htt=>by
    unfold vTs at htt;obtain⟨d,hd,rfl⟩:=kQl.1 htt;exact AM.o d (vX.1 hd)) (fun j hj=>absurd hj (Nat.not_lt_zero _)) (yZ _))
 have qB:=Hx (show∀(L':aT) (w9:World),L'.p=L.p->L'.m=L.m->aF w9 w.heap.size L' (Sx.addT (Sx.newT bs) 1 (aQ L.m (vTs (2*t.links.length) (amQ l) l.length)))->FrS L.S w5 w9->(∀b,L'.S b->L.S b\/w5.heap.size<=b)->
   FlR w w9 x mb t AO co AL cl l AD cd L' (Sx.addT (Sx.newT bs) 1 (aQ L.m (vTs (2*t.links.length) (amQ l) l.length))) zN [] []/\Sx.FLP (2*t.links.length) l.length (amQ l) (aP t) (Sx.addT (Sx.newT bs) 1 (aQ L.m (vTs (2*t.links.length) (amQ l) l.length))) []from fun L' w9 h1 h2 h3 h4 h5=>
  ⟨FL.o.tabbed h3 h4 h1 h2 h5,by
   rw[qj];exact Sx.FLP.start BL.o BA.o (fun a ha=>by
    obtain⟨_,h6,_⟩:=lB HT.o.2.2.v ha;exact h6) (kI _ _) (fun i hi=>jzlf _ _ _ i hi)⟩)
 clear TM SB AM FL R5 E7;refine aY qK rfl qR (fun KK hK=>?_);go_simp;refine(qA.o).mono ?_;rintro e w9 ⟨L',rfl,g1,g2,g3,g4,g5⟩;have F9:=Hx (qB.o L' w9 g1 g2 g3 g4 g5);refine hK.o _ _ ?_;clear hK KK qA qB g1 g2 g3 g4 g5 HSW qa XD;refine wpAny_done qK ?_ _;go_wp2;go_ret;exact⟨x,mb,L',_,rfl,F9.o.1,F9.o.2⟩
theorem jzdx(ars:LN):fB (ars.map fun a:Nat=>(a:Int))=ints ars:=by unfold fB ints;rw[List.map_map];rfl
theorem jzl2(l:List UInt8):(⟨l.toArray⟩:ByteArray).size=l.length:=by show l.toArray.size=_;simp
theorem OwL.one{α:Type}{R:World->List Value->α->Prop}{e:TypeId}{s:Nat}{w}{B g:Nat}{us:List Value}{x:α}(hb:Blk w g e us.toArray)(hB:B<=g)(hus:us.length=s)(hR:R w us x):OwL R e s w B (.s (sA g) 1 1) [x]:=by
 refine⟨[us],rfl,fun cs hc=>by rw[xD.1 hc];exact hus,⟨by simp[hus],.inr ⟨g,1,us.toArray,rfl,hB,hb,yX _,by unfold maxLen;decide,by simp[hus],?_⟩⟩,fun i y hi=>?_⟩;{show us.take (1*s)=[us].flatten;rw[xQ,yU qO];simp};(cases i with|zero=>injection hi with hi;subst hi;exact⟨us,rfl,hR⟩|succ i=>cases hi)
theorem jzl3(L2 i:Nat){ars:LN}{k a:Nat}(h:ars[k]?=some a):pTs L2 (i,ars.take (k+1))=pTs L2 (i,ars.take k)++[(a,1)]:=by
 unfold pTs;rw[kQr,h];simp
theorem jzl4(T:Sx.Tb)(vals:LQ)(hinj:∀j k,j<T.fre.length->k<T.fre.length->Sx.atN T.fre j=Sx.atN T.fre k->j=k)(n:Nat)(hn:n<=T.fre.length):(Sx.slk T vals n).length<=vals.length:=by
 have qa:∀n,n<=T.fre.length->((Sx.slk T vals n).map (Sx.atN T.fre)).Nodup:=fun n=>(by (induction n with|zero=>intro _;exact List.nodup_nil|succ n ih=>intro hn;rw[rN];split;{rw[List.map_append,List.nodup_append];refine⟨ih qO,qS,fun a ha b hb e=>?_⟩;obtain⟨j,hj,rfl⟩:=kQl.1 ha;have hb:b=Sx.atN T.fre n:=(by simpa using hb);have h1:=lS T vals n j hj;have:=hinj j n qO qO (e.trans hb);omega};exact ih qO));have h1:=Sx.nodup_le (k:=List.range vals.length) (qa n hn) fun y hy=>(by obtain⟨j,hj,rfl⟩:=kQl.1 hy;exact vX.2 (lS T vals n j hj).2);rw[xV,kZm]at h1;exact h1
theorem jzdy{w0 w}{x mb:Nat}{t}{AO}{co:Nat}{AL}{cl:Nat}{l:List Dm}{AD}{cd:Nat}{L:aT}{T:Sx.Tb}{vP:Value}{P:List (Nat×LN)}(F:FlR w0 w x mb t AO co AL cl l AD cd L T vP P P)
  (hf:Fit t l) (hl:t.links.length<=10) (hD:l.length<=4) (hflp:Sx.FLP (2*t.links.length) l.length (amQ l) (aP t) T P) (hPl:P.length<=10000000000) (i:Nat) (hi:i<l.length) A (n c:Nat) (ars:LN) (hn:ars.length=n) (hA:RdT w 3 A (ints ars)) (qU:ars≠ []->∀ad,A=some ad->¬L.S ad.block) (hc:n<=c)
  (has:∀a∈ars,a<2*t.links.length) (hasl:n<=64) (hta:Tab w):
  Calls prog 29 #[.pointer (sA x),vI (i:Int),.s A n c] w fun e w'=>
   ((i,ars)∈P/\e=.returned bF/\Ext w w')\/
   ((i,ars)∉P/\e=.returned (.bool true)/\∃(L':aT) (vP':Value),FlR w0 w' x mb t AO co AL cl l AD cd L' (Sx.addT T 0 (aQ L.m (pTs (2*t.links.length) (i,ars)))) vP' (P++[(i,ars)]) (P++[(i,ars)])/\FrS (FlB x mb L vP) w w'/\∀b,FlB x mb L' vP' b->FlB x mb L vP b\/w.heap.size<=b):=by
 have HF:=Hx (kQa F hf);have HA:=Hx (kQa hA qU);have HT:=Hx hta;have HS:=Hx has;have qM:=Hx hflp;have B1:=Hx (eN w 98 #[vI (i:Int),.s A n c,bF,zN,zN]);have X1:=Hx ((eR w).alloc (.cells #[vI (i:Int),.s A n c,bF,zN,zN] 98));have qY:Hid ((⟨(Sx.nameL (i:Int) (ars.map fun a:Nat=>(a:Int))).toArray⟩:ByteArray).data.toList=dJ (i,ars)):=Hx (rfl);have qV:(⟨(Sx.nameL (i:Int) (ars.map fun a:Nat=>(a:Int))).toArray⟩:ByteArray).size<=maxLen:=by
  rw[jzl2];have h1:=wF (i:Int) (ars.map fun a:Nat=>(a:Int)) (by unfold i64;omega) (fun a ha=>by
   obtain⟨b,hb,rfl⟩:=kQl.1 ha;have:=has b hb;unfold i64;omega)
  rw[xV]at h1;unfold maxLen;omega
 have q5:=Hx qV;clear F hA qU hta has hflp qV hf
 go_enter func29,ntmps29
 go_upto_region 2 with fail
 generalize w.alloc (.cells #[vI (i:Int),.s A n c,bF,zN,zN] 98)=W1 at*;generalize hbp:w.heap.size=bp at*;have qa:=Hx (show∀wx,Ext W1 wx->wx.cell? (aD x 6)=some (.map (some mb))/\(wx.cell? (aD bp 0)=some (vI (i:Int))/\wx.cell? (aD bp 1)=some (.s A n c)/\wx.cell? (aD bp 2)=some bF/\wx.cell? (aD bp 3)=some zN/\wx.cell? (aD bp 4)=some zN)from fun wx hx=>
  ⟨(HF.o.1.box.K (X1.o.tr hx)).cell 6,(B1.o.K hx).cell 0,(B1.o.K hx).cell 1,(B1.o.K hx).cell 2,(B1.o.K hx).cell 3,(B1.o.K hx).cell 4⟩)
 have qt:=Hx (show∀wx,Ext w wx->Calls prog 50 #[.agg #[vI (i:Int),.s A n c,bF,zN,zN]] wx fun e w'=>e=.returned (.string ⟨(Sx.nameL (i:Int) (ars.map fun a:Nat=>(a:Int))).toArray⟩)/\Ext wx w' from fun wx hx=>
  jzdg (i:Int) (ars.map fun a:Nat=>(a:Int)) A n c (by rw[xV];exact hn) false none 0 0 none 0 0 wx (HT.o.K hx) (by rw[jzdx];exact(HA.o.1.K hx).rd) qO (by unfold i64;omega) (fun a ha=>by
   obtain⟨b,hb,rfl⟩:=kQl.1 ha;have:=HS.o b hb;unfold i64;omega))
 have XD:Hid (Ext W1 W1.drew):=Hx ((eR W1).drewN 1);have HSW:=Hx (qa.o _ XD.o);refine wX qa 6 ?_;refine wP 0 rfl HSW.o ?_;try simp only[qN]
 refine wP 1 rfl HSW.o ?_;try simp only[qN]
 refine wP 2 rfl HSW.o ?_;try simp only[qN]
 refine wV 3 rfl HSW.o ?_;try simp only[qN]
 refine uQ (m:=5) (i:=4) (v:=?_) rfl qK qK qK qD qK qK qK (fun _ _ _ h=>h) (kZe ⟨qR,?_⟩) HSW.o ?_;rotate_left
 focus (intro w hSw;obtain⟨s1,s2,s3,s4,s5,s6⟩:=hSw;go_simp;try with_reducible rfl)
 try simp only[qN]
 refine wC 5 rfl (fun KK hK=>?_);go_simp;refine(qt.o _ (X1.o.tr XD.o)).mono ?_;rintro e w2 ⟨rfl,x2⟩;have E2:=Hx (XD.o.tr x2);have HSW:=Hx (qa.o _ E2.o);refine hK.o _ _ HSW.o ?_;clear hK KK x2;try simp only[qN]
 refine aY qK rfl qR (fun KK hK=>?_);refine jzlj _ _ rfl mb P.length (P.map dJ) qR (HF.o.1.map.K (X1.o.tr E2.o)) _ qR q5.o ?_;rw[qY.o];refine hK.o _ _ ?_;clear hK KK HSW XD;refine wpAny_done qK ?_ _;try simp only[qN]
 by_cases qw:(i,ars)∈P
 ·have hd:decide (dJ (i,ars)∈List.map dJ P)=true:=yO ((jzdi _ _).2 qw)
  have qy:=Hx (kQa qw (X1.o.tr E2.o));rw[hd];clear hd qw;go_wp2;go_ret;exact .inl ⟨qy.o.1,rfl,qy.o.2⟩
 have hd:decide (dJ (i,ars)∈List.map dJ P)=false:=yP fun h=>qw ((jzdi _ _).1 h);have q3:=Hx qw;rw[hd];clear hd qw;have XD:Hid (Ext w2 w2.drew):=Hx ((eR w2).drewN 1);have HSW:=Hx (qa.o _ (E2.o.tr XD.o))
 go_upto_region 4 with fail
 refine wX qa 6 ?_;refine wP 0 rfl HSW.o ?_;try simp only[qN]
 refine wP 1 rfl HSW.o ?_;try simp only[qN]
 refine wP 2 rfl HSW.o ?_;try simp only[qN]
 refine wV 3 rfl HSW.o ?_;try simp only[qN]
 refine uQ (m:=5) (i:=4) (v:=?_) rfl qK qK qK qD qK qK qK (fun _ _ _ h=>h) (kZe ⟨qR,?_⟩) HSW.o ?_;rotate_left
 focus (intro w hSw;obtain⟨s1,s2,s3,s4,s5,s6⟩:=hSw;go_simp;try with_reducible rfl)
 try simp only[qN]
 refine wC 5 rfl (fun KK hK=>?_);go_simp;refine(qt.o _ (X1.o.tr (E2.o.tr XD.o))).mono ?_;rintro e w3 ⟨rfl,x3⟩;have E3:=Hx (E2.o.tr (XD.o.tr x3));have HSW:=Hx (qa.o _ E3.o);refine hK.o _ _ HSW.o ?_;clear hK KK x3;try simp only[qN]
 refine aY qK rfl qR (fun KK hK=>?_);refine jzlk _ _ _ rfl mb P.length (P.map dJ) qR (HF.o.1.map.K (X1.o.tr E3.o)) (by unfold maxLen;omega) _ qR q5.o qR ?_;intro w4 qI qQ;rw[qY.o]at qI;have F4:=Hx ((HF.o.1.K (X1.o.tr E3.o)).mapped qQ qI);have K4:Hid (FrS (fun b=>b=mb) w3 w4):=Hx (eG qQ fun g e=>by injection e with e;exact e.symm);have B4:=Hx (K4.o.blk (B1.o.K E3.o) fun e=>by
  have h1:=(HF.o.1.map.K (X1.o.tr E3.o)).not (t:=98) (cs:=#[vI (i:Int),.s A n c,bF,zN,zN]);rw[<-e]at h1;exact h1 (B1.o.K E3.o))
 have A4:=Hx (K4.o.rdT ((HF.o.1.map.K (X1.o.tr E3.o)).noT _) (HA.o.1.K (X1.o.tr E3.o)));have qW:Hid (FrS (FlB x mb L vP) w w4):=Hx ((eE (X1.o.tr E3.o)).tr K4.o fun b hb=>.inl (.inr (.inl hb)));refine hK.o _ _ ?_;clear hK KK HSW XD qI qQ K4 qa qt;refine wpAny_done qK ?_ _;try simp only[qN]
 have qa:=Hx (show∀wx,Ext w4 wx->wx.cell? (aD x 5)=some vP/\(wx.cell? (aD bp 0)=some (vI (i:Int))/\wx.cell? (aD bp 1)=some (.s A n c)/\wx.cell? (aD bp 2)=some bF/\wx.cell? (aD bp 3)=some zN/\wx.cell? (aD bp 4)=some zN)from fun wx hx=>
  ⟨(F4.o.box.K hx).cell 5,(B4.o.K hx).cell 0,(B4.o.K hx).cell 1,(B4.o.K hx).cell 2,(B4.o.K hx).cell 3,(B4.o.K hx).cell 4⟩)
 have XD:Hid (Ext w4 w4.drew):=Hx ((eR w4).drewN 1);have HSW:=Hx (qa.o _ XD.o)
 go_upto_region 5 with fail
 refine wX qa 10 ?_;refine wP 0 rfl HSW.o ?_;try simp only[qN]
 refine wP 1 rfl HSW.o ?_;try simp only[qN]
 refine wP 2 rfl HSW.o ?_;try simp only[qN]
 refine wP 3 rfl HSW.o ?_;try simp only[qN]
 refine wV 4 rfl HSW.o ?_;try simp only[qN]
 refine wV 5 rfl HSW.o ?_;try simp only[qN]
 refine wC 6 rfl (fun KK hK=>?_);go_simp;have XB:Hid (Ext w4 (w4.alloc (.cells #[vI (i:Int),.s A n c,bF,zN,zN] 98)).drew):=Hx (((eR w4).alloc _).drewN 1);have qp:=Hx (qa.o _ XB.o);refine hK.o _ _ qp.o ?_;clear hK KK HSW;have HSW:=qp;clear qp;have BW:Hid (Blk (w4.alloc (.cells #[vI (i:Int),.s A n c,bF,zN,zN] 98)).drew w4.heap.size 98 #[vI (i:Int),.s A n c,bF,zN,zN]):=Hx (eN w4 _ _);generalize (w4.alloc (.cells #[vI (i:Int),.s A n c,bF,zN,zN] 98)).drew=W6 at*;have F6:=Hx (F4.o.K XB.o);obtain⟨css,h1,h2,qg,h4⟩:=F6.o.pat;have qH:w0.heap.size<=W6.heap.size:=F6.o.ext.size;refine wC 7 rfl (fun KK hK=>?_);refine fO W6 34 98 _ 5 88 _ _ rfl underlying34 jzdr rfl qD w0.heap.size vP P.length css.flatten qR qg [vI (i:Int),.s A n c,bF,zN,zN] rfl (by simp[Value.oneCell']) w4.heap.size qR BW.o (by unfold maxLen;omega) qO qH ?_;intro g7 c7 w7 qi qe qm;have k7:Hid (FrS (fun b=>vP.ownBlock=some b) W6 w7):=Hx (eG qe fun g e=>e);have FP:=Hx (F6.o.pushed (p:=(i,ars)) h1 h2 h4 (us:=[vI (i:Int),.s A n c,bF,zN,zN]) rfl ⟨A,c,by simp only[hn],by rw[hn];exact hc,A4.o.K XB.o,HA.o.2⟩ qi qe);have A7:=Hx (k7.o.rdT (fun b hb=>bK qg hb qD) (A4.o.K XB.o));obtain⟨s1,s2,s3,s4⟩:=F6.o.sep;have qC:=Hx (k7.o.blk F6.o.box fun e=>(s3 x e).2.1 rfl);have qk:=Hx (show w7.cell? (aD x 5)=some vP/\(w7.cell? (aD bp 0)=some (vI (i:Int))/\w7.cell? (aD bp 1)=some (.s A n c)/\w7.cell? (aD bp 2)=some bF/\w7.cell? (aD bp 3)=some zN/\w7.cell? (aD bp 4)=some zN)from by
  have qB:=k7.o.blk (B4.o.K XB.o) fun e=>by
   obtain⟨xs,ho⟩:=HF.o.1.pat.own;have:=(ho.lt bp e).2;omega
  exact⟨qC.o.cell 5,qB.cell 0,qB.cell 1,qB.cell 2,qB.cell 3,qB.cell 4⟩)
 have N7:Hid (some g7=vP.ownBlock\/bp<=g7):=Hx (qm.imp id fun e=>by have:=(B4.o.K XB.o).lt;omega);refine hK.o _ _ qk.o ?_;clear hK KK HSW qi qe qg qm h1 h2 h4 css s1 s2 s3 s4;have HSW:=qk;try simp only[qN]
 have z0:w7.frozen? (aD x 5)=false:=qC.o.frozen _;have y0:w7.cell? (aD x 5)=some vP:=qk.o.1;refine wP 8 rfl HSW.o ?_;try simp only[qN]
 refine wP 9 rfl HSW.o ?_;try simp only[qN]
 refine aY qK rfl qR (fun KK hK=>?_);go_simp;refine hK.o _ _ ?_;clear hK KK HSW qk z0 y0;refine wpAny_done qK ?_ _;have A8:Hid (RdT (w7.setCell (aD x 5) (.s (sA g7) (P.length+1) c7)) 3 A (ints ars)):=Hx (A7.o.sT (p:=(aD x 5)) qC.o qD _);have qJ:Hid (FrS (FlB x mb L vP) w (w7.setCell (aD x 5) (.s (sA g7) (P.length+1) c7))):=Hx ((qW.o.tr (eE (S:=FlB x mb L vP) XB.o) fun b hb=>.inl hb).tr FP.o.2 fun b hb=>.inl (hb.elim (fun h=>.inl h) fun h=>.inr (.inr (.inr h))));have F8:=Hx FP.o.1;clear FP A7 qC k7 F6 A4 qW BW XB F4 B4 qa E2 E3 X1 B1;generalize w7.setCell (aD x 5) (.s (sA g7) (P.length+1) c7)=W8 at*;have q0:W8.cell? (aD x 0)=some (vI t.nodes):=F8.o.box.cell 0;have q1:W8.cell? (aD x 1)=some (.s AO t.over.length co):=F8.o.box.cell 1;have q2:W8.cell? (aD x 2)=some (.s AL t.links.length cl):=F8.o.box.cell 2;have qT:IntKind.i64.wrap (2*(t.links.length:Int)+(i:Int))=2*(t.links.length:Int)+(i:Int):=by rw[IntKind.wrap_i64];omega
 go_wp2_with fail
 refine(fX t AO co AL cl _ (F8.o.top.K F8.o.ext)).mono ?_;rintro e w9 ⟨rfl,x9⟩;have X9:=Hx x9;clear x9 q0 q1 q2
 go_wp2_with fail
 refine(dP (-1) _ (by unfold i64;omega)).mono ?_;rintro e wA ⟨neg,A1,k1,c1,qx,qA,qz,rfl,hR,xA⟩;have XA:=Hx (X9.o.tr xA);have RA:=Hx hR;clear xA hR X9;have XT:=Hx ((eR wA).alloc (.cells #[vI (2*(t.links.length:Int)+(i:Int)),.bool neg,.s A1 k1 c1,.s qx qA qz] 128));have T0:=Hx (show TmO (wA.alloc (.cells #[vI (2*(t.links.length:Int)+(i:Int)),.bool neg,.s A1 k1 c1,.s qx qA qz] 128)) wA.heap.size (.s (sA wA.heap.size) 1 1) (pTs (2*t.links.length) (i,ars.take 0))from by
  refine OwL.one (us:=[vI (2*(t.links.length:Int)+(i:Int)),.bool neg,.s A1 k1 c1,.s qx qA qz]) (eN wA _ _) (yX _) rfl ⟨neg,A1,k1,c1,qx,qA,qz,?_,RA.o.K XT.o⟩;have e9:((2*t.links.length+i:Nat):Int)=2*(t.links.length:Int)+(i:Int):=qO;simp only[e9])
 have va:W8.heap.size<=wA.heap.size:=XA.o.size
 go_upto_region 7 with fail
 clear qT;generalize wA.alloc (.cells #[vI (2*(t.links.length:Int)+(i:Int)),.bool neg,.s A1 k1 c1,.s qx qA qz] 128)=WT at*;generalize wA.heap.size=B8 at*;have E9:=Hx (XA.o.tr XT.o);have qZ:B8<=WT.heap.size:=by
  obtain⟨xs,ho⟩:=T0.o.own;have:=(ho.lt B8 rfl).2;omega
 clear RA XT XA;go_wp2
 go_loopg [8,10,49] n (fun q v8 _ it wx=>∃k:Nat,n-k=q/\k<=n/\it=vI (k:Int)/\Hid (TmO wx B8 v8 (pTs (2*t.links.length) (i,ars.take k))/\Ext W8 wx/\B8<=wx.heap.size))
 case atStart=>exact⟨0,rfl,yZ _,rfl,Hx ⟨T0.o,E9.o,qZ⟩⟩
 obtain⟨k,rfl,hk,rfl,I⟩:=hrel;clear T0 E9 qZ;obtain⟨A9,c9,q7,q9⟩:=I.o.1.form;have qh:(pTs (2*t.links.length) (i,ars.take k)).length=k+1:=(by unfold pTs;simp;omega);rw[qh]at q7 q9;subst q7;have vc:B8<=wr.heap.size:=I.o.2.2;by_cases q8:k<n
 ·obtain⟨a,ha⟩:∃a,ars[k]?=some a:=⟨_,yG qO⟩
  have NX:=Hx (jzl3 (2*t.links.length) i ha);obtain⟨b,o,rfl,hb,ca⟩:=jzb4 ((A8.o.K I.o.2.1).rd) ha;have nN:(k:Int)<(n:Int):=qO;have n0:(0:Int)<=(k:Int):=qO;clear ha
  go_wp2_with fail
  refine(dP 1 _ (by unfold i64;omega)).mono ?_;rintro e w5 ⟨qf,A5,k5,c5,qo,qj,qn,rfl,q6,x5⟩;have R5:Hid (aB (w5.alloc (.cells #[vI (a:Int),.bool qf,.s A5 k5 c5,.s qo qj qn] 128)) qf A5 k5 c5 qo qj qn 1):=Hx (q6.K ((eR _).alloc _));have XB:Hid (Ext wr (w5.alloc (.cells #[vI (a:Int),.bool qf,.s A5 k5 c5,.s qo qj qn] 128))):=Hx (x5.alloc _);have BW:=Hx (eN w5 128 #[vI (a:Int),.bool qf,.s A5 k5 c5,.s qo qj qn]);have IB:=Hx (I.o.1.K XB.o fun cs y hy=>hy.K XB.o);obtain⟨css,h1,h2,qg,h4⟩:=IB.o;rw[qh]at h1 qg;have qH:B8<=(w5.alloc (.cells #[vI (a:Int),.bool qf,.s A5 k5 c5,.s qo qj qn] 128)).heap.size:=yY vc XB.o.size;clear q6 x5 ca
  go_wp2_with (at_builtin;refine kZ _ 126 128 _ 4 64 rfl _ _ rfl underlying126 jzds rfl qD B8 (.s A9 (k+1) c9) (k+1) css.flatten rfl qg [vI (a:Int),.bool qf,.s A5 k5 c5,.s qo qj qn] rfl (by simp[Value.oneCell']) w5.heap.size rfl BW.o (by unfold maxLen;omega) qO qH ?_)
  intro g7 c7 w7 qi qe qm;have k7:=eG (S:=fun b=>(Value.slice A9 (k+1) c9).ownBlock=some b) qe fun g e=>e;have n7:NoT (fun b=>(Value.slice A9 (k+1) c9).ownBlock=some b) (w5.alloc (.cells #[vI (a:Int),.bool qf,.s A5 k5 c5,.s qo qj qn] 128)) 196:=fun b hb=>bK qg hb qD;have J:=Hx (show TmO w7 B8 (.s (sA g7) (k+1+1) c7) (pTs (2*t.links.length) (i,ars.take (k+1)))/\Ext W8 w7/\B8<=w7.heap.size from by
   refine⟨?_,k7.ext (I.o.2.1.tr XB.o) fun b hb=>yY va (qg.lt b hb).1,yY qH k7.size⟩;rw[NX.o];exact OwL.pushed (css:=css) (by rw[qh];exact h1) h2 h4 (us:=[vI (a:Int),.bool qf,.s A5 k5 c5,.s qo qj qn]) rfl (fun cs y _ hy=>hy.fr k7 n7) ⟨qf,A5,k5,c5,qo,qj,qn,rfl,k7.ratR n7 R5.o⟩ (by rw[qh];exact qi))
  clear qi qe qm qg h1 h2 h4 css k7 n7 IB BW XB R5 I;go_wp2
  go_roundg (n-(k+1))
  case measure=>omega
  exact⟨k+1,rfl,qO,by go_num,J⟩
 obtain rfl:k=n:=qO;rw[yU qO]at I qh;clear hk q8;have F9:=Hx (F8.o.K I.o.2.1);have q4:wr.cell? (aD x 4)=some (.pointer (sA L.p)):=F9.o.box.cell 4;have vd:L.m=2*t.links.length+l.length:=F9.o.m;obtain⟨z1,z2,_⟩:=oF HF.o.2 hl hD qM.o;obtain⟨y1,y2,y3,y4,y5,y6,y7,y8⟩:=qM.o.shape;obtain⟨x1,x2⟩:=qM.o.cols;have qX:=Hx (jzdu w0.heap.size 20 (k+1) c9 L T wr F9.o.tab F9.o.ext.size z1 z2 qD qD qO qO qO qO
  0 false none 0 0 none 0 0 (eJ _) (SzQ.zero.mono qD) A9 (pTs (2*t.links.length) (i,ars)) qh (TmO.rd (B:=B8) (c:=c9) (by rw[qh];exact I.o.1)) qO (fun tt htt=>by
    unfold pTs at htt;rcases xZ.1 htt with rfl|htt
    ·simp only;omega
    ·obtain⟨a,ha,rfl⟩:=kQl.1 htt
     have:=HS.o a ha;simp only;omega) (jzdb _ _ (SzQ.zero.mono qD) fun tt htt=>by
    unfold pTs at htt;rcases xZ.1 htt with rfl|htt
    ·exact(SzQ.int (n:= -1) qD).mono qD
    ·obtain⟨a,ha,rfl⟩:=kQl.1 htt
     exact(SzQ.int (n:=1) qD).mono qD) (fun j hj=>by have:=y6 j hj;omega) (by
    have:=jzl4 T (aQ L.m (pTs (2*t.links.length) (i,ars))) y5 T.fre.length (yX _);rw[kI]at this;omega))
 have qy:=Hx (show∀(L':aT) (w9:World),L'.p=L.p->L'.m=L.m->aF w9 w0.heap.size L' (Sx.addT T 0 (aQ L.m (pTs (2*t.links.length) (i,ars))))->FrS L.S wr w9->(∀b,L'.S b->L.S b\/wr.heap.size<=b)->
   (i,ars)∉P/\FlR w0 w9 x mb t AO co AL cl l AD cd L' (Sx.addT T 0 (aQ L.m (pTs (2*t.links.length) (i,ars)))) (.s (sA g7) (P.length+1) c7) (P++[(i,ars)]) (P++[(i,ars)])/\FrS (FlB x mb L vP) w w9/\∀b,FlB x mb L' (.s (sA g7) (P.length+1) c7) b->FlB x mb L vP b\/bp<=b from fun L' w9 h1 h2 h3 h4 h5=>
  ⟨q3.o,F9.o.tabbed h3 h4 h1 h2 h5,((qJ.o.tr (eE (S:=FlB x mb L vP) I.o.2.1) fun b hb=>.inl hb).tr h4 fun b hb=>.inl (.inr (.inr (.inl hb)))),fun b hb=>by
   have k1:=qJ.o.size;have k2:=I.o.2.1.size;rcases hb with hb|hb|hb|hb
   ·exact .inl (.inl hb)
   ·exact .inl (.inr (.inl hb))
   ·rcases h5 b hb with k3|k3
    ·exact .inl (.inr (.inr (.inl k3)))
    exact .inr qO
   injection hb with hb
   have hb:g7=b:=hb;subst hb;rcases N7.o with k3|k3
   ·exact .inl (.inr (.inr (.inr k3.symm)))
   exact .inr k3⟩)
 clear I F9 F8 A8 z1 z2 y1 y2 y3 y4 y5 y6 y7 y8 x1 x2 qJ q3
 go_wp2_with fail
 refine(qX.o).mono ?_;rintro e w9 ⟨L',rfl,g1,g2,g3,g4,g5⟩;have FF:=Hx (qy.o L' w9 g1 g2 g3 g4 g5);clear qX qy g1 g2 g3 g4 g5 q4;go_wp2;go_ret;refine .inr ⟨FF.o.1,rfl,L',_,FF.o.2.1,FF.o.2.2.1,?_⟩;rw[hbp];exact FF.o.2.2.2
theorem oH(a b:Rat):bG a b<0↔a<b:=by
 unfold bG;split;{rename_i h;simp[h]};rename_i h;split <;> simp[h]
theorem rP(a b:Rat):0<bG a b↔b<a:=by
 unfold bG;split;{rename_i h;exact⟨fun h2=>qO,fun h2=>absurd h (kQ4.2 (vB h2))⟩};rename_i h;split;{rename_i h1;exact⟨fun h2=>qO,fun h2=>by rw[h1]at h2;exact absurd h2 kZf⟩};rename_i h1;exact⟨fun _=>Rat.not_le.1 (fun h2=>h1 (Rat.le_antisymm h2 (kQ4.1 h))),fun _=>qD⟩
theorem rQ(a b:Rat):bG a b=0↔a=b:=by
 unfold bG;split;{rename_i h;exact⟨fun h2=>qO,fun h2=>by rw[h2]at h;exact absurd h kZf⟩};split;{rename_i h1;simp[h1]};rename_i h1;exact⟨fun h2=>qO,fun h2=>absurd h2 h1⟩
theorem QL.take{w}{A}{qs:LQ}(h:QL w A qs)(n:Nat):QL w A (qs.take n):=by
 obtain⟨css,h1,h2,h3,h4⟩:=h;have hl:=fZ css h2;have qf:(css.take n).flatten.length=(css.take n).length*3:=fZ _ fun cs hc=>h2 cs (xM hc);refine⟨css.take n,by rw[xF,xF,h1],fun cs hc=>h2 cs (xM hc),?_,fun i q hi=>?_⟩;{intro qg;have qa:css.flatten≠ []:=fun e=>qg (by have e1:css.flatten.length=0:=(by rw[e];rfl);rw[hl]at e1;apply kQz;rw[qf,xF];omega);obtain⟨b,o,e,hb,hc⟩:=h3 qa;refine⟨b,o,e,hb,fun i hi=>?_⟩;have qh:i<css.flatten.length:=(by rw[hl];rw[qf,xF]at hi;omega);rw[hc i qh];have e2:css.flatten=(css.take n).flatten++(css.drop n).flatten:=(by rw[<-List.flatten_append,kZz]);rw[e2,yR hi]};have qe:i<n:=(by have:=(yH.1 hi).1;rw[xF]at this;omega);rw[xG,qE qe]at hi;obtain⟨cs,k1,k2⟩:=h4 i q hi;exact⟨cs,by rw[xG,qE qe];exact k1,k2⟩
theorem jzdz t AO(co:Nat)AL(cl:Nat)PP(np cp:Nat)(ps:LQ)(hnp:ps.length=np)(P:Nat)(s d:Int)w(ht:bD w t AO co AL cl)(hps:QL w PP ps)(hpl:np<=1000000)(hP:1<=P)(hP2:P<=1000000)(hsz:∀q∈ps,SzQ q P):
  Calls prog 49 #[.agg #[vI t.nodes,.s AO t.over.length co,.s AL t.links.length cl],zN,.s PP np cp,vI s,vI d] w (oA w ps (chP t [] ps s d)):=by
 subst hnp;exact jzkq t AO co AL cl none 0 [] PP cp ps P s d w ht (Rd.nil _ _) qD qD hps hpl hP hP2 hsz
structure iW(w0 w wx:World)(x mb:Nat)(t:Tp)(AO:OA)(co:Nat)(AL:OA)(cl:Nat)(l:List Dm)(AD:OA)(cd:Nat)(gl:Nat)(pr:LQ)(T:Sx.Tb)(P:List (Nat×LN))(n:Nat)(more:Bool)(L':aT)(T':Sx.Tb)(vP':Value)(P':List (Nat×LN)):Prop where
 fl:FlR w0 wx x mb t AO co AL cl l AD cd L' T' vP' P' P'
 lp:Sx.FLP (2*t.links.length) l.length (amQ l) (aP t) T' P'
 dif:P'.Nodup
 loop:∀p∈P',p.1<l.length/\Lpl t (bE l p.1) (bC l p.1) p.2
 few:P'.length<=P.length+n
 mor:more=true->P.length<P'.length
 non:more=false->P'=P/\T'=T/\∀d,d<n->(chP t [] (pr.take (2*t.links.length)) (bE l d:Int) (bC l d:Int)).2=0->prQ (pr.take (2*t.links.length)) (chP t [] (pr.take (2*t.links.length)) (bE l d:Int) (bC l d:Int)).1<Sx.at_ pr (2*t.links.length+d)->(d,(chP t [] (pr.take (2*t.links.length)) (bE l d:Int) (bC l d:Int)).1)∈P
 qb:QB wx gl pr
 far:¬FlB x mb L' vP' gl
 ext:Ext w0 wx
theorem jzl5{w0 w:World}{x mb:Nat}{t:Tp}{AO:OA}{co:Nat}{AL:OA}{cl:Nat}{l:List Dm}{AD:OA}{cd:Nat}{L:aT}{T:Sx.Tb}{vP:Value}{P:List (Nat×LN)}(F:FlR w0 w x mb t AO co AL cl l AD cd L T vP P P)
  (hf:Fit t l) (hl:t.links.length<=10) (hD:l.length<=4) (hflp:Sx.FLP (2*t.links.length) l.length (amQ l) (aP t) T P) (hdif:P.Nodup) (hloop:∀p∈P,p.1<l.length/\Lpl t (bE l p.1) (bC l p.1) p.2) (hPl:P.length+4<=10000000000)
  (gl:Nat) (pr:LQ) (hq:QB w gl pr) (hpl:pr.length=2*t.links.length+l.length) (qX:∀q∈pr,SzQ q 20) (q5:∀q∈pr,0<=q) (hgl:¬FlB x mb L vP gl) (hta:Tab w0):
  Calls prog 31 #[.pointer (sA x),.s (sA gl) (2*t.links.length+l.length) (2*t.links.length+l.length)] w fun e w'=>
   ∃(more:Bool) (L':aT) (T':Sx.Tb) (vP':Value) (P':List (Nat×LN)),e=.returned (.bool more)/\iW w0 w w' x mb t AO co AL cl l AD cd gl pr T P l.length more L' T' vP' P':=by
 have G0:Hid (iW w0 w w x mb t AO co AL cl l AD cd gl pr T P 0 false L T vP P):=Hx (⟨F,hflp,hdif,hloop,yX _,(fun h=>by cases h),fun _=>⟨rfl,rfl,fun d hd=>qO⟩,hq,hgl,F.ext⟩);have HF:=Hx (kQa hf (kQa qX q5));have qw:=Hx hpl;have vc:=F.dem.len;have vg:=F.top.ll;have q0:w.cell? (aD x 0)=some (vI t.nodes):=F.box.cell 0;have q1:w.cell? (aD x 1)=some (.s AO t.over.length co):=F.box.cell 1;have q2:w.cell? (aD x 2)=some (.s AL t.links.length cl):=F.box.cell 2;have TP:=Hx (kQa F.top F.dem);have qV:=Hx hta;go_enter func31,ntmps31;(go_wp2_with fail);refine(fX t AO co AL cl _ (TP.o.1.K G0.o.ext)).mono ?_;rintro e w1 ⟨rfl,x1⟩;have qZ:(2*(t.links.length:Int))=((2*t.links.length:Nat):Int):=qO;have G1:Hid (iW w0 w w1 x mb t AO co AL cl l AD cd gl pr T P 0 false L T vP P):=Hx (⟨G0.o.fl.K x1,G0.o.lp,G0.o.dif,G0.o.loop,G0.o.few,G0.o.mor,G0.o.non,G0.o.qb.K x1,G0.o.far,G0.o.ext.tr x1⟩);clear x1 q0 q1 q2 G0 qZ;have q3:w1.cell? (aD x 3)=some (.s AD l.length cd):=G1.o.fl.box.cell 3;go_wp2;go_loopg [6,7,8,9,10,11,22] l.length (fun q s6 _ _ _ _ _ it wx=>∃(n:Nat) (more:Bool) (L':aT) (T':Sx.Tb) (vP':Value) (P':List (Nat×LN)),l.length-n=q/\n<=l.length/\it=vI (n:Int)/\s6=.bool more/\Hid (iW w0 w wx x mb t AO co AL cl l AD cd gl pr T P n more L' T' vP' P'));(case atStart=>exact⟨0,false,L,T,vP,P,rfl,yZ _,rfl,rfl,G1⟩);obtain⟨n,more,L',T',vP',P',rfl,hn,rfl,rfl,G⟩:=hrel;by_cases qy:n<l.length
 ·obtain⟨d,hd⟩:∃d,l[n]?=some d:=⟨_,yG qy⟩;obtain⟨b,o,rfl,hb,a0,a1,a2,a3⟩:=TP.o.2.at_ hd;have a0:=aA G.o.ext a0;have a1:=aA G.o.ext a1;have a2:=aA G.o.ext a2;have a3:=aA G.o.ext a3;have hb:b<wr.heap.size:=yL hb G.o.ext.size;have HN:Hid (bE l n<t.nodes.toNat/\bC l n<t.nodes.toNat/\d.src=(bE l n:Int)/\d.dst=(bC l n:Int)):=Hx (by obtain⟨h1,h2,h3,h4,h5⟩:=HF.o.1.nodes qy;have e:l[n]=d:=(yH.1 hd).2;rw[e]at h4 h5;exact⟨h1,h2,h4,h5⟩);have nN:(n:Int)<(l.length:Int):=qO;have n0:(0:Int)<=(n:Int):=qO;have X8:Hid (Ext wr (wr.alloc (.cells #[vI d.src,vI d.dst,vI d.amount,vI d.prio] 60))):=Hx ((eR wr).alloc _);have B8:=Hx (eN wr 60 #[vI d.src,vI d.dst,vI d.amount,vI d.prio]);go_upto_region 6 with fail
  generalize wr.alloc (.cells #[vI d.src,vI d.dst,vI d.amount,vI d.prio] 60)=W8 at*;generalize hbd:wr.heap.size=bd at*;generalize hR:chP t [] (pr.take (2*t.links.length)) d.src d.dst=R;have HR:=Hx hR;have XD:Hid (Ext W8 W8.drew):=Hx ((eR W8).drewN 1);have XA:Hid (Ext W8 (W8.alloc (.cells #[.bool false,zN,zN] 33)).drew):=Hx (((eR W8).alloc _).drewN 1);have BA:Hid (Blk (W8.alloc (.cells #[.bool false,zN,zN] 33)).drew W8.heap.size 33 #[.bool false,zN,zN]):=Hx (eN W8 _ _);have qa:=Hx (show∀wx,Ext W8 wx->(wx.cell? (aD x 0)=some (vI t.nodes)/\wx.cell? (aD x 1)=some (.s AO t.over.length co)/\wx.cell? (aD x 2)=some (.s AL t.links.length cl)/\wx.cell? (aD bd 0)=some (vI d.src)/\wx.cell? (aD bd 1)=some (vI d.dst))from fun wx hx=>
   ⟨(G.o.fl.box.K (X8.o.tr hx)).cell 0,(G.o.fl.box.K (X8.o.tr hx)).cell 1,(G.o.fl.box.K (X8.o.tr hx)).cell 2,(B8.o.K hx).cell 0,(B8.o.K hx).cell 1⟩)
  have CH:Hid (∀wx,Ext W8 wx->Calls prog 49 #[.agg #[vI t.nodes,.s AO t.over.length co,.s AL t.links.length cl],zN,.s (sA gl) (2*(t.links.length:Int)).toNat (2*(t.links.length:Int)).toNat,vI d.src,vI d.dst] wx (oA wx (pr.take (2*t.links.length)) R)):=Hx (fun wx hx=>by rw[show(2*(t.links.length:Int)).toNat=2*t.links.length by omega];have h1:=jzdz t AO co AL cl (sA gl) (2*t.links.length) (2*t.links.length) (pr.take (2*t.links.length)) (by rw[xF,qw.o];omega) 20 d.src d.dst wx (TP.o.1.K (G.o.ext.tr (X8.o.tr hx))) ((G.o.qb.K (X8.o.tr hx)).ql.take _) qO qD qD (fun q hq=>HF.o.2.1 q (xM hq));rw[HR.o]at h1;exact h1)
  go_cut [9,10,11] (fun s9 s10 s11 wx=>∃(A:OA) (c bx:Nat) (neg:Bool) (A1:OA) (n1 c1:Nat) (A2:OA) (n2 c2:Nat),s9=.s A R.1.length c/\s10=.pointer (sA bx)/\s11=vI R.2/\
   Hid (Blk wx bx 33 #[.bool neg,.s A1 n1 c1,.s A2 n2 c2]/\aB wx neg A1 n1 c1 A2 n2 c2 (prQ (pr.take (2*t.links.length)) R.1)/\RdN W8.heap.size wx A (ints R.1)/\R.1.length<=c/\Ext W8 wx))
  case first=>
   have va:(0:Int)<=2*(t.links.length:Int):=qO;have vd:2*(t.links.length:Int)<=2*(t.links.length:Int)+(l.length:Int):=qO;have ve:2*(t.links.length:Int)<=2*(t.links.length:Int):=Int.le_refl _;have bN:bd≠W8.heap.size:=(by have:=B8.o.lt;omega);have xN:x≠W8.heap.size:=(by have:=G.o.fl.box.lt;have:=X8.o.size;omega);obtain⟨c0,c1,c2,c3,c4⟩:=qa.o _ XD.o;obtain⟨y0,y1,y2,y3,y4⟩:=qa.o _ XA.o
   go_region_held3 (fun w'=>w'.cell? (aD x 0)=some (vI t.nodes)/\w'.cell? (aD x 1)=some (.s AO t.over.length co)/\w'.cell? (aD x 2)=some (.s AL t.links.length cl)/\w'.cell? (aD bd 0)=some (vI d.src)/\w'.cell? (aD bd 1)=some (vI d.dst))
    (first|with_reducible exact⟨c0,c1,c2,c3,c4⟩|with_reducible exact⟨y0,y1,y2,y3,y4⟩|with_reducible exact⟨aU c0 _,aU c1 _,aU c2 _,aU c3 _,aU c4 _⟩|exact⟨aG (aG (aG c0 xN) xN) xN,aG (aG (aG c1 xN) xN) xN,aG (aG (aG c2 xN) xN) xN,aG (aG (aG c3 bN) bN) bN,aG (aG (aG c4 bN) bN) bN⟩|fail)
    (first
     |(go_at_call 49
       first
       |(with_reducible refine(CH.o _ (by with_reducible exact XD.o)).mono ?_
         rintro e w5 ⟨A,c,neg,A1,n1,d1,A2,n2,d2,rfl,qx,qj,qz,qk⟩;have E5:Hid (aB w5 neg A1 n1 d1 A2 n2 d2 (prQ (pr.take (2*t.links.length)) R.1)/\RdN W8.heap.size w5 A (ints R.1)/\R.1.length<=c/\Ext W8 w5):=Hx (⟨qz,⟨qj.1,fun p hp=>yY XD.o.size (qj.2 p hp)⟩,qx,XD.o.tr qk⟩))
       |(with_reducible refine(CH.o _ (by with_reducible exact XA.o)).mono ?_
         rintro e w5 ⟨A,c,neg,A1,n1,d1,A2,n2,d2,rfl,qx,qj,qz,qk⟩;have E5:Hid (aB w5 neg A1 n1 d1 A2 n2 d2 (prQ (pr.take (2*t.links.length)) R.1)/\RdN W8.heap.size w5 A (ints R.1)/\R.1.length<=c/\Ext W8 w5):=Hx (⟨qz,⟨qj.1,fun p hp=>yY XA.o.size (qj.2 p hp)⟩,qx,XA.o.tr qk⟩);have B5:=Hx (BA.o.K qk);obtain⟨⟨m0,m1,m2⟩,r0,r1,r2⟩:=B5.o.t3)
       obtain⟨c0,c1,c2,c3,c4⟩:=qa.o _ E5.o.2.2.2;clear qk qx qj qz)
     |fail)
   all_goals
    go_wp2;go_meet
    first
    |exact⟨A,c,_,neg,A1,n1,d1,A2,n2,d2,rfl,rfl,rfl,Hx ⟨eN w5 _ _,E5.o.1.K ((eR w5).alloc _),⟨E5.o.2.1.1.K ((eR w5).alloc _),E5.o.2.1.2⟩,E5.o.2.2.1,E5.o.2.2.2.alloc _⟩⟩
    |(have b0:=B5.o.sT 0 (.bool neg)
      have b1:=b0.sT 1 (.s A1 n1 d1);have qT:=dH (w:=W8) E5.o.1 B5.o (yX _) E5.o.2.2.2;exact⟨A,c,W8.heap.size,neg,A1,n1,d1,A2,n2,d2,rfl,rfl,rfl,Hx ⟨b1.sT 2 (.s A2 n2 d2),qT.1,⟨((E5.o.2.1.1.sT (p:=(aD W8.heap.size 0)) B5.o qD _).sT (p:=(aD W8.heap.size 1)) b0 qD _).sT (p:=(aD W8.heap.size 2)) b1 qD _,E5.o.2.1.2⟩,E5.o.2.2.1,qT.2⟩⟩)
  obtain⟨A,c,bx,neg,A1,n1,c1,A2,n2,c2,rfl,rfl,rfl,C⟩:=hcut;have XC:Hid (Ext wr wc):=Hx (X8.o.tr C.o.2.2.2.2);have qB:(pr.take (2*t.links.length)).length=2*t.links.length:=(by rw[xF,qw.o];omega);have qe:eM t (pr.take (2*t.links.length))=true:=kK qB fun q hq=>HF.o.2.2 q (xM hq);have qM:=Hx (kJ HF.o.1.v qe HN.o.1 HN.o.2.1);have qp:=Hx (show chP t [] (pr.take (2*t.links.length)) (bE l n:Int) (bC l n:Int)=R by rw[<-HN.o.2.2.1, <-HN.o.2.2.2];exact HR.o);rw[qp.o]at qM;have GC:Hid (iW w0 w wc x mb t AO co AL cl l (some (aD b o)) cd gl pr T P n more L' T' vP' P'):=Hx (⟨G.o.fl.K XC.o,G.o.lp,G.o.dif,G.o.loop,G.o.few,G.o.mor,G.o.non,G.o.qb.K XC.o,G.o.far,G.o.ext.tr XC.o⟩);obtain⟨ny,Y1,my,fy,qJ,qH,qA,⟨s0,s1,s2⟩,_,hy⟩:=GC.o.qb.at_ (aO (show 2*t.links.length+n<pr.length by rw[qw.o];omega));have RY:=Hx hy;have qf:=GC.o.qb.lt;obtain⟨⟨v0,v1,v2⟩,_⟩:=C.o.1.t3;have qg:=C.o.1.lt;have q7:IntKind.i64.wrap (2*(t.links.length:Int)+(n:Int))=2*(t.links.length:Int)+(n:Int):=(by rw[IntKind.wrap_i64];omega);have m0:(0:Int)<=2*(t.links.length:Int)+(n:Int):=qO;have m1:2*(t.links.length:Int)+(n:Int)<2*(t.links.length:Int)+(l.length:Int):=qO;have qQ:Hid (R.1.length<=64):=Hx (by have q6:t.nodes<=64:=(by have:=HF.o.1.v;unfold aH cS inB at this;simp at this;exact this.1.1.1.2);(rcases qM.o with⟨y,h1,h2,_⟩|⟨h1,_⟩);{rw[h1];have:=h2.len HF.o.1.v HN.o.1;simp only;omega};rw[h1];exact yZ _);obtain⟨l1,vh⟩:=C.o.2.1.lens ((SzQ.pr qD (fun q hq=>HF.o.2.1 q (xM hq)) R.1).mono (show _<=2000 from by have:=qQ.o;omega));obtain⟨l2,vi⟩:=hy.lens (HF.o.2.1 _ (yJ (aO (show 2*t.links.length+n<pr.length by rw[qw.o];omega))));clear hy;by_cases qh:R.2=0
  ·by_cases qt:prQ (pr.take (2*t.links.length)) R.1<Sx.at_ pr (2*t.links.length+n)
   ·have qU:bG (prQ (pr.take (2*t.links.length)) R.1) (Sx.at_ pr (2*t.links.length+n))<0:=(oH _ _).2 qt;have qY:decide (bG (prQ (pr.take (2*t.links.length)) R.1) (Sx.at_ pr (2*t.links.length+n))<0)=true:=yO qU;obtain⟨qn,qI⟩:Lpl t (bE l n) (bC l n) R.1/\True:=(by (rcases qM.o with⟨y,h1,h2,_⟩|⟨h1,_⟩);{rw[h1];exact⟨h2,trivial⟩};rw[h1]at qh;exact absurd qh qD);have qi:=Hx qn;have qa:Hid (∀wx,Ext wc wx->(wx.cell? (aD bx 0)=some (.bool neg)/\wx.cell? (aD bx 1)=some (.s A1 n1 c1)/\wx.cell? (aD bx 2)=some (.s A2 n2 c2))/\(wx.cell? (aD gl ((2*(t.links.length:Int)+(n:Int)).toNat*3))=some (.bool ny)/\wx.cell? (aD gl ((2*(t.links.length:Int)+(n:Int)).toNat*3+1))=some (.s Y1 my fy)/\wx.cell? (aD gl ((2*(t.links.length:Int)+(n:Int)).toNat*3+2))=some (.s qJ qH qA))):=Hx (fun wx hx=>by rw[show(2*(t.links.length:Int)+(n:Int)).toNat=2*t.links.length+n by omega];exact⟨⟨aA hx v0,aA hx v1,aA hx v2⟩,aA hx s0,aA hx s1,aA hx s2⟩);have XD:Hid (Ext wc wc.drew):=Hx ((eR wc).drewN 1);have HSW:=Hx (qa.o _ XD.o);generalize hr2':R.2=r2 at*;subst qh;clear qn qI qt qf qg v0 v1 v2 s0 s1 s2;(go_upto_region 7 with fail);(refine wX qa 17 ?_;refine wP 0 rfl HSW.o ?_;try simp only[Act.put,yA,yB,yC,yD,yE,yF]);(refine wP 1 rfl HSW.o ?_;try simp only[Act.put,yA,yB,yC,yD,yE,yF]);(refine wP 2 rfl HSW.o ?_;try simp only[Act.put,yA,yB,yC,yD,yE,yF]);(refine wU [17,13,10] 3 rfl HSW.o ?_;try simp only[Act.put,yA,yB,yC,yD,yE,yF]);(refine wP 4 rfl HSW.o ?_;try simp only[Act.put,yA,yB,yC,yD,yE,yF]);(refine wP 5 rfl HSW.o ?_;try simp only[Act.put,yA,yB,yC,yD,yE,yF]);(refine wP 6 rfl HSW.o ?_;try simp only[Act.put,yA,yB,yC,yD,yE,yF]);(refine wP 7 rfl HSW.o ?_;try simp only[Act.put,yA,yB,yC,yD,yE,yF]);(refine wP 8 rfl HSW.o ?_;try simp only[Act.put,yA,yB,yC,yD,yE,yF]);(refine wU [17,13,10] 9 rfl HSW.o ?_;try simp only[Act.put,yA,yB,yC,yD,yE,yF]);(refine wC 10 rfl (fun KK hK=>?_);go_simp;refine(fE neg ny A1 n1 c1 A2 n2 c2 Y1 my fy qJ qH qA (prQ (pr.take (2*t.links.length)) R.1) (Sx.at_ pr (2*t.links.length+n)) _ (C.o.2.1.K XD.o) (RY.o.K XD.o) qO qO qO qO).mono ?_;rintro e w9 ⟨rfl,x9⟩;have E9:=Hx (XD.o.tr x9);have HSW:=Hx (qa.o _ E9.o);refine hK.o _ _ HSW.o ?_;clear hK KK x9;try simp only[Act.put,yA,yB,yC,yD,yE,yF]);(refine wP 11 rfl HSW.o ?_;try simp only[Act.put,yA,yB,yC,yD,yE,yF]);(refine wP 12 rfl HSW.o ?_;try simp only[Act.put,yA,yB,yC,yD,yE,yF]);(refine wP 13 rfl HSW.o ?_;try simp only[Act.put,yA,yB,yC,yD,yE,yF]);(refine wP 14 rfl HSW.o ?_;try simp only[Act.put,yA,yB,yC,yD,yE,yF]);(refine wP 15 rfl HSW.o ?_;try simp only[Act.put,yA,yB,yC,yD,yE,yF]);(refine wP 16 rfl HSW.o ?_;try simp only[Act.put,yA,yB,yC,yD,yE,yF]);have G9:Hid (iW w0 w w9 x mb t AO co AL cl l (some (aD b o)) cd gl pr T P n more L' T' vP' P'):=Hx (⟨GC.o.fl.K E9.o,GC.o.lp,GC.o.dif,GC.o.loop,GC.o.few,GC.o.mor,GC.o.non,GC.o.qb.K E9.o,GC.o.far,GC.o.ext.tr E9.o⟩);have q8:=G9.o.few;have qC:=Hx (jzdy G9.o.fl HF.o.1 hl hD G9.o.lp qO n qy A R.1.length c R.1 rfl (C.o.2.2.1.1.K E9.o) (fun hx ad had hs=>by have h1:=C.o.2.2.1.2 ad had;have h2:=(G.o.fl.tab.ty hs).2.1;have h3:=X8.o.size;omega) C.o.2.2.2.1 (fun a ha=>iV _ qi.o.1 a ha) qQ.o (qV.o.K G9.o.ext));(refine aY qK rfl qR (fun KK hK=>?_);go_simp;refine(qC.o).mono ?_;rintro e wA qo;rcases qo with⟨hin,rfl,hxA⟩|⟨hnin,rfl,L2,vP2,F2,k2,far2⟩);{have GG:Hid (iW w0 w wA x mb t AO co AL cl l (some (aD b o)) cd gl pr T P (n+1) more L' T' vP' P'):=Hx (⟨G9.o.fl.K hxA,G9.o.lp,G9.o.dif,G9.o.loop,qO,G9.o.mor,fun hm=>by obtain⟨h1,h2,h3⟩:=G9.o.non hm;refine⟨h1,h2,fun d' hd' h4 h5=>?_⟩;by_cases e:d'=n;{subst e;rw[qp.o, <-h1];exact hin};exact h3 d' qO h4 h5,G9.o.qb.K hxA,G9.o.far,G9.o.ext.tr hxA⟩);(refine hK.o _ _ ?_;clear hK KK HSW qa XD qC G9 GC E9 hin hxA;try simp only[Act.put,yA,yB,yC,yD,yE,yF]);refine kX (i:=18) qK rfl qR (fun KK hK=>?_);go_simp;refine hK.o _ _ ?_;clear hK KK;refine wpAny_done qK ?_ _;go_wp2;go_roundg (l.length-(n+1));(case measure=>omega);exact⟨n+1,more,L',T',vP',P',rfl,qO,by go_num,rfl,GG⟩}
    have qW:L'.m=2*t.links.length+l.length:=G9.o.fl.m;have GG:=Hx (show iW w0 w wA x mb t AO co AL cl l (some (aD b o)) cd gl pr T P (n+1) true L2 (Sx.addT T' 0 (aQ L'.m (pTs (2*t.links.length) (n,R.1)))) vP2 (P'++[(n,R.1)])from
     ⟨F2,by
      rw[qW];exact G9.o.lp.add (kI _ _) fun i hi=>jzc8 _ _ (n,R.1) (fun a ha=>iV _ qi.o.1 a ha) i hi,by
      rw[List.nodup_append];exact⟨G9.o.dif,qS,fun p hp q hq e=>hnin (by rw[xD.1 hq]at e;rw[<-e];exact hp)⟩,fun p hp=>by
      rcases xY.1 hp with hp|hp
      ·
       exact G9.o.loop p hp
      ·
       rw[xD.1 hp]
       exact⟨qy,qi.o⟩,by rw[yQ,kZd];omega,fun _=>by
      rw[yQ,kZd];cases hmore:more
      ·
       rw[(G9.o.non hmore).1];omega
      ·
       have:=G9.o.mor hmore;omega,(fun h=>by cases h),G9.o.qb.fr k2 G9.o.fl.lo.2 G9.o.far,fun hb=>by
      rcases far2 gl hb with h1|h1
      ·
       exact G9.o.far h1
      have:=G9.o.qb.lt;omega,F2.ext⟩)
    (refine hK.o _ _ ?_;clear hK KK HSW qa XD qC G9 GC E9 hnin F2 k2 far2;try simp only[Act.put,yA,yB,yC,yD,yE,yF]);refine kX (i:=18) qK rfl qR (fun KK hK=>?_);go_simp;refine hK.o _ _ ?_;clear hK KK;refine wpAny_done qK ?_ _;go_wp2;go_roundg (l.length-(n+1));(case measure=>omega);exact⟨n+1,true,L2,_,vP2,_,rfl,qO,by go_num,rfl,GG⟩
   have qU:decide (bG (prQ (pr.take (2*t.links.length)) R.1) (Sx.at_ pr (2*t.links.length+n))<0)=false:=yP fun h=>qt ((oH _ _).1 h);have G9:Hid (∀wx,Ext wc wx->iW w0 w wx x mb t AO co AL cl l (some (aD b o)) cd gl pr T P (n+1) more L' T' vP' P'):=Hx (fun wx hx=>⟨GC.o.fl.K hx,GC.o.lp,GC.o.dif,GC.o.loop,by have:=GC.o.few;omega,GC.o.mor,fun hm=>by obtain⟨h1,h2,h3⟩:=GC.o.non hm;refine⟨h1,h2,fun d' hd' h4 h5=>?_⟩;by_cases e:d'=n;{subst e;rw[qp.o]at h5;exact absurd h5 qt};exact h3 d' qO h4 h5,GC.o.qb.K hx,GC.o.far,GC.o.ext.tr hx⟩);generalize R.2=r2 at*;subst qh;have x0:=XW.cell _ _ _ qg v0;have x1:=XW.cell _ _ _ qg v1;have x2:=XW.cell _ _ _ qg v2;have z0:=XW.cell _ _ _ qf s0;have z1:=XW.cell _ _ _ qf s1;have z2:=XW.cell _ _ _ qf s2;(go_upto_region 7 with fail);go_cut [62] (fun s wx=>s=.bool false/\Ext wc wx);(case first=>refine dG qK qK ?_;(repeat (go_big_quiet_step ((go_at_call 19;exact Calls.ext_of (fE neg ny A1 n1 c1 A2 n2 c2 Y1 my fy qJ qH qA (prQ (pr.take (2*t.links.length)) R.1) (Sx.at_ pr (2*t.links.length+n)) _ (C.o.2.1.K (XW.ext _)) (RY.o.K (XW.ext _)) qO qO qO qO)))));refine wpQuiet_nil ?_;rintro _ ⟨x,rfl⟩;go_wp2;go_meet;exact⟨rfl,x.ext⟩);obtain⟨rfl,qm⟩:=hcut;have GG:=Hx (G9.o _ qm);clear G9 qm GC;go_wp2;go_roundg (l.length-(n+1));(case measure=>omega);exact⟨n+1,more,L',T',vP',P',rfl,qO,by go_num,rfl,GG⟩
  have q9:(R.2==0)=false:=yK.2 qh;have q4:decide (R.2=0)=false:=yP qh;have G9:Hid (∀wx,Ext wc wx->iW w0 w wx x mb t AO co AL cl l (some (aD b o)) cd gl pr T P (n+1) more L' T' vP' P'):=Hx (fun wx hx=>⟨GC.o.fl.K hx,GC.o.lp,GC.o.dif,GC.o.loop,by have:=GC.o.few;omega,GC.o.mor,fun hm=>by obtain⟨h1,h2,h3⟩:=GC.o.non hm;refine⟨h1,h2,fun d' hd' h4 h5=>?_⟩;by_cases e:d'=n;{subst e;rw[qp.o]at h4;exact absurd h4 qh};exact h3 d' qO h4 h5,GC.o.qb.K hx,GC.o.far,GC.o.ext.tr hx⟩);generalize R.2=r2 at*;(go_upto_region 7 with fail);go_cut [62] (fun s wx=>s=.bool false/\Ext wc wx);(case first=>refine dG qK qK ?_;(repeat (go_big_quiet_step (fail)));refine wpQuiet_nil ?_;rintro _ ⟨x,rfl⟩;go_wp2;go_meet;exact⟨rfl,x.ext⟩);obtain⟨rfl,qm⟩:=hcut;have GG:=Hx (G9.o _ qm);clear G9 qm GC;go_wp2;go_roundg (l.length-(n+1));(case measure=>omega);exact⟨n+1,more,L',T',vP',P',rfl,qO,by go_num,rfl,GG⟩
 obtain rfl:n=l.length:=qO;go_wp2;go_ret;exact⟨more,L',T',vP',P',rfl,G.o⟩
end Go.Proofs.YtfeeacaofjpkaaaGreatDoor
