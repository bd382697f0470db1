/- Walks, part 13. -/
import Derived.Test.YtojpooidhilnfaaGreatDoorT12
set_option linter.unusedVariables false
set_option linter.unusedSimpArgs false
set_option maxRecDepth 100000
set_option maxHeartbeats 8000000
namespace Go.Proofs.YtojpooidhilnfaaGreatDoor
open Go.Proofs.Tryz
open Go.RowKit
structure SzT(T:Sx.Tb)(P:Nat):Prop where
 co:∀i,i<T.rows.length->∀q∈(T.row i).co,SzQ q P
 re:∀i,i<T.rows.length->SzQ (T.row i).re P
 go:∀q∈T.goal.co,SzQ q P
 gr:SzQ T.goal.re P
structure OkT(T:Sx.Tb):Prop where
 cl:∀i,i<T.rows.length->(T.row i).co.length=T.fre.length
 gl:T.goal.co.length=T.fre.length
def jzdm(w:World)(B:Nat)(L:aR)(T':Sx.Tb)(e:Ending)(w':World):Prop:=e=.returned (.tuple #[])/\aG w' B L T'/\FrS L.S w w'
theorem jzmn(X:LQ)(j:Nat)(q:Rat):Sx.sclL X j q 0=X.set j 1:=by
 unfold Sx.sclL Sx.at_;apply uK;intro k;by_cases hk:k<X.length;{rw[yW,xJ hk];simp only[kQ9,Nat.not_lt_zero,if_false];by_cases e:k=j;{subst e;rw[qE rfl,yM hk]};rw[qF e,vN (fun e2=>e e2.symm),yG hk];rfl};rw[yI (by simp;omega),yI (by rw[yV];omega)]
theorem jzdn(X:LQ)(j:Nat)(q:Rat){i:Nat}(hi:i<X.length):(Sx.sclL X j q i)[i]?=some (if i=j then 1 else Sx.at_ X i):=by
 unfold Sx.sclL;rw[yW,xJ hi];simp only[kQ9,kZr,if_false]
theorem jzdo(X:LQ)(j:Nat)(q:Rat){i:Nat}(hi:i<X.length):Sx.sclL X j q (i+1)=(Sx.sclL X j q i).set i ((if i=j then 1 else Sx.at_ X i)*q):=by
 apply uK;intro k;by_cases hk:k<X.length;{by_cases e:i=k;{subst e;rw[yM (by rw[Sx.sclL_len];exact hi)];unfold Sx.sclL;rw[yW,xJ hk];simp only[kQ9];rw[qE (show i<i+1 by omega)]};rw[vN e];unfold Sx.sclL;rw[yW,yW,xJ hk];simp only[kQ9];have:(k<i+1↔k<i):=qO;by_cases h:k<i;{rw[qE (this.2 h),qE h]};rw[qF (fun h2=>h (this.1 h2)),qF h]};rw[yI (by rw[Sx.sclL_len];omega),yI (by rw[yV,Sx.sclL_len];omega)]
theorem jzmo(X:LQ)(j:Nat)(q:Rat){i:Nat}(hi:i<X.length)(h0:(if i=j then 1 else Sx.at_ X i)=0):Sx.sclL X j q (i+1)=Sx.sclL X j q i:=by
 have h:=jzdn X j q hi;rw[h0]at h;rw[jzdo X j q hi,h0,Rat.zero_mul];apply uK;intro k;by_cases e:i=k;{subst e;rw[yM (by rw[Sx.sclL_len];exact hi),h]};rw[vN e]
theorem jzdp{w:World}{B g c n i:Nat}{l:LN}(h:w.ownsRow B 3 1 (.s (sA g) n c) n (ints l))(hi:i<n):w.cell? (aD g i)=some (vI (Sx.atN l i:Nat))/\w.frozen? (aD g i)=false:=by
 obtain⟨g',c',qa,e1,_,e3,_,_,_,e7⟩:=iX h qO;injection e1 with e1 _ _
 injection e1 with e1
 injection e1 with e1
 subst e1;refine⟨?_,e3.frozen i⟩;have hl:l.length=n:=(by have:=h.1;rw[fN]at this;omega);rw[e3.cell, <-kQw];have h1:(qa.toList.take (n*1))[i]?=(ints l)[i]?:=(by rw[e7]);rw[xG,qE qO]at h1;rw[h1];unfold ints Sx.atN;rw[yW,yG qO];rfl
theorem jzdq:mkQ (decide ((1:Int)<0)) (1:Int).natAbs 1=1:=jzao 1
def dS(T:Sx.Tb)(i j n:Nat):Sx.Tb:=cK T i ⟨Sx.sclL (T.row i).co j (1/Sx.at_ (T.row i).co j) n,(T.row i).re⟩
theorem jzdr(T:Sx.Tb)(i:Nat)(r s:Sx.Rw):cK (cK T i r) i s=cK T i s:=by unfold cK;simp
theorem jzmp(B i j bg P:Nat)(L:aR)(T:Sx.Tb)w(h:aG w B L T)(vu:OkT T)(vy:SzT T P)(hP:P<=100000)(hi:i<L.m)(hj:j<T.fre.length)(hp:Sx.at_ (T.row i).co j≠0)(hm:L.m<=1000000)(hK:T.fre.length<=1000000000000)
  (v7:Blk w bg 160 #[.pointer (some (aD L.p 3))]):
  Calls prog 97 #[.pointer (sA L.p),vI (i:Int),vI (j:Int),.s (sA bg) 1 1] w (jzdm w B L (Sx.pivT T i j)):=by
 obtain⟨g,cr,vd,zC⟩:=h.vr_form qO;have qn:i<T.rows.length:=(by rw[h.rl];exact hi);have va:=vu.cl i qn;obtain⟨gv,cv,hV,zj,qM⟩:=(h.co i hi).form (by rw[va];omega);rw[va]at hV zj;obtain⟨cb,hb,zm⟩:=h.rwa hi vd;obtain⟨cp,vg,zs,p0,p1,p2,p7⟩:=h.goa;have q0:=(vg.cell 0).trans p0;rw[vd]at q0;obtain⟨nr,R1,m1,d1,zx,zI,zG,r0,r1,r2,r3,rr⟩:=zm;have qr:=(hb.cell (i*4)).trans r0;rw[hV]at qr;have vG:j<(T.row i).co.length:=(by rw[va];exact hj);have qI:=h.co i hi;rw[hV]at qI;obtain⟨nf,F1,f1,e1,vi,q6,vq,⟨x0,x1,x2⟩,⟨y0,y1,y2⟩,rf⟩:=qI.cell (aV vG);have zy:L.p<w.heap.size:=vg.lt;have vR:g<w.heap.size:=hb.lt;have iN:(i:Int)<(L.m:Int):=qO;have jN:(j:Int)<(T.fre.length:Int):=qO;have i0:(0:Int)<=(i:Int):=qO;have j0:(0:Int)<=(j:Int):=qO;have H:=Hx (kQa h (kQa vu vy));have HV:=Hx (kQa vd (kQa hV va));have HR:=Hx (kQa rf rr);have HB:=Hx (kQa hb (kQa vg v7));have HP:=Hx hp;have vK:=Hx (vy.co i qn _ (yJ (aV vG)));clear h vu vy vd va hV hb vg v7 rf rr qI zs p0 p1 p2 p7 r0 r1 r2 r3 vG hp;generalize hKK:T.fre.length=K at*;have qV:=Hx hKK;clear hKK;go_enter func97,ntmps97;(go_upto_region 1 with fail);have XD:Hid (Ext w w.drew):=Hx ((eR w).drewN 1);have XA:Hid (Ext w (w.alloc (.cells rV 35)).drew):=Hx (((eR w).alloc _).drewN 1);have BN:Hid (Blk (w.alloc (.cells rV 35)).drew w.heap.size 35 rV):=Hx (eN w _ _);have qa:Hid (∀wx,Ext w wx->(wx.cell? (aD g (i*4))=some (.s (sA gv) K cv)/\wx.cell? (aD gv (j*3))=some (.bool nf)/\wx.cell? (aD gv (j*3+1))=some (.s F1 f1 e1)/\wx.cell? (aD gv (j*3+2))=some (.s vi q6 vq))):=Hx (fun wx hx=>⟨aB hx qr,aB hx x0,aB hx x1,aB hx x2⟩);have LF:=Hx (HR.o.1.lens vK.o);obtain⟨zn,v8⟩:=LF.o;have vz:f1<=134217728:=qO;have vF:q6<=134217728:=qO;obtain⟨qQ,i1,i2,i3⟩:=qa.o _ XD.o;obtain⟨u0,u1,u2,u3⟩:=qa.o _ XA.o;go_cut [9] (fun sl wx=>∃(gs:Nat) (ns:Bool) (A3:OA) (l3 c3:Nat) (qh:OA) (qf qi:Nat),sl=.pointer (sA gs)/\Hid (w.heap.size<=gs/\Blk wx gs 35 #[.bool ns,.s A3 l3 c3,.s qh qf qi]/\aC wx ns A3 l3 c3 qh qf qi (1/Sx.at_ (T.row i).co j)/\Ext w wx))
 case first=>
  go_region_held3 (fun w'=>w'.cell? (aD g (i*4))=some (.s (sA gv) K cv)/\w'.cell? (aD gv (j*3))=some (.bool nf)/\w'.cell? (aD gv (j*3+1))=some (.s F1 f1 e1)/\w'.cell? (aD gv (j*3+2))=some (.s vi q6 vq))
   (first|with_reducible exact⟨qQ,i1,i2,i3⟩|with_reducible exact⟨u0,u1,u2,u3⟩|with_reducible exact⟨aH qQ _,aH i1 _,aH i2 _,aH i3 _⟩|exact⟨aA (aA (aA qQ fT) fT) fT,aA (aA (aA i1 fG) fG) fG,aA (aA (aA i2 fG) fG) fG,aA (aA (aA i3 fG) fG) fG⟩|fail)
   (first
    |(go_at_call 33
      first
      |(with_reducible refine(kO 1 w.drew qD qD).mono ?_
        rintro e w8 ⟨n8,A8,l8,c8,vk,vh,vp,rfl,h8,x8⟩;have E8:=Hx (XD.o.tr x8))
      |(with_reducible refine(kO 1 (w.alloc (.cells rV 35)).drew qD qD).mono ?_
        rintro e w8 ⟨n8,A8,l8,c8,vk,vh,vp,rfl,h8,x8⟩;have E8:=Hx (XA.o.tr x8);have B8:=Hx (BN.o.K x8))
      rw[jzdq]at h8;have R8:=Hx h8;obtain⟨zD,zb⟩:=R8.o.lens (show SzQ 1 1 from⟨qD,qD⟩);obtain⟨qQ,i1,i2,i3⟩:=qa.o _ E8.o;clear x8 h8)
    |(go_at_call 73
      first
      |(with_reducible refine(lB n8 nf A8 l8 c8 vk vh vp F1 f1 e1 vi q6 vq 1 (Sx.at_ (T.row i).co j) _ (by with_reducible exact R8.o) (HR.o.1.K (by with_reducible exact E8.o)) HP.o qO qO vz vF).mono ?_
        rintro e w9 ⟨n9,A9,l9,c9,qy,qp,qt,rfl,h9,x9⟩;have E9:=Hx (E8.o.tr x9)
        first
        |(have B9:=Hx (B8.o.K x9)
          obtain⟨⟨v0,v1,v2⟩,z0,z1,z2⟩:=B9.o.t3;have gg:w.heap.size<=w.heap.size:=yX _;have fT:g≠w.heap.size:=kQb vR;have fG:gv≠w.heap.size:=kQb qM)
        |skip)
      |(have xa:=(eR w8).alloc (.cells rV 35)
        with_reducible refine(lB n8 nf A8 l8 c8 vk vh vp F1 f1 e1 vi q6 vq 1 (Sx.at_ (T.row i).co j) _ (R8.o.K (by with_reducible exact xa)) (HR.o.1.K (by with_reducible exact E8.o.tr xa)) HP.o qO qO vz vF).mono ?_
        rintro e w9 ⟨n9,A9,l9,c9,qy,qp,qt,rfl,h9,x9⟩;have E9:=Hx ((E8.o.tr xa).tr x9);have gg:w.heap.size<=w8.heap.size:=E8.o.size;have fT:g≠w8.heap.size:=kQb (yL vR gg);have fG:gv≠w8.heap.size:=kQb (yL qM gg);have B9:=Hx ((eN w8 35 rV).K x9);obtain⟨⟨v0,v1,v2⟩,z0,z1,z2⟩:=B9.o.t3;clear xa)
      have R9:=Hx h9;obtain⟨qQ,i1,i2,i3⟩:=qa.o _ E9.o;clear x9 h9)
    |fail)
  all_goals
   go_wp2;go_meet
   first
   |(obtain⟨k1,k2⟩:=dM (w:=w) R9.o B9.o gg E9.o
     exact⟨_,n9,A9,l9,c9,qy,qp,qt,rfl,Hx ⟨gg,((B9.o.sT 0 _).sT 1 _).sT 2 _,k1,k2⟩⟩)
   |(have xb:=(eR w9).alloc (.cells #[.bool n9,.s A9 l9 c9,.s qy qp qt] 35)
     exact⟨w9.heap.size,n9,A9,l9,c9,qy,qp,qt,rfl,Hx ⟨E9.o.size,eN w9 _ _,R9.o.K xb,E9.o.tr xb⟩⟩)
 obtain⟨gs,ns,A3,l3,c3,qh,qf,qi,rfl,G⟩:=hcut;clear XD XA BN qa LF qQ i1 i2 i3 u0 u1 u2 u3 zn v8 vz vF;have vx:Hid (SzQ (1/Sx.at_ (T.row i).co j) (1+P)):=Hx ((show SzQ 1 1 from⟨qD,qD⟩).div vK.o HP.o);have NS:Hid (¬L.S gs):=Hx (fun hs=>by have:=(H.o.1.ty hs).2.1;have:=G.o.1;omega);have I0:Hid (aG wc B L T/\FrS L.S w wc/\Blk wc gs 35 #[.bool ns,.s A3 l3 c3,.s qh qf qi]/\aC wc ns A3 l3 c3 qh qf qi (1/Sx.at_ (T.row i).co j)):=Hx (⟨H.o.1.K G.o.2.2.2,eE G.o.2.2.2,G.o.2.1,G.o.2.2.1⟩);have VC:Hid (∀wx Tc,aG wx B L Tc->wx.cell? (aD g (i*4))=some (.s (sA gv) K cv)):=Hx (fun wx Tc hx=>by obtain⟨cs,hb,_,_,_,_,_,_,_,r0,_⟩:=hx.rwa hi HV.o.1;rw[HV.o.2.1]at r0;exact(hb.cell _).trans r0);have qe:g≠gv:=fun e=>(by obtain⟨xs,h1⟩:=(H.o.1.co i hi).own;obtain⟨c,h2⟩:=aS h1 (show(L.V i).ownBlock=some gv by rw[HV.o.2.1];rfl);subst e;have:=(bJ HB.o.1 h2).2;exact absurd this qD);have q1:=VC.o _ _ I0.o.1;have q2:=show wc.drew.cell? (aD g (i*4))=some (.s (sA gv) K cv)from q1;have XD:Hid (Ext wc wc.drew):=Hx ((eR wc).drewN 1);(go_upto_region 2 with fail);go_cut [] (fun wx=>Hid (aG wx B L (dS T i j 0)/\FrS L.S w wx/\Blk wx gs 35 #[.bool ns,.s A3 l3 c3,.s qh qf qi]/\aC wx ns A3 l3 c3 qh qf qi (1/Sx.at_ (T.row i).co j)))
 case first=>
  go_region_held3 (fun w'=>w'.cell? (aD g (i*4))=some (.s (sA gv) K cv))
   (first|with_reducible exact q2|with_reducible exact q8|exact aA (aA (aA q8 qe) qe) qe|fail)
   (first
    |(go_at_call 33
      with_reducible refine(kO 1 wc.drew qD qD).mono ?_
      rintro e w8 ⟨n8,A8,l8,c8,vk,vh,vp,rfl,h8,x8⟩;have E8:=Hx (XD.o.tr x8);rw[jzdq]at h8;have R8:=Hx h8;have q8:=aB E8.o q1;have fz:=(show∀k,w8.frozen? (aD gv k)=false from fun k=>by
       obtain⟨xs,h1⟩:=((I0.o.1.K E8.o).co i hi).own;obtain⟨c,h2⟩:=aS h1 (show(L.V i).ownBlock=some gv by rw[HV.o.2.1];rfl);exact h2.frozen k)
      have z0:=fz (j*3);have z1:=fz (j*3+1);have z2:=fz (j*3+2);have cc:=((I0.o.1.K E8.o).co i hi);rw[HV.o.2.1]at cc;obtain⟨_,_,_,_,_,_,_,⟨t0,t1,t2⟩,_⟩:=cc.cell (aV (show j<(T.row i).co.length by rw[HV.o.2.2];exact hj));clear x8 h8 fz cc)
    |fail)
  all_goals
   go_wp2;go_meet;exact Hx (by
    obtain⟨k1,k2⟩:=(I0.o.1.K E8.o).co_set hi HV.o.1 HV.o.2.1 HV.o.2.2 hj R8.o;have e1:dS T i j 0=cK T i ⟨(T.row i).co.set j 1,(T.row i).re⟩:=(by unfold dS;rw[jzmn]);rw[e1];exact⟨k1,(I0.o.2.1.tr (eE (S:=L.S) E8.o) fun b hb=>.inl hb).tr k2 fun b hb=>.inl hb,k2.blk (I0.o.2.2.1.K E8.o) NS.o,k2.ratR (I0.o.1.K E8.o).no32 (I0.o.2.2.2.K E8.o)⟩)
 have I1:=hcut;have HX:Hid (∀n,(dS T i j n).row i=⟨Sx.sclL (T.row i).co j (1/Sx.at_ (T.row i).co j) n,(T.row i).re⟩):=Hx (fun n=>by unfold dS;rw[pB _ _ _ qn,qE rfl]);have vO:Hid (∀n,((dS T i j n).row i).co.length=K):=Hx (fun n=>by rw[HX.o n];show(Sx.sclL _ _ _ _).length=K;rw[Sx.sclL_len];exact HV.o.2.2);have za:Hid (L.S gv):=Hx (.inr (.inr (.inr (.inr ⟨i,kQe hi,by rw[HV.o.2.1];rfl⟩))));have q3:=VC.o _ _ I1.o.1;clear I0 q1 q2 XD G hcut;go_wp2;go_loopg [11,12,46] K (fun q _ _ it wx=>∃n:Nat,K-n=q/\n<=K/\it=vI (n:Int)/\Hid (aG wx B L (dS T i j n)/\FrS L.S w wx/\Blk wx gs 35 #[.bool ns,.s A3 l3 c3,.s qh qf qi]/\aC wx ns A3 l3 c3 qh qf qi (1/Sx.at_ (T.row i).co j)));exact⟨0,rfl,yZ _,rfl,I1⟩;obtain⟨n,rfl,hn,rfl,I⟩:=hrel;clear I1 q3;by_cases v5:n<K
 ·(have vc:n<(T.row i).co.length:=by rw[HV.o.2.2];exact v5);obtain⟨xn,ve⟩:∃xn,(if n=j then 1 else Sx.at_ (T.row i).co n)=xn:=⟨_,rfl⟩;have v6:=Hx ve;have zq:Hid (SzQ xn (1+P)):=Hx (by rw[<-ve];split;{exact(show SzQ 1 1 from⟨qD,qD⟩).mono qO};exact(H.o.2.2.co i qn _ (yJ (aV vc))).mono qO);have qI:=I.o.1.co i hi;rw[HV.o.2.1,HX.o n]at qI;obtain⟨ne,E1,p1,q1,qU,qT,qW,⟨v0,v1,v2⟩,⟨g0,g1,g2⟩,re⟩:=qI.cell (jzdn (T.row i).co j (1/Sx.at_ (T.row i).co j) vc);rw[ve]at re;have ze:gv<wr.heap.size:=yL qM I.o.2.1.size;have nK:(n:Int)<(K:Int):=qO;have n0:(0:Int)<=(n:Int):=qO;have RE:=Hx re;have CE:=Hx (kQa (kQa v0 (kQa v1 v2)) (kQa g0 (kQa g1 g2)));have XB:=(eR wr).alloc (.cells #[.bool ne,.s E1 p1 q1,.s qU qT qW] 35);have SG:=Hx (bW ne E1 p1 q1 qU qT qW xn _ (re.K XB));clear re XB ve qI g0 g1 g2;go_wp2_with fail;refine SG.o.mono ?_;rintro e w4 ⟨rfl,x4⟩;have X4:Hid (Ext wr w4/\Blk w4 wr.heap.size 35 #[.bool ne,.s E1 p1 q1,.s qU qT qW]):=Hx (⟨((eR wr).alloc _).tr x4,(eN wr _ _).K x4⟩);clear x4 SG v0 v1 v2;by_cases vl:xn=0;{have qX:aE xn=0:=(iW xn).2 vl;rw[qX];have I4:Hid (aG w4 B L (dS T i j (n+1))/\FrS L.S w w4/\Blk w4 gs 35 #[.bool ns,.s A3 l3 c3,.s qh qf qi]/\aC w4 ns A3 l3 c3 qh qf qi (1/Sx.at_ (T.row i).co j)):=Hx (by have e1:dS T i j (n+1)=dS T i j n:=(by unfold dS;rw[jzmo _ _ _ vc (by rw[v6.o,vl])]);rw[e1];exact⟨I.o.1.K X4.o.1,I.o.2.1.tr (eE (S:=L.S) X4.o.1) fun b hb=>.inl hb,I.o.2.2.1.K X4.o.1,I.o.2.2.2.K X4.o.1⟩);clear qX vl I;go_wp2;go_roundg (K-(n+1));exact⟨n+1,rfl,qO,by go_num,I4⟩;omega}
  have qX:¬aE xn=0:=fun h=>vl ((iW xn).1 h);have zH:(aE xn !=0)=true:=(by simpa using qX);have zw:decide (aE xn=0)=false:=yP qX;have zF:(aE xn==0)=false:=(by simpa using qX);generalize aE xn=sy at*;have T4:=Hx (I.o.1.K X4.o.1);have XD:Hid (Ext w4 w4.drew):=Hx ((eR w4).drewN 1);have qa:=Hx (show∀wx,Ext w4 wx->(wx.cell? (aD g (i*4))=some (.s (sA gv) K cv)/\(wx.cell? (aD wr.heap.size 0)=some (.bool ne)/\wx.cell? (aD wr.heap.size 1)=some (.s E1 p1 q1)/\wx.cell? (aD wr.heap.size 2)=some (.s qU qT qW))/\wx.cell? (aD gs 0)=some (.bool ns)/\wx.cell? (aD gs 1)=some (.s A3 l3 c3)/\wx.cell? (aD gs 2)=some (.s qh qf qi))from fun wx hx=>
   ⟨aB hx (VC.o _ _ T4.o),(X4.o.2.K hx).t3.1,((I.o.2.2.1.K X4.o.1).K hx).t3.1⟩)
  obtain⟨k0,⟨k1,k2,k3⟩,k4,k5,k6⟩:=qa.o _ XD.o;have b1:wr.heap.size≠gv:=qO;have b2:gs≠gv:=fun e=>NS.o (by rw[e];exact za.o);obtain⟨zv,zA⟩:=RE.o.lens zq.o;obtain⟨zJ,zt⟩:=I.o.2.2.2.lens vx.o;go_wp2
  go_region_held3 (fun w'=>w'.cell? (aD g (i*4))=some (.s (sA gv) K cv)/\(w'.cell? (aD wr.heap.size 0)=some (.bool ne)/\w'.cell? (aD wr.heap.size 1)=some (.s E1 p1 q1)/\w'.cell? (aD wr.heap.size 2)=some (.s qU qT qW))/\w'.cell? (aD gs 0)=some (.bool ns)/\w'.cell? (aD gs 1)=some (.s A3 l3 c3)/\w'.cell? (aD gs 2)=some (.s qh qf qi))
   (first|with_reducible exact⟨k0,⟨k1,k2,k3⟩,k4,k5,k6⟩|exact⟨aA (aA (aA k0 qe) qe) qe,⟨aA (aA (aA k1 b1) b1) b1,aA (aA (aA k2 b1) b1) b1,aA (aA (aA k3 b1) b1) b1⟩,aA (aA (aA k4 b2) b2) b2,aA (aA (aA k5 b2) b2) b2,aA (aA (aA k6 b2) b2) b2⟩|fail)
   (first
    |(go_at_call 32
      with_reducible refine(iL ne ns E1 p1 q1 qU qT qW A3 l3 c3 qh qf qi xn (1/Sx.at_ (T.row i).co j) _ ((RE.o.K X4.o.1).K (by with_reducible exact XD.o)) ((I.o.2.2.2.K X4.o.1).K (by with_reducible exact XD.o)) qO qO qO qO).mono ?_
      rintro e w5 ⟨n5,A5,l5,c5,qw,qx,qz,rfl,h5,x5⟩;have E5:=Hx (XD.o.tr x5);have R5:=Hx h5;obtain⟨k0,⟨k1,k2,k3⟩,k4,k5,k6⟩:=qa.o _ E5.o;have t0:=aB (X4.o.1.tr E5.o) CE.o.1.1;have t1:=aB (X4.o.1.tr E5.o) CE.o.1.2.1;have t2:=aB (X4.o.1.tr E5.o) CE.o.1.2.2;have z0:=nL (X4.o.1.tr E5.o) CE.o.1.1 CE.o.2.1;have z1:=nL (X4.o.1.tr E5.o) CE.o.1.2.1 CE.o.2.2.1;have z2:=nL (X4.o.1.tr E5.o) CE.o.1.2.2 CE.o.2.2.2;clear h5 x5)
    |fail)
  all_goals
   have I6:=Hx (show aG (((w5.setCell (aD gv (n*3)) (.bool n5)).setCell (aD gv (n*3+1)) (.s A5 l5 c5)).setCell (aD gv (n*3+2)) (.s qw qx qz)) B L (dS T i j (n+1))/\FrS L.S w (((w5.setCell (aD gv (n*3)) (.bool n5)).setCell (aD gv (n*3+1)) (.s A5 l5 c5)).setCell (aD gv (n*3+2)) (.s qw qx qz))/\Blk (((w5.setCell (aD gv (n*3)) (.bool n5)).setCell (aD gv (n*3+1)) (.s A5 l5 c5)).setCell (aD gv (n*3+2)) (.s qw qx qz)) gs 35 #[.bool ns,.s A3 l3 c3,.s qh qf qi]/\aC (((w5.setCell (aD gv (n*3)) (.bool n5)).setCell (aD gv (n*3+1)) (.s A5 l5 c5)).setCell (aD gv (n*3+2)) (.s qw qx qz)) ns A3 l3 c3 qh qf qi (1/Sx.at_ (T.row i).co j)from by
    have T5:=T4.o.K E5.o;have X5:=X4.o.1.tr E5.o;obtain⟨k1,k2⟩:=T5.co_set hi HV.o.1 HV.o.2.1 (vO.o n) v5 R5.o;have e1:cK (dS T i j n) i ⟨((dS T i j n).row i).co.set n (xn*(1/Sx.at_ (T.row i).co j)),((dS T i j n).row i).re⟩=dS T i j (n+1):=by
     rw[HX.o n];unfold dS;rw[jzdr,jzdo _ _ _ vc,v6.o]
    rw[e1]at k1;exact⟨k1,(I.o.2.1.tr (eE (S:=L.S) X5) fun b hb=>.inl hb).tr k2 fun b hb=>.inl hb,k2.blk (I.o.2.2.1.K X5) NS.o,k2.ratR T5.no32 (I.o.2.2.2.K X5)⟩)
   clear k0 k1 k2 k3 k4 k5 k6 t0 t1 t2 z0 z1 z2 qa I;go_wp2
   go_roundg (K-(n+1))
   case measure=>
                 omega
   exact⟨n+1,rfl,qO,by go_num,I6⟩
 obtain rfl:K=n:=qO;have zi:¬((K:Int)<(K:Int)):=qO;have v3:¬K<K:=kZr K;obtain⟨zB,vT,zd⟩:=I.o.1.rwa hi HV.o.1;obtain⟨n9,A9,l9,c9,qy,qp,qt,s0,s1,s2,s3,vH⟩:=zd;rw[HX.o K]at vH;have B9:=Hx (kQa vT (kQa s0 (kQa s1 (kQa s2 (kQa s3 vH)))));have LE:Hid (l9<=134217728/\qp<=134217728/\l3<=134217728/\qf<=134217728):=Hx (by obtain⟨a1,a2⟩:=B9.o.2.2.2.2.2.lens (H.o.2.2.re i qn);obtain⟨a3,a4⟩:=I.o.2.2.2.lens vx.o;exact⟨qO,qO,qO,qO⟩)
 have XD:Hid (Ext wr wr.drew):=Hx ((eR wr).drewN 1);have qa:=Hx (show∀wx,Ext wr wx->((wx.cell? (aD g (i*4+1))=some (.bool n9)/\wx.cell? (aD g (i*4+2))=some (.s A9 l9 c9)/\wx.cell? (aD g (i*4+3))=some (.s qy qp qt))/\wx.cell? (aD gs 0)=some (.bool ns)/\wx.cell? (aD gs 1)=some (.s A3 l3 c3)/\wx.cell? (aD gs 2)=some (.s qh qf qi))from fun wx hx=>
  ⟨⟨((B9.o.1.K hx).cell _).trans B9.o.2.2.1,((B9.o.1.K hx).cell _).trans B9.o.2.2.2.1,((B9.o.1.K hx).cell _).trans B9.o.2.2.2.2.1⟩,(I.o.2.2.1.K hx).t3.1⟩)
 (have HSW:=Hx (qa.o _ XD.o);clear vT s0 s1 s2 s3 vH;go_wp2;refine wp_region_last (fun w'=>(w'.cell? (aD g (i*4+1))=some (.bool n9)/\w'.cell? (aD g (i*4+2))=some (.s A9 l9 c9)/\w'.cell? (aD g (i*4+3))=some (.s qy qp qt))/\w'.cell? (aD gs 0)=some (.bool ns)/\w'.cell? (aD gs 1)=some (.s A3 l3 c3)/\w'.cell? (aD gs 2)=some (.s qh qf qi)) 9 qK ?_;refine wV 0 rfl HSW.o ?_;try simp only[qN]);refine wV 1 rfl HSW.o ?_;refine wV 2 rfl HSW.o ?_;refine wV 3 rfl HSW.o ?_;refine wV 4 rfl HSW.o ?_;(refine wV 5 rfl HSW.o ?_;try simp only[qN]);(refine wC 6 rfl (fun KK hK=>?_);go_simp;refine(iL n9 ns A9 l9 c9 qy qp qt A3 l3 c3 qh qf qi (T.row i).re (1/Sx.at_ (T.row i).co j) _ (B9.o.2.2.2.2.2.K XD.o) (I.o.2.2.2.K XD.o) LE.o.1 LE.o.2.1 LE.o.2.2.1 LE.o.2.2.2).mono ?_;rintro e w5 ⟨n5,A5,l5,c5,qw,qx,qz,rfl,h5,x5⟩;have E5:=Hx (XD.o.tr x5);have HSW:=Hx (qa.o _ E5.o);have R5:=Hx h5;refine hK.o _ _ HSW.o ?_;clear hK KK h5 x5;refine wC 7 rfl (fun KK hK=>?_);go_simp;refine hK.o _ _ HSW.o ?_;clear hK KK;refine wV 8 rfl HSW.o ?_;try simp only[qN]);have z0:=(B9.o.1.K E5.o).frozen (i*4+1);have z1:=(B9.o.1.K E5.o).frozen (i*4+2);have z2:=(B9.o.1.K E5.o).frozen (i*4+3);obtain⟨⟨t0,t1,t2⟩,_⟩:=HSW.o;refine cY qK rfl qR (fun KK hK=>?_);go_simp;refine hK.o _ _ ?_;clear hK KK;refine wpAny_done qK ?_ _;have I7:Hid (aG (((w5.setCell (aD g (i*4+1)) (.bool n5)).setCell (aD g (i*4+1+1)) (.s A5 l5 c5)).setCell (aD g (i*4+1+2)) (.s qw qx qz)) B L (cK T i (Sx.sclR (T.row i) j))/\FrS L.S w (((w5.setCell (aD g (i*4+1)) (.bool n5)).setCell (aD g (i*4+1+1)) (.s A5 l5 c5)).setCell (aD g (i*4+1+2)) (.s qw qx qz))):=Hx (by obtain⟨k1,k2⟩:=(I.o.1.K E5.o).re_set hi HV.o.1 (by rw[vO.o K];omega) R5.o;have e1:cK (dS T i j K) i ⟨((dS T i j K).row i).co,(T.row i).re*(1/Sx.at_ (T.row i).co j)⟩=cK T i (Sx.sclR (T.row i) j):=(by rw[HX.o K];unfold dS Sx.sclR;rw[jzdr,HV.o.2.2]);rw[e1]at k1;exact⟨k1,(I.o.2.1.tr (eE (S:=L.S) E5.o) fun b hb=>.inl hb).tr k2 fun b hb=>.inl hb⟩);clear z0 z1 z2 t0 t1 t2 HSW LE qa B9 E5 R5 XD I vx NS;generalize ((w5.setCell (aD g (i*4+1)) (.bool n5)).setCell (aD g (i*4+1+1)) (.s A5 l5 c5)).setCell (aD g (i*4+1+2)) (.s qw qx qz)=W7 at*;obtain⟨gb,vU,qY,_⟩:=I7.o.1.vb_form qO;obtain⟨gf,vo,qH,_⟩:=I7.o.1.vf_form (show 0<T.fre.length by rw[qV.o];omega);have qH:L.vf=.s (sA gf) K vo:=(by rw[qH];show Value.slice _ T.fre.length _=_;rw[qV.o]);have qC:=I7.o.1.bas;have qB:=I7.o.1.fre;have vV:(cK T i (Sx.sclR (T.row i) j)).fre.length=K:=qV.o;rw[qY]at qC;rw[vV,qH]at qB;obtain⟨vt,vW⟩:=jzdp qC hi;obtain⟨vw,v4⟩:=jzdp qB hj;obtain⟨zz,qJ,_,p0,p1,p2,_⟩:=I7.o.1.goa;rw[qY]at p1;rw[qH]at p2;have c1:=(qJ.cell 1).trans p1;have c2:=(qJ.cell 2).trans p2;have vJ:=Hx (kQa qY qH);have q7:gb≠gf:=fun e=>(by (rcases I7.o.1.bf with h1|h1);{rw[qY]at h1;cases h1};exact h1 (by rw[qY,qH,e];rfl));(have IC:=Hx (kQa vt (kQa vW (kQa vw (kQa v4 (kQa c1 c2)))));have HSW:Hid (W7.drew.cell? (aD L.p 1)=some (.s (sA gb) L.m vU)/\W7.drew.cell? (aD L.p 2)=some (.s (sA gf) K vo)/\W7.drew.cell? (aD gb i)=some (vI (Sx.atN T.bas i:Nat))/\W7.drew.cell? (aD gf j)=some (vI (Sx.atN T.fre j:Nat))):=Hx (⟨c1,c2,vt,vw⟩);clear qY qH qC qB vV qJ p0 p1 p2 vt vW vw v4 c1 c2;go_wp2;refine wp_region_last (fun w'=>w'.cell? (aD L.p 1)=some (.s (sA gb) L.m vU)/\w'.cell? (aD L.p 2)=some (.s (sA gf) K vo)/\w'.cell? (aD gb i)=some (vI (Sx.atN T.bas i:Nat))/\w'.cell? (aD gf j)=some (vI (Sx.atN T.fre j:Nat))) 25 qK ?_;refine wP 0 rfl HSW.o ?_;try simp only[qN]);refine wP 1 rfl HSW.o ?_;refine wP 2 rfl HSW.o ?_;refine wV 3 rfl HSW.o ?_;refine wP 4 rfl HSW.o ?_;refine wP 5 rfl HSW.o ?_;refine wP 6 rfl HSW.o ?_;refine wP 7 rfl HSW.o ?_;refine wV 8 rfl HSW.o ?_;refine wP 10 rfl HSW.o ?_;refine wP 11 rfl HSW.o ?_;refine wP 12 rfl HSW.o ?_;refine wV 13 rfl HSW.o ?_;refine wP 14 rfl HSW.o ?_;refine wP 15 rfl HSW.o ?_;refine wV 16 rfl HSW.o ?_;refine wP 17 rfl HSW.o ?_;refine wP 18 rfl HSW.o ?_;refine wP 19 rfl HSW.o ?_;refine wV 20 rfl HSW.o ?_;refine wP 21 rfl HSW.o ?_;refine wP 22 rfl HSW.o ?_;refine wV 23 rfl HSW.o ?_;refine wP 9 rfl HSW.o ?_;(refine wP 24 rfl HSW.o ?_;try simp only[qN]);have z0:W7.drew.frozen? (aD gb i)=false:=IC.o.2.1;have t0:W7.drew.cell? (aD gb i)=some (vI (Sx.atN T.bas i:Nat)):=IC.o.1;refine cY qK rfl qR (fun KK hK=>?_);go_simp;refine hK.o _ _ ?_;clear hK KK z0 t0;have z1:(W7.setCell (aD gb i) (vI (Sx.atN T.fre j:Nat))).drew.frozen? (aD gf j)=false:=(World.frozen?_setCell _ _ _ _).trans IC.o.2.2.2.1;have t1:(W7.setCell (aD gb i) (vI (Sx.atN T.fre j:Nat))).drew.cell? (aD gf j)=some (vI (Sx.atN T.fre j:Nat)):=aA (w:=W7) IC.o.2.2.1 (fun e=>q7 e.symm);refine mU (i:=26) qK rfl qR (fun KK hK=>?_);go_simp;refine hK.o _ _ ?_;clear hK KK;refine mU (i:=27) qK rfl qR (fun KK hK=>?_);go_simp;refine hK.o _ _ ?_;clear hK KK z1 t1;refine wpAny_done qK ?_ _;have I8:Hid (aG ((W7.setCell (aD gb i) (vI (Sx.atN T.fre j:Nat))).setCell (aD gf j) (vI (Sx.atN T.bas i:Nat))).drew B L (cL T i j 0)/\FrS L.S w ((W7.setCell (aD gb i) (vI (Sx.atN T.fre j:Nat))).setCell (aD gf j) (vI (Sx.atN T.bas i:Nat))).drew):=Hx (by obtain⟨a1,a2⟩:=I7.o.1.bas_set (i:=i) (v:=Sx.atN T.fre j) vJ.o.1;have vL:L.vf=.s (sA gf) (rZ (cK T i (Sx.sclR (T.row i) j)) ((cK T i (Sx.sclR (T.row i) j)).bas.set i (Sx.atN T.fre j))).fre.length vo:=(by rw[vJ.o.2];show Value.slice _ K _=Value.slice _ T.fre.length _;rw[qV.o]);obtain⟨b1,b2⟩:=a1.fre_set (i:=j) (v:=Sx.atN T.bas i) vL;have XD:=(eR ((W7.setCell (aD gb i) (vI (Sx.atN T.fre j:Nat))).setCell (aD gf j) (vI (Sx.atN T.bas i:Nat)))).drewN 1;rw[jzmg T i j qn];exact⟨b1.K XD,((I7.o.2.tr a2 fun b hb=>.inl hb).tr b2 fun b hb=>.inl hb).tr (eE (S:=L.S) XD) fun b hb=>.inl hb⟩);clear IC vJ HSW I7 q7;generalize ((W7.setCell (aD gb i) (vI (Sx.atN T.fre j:Nat))).setCell (aD gf j) (vI (Sx.atN T.bas i:Nat))).drew=W8 at*;have PC:Hid (∀wx Tc,aG wx B L Tc->wx.cell? (aD L.p 0)=some (.s (sA g) L.m cr)):=Hx (fun wx Tc hx=>by obtain⟨cs,hb,_,p0,_⟩:=hx.goa;rw[HV.o.1]at p0;exact(hb.cell _).trans p0);have SY:Hid ((∀q∈(Sx.sclR (T.row i) j).co,SzQ q (2*P+4))/\SzQ (Sx.sclR (T.row i) j).re (2*P+4)):=Hx (by have hq:SzQ (1/Sx.at_ (T.row i).co j) (1+P):=(show SzQ 1 1 from⟨qD,qD⟩).div vK.o HP.o;refine⟨fun q hq2=>?_,((H.o.2.2.re i qn).mul hq).mono qO⟩;unfold Sx.sclR Sx.sclL at hq2;obtain⟨k,hk,rfl⟩:=kQl.1 hq2;have hk:=vX.1 hk;rw[qE hk];split;{exact((show SzQ 1 1 from⟨qD,qD⟩).mul hq).mono qO};exact((H.o.2.2.co i qn _ (yJ (aV hk))).mul hq).mono qO);have q8:=PC.o _ _ I8.o.1;go_wp2;go_loopg [13,104] L.m (fun q _ it wx=>∃k:Nat,L.m-k=q/\k<=L.m/\it=vI (k:Int)/\Hid (aG wx B L (cL T i j k)/\FrS L.S w wx));exact⟨0,rfl,yZ _,rfl,I8⟩;obtain⟨k,rfl,hk,rfl,I⟩:=hrel;clear I8 q8;by_cases v9:k<L.m
 ·(have kN:(k:Int)<(L.m:Int):=by omega);have k0:(0:Int)<=(k:Int):=qO;by_cases qo:k=i;{(have vY:((k:Int) !=(i:Int))=false:=by rw[qo];simp);have zf:decide ((k:Int)=(i:Int))=true:=yO (by rw[qo]);have zo:((k:Int)==(i:Int))=true:=(by rw[qo];simp);have I9:Hid (aG wr B L (cL T i j (k+1))/\FrS L.S w wr):=Hx (by have h2:=I.o;rw[qo]at h2⊢;rw[jzmh];exact h2);clear qo I;go_wp2;go_roundg (L.m-(k+1));exact⟨k+1,rfl,qO,by go_num,I9⟩;omega}
  have vY:((k:Int) !=(i:Int))=true:=(by simp;omega);have zf:decide ((k:Int)=(i:Int))=false:=yP qO;have zo:((k:Int)==(i:Int))=false:=(by simp;omega);have q5:k<T.rows.length:=(by have:=H.o.1.rl;omega);have qZ:(cL T i j k).row k=T.row k:=(by rw[jza T i j k q5,qF qo,qF (kZr k)]);have qm:(cL T i j k).row i=Sx.sclR (T.row i) j:=(by rw[jza T i j k qn,qE rfl]);have q4:((cL T i j k).row k).co.length=K:=(by rw[qZ,H.o.2.1.cl k q5,qV.o]);have qj:((cL T i j k).row i).co.length=K:=(by rw[qm];show(Sx.sclL _ _ _ _).length=K;rw[Sx.sclL_len];exact HV.o.2.2);obtain⟨zp,qk,qA⟩:=I.o.1.rwa hi HV.o.1;obtain⟨ni,AI,li,ci,vm,vj,vn,a0,a1,a2,a3,ra⟩:=qA;rw[HV.o.2.1]at a0;have q9:=Hx (fun wx (hx:Ext wr wx)=>(jzmk wx B L (cL T i j k) (I.o.1.K hx) k i j K (2*P+4) g cr gv cv v9 hi qo hj hK qO HV.o.1 HV.o.2.1 q4 qj
   (by rw[qZ];exact fun q hq=>(H.o.2.2.co k q5 q hq).mono qO) (by rw[qZ];exact(H.o.2.2.re k q5).mono qO) (by rw[qm];exact SY.o.1) (by rw[qm];exact SY.o.2) ni AI li ci vm vj vn (ra.K hx)).mono
   (R':=fun e w'=>e=.returned (.tuple #[])/\aG w' B L (cL T i j (k+1))/\FrS L.S w w') (fun e w' hq=>by
    obtain⟨h1,h2,h3⟩:=hq;rw[qZ,qm, <-jzmi T i j q5 qo]at h2;exact⟨h1,h2,(I.o.2.tr (eE (S:=L.S) hx) fun b hb=>.inl hb).tr h3 fun b hb=>.inl hb⟩))
  have qa:=Hx (show∀wx,Ext wr wx->wx.cell? (aD L.p 0)=some (.s (sA g) L.m cr)/\wx.cell? (aD g (i*4))=some (.s (sA gv) K cv)/\wx.cell? (aD g (i*4+1))=some (.bool ni)/\wx.cell? (aD g (i*4+2))=some (.s AI li ci)/\wx.cell? (aD g (i*4+3))=some (.s vm vj vn)from fun wx hx=>
   ⟨PC.o _ _ (I.o.1.K hx),((qk.K hx).cell _).trans a0,((qk.K hx).cell _).trans a1,((qk.K hx).cell _).trans a2,((qk.K hx).cell _).trans a3⟩)
  (have XD:Hid (Ext wr wr.drew):=Hx ((eR wr).drewN 1);have HSW:=Hx (qa.o _ XD.o);clear qZ qm q4 qj qk a0 a1 a2 a3 ra I;go_wp2;refine wX qa 10 ?_;refine wP 0 rfl HSW.o ?_;try simp only[qN]);refine wP 1 rfl HSW.o ?_;(refine wP 2 rfl HSW.o ?_;try simp only[qN]);refine jzb (m:=5) (i:=3) (v:=?_) rfl qK qK qK qD qK qK qK (fun _ _ _ h=>h) (kZe ⟨qR,?_⟩) HSW.o ?_;rotate_left;(focus (intro w hSw;obtain⟨s1,s2,s3,s4,s5⟩:=hSw;go_simp;try with_reducible rfl));(try simp only[qN]);refine wP 4 rfl HSW.o ?_;refine wP 5 rfl HSW.o ?_;refine wP 6 rfl HSW.o ?_;refine wP 7 rfl HSW.o ?_;refine wP 8 rfl HSW.o ?_;(refine wV 9 rfl HSW.o ?_;try simp only[qN]);refine cY qK rfl qR (fun KK hK=>?_);go_simp;refine(q9.o _ XD.o).mono ?_;rintro e w5 ⟨rfl,I9⟩;have I9:=Hx I9;refine hK.o _ _ ?_;clear hK KK q9 qa HSW XD;refine wpAny_done qK ?_ _;go_wp2;go_roundg (L.m-(k+1));exact⟨k+1,rfl,qO,by go_num,I9⟩;omega
 obtain rfl:L.m=k:=qO;have zh:¬((L.m:Int)<(L.m:Int)):=qO;have vZ:¬L.m<L.m:=kZr _;have zc:Hid (¬L.S bg):=Hx (fun hs=>by (obtain⟨_,_,zu,t',k1,k2⟩:=H.o.1.ty hs;have h3:=(bJ HB.o.2.2 k1).2;rcases k2 with k2|k2|k2|k2);{rw[k2]at h3;exact absurd h3 qD};{rw[k2]at h3;exact absurd h3 qD};{rw[k2]at h3;exact absurd h3 qD};rw[k2]at h3;exact absurd h3 qD);have GC:Hid (∀wx,FrS L.S w wx->wx.cell? (aD bg 0)=some (.pointer (some (aD L.p 3)))):=Hx (fun wx hx=>(hx.blk HB.o.2.2 zc.o).cell 0);have I9:Hid (aG wr B L (if 0=0 then cL T i j L.m else Sx.pivT T i j)/\FrS L.S w wr):=Hx (by rw[qE rfl];exact I.o);clear I;go_wp2;go_loopg [15,124] 1 (fun q _ it wx=>∃k:Nat,1-k=q/\k<=1/\it=vI (k:Int)/\Hid (aG wx B L (if k=0 then cL T i j L.m else Sx.pivT T i j)/\FrS L.S w wx));exact⟨0,rfl,qO,rfl,I9⟩;obtain⟨k,rfl,vY,rfl,J⟩:=hrel;clear I9;by_cases zg:k=0
 ·subst zg
  have J0:Hid (aG wr B L (cL T i j L.m)):=Hx (by have:=J.o.1;rwa [qE rfl]at this);have qm:(cL T i j L.m).row i=Sx.sclR (T.row i) j:=(by rw[jza T i j L.m qn,qE rfl]);have qj:((cL T i j L.m).row i).co.length=K:=(by rw[qm];show(Sx.sclL _ _ _ _).length=K;rw[Sx.sclL_len];exact HV.o.2.2);obtain⟨zp,qk,qA⟩:=J0.o.rwa hi HV.o.1;obtain⟨ni,AI,li,ci,vm,vj,vn,a0,a1,a2,a3,ra⟩:=qA;rw[HV.o.2.1]at a0;have q0:=(qk.cell _).trans a0;have q1:=(qk.cell _).trans a1;have q2:=(qk.cell _).trans a2;have q3:=(qk.cell _).trans a3;have qg:=GC.o _ J.o.2;have q9:=Hx ((jzml wr B L (cL T i j L.m) J0.o i j K (2*P+4) g cr gv cv hi hj hK qO HV.o.1 HV.o.2.1 (show T.goal.co.length=K by rw[H.o.2.1.gl,qV.o]) qj
   (fun q hq=>(H.o.2.2.go q hq).mono qO) (H.o.2.2.gr.mono qO) (by rw[qm];exact SY.o.1) (by rw[qm];exact SY.o.2) ni AI li ci vm vj vn ra).mono
   (R':=fun e w'=>e=.returned (.tuple #[])/\aG w' B L (if 0+1=0 then cL T i j L.m else Sx.pivT T i j)/\FrS L.S w w') (fun e w' hq=>by
    obtain⟨h1,h2,h3⟩:=hq;refine⟨h1,?_,J.o.2.tr h3 fun b hb=>.inl hb⟩;rw[qm]at h2;have e1:=jzmj T i j;rw[H.o.1.rl]at e1;rw[qF qO, <-e1];exact h2))
  clear qm qj qk a0 a1 a2 a3 ra J J0;go_wp2_with fail;refine q9.o.mono ?_;rintro e w5 ⟨rfl,J9⟩;have J9:=Hx J9;clear q9 q0 q1 q2 q3 qg;go_wp2;go_roundg (1-(0+1));exact⟨0+1,rfl,qO,by go_num,J9⟩;omega
 obtain rfl:k=1:=qO;have zk:Hid (jzdm w B L (Sx.pivT T i j) (.returned (.tuple #[])) wr):=Hx (⟨rfl,by have:=J.o.1;rwa [qF qO]at this,J.o.2⟩);clear J;go_wp2;(go_end0);exact zk.o
structure LeO{α:Type}(le:α->α->Prop):Prop where
 refl:∀x,le x x
 tr:∀x y z,le x y->le y z->le x z
 tot:∀x y,le x y\/le y x
def bP{α:Type}(l:List α)(i j:Nat):List α:=match l[i]?,l[j]? with
 |some a,some b=>(l.set i b).set j a
 |_,_=>l
theorem jzc{α:Type}{l:List α}{i j:Nat}{a b:α}(hi:l[i]?=some a)(hj:l[j]?=some b):bP l i j=(l.set i b).set j a:=by unfold bP;rw[hi,hj]
theorem mH{α:Type}{l:List α}{i j:Nat}{a b:α}(hi:l[i]?=some a)(hj:l[j]?=some b)(k:Nat):(bP l i j)[k]?=if k=j then some a else if k=i then some b else l[k]?:=by
 have h1:=(yH.1 hi).1;have h2:=(yH.1 hj).1;rw[jzc hi hj];by_cases e:k=j;{subst e;rw[qE rfl,yM (by rw[yV];exact h2)]};rw[qF e,vN (fun h=>e h.symm)];by_cases e2:k=i;{subst e2;rw[qE rfl,yM h1]};rw[qF e2,vN (fun h=>e2 h.symm)]
theorem pE{α:Type}{l:List α}{i j:Nat}{a b:α}(hi:l[i]?=some a)(hj:l[j]?=some b):(bP l i j).Perm l:=by
 classical
 rw[List.perm_iff_count];intro x;have h1:=(yH.1 hi).1;have h2:=(yH.1 hj).1;have e1:=(yH.1 hi).2;have e2:=(yH.1 hj).2;rw[jzc hi hj,List.count_set (by rw[yV];exact h2),List.count_set h1,e1];have qh:0<l.count a:=List.count_pos_iff.2 (yJ hi);by_cases e:i=j
 ·subst e
  have qe:a=b:=(by rw[hi]at hj;injection hj);subst qe;rw[List.getElem_set_self];by_cases hx:a=x
  ·subst hx;simp;omega
  have:(a==x)=false:=(by simp[hx]);simp[this]
 rw[List.getElem_set_ne e,e2];have qg:0<l.count b:=List.count_pos_iff.2 (yJ hj);by_cases hx:a=x
 ·by_cases hy:b=x
  ·subst hx;subst hy;simp;omega
  have:(b==x)=false:=(by simp[hy]);subst hx;simp[this];omega
 have qa:(a==x)=false:=(by simp[hx]);by_cases hy:b=x
 ·subst hy;simp[qa]
 have qf:(b==x)=false:=(by simp[hy]);simp[qa,qf]
section
variable {α:Type} {le:α->α->Prop}
def cW(le:α->α->Prop)(l:List α)(n:Nat):Prop:=∀(k:Nat) (a b:α),0<k->k<n->l[(k-1)/2]?=some a->l[k]?=some b->le a b
def UpI(le:α->α->Prop)(l:List α)(n j:Nat):Prop:=
 (∀(k:Nat) (a b:α),0<k->k<n->k≠j->l[(k-1)/2]?=some a->l[k]?=some b->le a b)/\
 (∀(k:Nat) (a b:α),0<j->0<k->k<n->(k-1)/2=j->l[(j-1)/2]?=some a->l[k]?=some b->le a b)
def dX(le:α->α->Prop)(l:List α)(n i:Nat):Prop:=
 (∀(k:Nat) (a b:α),0<k->k<n->(k-1)/2≠i->l[(k-1)/2]?=some a->l[k]?=some b->le a b)/\
 (∀(k:Nat) (a b:α),0<i->0<k->k<n->(k-1)/2=i->l[(i-1)/2]?=some a->l[k]?=some b->le a b)
theorem UpI.done{l:List α}{n j:Nat}(h:UpI le l n j)(hj:j=0\/∀a b,l[(j-1)/2]?=some a->l[j]?=some b->le a b):cW le l n:=fun k a b h0 hk ha hb=>by
 by_cases e:k=j;{subst e;(rcases hj with hj|hj);{omega};{exact hj a b ha hb}};{exact h.1 k a b h0 hk e ha hb}
theorem UpI.step(o:LeO le){l:List α}{n j:Nat}(h:UpI le l n j)(hj:0<j)(hjn:j<n){a b:α}(ha:l[(j-1)/2]?=some a)(hb:l[j]?=some b)(hle:le b a):UpI le (bP l ((j-1)/2) j) n ((j-1)/2):=by
 have hg:=mH ha hb;refine⟨fun k x y h0 hk hne hx hy=>?_,fun k x y hp h0 hk hpar hx hy=>?_⟩;{rw[hg]at hx hy;by_cases e1:k=j;{subst e1;(rw[qE rfl]at hy;rw[qF qO,qE rfl]at hx;injection hx with hx;injection hy with hy);subst hx hy;exact hle};rw[qF e1,qF hne]at hy;by_cases e2:(k-1)/2=j;{rw[qE e2]at hx;(injection hx with hx;subst hx);exact h.2 k a y hj h0 hk e2 ha hy};rw[qF e2]at hx;by_cases e3:(k-1)/2=(j-1)/2;{rw[qE e3]at hx;(injection hx with hx;subst hx);exact o.tr _ _ _ hle (h.1 k a y h0 hk e1 (by rw[e3];exact ha) hy)};rw[qF e3]at hx;exact h.1 k x y h0 hk e1 hx hy};rw[hg]at hx hy;rw[qF qO,qF qO]at hx;by_cases e1:k=j;{subst e1;(rw[qE rfl]at hy;injection hy with hy;subst hy);exact h.1 _ x a hp qO qO hx ha};rw[qF e1,qF qO]at hy;exact o.tr _ _ _ (h.1 _ x a hp qO qO hx ha) (h.1 k a y h0 hk e1 (by rw[hpar];exact ha) hy)
theorem dX.done{l:List α}{n i:Nat}(h:dX le l n i)(hi:∀(k:Nat) (a b:α),0<k->k<n->(k-1)/2=i->l[i]?=some a->l[k]?=some b->le a b):cW le l n:=fun k a b h0 hk ha hb=>by
 by_cases e:(k-1)/2=i;{exact hi k a b h0 hk e (by rw[<-e];exact ha) hb};{exact h.1 k a b h0 hk e ha hb}
theorem dX.step(o:LeO le){l:List α}{n i j:Nat}(h:dX le l n i)(hj:0<j)(hjn:j<n)(hp:(j-1)/2=i){a b:α}(ha:l[i]?=some a)(hb:l[j]?=some b)(hle:le b a)(hmin:∀(k:Nat) (c:α),0<k->k<n->(k-1)/2=i->l[k]?=some c->le b c):dX le (bP l i j) n j:=by
 have hg:=mH ha hb;refine⟨fun k x y h0 hk hne hx hy=>?_,fun k x y _ h0 hk hpar hx hy=>?_⟩;{rw[hg]at hx hy;rw[qF hne]at hx;by_cases e1:k=j;{subst e1;(rw[qE rfl]at hy;rw[qE hp]at hx;injection hx with hx;injection hy with hy);subst hx hy;exact hle};rw[qF e1]at hy;by_cases e2:k=i;{subst e2;(rw[qE rfl]at hy;injection hy with hy;subst hy);rw[qF qO]at hx;exact h.2 j x b qO hj hjn hp hx hb};rw[qF e2]at hy;by_cases e3:(k-1)/2=i;{rw[qE e3]at hx;(injection hx with hx;subst hx);exact hmin k y h0 hk e3 hy};rw[qF e3]at hx;exact h.1 k x y h0 hk e3 hx hy};(rw[hg]at hx hy;rw[hp,qF qO,qE rfl]at hx;injection hx with hx;subst hx);rw[qF qO,qF qO]at hy;exact h.1 k b y h0 hk qO (by rw[hpar];exact hb) hy
theorem cW.top(o:LeO le){l:List α}{n:Nat}(h:cW le l n)(hn:n<=l.length):∀(k:Nat) (a b:α),k<n->l[0]?=some a->l[k]?=some b->le a b:=by
 intro k;(induction k using Nat.strongRecOn with|_ k ih=>(intro a b hk ha hb;rcases kQm k with h0|h0);{subst h0;(rw[ha]at hb;injection hb with hb;subst hb);exact o.refl _};obtain⟨c,hc⟩:∃c,l[(k-1)/2]?=some c:=⟨_,yG qO⟩;exact o.tr _ _ _ (ih _ qO a c qO ha hc) (h k c b h0 hk hc hb))
theorem cW.pop{l:List α}{n:Nat}(h:cW le l (n+1))(hn:l.length=n+1){a b:α}(ha:l[0]?=some a)(hb:l[n]?=some b):dX le (bP l 0 n) n 0:=by
 have hg:=mH ha hb;refine⟨fun k x y h0 hk hne hx hy=>?_,fun k x y hp=>qO⟩;rw[hg]at hx hy;rw[qF qO,qF qO]at hx;rw[qF qO,qF qO]at hy;exact h k x y h0 qO hx hy
theorem cW.push{l:List α}(h:cW le l l.length)(x:α):UpI le (l++[x]) (l.length+1) l.length:=by
 refine⟨fun k a b h0 hk hne ha hb=>?_,fun k a b hp h0 hk hpar=>qO⟩;rw[yR qO]at ha hb;exact h k a b h0 qO ha hb
end
def eU(t:Tp)(a:Nat):Nat:=match t.links[a/2]? with
 |some l=>if a%2=0 then l.c0.toNat else l.c1.toNat
 |none=>0
def bC(t:Tp)(x:LN):Nat:=x.foldl (fun s a=>s+eU t a) 0
theorem jzmq t(x:LN)(a:Nat):bC t (x++[a])=bC t x+eU t a:=by unfold bC;rw[kZt];rfl
def bQ(t:Tp):LQ:=(List.range (2*t.links.length)).map fun a=>((eU t a:Int):Rat)
theorem jzmr(t:Tp)(a:Nat)(ha:a/2<t.links.length):(bQ t)[a]?.getD 0=((eU t a:Int):Rat):=by
 unfold bQ;rw[yW,xJ qO];rfl
theorem jzds t(x:LN):prQ (bQ t) x=((bC t x:Int):Rat):=by
 have qa:∀(y:LN) (s:Nat),y.foldl (fun s a=>s+(bQ t)[a]?.getD 0) ((s:Int):Rat)=((y.foldl (fun s a=>s+eU t a) s:Nat):Int):=(by intro y;(induction y with|nil=>intro s;rfl|cons a y ih=>intro s;rw[List.foldl_cons,List.foldl_cons, <-ih (s+eU t a)];congr 1;rw[kZv,Rat.intCast_add];congr 1;by_cases ha:a/2<t.links.length;{exact jzmr t a ha};have h1:eU t a=0:=(by unfold eU;rw[yI qO]);have h2:(bQ t)[a]?=none:=(by unfold bQ;rw[yI (by simp;omega)]);rw[h1,h2];rfl));exact qa x 0
def dJ(t:Tp)(x y:LN):Int:=or3 (aQ (bC t x) (bC t y)) (aQ x.length y.length) (bO x y)
theorem jzms(a b:Nat):aU ((a:Int):Rat) ((b:Int):Rat)=aQ a b:=by
 unfold aU aQ;by_cases h:a<b;{rw[qE (Rat.intCast_lt_intCast.2 qO),qE h]};rw[qF (fun h2=>h (by have:=Rat.intCast_lt_intCast.1 h2;omega)),qF h];by_cases e:a=b;{subst e;rw[qE rfl,qE rfl]};rw[qF (fun h2=>e (by have:=Rat.intCast_inj.1 h2;omega)),qF e]
theorem jzmt t(x y:LN):cO (bQ t) x y=decide (dJ t x y<0):=by
 unfold cO oH dJ;rw[jzds,jzds,jzms]
def RdF(B:Nat)(w:World)(A:OA)(xs:List Value):Prop:=RdT w 3 A xs/\∀p,A=some p->B<=p.block
theorem RdF.rd{B:Nat}{w}{A}{xs:List Value}(h:RdF B w A xs):Rd w A xs:=h.1.rd
theorem RdF.K{B:Nat}{w w'}{A}{xs:List Value}(h:RdF B w A xs)(hx:Ext w w'):RdF B w' A xs:=⟨h.1.K hx,h.2⟩
theorem RdF.other{B:Nat}{w w'}{A}{xs:List Value}{g:Nat}{t':TypeId}{cs':Array Value}(h:RdF B w A xs)(hg:w.grownBy w' (some g))(hb:Blk w g t' cs')(hne:3≠t'):RdF B w' A xs:=⟨h.1.other hg hb hne,h.2⟩
theorem RdF.gK{B:Nat}{w w'}{A}{xs:List Value}{t':TypeId}{row:Option Nat}(h:RdF B w A xs)(hg:w.grownBy w' row)(hr:∀k,row=some k->∃cs fr,w.heap[k]?=some (.cells cs t' fr))(hne:3≠t'):RdF B w' A xs:=⟨h.1.gK hg hr hne,h.2⟩
theorem RdF.below{B:Nat}{w w'}{A}{xs:List Value}{g:Nat}(h:RdF B w A xs)(hg:w.grownBy w' (some g))(hB:g<B):RdF B w' A xs:=by
 refine⟨fun hx=>?_,h.2⟩;obtain⟨b,o,cs,fr,e,hb,hc⟩:=h.1 hx;have:=h.2 _ e;refine⟨b,o,cs,fr,e,(hg.block b (lA hb) (fun e2=>?_)).trans hb,hc⟩;injection e2 with e2
 subst e2;simp at this;omega
def KLb(t:Tp)(B:Nat)(w:World)(cs:List Value)(z:Nat×LN):Prop:=
 ∃(A:OA) (c:Nat),cs=[vI (z.1:Int),vI (bC t z.2:Nat),vI 0,.s A z.2.length c]/\z.2.length<=c/\RdF B w A (ints z.2)
theorem KLb.K{t}{B:Nat}{w w'}{cs:List Value}{z:Nat×LN}(h:KLb t B w cs z)(hx:Ext w w'):KLb t B w' cs z:=by
 obtain⟨A,c,h1,h2,h3⟩:=h;exact⟨A,c,h1,h2,h3.K hx⟩
theorem KLb.other{t}{B:Nat}{w w'}{cs:List Value}{z:Nat×LN}{g:Nat}{t':TypeId}{cs':Array Value}(h:KLb t B w cs z)(hg:w.grownBy w' (some g))(hb:Blk w g t' cs')(hne:3≠t'):KLb t B w' cs z:=by
 obtain⟨A,c,h1,h2,h3⟩:=h;exact⟨A,c,h1,h2,h3.other hg hb hne⟩
theorem KLb.gK{t}{B:Nat}{w w'}{cs:List Value}{z:Nat×LN}{t':TypeId}{row:Option Nat}(h:KLb t B w cs z)(hg:w.grownBy w' row)(hr:∀k,row=some k->∃cs fr,w.heap[k]?=some (.cells cs t' fr))(hne:3≠t'):KLb t B w' cs z:=by
 obtain⟨A,c,h1,h2,h3⟩:=h;exact⟨A,c,h1,h2,h3.gK hg hr hne⟩
structure bU(t:Tp)(w:World)(B g n c:Nat)(hs:List (Nat×LN)):Prop where
 len:hs.length=n
 row:∃css:List (List Value),css.length=n/\(∀cs∈css,cs.length=4)/\w.ownsRow B 225 4 (.s (sA g) n c) n css.flatten/\∀(i:Nat) (z:Nat×LN),hs[i]?=some z->∃cs,css[i]?=some cs/\KLb t B w cs z
theorem bU.blk{t}{w}{B g n c:Nat}{hs:List (Nat×LN)}(h:bU t w B g n c hs):∃cs,Blk w g 225 cs:=by
 obtain⟨css,_,_,h3,_⟩:=h.row;rcases h3.2 with⟨e,_⟩|⟨g',cap,cur,e,_,h5,_⟩
 ·cases e
 injection e with e
 injection e with e
 injection e with e
 subst e;exact⟨cur,h5⟩
theorem bU.K{t}{w w'}{B g n c:Nat}{hs:List (Nat×LN)}(h:bU t w B g n c hs)(hx:Ext w w'):bU t w' B g n c hs:=by
 obtain⟨css,h1,h2,h3,h4⟩:=h.row;refine⟨h.len,css,h1,h2,h3.kept (cD hx) (cE _),fun i z hz=>?_⟩;obtain⟨cs,k1,k2⟩:=h4 i z hz;exact⟨cs,k1,k2.K hx⟩
theorem bU.at_{t}{w}{B g n c:Nat}{hs:List (Nat×LN)}(h:bU t w B g n c hs){i:Nat}{z:Nat×LN}(hz:hs[i]?=some z):
  ∃(A:OA) (k:Nat),(w.cell? (aD g (i*4))=some (vI (z.1:Int))/\w.cell? (aD g (i*4+1))=some (vI (bC t z.2:Nat))/\w.cell? (aD g (i*4+2))=some (vI 0)/\w.cell? (aD g (i*4+3))=some (.s A z.2.length k))/\
   (w.frozen? (aD g (i*4))=false/\w.frozen? (aD g (i*4+1))=false/\w.frozen? (aD g (i*4+2))=false/\w.frozen? (aD g (i*4+3))=false)/\z.2.length<=k/\RdF B w A (ints z.2):=by
 obtain⟨css,h1,h2,h3,h4⟩:=h.row;obtain⟨cs,k1,A,k,rfl,k2,k3⟩:=h4 i z hz;have hi:=(yH.1 hz).1;have qf:i<n:=(by have:=h.len;omega);obtain⟨cb,hb⟩:=h.blk;have qa:∀j,j<4->w.cell? (aD g (i*4+j))=([vI (z.1:Int),vI (bC t z.2:Nat),vI 0,.s A z.2.length k]:List Value)[j]?:=fun j hj=>(by (have hf:=dW css h2 i j qO hj;rw[k1]at hf;rcases h3.2 with⟨e,_⟩|⟨g',cap,cur,e,_,h5,h6,h7,h8,h9⟩);{cases e};(injection e with e1 e2 e3);(injection e1 with e1);(injection e1 with e1);subst e1;have qe:Blk w g 225 cur:=h5;rw[qe.cell, <-kQw];rw[<-h9,xG,qE qO]at hf;exact hf);exact⟨A,k,⟨qa 0 qO,qa 1 qO,qa 2 qO,qa 3 qO⟩,⟨hb.frozen _,hb.frozen _,hb.frozen _,hb.frozen _⟩,k2,k3⟩
theorem sC{w:World}{B g n c s k:Nat}{e:TypeId}{xs:List Value}(h:w.ownsRow B e s (.s (sA g) n c) n xs)(u:Value):(w.setCell (aD g k) u).ownsRow B e s (.s (sA g) n c) n (xs.set k u):=by
 refine⟨by rw[yV];exact h.1,?_⟩;rcases h.2 with⟨h3,h4⟩|⟨g',cap,cur,h3,h4,h5,h6,h7,h8,h9⟩
 ·cases h3
 have qa:=h3;injection h3 with e1 e2 e3
 injection e1 with e1
 injection e1 with e1
 subst e1;refine .inr ⟨g,cap,cur.setIfInBounds k u,qa,h4,(show Blk w g e cur from h5).sT k u,h6,h7,by simpa using h8,?_⟩;rw[Array.toList_setIfInBounds, <-h9,List.take_set]
theorem jzmu{w:World}{B g n c i:Nat}{e:TypeId}{css:List (List Value)}(h:w.ownsRow B e 4 (.s (sA g) n c) n css.flatten)(h1:css.length=n)(h2:∀cs∈css,cs.length=4)(hi:i<n)(v0 v1 v2 v3:Value):
  ((((w.setCell (aD g (i*4)) v0).setCell (aD g (i*4+1)) v1).setCell (aD g (i*4+2)) v2).setCell (aD g (i*4+3)) v3).ownsRow B e 4 (.s (sA g) n c) n (css.set i [v0,v1,v2,v3]).flatten:=by
 have qa:i<css.length:=qO;obtain⟨cs,qf⟩:∃cs,css[i]?=some cs:=⟨_,yG qa⟩;have qe:cs.length=4:=h2 cs (yJ qf);have e0:css=css.set i cs:=(by apply uK;intro j;by_cases e:i=j;{subst e;rw[yM qa];exact qf};rw[vN e]);have b:=sC (k:=i*4+3) (sC (k:=i*4+2) (sC (k:=i*4+1) (sC (k:=i*4+0) h v0) v1) v2) v3;rw[e0,iQ css h2 i qa cs 0 _ qe qO,iQ css h2 i qa _ 1 _ (by simp[qe]) qO,iQ css h2 i qa _ 2 _ (by simp[qe]) qO,iQ css h2 i qa _ 3 _ (by simp[qe]) qO]at b;have e3:(((cs.set 0 v0).set 1 v1).set 2 v2).set 3 v3=[v0,v1,v2,v3]:=(by (rcases cs with _|⟨a0,_|⟨a1,_|⟨a2,_|⟨a3,_|⟨a4,r⟩⟩⟩⟩⟩);all_goals first|(simp at qe;done)|rfl);rw[e3]at b;exact b
theorem jzd(w:World)(g i:Nat)(v0 v1 v2 v3:Value):w.grownBy ((((w.setCell (aD g (i*4)) v0).setCell (aD g (i*4+1)) v1).setCell (aD g (i*4+2)) v2).setCell (aD g (i*4+3)) v3) (some g):=
 (((aM w g (i*4) v0).trans (aM _ g (i*4+1) v1)).trans (aM _ g (i*4+2) v2)).trans (aM _ g (i*4+3) v3)
theorem bU.put{t}{w}{B g n c i:Nat}{hs:List (Nat×LN)}{z:Nat×LN}{A}{k:Nat}(h:bU t w B g n c hs)(hi:i<n)(hk:z.2.length<=k)(hA:RdF B w A (ints z.2)):
  bU t ((((w.setCell (aD g (i*4)) (vI (z.1:Int))).setCell (aD g (i*4+1)) (vI (bC t z.2:Nat))).setCell (aD g (i*4+2)) (vI 0)).setCell (aD g (i*4+3)) (.s A z.2.length k)) B g n c (hs.set i z):=by
 obtain⟨cb,hb⟩:=h.blk;obtain⟨css,h1,h2,h3,h4⟩:=h.row;have hg:=jzd w g i (vI (z.1:Int)) (vI (bC t z.2:Nat)) (vI 0) (.s A z.2.length k);refine⟨by rw[yV];exact h.len,css.set i [vI (z.1:Int),vI (bC t z.2:Nat),vI 0,.s A z.2.length k],by rw[yV];exact h1,fun cs hc=>?_,jzmu h3 h1 h2 hi _ _ _ _,fun j y hj=>?_⟩;{(rcases xE hc with hc|hc);{exact h2 cs hc};rw[hc];rfl};by_cases e:i=j;{subst e;(rw[yM (by have:=h.len;omega)]at hj;injection hj with hj);subst hj;exact⟨_,yM qO,A,k,rfl,hk,hA.other hg hb qD⟩};rw[vN e]at hj;obtain⟨cs,k1,k2⟩:=h4 j y hj;exact⟨cs,by rw[vN e];exact k1,k2.other hg hb qD⟩
structure KQu(t:Tp)(w:World)(B q g n c:Nat)(hs:List (Nat×LN)):Prop where
 box:Blk w q 227 #[.s (sA g) n c]
 row:bU t w B g n c hs
theorem KQu.K{t}{w w'}{B q g n c:Nat}{hs:List (Nat×LN)}(h:KQu t w B q g n c hs)(hx:Ext w w'):KQu t w' B q g n c hs:=⟨h.box.K hx,h.row.K hx⟩
theorem bU.below{t}{w w'}{B g n c b:Nat}{hs:List (Nat×LN)}(h:bU t w B g n c hs)(hg:w.grownBy w' (some b))(hB:b<B)(hgB:B<=g):bU t w' B g n c hs:=by
 obtain⟨css,h1,h2,h3,h4⟩:=h.row;refine⟨h.len,css,h1,h2,h3.kept hg (.inr (fun e=>?_)),fun i z hz=>?_⟩;{have e:some g=some b:=e;(injection e with e);omega};obtain⟨cs,k1,A,c',k2,k3,k4⟩:=h4 i z hz;exact⟨cs,k1,A,c',k2,k3,k4.below hg hB⟩
theorem bU.lo{t}{w}{B g n c:Nat}{hs:List (Nat×LN)}(h:bU t w B g n c hs):B<=g:=by
 obtain⟨css,h1,h2,h3,h4⟩:=h.row;exact(h3.lt g rfl).1
theorem KQu.below{t}{w w'}{B q g n c b:Nat}{hs:List (Nat×LN)}{cs:Array Value}(h:KQu t w B q g n c hs)(hg:w.grownBy w' (some b))(hb:Blk w b 3 cs)(hB:b<B):KQu t w' B q g n c hs:=
 ⟨(hg.block q h.box.lt (fun e=>by injection e with e;exact h.box.ne_ hb qD e)).trans h.box,h.row.below hg hB h.row.lo⟩
end Go.Proofs.YtojpooidhilnfaaGreatDoor
