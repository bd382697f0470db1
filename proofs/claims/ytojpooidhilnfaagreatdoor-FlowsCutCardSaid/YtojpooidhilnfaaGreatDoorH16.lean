/- Part 16 of 26 of what the Flows claims share (the white space is struck, the texts are joined). -/
import Derived.Maps.OwnOps
import Derived.Maps.Views
import Derived.Test.YtojpooidhilnfaaGreatDoorH15
set_option linter.unusedVariables false
set_option linter.unusedSimpArgs false
set_option maxRecDepth 100000
set_option maxHeartbeats 8000000
namespace Go.Proofs.YtojpooidhilnfaaGreatDoor
open Go.Proofs.Tryz
open Go.RowKit
structure SzT(T:Sx.Tb)(P:Nat):Prop where
 co:∀i,i<T.rows.length->∀q∈(T.row i).co,SzQ q P
 re:∀i,i<T.rows.length->SzQ (T.row i).re P
 go:∀q∈T.goal.co,SzQ q P
 gr:SzQ T.goal.re P
structure OkT(T:Sx.Tb):Prop where
 cl:∀i,i<T.rows.length->(T.row i).co.length=T.fre.length
 gl:T.goal.co.length=T.fre.length
def jzd3(w:World)(B:Nat)(L:aS)(T':Sx.Tb)(e:Ending)(w':World):Prop:=e=.returned (.tuple #[])/\aG w' B L T'/\FrS L.S w w'
theorem jzmc(X:LQ)(j:Nat)(q:Rat):Sx.sclL X j q 0=X.set j 1:=by
 unfold Sx.sclL Sx.at_;apply uK;intro k;by_cases hk:k<X.length;{rw[yW,xJ hk];simp only[kQ9,Nat.not_lt_zero,if_false];by_cases e:k=j;{subst e;rw[if_pos rfl,yM hk]};rw[if_neg e,vN (fun e2=>e e2.symm),yG hk];rfl};rw[yI (by simp;omega),yI (by rw[yV];omega)]
theorem jzd4(X:LQ)(j:Nat)(q:Rat){i:Nat}(hi:i<X.length):(Sx.sclL X j q i)[i]?=some (if i=j then 1 else Sx.at_ X i):=by
 unfold Sx.sclL;rw[yW,xJ hi];simp only[kQ9,kZr,if_false]
theorem jzd5(X:LQ)(j:Nat)(q:Rat){i:Nat}(hi:i<X.length):Sx.sclL X j q (i+1)=(Sx.sclL X j q i).set i ((if i=j then 1 else Sx.at_ X i)*q):=by
 apply uK;intro k;by_cases hk:k<X.length;{by_cases e:i=k;{subst e;rw[yM (by rw[Sx.sclL_len];exact hi)];unfold Sx.sclL;rw[yW,xJ hk];simp only[kQ9];rw[if_pos (show i<i+1 by omega)]};rw[vN e];unfold Sx.sclL;rw[yW,yW,xJ hk];simp only[kQ9];have:(k<i+1↔k<i):=(by omega);by_cases h:k<i;{rw[if_pos (this.2 h),if_pos h]};rw[if_neg (fun h2=>h (this.1 h2)),if_neg h]};rw[yI (by rw[Sx.sclL_len];omega),yI (by rw[yV,Sx.sclL_len];omega)]
theorem jzmd(X:LQ)(j:Nat)(q:Rat){i:Nat}(hi:i<X.length)(h0:(if i=j then 1 else Sx.at_ X i)=0):Sx.sclL X j q (i+1)=Sx.sclL X j q i:=by
 have h:=jzd4 X j q hi;rw[h0]at h;rw[jzd5 X j q hi,h0,Rat.zero_mul];apply uK;intro k;by_cases e:i=k;{subst e;rw[yM (by rw[Sx.sclL_len];exact hi),h]};rw[vN e]
theorem jzd6{w:World}{B g c n i:Nat}{l:LN}(h:w.ownsRow B 3 1 (.s (sA g) n c) n (ints l))(hi:i<n):w.cell? (aD g i)=some (vI (Sx.atN l i:Nat))/\w.frozen? (aD g i)=false:=by
 obtain⟨g',c',qa,e1,_,e3,_,_,_,e7⟩:=iW h (by omega);injection e1 with e1 _ _
 injection e1 with e1
 injection e1 with e1
 subst e1;refine⟨?_,e3.frozen i⟩;have hl:l.length=n:=(by have:=h.1;rw[bV]at this;omega);rw[e3.cell, <-kQw];have h1:(qa.toList.take (n*1))[i]?=(ints l)[i]?:=(by rw[e7]);rw[xG,if_pos (by omega)]at h1;rw[h1];unfold ints Sx.atN;rw[yW,yG (by omega)];rfl
theorem jzd7:mkQ (decide ((1:Int)<0)) (1:Int).natAbs 1=1:=jzah 1
def dK(T:Sx.Tb)(i j n:Nat):Sx.Tb:=cD T i ⟨Sx.sclL (T.row i).co j (1/Sx.at_ (T.row i).co j) n,(T.row i).re⟩
theorem jzd8(T:Sx.Tb)(i:Nat)(r s:Sx.Rw):cD (cD T i r) i s=cD T i s:=by unfold cD;simp
theorem jzme(B i j bg P:Nat)(L:aS)(T:Sx.Tb)w(h:aG w B L T)(vh:OkT T)(vk:SzT T P)(hP:P<=100000)(hi:i<L.m)(hj:j<T.fre.length)(hp:Sx.at_ (T.row i).co j≠0)(hm:L.m<=1000000)(hK:T.fre.length<=1000000000000)
  (vR:Blk w bg 160 #[.pointer (some (aD L.p 3))]):
  Calls prog 97 #[.pointer (sA L.p),vI (i:Int),vI (j:Int),.s (sA bg) 1 1] w (jzd3 w B L (Sx.pivT T i j)):=by
 obtain⟨g,cr,qW,zq⟩:=h.vr_form (by omega);have qn:i<T.rows.length:=(by rw[h.rl];exact hi);have qU:=vh.cl i qn;obtain⟨gv,cv,hV,v8,qG⟩:=(h.co i hi).form (by rw[qU];omega);rw[qU]at hV v8;obtain⟨cb,hb,za⟩:=h.rwa hi qW;obtain⟨cp,qY,zf,p0,p1,p2,p7⟩:=h.goa;have q0:=(qY.cell 0).trans p0;rw[qW]at q0;obtain⟨nr,R1,m1,d1,zk,zx,zv,r0,r1,r2,r3,rr⟩:=za;have qr:=(hb.cell (i*4)).trans r0;rw[hV]at qr;have vn:j<(T.row i).co.length:=(by rw[qU];exact hj);have qE:=h.co i hi;rw[hV]at qE;obtain⟨nf,F1,f1,e1,q4,qR,ve,⟨x0,x1,x2⟩,⟨y0,y1,y2⟩,rf⟩:=qE.cell (aY vn);have zm:L.p<w.heap.size:=qY.lt;have vw:g<w.heap.size:=hb.lt;have iN:(i:Int)<(L.m:Int):=(by omega);have jN:(j:Int)<(T.fre.length:Int):=(by omega);have i0:(0:Int)<=(i:Int):=(by omega);have j0:(0:Int)<=(j:Int):=(by omega);have H:=Hx (kQa h (kQa vh vk));have HV:=Hx (kQa qW (kQa hV qU));have HR:=Hx (kQa rf rr);have HB:=Hx (kQa hb (kQa qY vR));have HP:=Hx hp;have vq:=Hx (vk.co i qn _ (yJ (aY vn)));clear h vh vk qW qU hV hb qY vR rf rr qE zf p0 p1 p2 p7 r0 r1 r2 r3 vn hp;generalize hKK:T.fre.length=K at*;have qK:=Hx hKK;clear hKK;go_enter func97,ntmps97;(go_upto_region 1 with fail);have XD:Hid (Ext w w.drew):=Hx ((eR w).drewN 1);have XA:Hid (Ext w (w.alloc (.cells #[.bool false,zN,zN] 35)).drew):=Hx (((eR w).alloc _).drewN 1);have BN:Hid (Blk (w.alloc (.cells #[.bool false,zN,zN] 35)).drew w.heap.size 35 #[.bool false,zN,zN]):=Hx (eN w _ _);have qa:Hid (∀wx,Ext w wx->(wx.cell? (aD g (i*4))=some (.s (sA gv) K cv)/\wx.cell? (aD gv (j*3))=some (.bool nf)/\wx.cell? (aD gv (j*3+1))=some (.s F1 f1 e1)/\wx.cell? (aD gv (j*3+2))=some (.s q4 qR ve))):=Hx (fun wx hx=>⟨aB hx qr,aB hx x0,aB hx x1,aB hx x2⟩);have LF:=Hx (HR.o.1.lens vq.o);obtain⟨zb,vT⟩:=LF.o;have vl:f1<=134217728:=(by omega);have vm:qR<=134217728:=(by omega);obtain⟨qH,i1,i2,i3⟩:=qa.o _ XD.o;obtain⟨u0,u1,u2,u3⟩:=qa.o _ XA.o;go_cut [9] (fun sl wx=>∃(gs:Nat) (ns:Bool) (A3:OA) (l3 c3:Nat) (qh:OA) (qf qi:Nat),sl=.pointer (sA gs)/\Hid (w.heap.size<=gs/\Blk wx gs 35 #[.bool ns,.s A3 l3 c3,.s qh qf qi]/\aE wx ns A3 l3 c3 qh qf qi (1/Sx.at_ (T.row i).co j)/\Ext w wx))
 case first=>
  go_region_held3 (fun w'=>w'.cell? (aD g (i*4))=some (.s (sA gv) K cv)/\w'.cell? (aD gv (j*3))=some (.bool nf)/\w'.cell? (aD gv (j*3+1))=some (.s F1 f1 e1)/\w'.cell? (aD gv (j*3+2))=some (.s q4 qR ve))
   (first|with_reducible exact⟨qH,i1,i2,i3⟩|with_reducible exact⟨u0,u1,u2,u3⟩|with_reducible exact⟨aJ qH _,aJ i1 _,aJ i2 _,aJ i3 _⟩|exact⟨aA (aA (aA qH fT) fT) fT,aA (aA (aA i1 fG) fG) fG,aA (aA (aA i2 fG) fG) fG,aA (aA (aA i3 fG) fG) fG⟩|fail)
   (first
    |(go_at_call 33
      first
      |(with_reducible refine(pT 1 w.drew (by decide) (by decide)).mono ?_
        rintro e w8 ⟨n8,A8,l8,c8,q6,qZ,vd,rfl,h8,x8⟩;have E8:=Hx (XD.o.tr x8))
      |(with_reducible refine(pT 1 (w.alloc (.cells #[.bool false,zN,zN] 35)).drew (by decide) (by decide)).mono ?_
        rintro e w8 ⟨n8,A8,l8,c8,q6,qZ,vd,rfl,h8,x8⟩;have E8:=Hx (XA.o.tr x8);have B8:=Hx (BN.o.K x8))
      rw[jzd7]at h8;have R8:=Hx h8;obtain⟨zs,vW⟩:=R8.o.lens (show SzQ 1 1 from⟨by decide,by decide⟩);obtain⟨qH,i1,i2,i3⟩:=qa.o _ E8.o;clear x8 h8)
    |(go_at_call 73
      first
      |(with_reducible refine(rL n8 nf A8 l8 c8 q6 qZ vd F1 f1 e1 q4 qR ve 1 (Sx.at_ (T.row i).co j) _ (by with_reducible exact R8.o) (HR.o.1.K (by with_reducible exact E8.o)) HP.o (by omega) (by omega) vl vm).mono ?_
        rintro e w9 ⟨n9,A9,l9,c9,qy,qp,qt,rfl,h9,x9⟩;have E9:=Hx (E8.o.tr x9)
        first
        |(have B9:=Hx (B8.o.K x9)
          obtain⟨⟨v0,v1,v2⟩,z0,z1,z2⟩:=B9.o.t3;have gg:w.heap.size<=w.heap.size:=yX _;have fT:g≠w.heap.size:=kQb vw;have fG:gv≠w.heap.size:=kQb qG)
        |skip)
      |(have xa:=(eR w8).alloc (.cells #[.bool false,zN,zN] 35)
        with_reducible refine(rL n8 nf A8 l8 c8 q6 qZ vd F1 f1 e1 q4 qR ve 1 (Sx.at_ (T.row i).co j) _ (R8.o.K (by with_reducible exact xa)) (HR.o.1.K (by with_reducible exact E8.o.tr xa)) HP.o (by omega) (by omega) vl vm).mono ?_
        rintro e w9 ⟨n9,A9,l9,c9,qy,qp,qt,rfl,h9,x9⟩;have E9:=Hx ((E8.o.tr xa).tr x9);have gg:w.heap.size<=w8.heap.size:=E8.o.size;have fT:g≠w8.heap.size:=kQb (yL vw gg);have fG:gv≠w8.heap.size:=kQb (yL qG gg);have B9:=Hx ((eN w8 35 #[.bool false,zN,zN]).K x9);obtain⟨⟨v0,v1,v2⟩,z0,z1,z2⟩:=B9.o.t3;clear xa)
      have R9:=Hx h9;obtain⟨qH,i1,i2,i3⟩:=qa.o _ E9.o;clear x9 h9)
    |fail)
  all_goals
   go_wp2;go_meet
   first
   |(obtain⟨k1,k2⟩:=fB (w:=w) R9.o B9.o gg E9.o
     exact⟨_,n9,A9,l9,c9,qy,qp,qt,rfl,Hx ⟨gg,((B9.o.sT 0 _).sT 1 _).sT 2 _,k1,k2⟩⟩)
   |(have xb:=(eR w9).alloc (.cells #[.bool n9,.s A9 l9 c9,.s qy qp qt] 35)
     exact⟨w9.heap.size,n9,A9,l9,c9,qy,qp,qt,rfl,Hx ⟨E9.o.size,eN w9 _ _,R9.o.K xb,E9.o.tr xb⟩⟩)
 obtain⟨gs,ns,A3,l3,c3,qh,qf,qi,rfl,G⟩:=hcut;clear XD XA BN qa LF qH i1 i2 i3 u0 u1 u2 u3 zb vT vl vm;have vj:Hid (SzQ (1/Sx.at_ (T.row i).co j) (1+P)):=Hx ((show SzQ 1 1 from⟨by decide,by decide⟩).div vq.o HP.o);have NS:Hid (¬L.S gs):=Hx (fun hs=>by have:=(H.o.1.ty hs).2.1;have:=G.o.1;omega);have I0:Hid (aG wc B L T/\FrS L.S w wc/\Blk wc gs 35 #[.bool ns,.s A3 l3 c3,.s qh qf qi]/\aE wc ns A3 l3 c3 qh qf qi (1/Sx.at_ (T.row i).co j)):=Hx (⟨H.o.1.K G.o.2.2.2,eE G.o.2.2.2,G.o.2.1,G.o.2.2.1⟩);have VC:Hid (∀wx Tc,aG wx B L Tc->wx.cell? (aD g (i*4))=some (.s (sA gv) K cv)):=Hx (fun wx Tc hx=>by obtain⟨cs,hb,_,_,_,_,_,_,_,r0,_⟩:=hx.rwa hi HV.o.1;rw[HV.o.2.1]at r0;exact(hb.cell _).trans r0);have qe:g≠gv:=fun e=>(by obtain⟨xs,h1⟩:=(H.o.1.co i hi).own;obtain⟨c,h2⟩:=aT h1 (show(L.V i).ownBlock=some gv by rw[HV.o.2.1];rfl);subst e;have:=(bG HB.o.1 h2).2;exact absurd this (by decide));have q1:=VC.o _ _ I0.o.1;have q2:=show wc.drew.cell? (aD g (i*4))=some (.s (sA gv) K cv)from q1;have XD:Hid (Ext wc wc.drew):=Hx ((eR wc).drewN 1);(go_upto_region 2 with fail);go_cut [] (fun wx=>Hid (aG wx B L (dK T i j 0)/\FrS L.S w wx/\Blk wx gs 35 #[.bool ns,.s A3 l3 c3,.s qh qf qi]/\aE wx ns A3 l3 c3 qh qf qi (1/Sx.at_ (T.row i).co j)))
 case first=>
  go_region_held3 (fun w'=>w'.cell? (aD g (i*4))=some (.s (sA gv) K cv))
   (first|with_reducible exact q2|with_reducible exact q8|exact aA (aA (aA q8 qe) qe) qe|fail)
   (first
    |(go_at_call 33
      with_reducible refine(pT 1 wc.drew (by decide) (by decide)).mono ?_
      rintro e w8 ⟨n8,A8,l8,c8,q6,qZ,vd,rfl,h8,x8⟩;have E8:=Hx (XD.o.tr x8);rw[jzd7]at h8;have R8:=Hx h8;have q8:=aB E8.o q1;have fz:=(show∀k,w8.frozen? (aD gv k)=false from fun k=>by
       obtain⟨xs,h1⟩:=((I0.o.1.K E8.o).co i hi).own;obtain⟨c,h2⟩:=aT h1 (show(L.V i).ownBlock=some gv by rw[HV.o.2.1];rfl);exact h2.frozen k)
      have z0:=fz (j*3);have z1:=fz (j*3+1);have z2:=fz (j*3+2);have cc:=((I0.o.1.K E8.o).co i hi);rw[HV.o.2.1]at cc;obtain⟨_,_,_,_,_,_,_,⟨t0,t1,t2⟩,_⟩:=cc.cell (aY (show j<(T.row i).co.length by rw[HV.o.2.2];exact hj));clear x8 h8 fz cc)
    |fail)
  all_goals
   go_wp2;go_meet;exact Hx (by
    obtain⟨k1,k2⟩:=(I0.o.1.K E8.o).co_set hi HV.o.1 HV.o.2.1 HV.o.2.2 hj R8.o;have e1:dK T i j 0=cD T i ⟨(T.row i).co.set j 1,(T.row i).re⟩:=(by unfold dK;rw[jzmc]);rw[e1];exact⟨k1,(I0.o.2.1.tr (eE (S:=L.S) E8.o) fun b hb=>.inl hb).tr k2 fun b hb=>.inl hb,k2.blk (I0.o.2.2.1.K E8.o) NS.o,k2.ratR (I0.o.1.K E8.o).no32 (I0.o.2.2.2.K E8.o)⟩)
 have I1:=hcut;have HX:Hid (∀n,(dK T i j n).row i=⟨Sx.sclL (T.row i).co j (1/Sx.at_ (T.row i).co j) n,(T.row i).re⟩):=Hx (fun n=>by unfold dK;rw[oU _ _ _ qn,if_pos rfl]);have vu:Hid (∀n,((dK T i j n).row i).co.length=K):=Hx (fun n=>by rw[HX.o n];show(Sx.sclL _ _ _ _).length=K;rw[Sx.sclL_len];exact HV.o.2.2);have vV:Hid (L.S gv):=Hx (.inr (.inr (.inr (.inr ⟨i,kQe hi,by rw[HV.o.2.1];rfl⟩))));have q3:=VC.o _ _ I1.o.1;clear I0 q1 q2 XD G hcut;go_wp2;go_loopg [11,12,46] K (fun q _ _ it wx=>∃n:Nat,K-n=q/\n<=K/\it=vI (n:Int)/\Hid (aG wx B L (dK T i j n)/\FrS L.S w wx/\Blk wx gs 35 #[.bool ns,.s A3 l3 c3,.s qh qf qi]/\aE wx ns A3 l3 c3 qh qf qi (1/Sx.at_ (T.row i).co j)));(case atStart=>exact⟨0,rfl,yZ _,rfl,I1⟩);obtain⟨n,rfl,hn,rfl,I⟩:=hrel;clear I1 q3;by_cases vL:n<K
 ·(have qV:n<(T.row i).co.length:=by rw[HV.o.2.2];exact vL);obtain⟨xn,qX⟩:∃xn,(if n=j then 1 else Sx.at_ (T.row i).co n)=xn:=⟨_,rfl⟩;have vO:=Hx qX;have ze:Hid (SzQ xn (1+P)):=Hx (by rw[<-qX];split;{exact(show SzQ 1 1 from⟨by decide,by decide⟩).mono (by omega)};exact(H.o.2.2.co i qn _ (yJ (aY qV))).mono (by omega));have qE:=I.o.1.co i hi;rw[HV.o.2.1,HX.o n]at qE;obtain⟨ne,E1,p1,q1,qJ,qI,qL,⟨v0,v1,v2⟩,⟨g0,g1,g2⟩,re⟩:=qE.cell (jzd4 (T.row i).co j (1/Sx.at_ (T.row i).co j) qV);rw[qX]at re;have v3:gv<wr.heap.size:=yL qG I.o.2.1.size;have nK:(n:Int)<(K:Int):=(by omega);have n0:(0:Int)<=(n:Int):=(by omega);have RE:=Hx re;have CE:=Hx (kQa (kQa v0 (kQa v1 v2)) (kQa g0 (kQa g1 g2)));have XB:=(eR wr).alloc (.cells #[.bool ne,.s E1 p1 q1,.s qJ qI qL] 35);have SG:=Hx (dA ne E1 p1 q1 qJ qI qL xn _ (re.K XB));clear re XB qX qE g0 g1 g2;(go_wp2_with fail);refine SG.o.mono ?_;rintro e w4 ⟨rfl,x4⟩;have X4:Hid (Ext wr w4/\Blk w4 wr.heap.size 35 #[.bool ne,.s E1 p1 q1,.s qJ qI qL]):=Hx (⟨((eR wr).alloc _).tr x4,(eN wr _ _).K x4⟩);clear x4 SG v0 v1 v2;by_cases q7:xn=0;{have qM:aC xn=0:=(iV xn).2 q7;rw[qM];have I4:Hid (aG w4 B L (dK T i j (n+1))/\FrS L.S w w4/\Blk w4 gs 35 #[.bool ns,.s A3 l3 c3,.s qh qf qi]/\aE w4 ns A3 l3 c3 qh qf qi (1/Sx.at_ (T.row i).co j)):=Hx (by have e1:dK T i j (n+1)=dK T i j n:=(by unfold dK;rw[jzmd _ _ _ qV (by rw[vO.o,q7])]);rw[e1];exact⟨I.o.1.K X4.o.1,I.o.2.1.tr (eE (S:=L.S) X4.o.1) fun b hb=>.inl hb,I.o.2.2.1.K X4.o.1,I.o.2.2.2.K X4.o.1⟩);clear qM q7 I;go_wp2;go_roundg (K-(n+1));(case measure=>omega);exact⟨n+1,rfl,by omega,by go_num,I4⟩}
  have qM:¬aC xn=0:=fun h=>q7 ((iV xn).1 h);have zw:(aC xn !=0)=true:=(by simpa using qM);have zj:decide (aC xn=0)=false:=yP qM;have zu:(aC xn==0)=false:=(by simpa using qM);generalize aC xn=sy at*;have T4:=Hx (I.o.1.K X4.o.1);have XD:Hid (Ext w4 w4.drew):=Hx ((eR w4).drewN 1);have qa:=Hx (show∀wx,Ext w4 wx->(wx.cell? (aD g (i*4))=some (.s (sA gv) K cv)/\(wx.cell? (aD wr.heap.size 0)=some (.bool ne)/\wx.cell? (aD wr.heap.size 1)=some (.s E1 p1 q1)/\wx.cell? (aD wr.heap.size 2)=some (.s qJ qI qL))/\wx.cell? (aD gs 0)=some (.bool ns)/\wx.cell? (aD gs 1)=some (.s A3 l3 c3)/\wx.cell? (aD gs 2)=some (.s qh qf qi))from fun wx hx=>
   ⟨aB hx (VC.o _ _ T4.o),(X4.o.2.K hx).t3.1,((I.o.2.2.1.K X4.o.1).K hx).t3.1⟩)
  obtain⟨k0,⟨k1,k2,k3⟩,k4,k5,k6⟩:=qa.o _ XD.o;have b1:wr.heap.size≠gv:=(by omega);have b2:gs≠gv:=fun e=>NS.o (by rw[e];exact vV.o);obtain⟨zi,zo⟩:=RE.o.lens ze.o;obtain⟨zy,zg⟩:=I.o.2.2.2.lens vj.o;go_wp2
  go_region_held3 (fun w'=>w'.cell? (aD g (i*4))=some (.s (sA gv) K cv)/\(w'.cell? (aD wr.heap.size 0)=some (.bool ne)/\w'.cell? (aD wr.heap.size 1)=some (.s E1 p1 q1)/\w'.cell? (aD wr.heap.size 2)=some (.s qJ qI qL))/\w'.cell? (aD gs 0)=some (.bool ns)/\w'.cell? (aD gs 1)=some (.s A3 l3 c3)/\w'.cell? (aD gs 2)=some (.s qh qf qi))
   (first|with_reducible exact⟨k0,⟨k1,k2,k3⟩,k4,k5,k6⟩|exact⟨aA (aA (aA k0 qe) qe) qe,⟨aA (aA (aA k1 b1) b1) b1,aA (aA (aA k2 b1) b1) b1,aA (aA (aA k3 b1) b1) b1⟩,aA (aA (aA k4 b2) b2) b2,aA (aA (aA k5 b2) b2) b2,aA (aA (aA k6 b2) b2) b2⟩|fail)
   (first
    |(go_at_call 32
      with_reducible refine(iH ne ns E1 p1 q1 qJ qI qL A3 l3 c3 qh qf qi xn (1/Sx.at_ (T.row i).co j) _ ((RE.o.K X4.o.1).K (by with_reducible exact XD.o)) ((I.o.2.2.2.K X4.o.1).K (by with_reducible exact XD.o)) (by omega) (by omega) (by omega) (by omega)).mono ?_
      rintro e w5 ⟨n5,A5,l5,c5,qw,qx,qz,rfl,h5,x5⟩;have E5:=Hx (XD.o.tr x5);have R5:=Hx h5;obtain⟨k0,⟨k1,k2,k3⟩,k4,k5,k6⟩:=qa.o _ E5.o;have t0:=aB (X4.o.1.tr E5.o) CE.o.1.1;have t1:=aB (X4.o.1.tr E5.o) CE.o.1.2.1;have t2:=aB (X4.o.1.tr E5.o) CE.o.1.2.2;have z0:=mV (X4.o.1.tr E5.o) CE.o.1.1 CE.o.2.1;have z1:=mV (X4.o.1.tr E5.o) CE.o.1.2.1 CE.o.2.2.1;have z2:=mV (X4.o.1.tr E5.o) CE.o.1.2.2 CE.o.2.2.2;clear h5 x5)
    |fail)
  all_goals
   have I6:=Hx (show aG (((w5.setCell (aD gv (n*3)) (.bool n5)).setCell (aD gv (n*3+1)) (.s A5 l5 c5)).setCell (aD gv (n*3+2)) (.s qw qx qz)) B L (dK T i j (n+1))/\FrS L.S w (((w5.setCell (aD gv (n*3)) (.bool n5)).setCell (aD gv (n*3+1)) (.s A5 l5 c5)).setCell (aD gv (n*3+2)) (.s qw qx qz))/\Blk (((w5.setCell (aD gv (n*3)) (.bool n5)).setCell (aD gv (n*3+1)) (.s A5 l5 c5)).setCell (aD gv (n*3+2)) (.s qw qx qz)) gs 35 #[.bool ns,.s A3 l3 c3,.s qh qf qi]/\aE (((w5.setCell (aD gv (n*3)) (.bool n5)).setCell (aD gv (n*3+1)) (.s A5 l5 c5)).setCell (aD gv (n*3+2)) (.s qw qx qz)) ns A3 l3 c3 qh qf qi (1/Sx.at_ (T.row i).co j)from by
    have T5:=T4.o.K E5.o;have X5:=X4.o.1.tr E5.o;obtain⟨k1,k2⟩:=T5.co_set hi HV.o.1 HV.o.2.1 (vu.o n) vL R5.o;have e1:cD (dK T i j n) i ⟨((dK T i j n).row i).co.set n (xn*(1/Sx.at_ (T.row i).co j)),((dK T i j n).row i).re⟩=dK T i j (n+1):=by
     rw[HX.o n];unfold dK;rw[jzd8,jzd5 _ _ _ qV,vO.o]
    rw[e1]at k1;exact⟨k1,(I.o.2.1.tr (eE (S:=L.S) X5) fun b hb=>.inl hb).tr k2 fun b hb=>.inl hb,k2.blk (I.o.2.2.1.K X5) NS.o,k2.ratR T5.no32 (I.o.2.2.2.K X5)⟩)
   clear k0 k1 k2 k3 k4 k5 k6 t0 t1 t2 z0 z1 z2 qa I;go_wp2
   go_roundg (K-(n+1))
   case measure=>
                 omega
   exact⟨n+1,rfl,by omega,by go_num,I6⟩
 obtain rfl:K=n:=(by omega);have v7:¬((K:Int)<(K:Int)):=(by omega);have vJ:¬K<K:=kZr K;obtain⟨zp,vx,vZ⟩:=I.o.1.rwa hi HV.o.1;obtain⟨n9,A9,l9,c9,qy,qp,qt,s0,s1,s2,s3,vo⟩:=vZ;rw[HX.o K]at vo;have B9:=Hx (kQa vx (kQa s0 (kQa s1 (kQa s2 (kQa s3 vo)))));have LE:Hid (l9<=134217728/\qp<=134217728/\l3<=134217728/\qf<=134217728):=Hx (by obtain⟨a1,a2⟩:=B9.o.2.2.2.2.2.lens (H.o.2.2.re i qn);obtain⟨a3,a4⟩:=I.o.2.2.2.lens vj.o;exact⟨by omega,by omega,by omega,by omega⟩)
 have XD:Hid (Ext wr wr.drew):=Hx ((eR wr).drewN 1);have qa:=Hx (show∀wx,Ext wr wx->((wx.cell? (aD g (i*4+1))=some (.bool n9)/\wx.cell? (aD g (i*4+2))=some (.s A9 l9 c9)/\wx.cell? (aD g (i*4+3))=some (.s qy qp qt))/\wx.cell? (aD gs 0)=some (.bool ns)/\wx.cell? (aD gs 1)=some (.s A3 l3 c3)/\wx.cell? (aD gs 2)=some (.s qh qf qi))from fun wx hx=>
  ⟨⟨((B9.o.1.K hx).cell _).trans B9.o.2.2.1,((B9.o.1.K hx).cell _).trans B9.o.2.2.2.1,((B9.o.1.K hx).cell _).trans B9.o.2.2.2.2.1⟩,(I.o.2.2.1.K hx).t3.1⟩)
 (have HSW:=Hx (qa.o _ XD.o);clear vx s0 s1 s2 s3 vo;go_wp2;refine wp_region_last (fun w'=>(w'.cell? (aD g (i*4+1))=some (.bool n9)/\w'.cell? (aD g (i*4+2))=some (.s A9 l9 c9)/\w'.cell? (aD g (i*4+3))=some (.s qy qp qt))/\w'.cell? (aD gs 0)=some (.bool ns)/\w'.cell? (aD gs 1)=some (.s A3 l3 c3)/\w'.cell? (aD gs 2)=some (.s qh qf qi)) 9 (by kernel_rfl) ?_;refine wV 0 rfl HSW.o ?_;try simp only[Act.put,yD,yE,yF]);refine wV 1 rfl HSW.o ?_;refine wV 2 rfl HSW.o ?_;refine wV 3 rfl HSW.o ?_;refine wV 4 rfl HSW.o ?_;(refine wV 5 rfl HSW.o ?_;try simp only[Act.put,yD,yE,yF]);(refine wC 6 rfl (fun KK hK=>?_);go_simp;refine(iH n9 ns A9 l9 c9 qy qp qt A3 l3 c3 qh qf qi (T.row i).re (1/Sx.at_ (T.row i).co j) _ (B9.o.2.2.2.2.2.K XD.o) (I.o.2.2.2.K XD.o) LE.o.1 LE.o.2.1 LE.o.2.2.1 LE.o.2.2.2).mono ?_;rintro e w5 ⟨n5,A5,l5,c5,qw,qx,qz,rfl,h5,x5⟩;have E5:=Hx (XD.o.tr x5);have HSW:=Hx (qa.o _ E5.o);have R5:=Hx h5;refine hK.o _ _ HSW.o ?_;clear hK KK h5 x5;refine wC 7 rfl (fun KK hK=>?_);go_simp;refine hK.o _ _ HSW.o ?_;clear hK KK;refine wV 8 rfl HSW.o ?_;try simp only[Act.put,yD,yE,yF]);have z0:=(B9.o.1.K E5.o).frozen (i*4+1);have z1:=(B9.o.1.K E5.o).frozen (i*4+2);have z2:=(B9.o.1.K E5.o).frozen (i*4+3);obtain⟨⟨t0,t1,t2⟩,_⟩:=HSW.o;refine bY (by kernel_rfl) rfl (by rfl) (fun KK hK=>?_);go_simp;refine hK.o _ _ ?_;clear hK KK;refine wpAny_done (by kernel_rfl) ?_ _;have I7:Hid (aG (((w5.setCell (aD g (i*4+1)) (.bool n5)).setCell (aD g (i*4+1+1)) (.s A5 l5 c5)).setCell (aD g (i*4+1+2)) (.s qw qx qz)) B L (cD T i (Sx.sclR (T.row i) j))/\FrS L.S w (((w5.setCell (aD g (i*4+1)) (.bool n5)).setCell (aD g (i*4+1+1)) (.s A5 l5 c5)).setCell (aD g (i*4+1+2)) (.s qw qx qz))):=Hx (by obtain⟨k1,k2⟩:=(I.o.1.K E5.o).re_set hi HV.o.1 (by rw[vu.o K];omega) R5.o;have e1:cD (dK T i j K) i ⟨((dK T i j K).row i).co,(T.row i).re*(1/Sx.at_ (T.row i).co j)⟩=cD T i (Sx.sclR (T.row i) j):=(by rw[HX.o K];unfold dK Sx.sclR;rw[jzd8,HV.o.2.2]);rw[e1]at k1;exact⟨k1,(I.o.2.1.tr (eE (S:=L.S) E5.o) fun b hb=>.inl hb).tr k2 fun b hb=>.inl hb⟩);clear z0 z1 z2 t0 t1 t2 HSW LE qa B9 E5 R5 XD I vj NS;generalize ((w5.setCell (aD g (i*4+1)) (.bool n5)).setCell (aD g (i*4+1+1)) (.s A5 l5 c5)).setCell (aD g (i*4+1+2)) (.s qw qx qz)=W7 at*;obtain⟨gb,vy,qN,_⟩:=I7.o.1.vb_form (by omega);obtain⟨gf,vc,qD,_⟩:=I7.o.1.vf_form (show 0<T.fre.length by rw[qK.o];omega);have qD:L.vf=.s (sA gf) K vc:=(by rw[qD];show Value.slice _ T.fre.length _=_;rw[qK.o]);have qC:=I7.o.1.bas;have qB:=I7.o.1.fre;have vz:(cD T i (Sx.sclR (T.row i) j)).fre.length=K:=qK.o;rw[qN]at qC;rw[vz,qD]at qB;obtain⟨vg,vF⟩:=jzd6 qC hi;obtain⟨vi,vK⟩:=jzd6 qB hj;obtain⟨zn,qF,_,p0,p1,p2,_⟩:=I7.o.1.goa;rw[qN]at p1;rw[qD]at p2;have c1:=(qF.cell 1).trans p1;have c2:=(qF.cell 2).trans p2;have vp:=Hx (kQa qN qD);have qS:gb≠gf:=fun e=>(by (rcases I7.o.1.bf with h1|h1);{rw[qN]at h1;cases h1};exact h1 (by rw[qN,qD,e];rfl));(have IC:=Hx (kQa vg (kQa vF (kQa vi (kQa vK (kQa c1 c2)))));have HSW:Hid (W7.drew.cell? (aD L.p 1)=some (.s (sA gb) L.m vy)/\W7.drew.cell? (aD L.p 2)=some (.s (sA gf) K vc)/\W7.drew.cell? (aD gb i)=some (vI (Sx.atN T.bas i:Nat))/\W7.drew.cell? (aD gf j)=some (vI (Sx.atN T.fre j:Nat))):=Hx (⟨c1,c2,vg,vi⟩);clear qN qD qC qB vz qF p0 p1 p2 vg vF vi vK c1 c2;go_wp2;refine wp_region_last (fun w'=>w'.cell? (aD L.p 1)=some (.s (sA gb) L.m vy)/\w'.cell? (aD L.p 2)=some (.s (sA gf) K vc)/\w'.cell? (aD gb i)=some (vI (Sx.atN T.bas i:Nat))/\w'.cell? (aD gf j)=some (vI (Sx.atN T.fre j:Nat))) 25 (by kernel_rfl) ?_;refine wP 0 rfl HSW.o ?_;try simp only[Act.put,yD,yE,yF]);refine wP 1 rfl HSW.o ?_;refine wP 2 rfl HSW.o ?_;refine wV 3 rfl HSW.o ?_;refine wP 4 rfl HSW.o ?_;refine wP 5 rfl HSW.o ?_;refine wP 6 rfl HSW.o ?_;refine wP 7 rfl HSW.o ?_;refine wV 8 rfl HSW.o ?_;refine wP 10 rfl HSW.o ?_;refine wP 11 rfl HSW.o ?_;refine wP 12 rfl HSW.o ?_;refine wV 13 rfl HSW.o ?_;refine wP 14 rfl HSW.o ?_;refine wP 15 rfl HSW.o ?_;refine wV 16 rfl HSW.o ?_;refine wP 17 rfl HSW.o ?_;refine wP 18 rfl HSW.o ?_;refine wP 19 rfl HSW.o ?_;refine wV 20 rfl HSW.o ?_;refine wP 21 rfl HSW.o ?_;refine wP 22 rfl HSW.o ?_;refine wV 23 rfl HSW.o ?_;refine wP 9 rfl HSW.o ?_;(refine wP 24 rfl HSW.o ?_;try simp only[Act.put,yD,yE,yF]);have z0:W7.drew.frozen? (aD gb i)=false:=IC.o.2.1;have t0:W7.drew.cell? (aD gb i)=some (vI (Sx.atN T.bas i:Nat)):=IC.o.1;refine bY (by kernel_rfl) rfl (by rfl) (fun KK hK=>?_);go_simp;refine hK.o _ _ ?_;clear hK KK z0 t0;have z1:(W7.setCell (aD gb i) (vI (Sx.atN T.fre j:Nat))).drew.frozen? (aD gf j)=false:=(World.frozen?_setCell _ _ _ _).trans IC.o.2.2.2.1;have t1:(W7.setCell (aD gb i) (vI (Sx.atN T.fre j:Nat))).drew.cell? (aD gf j)=some (vI (Sx.atN T.fre j:Nat)):=aA (w:=W7) IC.o.2.2.1 (fun e=>qS e.symm);refine mA (i:=26) (by kernel_rfl) rfl (by rfl) (fun KK hK=>?_);go_simp;refine hK.o _ _ ?_;clear hK KK;refine mA (i:=27) (by kernel_rfl) rfl (by rfl) (fun KK hK=>?_);go_simp;refine hK.o _ _ ?_;clear hK KK z1 t1;refine wpAny_done (by kernel_rfl) ?_ _;have I8:Hid (aG ((W7.setCell (aD gb i) (vI (Sx.atN T.fre j:Nat))).setCell (aD gf j) (vI (Sx.atN T.bas i:Nat))).drew B L (cE T i j 0)/\FrS L.S w ((W7.setCell (aD gb i) (vI (Sx.atN T.fre j:Nat))).setCell (aD gf j) (vI (Sx.atN T.bas i:Nat))).drew):=Hx (by obtain⟨a1,a2⟩:=I7.o.1.bas_set (i:=i) (v:=Sx.atN T.fre j) vp.o.1;have vt:L.vf=.s (sA gf) (rX (cD T i (Sx.sclR (T.row i) j)) ((cD T i (Sx.sclR (T.row i) j)).bas.set i (Sx.atN T.fre j))).fre.length vc:=(by rw[vp.o.2];show Value.slice _ K _=Value.slice _ T.fre.length _;rw[qK.o]);obtain⟨b1,b2⟩:=a1.fre_set (i:=j) (v:=Sx.atN T.bas i) vt;have XD:=(eR ((W7.setCell (aD gb i) (vI (Sx.atN T.fre j:Nat))).setCell (aD gf j) (vI (Sx.atN T.bas i:Nat)))).drewN 1;rw[jzl5 T i j qn];exact⟨b1.K XD,((I7.o.2.tr a2 fun b hb=>.inl hb).tr b2 fun b hb=>.inl hb).tr (eE (S:=L.S) XD) fun b hb=>.inl hb⟩);clear IC vp HSW I7 qS;generalize ((W7.setCell (aD gb i) (vI (Sx.atN T.fre j:Nat))).setCell (aD gf j) (vI (Sx.atN T.bas i:Nat))).drew=W8 at*;have PC:Hid (∀wx Tc,aG wx B L Tc->wx.cell? (aD L.p 0)=some (.s (sA g) L.m cr)):=Hx (fun wx Tc hx=>by obtain⟨cs,hb,_,p0,_⟩:=hx.goa;rw[HV.o.1]at p0;exact(hb.cell _).trans p0);have SY:Hid ((∀q∈(Sx.sclR (T.row i) j).co,SzQ q (2*P+4))/\SzQ (Sx.sclR (T.row i) j).re (2*P+4)):=Hx (by have hq:SzQ (1/Sx.at_ (T.row i).co j) (1+P):=(show SzQ 1 1 from⟨by decide,by decide⟩).div vq.o HP.o;refine⟨fun q hq2=>?_,((H.o.2.2.re i qn).mul hq).mono (by omega)⟩;unfold Sx.sclR Sx.sclL at hq2;obtain⟨k,hk,rfl⟩:=kQl.1 hq2;have hk:=vX.1 hk;rw[if_pos hk];split;{exact((show SzQ 1 1 from⟨by decide,by decide⟩).mul hq).mono (by omega)};exact((H.o.2.2.co i qn _ (yJ (aY hk))).mul hq).mono (by omega));have q8:=PC.o _ _ I8.o.1;go_wp2;go_loopg [13,104] L.m (fun q _ it wx=>∃k:Nat,L.m-k=q/\k<=L.m/\it=vI (k:Int)/\Hid (aG wx B L (cE T i j k)/\FrS L.S w wx));(case atStart=>exact⟨0,rfl,yZ _,rfl,I8⟩);obtain⟨k,rfl,hk,rfl,I⟩:=hrel;clear I8 q8;by_cases vU:k<L.m
 ·(have kN:(k:Int)<(L.m:Int):=by omega);have k0:(0:Int)<=(k:Int):=(by omega);by_cases qo:k=i;{(have vG:((k:Int) !=(i:Int))=false:=by rw[qo];simp);have v4:decide ((k:Int)=(i:Int))=true:=yO (by rw[qo]);have zc:((k:Int)==(i:Int))=true:=(by rw[qo];simp);have I9:Hid (aG wr B L (cE T i j (k+1))/\FrS L.S w wr):=Hx (by have h2:=I.o;rw[qo]at h2⊢;rw[jzl6];exact h2);clear qo I;go_wp2;go_roundg (L.m-(k+1));(case measure=>omega);exact⟨k+1,rfl,by omega,by go_num,I9⟩}
  have vG:((k:Int) !=(i:Int))=true:=(by simp;omega);have v4:decide ((k:Int)=(i:Int))=false:=yP (by omega);have zc:((k:Int)==(i:Int))=false:=(by simp;omega);have qQ:k<T.rows.length:=(by have:=H.o.1.rl;omega);have qO:(cE T i j k).row k=T.row k:=(by rw[wQ T i j k qQ,if_neg qo,if_neg (kZr k)]);have qm:(cE T i j k).row i=Sx.sclR (T.row i) j:=(by rw[wQ T i j k qn,if_pos rfl]);have qP:((cE T i j k).row k).co.length=K:=(by rw[qO,H.o.2.1.cl k qQ,qK.o]);have qj:((cE T i j k).row i).co.length=K:=(by rw[qm];show(Sx.sclL _ _ _ _).length=K;rw[Sx.sclL_len];exact HV.o.2.2);obtain⟨zd,qk,qA⟩:=I.o.1.rwa hi HV.o.1;obtain⟨ni,AI,li,ci,q9,q5,va,a0,a1,a2,a3,ra⟩:=qA;rw[HV.o.2.1]at a0;have qT:=Hx (fun wx (hx:Ext wr wx)=>(jzl9 wx B L (cE T i j k) (I.o.1.K hx) k i j K (2*P+4) g cr gv cv vU hi qo hj hK (by omega) HV.o.1 HV.o.2.1 qP qj
   (by rw[qO];exact fun q hq=>(H.o.2.2.co k qQ q hq).mono (by omega)) (by rw[qO];exact(H.o.2.2.re k qQ).mono (by omega)) (by rw[qm];exact SY.o.1) (by rw[qm];exact SY.o.2) ni AI li ci q9 q5 va (ra.K hx)).mono
   (R':=fun e w'=>e=.returned (.tuple #[])/\aG w' B L (cE T i j (k+1))/\FrS L.S w w') (fun e w' hq=>by
    obtain⟨h1,h2,h3⟩:=hq;rw[qO,qm, <-jzl7 T i j qQ qo]at h2;exact⟨h1,h2,(I.o.2.tr (eE (S:=L.S) hx) fun b hb=>.inl hb).tr h3 fun b hb=>.inl hb⟩))
  have qa:=Hx (show∀wx,Ext wr wx->wx.cell? (aD L.p 0)=some (.s (sA g) L.m cr)/\wx.cell? (aD g (i*4))=some (.s (sA gv) K cv)/\wx.cell? (aD g (i*4+1))=some (.bool ni)/\wx.cell? (aD g (i*4+2))=some (.s AI li ci)/\wx.cell? (aD g (i*4+3))=some (.s q9 q5 va)from fun wx hx=>
   ⟨PC.o _ _ (I.o.1.K hx),((qk.K hx).cell _).trans a0,((qk.K hx).cell _).trans a1,((qk.K hx).cell _).trans a2,((qk.K hx).cell _).trans a3⟩)
  (have XD:Hid (Ext wr wr.drew):=Hx ((eR wr).drewN 1);have HSW:=Hx (qa.o _ XD.o);clear qO qm qP qj qk a0 a1 a2 a3 ra I;go_wp2;refine wX qa 10 ?_;refine wP 0 rfl HSW.o ?_;try simp only[Act.put,yD,yE,yF]);refine wP 1 rfl HSW.o ?_;(refine wP 2 rfl HSW.o ?_;try simp only[Act.put,yD,yE,yF]);refine wS (m:=5) (i:=3) (v:=?_) rfl (by kernel_rfl) (by kernel_rfl) (by kernel_rfl) (by decide) (by kernel_rfl) (by kernel_rfl) (by kernel_rfl) (fun _ _ _ h=>h) (kZe ⟨by rfl,?_⟩) HSW.o ?_;rotate_left;(focus (intro w hSw;obtain⟨s1,s2,s3,s4,s5⟩:=hSw;go_simp;try with_reducible rfl));(try simp only[Act.put,yD,yE,yF]);refine wP 4 rfl HSW.o ?_;refine wP 5 rfl HSW.o ?_;refine wP 6 rfl HSW.o ?_;refine wP 7 rfl HSW.o ?_;refine wP 8 rfl HSW.o ?_;(refine wV 9 rfl HSW.o ?_;try simp only[Act.put,yD,yE,yF]);refine bY (by kernel_rfl) rfl (by rfl) (fun KK hK=>?_);go_simp;refine(qT.o _ XD.o).mono ?_;rintro e w5 ⟨rfl,I9⟩;have I9:=Hx I9;refine hK.o _ _ ?_;clear hK KK qT qa HSW XD;refine wpAny_done (by kernel_rfl) ?_ _;go_wp2;go_roundg (L.m-(k+1));(case measure=>omega);exact⟨k+1,rfl,by omega,by go_num,I9⟩
 obtain rfl:L.m=k:=(by omega);have v6:¬((L.m:Int)<(L.m:Int)):=(by omega);have vH:¬L.m<L.m:=kZr _;have vY:Hid (¬L.S bg):=Hx (fun hs=>by (obtain⟨_,_,zh,t',k1,k2⟩:=H.o.1.ty hs;have h3:=(bG HB.o.2.2 k1).2;rcases k2 with k2|k2|k2|k2);{rw[k2]at h3;exact absurd h3 (by decide)};{rw[k2]at h3;exact absurd h3 (by decide)};{rw[k2]at h3;exact absurd h3 (by decide)};rw[k2]at h3;exact absurd h3 (by decide));have GC:Hid (∀wx,FrS L.S w wx->wx.cell? (aD bg 0)=some (.pointer (some (aD L.p 3)))):=Hx (fun wx hx=>(hx.blk HB.o.2.2 vY.o).cell 0);have I9:Hid (aG wr B L (if 0=0 then cE T i j L.m else Sx.pivT T i j)/\FrS L.S w wr):=Hx (by rw[if_pos rfl];exact I.o);clear I;go_wp2;go_loopg [15,124] 1 (fun q _ it wx=>∃k:Nat,1-k=q/\k<=1/\it=vI (k:Int)/\Hid (aG wx B L (if k=0 then cE T i j L.m else Sx.pivT T i j)/\FrS L.S w wx));(case atStart=>exact⟨0,rfl,by omega,rfl,I9⟩);obtain⟨k,rfl,vG,rfl,J⟩:=hrel;clear I9;by_cases v5:k=0
 ·subst v5
  have J0:Hid (aG wr B L (cE T i j L.m)):=Hx (by have:=J.o.1;rwa [if_pos rfl]at this);have qm:(cE T i j L.m).row i=Sx.sclR (T.row i) j:=(by rw[wQ T i j L.m qn,if_pos rfl]);have qj:((cE T i j L.m).row i).co.length=K:=(by rw[qm];show(Sx.sclL _ _ _ _).length=K;rw[Sx.sclL_len];exact HV.o.2.2);obtain⟨zd,qk,qA⟩:=J0.o.rwa hi HV.o.1;obtain⟨ni,AI,li,ci,q9,q5,va,a0,a1,a2,a3,ra⟩:=qA;rw[HV.o.2.1]at a0;have q0:=(qk.cell _).trans a0;have q1:=(qk.cell _).trans a1;have q2:=(qk.cell _).trans a2;have q3:=(qk.cell _).trans a3;have qg:=GC.o _ J.o.2;have qT:=Hx ((jzma wr B L (cE T i j L.m) J0.o i j K (2*P+4) g cr gv cv hi hj hK (by omega) HV.o.1 HV.o.2.1 (show T.goal.co.length=K by rw[H.o.2.1.gl,qK.o]) qj
   (fun q hq=>(H.o.2.2.go q hq).mono (by omega)) (H.o.2.2.gr.mono (by omega)) (by rw[qm];exact SY.o.1) (by rw[qm];exact SY.o.2) ni AI li ci q9 q5 va ra).mono
   (R':=fun e w'=>e=.returned (.tuple #[])/\aG w' B L (if 0+1=0 then cE T i j L.m else Sx.pivT T i j)/\FrS L.S w w') (fun e w' hq=>by
    obtain⟨h1,h2,h3⟩:=hq;refine⟨h1,?_,J.o.2.tr h3 fun b hb=>.inl hb⟩;rw[qm]at h2;have e1:=jzl8 T i j;rw[H.o.1.rl]at e1;rw[if_neg (by omega), <-e1];exact h2))
  clear qm qj qk a0 a1 a2 a3 ra J J0;(go_wp2_with fail);refine qT.o.mono ?_;rintro e w5 ⟨rfl,J9⟩;have J9:=Hx J9;clear qT q0 q1 q2 q3 qg;go_wp2;go_roundg (1-(0+1));(case measure=>omega);exact⟨0+1,rfl,by omega,by go_num,J9⟩
 obtain rfl:k=1:=(by omega);have v9:Hid (jzd3 w B L (Sx.pivT T i j) (.returned (.tuple #[])) wr):=Hx (⟨rfl,by have:=J.o.1;rwa [if_neg (by omega)]at this,J.o.2⟩);clear J;go_wp2;(go_end0);exact v9.o
theorem oV(l:LQ)(i k:Nat)(q:Rat)(hk:k<l.length):Sx.at_ (l.set i q) k=if i=k then q else Sx.at_ l k:=by
 unfold Sx.at_;by_cases e:i=k;{subst e;rw[yM hk,if_pos rfl];rfl};rw[vN e,if_neg e]
theorem jzd9(k:Nat):∀(arcs:LN) (v:LQ),k<v.length->Sx.at_ ((arcs.map fun a=>(a,(1:Rat))).foldl (fun v t=>v.set t.1 t.2) v) k=if k∈arcs then 1 else Sx.at_ v k
 | [],v,_=>by simp
 |a::arcs,v,hk=>by
  show Sx.at_ ((arcs.map fun a=>(a,(1:Rat))).foldl _ (v.set a 1)) k=_;rw[jzd9 k arcs _ (by rw[yV];exact hk),oV _ _ _ _ hk];by_cases e:k∈arcs
  ·simp[e]
  ·by_cases e2:a=k
   ·subst e2;simp
   ·have e3:¬k=a:=fun h=>e2 h.symm
    simp[e,e2,e3]
theorem rY(m k:Nat):Sx.at_ (List.replicate m 0) k=0:=by
 unfold Sx.at_;rw[xB];split <;> rfl
def pTs(L2:Nat)(p:Nat×LN):List (Nat×Rat):=(L2+p.1, -1)::p.2.map fun a=>(a,1)
theorem jzea(L2 D:Nat)(p:Nat×LN)(hp:∀a∈p.2,a<L2)(k:Nat)(hk:k<L2+D):Sx.at_ (aP (L2+D) (pTs L2 p)) k=Sx.pcol L2 p k:=by
 unfold aP pTs Sx.pcol;show Sx.at_ ((p.2.map fun a=>(a,(1:Rat))).foldl _ ((List.replicate (L2+D) 0).set (L2+p.1) (-1))) k=_;rw[jzd9 k p.2 _ (by simpa using hk),oV _ _ _ _ (by simpa using hk),rY];by_cases h1:k<L2;{rw[if_pos h1,if_neg (show¬L2+p.1=k by omega)]};rw[if_neg h1,if_neg (fun h=>h1 (hp k h))];by_cases e:k=L2+p.1;{rw[if_pos e,if_pos e.symm]};rw[if_neg e,if_neg (fun h=>e h.symm)]
def vTs(L2:Nat)(am:Nat->Rat)(n:Nat):List (Nat×Rat):=(List.range n).map fun d=>(L2+d,am d)
theorem jzeb(L2:Nat)(am:Nat->Rat)(n:Nat):vTs L2 am (n+1)=vTs L2 am n++[(L2+n,am n)]:=by unfold vTs;rw[kZc,List.map_append];rfl
theorem jzec(L2 D:Nat)(am:Nat->Rat)(k:Nat)(hk:k<L2+D):∀n,Sx.at_ (aP (L2+D) (vTs L2 am n)) k=if L2<=k/\k<L2+n then am (k-L2)else 0
 |0=>by
  rw[if_neg (by omega)];exact rY _ _
 |n+1=>by
  have ih:=jzec L2 D am k hk n;have hl:∀(ts:List (Nat×Rat)) (v:LQ),(ts.foldl (fun v t=>v.set t.1 t.2) v).length=v.length:=fun ts=>by
   induction ts with
   |nil=>intro v;rfl
   |cons t ts ih=>intro v;show(ts.foldl _ (v.set t.1 t.2)).length=_;rw[ih,yV]
  unfold aP at ih⊢;rw[jzeb,kZt];show Sx.at_ ((List.foldl (fun(v:LQ) (t:Nat×Rat)=>v.set t.1 t.2) (List.replicate (L2+D) 0) (vTs L2 am n)).set (L2+n) (am n)) k=_;rw[oV _ _ _ _ (by rw[hl];simpa using hk),ih];by_cases e:L2+n=k
  ·rw[if_pos e,if_pos (by omega)]
   rw[show k-L2=n by omega]
  ·rw[if_neg e]
   by_cases h:L2<=k/\k<L2+n
   ·rw[if_pos h,if_pos (by omega)]
   ·rw[if_neg h,if_neg (by omega)]
theorem jzmf(L2 D:Nat)(am:Nat->Rat)(k:Nat)(hk:k<L2+D):Sx.at_ (aP (L2+D) (vTs L2 am D)) k=Sx.vcol L2 am k:=by
 rw[jzec L2 D am k hk D];unfold Sx.vcol;by_cases h:k<L2;{rw[if_neg (by omega),if_pos h]};rw[if_pos (by omega),if_neg h]
theorem jzed{P:Rat->Prop}(m:Nat)(ts:List (Nat×Rat))(h0:P 0)(h:∀t∈ts,P t.2):∀q∈aP m ts,P q:=by
 have qa:∀(ts:List (Nat×Rat)) (v:LQ),(∀t∈ts,P t.2)->(∀q∈v,P q)->∀q∈ts.foldl (fun v t=>v.set t.1 t.2) v,P q:=fun ts=>(by (induction ts with|nil=>intro v _ hv;exact hv|cons t ts ih=>(intro v ht hv;refine ih _ (fun t' h'=>ht t' (xO _ h')) fun q hq=>?_;rcases xE hq with h1|h1);{exact hv q h1};rw[h1];exact ht t (by simp)));exact qa ts _ h fun q hq=>by rw[uF hq];exact h0
theorem wW(c:Rat):∀(n:Nat) {f:Nat->Rat},(∀k,k<n->f k<=c)->Sx.sm n f<=((n:Int):Rat)*c
 |0,f,_=>by
  show(0:Rat)<=((0:Int):Rat)*c;grind
 |n+1,f,h=>by
  have h1:=wW c n (f:=f) fun k hk=>h k (by omega);have h2:=h n (Nat.lt_succ_self n);show Sx.sm n f+f n<=(((n+1:Nat):Int):Rat)*c;have e:(((n+1:Nat):Int):Rat)=((n:Int):Rat)+1:=by
   rw[kZv,Rat.intCast_add];rfl
  rw[e,Rat.add_mul,Rat.one_mul];grind
def ZB:Nat:=25*33554432^24
theorem jzee:ZB<B32^20:=by unfold ZB B32;decide
theorem mX{q:Rat}{N:Nat}(h:Sx.SzZ q N)(hN:N<=ZB):SzQ q 20:=⟨kQ2 (yY h.1 hN) jzee,kQ2 (yY h.2 hN) jzee⟩
theorem jzmg{m:Nat}(hm:m<=24):(m+1)*33554432^m<=ZB:=kQq (by omega) (kQk (by decide) hm)
theorem oW{t}{l:List Dm}{T:Sx.Tb}{P:List (Nat×LN)}(hf:Fit t l)(hl:t.links.length<=10)(hD:l.length<=4)(h:Sx.FLP (2*t.links.length) l.length (amQ l) (aR t) T P):
  OkT T/\SzT T 20/\(∀q∈Sx.prT T,SzQ q 20)/\(∀q∈Sx.ptT T,SzQ q 20)/\∃Dn:Int,Dn≠0/\Dn.natAbs<=33554432^24/\Sx.Qn Dn ZB T.goal.re/\∀q∈Sx.ptT T,Sx.Qn Dn ZB q:=by
 have hm:2*t.links.length+l.length<=24:=(by omega);obtain⟨Dn,d1,d2,d3,d4,d5,d6,d7⟩:=h.sizes 33554432 (by omega) (by decide) (fun a ha=>by
  obtain⟨_,h1,h2,_⟩:=iS hf.v ha;exact⟨h2,h1⟩) (fun d hd=>⟨(hf.am hd).2.1,by have:=(hf.am hd).1;grind⟩) (by
  have h1:=wW ((1048576:Int):Rat) (2*t.links.length) (f:=aR t) fun a ha=>(by obtain⟨_,_,_,h3,_⟩:=iS hf.v ha;exact h3)
  refine kQs h1 ?_;rw[<-kZu];exact kQt.2 (by omega)) (by
  have h1:=wW ((1048576:Int):Rat) l.length (f:=amQ l) fun d hd=>(hf.am hd).2.2.1;refine kQs h1 ?_;rw[<-kZu];exact kQt.2 (by omega))
 obtain⟨s1,s2,_⟩:=h.shape;have hz:=jzmg hm;have up:∀{q:Rat},Sx.Qn Dn ((2*t.links.length+l.length+1)*33554432^(2*t.links.length+l.length)) q->Sx.Qn Dn ZB q:=fun hq=>⟨hq.1,yY hq.2.1 hz,yY hq.2.2 hz⟩;exact⟨⟨s1,s2⟩,⟨fun i hi q hq=>mX ((d3 i hi).1 q hq).2 hz,fun i hi=>mX (d3 i hi).2.2 hz,fun q hq=>mX (d4 q hq).2 hz,mX d5.2 hz⟩,fun q hq=>mX (d6 q hq).2 hz,fun q hq=>mX (d7 q hq).2 hz,
  Dn,d1,yY d2 (kQk (by decide) hm),up d5,fun q hq=>up (d7 q hq)⟩
open Go.Maps (Keyed)
def MpS(w:World)(b n:Nat)(ks:List (List UInt8)):Prop:=
 ∃D:DataW Unit,w.ownsMap prog 9 (plainElem prog 4) b n D/\Maps.IsMap D/\∀k,D.atKey (.string k) (.lit (.bool false))=.lit (.bool (decide (k∈ks)))
theorem jzmh w:(zeroValue 4).run prog w=.ok (.bool false) w:=by kernel_rfl
theorem MpS.lt{w}{b n:Nat}{ks:List (List UInt8)}(h:MpS w b n ks):b<w.heap.size:=by
 obtain⟨D,h1,_⟩:=h;exact h1.lt
theorem MpS.same{w w':World}{b n:Nat}{ks:List (List UInt8)}(h:MpS w b n ks)(hb:w'.heap[b]?=w.heap[b]?):MpS w' b n ks:=by
 obtain⟨D,⟨es,qa,h1,h2⟩,h3⟩:=h;exact⟨D,⟨es,qa,hb.trans h1,h2⟩,h3⟩
theorem MpS.K{w w'}{b n:Nat}{ks:List (List UInt8)}(h:MpS w b n ks)(hx:Ext w w'):MpS w' b n ks:=h.same (hx.block b h.lt)
theorem MpS.made(w:World):MpS (w.alloc (.map #[] 0)) w.heap.size 0 []:=
 ⟨.map [],World.ownsMap_made w _ _ _,⟨[],rfl⟩,fun k=>by simp;rfl⟩
theorem MpS.not{w}{b n:Nat}{ks:List (List UInt8)}(h:MpS w b n ks){t:TypeId}{cs:Array Value}:¬Blk w b t cs:=fun e=>by
 obtain⟨D,⟨es,qa,h1,_⟩,_⟩:=h;unfold Blk at e;rw[h1]at e;injection e with e;cases e
section
variable {ops:Array Oper} {rest:List Oper} {o:Oper} {a:Act} {Q:Exit->Act->World->Prop} {w:World} {b n:Nat} {ks:List (List UInt8)}
theorem MpS.look(h:MpS w b n ks)(key:ByteArray)(hs:key.size<=maxLen):(Instr.lookup 101 (.map (some b)) (.string key) false).run prog w=.ok (.bool (decide (key.data.toList∈ks))) w:=by
 obtain⟨D,h1,_,h3⟩:=h;have qa:prog.underlying 4=some .bool:=(by kernel_rfl);have qe:prog.underlying 9=some .string:=(by kernel_rfl);have qf:prog.underlying 101=some (.map 9 4):=(by kernel_rfl);obtain⟨v,ps,qg,hv⟩:=h1.lookup (Maps.string_keyed qe) qf (jzmh w) (plainElem_bool qa false) (WideMaps.keyOf_string_mk qe hs);rw[h3]at hv;unfold plainElem at hv;rw[qa]at hv;cases v <;> simp at hv;rw[qg];rename_i x;obtain⟨hv,_⟩:=hv;by_cases hm:key.data.toList∈ks <;> simp_all
theorem jzmi(hg:o.guard=none)(m x v:Operand)(hop:o.op=Op.mapUpdate 101 m x v)(b n:Nat)(ks:List (List UInt8))(hm:a.eval m=.map (some b))(h:MpS w b n ks)(hn:n<maxLen)(key:ByteArray)(hx:a.eval x=.string key)(hs:key.size<=maxLen)(hv:a.eval v=.bool true)
  (hK:∀w',MpS w' b (n+1) (key.data.toList::ks)->w.grownBy w' (some b)->wpList prog ops Q rest (a.put o.dst undef) w'):wpList prog ops Q (o::rest) a w:=by
 obtain⟨D,h1,h2,h3⟩:=h;have qe:prog.underlying 4=some .bool:=(by kernel_rfl);have qa:prog.underlying 9=some .string:=(by kernel_rfl);refine wpList_mapUpdate_own w hg m x v 101 hop 9 4 (Maps.string_keyed qa) (by kernel_rfl) (plainElem prog 4) b n D hm h1 hn (.string key) (.bool true) (.string key.data.toList) hx hv (WideMaps.keyOf_string_mk qa hs) (.lit (.bool true)) [] (plainElem_bool qe true) ?_;intro w' k1 k2;refine hK w' ⟨_,k1,?_,fun k=>?_⟩ k2;{obtain⟨es,rfl⟩:=h2;exact⟨_,DataW.put_eq es _ _⟩};by_cases e:k=key.data.toList;{subst e;rw[Maps.atKey_put_same h2 (by simp[WideAt.IsKeyLit])];simp};rw[Maps.atKey_put_other (fun e2=>e (by injection e2)),h3];simp[e]
theorem jzmj{K:Act->World->Prop}(m x:Operand)(hop:o.op=Op.lookup 101 m x false)(b n:Nat)(ks:List (List UInt8))(hm:a.eval m=.map (some b))(h:MpS w b n ks)(key:ByteArray)(hx:a.eval x=.string key)(hs:key.size<=maxLen)
  (hK:K (a.put o.dst (.bool (decide (key.data.toList∈ks)))) w):o.wp prog a w K Q:=by
 have qa:=h.look key hs;unfold Oper.wp;simp[execOp,hop,hm,hx,qa,Result.andThen];exact hK
theorem jzmk{K:Act->World->Prop}(m x v:Operand)(hop:o.op=Op.mapUpdate 101 m x v)(b n:Nat)(ks:List (List UInt8))(hm:a.eval m=.map (some b))(h:MpS w b n ks)(hn:n<maxLen)(key:ByteArray)(hx:a.eval x=.string key)(hs:key.size<=maxLen)(hv:a.eval v=.bool true)
  (hK:∀w',MpS w' b (n+1) (key.data.toList::ks)->w.grownBy w' (some b)->K (a.put o.dst undef) w'):o.wp prog a w K Q:=by
 obtain⟨D,h1,h2,h3⟩:=h;have qe:prog.underlying 4=some .bool:=(by kernel_rfl);have qa:prog.underlying 9=some .string:=(by kernel_rfl);obtain⟨w',qf,k1,k2⟩:=h1.update (t:=101) (e:=4) (Maps.string_keyed qa) (by kernel_rfl) hn (key:=.string key) (val:=.bool true) (kl:=.string key.data.toList) (d:=.lit (.bool true)) (ps:=[]) (WideMaps.keyOf_string_mk qa hs) (plainElem_bool qe true);unfold Oper.wp;simp[execOp,hop,hm,hx,hv,qf,Result.andThen];refine hK w' ⟨_,k1,?_,fun k=>?_⟩ k2;{obtain⟨es,rfl⟩:=h2;exact⟨_,DataW.put_eq es _ _⟩};by_cases e:k=key.data.toList;{subst e;rw[Maps.atKey_put_same h2 (by simp[WideAt.IsKeyLit])];simp};rw[Maps.atKey_put_other (fun e2=>e (by injection e2)),h3];simp[e]
end
theorem MpS.congr{w}{b n m:Nat}{ks js:List (List UInt8)}(h:MpS w b n ks)(hn:n<=m)(hk:∀k,k∈ks↔k∈js):MpS w b m js:=by
 obtain⟨D,h1,h2,h3⟩:=h;exact⟨D,h1.mono hn,h2,fun k=>by rw[h3];simp[hk]⟩
end Go.Proofs.YtojpooidhilnfaaGreatDoor
namespace Go.Proofs.YtojpooidhilnfaaGreatDoor
open Go.Proofs.Tryz
open Go.RowKit
def gA(l:List Int):List Value:=l.map fun a=>Value.int .i64 a
theorem Rd.iint{w}{A}{l:List Int}(h:Rd w A (gA l)){k:Nat}{x:Int}(hx:l[k]?=some x):∃b o:Nat,A=some (aD b o)/\b<w.heap.size/\w.cell? (aD b (o+k))=some (vI x):=by
 have hk:=(yH.1 hx).1;obtain⟨b,o,e,hb,hc⟩:=h.at_ (i:=k) (by unfold gA;simpa using hk);refine⟨b,o,e,hb,?_⟩;rw[hc k (by unfold gA;simpa using hk)];unfold gA;rw[yW,hx];rfl
end Go.Proofs.YtojpooidhilnfaaGreatDoor
namespace Go.Proofs.YtojpooidhilnfaaGreatDoor
open Go.Proofs.Tryz
namespace Sx
open Go.Lib
def rZ(l:List UInt8):Nat:=l.foldl (fun n c=>10*n+(c.toNat-48)) 0
theorem sB{n:Nat}(h:n<256):(UInt8.ofNat n).toNat=n:=by
 rw[UInt8.toNat_ofNat'];omega
theorem sC(u:Nat):rZ (decDigits u)=u:=by
 (induction u using Nat.strongRecOn with|_ u ih=>by_cases h:u<10;{rw[decDigits,dif_pos h];show 10*0+((UInt8.ofNat (48+u)).toNat-48)=u;rw[sB (by omega)];omega};have h1:=ih (u/10) (by omega);rw[decDigits,dif_neg h];unfold rZ at h1⊢;rw[kZt,h1];show 10*(u/10)+((UInt8.ofNat (48+u%10)).toNat-48)=u;rw[sB (by omega)];omega)
theorem oC(u:Nat):∀c∈decDigits u,48<=c.toNat:=by
 (induction u using Nat.strongRecOn with|_ u ih=>intro c hc;rw[decDigits]at hc;by_cases h:u<10;{rw[dif_pos h]at hc;rw[xD.1 hc,sB (by omega)];omega};(rw[dif_neg h]at hc;rcases xY.1 hc with h1|h1);{exact ih (u/10) (by omega) c h1};rw[xD.1 h1,sB (by omega)];omega)
theorem sD(n:Int):∀c∈itoa n,c≠32:=by
 have qa:∀u,∀c∈decDigits u,c≠32:=fun u c hc e=>(by have:=oC u c hc;rw[e]at this;exact absurd this (by decide));intro c hc;unfold itoa at hc;split at hc;{(rcases xZ.1 hc with rfl|h);{decide};exact qa _ c h};exact qa _ c hc
theorem jzef{a b:Int}(h:itoa a=itoa b):a=b:=by
 have no:∀(u v:Nat),(45:UInt8)::decDigits u≠decDigits v:=fun u v e=>(by have:=oC v 45 (by rw[<-e];simp);exact absurd this (by decide));unfold itoa at h;by_cases ha:a<0;{rw[if_pos ha]at h;by_cases hb:b<0;{rw[if_pos hb]at h;have h1:=congrArg rZ (List.cons.inj h).2;rw[sC,sC]at h1;omega};rw[if_neg hb]at h;exact absurd h (no _ _)};rw[if_neg ha]at h;by_cases hb:b<0;{rw[if_pos hb]at h;exact absurd h.symm (no _ _)};rw[if_neg hb]at h;have h1:=congrArg rZ h;rw[sC,sC]at h1;omega
def fP(l:List Int):List UInt8:=l.flatMap fun a=>32::itoa a
def nameL(d:Int)(l:List Int):List UInt8:=itoa d++fP l
theorem wY:∀{x y:List UInt8} {u v:List UInt8},(∀c∈x,c≠32)->(∀c∈y,c≠32)->(u=[]\/∃u',u=32::u')->(v=[]\/∃v',v=32::v')->x++u=y++v->x=y/\u=v
 | [],[],u,v,_,_,_,_,h=>⟨rfl,h⟩
 | [],b::y,u,v,_,hy,hu,_,h=>by
   have h:u=b::(y++v):=h;rcases hu with e|⟨u',e⟩
   ·rw[e]at h;cases h
   ·rw[e]at h
    exact absurd (List.cons.inj h).1.symm (hy b (by simp))
 |a::x,[],u,v,hx,_,_,hv,h=>by
  have h:a::(x++u)=v:=h;rcases hv with e|⟨v',e⟩
  ·rw[e]at h;cases h
  ·rw[e]at h
   exact absurd (List.cons.inj h).1 (hx a (by simp))
 |a::x,b::y,u,v,hx,hy,hu,hv,h=>by
  have h:a::(x++u)=b::(y++v):=h;obtain⟨h1,h2⟩:=List.cons.inj h;obtain⟨h3,h4⟩:=wY (fun c hc=>hx c (by simp[hc])) (fun c hc=>hy c (by simp[hc])) hu hv h2;exact⟨by rw[h1,h3],h4⟩
theorem sE(l:List Int):fP l=[]\/∃u,fP l=32::u:=by
 (cases l with|nil=>exact .inl rfl|cons a l=>exact .inr ⟨_,rfl⟩)
theorem jzeg:∀{l k:List Int},fP l=fP k->l=k
 | [],[],_=>rfl
 | [],_::_,h=>by cases h
 |_::_,[],h=>by cases h
 |a::l,b::k,h=>by
  have h:(32:UInt8)::(itoa a++fP l)=32::(itoa b++fP k):=h;obtain⟨h1,h2⟩:=wY (sD a) (sD b) (sE l) (sE k) (List.cons.inj h).2;rw[jzef h1,jzeg h2]
theorem jzml{d e:Int}{l k:List Int}(h:nameL d l=nameL e k):d=e/\l=k:=by
 obtain⟨h1,h2⟩:=wY (sD d) (sD e) (sE l) (sE k) h;exact⟨jzef h1,jzeg h2⟩
end Sx
end Go.Proofs.YtojpooidhilnfaaGreatDoor
namespace Go.Proofs.YtojpooidhilnfaaGreatDoor
open Go.Proofs.Tryz
open Go.RowKit Go.Lib Sx
theorem jzmm(B b:Nat)(bs:List Value)(c:Int)w(h:Lib.IsBuilder 196 5 B b bs w)(hlen:bs.length+1<=140737488355328)(hBw:B<=w.heap.size):
  Calls prog 158 #[.pointer (sA b),.int .u8 c] w fun e w'=>e=.returned .nilIface/\(Lib.BuilderAt 196 5 B b (.pointer (sA b)) (bs++[.int .u8 c]) w'/\Below B w w'):=by
 go_enter func158,ntmps158;(go_wp2_with fail);refine(jza8 B b bs _ h).mono ?_;rintro e w1 ⟨rfl,h1,qj⟩;obtain⟨hB,v,qg,qe,qn⟩:=h1;have c0:w1.cell? (aD b 0)=some (.pointer (sA b)):=(by rw[Lib.cell_of_heap qg];rfl);have c1:w1.cell? (aD b 1)=some v:=(by rw[Lib.cell_of_heap qg];rfl);have qk:b<w1.heap.size:=(by (rcases kQd b w1.heap.size with h'|h');{exact h'};simp[kQn h']at qg);have qm:B<=w1.heap.size:=yY hBw qj.size;(go_wp2_with (at_builtin;refine kY _ 194 5 _ 1 1 rfl _ _ rfl underlying194 jza7 rfl (by decide) B v bs.length bs rfl (qe.kept (bW ((eR w1).alloc (.cells #[.int .u8 c] 5))) (bX _)) [.int .u8 c] rfl (by simp[Value.oneCell']) w1.heap.size rfl (eN w1 5 #[.int .u8 c]) (by unfold maxLen;omega) (by omega) (by simp;omega) ?_));intro g9 c9 w2 qf qa _;have qo:(w1.alloc (.cells #[.int .u8 c] 5)).heap[b]?=some (.cells #[.pointer (sA b),v] 196 (0,0)):=(Lib.alloc_old w1 _ b qk).trans qg;have qi:b<(w1.alloc (.cells #[.int .u8 c] 5)).heap.size:=(by simp;omega);have qh:w2.heap[b]?=some (.cells #[.pointer (sA b),v] 196 (0,0)):=(by rw[qa.block b qi (fun e=>qn e.symm)];exact qo);have d0:w2.cell? (aD b 0)=some (.pointer (sA b)):=(by rw[Lib.cell_of_heap qh];rfl);have d1:w2.cell? (aD b 1)=some v:=(by rw[Lib.cell_of_heap qh];rfl);have f1:w2.frozen? (aD b 1)=false:=Lib.frozen_of_heap qh 1;go_wp2;go_ret;refine⟨rfl,?_,?_⟩;{exact Lib.BuilderAt.put (T:=196) (e:=5) hB qh (bs':=bs++[.int .u8 c]) (by simpa using qf) (by decide)};exact((qj.alloc qm _).grown qa (by simp;omega) (fun k hk=>(qe.lt k hk).1)).setCell (p:=(aD b 1)) hB _
theorem jzeh(r:Int)w(ht:Tab w)(hr:i64 r):
  Calls prog 119 #[vI r] w fun e w'=>e=.returned (.string ⟨(Lib.itoa r).toArray⟩)/\Ext w w':=by
 unfold i64 at hr;refine(Tryz.strconv_Itoa r (by omega) (by omega) w ht).mono ?_;rintro e w' ⟨rfl,k,os,rfl⟩;exact⟨rfl,jza9 _ _ _⟩
theorem jzmn(r:Nat)(h:r<10000000000000000000):(Lib.decDigits r).length<=19:=by
 rw[Lib.decDigits_length];have h1:=Dig.fixD_pad 18 r (by simp;omega);have h2:∀k r,(Dig.fixD k r).length=k:=fun k=>(by (induction k with|zero=>intro r;rfl|succ k ih=>intro r;rw[Dig.fixD,yQ,ih];rfl));have h3:=congrArg List.length h1;rw[h2,yQ,xC,Lib.decDigits_length]at h3;omega
theorem sF(r:Int)(hr:i64 r):(Lib.itoa r).length<=20:=by
 unfold i64 at hr;unfold Lib.itoa;have h1:∀n:Nat,n<=9223372036854775808->(Lib.decDigits n).length<=19:=fun n hn=>(by exact jzmn n (by omega));split;{rw[kQo];have:=h1 r.natAbs (by omega);omega};have:=h1 r.toNat (by omega);omega
theorem wZ(d:Int)(l:List Int)(hd:i64 d)(hl:∀a∈l,i64 a):(nameL d l).length<=20+21*l.length:=by
 have qa:∀l:List Int,(∀a∈l,i64 a)->(fP l).length<=21*l.length:=fun l=>(by (induction l with|nil=>intro _;exact yX _|cons a l ih=>intro h;have h1:=ih fun b hb=>h b (xO _ hb);have h2:=sF a (h a (by simp));have e:fP (a::l)=(32::Lib.itoa a)++fP l:=(by unfold fP;rw[xU]);rw[e,yQ,kQo,kQo];omega));unfold nameL;rw[yQ];have h1:=qa l hl;have h2:=sF d hd;omega
theorem jzmo(d:Int)(l:List Int)(a:Int):nameL d (l++[a])=nameL d l++[32]++Lib.itoa a:=by
 unfold nameL fP;rw[List.flatMap_append];simp
theorem jzei(d:Int)(l:List Int)A(n c:Nat)(hn:l.length=n)(neg:Bool)A1(n1 c1:Nat)A2(n2 c2:Nat)w(ht:Tab w)(hr:Rd w A (gA l))(hll:n<=1000000)(hd:i64 d)(hi:∀a∈l,i64 a):
  Calls prog 94 #[.agg #[vI d,.s A n c,.bool neg,.s A1 n1 c1,.s A2 n2 c2]] w fun e w'=>e=.returned (.string ⟨(nameL d l).toArray⟩)/\Ext w w':=by
 have HT:=Hx ht;have HR:=Hx hr;have HI:=Hx (kQa hd hi);clear ht hr hd hi;obtain⟨qf,e0⟩:=aV w #[vI d,.s A n c,.bool neg,.s A1 n1 c1,.s A2 n2 c2] 87;have i0:=qf.cell 0;have i1:=qf.cell 1;have E0:=Hx (kQa qf e0);have qm:(w.alloc (.cells #[vI d,.s A n c,.bool neg,.s A1 n1 c1,.s A2 n2 c2] 87)).heap.size=w.heap.size+1:=(by simp);have BD:Hid (Lib.IsBuilder 196 5 (w.alloc (.cells #[vI d,.s A n c,.bool neg,.s A1 n1 c1,.s A2 n2 c2] 87)).heap.size (w.alloc (.cells #[vI d,.s A n c,.bool neg,.s A1 n1 c1,.s A2 n2 c2] 87)).heap.size [] ((w.alloc (.cells #[vI d,.s A n c,.bool neg,.s A1 n1 c1,.s A2 n2 c2] 87)).alloc (.cells #[.pointer none,zN] 196))):=Hx (Lib.fresh_isBuilder _ _ _);have X0:=Hx ((eR (w.alloc (.cells #[vI d,.s A n c,.bool neg,.s A1 n1 c1,.s A2 n2 c2] 87))).alloc (.cells #[.pointer none,zN] 196));clear qf e0;go_enter func94,ntmps94;(go_upto_region 2 with fail);rw[<-qm];generalize w.alloc (.cells #[vI d,.s A n c,.bool neg,.s A1 n1 c1,.s A2 n2 c2] 87)=W0 at*;have qh:w.heap.size<W0.heap.size:=E0.o.1.lt;clear qm;have i0:=aJ i0 (.cells #[.pointer none,zN] 196);(go_wp2_with fail);refine(jzeh d _ ((HT.o.K E0.o.2).K X0.o) HI.o.1).mono ?_;rintro e w1 ⟨rfl,qe⟩;have B1:Hid (Lib.IsBuilder 196 5 W0.heap.size W0.heap.size [] w1):=Hx (by (rcases BD.o with⟨h1,v,h2,h3,h4⟩|⟨h1,v,h2,h3,h4⟩);{exact .inl ⟨h1,v,(qe.block _ (by simp)).trans h2,h3.kept (bW qe) (bX _),h4⟩};exact .inr ⟨h1,v,(qe.block _ (by simp)).trans h2,h3.kept (bW qe) (bX _),h4⟩);(have X1:=Hx (X0.o.tr qe);clear qe BD X0;have qg:=sF d HI.o.1;have e9:(⟨(Lib.itoa d).toArray⟩:ByteArray).size=(Lib.itoa d).length:=by show(Lib.itoa d).toArray.size=_;simp);(go_wp2_with fail);refine(tT W0.heap.size W0.heap.size [] ⟨(Lib.itoa d).toArray⟩ _ B1.o (by rw[e9];simp;omega) X1.o.size).mono ?_;rintro e w2 ⟨rfl,qp,qj⟩;have B2:Hid (Lib.IsBuilder 196 5 W0.heap.size W0.heap.size (Lib.byteCells (nameL d (l.take 0))) w2):=Hx (.inr (by have e:nameL d (l.take 0)=Lib.itoa d:=(by unfold nameL fP;simp);rw[e];exact qp));have L2:Hid (Below W0.heap.size W0 w2):=Hx (Below.trans X1.o qj);clear qp qj B1 X1 qg e9;have i1:=(L2.o.cell (p:=(aD w.heap.size 1)) qh).trans i1;go_wp2;go_loopg [13] n (fun q it wx=>∃m:Nat,n-m=q/\m<=n/\it=vI (m:Int)/\Hid (Lib.IsBuilder 196 5 W0.heap.size W0.heap.size (Lib.byteCells (nameL d (l.take m))) wx/\Below W0.heap.size W0 wx));(case atStart=>exact⟨0,rfl,yZ _,rfl,Hx ⟨B2.o,L2.o⟩⟩);obtain⟨m,rfl,hm,rfl,I⟩:=hrel;clear B2 L2 i0 i1;by_cases qx:m<n;{obtain⟨a,ha⟩:∃a,l[m]?=some a:=⟨_,yG (by omega)⟩;have HA:Hid (i64 a):=Hx (HI.o.2 a (yJ ha));have NX:=Hx (show nameL d (l.take (m+1))=nameL d (l.take m)++[32]++Lib.itoa a by rw[kQr,ha];exact jzmo d _ a);obtain⟨b,o,rfl,hb,ca⟩:=((HR.o.K E0.o.2).K I.o.2).iint ha;have qk:Hid ((nameL d (l.take m)).length<=20+21*n):=Hx (yY (wZ d _ HI.o.1 fun a h=>HI.o.2 a (xM h)) (by rw[xF];omega));have nN:(m:Int)<(n:Int):=(by omega);have n0:(0:Int)<=(m:Int):=(by omega);clear ha;(go_wp2_with fail);refine(jzmm W0.heap.size W0.heap.size _ 32 _ I.o.1 (by rw[Lib.byteCells_length];have:=qk.o;omega) I.o.2.size).mono ?_;rintro e w3 ⟨rfl,qw,qi⟩;have B3:Hid (Lib.IsBuilder 196 5 W0.heap.size W0.heap.size (Lib.byteCells (nameL d (l.take m)++[32])) w3):=Hx (.inr (by rw[Lib.byteCells_append];exact qw));have L3:=Hx (I.o.2.trans qi);clear qw qi ca;(go_wp2_with fail);refine(jzeh a _ ((HT.o.K E0.o.2).K L3.o) HA.o).mono ?_;rintro e w4 ⟨rfl,qa⟩;have B4:Hid (Lib.IsBuilder 196 5 W0.heap.size W0.heap.size (Lib.byteCells (nameL d (l.take m)++[32])) w4):=Hx (by (rcases B3.o with h|h);{have hl:=h.lt;obtain⟨h1,v,h2,h3,h4⟩:=h;exact .inl ⟨h1,v,(qa.block _ hl).trans h2,h3.kept (bW qa) (bX _),h4⟩};have hl:=h.lt;obtain⟨h1,v,h2,h3,h4⟩:=h;exact .inr ⟨h1,v,(qa.block _ hl).trans h2,h3.kept (bW qa) (bX _),h4⟩);(have L4:Hid (Below W0.heap.size W0 w4):=Hx (Ext.tr (show Ext W0 w3 from L3.o) qa);clear qa B3 L3;have qg:=sF a HA.o;have e9:(⟨(Lib.itoa a).toArray⟩:ByteArray).size=(Lib.itoa a).length:=by show(Lib.itoa a).toArray.size=_;simp);(go_wp2_with fail);refine(tT W0.heap.size W0.heap.size _ ⟨(Lib.itoa a).toArray⟩ _ B4.o (by rw[Lib.byteCells_length,yQ,e9];have:=qk.o;simp;omega) L4.o.size).mono ?_;rintro e w5 ⟨rfl,qn,qo⟩;have B5:Hid (Lib.IsBuilder 196 5 W0.heap.size W0.heap.size (Lib.byteCells (nameL d (l.take (m+1)))) w5):=Hx (.inr (by rw[NX.o,Lib.byteCells_append];exact qn));have L5:=Hx (L4.o.trans qo);clear qn qo qg e9;go_wp2;go_roundg (n-(m+1));(case measure=>omega);exact⟨m+1,rfl,by omega,by go_num,Hx ⟨B5.o,L5.o⟩⟩};obtain rfl:m=n:=(by omega);rw[yU (by omega)]at I;(go_wp2_with fail);refine(Tryz.Builder_String_any W0.heap.size W0.heap.size _ _ I.o.1 I.o.2.size).mono ?_;rintro e w9 ⟨rfl,qt⟩;have HE:Hid (Ext w w9):=Hx (E0.o.2.tr (I.o.2.trans qt));clear qt;go_wp2;go_ret;exact⟨rfl,HE.o⟩
def eP(p:Nat×LN):List UInt8:=nameL (p.1:Int) (p.2.map fun a:Nat=>(a:Int))
theorem jzej{p q:Nat×LN}(h:eP p=eP q):p=q:=by
 obtain⟨h1,h2⟩:=jzml h;have e1:p.1=q.1:=(by omega);have e2:p.2=q.2:=(by have:=congrArg (List.map Int.toNat) h2;simpa [List.map_map,Function.comp_def]using this);exact Prod.ext e1 e2
theorem jzek(p:Nat×LN)(P:List (Nat×LN)):eP p∈P.map eP↔p∈P:=by
 constructor;{intro h;obtain⟨q,hq,e⟩:=kQl.1 h;rw[<-jzej e];exact hq};exact fun h=>kQl.2 ⟨p,h,rfl⟩
end Go.Proofs.YtojpooidhilnfaaGreatDoor
namespace Go.Proofs.YtojpooidhilnfaaGreatDoor
open Go.Proofs.Tryz
open Go.RowKit
section
variable {w w7:World} {B:Nat} {L:aS} {T:Sx.Tb}
def jza(T:Sx.Tb)(l:LN):Sx.Tb:=⟨T.rows,T.bas,l,T.goal,T.cols⟩
theorem aG.fre_push(h:aG w B L T){g7 c7 num:Nat}(own7:w7.ownsRow B 3 1 (.s (sA g7) (T.fre.length+1) c7) (T.fre.length+1) (ints T.fre++[vI (num:Int)]))(grow:w.grownBy w7 L.vf.ownBlock)(new7:some g7=L.vf.ownBlock\/w.heap.size<=g7):
  aG (w7.setCell (aD L.p 2) (.s (sA g7) (T.fre.length+1) c7)) B (L.setF (.s (sA g7) (T.fre.length+1) c7)) (jza T (T.fre++[num]))/\
   FrS L.S w (w7.setCell (aD L.p 2) (.s (sA g7) (T.fre.length+1) c7)):=by
 have k7:FrS (fun b=>L.vf.ownBlock=some b) w w7:=eG grow fun g e=>e;have n7:NoT (fun b=>L.vf.ownBlock=some b) w 188:=fun b hb=>cC h.fre hb (by decide);have qe:∀{b:Nat} {t:TypeId} {cs:Array Value},Blk w b t cs->3≠t->¬L.vf.ownBlock=some b:=fun hb ht e=>cC h.fre e ht _ _ hb;obtain⟨gs,h1,h2⟩:=h.box;have qg:=k7.blk h2 (qe h2 (by decide));have k8:FrS (fun b=>b=L.p) w7 (w7.setCell (aD L.p 2) (.s (sA g7) (T.fre.length+1) c7)):=eG (aO w7 L.p 2 _) fun g e=>(by injection e with e;exact e.symm);have n8:NoT (fun b=>b=L.p) w7 188:=NoT.one qg (by decide);have qa:∀{b:Nat} {t:TypeId} {cs:Array Value},Blk w7 b t cs->t≠165->¬b=L.p:=fun hb ht e=>(by rw[e]at hb;exact ht (bG hb qg).2);have qh:∀{t:TypeId} {v:Value} {n s:Nat} {xs:List Value},w.ownsRow B t s v n xs->3≠t->t≠165->(w7.setCell (aD L.p 2) (.s (sA g7) (T.fre.length+1) c7)).ownsRow B t s v n xs:=fun ho ht ht2=>(by have qf:=k7.own ho fun b hb=>(by obtain⟨c,hc⟩:=aT ho hb;exact qe hc ht);exact k8.own qf fun b hb=>(by obtain⟨c,hc⟩:=aT qf hb;exact qa hc ht2));have qj:∀{v:Value} {qs:LQ},OQ QR 35 w B v qs->OQ QR 35 (w7.setCell (aD L.p 2) (.s (sA g7) (T.fre.length+1) c7)) B v qs:=fun {v qs} ho=>(by obtain⟨xs,hx⟩:=ho.own;have qf:=k7.oq n7 ho fun b hb=>(by obtain⟨c,hc⟩:=aT hx hb;exact qe hc (by decide));obtain⟨qp,qo⟩:=qf.own;exact k8.oq n8 qf fun b hb=>(by obtain⟨c,hc⟩:=aT qo hb;exact qa hc (by decide)));obtain⟨n0,A0,m0,d0,qm,qn,qk,rfl,rr⟩:=h1;refine⟨⟨h.rl,h.lo,⟨_,⟨n0,A0,m0,d0,qm,qn,qk,rfl,k8.ratR n8 (k7.ratR n7 rr)⟩,qg.sT 2 _⟩,?_,h.bl,?_,?_,?_,fun i hi=>qj (h.co i hi),qj h.go,h.sep⟩,(k7.mono (S':=L.S) fun b hb=>.inr (.inr (.inr (.inl hb)))).tr k8 fun b hb=>.inl (.inl hb)⟩;{obtain⟨css,h1,h3,h4,h5⟩:=h.rows;refine⟨css,h1,h3,qh h4 (by decide) (by decide),fun i hi=>?_⟩;obtain⟨c,h6,h7⟩:=h5 i hi;exact⟨c,h6,k8.rwc n8 (k7.rwc n7 h7)⟩};{have qi:=k7.own h.bas fun b hb e=>(by (rcases h.bf with h9|h9);{rw[h9]at hb;cases hb};exact h9 (hb.trans e.symm));exact k8.own qi fun b hb=>(by obtain⟨c,hc⟩:=aT qi hb;exact qa hc (by decide))};{show(w7.setCell _ _).ownsRow B 3 1 _ (T.fre++[num]).length (ints (T.fre++[num]));rw[iC,yQ];exact k8.own own7 fun b hb=>(by obtain⟨c,hc⟩:=aT own7 hb;exact qa hc (by decide))};(show L.vb.ownBlock=none\/L.vb.ownBlock≠some g7;rcases new7 with e|e);{rw[e];exact h.bf};refine .inr fun e2=>?_;have:=(h.bas.lt g7 e2).2;omega
end
def TmR(w:World)(PT:OA)(ts:List (Nat×Rat)):Prop:=
 ∃css:List (List Value),css.length=ts.length/\(∀cs∈css,cs.length=4)/\RdT w 146 PT css.flatten/\∀(i:Nat) (t:Nat×Rat),ts[i]?=some t->∃cs,css[i]?=some cs/\∃(neg:Bool) (A:OA) (n c:Nat) (A':OA) (n' c':Nat),cs=[vI (t.1:Int),.bool neg,.s A n c,.s A' n' c']/\aE w neg A n c A' n' c' t.2
theorem TmR.K{w w'}{PT}{ts:List (Nat×Rat)}(h:TmR w PT ts)(hx:Ext w w'):TmR w' PT ts:=by
 obtain⟨css,h1,h2,h3,h4⟩:=h;refine⟨css,h1,h2,h3.K hx,fun i t ht=>?_⟩;obtain⟨cs,k1,neg,A,n,c,A',n',c',k2,k3⟩:=h4 i t ht;exact⟨cs,k1,neg,A,n,c,A',n',c',k2,k3.K hx⟩
theorem TmR.fr{S:Nat->Prop}{w w'}{PT}{ts:List (Nat×Rat)}(h:TmR w PT ts)(k:FrS S w w')(n1:NoT S w 146)(n2:NoT S w 188):TmR w' PT ts:=by
 obtain⟨css,h1,h2,h3,h4⟩:=h;refine⟨css,h1,h2,k.rdT n1 h3,fun i t ht=>?_⟩;obtain⟨cs,k1,neg,A,n,c,A',n',c',k2,k3⟩:=h4 i t ht;exact⟨cs,k1,neg,A,n,c,A',n',c',k2,k.ratR n2 k3⟩
theorem TmR.at_{w}{PT}{ts:List (Nat×Rat)}(h:TmR w PT ts){i:Nat}{t:Nat×Rat}(ht:ts[i]?=some t):
  ∃(b o:Nat) (neg:Bool) (A:OA) (n c:Nat) (A':OA) (n' c':Nat),PT=some (aD b o)/\b<w.heap.size/\
   (w.cell? (aD b (o+i*4))=some (vI (t.1:Int))/\w.cell? (aD b (o+i*4+1))=some (.bool neg)/\w.cell? (aD b (o+i*4+2))=some (.s A n c)/\w.cell? (aD b (o+i*4+3))=some (.s A' n' c'))/\aE w neg A n c A' n' c' t.2:=by
 obtain⟨css,h1,h2,h3,h4⟩:=h;obtain⟨cs,k1,neg,A,n,c,A',n',c',rfl,k3⟩:=h4 i t ht;have hi:=(yH.1 ht).1;have qa:=gH css h2;obtain⟨b,o,e,qf,hc⟩:=h3.rd (by intro e;rw[e]at qa;simp at qa;omega);have qe:∀k,k<4->w.cell? (aD b (o+i*4+k))=([vI (t.1:Int),.bool neg,.s A n c,.s A' n' c']:List Value)[k]?:=fun k hk=>(by rw[kZw,hc (i*4+k) (by rw[qa];omega),eL css h2 i k (by omega) hk,k1];rfl);exact⟨b,o,neg,A,n,c,A',n',c',e,qf,⟨qe 0 (by omega),qe 1 (by omega),qe 2 (by omega),qe 3 (by omega)⟩,k3⟩
theorem mY{w:World}{B n s:Nat}{e:TypeId}{v:Value}{xs:List Value}(h:w.ownsRow B e s v n xs):∃A c,v=.s A n c/\n<=c:=by
 rcases h.2 with⟨h3,h4⟩|⟨g',cap,cur,h3,h4,h5,h6,_⟩
 ·exact⟨none,0,by rw[h3,h4],by omega⟩
 exact⟨_,cap,h3,h6⟩
theorem QB.fr{S:Nat->Prop}{w w'}{g:Nat}{qs:LQ}(h:QB w g qs)(k:FrS S w w')(hn:NoT S w 188)(hg:¬S g):QB w' g qs:=by
 obtain⟨css,h1,h2,h3,h4⟩:=h;refine⟨css,h1,h2,k.blk h3 hg,fun i q hq=>?_⟩;obtain⟨cs,k1,k2⟩:=h4 i q hq;exact⟨cs,k1,k.qr hn k2⟩
theorem jzmp(m:Nat)(ts:List (Nat×Rat)){n:Nat}{t:Nat×Rat}(h:ts[n]?=some t):aP m (ts.take (n+1))=(aP m (ts.take n)).set t.1 t.2:=by
 unfold aP;rw[kQr,h];show(ts.take n++[t]).foldl _ _=_;rw[kZt];rfl
end Go.Proofs.YtojpooidhilnfaaGreatDoor
