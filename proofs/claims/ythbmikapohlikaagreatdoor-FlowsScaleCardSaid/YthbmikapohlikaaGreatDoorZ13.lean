/- Part 13 of 24 of what the Flows claims share (the white space is struck, the texts are joined). -/
import Derived.Test.YthbmikapohlikaaGreatDoorZ12
set_option linter.unusedVariables false
set_option linter.unusedSimpArgs false
set_option maxRecDepth 100000
set_option maxHeartbeats 8000000
namespace Go.Proofs.YthbmikapohlikaaGreatDoor
open Go.RowKit
structure SzT(T:Sx.Tb)(P:Nat):Prop where
 co:∀i,i<T.rows.length->∀q∈(T.row i).co,SzQ q P
 re:∀i,i<T.rows.length->SzQ (T.row i).re P
 go:∀q∈T.goal.co,SzQ q P
 gr:SzQ T.goal.re P
structure OkT(T:Sx.Tb):Prop where
 cl:∀i,i<T.rows.length->(T.row i).co.length=T.fre.length
 gl:T.goal.co.length=T.fre.length
def PvPost(w:World)(B:Nat)(L:TLoc)(T':Sx.Tb)(e:Ending)(w':World):Prop:=e=.returned (.tuple #[])/\TabR w' B L T'/\FrS L.S w w'
theorem sclL_zero(X:List Rat)(j:Nat)(q:Rat):Sx.sclL X j q 0=X.set j 1:=by
 unfold Sx.sclL Sx.at_;apply uK;intro k;by_cases hk:k<X.length
 ·rw [yW,xJ hk]
  simp only [Option.map_some,Nat.not_lt_zero,if_false];by_cases e:k=j
  ·subst e;rw [if_pos rfl,yM hk]
  ·rw [if_neg e,vN (fun e2=>e e2.symm),yG hk];rfl
 ·rw [yI (by simp;omega),yI (by rw [yV];omega)]
theorem sclL_at(X:List Rat)(j:Nat)(q:Rat){i:Nat}(hi:i<X.length):(Sx.sclL X j q i)[i]?=some (if i=j then 1 else Sx.at_ X i):=by
 unfold Sx.sclL;rw [yW,xJ hi];simp only [Option.map_some,Nat.lt_irrefl,if_false]
theorem jzhk(X:List Rat)(j:Nat)(q:Rat){i:Nat}(hi:i<X.length):Sx.sclL X j q (i+1)=(Sx.sclL X j q i).set i ((if i=j then 1 else Sx.at_ X i)*q):=by
 apply uK;intro k;by_cases hk:k<X.length
 ·by_cases e:i=k
  ·subst e
   rw [yM (by rw [Sx.sclL_len];exact hi)];unfold Sx.sclL;rw [yW,xJ hk];simp only [Option.map_some];rw [if_pos (show i<i+1 by omega)]
  ·rw [vN e]
   unfold Sx.sclL;rw [yW,yW,xJ hk];simp only [Option.map_some];have:(k<i+1↔k<i):=(by omega);by_cases h:k<i
   ·rw [if_pos (this.2 h),if_pos h]
   ·rw [if_neg (fun h2=>h (this.1 h2)),if_neg h]
 ·rw [yI (by rw [Sx.sclL_len];omega),yI (by rw [yV,Sx.sclL_len];omega)]
theorem sclL_skip(X:List Rat)(j:Nat)(q:Rat){i:Nat}(hi:i<X.length)(h0:(if i=j then 1 else Sx.at_ X i)=0):Sx.sclL X j q (i+1)=Sx.sclL X j q i:=by
 have h:=sclL_at X j q hi;rw [h0]at h;rw [jzhk X j q hi,h0,Rat.zero_mul];apply uK;intro k;by_cases e:i=k
 ·subst e;rw [yM (by rw [Sx.sclL_len];exact hi),h]
 ·rw [vN e]
theorem jzhl{w:World}{B g c n i:Nat}{l:List Nat}(h:w.ownsRow B 3 1 (.slice (some ⟨g,0,none⟩) n c) n (ints l))(hi:i<n):w.cell? ⟨g,i,none⟩=some (.int .i64 (Sx.atN l i:Nat))/\w.frozen? ⟨g,i,none⟩=false:=by
 obtain⟨g',c',qa,e1,_,e3,_,_,_,e7⟩:=jz9 h (by omega);injection e1 with e1 _ _
 injection e1 with e1
 injection e1 with e1
 subst e1;refine⟨?_,e3.frozen i⟩;have hl:l.length=n:=(by have:=h.1;rw [jzx]at this;omega);rw [e3.cell, <-Array.getElem?_toList];have h1:(qa.toList.take (n*1))[i]?=(ints l)[i]?:=(by rw [e7]);rw [xG,if_pos (by omega)]at h1;rw [h1];unfold ints Sx.atN;rw [yW,yG (by omega)];rfl
theorem jzk0:mkQ (decide ((1:Int)<0)) (1:Int).natAbs 1=1:=mkQ_self 1
def sclT(T:Sx.Tb)(i j n:Nat):Sx.Tb:=setRow T i ⟨Sx.sclL (T.row i).co j (1/Sx.at_ (T.row i).co j) n,(T.row i).re⟩
theorem jzf2(T:Sx.Tb)(i:Nat)(r s:Sx.Rw):setRow (setRow T i r) i s=setRow T i s:=by unfold setRow;simp
theorem pivot_ok(B i j bg P:Nat)(L:TLoc)(T:Sx.Tb)(w:World)(h:TabR w B L T)(vt:OkT T)(vl:SzT T P)(hP:P<=100000)(hi:i<L.m)(hj:j<T.fre.length)(hp:Sx.at_ (T.row i).co j≠0)(hm:L.m<=1000000)(hK:T.fre.length<=1000000000000)
  (vH:Blk w bg 150 #[.pointer (some ⟨L.p,3,none⟩)]):
  Calls Tryz.prog 90 #[.pointer (some ⟨L.p,0,none⟩),.int .i64 (i:Int),.int .i64 (j:Int),.slice (some ⟨bg,0,none⟩) 1 1] w (PvPost w B L (Sx.pivT T i j)):=by
 obtain⟨g,cr,q4,zg⟩:=h.vr_form (by omega);have qn:i<T.rows.length:=(by rw [h.rl];exact hi);have qT:=vt.cl i qn;obtain⟨gv,cv,hV,za,qE⟩:=(h.co i hi).form (by rw [qT];omega);rw [qT]at hV za;obtain⟨cb,hb,vY⟩:=h.rwa hi q4;obtain⟨cp,ve,vV,p0,p1,p2,p7⟩:=h.goa;have q0:=(ve.cell 0).trans p0;rw [q4]at q0;obtain⟨nr,R1,m1,d1,zp,zm,zv,r0,r1,r2,r3,rr⟩:=vY;have qr:=(hb.cell (i*4)).trans r0;rw [hV]at qr;have vn:j<(T.row i).co.length:=(by rw [qT];exact hj);have qF:=h.co i hi;rw [hV]at qF;obtain⟨nf,F1,f1,e1,q5,qX,va,⟨x0,x1,x2⟩,⟨y0,y1,y2⟩,rf⟩:=qF.cell (jzv vn);have zj:L.p<w.heap.size:=ve.lt;have vJ:g<w.heap.size:=hb.lt;have iN:(i:Int)<(L.m:Int):=(by omega);have jN:(j:Int)<(T.fre.length:Int):=(by omega);have i0:(0:Int)<=(i:Int):=(by omega);have j0:(0:Int)<=(j:Int):=(by omega);have H:=Hx (And.intro h (And.intro vt vl));have HV:=Hx (And.intro q4 (And.intro hV qT));have HR:=Hx (And.intro rf rr);have HB:=Hx (And.intro hb (And.intro ve vH));have HP:=Hx hp;have vk:=Hx (vl.co i qn _ (yJ (jzv vn)));clear h vt vl q4 qT hV hb ve vH rf rr qF vV p0 p1 p2 p7 r0 r1 r2 r3 vn hp;generalize hKK:T.fre.length=K at*;have qL:=Hx hKK;clear hKK
 go_enter Tryz.func90,Tryz.ntmps90
 go_upto_region 1 with fail
 have XD:=Hx (show Ext w w.drew from(Ext.refl w).drewN 1);have XA:=Hx (show Ext w (w.alloc (.cells #[.bool false,.slice none 0 0,.slice none 0 0] 35)).drew from((Ext.refl w).alloc _).drewN 1);have BN:=Hx (show Blk (w.alloc (.cells #[.bool false,.slice none 0 0,.slice none 0 0] 35)).drew w.heap.size 35 #[.bool false,.slice none 0 0,.slice none 0 0]from Blk.new w _ _);have qa:=Hx (show∀wx,Ext w wx->(wx.cell? ⟨g,i*4,none⟩=some (.slice (some ⟨gv,0,none⟩) K cv)/\wx.cell? ⟨gv,j*3,none⟩=some (.bool nf)/\wx.cell? ⟨gv,j*3+1,none⟩=some (.slice F1 f1 e1)/\wx.cell? ⟨gv,j*3+2,none⟩=some (.slice q5 qX va))from fun wx hx=>⟨cellK hx qr,cellK hx x0,cellK hx x1,cellK hx x2⟩);have LF:=Hx (HR.out.1.lens vk.out);obtain⟨v6,ze⟩:=LF.out;have vh:f1<=134217728:=(by omega);have vp:qX<=134217728:=(by omega);obtain⟨qI,i1,i2,i3⟩:=qa.out _ XD.out;obtain⟨u0,u1,u2,u3⟩:=qa.out _ XA.out
 go_cut [9] (fun sl wx=>∃(gs:Nat) (ns:Bool) (A3:Option Addr) (l3 c3:Nat) (qh:Option Addr) (qe qi:Nat),sl=.pointer (some ⟨gs,0,none⟩)/\Hid (w.heap.size<=gs/\Blk wx gs 35 #[.bool ns,.slice A3 l3 c3,.slice qh qe qi]/\RatR wx ns A3 l3 c3 qh qe qi (1/Sx.at_ (T.row i).co j)/\Ext w wx))
 case first=>
  go_region_held3 (fun w'=>w'.cell? ⟨g,i*4,none⟩=some (.slice (some ⟨gv,0,none⟩) K cv)/\w'.cell? ⟨gv,j*3,none⟩=some (.bool nf)/\w'.cell? ⟨gv,j*3+1,none⟩=some (.slice F1 f1 e1)/\w'.cell? ⟨gv,j*3+2,none⟩=some (.slice q5 qX va))
   (first|with_reducible exact⟨qI,i1,i2,i3⟩|with_reducible exact⟨u0,u1,u2,u3⟩|with_reducible exact⟨jzc qI _,jzc i1 _,jzc i2 _,jzc i3 _⟩|exact⟨jzb (jzb (jzb qI fT) fT) fT,jzb (jzb (jzb i1 fG) fG) fG,jzb (jzb (jzb i2 fG) fG) fG,jzb (jzb (jzb i3 fG) fG) fG⟩|fail)
   (first
    |(go_at_call 22
      first
      |(with_reducible refine(jzb6 1 w.drew (by decide) (by decide)).mono ?_
        rintro e w8 ⟨n8,A8,l8,c8,qZ,q9,qY,rfl,h8,x8⟩;have E8:=Hx (XD.out.tr x8))
      |(with_reducible refine(jzb6 1 (w.alloc (.cells #[.bool false,.slice none 0 0,.slice none 0 0] 35)).drew (by decide) (by decide)).mono ?_
        rintro e w8 ⟨n8,A8,l8,c8,qZ,q9,qY,rfl,h8,x8⟩;have E8:=Hx (XA.out.tr x8);have B8:=Hx (BN.out.keep x8))
      rw [jzk0]at h8;have R8:=Hx h8;obtain⟨zo,v9⟩:=R8.out.lens (show SzQ 1 1 from⟨by decide,by decide⟩);obtain⟨qI,i1,i2,i3⟩:=qa.out _ E8.out;clear x8 h8)
    |(go_at_call 145
      first
      |(with_reducible refine(jzcb n8 nf A8 l8 c8 qZ q9 qY F1 f1 e1 q5 qX va 1 (Sx.at_ (T.row i).co j) _ (by with_reducible exact R8.out) (HR.out.1.keep (by with_reducible exact E8.out)) HP.out (by omega) (by omega) vh vp).mono ?_
        rintro e w9 ⟨n9,A9,l9,c9,qz,qo,qw,rfl,h9,x9⟩;have E9:=Hx (E8.out.tr x9)
        first
        |(have B9:=Hx (B8.out.keep x9)
          obtain⟨⟨v0,v1,v2⟩,z0,z1,z2⟩:=B9.out.three;have gg:w.heap.size<=w.heap.size:=yX _;have fT:g≠w.heap.size:=Nat.ne_of_lt vJ;have fG:gv≠w.heap.size:=Nat.ne_of_lt qE)
        |skip)
      |(have xa:=(Ext.refl w8).alloc (.cells #[.bool false,.slice none 0 0,.slice none 0 0] 35)
        with_reducible refine(jzcb n8 nf A8 l8 c8 qZ q9 qY F1 f1 e1 q5 qX va 1 (Sx.at_ (T.row i).co j) _ (R8.out.keep (by with_reducible exact xa)) (HR.out.1.keep (by with_reducible exact E8.out.tr xa)) HP.out (by omega) (by omega) vh vp).mono ?_
        rintro e w9 ⟨n9,A9,l9,c9,qz,qo,qw,rfl,h9,x9⟩;have E9:=Hx ((E8.out.tr xa).tr x9);have gg:w.heap.size<=w8.heap.size:=E8.out.size;have fT:g≠w8.heap.size:=Nat.ne_of_lt (yL vJ gg);have fG:gv≠w8.heap.size:=Nat.ne_of_lt (yL qE gg);have B9:=Hx ((Blk.new w8 35 #[.bool false,.slice none 0 0,.slice none 0 0]).keep x9);obtain⟨⟨v0,v1,v2⟩,z0,z1,z2⟩:=B9.out.three;clear xa)
      have R9:=Hx h9;obtain⟨qI,i1,i2,i3⟩:=qa.out _ E9.out;clear x9 h9)
    |fail)
  all_goals
   go_wp2;go_meet
   first
   |(obtain⟨k1,k2⟩:=jzae (w:=w) R9.out B9.out gg E9.out
     exact⟨_,n9,A9,l9,c9,qz,qo,qw,rfl,Hx ⟨gg,((B9.out.set_ 0 _).set_ 1 _).set_ 2 _,k1,k2⟩⟩)
   |(have xb:=(Ext.refl w9).alloc (.cells #[.bool n9,.slice A9 l9 c9,.slice qz qo qw] 35)
     exact⟨w9.heap.size,n9,A9,l9,c9,qz,qo,qw,rfl,Hx ⟨E9.out.size,Blk.new w9 _ _,R9.out.keep xb,E9.out.tr xb⟩⟩)
 case rest=>
  obtain⟨gs,ns,A3,l3,c3,qh,qe,qi,rfl,G⟩:=hcut;clear XD XA BN qa LF qI i1 i2 i3 u0 u1 u2 u3 v6 ze vh vp;have vi:=Hx (show SzQ (1/Sx.at_ (T.row i).co j) (1+P)from(show SzQ 1 1 from⟨by decide,by decide⟩).div vk.out HP.out);have NS:=Hx (show¬L.S gs from fun hs=>by
   have:=(H.out.1.ty hs).2.1;have:=G.out.1;omega)
  have I0:=Hx (show TabR wc B L T/\FrS L.S w wc/\Blk wc gs 35 #[.bool ns,.slice A3 l3 c3,.slice qh qe qi]/\RatR wc ns A3 l3 c3 qh qe qi (1/Sx.at_ (T.row i).co j)from⟨H.out.1.keep G.out.2.2.2,FrS.of_ext G.out.2.2.2,G.out.2.1,G.out.2.2.1⟩);have VC:=Hx (show∀wx Tc,TabR wx B L Tc->wx.cell? ⟨g,i*4,none⟩=some (.slice (some ⟨gv,0,none⟩) K cv)from fun wx Tc hx=>by
   obtain⟨cs,hb,_,_,_,_,_,_,_,r0,_⟩:=hx.rwa hi HV.out.1;rw [HV.out.2.1]at r0;exact(hb.cell _).trans r0)
  have qf:g≠gv:=fun e=>by
   obtain⟨xs,h1⟩:=(H.out.1.co i hi).own;obtain⟨c,h2⟩:=jzl h1 (show(L.V i).ownBlock=some gv by rw [HV.out.2.1];rfl);subst e;have:=(jzq HB.out.1 h2).2;exact absurd this (by decide)
  have q1:=VC.out _ _ I0.out.1;have q2:=show wc.drew.cell? ⟨g,i*4,none⟩=some (.slice (some ⟨gv,0,none⟩) K cv)from q1;have XD:=Hx (show Ext wc wc.drew from(Ext.refl wc).drewN 1)
  go_upto_region 2 with fail
  go_cut [] (fun wx=>Hid (TabR wx B L (sclT T i j 0)/\FrS L.S w wx/\Blk wx gs 35 #[.bool ns,.slice A3 l3 c3,.slice qh qe qi]/\RatR wx ns A3 l3 c3 qh qe qi (1/Sx.at_ (T.row i).co j)))
  case first=>
   go_region_held3 (fun w'=>w'.cell? ⟨g,i*4,none⟩=some (.slice (some ⟨gv,0,none⟩) K cv))
    (first|with_reducible exact q2|with_reducible exact q8|exact jzb (jzb (jzb q8 qf) qf) qf|fail)
    (first
     |(go_at_call 22
       with_reducible refine(jzb6 1 wc.drew (by decide) (by decide)).mono ?_
       rintro e w8 ⟨n8,A8,l8,c8,qZ,q9,qY,rfl,h8,x8⟩;have E8:=Hx (XD.out.tr x8);rw [jzk0]at h8;have R8:=Hx h8;have q8:=cellK E8.out q1;have fz:=(show∀k,w8.frozen? ⟨gv,k,none⟩=false from fun k=>by
        obtain⟨xs,h1⟩:=((I0.out.1.keep E8.out).co i hi).own;obtain⟨c,h2⟩:=jzl h1 (show(L.V i).ownBlock=some gv by rw [HV.out.2.1];rfl);exact h2.frozen k)
       have z0:=fz (j*3);have z1:=fz (j*3+1);have z2:=fz (j*3+2);have cc:=((I0.out.1.keep E8.out).co i hi);rw [HV.out.2.1]at cc;obtain⟨_,_,_,_,_,_,_,⟨t0,t1,t2⟩,_⟩:=cc.cell (jzv (show j<(T.row i).co.length by rw [HV.out.2.2];exact hj));clear x8 h8 fz cc)
     |fail)
   all_goals
    go_wp2;go_meet;exact Hx (by
     obtain⟨k1,k2⟩:=(I0.out.1.keep E8.out).co_set hi HV.out.1 HV.out.2.1 HV.out.2.2 hj R8.out;have e1:sclT T i j 0=setRow T i ⟨(T.row i).co.set j 1,(T.row i).re⟩:=(by unfold sclT;rw [sclL_zero]);rw [e1];exact⟨k1,(I0.out.2.1.tr (FrS.of_ext (S:=L.S) E8.out) fun b hb=>.inl hb).tr k2 fun b hb=>.inl hb,k2.blk (I0.out.2.2.1.keep E8.out) NS.out,k2.ratR (I0.out.1.keep E8.out).no32 (I0.out.2.2.2.keep E8.out)⟩)
  case rest=>
   have I1:=hcut;have HX:=Hx (show∀n,(sclT T i j n).row i=⟨Sx.sclL (T.row i).co j (1/Sx.at_ (T.row i).co j) n,(T.row i).re⟩from fun n=>by
    unfold sclT;rw [jzce _ _ _ qn,if_pos rfl])
   have vz:=Hx (show∀n,((sclT T i j n).row i).co.length=K from fun n=>by rw [HX.out n];show(Sx.sclL _ _ _ _).length=K;rw [Sx.sclL_len];exact HV.out.2.2);have v4:=Hx (show L.S gv from .inr (.inr (.inr (.inr ⟨i,Nat.le_of_lt hi,by rw [HV.out.2.1];rfl⟩))));have q3:=VC.out _ _ I1.out.1;clear I0 q1 q2 XD G hcut;go_wp2
   go_loopg [11,12,46] K (fun q _ _ it wx=>∃n:Nat,K-n=q/\n<=K/\it=.int .i64 (n:Int)/\Hid (TabR wx B L (sclT T i j n)/\FrS L.S w wx/\Blk wx gs 35 #[.bool ns,.slice A3 l3 c3,.slice qh qe qi]/\RatR wx ns A3 l3 c3 qh qe qi (1/Sx.at_ (T.row i).co j)))
   case atStart=>exact⟨0,rfl,yZ _,rfl,I1⟩
   case round=>
    obtain⟨n,rfl,hn,rfl,I⟩:=hrel;clear I1 q3;by_cases vI:n<K
    ·have vd:n<(T.row i).co.length:=by rw [HV.out.2.2];exact vI
     obtain⟨xn,vc⟩:∃xn,(if n=j then 1 else Sx.at_ (T.row i).co n)=xn:=⟨_,rfl⟩;have vO:=Hx vc;have zd:=Hx (show SzQ xn (1+P)from by
      rw [<-vc]
      split
      ·exact(show SzQ 1 1 from⟨by decide,by decide⟩).mono (by omega)
      ·exact(H.out.2.2.co i qn _ (yJ (jzv vd))).mono (by omega))
     have qF:=I.out.1.co i hi;rw [HV.out.2.1,HX.out n]at qF;obtain⟨ne,E1,p1,q1,qN,qH,qM,⟨v0,v1,v2⟩,⟨g0,g1,g2⟩,re⟩:=qF.cell (sclL_at (T.row i).co j (1/Sx.at_ (T.row i).co j) vd);rw [vc]at re;have vT:gv<wr.heap.size:=yL qE I.out.2.1.size;have nK:(n:Int)<(K:Int):=(by omega);have n0:(0:Int)<=(n:Int):=(by omega);have RE:=Hx re;have CE:=Hx (And.intro (And.intro v0 (And.intro v1 v2)) (And.intro g0 (And.intro g1 g2)));have XB:=(Ext.refl wr).alloc (.cells #[.bool ne,.slice E1 p1 q1,.slice qN qH qM] 35);have SG:=Hx (jzz ne E1 p1 q1 qN qH qM xn _ (re.keep XB));clear re XB vc qF g0 g1 g2
     go_wp2_with fail
     refine SG.out.mono ?_;rintro e w4 ⟨rfl,x4⟩;have X4:=Hx (show Ext wr w4/\Blk w4 wr.heap.size 35 #[.bool ne,.slice E1 p1 q1,.slice qN qH qM]from⟨((Ext.refl wr).alloc _).tr x4,(Blk.new wr _ _).keep x4⟩);clear x4 SG v0 v1 v2;by_cases q7:xn=0
     ·have qJ:sgnI xn=0:=(sgn0 xn).2 q7
      rw [qJ];have I4:=Hx (show TabR w4 B L (sclT T i j (n+1))/\FrS L.S w w4/\Blk w4 gs 35 #[.bool ns,.slice A3 l3 c3,.slice qh qe qi]/\RatR w4 ns A3 l3 c3 qh qe qi (1/Sx.at_ (T.row i).co j)from by
       have e1:sclT T i j (n+1)=sclT T i j n:=(by unfold sclT;rw [sclL_skip _ _ _ vd (by rw [vO.out,q7])]);rw [e1];exact⟨I.out.1.keep X4.out.1,I.out.2.1.tr (FrS.of_ext (S:=L.S) X4.out.1) fun b hb=>.inl hb,I.out.2.2.1.keep X4.out.1,I.out.2.2.2.keep X4.out.1⟩)
      clear qJ q7 I;go_wp2
      go_roundg (K-(n+1))
      case measure=>omega
      case rel=>exact⟨n+1,rfl,by omega,by go_num,I4⟩
     ·have qJ:¬sgnI xn=0:=fun h=>q7 ((sgn0 xn).1 h)
      have zk:(sgnI xn !=0)=true:=(by simpa using qJ);have zu:decide (sgnI xn=0)=false:=yP qJ;have zh:(sgnI xn==0)=false:=(by simpa using qJ);generalize sgnI xn=sy at*;have T4:=Hx (I.out.1.keep X4.out.1);have XD:=Hx (show Ext w4 w4.drew from(Ext.refl w4).drewN 1);have qa:=Hx (show∀wx,Ext w4 wx->(wx.cell? ⟨g,i*4,none⟩=some (.slice (some ⟨gv,0,none⟩) K cv)/\(wx.cell? ⟨wr.heap.size,0,none⟩=some (.bool ne)/\wx.cell? ⟨wr.heap.size,1,none⟩=some (.slice E1 p1 q1)/\wx.cell? ⟨wr.heap.size,2,none⟩=some (.slice qN qH qM))/\wx.cell? ⟨gs,0,none⟩=some (.bool ns)/\wx.cell? ⟨gs,1,none⟩=some (.slice A3 l3 c3)/\wx.cell? ⟨gs,2,none⟩=some (.slice qh qe qi))from fun wx hx=>
       ⟨cellK hx (VC.out _ _ T4.out),(X4.out.2.keep hx).three.1,((I.out.2.2.1.keep X4.out.1).keep hx).three.1⟩)
      obtain⟨k0,⟨k1,k2,k3⟩,k4,k5,k6⟩:=qa.out _ XD.out;have b1:wr.heap.size≠gv:=(by omega);have b2:gs≠gv:=fun e=>NS.out (by rw [e];exact v4.out);obtain⟨zx,zs⟩:=RE.out.lens zd.out;obtain⟨zw,zq⟩:=I.out.2.2.2.lens vi.out;go_wp2
      go_region_held3 (fun w'=>w'.cell? ⟨g,i*4,none⟩=some (.slice (some ⟨gv,0,none⟩) K cv)/\(w'.cell? ⟨wr.heap.size,0,none⟩=some (.bool ne)/\w'.cell? ⟨wr.heap.size,1,none⟩=some (.slice E1 p1 q1)/\w'.cell? ⟨wr.heap.size,2,none⟩=some (.slice qN qH qM))/\w'.cell? ⟨gs,0,none⟩=some (.bool ns)/\w'.cell? ⟨gs,1,none⟩=some (.slice A3 l3 c3)/\w'.cell? ⟨gs,2,none⟩=some (.slice qh qe qi))
       (first|with_reducible exact⟨k0,⟨k1,k2,k3⟩,k4,k5,k6⟩|exact⟨jzb (jzb (jzb k0 qf) qf) qf,⟨jzb (jzb (jzb k1 b1) b1) b1,jzb (jzb (jzb k2 b1) b1) b1,jzb (jzb (jzb k3 b1) b1) b1⟩,jzb (jzb (jzb k4 b2) b2) b2,jzb (jzb (jzb k5 b2) b2) b2,jzb (jzb (jzb k6 b2) b2) b2⟩|fail)
       (first
        |(go_at_call 21
          with_reducible refine(jz1 ne ns E1 p1 q1 qN qH qM A3 l3 c3 qh qe qi xn (1/Sx.at_ (T.row i).co j) _ ((RE.out.keep X4.out.1).keep (by with_reducible exact XD.out)) ((I.out.2.2.2.keep X4.out.1).keep (by with_reducible exact XD.out)) (by omega) (by omega) (by omega) (by omega)).mono ?_
          rintro e w5 ⟨n5,A5,l5,c5,qx,qy,qt,rfl,h5,x5⟩;have E5:=Hx (XD.out.tr x5);have R5:=Hx h5;obtain⟨k0,⟨k1,k2,k3⟩,k4,k5,k6⟩:=qa.out _ E5.out;have t0:=cellK (X4.out.1.tr E5.out) CE.out.1.1;have t1:=cellK (X4.out.1.tr E5.out) CE.out.1.2.1;have t2:=cellK (X4.out.1.tr E5.out) CE.out.1.2.2;have z0:=froK (X4.out.1.tr E5.out) CE.out.1.1 CE.out.2.1;have z1:=froK (X4.out.1.tr E5.out) CE.out.1.2.1 CE.out.2.2.1;have z2:=froK (X4.out.1.tr E5.out) CE.out.1.2.2 CE.out.2.2.2;clear h5 x5)
        |fail)
      all_goals
       have I6:=Hx (show TabR (((w5.setCell ⟨gv,n*3,none⟩ (.bool n5)).setCell ⟨gv,n*3+1,none⟩ (.slice A5 l5 c5)).setCell ⟨gv,n*3+2,none⟩ (.slice qx qy qt)) B L (sclT T i j (n+1))/\FrS L.S w (((w5.setCell ⟨gv,n*3,none⟩ (.bool n5)).setCell ⟨gv,n*3+1,none⟩ (.slice A5 l5 c5)).setCell ⟨gv,n*3+2,none⟩ (.slice qx qy qt))/\Blk (((w5.setCell ⟨gv,n*3,none⟩ (.bool n5)).setCell ⟨gv,n*3+1,none⟩ (.slice A5 l5 c5)).setCell ⟨gv,n*3+2,none⟩ (.slice qx qy qt)) gs 35 #[.bool ns,.slice A3 l3 c3,.slice qh qe qi]/\RatR (((w5.setCell ⟨gv,n*3,none⟩ (.bool n5)).setCell ⟨gv,n*3+1,none⟩ (.slice A5 l5 c5)).setCell ⟨gv,n*3+2,none⟩ (.slice qx qy qt)) ns A3 l3 c3 qh qe qi (1/Sx.at_ (T.row i).co j)from by
        have T5:=T4.out.keep E5.out;have X5:=X4.out.1.tr E5.out;obtain⟨k1,k2⟩:=T5.co_set hi HV.out.1 HV.out.2.1 (vz.out n) vI R5.out;have e1:setRow (sclT T i j n) i ⟨((sclT T i j n).row i).co.set n (xn*(1/Sx.at_ (T.row i).co j)),((sclT T i j n).row i).re⟩=sclT T i j (n+1):=by
         rw [HX.out n];unfold sclT;rw [jzf2,jzhk _ _ _ vd,vO.out]
        rw [e1]at k1;exact⟨k1,(I.out.2.1.tr (FrS.of_ext (S:=L.S) X5) fun b hb=>.inl hb).tr k2 fun b hb=>.inl hb,k2.blk (I.out.2.2.1.keep X5) NS.out,k2.ratR T5.no32 (I.out.2.2.2.keep X5)⟩)
       clear k0 k1 k2 k3 k4 k5 k6 t0 t1 t2 z0 z1 z2 qa I;go_wp2
       go_roundg (K-(n+1))
       case measure=>omega
       case rel=>exact⟨n+1,rfl,by omega,by go_num,I6⟩
    ·obtain rfl:K=n:=by omega
     have v3:¬((K:Int)<(K:Int)):=(by omega);have vw:¬K<K:=Nat.lt_irrefl K;obtain⟨zt,vy,vU⟩:=I.out.1.rwa hi HV.out.1;obtain⟨n9,A9,l9,c9,qz,qo,qw,s0,s1,s2,s3,vj⟩:=vU;rw [HX.out K]at vj;have B9:=Hx (And.intro vy (And.intro s0 (And.intro s1 (And.intro s2 (And.intro s3 vj)))));have LE:=Hx (show l9<=134217728/\qo<=134217728/\l3<=134217728/\qe<=134217728 from by
      obtain⟨a1,a2⟩:=B9.out.2.2.2.2.2.lens (H.out.2.2.re i qn);obtain⟨a3,a4⟩:=I.out.2.2.2.lens vi.out;exact⟨by omega,by omega,by omega,by omega⟩)
     have XD:=Hx (show Ext wr wr.drew from(Ext.refl wr).drewN 1);have qa:=Hx (show∀wx,Ext wr wx->((wx.cell? ⟨g,i*4+1,none⟩=some (.bool n9)/\wx.cell? ⟨g,i*4+2,none⟩=some (.slice A9 l9 c9)/\wx.cell? ⟨g,i*4+3,none⟩=some (.slice qz qo qw))/\wx.cell? ⟨gs,0,none⟩=some (.bool ns)/\wx.cell? ⟨gs,1,none⟩=some (.slice A3 l3 c3)/\wx.cell? ⟨gs,2,none⟩=some (.slice qh qe qi))from fun wx hx=>
      ⟨⟨((B9.out.1.keep hx).cell _).trans B9.out.2.2.1,((B9.out.1.keep hx).cell _).trans B9.out.2.2.2.1,((B9.out.1.keep hx).cell _).trans B9.out.2.2.2.2.1⟩,(I.out.2.2.1.keep hx).three.1⟩)
     have HSW:=Hx (qa.out _ XD.out);clear vy s0 s1 s2 s3 vj;go_wp2;refine jzg (fun w'=>(w'.cell? ⟨g,i*4+1,none⟩=some (.bool n9)/\w'.cell? ⟨g,i*4+2,none⟩=some (.slice A9 l9 c9)/\w'.cell? ⟨g,i*4+3,none⟩=some (.slice qz qo qw))/\w'.cell? ⟨gs,0,none⟩=some (.bool ns)/\w'.cell? ⟨gs,1,none⟩=some (.slice A3 l3 c3)/\w'.cell? ⟨gs,2,none⟩=some (.slice qh qe qi)) 9 (by kernel_rfl) ?_;refine wT 0 (v:=?_) rfl ?_ HSW.out ?_;rotate_left
     focus (intro w hSw;obtain⟨⟨s1,s2,s3⟩,s4,s5,s6⟩:=hSw;go_simp;try with_reducible rfl)
     try simp only [Act.put,yD,yE,yF]
     refine wT 1 (v:=?_) rfl ?_ HSW.out ?_;rotate_left
     focus (intro w hSw;obtain⟨⟨s1,s2,s3⟩,s4,s5,s6⟩:=hSw;go_simp;try with_reducible rfl)
     try simp only [Act.put,yD,yE,yF]
     refine wT 2 (v:=?_) rfl ?_ HSW.out ?_;rotate_left
     focus (intro w hSw;obtain⟨⟨s1,s2,s3⟩,s4,s5,s6⟩:=hSw;go_simp;try with_reducible rfl)
     try simp only [Act.put,yD,yE,yF]
     refine wT 3 (v:=?_) rfl ?_ HSW.out ?_;rotate_left
     focus (intro w hSw;obtain⟨⟨s1,s2,s3⟩,s4,s5,s6⟩:=hSw;go_simp;try with_reducible rfl)
     try simp only [Act.put,yD,yE,yF]
     refine wT 4 (v:=?_) rfl ?_ HSW.out ?_;rotate_left
     focus (intro w hSw;obtain⟨⟨s1,s2,s3⟩,s4,s5,s6⟩:=hSw;go_simp;try with_reducible rfl)
     try simp only [Act.put,yD,yE,yF]
     refine wT 5 (v:=?_) rfl ?_ HSW.out ?_;rotate_left
     focus (intro w hSw;obtain⟨⟨s1,s2,s3⟩,s4,s5,s6⟩:=hSw;go_simp;try with_reducible rfl)
     try simp only [Act.put,yD,yE,yF]
     refine wC 6 rfl (fun KK hK=>?_);go_simp;refine(jz1 n9 ns A9 l9 c9 qz qo qw A3 l3 c3 qh qe qi (T.row i).re (1/Sx.at_ (T.row i).co j) _ (B9.out.2.2.2.2.2.keep XD.out) (I.out.2.2.2.keep XD.out) LE.out.1 LE.out.2.1 LE.out.2.2.1 LE.out.2.2.2).mono ?_;rintro e w5 ⟨n5,A5,l5,c5,qx,qy,qt,rfl,h5,x5⟩;have E5:=Hx (XD.out.tr x5);have HSW:=Hx (qa.out _ E5.out);have R5:=Hx h5;refine hK.out _ _ HSW.out ?_;clear hK KK h5 x5;refine wC 7 rfl (fun KK hK=>?_);go_simp;refine hK.out _ _ HSW.out ?_;clear hK KK;refine wT 8 (v:=?_) rfl ?_ HSW.out ?_;rotate_left
     focus (intro w hSw;obtain⟨⟨s1,s2,s3⟩,s4,s5,s6⟩:=hSw;go_simp;try with_reducible rfl)
     try simp only [Act.put,yD,yE,yF]
     have z0:=(B9.out.1.keep E5.out).frozen (i*4+1);have z1:=(B9.out.1.keep E5.out).frozen (i*4+2);have z2:=(B9.out.1.keep E5.out).frozen (i*4+3);obtain⟨⟨t0,t1,t2⟩,_⟩:=HSW.out;refine jzk (by kernel_rfl) rfl (by rfl) (fun KK hK=>?_);go_simp;refine hK.out _ _ ?_;clear hK KK;refine wpAny_done (by kernel_rfl) ?_ _;have I7:=Hx (show TabR (((w5.setCell ⟨g,i*4+1,none⟩ (.bool n5)).setCell ⟨g,i*4+1+1,none⟩ (.slice A5 l5 c5)).setCell ⟨g,i*4+1+2,none⟩ (.slice qx qy qt)) B L (setRow T i (Sx.sclR (T.row i) j))/\FrS L.S w (((w5.setCell ⟨g,i*4+1,none⟩ (.bool n5)).setCell ⟨g,i*4+1+1,none⟩ (.slice A5 l5 c5)).setCell ⟨g,i*4+1+2,none⟩ (.slice qx qy qt))from by
      obtain⟨k1,k2⟩:=(I.out.1.keep E5.out).re_set hi HV.out.1 (by rw [vz.out K];omega) R5.out;have e1:setRow (sclT T i j K) i ⟨((sclT T i j K).row i).co,(T.row i).re*(1/Sx.at_ (T.row i).co j)⟩=setRow T i (Sx.sclR (T.row i) j):=by
       rw [HX.out K];unfold sclT Sx.sclR;rw [jzf2,HV.out.2.2]
      rw [e1]at k1;exact⟨k1,(I.out.2.1.tr (FrS.of_ext (S:=L.S) E5.out) fun b hb=>.inl hb).tr k2 fun b hb=>.inl hb⟩)
     clear z0 z1 z2 t0 t1 t2 HSW LE qa B9 E5 R5 XD I vi NS;generalize ((w5.setCell ⟨g,i*4+1,none⟩ (.bool n5)).setCell ⟨g,i*4+1+1,none⟩ (.slice A5 l5 c5)).setCell ⟨g,i*4+1+2,none⟩ (.slice qx qy qt)=W7 at*;obtain⟨gb,vK,qK,_⟩:=I7.out.1.vb_form (by omega);obtain⟨gf,q6,qA,_⟩:=I7.out.1.vf_form (show 0<T.fre.length by rw [qL.out];omega);have qA:L.vf=.slice (some ⟨gf,0,none⟩) K q6:=(by rw [qA];show Value.slice _ T.fre.length _=_;rw [qL.out]);have qC:=I7.out.1.bas;have qB:=I7.out.1.fre;have vx:(setRow T i (Sx.sclR (T.row i) j)).fre.length=K:=qL.out;rw [qK]at qC;rw [vx,qA]at qB;obtain⟨vo,vF⟩:=jzhl qC hi;obtain⟨vq,vu⟩:=jzhl qB hj;obtain⟨zf,qG,_,p0,p1,p2,_⟩:=I7.out.1.goa;rw [qK]at p1;rw [qA]at p2;have c1:=(qG.cell 1).trans p1;have c2:=(qG.cell 2).trans p2;have vg:=Hx (And.intro qK qA);have qP:gb≠gf:=fun e=>by
      rcases I7.out.1.bf with h1|h1
      ·rw [qK]at h1;cases h1
      ·exact h1 (by rw [qK,qA,e];rfl)
     have IC:=Hx (And.intro vo (And.intro vF (And.intro vq (And.intro vu (And.intro c1 c2)))));have HSW:=Hx (show W7.drew.cell? ⟨L.p,1,none⟩=some (.slice (some ⟨gb,0,none⟩) L.m vK)/\W7.drew.cell? ⟨L.p,2,none⟩=some (.slice (some ⟨gf,0,none⟩) K q6)/\W7.drew.cell? ⟨gb,i,none⟩=some (.int .i64 (Sx.atN T.bas i:Nat))/\W7.drew.cell? ⟨gf,j,none⟩=some (.int .i64 (Sx.atN T.fre j:Nat))from⟨c1,c2,vo,vq⟩);clear qK qA qC qB vx qG p0 p1 p2 vo vF vq vu c1 c2;go_wp2;refine jzg (fun w'=>w'.cell? ⟨L.p,1,none⟩=some (.slice (some ⟨gb,0,none⟩) L.m vK)/\w'.cell? ⟨L.p,2,none⟩=some (.slice (some ⟨gf,0,none⟩) K q6)/\w'.cell? ⟨gb,i,none⟩=some (.int .i64 (Sx.atN T.bas i:Nat))/\w'.cell? ⟨gf,j,none⟩=some (.int .i64 (Sx.atN T.fre j:Nat))) 25 (by kernel_rfl) ?_;refine wP 0 rfl HSW.out ?_;try simp only [Act.put,yD,yE,yF]
     refine wP 1 rfl HSW.out ?_;try simp only [Act.put,yD,yE,yF]
     refine wP 2 rfl HSW.out ?_;try simp only [Act.put,yD,yE,yF]
     refine wT 3 (v:=?_) rfl ?_ HSW.out ?_;rotate_left
     focus (intro w hSw;obtain⟨s1,s2,s3,s4⟩:=hSw;go_simp;try with_reducible rfl)
     try simp only [Act.put,yD,yE,yF]
     refine wP 4 rfl HSW.out ?_;try simp only [Act.put,yD,yE,yF]
     refine wP 5 rfl HSW.out ?_;try simp only [Act.put,yD,yE,yF]
     refine wP 6 rfl HSW.out ?_;try simp only [Act.put,yD,yE,yF]
     refine wP 7 rfl HSW.out ?_;try simp only [Act.put,yD,yE,yF]
     refine wT 8 (v:=?_) rfl ?_ HSW.out ?_;rotate_left
     focus (intro w hSw;obtain⟨s1,s2,s3,s4⟩:=hSw;go_simp;try with_reducible rfl)
     try simp only [Act.put,yD,yE,yF]
     refine wP 10 rfl HSW.out ?_;try simp only [Act.put,yD,yE,yF]
     refine wP 11 rfl HSW.out ?_;try simp only [Act.put,yD,yE,yF]
     refine wP 12 rfl HSW.out ?_;try simp only [Act.put,yD,yE,yF]
     refine wT 13 (v:=?_) rfl ?_ HSW.out ?_;rotate_left
     focus (intro w hSw;obtain⟨s1,s2,s3,s4⟩:=hSw;go_simp;try with_reducible rfl)
     try simp only [Act.put,yD,yE,yF]
     refine wP 14 rfl HSW.out ?_;try simp only [Act.put,yD,yE,yF]
     refine wP 15 rfl HSW.out ?_;try simp only [Act.put,yD,yE,yF]
     refine wT 16 (v:=?_) rfl ?_ HSW.out ?_;rotate_left
     focus (intro w hSw;obtain⟨s1,s2,s3,s4⟩:=hSw;go_simp;try with_reducible rfl)
     try simp only [Act.put,yD,yE,yF]
     refine wP 17 rfl HSW.out ?_;try simp only [Act.put,yD,yE,yF]
     refine wP 18 rfl HSW.out ?_;try simp only [Act.put,yD,yE,yF]
     refine wP 19 rfl HSW.out ?_;try simp only [Act.put,yD,yE,yF]
     refine wT 20 (v:=?_) rfl ?_ HSW.out ?_;rotate_left
     focus (intro w hSw;obtain⟨s1,s2,s3,s4⟩:=hSw;go_simp;try with_reducible rfl)
     try simp only [Act.put,yD,yE,yF]
     refine wP 21 rfl HSW.out ?_;try simp only [Act.put,yD,yE,yF]
     refine wP 22 rfl HSW.out ?_;try simp only [Act.put,yD,yE,yF]
     refine wT 23 (v:=?_) rfl ?_ HSW.out ?_;rotate_left
     focus (intro w hSw;obtain⟨s1,s2,s3,s4⟩:=hSw;go_simp;try with_reducible rfl)
     try simp only [Act.put,yD,yE,yF]
     refine wP 9 rfl HSW.out ?_;try simp only [Act.put,yD,yE,yF]
     refine wP 24 rfl HSW.out ?_;try simp only [Act.put,yD,yE,yF]
     have z0:W7.drew.frozen? ⟨gb,i,none⟩=false:=IC.out.2.1;have t0:W7.drew.cell? ⟨gb,i,none⟩=some (.int .i64 (Sx.atN T.bas i:Nat)):=IC.out.1;refine jzk (by kernel_rfl) rfl (by rfl) (fun KK hK=>?_);go_simp;refine hK.out _ _ ?_;clear hK KK z0 t0;have z1:(W7.setCell ⟨gb,i,none⟩ (.int .i64 (Sx.atN T.fre j:Nat))).drew.frozen? ⟨gf,j,none⟩=false:=(World.frozen?_setCell _ _ _ _).trans IC.out.2.2.2.1;have t1:(W7.setCell ⟨gb,i,none⟩ (.int .i64 (Sx.atN T.fre j:Nat))).drew.cell? ⟨gf,j,none⟩=some (.int .i64 (Sx.atN T.fre j:Nat)):=jzb (w:=W7) IC.out.2.2.1 (fun e=>qP e.symm);refine jzao (i:=26) (by kernel_rfl) rfl (by rfl) (fun KK hK=>?_);go_simp;refine hK.out _ _ ?_;clear hK KK;refine jzao (i:=27) (by kernel_rfl) rfl (by rfl) (fun KK hK=>?_);go_simp;refine hK.out _ _ ?_;clear hK KK z1 t1;refine wpAny_done (by kernel_rfl) ?_ _;have I8:=Hx (show TabR ((W7.setCell ⟨gb,i,none⟩ (.int .i64 (Sx.atN T.fre j:Nat))).setCell ⟨gf,j,none⟩ (.int .i64 (Sx.atN T.bas i:Nat))).drew B L (pivTo T i j 0)/\FrS L.S w ((W7.setCell ⟨gb,i,none⟩ (.int .i64 (Sx.atN T.fre j:Nat))).setCell ⟨gf,j,none⟩ (.int .i64 (Sx.atN T.bas i:Nat))).drew from by
      obtain⟨a1,a2⟩:=I7.out.1.bas_set (i:=i) (v:=Sx.atN T.fre j) vg.out.1;have vm:L.vf=.slice (some ⟨gf,0,none⟩) (setBas (setRow T i (Sx.sclR (T.row i) j)) ((setRow T i (Sx.sclR (T.row i) j)).bas.set i (Sx.atN T.fre j))).fre.length q6:=by
       rw [vg.out.2];show Value.slice _ K _=Value.slice _ T.fre.length _;rw [qL.out]
      obtain⟨b1,b2⟩:=a1.fre_set (i:=j) (v:=Sx.atN T.bas i) vm;have XD:=(Ext.refl ((W7.setCell ⟨gb,i,none⟩ (.int .i64 (Sx.atN T.fre j:Nat))).setCell ⟨gf,j,none⟩ (.int .i64 (Sx.atN T.bas i:Nat)))).drewN 1;rw [jzkw T i j qn];exact⟨b1.keep XD,((I7.out.2.tr a2 fun b hb=>.inl hb).tr b2 fun b hb=>.inl hb).tr (FrS.of_ext (S:=L.S) XD) fun b hb=>.inl hb⟩)
     clear IC vg HSW I7 qP;generalize ((W7.setCell ⟨gb,i,none⟩ (.int .i64 (Sx.atN T.fre j:Nat))).setCell ⟨gf,j,none⟩ (.int .i64 (Sx.atN T.bas i:Nat))).drew=W8 at*;have PC:=Hx (show∀wx Tc,TabR wx B L Tc->wx.cell? ⟨L.p,0,none⟩=some (.slice (some ⟨g,0,none⟩) L.m cr)from fun wx Tc hx=>by
      obtain⟨cs,hb,_,p0,_⟩:=hx.goa;rw [HV.out.1]at p0;exact(hb.cell _).trans p0)
     have SY:=Hx (show(∀q∈(Sx.sclR (T.row i) j).co,SzQ q (2*P+4))/\SzQ (Sx.sclR (T.row i) j).re (2*P+4)from by
      have hq:SzQ (1/Sx.at_ (T.row i).co j) (1+P):=(show SzQ 1 1 from⟨by decide,by decide⟩).div vk.out HP.out;refine⟨fun q hq2=>?_,((H.out.2.2.re i qn).mul hq).mono (by omega)⟩;unfold Sx.sclR Sx.sclL at hq2;obtain⟨k,hk,rfl⟩:=List.mem_map.1 hq2;have hk:=vX.1 hk;rw [if_pos hk]
      split
      ·exact((show SzQ 1 1 from⟨by decide,by decide⟩).mul hq).mono (by omega)
      ·exact((H.out.2.2.co i qn _ (yJ (jzv hk))).mul hq).mono (by omega))
     have q8:=PC.out _ _ I8.out.1;go_wp2
     go_loopg [13,104] L.m (fun q _ it wx=>∃k:Nat,L.m-k=q/\k<=L.m/\it=.int .i64 (k:Int)/\Hid (TabR wx B L (pivTo T i j k)/\FrS L.S w wx))
     case atStart=>exact⟨0,rfl,yZ _,rfl,I8⟩
     case round=>
      obtain⟨k,rfl,hk,rfl,I⟩:=hrel;clear I8 q8;by_cases zb:k<L.m
      ·have kN:(k:Int)<(L.m:Int):=by omega
       have k0:(0:Int)<=(k:Int):=(by omega);by_cases qp:k=i
       ·have vG:((k:Int) !=(i:Int))=false:=by rw [qp];simp
        have vW:decide ((k:Int)=(i:Int))=true:=yO (by rw [qp]);have v8:((k:Int)==(i:Int))=true:=(by rw [qp];simp);have I9:=Hx (show TabR wr B L (pivTo T i j (k+1))/\FrS L.S w wr from by
         have h2:=I.out;rw [qp]at h2⊢;rw [jzkx];exact h2)
        have zi:=Hx qp;clear qp I;go_wp2
        go_roundg (L.m-(k+1))
        case measure=>omega
        case rel=>exact⟨k+1,rfl,by omega,by go_num,I9⟩
       ·have vG:((k:Int) !=(i:Int))=true:=by simp;omega
        have vW:decide ((k:Int)=(i:Int))=false:=yP (by omega);have v8:((k:Int)==(i:Int))=false:=(by simp;omega);have qO:k<T.rows.length:=(by have:=H.out.1.rl;omega);have qQ:(pivTo T i j k).row k=T.row k:=(by rw [jzex T i j k qO,if_neg qp,if_neg (Nat.lt_irrefl k)]);have qj:(pivTo T i j k).row i=Sx.sclR (T.row i) j:=(by rw [jzex T i j k qn,if_pos rfl]);have qV:((pivTo T i j k).row k).co.length=K:=(by rw [qQ,H.out.2.1.cl k qO,qL.out]);have qk:((pivTo T i j k).row i).co.length=K:=(by rw [qj];show(Sx.sclL _ _ _ _).length=K;rw [Sx.sclL_len];exact HV.out.2.2);obtain⟨vZ,qm,qD⟩:=I.out.1.rwa hi HV.out.1;obtain⟨ni,AI,li,ci,qR,qS,qW,a0,a1,a2,a3,ra⟩:=qD;rw [HV.out.2.1]at a0;have qU:=Hx (fun wx (hx:Ext wr wx)=>(subst_row wx B L (pivTo T i j k) (I.out.1.keep hx) k i j K (2*P+4) g cr gv cv zb hi qp hj hK (by omega) HV.out.1 HV.out.2.1 qV qk
         (by rw [qQ];exact fun q hq=>(H.out.2.2.co k qO q hq).mono (by omega)) (by rw [qQ];exact(H.out.2.2.re k qO).mono (by omega)) (by rw [qj];exact SY.out.1) (by rw [qj];exact SY.out.2) ni AI li ci qR qS qW (ra.keep hx)).mono
         (R':=fun e w'=>e=.returned (.tuple #[])/\TabR w' B L (pivTo T i j (k+1))/\FrS L.S w w') (fun e w' hq=>by
          obtain⟨h1,h2,h3⟩:=hq;rw [qQ,qj, <-jzky T i j qO qp]at h2;exact⟨h1,h2,(I.out.2.tr (FrS.of_ext (S:=L.S) hx) fun b hb=>.inl hb).tr h3 fun b hb=>.inl hb⟩))
        have qa:=Hx (show∀wx,Ext wr wx->wx.cell? ⟨L.p,0,none⟩=some (.slice (some ⟨g,0,none⟩) L.m cr)/\wx.cell? ⟨g,i*4,none⟩=some (.slice (some ⟨gv,0,none⟩) K cv)/\wx.cell? ⟨g,i*4+1,none⟩=some (.bool ni)/\wx.cell? ⟨g,i*4+2,none⟩=some (.slice AI li ci)/\wx.cell? ⟨g,i*4+3,none⟩=some (.slice qR qS qW)from fun wx hx=>
         ⟨PC.out _ _ (I.out.1.keep hx),((qm.keep hx).cell _).trans a0,((qm.keep hx).cell _).trans a1,((qm.keep hx).cell _).trans a2,((qm.keep hx).cell _).trans a3⟩)
        have XD:=Hx (show Ext wr wr.drew from(Ext.refl wr).drewN 1);have HSW:=Hx (qa.out _ XD.out);clear qQ qj qV qk qm a0 a1 a2 a3 ra I;go_wp2;refine jzg (fun w'=>w'.cell? ⟨L.p,0,none⟩=some (.slice (some ⟨g,0,none⟩) L.m cr)/\w'.cell? ⟨g,i*4,none⟩=some (.slice (some ⟨gv,0,none⟩) K cv)/\w'.cell? ⟨g,i*4+1,none⟩=some (.bool ni)/\w'.cell? ⟨g,i*4+2,none⟩=some (.slice AI li ci)/\w'.cell? ⟨g,i*4+3,none⟩=some (.slice qR qS qW)) 10 (by kernel_rfl) ?_;refine wP 0 rfl HSW.out ?_;try simp only [Act.put,yD,yE,yF]
        refine wP 1 rfl HSW.out ?_;try simp only [Act.put,yD,yE,yF]
        refine wP 2 rfl HSW.out ?_;try simp only [Act.put,yD,yE,yF]
        refine jzb2 (m:=5) (i:=3) (v:=?_) rfl (by kernel_rfl) (by kernel_rfl) (by kernel_rfl) (by decide) (by kernel_rfl) (by kernel_rfl) (by kernel_rfl) (fun _ _ _ h=>h) (Or.inl ⟨by rfl,?_⟩) HSW.out ?_;rotate_left
        focus (intro w hSw;obtain⟨s1,s2,s3,s4,s5⟩:=hSw;go_simp;try with_reducible rfl)
        try simp only [Act.put,yD,yE,yF]
        refine wP 4 rfl HSW.out ?_;try simp only [Act.put,yD,yE,yF]
        refine wP 5 rfl HSW.out ?_;try simp only [Act.put,yD,yE,yF]
        refine wP 6 rfl HSW.out ?_;try simp only [Act.put,yD,yE,yF]
        refine wP 7 rfl HSW.out ?_;try simp only [Act.put,yD,yE,yF]
        refine wP 8 rfl HSW.out ?_;try simp only [Act.put,yD,yE,yF]
        refine wT 9 (v:=?_) rfl ?_ HSW.out ?_;rotate_left
        focus (intro w hSw;obtain⟨s1,s2,s3,s4,s5⟩:=hSw;go_simp;try with_reducible rfl)
        try simp only [Act.put,yD,yE,yF]
        refine jzk (by kernel_rfl) rfl (by rfl) (fun KK hK=>?_);go_simp;refine(qU.out _ XD.out).mono ?_;rintro e w5 ⟨rfl,I9⟩;have I9:=Hx I9;refine hK.out _ _ ?_;clear hK KK qU qa HSW XD;refine wpAny_done (by kernel_rfl) ?_ _;go_wp2
        go_roundg (L.m-(k+1))
        case measure=>omega
        case rel=>exact⟨k+1,rfl,by omega,by go_num,I9⟩
      ·obtain rfl:L.m=k:=by omega
       have zc:¬((L.m:Int)<(L.m:Int)):=(by omega);have vL:¬L.m<L.m:=Nat.lt_irrefl _;have v5:=Hx (show¬L.S bg from fun hs=>by
        obtain⟨_,_,zn,t',k1,k2⟩:=H.out.1.ty hs;have h3:=(jzq HB.out.2.2 k1).2;rcases k2 with k2|k2|k2|k2
        ·rw [k2]at h3;exact absurd h3 (by decide)
        ·rw [k2]at h3;exact absurd h3 (by decide)
        ·rw [k2]at h3;exact absurd h3 (by decide)
        ·rw [k2]at h3;exact absurd h3 (by decide))
       have GC:=Hx (show∀wx,FrS L.S w wx->wx.cell? ⟨bg,0,none⟩=some (.pointer (some ⟨L.p,3,none⟩))from fun wx hx=>(hx.blk HB.out.2.2 v5.out).cell 0);have I9:=Hx (show TabR wr B L (if 0=0 then pivTo T i j L.m else Sx.pivT T i j)/\FrS L.S w wr from by rw [if_pos rfl];exact I.out);clear I;go_wp2
       go_loopg [15,124] 1 (fun q _ it wx=>∃k:Nat,1-k=q/\k<=1/\it=.int .i64 (k:Int)/\Hid (TabR wx B L (if k=0 then pivTo T i j L.m else Sx.pivT T i j)/\FrS L.S w wx))
       case atStart=>exact⟨0,rfl,by omega,rfl,I9⟩
       case round=>
        obtain⟨k,rfl,vG,rfl,J⟩:=hrel;clear I9;by_cases v7:k=0
        ·subst v7
         have J0:=Hx (show TabR wr B L (pivTo T i j L.m)from by have:=J.out.1;rwa [if_pos rfl]at this);have qj:(pivTo T i j L.m).row i=Sx.sclR (T.row i) j:=(by rw [jzex T i j L.m qn,if_pos rfl]);have qk:((pivTo T i j L.m).row i).co.length=K:=(by rw [qj];show(Sx.sclL _ _ _ _).length=K;rw [Sx.sclL_len];exact HV.out.2.2);obtain⟨vZ,qm,qD⟩:=J0.out.rwa hi HV.out.1;obtain⟨ni,AI,li,ci,qR,qS,qW,a0,a1,a2,a3,ra⟩:=qD;rw [HV.out.2.1]at a0;have q0:=(qm.cell _).trans a0;have q1:=(qm.cell _).trans a1;have q2:=(qm.cell _).trans a2;have q3:=(qm.cell _).trans a3;have qg:=GC.out _ J.out.2;have qU:=Hx ((jzkz wr B L (pivTo T i j L.m) J0.out i j K (2*P+4) g cr gv cv hi hj hK (by omega) HV.out.1 HV.out.2.1 (show T.goal.co.length=K by rw [H.out.2.1.gl,qL.out]) qk
          (fun q hq=>(H.out.2.2.go q hq).mono (by omega)) (H.out.2.2.gr.mono (by omega)) (by rw [qj];exact SY.out.1) (by rw [qj];exact SY.out.2) ni AI li ci qR qS qW ra).mono
          (R':=fun e w'=>e=.returned (.tuple #[])/\TabR w' B L (if 0+1=0 then pivTo T i j L.m else Sx.pivT T i j)/\FrS L.S w w') (fun e w' hq=>by
           obtain⟨h1,h2,h3⟩:=hq;refine⟨h1,?_,J.out.2.tr h3 fun b hb=>.inl hb⟩;rw [qj]at h2;have e1:=pivTo_all T i j;rw [H.out.1.rl]at e1;rw [if_neg (by omega), <-e1];exact h2))
         clear qj qk qm a0 a1 a2 a3 ra J J0
         go_wp2_with fail
         refine qU.out.mono ?_;rintro e w5 ⟨rfl,J9⟩;have J9:=Hx J9;clear qU q0 q1 q2 q3 qg;go_wp2
         go_roundg (1-(0+1))
         case measure=>omega
         case rel=>exact⟨0+1,rfl,by omega,by go_num,J9⟩
        ·obtain rfl:k=1:=by omega
         have vR:=Hx (show PvPost w B L (Sx.pivT T i j) (.returned (.tuple #[])) wr from⟨rfl,by have:=J.out.1;rwa [if_neg (by omega)]at this,J.out.2⟩);clear J;go_wp2
         go_end0
         exact vR.out
structure LeO{α:Type}(le:α->α->Prop):Prop where
 refl:∀x,le x x
 tr:∀x y z,le x y->le y z->le x z
 tot:∀x y,le x y\/le y x
def swapG{α:Type}(l:List α)(i j:Nat):List α:=match l[i]?,l[j]? with
 |some a,some b=>(l.set i b).set j a
 |_,_=>l
theorem jzgp{α:Type}{l:List α}{i j:Nat}{a b:α}(hi:l[i]?=some a)(hj:l[j]?=some b):swapG l i j=(l.set i b).set j a:=by unfold swapG;rw [hi,hj]
theorem jza9{α:Type}{l:List α}{i j:Nat}{a b:α}(hi:l[i]?=some a)(hj:l[j]?=some b)(k:Nat):(swapG l i j)[k]?=if k=j then some a else if k=i then some b else l[k]?:=by
 have h1:=(yH.1 hi).1;have h2:=(yH.1 hj).1;rw [jzgp hi hj];by_cases e:k=j
 ·subst e;rw [if_pos rfl,yM (by rw [yV];exact h2)]
 ·rw [if_neg e,vN (fun h=>e h.symm)]
  by_cases e2:k=i
  ·subst e2;rw [if_pos rfl,yM h1]
  ·rw [if_neg e2,vN (fun h=>e2 h.symm)]
theorem jzbn{α:Type}{l:List α}{i j:Nat}{a b:α}(hi:l[i]?=some a)(hj:l[j]?=some b):(swapG l i j).Perm l:=by
 classical
 rw [List.perm_iff_count];intro x;have h1:=(yH.1 hi).1;have h2:=(yH.1 hj).1;have e1:=(yH.1 hi).2;have e2:=(yH.1 hj).2;rw [jzgp hi hj,List.count_set (by rw [yV];exact h2),List.count_set h1,e1];have qh:0<l.count a:=List.count_pos_iff.2 (yJ hi);by_cases e:i=j
 ·subst e
  have qe:a=b:=(by rw [hi]at hj;injection hj);subst qe;rw [List.getElem_set_self];by_cases hx:a=x
  ·subst hx;simp;omega
  ·have:(a==x)=false:=by simp [hx]
   simp [this]
 ·rw [List.getElem_set_ne e,e2]
  have qg:0<l.count b:=List.count_pos_iff.2 (yJ hj);by_cases hx:a=x
  ·by_cases hy:b=x
   ·subst hx;subst hy;simp;omega
   ·have:(b==x)=false:=by simp [hy]
    subst hx;simp [this];omega
  ·have qa:(a==x)=false:=by simp [hx]
   by_cases hy:b=x
   ·subst hy;simp [qa]
   ·have qf:(b==x)=false:=by simp [hy]
    simp [qa,qf]
section
variable {α:Type} {le:α->α->Prop}
def HeapN(le:α->α->Prop)(l:List α)(n:Nat):Prop:=∀(k:Nat) (a b:α),0<k->k<n->l[(k-1)/2]?=some a->l[k]?=some b->le a b
def UpI(le:α->α->Prop)(l:List α)(n j:Nat):Prop:=
 (∀(k:Nat) (a b:α),0<k->k<n->k≠j->l[(k-1)/2]?=some a->l[k]?=some b->le a b)/\
 (∀(k:Nat) (a b:α),0<j->0<k->k<n->(k-1)/2=j->l[(j-1)/2]?=some a->l[k]?=some b->le a b)
def DownI(le:α->α->Prop)(l:List α)(n i:Nat):Prop:=
 (∀(k:Nat) (a b:α),0<k->k<n->(k-1)/2≠i->l[(k-1)/2]?=some a->l[k]?=some b->le a b)/\
 (∀(k:Nat) (a b:α),0<i->0<k->k<n->(k-1)/2=i->l[(i-1)/2]?=some a->l[k]?=some b->le a b)
theorem UpI.done{l:List α}{n j:Nat}(h:UpI le l n j)(hj:j=0\/∀a b,l[(j-1)/2]?=some a->l[j]?=some b->le a b):HeapN le l n:=fun k a b h0 hk ha hb=>by
 by_cases e:k=j
 ·subst e
  rcases hj with hj|hj
  ·omega
  ·exact hj a b ha hb
 ·exact h.1 k a b h0 hk e ha hb
theorem UpI.step(o:LeO le){l:List α}{n j:Nat}(h:UpI le l n j)(hj:0<j)(hjn:j<n){a b:α}(ha:l[(j-1)/2]?=some a)(hb:l[j]?=some b)(hle:le b a):UpI le (swapG l ((j-1)/2) j) n ((j-1)/2):=by
 have hg:=jza9 ha hb;refine⟨fun k x y h0 hk hne hx hy=>?_,fun k x y hp h0 hk hpar hx hy=>?_⟩
 ·rw [hg]at hx hy
  by_cases e1:k=j
  ·subst e1
   rw [if_pos rfl]at hy;rw [if_neg (by omega),if_pos rfl]at hx;injection hx with hx;injection hy with hy
   subst hx hy;exact hle
  ·rw [if_neg e1,if_neg hne]at hy
   by_cases e2:(k-1)/2=j
   ·rw [if_pos e2]at hx
    injection hx with hx;subst hx
    exact h.2 k a y hj h0 hk e2 ha hy
   ·rw [if_neg e2]at hx
    by_cases e3:(k-1)/2=(j-1)/2
    ·rw [if_pos e3]at hx
     injection hx with hx;subst hx
     exact o.tr _ _ _ hle (h.1 k a y h0 hk e1 (by rw [e3];exact ha) hy)
    ·rw [if_neg e3]at hx
     exact h.1 k x y h0 hk e1 hx hy
 ·rw [hg]at hx hy
  rw [if_neg (by omega),if_neg (by omega)]at hx;by_cases e1:k=j
  ·subst e1
   rw [if_pos rfl]at hy;injection hy with hy;subst hy
   exact h.1 _ x a hp (by omega) (by omega) hx ha
  ·rw [if_neg e1,if_neg (by omega)]at hy
   exact o.tr _ _ _ (h.1 _ x a hp (by omega) (by omega) hx ha) (h.1 k a y h0 hk e1 (by rw [hpar];exact ha) hy)
theorem DownI.done{l:List α}{n i:Nat}(h:DownI le l n i)(hi:∀(k:Nat) (a b:α),0<k->k<n->(k-1)/2=i->l[i]?=some a->l[k]?=some b->le a b):HeapN le l n:=fun k a b h0 hk ha hb=>by
 by_cases e:(k-1)/2=i
 ·exact hi k a b h0 hk e (by rw [<-e];exact ha) hb
 ·exact h.1 k a b h0 hk e ha hb
theorem DownI.step(o:LeO le){l:List α}{n i j:Nat}(h:DownI le l n i)(hj:0<j)(hjn:j<n)(hp:(j-1)/2=i){a b:α}(ha:l[i]?=some a)(hb:l[j]?=some b)(hle:le b a)(hmin:∀(k:Nat) (c:α),0<k->k<n->(k-1)/2=i->l[k]?=some c->le b c):DownI le (swapG l i j) n j:=by
 have hg:=jza9 ha hb;refine⟨fun k x y h0 hk hne hx hy=>?_,fun k x y _ h0 hk hpar hx hy=>?_⟩
 ·rw [hg]at hx hy
  rw [if_neg hne]at hx;by_cases e1:k=j
  ·subst e1
   rw [if_pos rfl]at hy;rw [if_pos hp]at hx;injection hx with hx;injection hy with hy
   subst hx hy;exact hle
  ·rw [if_neg e1]at hy
   by_cases e2:k=i
   ·subst e2
    rw [if_pos rfl]at hy;injection hy with hy;subst hy
    rw [if_neg (by omega)]at hx;exact h.2 j x b (by omega) hj hjn hp hx hb
   ·rw [if_neg e2]at hy
    by_cases e3:(k-1)/2=i
    ·rw [if_pos e3]at hx
     injection hx with hx;subst hx
     exact hmin k y h0 hk e3 hy
    ·rw [if_neg e3]at hx
     exact h.1 k x y h0 hk e3 hx hy
 ·rw [hg]at hx hy
  rw [hp,if_neg (by omega),if_pos rfl]at hx;injection hx with hx;subst hx
  rw [if_neg (by omega),if_neg (by omega)]at hy;exact h.1 k b y h0 hk (by omega) (by rw [hpar];exact hb) hy
theorem HeapN.top(o:LeO le){l:List α}{n:Nat}(h:HeapN le l n)(hn:n<=l.length):∀(k:Nat) (a b:α),k<n->l[0]?=some a->l[k]?=some b->le a b:=by
 intro k
 induction k using Nat.strongRecOn with
 |_ k ih=>
  intro a b hk ha hb;rcases Nat.eq_zero_or_pos k with h0|h0
  ·subst h0
   rw [ha]at hb;injection hb with hb;subst hb
   exact o.refl _
  ·obtain⟨c,hc⟩:∃c,l[(k-1)/2]?=some c:=⟨_,yG (by omega)⟩
   exact o.tr _ _ _ (ih _ (by omega) a c (by omega) ha hc) (h k c b h0 hk hc hb)
theorem HeapN.pop{l:List α}{n:Nat}(h:HeapN le l (n+1))(hn:l.length=n+1){a b:α}(ha:l[0]?=some a)(hb:l[n]?=some b):DownI le (swapG l 0 n) n 0:=by
 have hg:=jza9 ha hb;refine⟨fun k x y h0 hk hne hx hy=>?_,fun k x y hp=>by omega⟩;rw [hg]at hx hy;rw [if_neg (by omega),if_neg (by omega)]at hx;rw [if_neg (by omega),if_neg (by omega)]at hy;exact h k x y h0 (by omega) hx hy
theorem HeapN.push{l:List α}(h:HeapN le l l.length)(x:α):UpI le (l++[x]) (l.length+1) l.length:=by
 refine⟨fun k a b h0 hk hne ha hb=>?_,fun k a b hp h0 hk hpar=>by omega⟩;rw [yR (by omega)]at ha hb;exact h k a b h0 (by omega) ha hb
end
def costP(t:Tp)(a:Nat):Nat:=match t.links[a/2]? with
 |some l=>if a%2=0 then l.c0.toNat else l.c1.toNat
 |none=>0
def kcost(t:Tp)(x:List Nat):Nat:=x.foldl (fun s a=>s+costP t a) 0
theorem jzk1(t:Tp)(x:List Nat)(a:Nat):kcost t (x++[a])=kcost t x+costP t a:=by unfold kcost;rw [List.foldl_append];rfl
def costL(t:Tp):List Rat:=(List.range (2*t.links.length)).map fun a=>((costP t a:Int):Rat)
theorem costL_get(t:Tp)(a:Nat)(ha:a/2<t.links.length):(costL t)[a]?.getD 0=((costP t a:Int):Rat):=by
 unfold costL;rw [yW,xJ (by omega)];rfl
theorem jzk2(t:Tp)(x:List Nat):prQ (costL t) x=((kcost t x:Int):Rat):=by
 have qa:∀(y:List Nat) (s:Nat),y.foldl (fun s a=>s+(costL t)[a]?.getD 0) ((s:Int):Rat)=((y.foldl (fun s a=>s+costP t a) s:Nat):Int):=by
  intro y
  induction y with
  |nil=>intro s;rfl
  |cons a y ih=>
   intro s;rw [List.foldl_cons,List.foldl_cons, <-ih (s+costP t a)]
   congr 1
   rw [Int.natCast_add,Rat.intCast_add]
   congr 1
   by_cases ha:a/2<t.links.length
   ·exact costL_get t a ha
   ·have h1:costP t a=0:=by unfold costP;rw [yI (by omega)]
    have h2:(costL t)[a]?=none:=(by unfold costL;rw [yI (by simp;omega)]);rw [h1,h2];rfl
 exact qa x 0
def ordK(t:Tp)(x y:List Nat):Int:=or3 (cmpI (kcost t x) (kcost t y)) (cmpI x.length y.length) (lexI x y)
theorem cmpQ_nat(a b:Nat):cmpQ ((a:Int):Rat) ((b:Int):Rat)=cmpI a b:=by
 unfold cmpQ cmpI;by_cases h:a<b
 ·rw [if_pos (Rat.intCast_lt_intCast.2 (by omega)),if_pos h]
 ·rw [if_neg (fun h2=>h (by have:=Rat.intCast_lt_intCast.1 h2;omega)),if_neg h]
  by_cases e:a=b
  ·subst e;rw [if_pos rfl,if_pos rfl]
  ·rw [if_neg (fun h2=>e (by have:=Rat.intCast_inj.1 h2;omega)),if_neg e]
theorem bef_ord(t:Tp)(x y:List Nat):befP (costL t) x y=decide (ordK t x y<0):=by
 unfold befP cmpL ordK;rw [jzk2,jzk2,cmpQ_nat]
def RdF(B:Nat)(w:World)(A:Option Addr)(xs:List Value):Prop:=RdT w 3 A xs/\∀p,A=some p->B<=p.block
theorem RdF.rd{B:Nat}{w:World}{A:Option Addr}{xs:List Value}(h:RdF B w A xs):Rd w A xs:=h.1.rd
theorem RdF.keep{B:Nat}{w w':World}{A:Option Addr}{xs:List Value}(h:RdF B w A xs)(hx:Ext w w'):RdF B w' A xs:=⟨h.1.keep hx,h.2⟩
theorem RdF.other{B:Nat}{w w':World}{A:Option Addr}{xs:List Value}{g:Nat}{t':TypeId}{cs':Array Value}(h:RdF B w A xs)(hg:w.grownBy w' (some g))(hb:Blk w g t' cs')(hne:3≠t'):RdF B w' A xs:=⟨h.1.other hg hb hne,h.2⟩
theorem RdF.grownK{B:Nat}{w w':World}{A:Option Addr}{xs:List Value}{t':TypeId}{row:Option Nat}(h:RdF B w A xs)(hg:w.grownBy w' row)(hr:∀k,row=some k->∃cs fr,w.heap[k]?=some (.cells cs t' fr))(hne:3≠t'):RdF B w' A xs:=⟨h.1.grownK hg hr hne,h.2⟩
theorem RdF.below{B:Nat}{w w':World}{A:Option Addr}{xs:List Value}{g:Nat}(h:RdF B w A xs)(hg:w.grownBy w' (some g))(hB:g<B):RdF B w' A xs:=by
 refine⟨fun hx=>?_,h.2⟩;obtain⟨b,o,cs,fr,e,hb,hc⟩:=h.1 hx;have:=h.2 _ e;refine⟨b,o,cs,fr,e,(hg.block b (jza8 hb) (fun e2=>?_)).trans hb,hc⟩;injection e2 with e2
 subst e2;simp at this;omega
def KLb(t:Tp)(B:Nat)(w:World)(cs:List Value)(z:Nat×List Nat):Prop:=
 ∃(A:Option Addr) (c:Nat),cs=[.int .i64 (z.1:Int),.int .i64 (kcost t z.2:Nat),.int .i64 0,.slice A z.2.length c]/\z.2.length<=c/\RdF B w A (ints z.2)
theorem KLb.keep{t:Tp}{B:Nat}{w w':World}{cs:List Value}{z:Nat×List Nat}(h:KLb t B w cs z)(hx:Ext w w'):KLb t B w' cs z:=by
 obtain⟨A,c,h1,h2,h3⟩:=h;exact⟨A,c,h1,h2,h3.keep hx⟩
theorem KLb.other{t:Tp}{B:Nat}{w w':World}{cs:List Value}{z:Nat×List Nat}{g:Nat}{t':TypeId}{cs':Array Value}(h:KLb t B w cs z)(hg:w.grownBy w' (some g))(hb:Blk w g t' cs')(hne:3≠t'):KLb t B w' cs z:=by
 obtain⟨A,c,h1,h2,h3⟩:=h;exact⟨A,c,h1,h2,h3.other hg hb hne⟩
theorem KLb.grownK{t:Tp}{B:Nat}{w w':World}{cs:List Value}{z:Nat×List Nat}{t':TypeId}{row:Option Nat}(h:KLb t B w cs z)(hg:w.grownBy w' row)(hr:∀k,row=some k->∃cs fr,w.heap[k]?=some (.cells cs t' fr))(hne:3≠t'):KLb t B w' cs z:=by
 obtain⟨A,c,h1,h2,h3⟩:=h;exact⟨A,c,h1,h2,h3.grownK hg hr hne⟩
structure KRow(t:Tp)(w:World)(B g n c:Nat)(hs:List (Nat×List Nat)):Prop where
 len:hs.length=n
 row:∃css:List (List Value),css.length=n/\(∀cs∈css,cs.length=4)/\w.ownsRow B 210 4 (.slice (some ⟨g,0,none⟩) n c) n css.flatten/\∀(i:Nat) (z:Nat×List Nat),hs[i]?=some z->∃cs,css[i]?=some cs/\KLb t B w cs z
theorem KRow.blk{t:Tp}{w:World}{B g n c:Nat}{hs:List (Nat×List Nat)}(h:KRow t w B g n c hs):∃cs,Blk w g 210 cs:=by
 obtain⟨css,_,_,h3,_⟩:=h.row;rcases h3.2 with⟨e,_⟩|⟨g',cap,cur,e,_,h5,_⟩
 ·cases e
 ·injection e with e
  injection e with e
  injection e with e
  subst e;exact⟨cur,h5⟩
theorem KRow.keep{t:Tp}{w w':World}{B g n c:Nat}{hs:List (Nat×List Nat)}(h:KRow t w B g n c hs)(hx:Ext w w'):KRow t w' B g n c hs:=by
 obtain⟨css,h1,h2,h3,h4⟩:=h.row;refine⟨h.len,css,h1,h2,h3.kept (jzn hx) (jzr _),fun i z hz=>?_⟩;obtain⟨cs,k1,k2⟩:=h4 i z hz;exact⟨cs,k1,k2.keep hx⟩
theorem KRow.at_{t:Tp}{w:World}{B g n c:Nat}{hs:List (Nat×List Nat)}(h:KRow t w B g n c hs){i:Nat}{z:Nat×List Nat}(hz:hs[i]?=some z):
  ∃(A:Option Addr) (k:Nat),(w.cell? ⟨g,i*4,none⟩=some (.int .i64 (z.1:Int))/\w.cell? ⟨g,i*4+1,none⟩=some (.int .i64 (kcost t z.2:Nat))/\w.cell? ⟨g,i*4+2,none⟩=some (.int .i64 0)/\w.cell? ⟨g,i*4+3,none⟩=some (.slice A z.2.length k))/\
   (w.frozen? ⟨g,i*4,none⟩=false/\w.frozen? ⟨g,i*4+1,none⟩=false/\w.frozen? ⟨g,i*4+2,none⟩=false/\w.frozen? ⟨g,i*4+3,none⟩=false)/\z.2.length<=k/\RdF B w A (ints z.2):=by
 obtain⟨css,h1,h2,h3,h4⟩:=h.row;obtain⟨cs,k1,A,k,rfl,k2,k3⟩:=h4 i z hz;have hi:=(yH.1 hz).1;have qf:i<n:=(by have:=h.len;omega);obtain⟨cb,hb⟩:=h.blk;have qa:∀j,j<4->w.cell? ⟨g,i*4+j,none⟩=([.int .i64 (z.1:Int),.int .i64 (kcost t z.2:Nat),.int .i64 0,.slice A z.2.length k]:List Value)[j]?:=fun j hj=>by
  have hf:=jzu css h2 i j (by omega) hj;rw [k1]at hf;rcases h3.2 with⟨e,_⟩|⟨g',cap,cur,e,_,h5,h6,h7,h8,h9⟩
  ·cases e
  ·injection e with e1 e2 e3
   injection e1 with e1
   injection e1 with e1
   subst e1;have qe:Blk w g 210 cur:=h5;rw [qe.cell, <-Array.getElem?_toList];rw [<-h9,xG,if_pos (by omega)]at hf;exact hf
 exact⟨A,k,⟨qa 0 (by omega),qa 1 (by omega),qa 2 (by omega),qa 3 (by omega)⟩,⟨hb.frozen _,hb.frozen _,hb.frozen _,hb.frozen _⟩,k2,k3⟩
theorem jzhm{w:World}{B g n c s k:Nat}{e:TypeId}{xs:List Value}(h:w.ownsRow B e s (.slice (some ⟨g,0,none⟩) n c) n xs)(u:Value):(w.setCell ⟨g,k,none⟩ u).ownsRow B e s (.slice (some ⟨g,0,none⟩) n c) n (xs.set k u):=by
 refine⟨by rw [yV];exact h.1,?_⟩;rcases h.2 with⟨h3,h4⟩|⟨g',cap,cur,h3,h4,h5,h6,h7,h8,h9⟩
 ·cases h3
 ·have qa:=h3
  injection h3 with e1 e2 e3
  injection e1 with e1
  injection e1 with e1
  subst e1;refine .inr ⟨g,cap,cur.setIfInBounds k u,qa,h4,(show Blk w g e cur from h5).set_ k u,h6,h7,by simpa using h8,?_⟩;rw [Array.toList_setIfInBounds, <-h9,List.take_set]
theorem own_put4{w:World}{B g n c i:Nat}{e:TypeId}{css:List (List Value)}(h:w.ownsRow B e 4 (.slice (some ⟨g,0,none⟩) n c) n css.flatten)(h1:css.length=n)(h2:∀cs∈css,cs.length=4)(hi:i<n)(v0 v1 v2 v3:Value):
  ((((w.setCell ⟨g,i*4,none⟩ v0).setCell ⟨g,i*4+1,none⟩ v1).setCell ⟨g,i*4+2,none⟩ v2).setCell ⟨g,i*4+3,none⟩ v3).ownsRow B e 4 (.slice (some ⟨g,0,none⟩) n c) n (css.set i [v0,v1,v2,v3]).flatten:=by
 have qa:i<css.length:=(by omega);obtain⟨cs,qf⟩:∃cs,css[i]?=some cs:=⟨_,yG qa⟩;have qe:cs.length=4:=h2 cs (yJ qf);have e0:css=css.set i cs:=by
  apply uK;intro j;by_cases e:i=j
  ·subst e;rw [yM qa];exact qf
  ·rw [vN e]
 have b:=jzhm (k:=i*4+3) (jzhm (k:=i*4+2) (jzhm (k:=i*4+1) (jzhm (k:=i*4+0) h v0) v1) v2) v3;rw [e0,jzdz css h2 i qa cs 0 _ qe (by omega),jzdz css h2 i qa _ 1 _ (by simp [qe]) (by omega),jzdz css h2 i qa _ 2 _ (by simp [qe]) (by omega),jzdz css h2 i qa _ 3 _ (by simp [qe]) (by omega)]at b;have e3:(((cs.set 0 v0).set 1 v1).set 2 v2).set 3 v3=[v0,v1,v2,v3]:=by
  rcases cs with _|⟨a0,_|⟨a1,_|⟨a2,_|⟨a3,_|⟨a4,r⟩⟩⟩⟩⟩
  all_goals first|(simp at qe;done)|rfl
 rw [e3]at b;exact b
theorem grown4(w:World)(g i:Nat)(v0 v1 v2 v3:Value):w.grownBy ((((w.setCell ⟨g,i*4,none⟩ v0).setCell ⟨g,i*4+1,none⟩ v1).setCell ⟨g,i*4+2,none⟩ v2).setCell ⟨g,i*4+3,none⟩ v3) (some g):=
 (((jze w g (i*4) v0).trans (jze _ g (i*4+1) v1)).trans (jze _ g (i*4+2) v2)).trans (jze _ g (i*4+3) v3)
theorem KRow.put{t:Tp}{w:World}{B g n c i:Nat}{hs:List (Nat×List Nat)}{z:Nat×List Nat}{A:Option Addr}{k:Nat}(h:KRow t w B g n c hs)(hi:i<n)(hk:z.2.length<=k)(hA:RdF B w A (ints z.2)):
  KRow t ((((w.setCell ⟨g,i*4,none⟩ (.int .i64 (z.1:Int))).setCell ⟨g,i*4+1,none⟩ (.int .i64 (kcost t z.2:Nat))).setCell ⟨g,i*4+2,none⟩ (.int .i64 0)).setCell ⟨g,i*4+3,none⟩ (.slice A z.2.length k)) B g n c (hs.set i z):=by
 obtain⟨cb,hb⟩:=h.blk;obtain⟨css,h1,h2,h3,h4⟩:=h.row;have hg:=grown4 w g i (.int .i64 (z.1:Int)) (.int .i64 (kcost t z.2:Nat)) (.int .i64 0) (.slice A z.2.length k);refine⟨by rw [yV];exact h.len,css.set i [.int .i64 (z.1:Int),.int .i64 (kcost t z.2:Nat),.int .i64 0,.slice A z.2.length k],by rw [yV];exact h1,fun cs hc=>?_,own_put4 h3 h1 h2 hi _ _ _ _,fun j y hj=>?_⟩
 ·rcases xE hc with hc|hc
  ·exact h2 cs hc
  ·rw [hc];rfl
 ·by_cases e:i=j
  ·subst e
   rw [yM (by have:=h.len;omega)]at hj;injection hj with hj
   subst hj;exact⟨_,yM (by omega),A,k,rfl,hk,hA.other hg hb (by decide)⟩
  ·rw [vN e]at hj
   obtain⟨cs,k1,k2⟩:=h4 j y hj;exact⟨cs,by rw [vN e];exact k1,k2.other hg hb (by decide)⟩
structure KQu(t:Tp)(w:World)(B q g n c:Nat)(hs:List (Nat×List Nat)):Prop where
 box:Blk w q 212 #[.slice (some ⟨g,0,none⟩) n c]
 row:KRow t w B g n c hs
theorem KQu.keep{t:Tp}{w w':World}{B q g n c:Nat}{hs:List (Nat×List Nat)}(h:KQu t w B q g n c hs)(hx:Ext w w'):KQu t w' B q g n c hs:=⟨h.box.keep hx,h.row.keep hx⟩
theorem KRow.below{t:Tp}{w w':World}{B g n c b:Nat}{hs:List (Nat×List Nat)}(h:KRow t w B g n c hs)(hg:w.grownBy w' (some b))(hB:b<B)(hgB:B<=g):KRow t w' B g n c hs:=by
 obtain⟨css,h1,h2,h3,h4⟩:=h.row;refine⟨h.len,css,h1,h2,h3.kept hg (.inr (fun e=>?_)),fun i z hz=>?_⟩
 ·have e:some g=some b:=e
  injection e with e
  omega
 ·obtain⟨cs,k1,A,c',k2,k3,k4⟩:=h4 i z hz
  exact⟨cs,k1,A,c',k2,k3,k4.below hg hB⟩
theorem KRow.lo{t:Tp}{w:World}{B g n c:Nat}{hs:List (Nat×List Nat)}(h:KRow t w B g n c hs):B<=g:=by
 obtain⟨css,h1,h2,h3,h4⟩:=h.row;exact(h3.lt g rfl).1
theorem KQu.below{t:Tp}{w w':World}{B q g n c b:Nat}{hs:List (Nat×List Nat)}{cs:Array Value}(h:KQu t w B q g n c hs)(hg:w.grownBy w' (some b))(hb:Blk w b 3 cs)(hB:b<B):KQu t w' B q g n c hs:=
 ⟨(hg.block q h.box.lt (fun e=>by injection e with e;exact h.box.ne_ hb (by decide) e)).trans h.box,h.row.below hg hB h.row.lo⟩
end Go.Proofs.YthbmikapohlikaaGreatDoor
