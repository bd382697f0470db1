/- Walks, part 4. -/
import Derived.Deep.Slices
import Derived.Test.YtfeeacaofjpkaaaGreatDoorT03
set_option linter.defProp false set_option linter.unusedVariables false
set_option linter.unusedSimpArgs false
set_option maxRecDepth 100000
set_option maxHeartbeats 8000000
namespace Go.Proofs.YtfeeacaofjpkaaaGreatDoor
open Go.Proofs.Tryz
open Go.RowKit
def rG{w:World}{p:Addr}{v:Value}(h:w.cell? p=some v):p.block<w.heap.size:=by
 unfold World.cell? at h;rcases Bc p.block w.heap.size with hlt|hge
 ·exact hlt
 rw[Fx hge]at h;cases h
def aA{w w'}(hx:Ext w w'){p:Addr}{v:Value}(h:w.cell? p=some v):w'.cell? p=some v:=(hx.cell (rG h)).trans h
def mN{w w'}(hx:Ext w w'){p:Addr}{v:Value}(h:w.cell? p=some v){b:Bool}(hf:w.frozen? p=b):w'.frozen? p=b:=(hx.frozen (rG h)).trans hf
def RwA(w:World)(cs:Array Value)(o:Nat)(V:Value)(q:Rat):Prop:=
 ∃(neg:Bool) (A:OA) (n c:Nat) (A':OA) (n' c':Nat),cs[o]?=some V/\cs[o+1]?=some (.bool neg)/\cs[o+2]?=some (.s A n c)/\cs[o+3]?=some (.s A' n' c')/\aC w neg A n c A' n' c' q
def lU(o:Nat)(cs cs':Array Value):Prop:=cs'.size=cs.size/\∀k,k≠o+1->k≠o+2->k≠o+3->cs'[k]?=cs[k]?
def wI(B gr o:Nat)(tr:TypeId)(cs:Array Value)(gv K cv:Nat)(r:Sx.Rw)(w:World)(e:Ending)(w':World):Prop:=
 e=.returned (.tuple #[])/\∃cs',ak w' gr tr cs'/\lU o cs cs'/\RwA w' cs' o (.s (sA gv) K cv) r.re/\OQ QR 33 w' B (.s (sA gv) K cv) r.co/\fu (fun b=>b=gr\/b=gv) w w'
def iC(q:Rat):aB q=0↔q=0:=by
 unfold aB;constructor;{intro h;split at h;{rename_i h1;exact Rat.num_eq_zero.1 h1};split at h <;> simp at h};rintro rfl;rfl
def jzlz(X:LQ)(j:Nat)(f:Rat)(Y:LQ):Sx.Bh X j f Y 0=X.set j 0:=by
 unfold Sx.Bh Sx.at_;apply uK;intro k;by_cases hk:k<X.length;{rw[yW,xJ hk];simp only[Gu,Nat.not_lt_zero,if_false];by_cases e:k=j;{subst e;rw[qE rfl,yM hk]};rw[qF e,vN (fun e2=>e e2.symm),yG hk];rfl};rw[yI (by simp;omega),yI (by rw[yV];omega)]
def jzdi(X:LQ)(j:Nat)(f:Rat)(Y:LQ){i:Nat}(hi:i<X.length):(Sx.Bh X j f Y i)[i]?=some (if i=j then 0 else Sx.at_ X i):=by
 unfold Sx.Bh;rw[yW,xJ hi];simp only[Gu,Ho,if_false]
def jzdj(X:LQ)(j:Nat)(f:Rat)(Y:LQ){i:Nat}(hi:i<X.length):Sx.Bh X j f Y (i+1)=(Sx.Bh X j f Y i).set i ((if i=j then 0 else Sx.at_ X i)-f*Sx.at_ Y i):=by
 apply uK;intro k;by_cases hk:k<X.length;{by_cases e:i=k;{subst e;rw[yM (by rw[Sx.Aw];exact hi)];unfold Sx.Bh;rw[yW,xJ hk];simp only[Gu];rw[qE (show i<i+1 by omega)]};rw[vN e];unfold Sx.Bh;rw[yW,yW,xJ hk];simp only[Gu];have:(k<i+1↔k<i):=qO;by_cases h:k<i;{rw[qE (this.2 h),qE h]};rw[qF (fun h2=>h (this.1 h2)),qF h]};rw[yI (by rw[Sx.Aw];omega),yI (by rw[yV,Sx.Aw];omega)]
def jzl0(X:LQ)(j:Nat)(f:Rat)(Y:LQ){i:Nat}(hi:i<X.length)(hy:Sx.at_ Y i=0):Sx.Bh X j f Y (i+1)=Sx.Bh X j f Y i:=by
 rw[jzdj X j f Y hi,hy,Rat.mul_zero,Rat.sub_eq_add_neg,Rat.neg_zero,Rat.add_zero];have h:=jzdi X j f Y hi;apply uK;intro k;by_cases e:i=k;{subst e;rw[yM (by rw[Sx.Aw];exact hi),h]};rw[vN e]
def aZ{X:LQ}{i:Nat}(hi:i<X.length):X[i]?=some (Sx.at_ X i):=by unfold Sx.at_;rw[yG hi];rfl
def jzdk(B B2 gr o:Nat)(tr:TypeId)(cs:Array Value)(gv K cv gy cy j P:Nat)(X Y:LQ)(x y:Rat)(ny:Bool)A2(n2 c2:Nat)mg(ko c2':Nat)w
  (qm:ak w gr tr cs) (hrx:RwA w cs o (.s (sA gv) K cv) x) (hX:OQ QR 33 w B (.s (sA gv) K cv) X) (hK:X.length=K)
  (hY:OQ QR 33 w B2 (.s (sA gy) K cy) Y) (vd:Y.length=K) (hy:aC w ny A2 n2 c2 mg ko c2' y)
  (hne:gv≠gy) (vi:tr≠33) (vj:tr≠196) (hj:j<K) (hK9:K<=1000000000000) (hP:P<=1000000) (qZ:∀q∈X,dx q P) (va:dx x P) (vm:∀q∈Y,dx q P) (vk:dx y P):
  Calls prog 151 #[.pointer (some (aD gr o)),vI (j:Int),.agg #[.s (sA gy) K cy,.bool ny,.s A2 n2 c2,.s mg ko c2']] w
   (wI B gr o tr cs gv K cv (Sx.Au ⟨X,x⟩ j ⟨Y,y⟩) w):=by
 obtain⟨nx,A1,n1,c1,qI,qB,qU,k0,k1,k2,k3,rx⟩:=hrx;have q7:j<X.length:=qO;obtain⟨nf,F1,m1,d1,qg,qe,qf,⟨x0,x1,x2⟩,⟨f0,f1,f2⟩,rf⟩:=hX.cell (aZ q7);have q8:=qZ _ (yJ (aZ q7));obtain⟨f,hf⟩:∃f,Sx.at_ X j=f:=⟨_,rfl⟩;rw[hf]at rf q8;have vg:w.cell? (aD gr o)=some (.s (sA gv) K cv):=(qm.cell o).trans k0;have vl:gr<w.heap.size:=qm.lt;have qp:gv<w.heap.size:=(by obtain⟨xs,h1⟩:=hX.own;exact(h1.lt gv rfl).2);have vF:gy<w.heap.size:=(by obtain⟨xs,h1⟩:=hY.own;exact(h1.lt gy rfl).2);have jK:(j:Int)<(K:Int):=qO;have j0:(0:Int)<=(j:Int):=qO;have H:=Hx (ah qm (ah hX (ah hY (ah hy (ah rx rf)))));have KS:=Hx (ah k0 (ah k1 (ah k2 k3)));have HS:=Hx (ah qZ (ah va (ah vm (ah vk q8))));have HL:=Hx (ah hK vd);have HF:=Hx hf;have TT:=Hx (ah vi vj);clear qm hX hY hy rx rf k0 k1 k2 k3 qZ va vm vk q8 hK vd hf vi vj q7;obtain⟨b0,b1,e0⟩:=cN w #[.s (sA gy) K cy,.bool ny,.s A2 n2 c2,.s mg ko c2'] 145 #[.bool nf,.s F1 m1 d1,.s qg qe qf] 33;have BB:=Hx (ah b0 (ah b1 e0));clear b0 b1 e0;go_enter func151,ntmps151;go_wp2_with fail;refine(dA nf F1 m1 d1 qg qe qf f _ (H.o.2.2.2.2.2.K BB.o.2.2)).r fun w1 qQ=>?_;have B1:=Hx (ah (BB.o.1.K qQ) (ah (BB.o.2.1.K qQ) (BB.o.2.2.tr qQ)));clear qQ;have z0:=(B1.o.2.2.cell (p:=(aD gr o)) vl).trans vg;by_cases qx:f=0;{have hs:aB f=0:=(iC f).2 qx;rw[hs];have q3:Hid (wI B gr o tr cs gv K cv (Sx.Au ⟨X,x⟩ j ⟨Y,y⟩) w (.returned (.tuple #[])) w1):=Hx (by have e:Sx.Au ⟨X,x⟩ j ⟨Y,y⟩=⟨X,x⟩:=qE (by show Sx.at_ X j=0;rw[HF.o,qx]);rw[e];exact⟨rfl,cs,H.o.1.K B1.o.2.2,⟨rfl,fun k _ _ _=>rfl⟩,⟨nx,A1,n1,c1,qI,qB,qU,KS.o.1,KS.o.2.1,KS.o.2.2.1,KS.o.2.2.2,H.o.2.2.2.2.1.K B1.o.2.2⟩,H.o.2.1.K QR.Dz B1.o.2.2,eE B1.o.2.2⟩);clear hs qx;go_wp2;(go_end0);exact q3.o};have hs:¬aB f=0:=fun h=>qx ((iC f).1 h);have vK:(aB f==0)=false:=(by simpa using hs);have vH:decide (aB f=0)=false:=yP hs;have vw:=Hx qx;clear qx;generalize aB f=sf at*;have z1:=(B1.o.2.2.cell (p:=(aD gv (j*3))) qp).trans x0;have z2:=(B1.o.2.2.cell (p:=(aD gv (j*3+1))) qp).trans x1;have z3:=(B1.o.2.2.cell (p:=(aD gv (j*3+2))) qp).trans x2;have y1:=(B1.o.2.2.frozen (p:=(aD gv (j*3))) qp).trans f0;have y2:=(B1.o.2.2.frozen (p:=(aD gv (j*3+1))) qp).trans f1;have y3:=(B1.o.2.2.frozen (p:=(aD gv (j*3+2))) qp).trans f2;(go_upto_region 4 with fail);have qk:=dC w1 gv (j*3) bF zN zN;have I0:Hid (OQ QR 33 (((w1.setCell (aD gv (j*3)) bF).setCell (aD gv (j*3+1)) zN).setCell (aD gv (j*3+2)) zN) B (.s (sA gv) K cv) (Sx.Bh X j f Y 0)/\ak (((w1.setCell (aD gv (j*3)) bF).setCell (aD gv (j*3+1)) zN).setCell (aD gv (j*3+2)) zN) w.heap.size 145 #[.s (sA gy) K cy,.bool ny,.s A2 n2 c2,.s mg ko c2']/\ak (((w1.setCell (aD gv (j*3)) bF).setCell (aD gv (j*3+1)) zN).setCell (aD gv (j*3+2)) zN) (w.heap.size+1) 33 #[.bool nf,.s F1 m1 d1,.s qg qe qf]/\fu (fun b=>b=gv) w (((w1.setCell (aD gv (j*3)) bF).setCell (aD gv (j*3+1)) zN).setCell (aD gv (j*3+2)) zN)):=Hx (by have vo:=H.o.2.1.K QR.Dz B1.o.2.2;refine⟨by rw[jzlz];exact vo.put HL.o.1 (by rw[HL.o.1];exact hj) (fE w1),(qk.block _ B1.o.1.lt (fun e=>by injection e with e;omega)).trans B1.o.1,(qk.block _ B1.o.2.1.lt (fun e=>by injection e with e;omega)).trans B1.o.2.1,(eE B1.o.2.2).tr (eG qk (S:=fun b=>b=gv) fun g e=>by injection e with e;exact e.symm) (fun b hb=>.inl hb)⟩);clear qk z1 z2 z3 y1 y2 y3 z0 x0 x1 x2 f0 f1 f2 vg;generalize ((w1.setCell (aD gv (j*3)) bF).setCell (aD gv (j*3+1)) zN).setCell (aD gv (j*3+2)) zN=W3 at*;have b5:W3.cell? (aD w.heap.size 0)=some (.s (sA gy) K cy):=(I0.o.2.1.cell 0).trans rfl;go_wp2;go_loopg [7,8,29] K (fun q _ _ it wr=>∃i:Nat,K-i=q/\i<=K/\it=vI (i:Int)/\Hid (OQ QR 33 wr B (.s (sA gv) K cv) (Sx.Bh X j f Y i)/\ak wr w.heap.size 145 #[.s (sA gy) K cy,.bool ny,.s A2 n2 c2,.s mg ko c2']/\ak wr (w.heap.size+1) 33 #[.bool nf,.s F1 m1 d1,.s qg qe qf]/\fu (fun b=>b=gv) w wr));exact⟨0,rfl,yZ _,rfl,I0⟩;obtain⟨i,rfl,hi,rfl,I⟩:=hrel;clear b5;have qA:oh (fun b=>b=gv) w 196:=(by obtain⟨xs,h1⟩:=H.o.2.1.own;obtain⟨c,h2⟩:=aT h1 (g:=gv) rfl;exact oh.one h2 qD);have qy:=Hx qA;clear qA;by_cases qz:i<K
 ·(have qV:i<X.length:=by rw[HL.o.1];exact qz);have q6:i<Y.length:=(by rw[HL.o.2];exact qz);have q4:Hid (dx (Sx.at_ Y i) P):=Hx (HS.o.2.2.1 _ (yJ (aZ q6)));obtain⟨ne,E1,p1,q1,qt,qn,qo,⟨u0,u1,u2⟩,_,re⟩:=(I.o.2.2.2.oq qy.o H.o.2.2.1 (fun g hg e=>by injection hg with hg;exact hne (by rw[<-e];exact hg.symm))).cell (aZ q6);obtain⟨nz,Z1,s1,t1,qM,qH,qJ,⟨v0,v1,v2⟩,⟨g0,g1,g2⟩,rz⟩:=I.o.1.cell (jzdi X j f Y qV);have vz:Hid (dx (if i=j then 0 else Sx.at_ X i) P):=Hx (by split;{exact dx.zero.mono (by have:=HS.o.2.2.2.2;by_cases hp:P=0;exact absurd this.2 (by rw[hp];have:=f.den_nz;simp;omega);omega)};exact HS.o.1 _ (yJ (aZ qV)));have vx:gr<wr.heap.size:=yL vl I.o.2.2.2.size;have vn:gv<wr.heap.size:=yL qp I.o.2.2.2.size;have vt:gy<wr.heap.size:=yL vF I.o.2.2.2.size;have b5:wr.cell? (aD w.heap.size 0)=some (.s (sA gy) K cy):=(I.o.2.1.cell 0).trans rfl;have iK:(i:Int)<(K:Int):=qO;have i0:(0:Int)<=(i:Int):=qO;have R:=Hx (ah re rz);have XB:=(eR wr).alloc (.cells #[.bool ne,.s E1 p1 q1,.s qt qn qo] 33);have SG:=Hx (dA ne E1 p1 q1 qt qn qo (Sx.at_ Y i) _ (re.K XB));obtain⟨yi,qW⟩:∃yi,Sx.at_ Y i=yi:=⟨_,rfl⟩;rw[qW]at SG q4;have qY:=Hx qW;clear re rz XB qV q6 qW;go_wp2_with fail;refine SG.o.mono ?_;rintro e w4 ⟨rfl,x4⟩;have X4:Hid (Ext wr w4/\ak w4 wr.heap.size 33 #[.bool ne,.s E1 p1 q1,.s qt qn qo]):=Hx (⟨((eR wr).alloc _).tr x4,(eN wr _ _).K x4⟩);clear x4;by_cases qT:yi=0
  ·have qw:aB yi=0:=(iC yi).2 qT
   rw[qw];have I4:=Hx (show OQ QR 33 w4 B (.s (sA gv) K cv) (Sx.Bh X j f Y (i+1))/\ak w4 w.heap.size 145 #[.s (sA gy) K cy,.bool ny,.s A2 n2 c2,.s mg ko c2']/\ak w4 (w.heap.size+1) 33 #[.bool nf,.s F1 m1 d1,.s qg qe qf]/\fu (fun b=>b=gv) w w4 from
    ⟨by rw[jzl0 X j f Y (by rw[HL.o.1];exact qz) (by rw[qY.o,qT])];exact I.o.1.K QR.Dz X4.o.1,I.o.2.1.K X4.o.1,I.o.2.2.1.K X4.o.1,I.o.2.2.2.tr (eE (S:=fun b=>b=gv) X4.o.1) fun b hb=>.inl hb⟩)
   clear qw qT I u0 u1 u2 v0 v1 v2 g0 g1 g2 b5;go_wp2;go_roundg (K-(i+1));exact⟨i+1,rfl,qO,by go_num,I4⟩;omega
  have qw:¬aB yi=0:=fun h=>qT ((iC yi).1 h);have vT:(aB yi !=0)=true:=(by simpa using qw);have vO:decide (aB yi=0)=false:=yP qw;have vJ:(aB yi==0)=false:=(by simpa using qw);generalize aB yi=sy at*;have ve:wr.cell? (aD gr o)=some (.s (sA gv) K cv):=(by by_cases e:gr=gv;{exfalso;(subst e;obtain⟨xs,h1⟩:=H.o.2.1.own;obtain⟨c,h2⟩:=aT h1 (g:=gr) rfl;have h3:=H.o.1;unfold ak at h2 h3;rw[h3]at h2;injection h2 with h2);(injection h2 with _ h2);exact TT.o.1 h2};exact((I.o.2.2.2.blk H.o.1 e).cell o).trans KS.o.1)
  obtain⟨⟨f0,f1,f2⟩,_⟩:=(I.o.2.2.1).t3;obtain⟨⟨c0,c1,c2⟩,_⟩:=X4.o.2.t3;have XD:Hid (Ext w4 w4.drew):=Hx ((eR w4).drewN 1);have qa:=Hx (show∀wx,Ext w4 wx->(wx.C gr o (.s (sA gv) K cv)/\(wx.C gv (i*3) (.bool nz)/\wx.C gv (i*3+1) (.s Z1 s1 t1)/\wx.C gv (i*3+2) (.s qM qH qJ))/\(wx.C (w.heap.size+1) 0 (.bool nf)/\wx.C (w.heap.size+1) 1 (.s F1 m1 d1)/\wx.C (w.heap.size+1) 2 (.s qg qe qf))/\wx.C wr.heap.size 0 (.bool ne)/\wx.C wr.heap.size 1 (.s E1 p1 q1)/\wx.C wr.heap.size 2 (.s qt qn qo))from fun wx hx=>
   have h:=X4.o.1.tr hx
   ⟨aA h ve,⟨aA h v0,aA h v1,aA h v2⟩,⟨aA h f0,aA h f1,aA h f2⟩,aA hx c0,aA hx c1,aA hx c2⟩)
  have GF:=Hx (show∀wx,Ext w4 wx->wx.frozen? (aD gv (i*3))=false/\wx.frozen? (aD gv (i*3+1))=false/\wx.frozen? (aD gv (i*3+2))=false from fun wx hx=>
   have h:=X4.o.1.tr hx
   ⟨mN h v0 g0,mN h v1 g1,mN h v2 g2⟩)
  have eu:=Hx (qa.o _ XD.o);clear ve f0 f1 f2 c0 c1 c2 v0 v1 v2 g0 g1 g2 u0 u1 u2 b5;go_wp2;have RF:=Hx (show aC w4.drew nf F1 m1 d1 qg qe qf f/\aC w4.drew ne E1 p1 q1 qt qn qo yi/\aC w4 nz Z1 s1 t1 qM qH qJ (if i=j then 0 else Sx.at_ X i)from
   ⟨(((I.o.2.2.2.oz qy.o H.o.2.2.2.2.2).K X4.o.1).K XD.o),(by have:=R.o.1;rw[qY.o]at this;exact(this.K X4.o.1).K XD.o),R.o.2.K X4.o.1⟩)
  have LE:Hid (m1<=134217728/\qe<=134217728/\p1<=134217728/\qn<=134217728/\s1<=134217728/\qH<=134217728/\dx (f*yi) (P+P)):=Hx (by obtain⟨a1,a2⟩:=RF.o.1.lens HS.o.2.2.2.2;obtain⟨a3,a4⟩:=RF.o.2.1.lens q4.o;obtain⟨a5,a6⟩:=RF.o.2.2.lens vz.o;exact⟨qO,qO,qO,qO,qO,qO,HS.o.2.2.2.2.mul q4.o⟩);(refine jh (fun w'=>w'.C gr o (.s (sA gv) K cv)/\(w'.C gv (i*3) (.bool nz)/\w'.C gv (i*3+1) (.s Z1 s1 t1)/\w'.C gv (i*3+2) (.s qM qH qJ))/\(w'.C (w.heap.size+1) 0 (.bool nf)/\w'.C (w.heap.size+1) 1 (.s F1 m1 d1)/\w'.C (w.heap.size+1) 2 (.s qg qe qf))/\w'.C wr.heap.size 0 (.bool ne)/\w'.C wr.heap.size 1 (.s E1 p1 q1)/\w'.C wr.heap.size 2 (.s qt qn qo)) 17 qK ?_;refine wV 0 ?_;try simp only[qN]);refine wV 1 ?_;refine wV 2 ?_;refine wV 3 ?_;refine wV 4 ?_;refine wV 5 ?_;refine wV 6 ?_;refine wV 7 ?_;refine wV 8 ?_;refine wV 9 ?_;refine wV 10 ?_;refine wV 11 ?_;refine wV 12 ?_;(refine wV 13 ?_;try simp only[qN]);(refine wC 14 rfl (fun KK hK=>?_);go_simp;refine(gX nf ne F1 m1 d1 qg qe qf E1 p1 q1 qt qn qo f yi _ RF.o.1 RF.o.2.1 LE.o.1 LE.o.2.1 LE.o.2.2.1 LE.o.2.2.2.1).mono ?_;rintro e w5 ⟨n5,A5,l5,c5,q5,q9,q0,rfl,h5,x5⟩;have E5:=Hx (XD.o.tr x5);have eu:=Hx (qa.o _ E5.o);have R5:=Hx h5;obtain⟨vu,vq⟩:=R5.o.lens LE.o.2.2.2.2.2.2;have qX:=LE.o.2.2.2.2.1;have q2:=LE.o.2.2.2.2.2.1;refine hK.o _ _ eu.o ?_;clear hK KK h5 x5;refine wC 15 rfl (fun KK hK=>?_);go_simp;refine(pY nz n5 Z1 s1 t1 qM qH qJ A5 l5 c5 q5 q9 q0 _ (f*yi) _ (RF.o.2.2.K E5.o) R5.o qX q2 qO qO).mono ?_;rintro e w6 ⟨n6,A6,l6,c6,qj,qh,qi,rfl,h6,x6⟩;have E6:=Hx (E5.o.tr x6);have eu:=Hx (qa.o _ E6.o);have R6:=Hx h6;refine hK.o _ _ eu.o ?_;clear hK KK h6 x6;refine wV 16 ?_;try simp only[qN]);have I6:Hid (OQ QR 33 (((w6.setCell (aD gv (i*3)) (.bool n6)).setCell (aD gv (i*3+1)) (.s A6 l6 c6)).setCell (aD gv (i*3+2)) (.s qj qh qi)) B (.s (sA gv) K cv) (Sx.Bh X j f Y (i+1))/\ak (((w6.setCell (aD gv (i*3)) (.bool n6)).setCell (aD gv (i*3+1)) (.s A6 l6 c6)).setCell (aD gv (i*3+2)) (.s qj qh qi)) w.heap.size 145 #[.s (sA gy) K cy,.bool ny,.s A2 n2 c2,.s mg ko c2']/\ak (((w6.setCell (aD gv (i*3)) (.bool n6)).setCell (aD gv (i*3+1)) (.s A6 l6 c6)).setCell (aD gv (i*3+2)) (.s qj qh qi)) (w.heap.size+1) 33 #[.bool nf,.s F1 m1 d1,.s qg qe qf]/\fu (fun b=>b=gv) w (((w6.setCell (aD gv (i*3)) (.bool n6)).setCell (aD gv (i*3+1)) (.s A6 l6 c6)).setCell (aD gv (i*3+2)) (.s qj qh qi))):=Hx (by have qk:=dC w6 gv (i*3) (.bool n6) (.s A6 l6 c6) (.s qj qh qi);have XX:=X4.o.1.tr E6.o;have vp:=I.o.1.K QR.Dz XX;refine⟨?_,(qk.block _ (I.o.2.1.K XX).lt (fun e=>by injection e with e;omega)).trans (I.o.2.1.K XX),(qk.block _ (I.o.2.2.1.K XX).lt (fun e=>by injection e with e;omega)).trans (I.o.2.2.1.K XX),(I.o.2.2.2.tr (eE (S:=fun b=>b=gv) XX) fun b hb=>.inl hb).tr (eG qk (S:=fun b=>b=gv) fun g e=>by injection e with e;exact e.symm) (fun b hb=>.inl hb)⟩;have h7:=jzdj X j f Y (show i<X.length by rw[HL.o.1];exact qz);rw[qY.o]at h7;rw[h7];exact vp.put (by rw[Sx.Aw];exact HL.o.1) (by rw[Sx.Aw,HL.o.1];exact qz) R6.o);obtain⟨z0,z1,z2⟩:=GF.o _ E6.o;obtain⟨_,⟨t0,t1,t2⟩,_⟩:=eu.o;refine bE qK rfl qR (fun KK hK=>?_);go_simp;refine hK.o _ _ ?_;clear hK KK;refine wpAny_done qK ?_ _;clear z0 z1 z2 t0 t1 t2 qa I;generalize ((w6.setCell (aD gv (i*3)) (.bool n6)).setCell (aD gv (i*3+1)) (.s A6 l6 c6)).setCell (aD gv (i*3+2)) (.s qj qh qi)=W7 at*;go_wp2;go_roundg (K-(i+1));exact⟨i+1,rfl,qO,by go_num,I6⟩;omega
 obtain rfl:K=i:=qO;have vL:¬((K:Int)<(K:Int)):=qO;have vG:¬K<K:=Ho K;have qC:gr≠gv:=fun e=>(by (subst e;obtain⟨xs,h1⟩:=H.o.2.1.own;obtain⟨c,h2⟩:=aT h1 (g:=gr) rfl;have h3:=H.o.1;unfold ak at h2 h3;rw[h3]at h2;injection h2 with h2);(injection h2 with _ h2);exact TT.o.1 h2);have BG:=Hx (I.o.2.2.2.blk H.o.1 qC);have RF:=Hx (ah (I.o.2.2.2.oz qy.o H.o.2.2.2.2.1) (ah (I.o.2.2.2.oz qy.o H.o.2.2.2.2.2) (I.o.2.2.2.oz qy.o H.o.2.2.2.1)));have LE:Hid (n1<=134217728/\qB<=134217728/\m1<=134217728/\qe<=134217728/\n2<=134217728/\ko<=134217728/\dx (f*y) (P+P)):=Hx (by obtain⟨a1,a2⟩:=RF.o.1.lens HS.o.2.1;obtain⟨a3,a4⟩:=RF.o.2.1.lens HS.o.2.2.2.2;obtain⟨a5,a6⟩:=RF.o.2.2.lens HS.o.2.2.2.1;exact⟨qO,qO,qO,qO,qO,qO,HS.o.2.2.2.2.mul HS.o.2.2.2.1⟩)
 have XD:Hid (Ext wr wr.drew):=Hx ((eR wr).drewN 1);have qa:=Hx (show∀wx,Ext wr wx->((wx.C gr (o+1) (.bool nx)/\wx.C gr (o+2) (.s A1 n1 c1)/\wx.C gr (o+3) (.s qI qB qU))/\(wx.C (w.heap.size+1) 0 (.bool nf)/\wx.C (w.heap.size+1) 1 (.s F1 m1 d1)/\wx.C (w.heap.size+1) 2 (.s qg qe qf))/\wx.C w.heap.size 1 (.bool ny)/\wx.C w.heap.size 2 (.s A2 n2 c2)/\wx.C w.heap.size 3 (.s mg ko c2'))from fun wx hx=>
  ⟨⟨((BG.o.K hx).cell _).trans KS.o.2.1,((BG.o.K hx).cell _).trans KS.o.2.2.1,((BG.o.K hx).cell _).trans KS.o.2.2.2⟩,(I.o.2.2.1.K hx).t3.1,((I.o.2.1.K hx).cell 1).trans rfl,((I.o.2.1.K hx).cell 2).trans rfl,((I.o.2.1.K hx).cell 3).trans rfl⟩)
 (have GF:Hid (∀wx,Ext wr wx->wx.frozen? (aD gr (o+1))=false/\wx.frozen? (aD gr (o+2))=false/\wx.frozen? (aD gr (o+3))=false):=Hx (fun wx hx=>⟨(BG.o.K hx).frozen _,(BG.o.K hx).frozen _,(BG.o.K hx).frozen _⟩);have eu:=Hx (qa.o _ XD.o);go_wp2;refine jh (fun w'=>(w'.C gr (o+1) (.bool nx)/\w'.C gr (o+2) (.s A1 n1 c1)/\w'.C gr (o+3) (.s qI qB qU))/\(w'.C (w.heap.size+1) 0 (.bool nf)/\w'.C (w.heap.size+1) 1 (.s F1 m1 d1)/\w'.C (w.heap.size+1) 2 (.s qg qe qf))/\w'.C w.heap.size 1 (.bool ny)/\w'.C w.heap.size 2 (.s A2 n2 c2)/\w'.C w.heap.size 3 (.s mg ko c2')) 12 qK ?_;refine wV 0 ?_;try simp only[qN]);refine wV 1 ?_;refine wV 2 ?_;refine wV 3 ?_;refine wV 4 ?_;refine wV 5 ?_;refine wV 6 ?_;(refine wV 7 ?_;try simp only[qN]);(refine wC 8 rfl (fun KK hK=>?_);go_simp;refine(gX nf ny F1 m1 d1 qg qe qf A2 n2 c2 mg ko c2' f y _ (RF.o.2.1.K XD.o) (RF.o.2.2.K XD.o) LE.o.2.2.1 LE.o.2.2.2.1 LE.o.2.2.2.2.1 LE.o.2.2.2.2.2.1).mono ?_;rintro e w5 ⟨n5,A5,l5,c5,q5,q9,q0,rfl,h5,x5⟩;have E5:=Hx (XD.o.tr x5);have eu:=Hx (qa.o _ E5.o);have R5:=Hx h5;obtain⟨vu,vq⟩:=R5.o.lens LE.o.2.2.2.2.2.2;have qX:=LE.o.1;have q2:=LE.o.2.1;refine hK.o _ _ eu.o ?_;clear hK KK h5 x5;refine wC 9 rfl (fun KK hK=>?_);go_simp;refine(pY nx n5 A1 n1 c1 qI qB qU A5 l5 c5 q5 q9 q0 x (f*y) _ (RF.o.1.K E5.o) R5.o qX q2 qO qO).mono ?_;rintro e w6 ⟨n6,A6,l6,c6,qj,qh,qi,rfl,h6,x6⟩;have E6:=Hx (E5.o.tr x6);have eu:=Hx (qa.o _ E6.o);have R6:=Hx h6;refine hK.o _ _ eu.o ?_;clear hK KK h6 x6;refine wC 10 rfl (fun KK hK=>?_);go_simp;refine hK.o _ _ eu.o ?_;clear hK KK;refine wV 11 ?_;try simp only[qN]);obtain⟨z0,z1,z2⟩:=GF.o _ E6.o;obtain⟨⟨t0,t1,t2⟩,_⟩:=eu.o;refine bE qK rfl qR (fun KK hK=>?_);go_simp;refine hK.o _ _ ?_;clear hK KK;refine wpAny_done qK ?_ _;have q3:Hid (wI B gr o tr cs gv K cv (Sx.Au ⟨X,x⟩ j ⟨Y,y⟩) w (.returned (.tuple #[])) (((w6.setCell (aD gr (o+1)) (.bool n6)).setCell (aD gr (o+1+1)) (.s A6 l6 c6)).setCell (aD gr (o+1+2)) (.s qj qh qi))):=Hx (by have qk:=dC w6 gr (o+1) (.bool n6) (.s A6 l6 c6) (.s qj qh qi);have e:Sx.Au ⟨X,x⟩ j ⟨Y,y⟩=⟨Sx.Bh X j f Y K,x-f*y⟩:=(by unfold Sx.Au;simp only[HF.o];rw[qF vw.o,HL.o.1]);rw[e];have vh:=BG.o.K E6.o;have vy:o+3<cs.size:=(KM.1 KS.o.2.2.2).1;have vc:oh (fun b=>b=gr) w6 196:=oh.one vh TT.o.2;have F6:fu (fun b=>b=gr) w6 (((w6.setCell (aD gr (o+1)) (.bool n6)).setCell (aD gr (o+1+1)) (.s A6 l6 c6)).setCell (aD gr (o+1+2)) (.s qj qh qi)):=eG qk fun g e=>(by injection e with e;exact e.symm);refine⟨rfl,_,((vh.sT (o+1) _).sT (o+1+1) _).sT (o+1+2) _,⟨qS,fun k h1 h2 h3=>?_⟩,⟨n6,A6,l6,c6,qj,qh,qi,?_,?_,?_,?_,F6.oz vc R6.o⟩,?_,?_⟩;{rw[xH qO,xH qO,xH qO]};{rw[xH qO,xH qO,xH qO];exact KS.o.1};{rw[xH qO,xH qO,KN qO]};{rw[xH qO,KN (by simp;omega)]};{rw[KN (by simp;omega)]};{exact F6.oq vc (I.o.1.K QR.Dz E6.o) fun g hg e=>qC (by injection hg with hg;rw[<-e];exact hg.symm)};exact((I.o.2.2.2.mono (S':=fun b=>b=gr\/b=gv) fun b hb=>.inr hb).tr (eE (S:=fun b=>b=gr\/b=gv) E6.o) fun b hb=>.inl hb).tr F6 fun b hb=>.inl (.inl hb));clear z0 z1 z2 t0 t1 t2 qa I;generalize ((w6.setCell (aD gr (o+1)) (.bool n6)).setCell (aD gr (o+1+1)) (.s A6 l6 c6)).setCell (aD gr (o+1+2)) (.s qj qh qi)=W7 at*;go_wp2;(go_end0);exact q3.o
def cJ(T:Sx.Tb)(k:Nat)(r:Sx.Rw):Sx.Tb:=⟨T.rows.set k r,T.bn,T.ay,T.goal,T.iq⟩
def fJ(T:Sx.Tb)(r:Sx.Rw):Sx.Tb:=⟨T.rows,T.bn,T.ay,r,T.iq⟩
def oD(T:Sx.Tb){k:Nat}(r:Sx.Rw)(i:Nat)(hk:k<T.rows.length):(cJ T k r).row i=if i=k then r else T.row i:=by
 unfold cJ Sx.Tb.row;by_cases e:i=k;{subst e;rw[qE rfl];simp only[];rw[yM hk];rfl};rw[qF e];simp only[];rw[vN (fun e2=>e e2.symm)]
def bI{w}{g:Nat}{t t':TypeId}{cs cs':Array Value}(h:ak w g t cs)(h':ak w g t' cs'):cs=cs'/\t=t':=by
 unfold ak at h h';rw[h]at h';injection h' with h'
 injection h' with e1 e2
 exact⟨e1,e2⟩
def iD{w:World}{B n s:Nat}{e:TypeId}{v:Value}{xs:List Value}(h:w.ownsRow B e s v n xs)(hn:0<n):∃g c cur,v=.s (sA g) n c/\B<=g/\ak w g e cur/\n<=c/\c<=maxLen/\cur.size=c*s/\cur.toList.take (n*s)=xs:=by
 rcases h.2 with⟨_,h1⟩|⟨g,cap,cur,h1,h2,h3,h4,h5,h6,h7⟩
 ·omega
 exact⟨g,cap,cur,h1,h2,h3,h4,h5,h6,h7⟩
def jzdl{w w':World}{B g m cr k:Nat}{css:List (List Value)}{cs':Array Value}{t:TypeId}{cs:Array Value}{cn:List Value}(h:w.ownsRow B t 4 (.s (sA g) m cr) m css.flatten)(hl:css.length=m)(h4:∀c∈css,c.length=4)(hk:k<m)(hb:ak w g t cs)(hb':ak w' g t cs')(hsz:cs'.size=cs.size)(hcn:cn.length=4)
  (hin:∀r,r<4->cs'[k*4+r]?=cn[r]?) (hout:∀i,(i<k*4\/k*4+4<=i)->cs'[i]?=cs[i]?):w'.ownsRow B t 4 (.s (sA g) m cr) m (css.set k cn).flatten:=by
 have qe:∀c∈css.set k cn,c.length=4:=fun c hc=>(by (rcases xE hc with h1|h1);{exact h4 c h1};rw[h1];exact hcn);obtain⟨g',c',qg,e1,e2,e3,e4,e5,e6,e7⟩:=iD h qO;injection e1 with e1 _ e1c;(injection e1 with e1);(injection e1 with e1);subst e1 e1c;obtain⟨rfl,_⟩:=bI hb e3;have qh:=fR css h4;have qa:=fR (css.set k cn) qe;rw[yV]at qa;refine⟨by rw[qa,hl],.inr ⟨g,cr,cs',rfl,e2,hb',e4,e5,by rw[hsz];exact e6,?_⟩⟩;apply uK;intro i;by_cases hi:i<m*4;{rw[xG,qE hi,Gi];have qf:i/4*4+i%4=i:=qO;have f1:=dV (css.set k cn) qe (i/4) (i%4) (by rw[yV];omega) qO;have f0:=dV css h4 (i/4) (i%4) qO qO;rw[qf]at f1 f0;rw[f1];by_cases e:k=i/4;{rw[<-e,yM qO];have:=hin (i%4) qO;rw[show k*4+i%4=i by omega]at this;rw[this];rfl};rw[vN e, <-f0, <-e7,xG,qE hi,Gi];exact hout i qO};rw[yI (by simp;omega),yI (by rw[qa];omega)]
section
variable {w w':World} {B:Nat} {L:aQ} {T:Sx.Tb}
def aH.Es(h:aH w B L T){k:Nat}(hk:k<L.m){r:Sx.Rw}{g cr gv K cv:Nat}{cs cs':Array Value}(D7:L.vr=.s (sA g) L.m cr)(hV:L.V k=.s (sA gv) K cv)
  (hb:ak w g 145 cs) (hb':ak w' g 145 cs') (hsb:lU (k*4) cs cs') (hr:RwA w' cs' (k*4) (L.V k) r.re) (ho:OQ QR 33 w' B (L.V k) r.co) (hf:fu (fun b=>b=g\/b=gv) w w'):aH w' B L (cJ T k r):=by
 have qa:∃c,ak w gv 33 c:=(by obtain⟨xs,h1⟩:=(h.co k hk).own;exact aT h1 (by rw[hV];rfl));obtain⟨qj,qa⟩:=qa;have qh:∀t,145≠t->33≠t->oh (fun b=>b=g\/b=gv) w t:=fun t h1 h2 b hbb c fr e=>(by (rcases hbb with rfl|rfl);{exact oh.one hb h1 b rfl c fr e};exact oh.one qa h2 b rfl c fr e);have qe:=qh 196 qD qD;have far:∀{t:TypeId} {b:Nat} {c:Array Value},ak w b t c->t≠145->t≠33->¬(b=g\/b=gv):=fun hbb h1 h2 e=>(by (rcases e with rfl|rfl);{exact h1 (bI hbb hb).2};exact h2 (bI hbb qa).2);have qg:∀i,i<=L.m->i≠k->∀qs,OQ QR 33 w B (L.V i) qs->OQ QR 33 w' B (L.V i) qs:=fun i hi hne qs hq=>hf.oq qe hq fun b hbb e=>(by (obtain⟨xs,h1⟩:=hq.own;obtain⟨c,h2⟩:=aT h1 hbb;rcases e with rfl|rfl);{have:=(bI h2 hb).2;exact absurd this qD};(rcases h.sep i k hi (Bg hk) hne with h3|h3);{rw[h3]at hbb;cases hbb};exact h3 (by rw[hbb,hV];rfl));have qi:(cJ T k r).rows.length=L.m:=(by show(T.rows.set k r).length=_;rw[yV];exact h.rl);have qf:k<T.rows.length:=(by rw[h.rl];exact hk);refine⟨qi,h.lo,?_,?_,h.bl,?_,?_,h.bf,fun i hi=>?_,qg L.m (yX _) qO _ h.go,h.sep⟩;{obtain⟨gs,h1,h2⟩:=h.box;exact⟨gs,hf.Gc qe h1,hf.blk h2 (far h2 qD qD)⟩};{obtain⟨css,h1,h2,h3,h4⟩:=h.rows;obtain⟨neg,A,n,c,A',n',c',r0,r1,r2,r3,rr⟩:=hr;refine⟨css.set k [L.V k,.bool neg,.s A n c,.s A' n' c'],by rw[yV];exact h1,fun c hc=>?_,?_,fun i hi=>?_⟩;{(rcases xE hc with h5|h5);{exact h2 c h5};rw[h5];rfl};{rw[D7]at h3⊢;(refine jzdl h3 h1 h2 hk hb hb' hsb.1 rfl (fun j hj=>?_) fun i hi=>hsb.2 i qO qO qO;rcases(show j=0\/j=1\/j=2\/j=3 by omega)with rfl|rfl|rfl|rfl);{exact r0};{exact r1};{exact r2};exact r3};rw[oD T r i qf];by_cases e:i=k;{subst e;exact⟨_,yM qO,by rw[qE rfl];exact⟨neg,A,n,c,A',n',c',rfl,rr⟩⟩};obtain⟨c,h5,h6⟩:=h4 i hi;exact⟨c,by rw[vN (fun e2=>e e2.symm)];exact h5,by rw[qF e];exact hf.Gc qe h6⟩};{refine hf.own h.bn fun b hbb=>?_;obtain⟨c,h1⟩:=aT h.bn hbb;exact far h1 qD qD};{refine hf.own h.ay fun b hbb=>?_;obtain⟨c,h1⟩:=aT h.ay hbb;exact far h1 qD qD};rw[oD T r i qf];by_cases e:i=k;{subst e;rw[qE rfl];exact ho};rw[qF e];exact qg i (Bg hi) e _ (h.co i hi)
def aH.FB(h:aH w B L T){r:Sx.Rw}{gv K cv:Nat}{cs cs':Array Value}(hV:L.V L.m=.s (sA gv) K cv)
  (hb:ak w L.p 147 cs) (hb':ak w' L.p 147 cs') (hsb:lU 3 cs cs') (hr:RwA w' cs' 3 (L.V L.m) r.re) (ho:OQ QR 33 w' B (L.V L.m) r.co) (hf:fu (fun b=>b=L.p\/b=gv) w w'):aH w' B L (fJ T r):=by
 have qa:∃c,ak w gv 33 c:=(by obtain⟨xs,h1⟩:=h.go.own;exact aT h1 (by rw[hV];rfl));obtain⟨qi,qa⟩:=qa;have qe:oh (fun b=>b=L.p\/b=gv) w 196:=fun b hbb c fr e=>(by (rcases hbb with rfl|rfl);{exact oh.one hb qD _ rfl c fr e};exact oh.one qa qD _ rfl c fr e);have far:∀{t:TypeId} {b:Nat} {c:Array Value},ak w b t c->t≠147->t≠33->¬(b=L.p\/b=gv):=fun hbb h1 h2 e=>(by (rcases e with rfl|rfl);{exact h1 (bI hbb hb).2};exact h2 (bI hbb qa).2);refine⟨h.rl,h.lo,?_,?_,h.bl,?_,?_,h.bf,fun i hi=>?_,ho,h.sep⟩;{obtain⟨gs,h1,h2⟩:=h.box;obtain⟨e1,_⟩:=bI hb h2;obtain⟨n0,A0,m0,d0,qf,qg,qh,e0,_⟩:=h1;obtain⟨neg,A,n,c,A',n',c',r0,r1,r2,r3,rr⟩:=hr;refine⟨[L.V L.m,.bool neg,.s A n c,.s A' n' c'],⟨neg,A,n,c,A',n',c',rfl,rr⟩,?_⟩;have:cs'=([L.vr,L.vb,L.vf]++[L.V L.m,Value.bool neg,.s A n c,.s A' n' c']++[Value.int .i64 ((fJ T r).iq:Int)]).toArray:=(by apply Array.ext_getElem?;intro i;by_cases h3:i=3;{subst h3;rw[r0];rfl};by_cases h4:i=4;{subst h4;rw[r1];rfl};by_cases h5:i=5;{subst h5;rw[r2];rfl};by_cases h6:i=6;{subst h6;rw[r3];rfl};(rw[hsb.2 i qO qO qO,e1,e0];rcases(show i=0\/i=1\/i=2\/i=7\/8<=i by omega)with rfl|rfl|rfl|rfl|h8);{rfl};{rfl};{rfl};{rfl};rw[Fx (by simpa using h8),Fx (by simpa using h8)]);rw[<-this];exact hb'};{obtain⟨css,h1,h2,h3,h4⟩:=h.rows;refine⟨css,h1,h2,hf.own h3 fun b hbb=>?_,fun i hi=>?_⟩;{obtain⟨c,h5⟩:=aT h3 hbb;exact far h5 qD qD};obtain⟨c,h5,h6⟩:=h4 i hi;exact⟨c,h5,hf.Gc qe h6⟩};{refine hf.own h.bn fun b hbb=>?_;obtain⟨c,h1⟩:=aT h.bn hbb;exact far h1 qD qD};{refine hf.own h.ay fun b hbb=>?_;obtain⟨c,h1⟩:=aT h.ay hbb;exact far h1 qD qD};(refine hf.oq qe (h.co i hi) fun b hbb e=>?_;obtain⟨xs,h1⟩:=(h.co i hi).own;obtain⟨c,h2⟩:=aT h1 hbb;rcases e with rfl|rfl);{have:=(bI h2 hb).2;exact absurd this qD};(rcases h.sep i L.m (Bg hi) (yX _) qO with h3|h3);{rw[h3]at hbb;cases hbb};exact h3 (by rw[hbb,hV];rfl)
end
section
variable {w w':World} {B:Nat} {L:aQ} {T:Sx.Tb}
def aH.Cu(h:aH w B L T)(hm:0<L.m):∃g c,L.vr=.s (sA g) L.m c/\L.m<=c:=by
 obtain⟨css,_,_,h3,_⟩:=h.rows;obtain⟨g,c,qa,h1,_,_,h2,_⟩:=iD h3 hm;exact⟨g,c,h1,h2⟩
def aH.Dp(h:aH w B L T)(hm:0<L.m):∃g c,L.vb=.s (sA g) L.m c/\L.m<=c:=by
 obtain⟨g,c,qa,h1,_,_,h2,_⟩:=iD h.bn hm;exact⟨g,c,h1,h2⟩
def aH.Dl(h:aH w B L T)(hm:0<T.ay.length):∃g c,L.vf=.s (sA g) T.ay.length c/\T.ay.length<=c:=by
 obtain⟨g,c,qa,h1,_,_,h2,_⟩:=iD h.ay hm;exact⟨g,c,h1,h2⟩
def OQ.form{v:Value}{qs:LQ}(h:OQ QR 33 w B v qs)(hq:0<qs.length):∃g c,v=.s (sA g) qs.length c/\qs.length<=c/\g<w.heap.size:=by
 obtain⟨xs,h3⟩:=h.own;obtain⟨g,c,qa,h1,_,h4,h2,_⟩:=iD h3 hq;exact⟨g,c,h1,h2,h4.lt⟩
def aH.rwa(h:aH w B L T){i g c:Nat}(hi:i<L.m)(D7:L.vr=.s (sA g) L.m c):∃cs,ak w g 145 cs/\RwA w cs (i*4) (L.V i) (T.row i).re:=by
 obtain⟨css,h1,h2,h3,h4⟩:=h.rows;obtain⟨g',c',qe,e1,_,e3,_,_,_,e7⟩:=iD h3 qO;rw[D7]at e1;injection e1 with e1 _ _
 injection e1 with e1
 injection e1 with e1
 subst e1;obtain⟨cs,k1,neg,A,n,c1,A',n',qf,rfl,k2⟩:=h4 i hi;have qa:∀r,r<4->qe[i*4+r]?=([L.V i,.bool neg,.s A n c1,.s A' n' qf]:List Value)[r]?:=fun r hr=>by
  have hf:=dV css h2 i r qO hr;rw[k1, <-e7,xG,qE qO,Gi]at hf;exact hf
 exact⟨qe,e3,neg,A,n,c1,A',n',qf,qa 0 qO,qa 1 qO,qa 2 qO,qa 3 qO,k2⟩
def aH.DV(h:aH w B L T):∃cs,ak w L.p 147 cs/\RwA w cs 3 (L.V L.m) T.goal.re/\cs[0]?=some L.vr/\cs[1]?=some L.vb/\cs[2]?=some L.vf/\cs[7]?=some (vI (T.iq:Int)):=by
 obtain⟨gs,⟨neg,A,n,c,A',n',c',rfl,k2⟩,h2⟩:=h.box;exact⟨_,h2,⟨neg,A,n,c,A',n',c',rfl,rfl,rfl,rfl,k2⟩,rfl,rfl,rfl,rfl⟩
def lU.refl(o:Nat)(cs:Array Value):lU o cs cs:=⟨rfl,fun _ _ _ _=>rfl⟩
def aH.Jk(h:aH w B L T){i g c gv K cv n:Nat}{q:Rat}{neg:Bool}{A}{n1 c1:Nat}{A'}{n1' c1':Nat}(hi:i<L.m)(D7:L.vr=.s (sA g) L.m c)(hV:L.V i=.s (sA gv) K cv)(hK:(T.row i).co.length=K)(hn:n<K)(hq:aC w neg A n1 c1 A' n1' c1' q):
  aH (((w.setCell (aD gv (n*3)) (.bool neg)).setCell (aD gv (n*3+1)) (.s A n1 c1)).setCell (aD gv (n*3+2)) (.s A' n1' c1')) B L (cJ T i ⟨(T.row i).co.set n q,(T.row i).re⟩)/\
  fu L.S w (((w.setCell (aD gv (n*3)) (.bool neg)).setCell (aD gv (n*3+1)) (.s A n1 c1)).setCell (aD gv (n*3+2)) (.s A' n1' c1')):=by
 obtain⟨cs,hb,hr⟩:=h.rwa hi D7;have qj:=dC w gv (n*3) (.bool neg) (.s A n1 c1) (.s A' n1' c1');obtain⟨xs,ho⟩:=(h.co i hi).own;obtain⟨cr,qf⟩:=aT ho (show(L.V i).ownBlock=some gv by rw[hV];rfl);have qh:g≠gv:=fun e=>(by subst e;have:=(bI hb qf).2;exact absurd this qD);have hF:fu (fun b=>b=gv) w (((w.setCell (aD gv (n*3)) (.bool neg)).setCell (aD gv (n*3+1)) (.s A n1 c1)).setCell (aD gv (n*3+2)) (.s A' n1' c1')):=eG qj fun b e=>(by injection e with e;exact e.symm);have qi:oh (fun b=>b=gv) w 196:=oh.one qf qD;obtain⟨rn,RA,qk,qm,qg,qe,qa,r0,r1,r2,r3,rr⟩:=hr;refine⟨h.Es hi D7 hV hb (hF.blk hb qh) (lU.refl _ _) ⟨rn,RA,qk,qm,qg,qe,qa,r0,r1,r2,r3,hF.oz qi rr⟩ ?_ (hF.mono fun b hb=>.inr hb),hF.mono fun b hb=>.inr (.inr (.inr (.inr ⟨i,Bg hi,by rw[hV,hb];rfl⟩)))⟩;rw[hV];have:=h.co i hi;rw[hV]at this;exact this.put hK (by rw[hK];exact hn) hq
def aH.Ku(h:aH w B L T){i g c:Nat}{q:Rat}{neg:Bool}{A}{n1 c1:Nat}{A'}{n1' c1':Nat}(hi:i<L.m)(D7:L.vr=.s (sA g) L.m c)(hc:0<(T.row i).co.length)(hq:aC w neg A n1 c1 A' n1' c1' q):
  aH (((w.setCell (aD g (i*4+1)) (.bool neg)).setCell (aD g (i*4+1+1)) (.s A n1 c1)).setCell (aD g (i*4+1+2)) (.s A' n1' c1')) B L (cJ T i ⟨(T.row i).co,q⟩)/\
  fu L.S w (((w.setCell (aD g (i*4+1)) (.bool neg)).setCell (aD g (i*4+1+1)) (.s A n1 c1)).setCell (aD g (i*4+1+2)) (.s A' n1' c1')):=by
 obtain⟨cs,hb,hr⟩:=h.rwa hi D7;obtain⟨gv,cv,hV,_,_⟩:=(h.co i hi).form hc;have qg:=dC w g (i*4+1) (.bool neg) (.s A n1 c1) (.s A' n1' c1');have hF:fu (fun b=>b=g) w (((w.setCell (aD g (i*4+1)) (.bool neg)).setCell (aD g (i*4+1+1)) (.s A n1 c1)).setCell (aD g (i*4+1+2)) (.s A' n1' c1')):=eG qg fun b e=>(by injection e with e;exact e.symm);have qa:oh (fun b=>b=g) w 196:=oh.one hb qD;obtain⟨rn,RA,qj,qk,qi,qf,qe,r0,r1,r2,r3,rr⟩:=hr;have qh:i*4+3<cs.size:=(KM.1 r3).1;refine⟨h.Es hi D7 hV hb (((hb.sT (i*4+1) _).sT (i*4+1+1) _).sT (i*4+1+2) _) ⟨qS,fun k h1 h2 h3=>?_⟩ ⟨neg,A,n1,c1,A',n1',c1',?_,?_,?_,?_,hF.oz qa hq⟩ ?_ (hF.mono fun b hb=>.inl hb),hF.mono fun b hb=>.inr (.inl (by rw[D7,hb];rfl))⟩;{rw[xH qO,xH qO,xH qO]};{rw[xH qO,xH qO,xH qO];exact r0};{rw[xH qO,xH qO,KN qO]};{rw[xH qO,KN (by simp;omega)]};{rw[KN (by simp;omega)]};refine hF.oq qa (h.co i hi) fun b hbb e=>?_;obtain⟨xs,h1⟩:=(h.co i hi).own;obtain⟨c2,h2⟩:=aT h1 hbb;subst e;have:=(bI hb h2).2;exact absurd this qD
def rH(T:Sx.Tb)(l:LN):Sx.Tb:=⟨T.rows,l,T.ay,T.goal,T.iq⟩
def wJ(T:Sx.Tb)(l:LN):Sx.Tb:=⟨T.rows,T.bn,l,T.goal,T.iq⟩
def jzdm(l:LN)(i v:Nat):(ints l).set i (vI (v:Int))=ints (l.set i v):=by unfold ints;rw[List.map_set]
def aH.Gw(h:aH w B L T){g:Nat}{cs:Array Value}(hb:ak w g 3 cs){i:Nat}(u:Value):fu (fun b=>b=g) w (w.setCell (aD g i) u)/\oh (fun b=>b=g) w 196/\(∃gs,Ic (w.setCell (aD g i) u) gs (L.V L.m) T.goal.re/\ak (w.setCell (aD g i) u) L.p 147 ([L.vr,L.vb,L.vf]++gs++[Value.int .i64 (T.iq:Int)]).toArray)/\
  (∃css:List (List Value),css.length=L.m/\(∀cs∈css,cs.length=4)/\(w.setCell (aD g i) u).ownsRow B 145 4 L.vr L.m css.flatten/\∀k,k<L.m->∃cs,css[k]?=some cs/\Ic (w.setCell (aD g i) u) cs (L.V k) (T.row k).re)/\
  (∀k,k<L.m->OQ QR 33 (w.setCell (aD g i) u) B (L.V k) (T.row k).co)/\OQ QR 33 (w.setCell (aD g i) u) B (L.V L.m) T.goal.co:=by
 have hF:fu (fun b=>b=g) w (w.setCell (aD g i) u):=eG (aM w g i u) fun b e=>(by injection e with e;exact e.symm);have hn:oh (fun b=>b=g) w 196:=oh.one hb qD;have far:∀{t:TypeId} {b:Nat} {c:Array Value},ak w b t c->t≠3->¬b=g:=fun hbb h1 e=>(by subst e;exact h1 (bI hbb hb).2);have qa:∀k,k<=L.m->∀qs,OQ QR 33 w B (L.V k) qs->OQ QR 33 (w.setCell (aD g i) u) B (L.V k) qs:=fun k _ qs hq=>hF.oq hn hq fun b hbb=>(by obtain⟨xs,h1⟩:=hq.own;obtain⟨c,h2⟩:=aT h1 hbb;exact far h2 qD);refine⟨hF,hn,?_,?_,fun k hk=>qa k (Bg hk) _ (h.co k hk),qa L.m (yX _) _ h.go⟩;{obtain⟨gs,h1,h2⟩:=h.box;exact⟨gs,hF.Gc hn h1,hF.blk h2 (far h2 qD)⟩};obtain⟨css,h1,h2,h3,h4⟩:=h.rows;refine⟨css,h1,h2,hF.own h3 fun b hbb=>?_,fun k hk=>?_⟩;{obtain⟨c,h5⟩:=aT h3 hbb;exact far h5 qD};obtain⟨c,h5,h6⟩:=h4 k hk;exact⟨c,h5,hF.Gc hn h6⟩
def aH.JX(h:aH w B L T){gb c i v:Nat}(hvb:L.vb=.s (sA gb) L.m c):aH (w.setCell (aD gb i) (vI (v:Int))) B L (rH T (T.bn.set i v))/\fu L.S w (w.setCell (aD gb i) (vI (v:Int))):=by
 obtain⟨cs,hb⟩:=aT h.bn (show L.vb.ownBlock=some gb by rw[hvb];rfl);obtain⟨hF,hn,h1,h2,h3,h4⟩:=h.Gw hb (i:=i) (vI (v:Int));refine⟨⟨h.rl,h.lo,h1,h2,by show(T.bn.set i v).length=L.m;rw[yV];exact h.bl,?_,hF.own h.ay fun b hbb e=>?_,h.bf,h3,h4,h.sep⟩,hF.mono fun b hb=>.inr (.inr (.inl (by rw[hvb,hb];rfl)))⟩;{have:=h.bn;rw[hvb]at this⊢;have:=nW (k:=i) this (vI (v:Int));rw[jzdm]at this;exact this};(rcases h.bf with h5|h5);{rw[hvb]at h5;cases h5};exact h5 (by rw[hbb,hvb,e];rfl)
def aH.JR(h:aH w B L T){gf c i v:Nat}(hvf:L.vf=.s (sA gf) T.ay.length c):aH (w.setCell (aD gf i) (vI (v:Int))) B L (wJ T (T.ay.set i v))/\fu L.S w (w.setCell (aD gf i) (vI (v:Int))):=by
 obtain⟨cs,hb⟩:=aT h.ay (show L.vf.ownBlock=some gf by rw[hvf];rfl);obtain⟨hF,hn,h1,h2,h3,h4⟩:=h.Gw hb (i:=i) (vI (v:Int));refine⟨⟨h.rl,h.lo,h1,h2,h.bl,hF.own h.bn fun b hbb e=>?_,?_,h.bf,h3,h4,h.sep⟩,hF.mono fun b hb=>.inr (.inr (.inr (.inl (by rw[hvf,hb];rfl))))⟩;{(rcases h.bf with h5|h5);{rw[h5]at hbb;cases hbb};exact h5 (by rw[hbb,hvf,e];rfl)};have:=h.ay;show(w.setCell (aD gf i) (vI (v:Int))).ownsRow B 3 1 L.vf (T.ay.set i v).length (ints (T.ay.set i v));rw[yV];rw[hvf]at this⊢;have:=nW (k:=i) this (vI (v:Int));rw[jzdm]at this;exact this
end
def iE:Option Nat->Int
 |none=> -1
 |some b=>(b:Int)
def jzdn(q:Rat):aB q<0↔q<0:=jzld q
def iF(T:Sx.Tb)(n:Nat):Bool:=decide (Sx.at_ T.goal.co n<0)&&(match Sx.uq T n with
 |none=>true
 |some b=>decide (Sx.cu T.ay n<Sx.cu T.ay b))
def jzl1(T:Sx.Tb)(n:Nat):Sx.uq T (n+1)=if iF T n=true then some n else Sx.uq T n:=by
 show(if Sx.at_ T.goal.co n<0 then(match Sx.uq T n with
  |none=>some n
  |some b=>if Sx.cu T.ay n<Sx.cu T.ay b then some n else some b)else Sx.uq T n)=_
 unfold iF;by_cases h:Sx.at_ T.goal.co n<0;{rw[qE h,yO h,IX];(cases Sx.uq T n with|none=>simp|some b=>by_cases h2:Sx.cu T.ay n<Sx.cu T.ay b;{simp[h2]};simp[h2])};rw[qF h,yP h];simp
def gJ{w:World}{B g c n i:Nat}{l:LN}(h:w.ownsRow B 3 1 (.s (sA g) n c) n (ints l))(hi:i<n):w.cell? (aD g i)=some (vI (Sx.cu l i:Nat)):=by
 obtain⟨g',c',qa,e1,_,e3,_,_,_,e7⟩:=iD h qO;injection e1 with e1 _ _
 injection e1 with e1
 injection e1 with e1
 subst e1;have hl:l.length=n:=(by have:=h.1;rw[bX]at this;omega);rw[e3.cell, <-Gi];have h1:(qa.toList.take (n*1))[i]?=(ints l)[i]?:=(by rw[e7]);rw[xG,qE qO]at h1;rw[h1];unfold ints Sx.cu;rw[yW,yG qO];rfl
def jzl2(B:Nat)(L:aQ)(T:Sx.Tb)w(h:aH w B L T)(qh:T.goal.co.length=T.ay.length)(Kh:0<T.ay.length)(hK:T.ay.length<=1000000000000):
  Calls prog 81 #[.pointer (sA L.p),.pointer (some (aD L.p 3))] w fun e w'=>e=.returned (vI (iE (Sx.Bw T)))/\Ext w w':=by
 have qa:=h.go;obtain⟨gv,cv,hV,qH,qy⟩:=qa.form qO;rw[qh]at hV qH;rw[hV]at qa;obtain⟨cp,qg,qB,p0,p1,p2,p7⟩:=h.DV;obtain⟨ni,AI,li,ci,qJ,qU,qQ,a0,a1,a2,a3,ra⟩:=qB;rw[hV]at a0;have q3:=(qg.cell 3).trans a0;obtain⟨gf,cf,qj,qM⟩:=h.Dl Kh;rw[qj]at p2;have qe:=h.ay;rw[qj]at qe;have q2:=(qg.cell 2).trans p2;have HE:=Hx (show Sx.Bw T=Sx.uq T T.ay.length by unfold Sx.Bw;rw[qh]);have qt:=qg.lt;have Q2:=Hx q2;clear q2;have qf:gf<w.heap.size:=rG (gJ qe Kh);have HC:=Hx (ah qa (ah qe qh));clear h hV qg a0 a1 a2 a3 ra p0 p1 p2 p7 qj qa qe qh;generalize ES:T.ay.length=K at*;clear ES;go_enter func81,ntmps81;go_wp2;go_loopg [5,6,7,13] K (fun m bt _ _ it wr=>∃k:Nat,K-k=m/\k<=K/\it=vI (k:Int)/\bt=vI (iE (Sx.uq T k))/\Hid (Ext w wr));exact⟨0,rfl,yZ _,rfl,rfl,Hx (eR _)⟩;obtain⟨k,rfl,hk,rfl,rfl,EX⟩:=hrel;by_cases qo:k<K;{(have kN:(k:Int)<(K:Int):=by omega);have k0:(0:Int)<=(k:Int):=qO;obtain⟨neg,A,n,c,A',n',c',⟨i0,i1,i2⟩,_,hR⟩:=HC.o.1.cell (aZ (show k<T.goal.co.length by rw[HC.o.2.2];exact qo));have i0:=aA EX.o i0;have i1:=aA EX.o i1;have i2:=aA EX.o i2;have R:=Hx (hR.K EX.o);have HS:=Hx (jzl1 T k);generalize hbo:iE (Sx.uq T k)=bo at*;have qm:=Hx hbo;clear hbo;have q3:=aA EX.o q3;clear hR;(go_upto_region 5 with fail);obtain⟨bx,e0⟩:=aU wr #[.bool neg,.s A n c,.s A' n' c'] 33;generalize wr.alloc (.cells #[.bool neg,.s A n c,.s A' n' c'] 33)=W at*;have y0:=XW.cell _ _ _ bx.lt (bx.cell 0);have y1:=XW.cell _ _ _ bx.lt (bx.cell 1);have y2:=XW.cell _ _ _ bx.lt (bx.cell 2);have EW:=Hx (EX.o.tr e0);have E0:=Hx e0;clear e0 bx i0 i1 i2 EX;go_cut [41] (fun s wx=>s=.bool (iF T k)/\Ext w wx);(case first=>by_cases hx:Sx.at_ T.goal.co k<0;{have hs:decide (aB (Sx.at_ T.goal.co k)<0)=true:=yO ((jzdn _).2 hx);(cases hE:Sx.uq T k with|none=>have HB:=Hx (show iF T k=true by unfold iF;rw[hE,yO hx];rfl);have qz:decide ((-1:Int)<0)=true:=rfl;have qx:bo= -1:=(by rw[<-qm.o,hE];rfl);subst qx;clear hx hE;refine cA qK qK ?_;(repeat (go_big_quiet_step ((go_at_call 46;exact Calls.ru (dA neg A n c A' n' c' (Sx.at_ T.goal.co k) _ (R.o.K (E0.o.tr (XW.ext _))))))));refine wpQuiet_nil ?_;rintro _ ⟨x,rfl⟩;go_wp2;go_meet;exact⟨by rw[HB.o],EW.o.tr x.ext⟩|some b=>have qT:b<k:=(Sx.Aq T k hE).1;have HB:=Hx (show decide (((Sx.cu T.ay k:Nat):Int)<((Sx.cu T.ay b:Nat):Int))=iF T k by unfold iF;rw[hE,yO hx,IX];simp);have qC:bo=(b:Int):=(by rw[<-qm.o,hE];rfl);subst qC;have qz:decide ((b:Int)<0)=false:=yP qO;have bN:(b:Int)<(K:Int):=qO;have b0:(0:Int)<=(b:Int):=qO;have z2:=XW.cell _ _ _ (yL qt EW.o.size) (aA EW.o Q2.o);have zk:=XW.cell _ _ _ (yL qf EW.o.size) (aA EW.o (gJ HC.o.2.1 qo));have zb:=XW.cell _ _ _ (yL qf EW.o.size) (aA EW.o (gJ HC.o.2.1 (show b<K by omega)));clear hx hE;refine cA qK qK ?_;(repeat (go_big_quiet_step ((go_at_call 46;exact Calls.ru (dA neg A n c A' n' c' (Sx.at_ T.goal.co k) _ (R.o.K (E0.o.tr (XW.ext _))))))));refine wpQuiet_nil ?_;rintro _ ⟨x,rfl⟩;go_wp2;go_meet;refine⟨?_,EW.o.tr x.ext⟩;rw[<-HB.o];first|rfl|simp)};have hs:decide (aB (Sx.at_ T.goal.co k)<0)=false:=yP (fun h=>hx ((jzdn _).1 h));have HB:=Hx (show iF T k=false by unfold iF;rw[yP hx];rfl);refine cA qK qK ?_;(repeat (go_big_quiet_step ((go_at_call 46;exact Calls.ru (dA neg A n c A' n' c' (Sx.at_ T.goal.co k) _ (R.o.K (E0.o.tr (XW.ext _))))))));refine wpQuiet_nil ?_;rintro _ ⟨x,rfl⟩;go_wp2;go_meet;exact⟨by rw[HB.o],EW.o.tr x.ext⟩);obtain⟨rfl,qn⟩:=hcut;have qp:=Hx qn;clear qn y0 y1 y2;have qi:=HS.o;generalize iF T k=cond at*;cases cond;(case false=>have qk:=Hx (show Sx.uq T (k+1)=Sx.uq T k by rw[qi];rfl);clear qi;go_wp2;go_roundg (K-(k+1));exact⟨k+1,rfl,qO,by go_num,by rw[qk.o,qm.o],qp⟩;omega);have qk:=Hx (show Sx.uq T (k+1)=some k by rw[qi];rfl);clear qi;go_wp2;go_roundg (K-(k+1));exact⟨k+1,rfl,qO,by go_num,by rw[qk.o];rfl,qp⟩;omega};have qw:k=K:=qO;subst qw;have qA:Hid (Sx.uq T k=Sx.Bw T):=Hx (HE.o.symm);go_wp2;go_ret;exact⟨by rw[<-qA.o];rfl,EX.o⟩
def OQ.pushed{W w':World}{B:Nat}{v v':Value}{qs:LQ}{css:List (List Value)}(h1:css.length=qs.length)(h2:∀cs∈css,cs.length=3)(hown:W.ownsRow B 33 3 v qs.length css.flatten)
  (h4:∀(i:Nat) (q:Rat),qs[i]?=some q->∃cs,css[i]?=some cs/\QR W cs q) {neg:Bool} {A} {n c:Nat} {A'} {n' c':Nat} {q:Rat} (hq:aC W neg A n c A' n' c' q)
  (own':w'.ownsRow B 33 3 v' (qs.length+1) (css.flatten++[.bool neg,.s A n c,.s A' n' c'])) (grow:W.grownBy w' v.ownBlock):OQ QR 33 w' B v' (qs++[q]):=by
 have k:fu (fun b=>v.ownBlock=some b) W w':=eG grow fun g e=>e;have hn:oh (fun b=>v.ownBlock=some b) W 196:=fun _ hb=>bQ hown hb qD;refine⟨css++[[.bool neg,.s A n c,.s A' n' c']],by simp[h1],fun cs hc=>?_,by rw[List.flatten_append,yQ];simpa using own',fun i p hi=>?_⟩;{(rcases xY.1 hc with hc|hc);{exact h2 cs hc};rw[xD.1 hc];rfl};by_cases e:i<qs.length;{rw[yR e]at hi;obtain⟨cs,k1,k2⟩:=h4 i p hi;exact⟨cs,by rw[yR qO];exact k1,k.qr hn k2⟩};(have hl:=(yH.1 hi).1;rw[yQ]at hl;have hl:i<qs.length+1:=hl;have e2:i=qs.length:=qO;subst e2;rw[yS qO,Nat.sub_self]at hi;injection hi with hi);subst hi;exact⟨_,by rw[yS qO,h1,Nat.sub_self];rfl,neg,A,n,c,A',n',c',rfl,k.oz hn hq⟩
def gK(T:Sx.Tb)(vals X:LQ)(base:Rat)(js:LN)(n:Nat):Rat:=Sx.uy T vals X base (js.take n)
def jzdo(T:Sx.Tb)(vals X:LQ)(base:Rat)(js:LN){n j:Nat}(h:js[n]?=some j):gK T vals X base js (n+1)=gK T vals X base js n+Sx.at_ X j*Sx.at_ vals (Sx.cu T.ay j):=by
 unfold gK;rw[Dj,h];exact Sx.Ei T vals X base (js.take n) j
def wK{T:Sx.Tb}{vals X:LQ}{base:Rat}{js:LN}{P:Nat}(hX:∀q∈X,dx q P)(hv:∀q∈vals,dx q P)(hb:dx base P)(h0:∀j∈js,j<X.length/\Sx.cu T.ay j<vals.length):∀n,n<=js.length->dx (gK T vals X base js n) (P+n*(2*P+1))
 |0,_=>by
  have:gK T vals X base js 0=base:=rfl;rw[this];exact hb.mono qO
 |n+1,hn=>by
  have hj:js[n]?=some js[n]:=yG qO;rw[jzdo T vals X base js hj];obtain⟨k1,k2⟩:=h0 js[n] (xR qO);have h1:=(hX _ (yJ (aZ k1))).mul (hv _ (yJ (aZ k2)));have h2:=(wK hX hv hb h0 n qO).add h1;refine h2.mono ?_;have e:(n+1)*(2*P+1)=n*(2*P+1)+(2*P+1):=Nat.succ_mul _ _;rw[e];generalize n*(2*P+1)=y at*;omega
def jzdp{w}{A}{l:LN}(h:Rd w A (ints l)){k x:Nat}(hx:l[k]?=some x):∃b o:Nat,A=some (aD b o)/\b<w.heap.size/\w.cell? (aD b (o+k))=some (vI (x:Int)):=by
 have hk:=(yH.1 hx).1;obtain⟨b,o,e,qa,hc⟩:=h (by intro e;have h1:=bX l;rw[e]at h1;have h1:0=l.length:=h1;omega);refine⟨b,o,e,qa,?_⟩;rw[hc k (by rw[bX];omega)];unfold ints;rw[yW,hx];rfl
def jzdq(w:World)(B b o:Nat)(tr:TypeId)(cs:Array Value)(V:Value)(X:LQ)(s:Rat)(e:Ending)(w':World):Prop:=
 ∃g' c',e=.returned (.tuple #[])/\OQ QR 33 w' B (.s (sA g') (X.length+1) c') (X++[s])/\ak w' b tr (cs.setIfInBounds o (.s (sA g') (X.length+1) c'))/\
  fu (fun x=>x=b\/V.ownBlock=some x) w w'/\(some g'=V.ownBlock\/w.heap.size<=g')
def jzdr(T:Sx.Tb)(w:World)(B b o p gvb gl gsb gtb P m csl:Nat)SA(tr:TypeId)(cs:Array Value)(V:Value)(X qe:LQ)(js:LN)(basic:Int)(base:Rat)
  (hB:B<=w.heap.size) (hb:ak w b tr cs) (va:cs[o]?=some V) (hX:OQ QR 33 w B V X) (htr:tr≠33) (htr2:tr≠196)
  (qV:ak w gvb 35 #[.s (sA gl) m m]) (qo:QB w gl qe) (hvl:qe.length=m)
  (vd:ak w gsb 42 #[.s SA js.length csl]) (vk:Rd w SA (ints js)) (q4:ak w gtb 80 #[.pointer (sA p)])
  (vh:∀j∈js,∃gf K cf,w.C p 2 (.s (sA gf) K cf)/\j<K/\w.C gf j (vI (Sx.cu T.ay j:Nat)))
  (qA:∀j∈js,j<X.length/\Sx.cu T.ay j<m) (hbase:(∃i:Nat,basic=(i:Int)/\i<m/\base=Sx.at_ qe i)\/(¬(0<=basic/\basic<(m:Int))/\base=0))
  (hm:m<=1000000) (qI:∀q∈X,dx q P) (qx:∀q∈qe,dx q P) (hP:P<=10000) (hP1:1<=P) (hjl:js.length<=1000) (hXl:X.length<=1000000000000):
  Calls prog 136 #[.pointer (some (aD b o)),vI basic,.pointer (sA gvb),.pointer (sA gsb),.pointer (sA gtb)] w (jzdq w B b o tr cs V X (Sx.uy T qe X base js)):=by
 have HB:=Hx (ah hb (ah va (ah hX (ah qV (ah qo (ah vd (ah vk q4)))))));have HJ:=Hx (ah vh qA);have SZ:=Hx (show∀n,n<=js.length->dx (gK T qe X base js n) 30000000 from fun n hn=>by
  have q0:dx base P:=by
   rcases hbase with⟨i,_,h2,h3⟩|⟨_,h3⟩
   ·rw[h3];exact qx _ (yJ (aZ qO))
   rw[h3];exact(show dx 0 1 from⟨qD,qD⟩).mono hP1
  refine(wK qI qx q0 (fun j hj=>⟨(qA j hj).1,by rw[hvl];exact(qA j hj).2⟩) n hn).mono ?_;have:n*(2*P+1)<=1000*20001:=DK qO qO;omega)
 have HS:=Hx (ah qI qx);have qw:=Hx hvl;have i1:w.cell? (aD gvb 0)=some (.s (sA gl) m m):=qV.cell 0;have B0:=Hx (eN w 33 rV);have X0:=Hx ((eR w).alloc (.cells rV 33));have i1:=aA X0.o i1
 go_enter func136,ntmps136
 by_cases qz:0<=basic
 case' pos=>have qC:decide ((0:Int)<=basic)=true:=yO qz
 case' neg=>have qC:decide ((0:Int)<=basic)=false:=yP qz
 all_goals
  go_upto_if 17 with fail
  go_cut [] (fun wx=>∃ns S1 ls qg qf qh qa,Hid (ak wx w.heap.size 33 #[.bool ns,.s S1 ls qg,.s qf qh qa]/\aC wx ns S1 ls qg qf qh qa base/\Ext w wx))
  case first=>
   rcases hbase with⟨i,rfl,him,hbe⟩|⟨hn,hbe⟩
   ·skip
    have h1:decide ((i:Int)<(m:Int))=true:=yO qO;have iN:(i:Int)<(m:Int):=qO;have i0:(0:Int)<=(i:Int):=by omega
    first
    |(exfalso;omega)
    |(obtain⟨ny,Y1,my,fy,vi,q9,q3,⟨s0,s1,s2⟩,_,hy⟩:=HB.o.2.2.2.2.1.at_ (aZ (show i<qe.length by rw[qw.o];exact him))
      obtain⟨⟨p0,p1,p2⟩,f0,f1,f2⟩:=B0.o.t3;obtain⟨b2,e2⟩:=aU w #[.bool ny,.s Y1 my fy,.s vi q9 q3] 33;have RF:=Hx (ah b2 (ah (hy.K e2) e2));have ve:=Hx hbe;have s0:=aA X0.o s0;have s1:=aA X0.o s1;have s2:=aA X0.o s2;go_wp2;go_meet;exact⟨_,_,_,_,_,_,_,Hx ⟨RF.o.1,by rw[ve.o];exact RF.o.2.1,RF.o.2.2⟩⟩)
   have qt:Hid (aC (w.alloc (.cells rV 33)) false none 0 0 none 0 0 base):=Hx (by rw[hbe];exact fE _)
   first
   |(have hq:0<=basic:=qz
     have h1:decide (basic<(m:Int))=false:=yP (fun h=>hn ⟨hq,h⟩);go_wp2;go_meet;exact⟨_,_,_,_,_,_,_,Hx ⟨B0.o,qt.o,X0.o⟩⟩)
   |(go_wp2
     go_meet;exact⟨_,_,_,_,_,_,_,Hx ⟨B0.o,qt.o,X0.o⟩⟩)
  obtain⟨vu,S0,vn,vo,vt,q5,vj,I0⟩:=hcut;generalize hgs:w.heap.size=Bq at*;have j0:wc.cell? (aD gsb 0)=some (.s SA js.length csl):=(HB.o.2.2.2.2.2.1.K I0.o.2.2).cell 0;go_wp2
  go_loopg [9,24] js.length (fun q _ it wx=>∃(n:Nat) (ns:Bool) (S1:OA) (ls qg:Nat) (qf:OA) (qh qa:Nat),js.length-n=q/\n<=js.length/\it=vI (n:Int)/\Hid (ak wx Bq 33 #[.bool ns,.s S1 ls qg,.s qf qh qa]/\aC wx ns S1 ls qg qf qh qa (gK T qe X base js n)/\Ext w wx))
  case atStart=>exact⟨0,_,_,_,_,_,_,_,rfl,yZ _,rfl,I0⟩
  obtain⟨n,ns,S1,ls,qg,qf,qh,qa,rfl,hn,rfl,I⟩:=hrel;by_cases vm:n<js.length
  ·have nN:(n:Int)<(js.length:Int):=by omega
   have n0:(0:Int)<=(n:Int):=qO;obtain⟨x,hx⟩:∃x,js[n]?=some x:=⟨_,yG vm⟩;have NX:=Hx (jzdo T qe X base js hx);obtain⟨sb,so,rfl,vq,jc⟩:=jzdp (HB.o.2.2.2.2.2.2.1.K I.o.2.2) hx;obtain⟨gf,K,cf,c1,vp,c2⟩:=HJ.o.1 x (yJ hx);obtain⟨qH,qB⟩:=HJ.o.2 x (yJ hx);obtain⟨gx,cx,qW,_,_⟩:=HB.o.2.2.1.form qO;have qU:=HB.o.2.2.1;rw[qW]at qU;obtain⟨nf,F1,f1,e1,qX,qY,qZ,⟨a0,a1,a2⟩,_,rf⟩:=qU.cell (aZ qH);obtain⟨nv,V1,v1,d1,qM,qT,qQ,⟨b0,b1,b2⟩,_,rv⟩:=HB.o.2.2.2.2.1.at_ (aZ (show Sx.cu T.ay x<qe.length by rw[qw.o];exact qB));have LE:=Hx (ah (I.o.2.1.lens (SZ.o n hn)) (ah (rf.lens (HS.o.1 _ (yJ (aZ qH)))) (rv.lens (HS.o.2 _ (yJ (aZ (show Sx.cu T.ay x<qe.length by rw[qw.o];exact qB)))))));generalize Sx.cu T.ay x=f at*;have qi:=Hx (show∀wx,Ext wr wx->wx.C Bq 0 (.bool ns)/\wx.C Bq 1 (.s S1 ls qg)/\wx.C Bq 2 (.s qf qh qa)/\wx.C b o (.s (sA gx) X.length cx)/\wx.C gx (x*3) (.bool nf)/\wx.C gx (x*3+1) (.s F1 f1 e1)/\wx.C gx (x*3+2) (.s qX qY qZ)/\wx.C gvb 0 (.s (sA gl) m m)/\wx.C gtb 0 (.pointer (sA p))/\wx.C p 2 (.s (sA gf) K cf)/\wx.C gf x (vI (f:Int))/\wx.C gl (f*3) (.bool nv)/\wx.C gl (f*3+1) (.s V1 v1 d1)/\wx.cell? (aD gl (f*3+2))=some (.s qM qT qQ)from fun wx hx=>
    ⟨(I.o.1.K hx).cell 0,(I.o.1.K hx).cell 1,(I.o.1.K hx).cell 2,aA (I.o.2.2.tr hx) ((HB.o.1.cell o).trans (by rw[HB.o.2.1,qW])),aA (I.o.2.2.tr hx) a0,aA (I.o.2.2.tr hx) a1,aA (I.o.2.2.tr hx) a2,(HB.o.2.2.2.1.K (I.o.2.2.tr hx)).cell 0,(HB.o.2.2.2.2.2.2.2.K (I.o.2.2.tr hx)).cell 0,aA (I.o.2.2.tr hx) c1,aA (I.o.2.2.tr hx) c2,aA (I.o.2.2.tr hx) b0,aA (I.o.2.2.tr hx) b1,aA (I.o.2.2.tr hx) b2⟩)
   have XD:Hid (Ext wr wr.drew):=Hx ((eR wr).drewN 1);have RF:=Hx (ah rf rv);have eu:=Hx (qi.o _ XD.o);have xX:(x:Int)<(X.length:Int):=qO;have xK:(x:Int)<(K:Int):=qO;have x0:(0:Int)<=(x:Int):=qO;have fm:(f:Int)<(m:Int):=qO;have f0:(0:Int)<=(f:Int):=by omega
   go_upto_region 6 with fail
   refine wX qi 20 ?_;refine wV 0 ?_;refine wP 1 ?_;refine wP 2 ?_;refine wP 3 ?_;refine wV 4 ?_;refine wP 5 ?_;refine wP 6 ?_;refine wV 7 ?_;refine wV 8 ?_;refine wV 9 ?_;refine wP 10 ?_;refine wP 11 ?_;refine wV 12 ?_;refine wP 13 ?_;refine wP 14 ?_;refine wV 15 ?_;refine wP 16 ?_;refine wV 17 ?_;refine wC 18 rfl (fun KK hK=>?_);go_simp;refine(gX nf nv F1 f1 e1 qX qY qZ V1 v1 d1 qM qT qQ (Sx.at_ X x) (Sx.at_ qe f) _ (RF.o.1.K (I.o.2.2.tr XD.o)) (RF.o.2.K (I.o.2.2.tr XD.o)) (by have:=LE.o;omega) (by have:=LE.o;omega) (by have:=LE.o;omega) (by have:=LE.o;omega)).mono ?_;rintro e w8 ⟨n8,A8,l8,c8,q2,vg,vl,rfl,h8,x8⟩;have E8:=Hx (XD.o.tr x8);have R8:=Hx h8;have L8:=Hx (h8.lens ((HS.o.1 _ (yJ (aZ qH))).mul (HS.o.2 _ (yJ (aZ (show f<qe.length by rw[qw.o];exact qB))))));refine hK.o _ _ (qi.o _ E8.o) ?_;have eu:=Hx (qi.o _ E8.o);refine wC 19 rfl (fun KK hK=>?_);go_simp;refine(lG ns n8 S1 ls qg qf qh qa A8 l8 c8 q2 vg vl (gK T qe X base js n) (Sx.at_ X x*Sx.at_ qe f) _ (I.o.2.1.K E8.o) R8.o (by have:=LE.o;omega) (by have:=LE.o;omega) (by have:=L8.o;omega) (by have:=L8.o;omega) (iX (Hq (Gv _) (Gv _)))).mono ?_;rintro e w9 ⟨n9,A9,l9,c9,q8,vc,q1,rfl,h9,x9⟩;have E9:=Hx (E8.o.tr x9);rw[<-NX.o]at h9;have B9:=Hx (I.o.1.K E9.o);obtain⟨r1,r2⟩:=eY (w:=w) h9 B9.o qO (I.o.2.2.tr E9.o);have RQ:=Hx (ah (((B9.o.sT 0 (.bool n9)).sT 1 (.s A9 l9 c9)).sT 2 (.s q8 vc q1)) (ah r1 r2));refine hK.o _ _ (qi.o _ E9.o) ?_;have eu:=Hx (qi.o _ E9.o);obtain⟨⟨t0,t1,t2⟩,z0,z1,z2⟩:=B9.o.t3;refine bE qK rfl qR (fun KK hK=>?_);go_simp;refine hK.o _ _ ?_;refine wpAny_done qK ?_ _;go_wp2
   go_roundg (js.length-(n+1))
   case measure=>omega
   exact⟨n+1,_,_,_,_,_,_,_,rfl,qO,by go_num,RQ⟩
  obtain rfl:n=js.length:=qO;have HE:=Hx (show gK T qe X base js js.length=Sx.uy T qe X base js by unfold gK;rw[yU (yX _)]);rw[HE.o]at I;obtain⟨css,h1,h2,qj,h4⟩:=HB.o.2.2.1.K QR.Dz I.o.2.2;have XB:Hid (Ext wr (wr.alloc (.cells #[.bool ns,.s S1 ls qg,.s qf qh qa] 33)).drew):=Hx (((eR wr).alloc _).drewN 1);have qJ:wr.drew.cell? (aD b o)=some V:=(aA I.o.2.2 ((HB.o.1.cell o).trans HB.o.2.1));have eu:Hid (wr.drew.cell? (aD b o)=some V/\wr.drew.cell? (aD Bq 0)=some (.bool ns)/\wr.drew.cell? (aD Bq 1)=some (.s S1 ls qg)/\wr.drew.cell? (aD Bq 2)=some (.s qf qh qa)):=Hx (⟨qJ,I.o.1.cell 0,I.o.1.cell 1,I.o.1.cell 2⟩)
  go_upto_region 8 with fail
  refine jh (fun w'=>w'.C b o V/\w'.C Bq 0 (.bool ns)/\w'.C Bq 1 (.s S1 ls qg)/\w'.C Bq 2 (.s qf qh qa)) 10 qK ?_;refine wP 0 ?_;refine wP 1 ?_;refine wP 2 ?_;refine wP 3 ?_;refine wV 4 ?_;refine wV 5 ?_;refine wC 6 rfl (fun KK hK=>?_);go_simp;have qp:=Hx (show(wr.alloc (.cells #[.bool ns,.s S1 ls qg,.s qf qh qa] 33)).drew.cell? (aD b o)=some V/\(wr.alloc (.cells #[.bool ns,.s S1 ls qg,.s qf qh qa] 33)).drew.cell? (aD Bq 0)=some (.bool ns)/\(wr.alloc (.cells #[.bool ns,.s S1 ls qg,.s qf qh qa] 33)).drew.cell? (aD Bq 1)=some (.s S1 ls qg)/\(wr.alloc (.cells #[.bool ns,.s S1 ls qg,.s qf qh qa] 33)).drew.cell? (aD Bq 2)=some (.s qf qh qa)from
   ⟨aA XB.o qJ,(I.o.1.K XB.o).cell 0,(I.o.1.K XB.o).cell 1,(I.o.1.K XB.o).cell 2⟩)
  refine hK.o _ _ qp.o ?_;have eu:=qp;have BW:Hid (ak (wr.alloc (.cells #[.bool ns,.s S1 ls qg,.s qf qh qa] 33)).drew wr.heap.size 33 #[.bool ns,.s S1 ls qg,.s qf qh qa]):=Hx (eN wr _ _);generalize (wr.alloc (.cells #[.bool ns,.s S1 ls qg,.s qf qh qa] 33)).drew=W6 at*;obtain⟨css,h1,h2,qj,h4⟩:=HB.o.2.2.1.K QR.Dz (I.o.2.2.tr XB.o);refine wC 7 rfl (fun KK hK=>?_);refine lT W6 35 33 _ 3 56 _ _ rfl underlying35 Tryz.Ja rfl qD B V X.length css.flatten qR qj [.bool ns,.s S1 ls qg,.s qf qh qa] rfl (by simp[Value.oneCell']) wr.heap.size qR BW.o (by unfold maxLen;omega) qO (by have:=(I.o.2.2.tr XB.o).size;omega) ?_;intro g7 c7 w7 qn qk qy;have k7:Hid (fu (fun x=>V.ownBlock=some x) W6 w7):=Hx (eG qk fun g e=>e);have NB:Hid (¬V.ownBlock=some b):=Hx (fun e=>bQ qj e (t:=tr) (fun h=>htr h.symm) _ _ (HB.o.1.K (I.o.2.2.tr XB.o)));have NS:=Hx (show¬V.ownBlock=some Bq from fun e=>by
   have h9:=(qj.lt Bq e).1;obtain⟨_,q7⟩:=HB.o.2.2.1.own;have:=(q7.lt Bq e).2;omega)
  have qm:=Hx (show w7.C b o V/\w7.C Bq 0 (.bool ns)/\w7.C Bq 1 (.s S1 ls qg)/\w7.cell? (aD Bq 2)=some (.s qf qh qa)from
   ⟨((k7.o.blk (HB.o.1.K (I.o.2.2.tr XB.o)) NB.o).cell o).trans HB.o.2.1,(k7.o.blk (I.o.1.K XB.o) NS.o).cell 0,(k7.o.blk (I.o.1.K XB.o) NS.o).cell 1,(k7.o.blk (I.o.1.K XB.o) NS.o).cell 2⟩)
  have q6:=Hx (OQ.pushed h1 h2 qj h4 (I.o.2.1.K XB.o) qn qk);have B7:=Hx (k7.o.blk (HB.o.1.K (I.o.2.2.tr XB.o)) NB.o);have N7:Hid (some g7=V.ownBlock\/w.heap.size<=g7):=Hx (qy.imp id fun e=>by have:=(I.o.2.2.tr XB.o).size;omega);have F7:Hid (fu (fun x=>V.ownBlock=some x) w w7):=Hx ((eE (I.o.2.2.tr XB.o)).tr k7.o fun x hx=>.inl hx);have HG:=Hx (show g7≠b from fun e=>by
   obtain⟨_,h9⟩:=aT qn (g:=g7) rfl;rw[e]at h9;exact htr (bI B7.o h9).2)
  refine hK.o _ _ qm.o ?_;have eu:=qm;have z0:w7.frozen? (aD b o)=false:=B7.o.frozen _;have t0:w7.cell? (aD b o)=some V:=qm.o.1;refine wP 8 ?_;refine wP 9 ?_;refine bE qK rfl qR (fun KK hK=>?_);go_simp;refine hK.o _ _ ?_;refine wpAny_done qK ?_ _;have qt:=Hx (show jzdq w B b o tr cs V X (Sx.uy T qe X base js) (.returned (.tuple #[])) (w7.setCell (aD b o) (.s (sA g7) (X.length+1) c7))from by
   have F8:fu (fun x=>x=b) w7 (w7.setCell (aD b o) (.s (sA g7) (X.length+1) c7)):=eG (aM w7 b o _) fun g e=>(by injection e with e;exact e.symm);refine⟨g7,c7,rfl,F8.oq (oh.one B7.o htr2) q6.o (fun g e hg=>HG.o (by have e:some g7=some g:=e;injection e with e;exact e.trans hg)),B7.o.sT o _,(F7.o.mono (S':=fun x=>x=b\/V.ownBlock=some x) fun x hx=>.inr hx).tr F8 fun x hx=>.inl (.inl hx),N7.o⟩)
  go_wp2
  go_end0
  exact qt.o
end Go.Proofs.YtfeeacaofjpkaaaGreatDoor
namespace Go.Proofs.YtfeeacaofjpkaaaGreatDoor
open Go.Proofs.Tryz
namespace Sx
def ls{α:Type}(f:α->Rat):List α->Rat
 | []=>0
 |a::l=>f a+ls f l
section
variable {α:Type}
def CY(f:α->Rat):∀l k:List α,ls f (l++k)=ls f l+ls f k
 | [],k=>by show ls f k=0+ls f k;grind
 |a::l,k=>by
  show f a+ls f (l++k)=f a+ls f l+ls f k;rw[CY f l k];grind
def kT{f g:α->Rat}:∀{l:List α},(∀a∈l,f a=g a)->ls f l=ls g l
 | [],_=>rfl
 |a::l,h=>by
  show f a+ls f l=g a+ls g l;rw[h a qS,kT fun b hb=>h b (by simp[hb])]
def jzds{f:α->Rat}{l:List α}(h:∀a∈l,f a=0):ls f l=0:=by
 (induction l with|nil=>rfl|cons a l ih=>show f a+ls f l=0;rw[h a qS,ih fun b hb=>h b (by simp[hb])];grind)
def rI{f g:α->Rat}:∀{l:List α},(∀a∈l,f a<=g a)->ls f l<=ls g l
 | [],_=>vC
 |a::l,h=>by
  show f a+ls f l<=g a+ls g l;have h1:=h a qS;have h2:=rI (l:=l) fun b hb=>h b (by simp[hb]);grind
def wL{f:α->Rat}:∀{l:List α},(∀a∈l,0<=f a)->0<=ls f l
 | [],_=>vC
 |a::l,h=>by
  show 0<=f a+ls f l;have h1:=h a qS;have h2:=wL (l:=l) fun b hb=>h b (by simp[hb]);grind
def jzdt(f g:α->Rat):∀l:List α,ls (fun a=>f a+g a) l=ls f l+ls g l
 | []=>by show(0:Rat)=0+0;grind
 |a::l=>by
  show f a+g a+ls _ l=f a+ls f l+(g a+ls g l);rw[jzdt f g l];grind
def oE(c:Rat)(f:α->Rat):∀l:List α,ls (fun a=>c*f a) l=c*ls f l
 | []=>by show(0:Rat)=c*0;grind
 |a::l=>by
  show c*f a+ls _ l=c*(f a+ls f l);rw[oE c f l];grind
def mO(n:Nat)(f:α->Nat->Rat):∀l:List α,ls (fun a=>sm n (f a)) l=sm n fun k=>ls (fun a=>f a k) l
 | []=>by
   show(0:Rat)=_;exact(ku n fun k _=>rfl).symm
 |a::l=>by
  show sm n (f a)+ls _ l=sm n fun k=>f a k+ls (fun a=>f a k) l;rw[mO n f l,u7]
def wM{β:Type}(f:α->Rat)(g:β->List α):∀l:List β,ls f (l.flatMap g)=ls (fun b=>ls f (g b)) l
 | []=>rfl
 |b::l=>by
  rw[xU,CY,wM f g l];rfl
def wN(f:Nat->Rat):∀n:Nat,ls f (List.range n)=sm n f
 |0=>rfl
 |n+1=>by
  rw[IY,CY,wN f n];show sm n f+(f n+0)=sm n f+f n;grind
end
def wO:∀(n:Nat) (f:Nat->Rat),sm (n+1) f=f 0+sm n fun k=>f (k+1)
 |0,f=>by show 0+f 0=f 0+0;grind
 |n+1,f=>by
  show sm (n+1) f+f (n+1)=f 0+((sm n fun k=>f (k+1))+f (n+1));rw[wO n f];grind
def DX:List (Nat×LN)->LQ->List ((Nat×LN)×Rat)
 |p::l,q::k=>(p,q)::DX l k
 |_,_=>[]
def wQ(F:Nat×LN->Rat->Rat)(d0:Nat×LN):∀(P:List (Nat×LN)) (fl:LQ),fl.length=P.length->ls (fun z=>F z.1 z.2) (DX P fl)=sm P.length fun k=>F (P[k]?.getD d0) (at_ fl k)
 | [],[],_=>rfl
 |p::P,q::fl,h=>by
  have h:fl.length+1=P.length+1:=h;show F p q+ls (fun z=>F z.1 z.2) (DX P fl)=sm (P.length+1) _;rw[wO,wQ F d0 P fl qO];rfl
def uz:∀(P:List (Nat×LN)) (fl:LQ),fl.length=P.length->(DX P fl).map (·.1)=P
 | [],[],_=>rfl
 |p::P,q::fl,h=>by
  have h:fl.length+1=P.length+1:=h;show p::(DX P fl).map (·.1)=_;rw[uz P fl qO]
def BI:∀(P:List (Nat×LN)) (fl:LQ) {z:(Nat×LN)×Rat},z∈DX P fl->z.1∈P/\z.2∈fl
 | [],_,_,h=>by cases h
 |_::_,[],_,h=>by cases h
 |p::P,q::fl,z,h=>by
  have h:z∈(p,q)::DX P fl:=h;rcases xZ.1 h with e|e
  ·rw[e];exact⟨qS,qS⟩
  ·have:=BI P fl e
   exact⟨by simp[this.1],by simp[this.2]⟩
def cut(d:Nat):Rat->List ((Nat×LN)×Rat)->List ((Nat×LN)×Rat)
 |_,[]=>[]
 |r,z::l=>if z.1.1=d then(if 0<(if r<z.2 then r else z.2)then [(z.1,if r<z.2 then r else z.2)]else [])++cut d (r-(if r<z.2 then r else z.2)) l else cut d r l
def uw{d:Nat}:∀{r:Rat} {l:List ((Nat×LN)×Rat)} {z:(Nat×LN)×Rat},z∈cut d r l->z.1.1=d/\0<z.2/\∃f,(z.1,f)∈l/\z.2<=f
 |_,[],_,h=>by cases h
 |r,y::l,z,h=>by
  unfold cut at h;by_cases hd:y.1.1=d
  ·rw[qE hd]at h
   rcases xY.1 h with h1|h1
   ·by_cases hp:0<(if r<y.2 then r else y.2)
    ·rw[qE hp]at h1
     have h1:=xD.1 h1;subst h1;refine⟨hd,hp,y.2,qS,?_⟩;show(if r<y.2 then r else y.2)<=y.2
     split <;> grind
    ·rw[qF hp]at h1
     cases h1
   ·obtain⟨a1,a2,f,a4,a5⟩:=uw h1
    exact⟨a1,a2,f,by simp[a4],a5⟩
  ·rw[qF hd]at h
   obtain⟨a1,a2,f,a4,a5⟩:=uw h;exact⟨a1,a2,f,by simp[a4],a5⟩
def Bf(d:Nat):∀(r:Rat) (l:List ((Nat×LN)×Rat)),((cut d r l).map (·.1)).Sublist (l.map (·.1))
 |_,[]=>List.Sublist.slnil
 |r,z::l=>by
  unfold cut;by_cases hd:z.1.1=d
  ·rw[qE hd,List.map_append]
   by_cases hp:0<(if r<z.2 then r else z.2)
   ·rw[qE hp];exact(Bf d _ l).cons_cons _
   ·rw[qF hp];exact(Bf d _ l).cons _
  ·rw[qF hd];exact(Bf d _ l).cons _
def wS(d:Nat):∀(r:Rat) (l:List ((Nat×LN)×Rat)),0<=r->(∀z∈l,0<=z.2)->r<=ls (fun z=>if z.1.1=d then z.2 else 0) l->ls (fun z=>z.2) (cut d r l)=r
 |r,[],h0,_,h=>by
  have h:r<=0:=h;show(0:Rat)=r;grind
 |r,z::l,h0,hz,h=>by
  have h:r<=(if z.1.1=d then z.2 else 0)+ls _ l:=h;have qa:=hz z qS;unfold cut
  split
  ·rename_i hd
   rw[qE hd]at h;rw[CY];have hr:0<=r-(if r<z.2 then r else z.2):=(by split <;> grind);have hl:∀z∈l,0<=z.2:=fun y hy=>hz y (by simp[hy]);have qe:0<=ls (fun z:(Nat×LN)×Rat=>if z.1.1=d then z.2 else 0) l:=wL fun y hy=>by
    split
    ·exact hl y hy
    ·exact vC
   rw[wS d _ l hr hl (by split <;> grind)];by_cases e:r<z.2
   ·rw[qE e]
    by_cases e2:0<r
    ·rw[qE e2];show r+0+_=_;grind
    ·rw[qF e2];show 0+_=_;grind
   ·rw[qF e]
    by_cases e2:0<z.2
    ·rw[qE e2];show z.2+0+_=_;grind
    ·rw[qF e2];show 0+_=_;grind
  ·rename_i hd
   rw[qF hd]at h;exact wS d r l h0 (fun y hy=>hz y (by simp[hy])) qG
def jzdu(d a:Nat):∀(r:Rat) (l:List ((Nat×LN)×Rat)),(∀z∈l,0<=z.2)->ls (fun z=>if a∈z.1.2 then z.2 else 0) (cut d r l)<=ls (fun z=>if z.1.1=d then(if a∈z.1.2 then z.2 else 0)else 0) l
 |r,[],_=>vC
 |r,z::l,hz=>by
  have qa:=hz z qS;have ih:=fun r=>jzdu d a r l fun y hy=>hz y (by simp[hy]);show ls _ (cut d r (z::l))<=(if z.1.1=d then(if a∈z.1.2 then z.2 else 0)else 0)+ls _ l;unfold cut;by_cases hd:z.1.1=d
  ·rw[qE hd,qE hd,CY]
   have ih:=ih (r-(if r<z.2 then r else z.2));have:ls (fun z:(Nat×LN)×Rat=>if a∈z.1.2 then z.2 else 0) (if 0<(if r<z.2 then r else z.2)then [(z.1,if r<z.2 then r else z.2)]else [])<=if a∈z.1.2 then z.2 else 0:=by
    by_cases e:0<(if r<z.2 then r else z.2)
    ·rw[qE e]
     show(if a∈z.1.2 then(if r<z.2 then r else z.2)else 0)+0<=_;by_cases ea:a∈z.1.2
     ·rw[qE ea,qE ea];split <;> grind
     rw[qF ea,qF ea];grind
    rw[qF e];show(0:Rat)<=_
    split <;> grind
   grind
  rw[qF hd,qF hd];have ih:=ih r;grind
structure Iu(L2 D:Nat)(am cap:Nat->Rat)(v:Rat)(Z:List ((Nat×LN)×Rat)):Prop where
 Bd:∀z∈Z,z.1.1<D
 pos:∀z∈Z,0<z.2
 dif:(Z.map (·.1)).Nodup
 sum:∀d,d<D->ls (fun z=>if z.1.1=d then z.2 else 0) Z=v*am d
 cap:∀a,a<L2->ls (fun z=>if a∈z.1.2 then z.2 else 0) Z<=cap a
def Iu.weak{L2 D:Nat}{am cap:Nat->Rat}{v:Rat}{Z:List ((Nat×LN)×Rat)}(h:Iu L2 D am cap v Z)(hD:0<D)(FQ:∀d,d<D->0<am d){pr ch:Nat->Rat}(hp:∀a,a<L2->0<=pr a)
  (hch:∀z∈Z,ch z.1.1<=sm L2 fun a=>if a∈z.1.2 then pr a else 0) (hn:1<=sm D fun d=>am d*ch d):v<=sm L2 fun a=>pr a*cap a:=by
 have hv:0<=v:=(by have h1:=h.sum 0 hD;have h2:=FQ 0 hD;have h3:0<=ls (fun z:(Nat×LN)×Rat=>if z.1.1=0 then z.2 else 0) Z:=wL fun z hz=>(by split;{exact vB (h.pos z hz)};exact vC);rw[h1]at h3;exact Dy.1 fun h4=>(by have:=Rat.mul_lt_mul_of_pos_right h4 h2;grind));have e1:v*(sm D fun d=>am d*ch d)=ls (fun z=>z.2*ch z.1.1) Z:=(by rw[<-eO];have:(sm D fun d=>v*(am d*ch d))=sm D fun d=>ls (fun z=>(if z.1.1=d then z.2 else 0)*ch d) Z:=au D fun d hd=>(by have e:=oE (ch d) (fun z:(Nat×LN)×Rat=>if z.1.1=d then z.2 else 0) Z;rw[h.sum d hd]at e;have e2:ls (fun z:(Nat×LN)×Rat=>(if z.1.1=d then z.2 else 0)*ch d) Z=ls (fun z=>ch d*(if z.1.1=d then z.2 else 0)) Z:=kT fun z _=>qG;rw[e2,e];grind);rw[this, <-mO];exact kT fun z hz=>(by rw[iy D (h.Bd z hz) fun d _ hd=>by rw[qF (fun e=>hd e.symm)];grind,qE rfl]));have e2:ls (fun z=>z.2*ch z.1.1) Z<=ls (fun z=>sm L2 fun a=>pr a*(if a∈z.1.2 then z.2 else 0)) Z:=rI fun z hz=>(by have h1:=yT (hch z hz) (vB (h.pos z hz));rw[<-eO]at h1;have:(sm L2 fun a=>z.2*(if a∈z.1.2 then pr a else 0))=sm L2 fun a=>pr a*(if a∈z.1.2 then z.2 else 0):=au L2 fun a _=>(by split <;> grind);rw[this]at h1;exact h1);have e3:ls (fun z=>sm L2 fun a=>pr a*(if a∈z.1.2 then z.2 else 0)) Z<=sm L2 fun a=>pr a*cap a:=(by rw[mO];refine Cw L2 fun a ha=>?_;rw[oE];exact yT (h.cap a ha) (hp a ha));have e4:v*1<=v*(sm D fun d=>am d*ch d):=yT hn hv;grind
def uj(D:Nat)(am:Nat->Rat)(v:Rat)(Z:List ((Nat×LN)×Rat)):List ((Nat×LN)×Rat):=(List.range D).flatMap fun d=>cut d (v*am d) Z
def jzdv{D:Nat}{am:Nat->Rat}{v:Rat}{Z:List ((Nat×LN)×Rat)}(h:(Z.map (·.1)).Nodup):((uj D am v Z).map (·.1)).Nodup:=by
 unfold uj;(induction D with|zero=>exact List.nodup_nil|succ D ih=>rw[IY,List.flatMap_append,List.map_append,List.nodup_append];refine⟨ih,?_,fun x hx y hy=>?_⟩;{simp only[xU,List.flatMap_nil,List.append_nil];exact(Bf D _ Z).nodup h};obtain⟨z,hz,rfl⟩:=Bv.1 hx;obtain⟨z',qa,rfl⟩:=Bv.1 hy;simp only[xU,List.flatMap_nil,List.append_nil]at qa;obtain⟨d,hd,hz⟩:=Hl.1 hz;have h1:=(uw hz).1;have h2:=(uw qa).1;have h3:=vX.1 hd;intro e;rw[e]at h1;omega)
def jzl3{L2 D:Nat}{am cap:Nat->Rat}{v:Rat}{Z:List ((Nat×LN)×Rat)}(hz:∀z∈Z,0<=z.2)(hd:(Z.map (·.1)).Nodup)(hv:∀d,d<D->0<=v*am d)
  (hs:∀d,d<D->v*am d<=ls (fun z=>if z.1.1=d then z.2 else 0) Z) (hc:∀a,a<L2->ls (fun z=>if a∈z.1.2 then z.2 else 0) Z<=cap a):Iu L2 D am cap v (uj D am v Z):=by
 refine⟨fun z h=>?_,fun z h=>?_,jzdv hd,fun d h=>?_,fun a h=>?_⟩;{obtain⟨d,h1,h2⟩:=Hl.1 h;rw[(uw h2).1];exact vX.1 h1};{obtain⟨d,h1,h2⟩:=Hl.1 h;exact(uw h2).2.1};{unfold uj;rw[wM,wN,iy D h fun k hk hkd=>jzds fun z hz2=>by rw[qF];rw[(uw hz2).1];exact hkd];refine Eq.trans ?_ (wS d (v*am d) Z (hv d h) hz (hs d h));refine kT fun z hz2=>?_;rw[qE (uw hz2).1]};refine Dv ?_ (hc a h);unfold uj;rw[wM,wN];refine Dv (Cw D fun d _=>jzdu d a _ Z hz) ?_;rw[<-mO];refine rI fun z hz2=>?_;by_cases e:z.1.1<D;{rw[iy D e fun k _ hk=>qF (fun h=>hk h.symm),qE rfl];exact vC};rw[ku D fun k hk=>qF qO];split;{exact hz z hz2};exact vC
end Sx
namespace Sx
def Bo(T:Tb)(J:Nat):LQ:=(List.range T.rows.length).map fun i=>sm J fun j=>if cu T.ay j=i then at_ T.goal.co j else 0
def Ba(T:Tb):LQ:=Bo T T.ay.length
def Bn(T:Tb)(I:Nat):LQ:=(List.range T.iq).map fun k=>sm I fun l=>if cu T.bn l=T.rows.length+k then(T.row l).re else 0
def Cq(T:Tb):LQ:=Bn T T.rows.length
def Af(T:Tb)(J:Nat):(Bo T J).length=T.rows.length:=by unfold Bo;simp
def Ae(T:Tb)(I:Nat):(Bn T I).length=T.iq:=by unfold Bn;simp
def fU(n:Nat)(f:Nat->Rat)(k:Nat):((List.range n).map f)[k]?=if k<n then some (f k)else none:=by
 by_cases h:k<n;{rw[qE h,yW,xJ h];rfl};rw[qF h];exact yI (by simp;omega)
def GX(T:Tb):Bo T 0=List.replicate T.rows.length 0:=by
 apply uK;intro k;unfold Bo;rw[fU,xB];rfl
def GU(T:Tb):Bn T 0=List.replicate T.iq 0:=by
 apply uK;intro k;unfold Bn;rw[fU,xB];rfl
def GY(T:Tb){J:Nat}(h:T.rows.length<=cu T.ay J):Bo T (J+1)=Bo T J:=by
 apply uK;intro k;unfold Bo;rw[fU,fU];by_cases hk:k<T.rows.length;{rw[qE hk,qE hk];congr 1;show sm J _+(if cu T.ay J=k then _ else 0)=_;rw[qF qO];grind};rw[qF hk,qF hk]
def IL(T:Tb){J:Nat}(_h:cu T.ay J<T.rows.length)(hi:∀j,j<J->cu T.ay j≠cu T.ay J):Bo T (J+1)=(Bo T J).set (cu T.ay J) (at_ T.goal.co J):=by
 apply uK;intro k;by_cases hk:k<T.rows.length;{by_cases e:k=cu T.ay J;{subst e;rw[yM (by rw[Af];exact hk)];unfold Bo;rw[fU,qE hk];congr 1;show sm J _+(if cu T.ay J=cu T.ay J then _ else 0)=_;rw[qE rfl,ku J fun j hj=>qF (hi j hj)];grind};rw[vN (fun e2=>e e2.symm)];unfold Bo;rw[fU,fU,qE hk,qE hk];congr 1;show sm J _+(if cu T.ay J=k then _ else 0)=_;rw[qF (fun e2=>e e2.symm)];grind};rw[yI (by rw[Af];omega),yI (by rw[yV,Af];omega)]
def GV(T:Tb){I:Nat}(h:cu T.bn I<T.rows.length):Bn T (I+1)=Bn T I:=by
 apply uK;intro k;unfold Bn;rw[fU,fU];by_cases hk:k<T.iq;{rw[qE hk,qE hk];congr 1;show sm I _+(if cu T.bn I=T.rows.length+k then _ else 0)=_;rw[qF qO];grind};rw[qF hk,qF hk]
def IK(T:Tb){I:Nat}(h:T.rows.length<=cu T.bn I)(hi:∀j,j<I->cu T.bn j≠cu T.bn I):Bn T (I+1)=(Bn T I).set (cu T.bn I-T.rows.length) (T.row I).re:=by
 apply uK;intro k;by_cases hk:k<T.iq;{by_cases e:k=cu T.bn I-T.rows.length;{subst e;rw[yM (by rw[Ae];exact hk)];unfold Bn;rw[fU,qE hk];congr 1;show sm I _+(if cu T.bn I=_ then _ else 0)=_;rw[qE qO,ku I fun j hj=>qF (fun e2=>hi j hj qO)];grind};rw[vN (fun e2=>e e2.symm)];unfold Bn;rw[fU,fU,qE hk,qE hk];congr 1;show sm I _+(if cu T.bn I=_ then _ else 0)=_;rw[qF qO];grind};rw[yI (by rw[Ae];omega),yI (by rw[yV,Ae];omega)]
def jzdw{T:Tb}{m nv:Nat}{M:Nat->Nat->Rat}(h:Gz T m nv M){i:Nat}(hi:i<m):at_ (Ba T) i=M m i:=by
 (unfold Ba Bo;rw[h.rl,rE m _ hi];have hf:=h.fl;rcases h.all (show i<nv by omega)with⟨l,hl,e⟩|⟨j,hj,e⟩);{rw[ku _ fun k hk=>qF (fun e2=>h.fb k l hk hl (by rw[e2,e]))];have:=h.di.unit l hl m (yX m);rw[e,qF qO]at this;exact this.symm};rw[iy _ hj fun k hk hkj=>qF (fun e2=>hkj (h.fi k j hk hj (by rw[e2,e]))),qE e,h.go j hj,e]
def wW{T:Tb}{m nv:Nat}{M:Nat->Nat->Rat}(h:Gz T m nv M){k:Nat}(hk:k<T.iq):at_ (Cq T) k=FE T m nv M (m+k):=by
 unfold Cq Bn FE;rw[rE _ _ hk,h.rl];exact au m fun l hl=>by rw[h.re l hl]
section
variable {L2 D:Nat} {am cap:Nat->Rat} {P:List (Nat×List Nat)} {T:Tb}
def tq(T:Tb)(P:List (Nat×LN)):List ((Nat×LN)×Rat):=DX P ((Cq T).drop 1)
def BH.iq(h:BH L2 D am cap T P):T.iq=P.length+1/\T.rows.length=L2+D:=by
 obtain⟨M,h⟩:=h;have h1:=h.iq;have h2:=h.rep.fl;exact⟨qO,h.rep.rl⟩
def EK(l:LQ)(n k:Nat):at_ (l.drop n) k=at_ l (n+k):=by unfold at_;rw[List.getElem?_drop]
def BH.BQ(h:BH L2 D am cap T P):((Cq T).drop 1).length=P.length:=by
 rw[List.length_drop];unfold Cq;rw[Ae,h.iq.1];omega
def CV:∀(P:List (Nat×LN)) (fl:LQ),fl.length=P.length->∀(k:Nat) {p:Nat×LN} {f:Rat},(DX P fl)[k]?=some (p,f)->at_ fl k=f
 | [],_,_,_,_,_,h=>by cases h
 |p::P,q::fl,hl,k,p',f,h=>by
  have hl:fl.length+1=P.length+1:=hl;cases k with
  |zero=>
   have h:some (p,q)=some (p',f):=h;injection h with h
   injection h with _ h
  |succ k=>exact CV P fl qO k h
structure Best(L2 D:Nat)(am cap:Nat->Rat)(T:Tb)(P:List (Nat×LN)):Prop where
 adm:Iu L2 D am cap T.goal.re (uj D am T.goal.re (tq T P))
 pos:∀i,i<L2+D->0<=at_ (Ba T) i
 worth:(sm L2 fun a=>at_ (Ba T) a*cap a)=T.goal.re
 need:1<=sm D fun d=>am d*at_ (Ba T) (L2+d)
 path:∀p∈P,at_ (Ba T) (L2+p.1)<=sm L2 fun a=>if a∈p.2 then at_ (Ba T) a else 0
 vnn:0<=T.goal.re
 fnn:∀z∈tq T P,0<=z.2
def BH.best(h:BH L2 D am cap T P)(he:Bw T=none)(hD:0<D)(FQ:∀d,d<D->0<am d)(hd:P.Nodup)(hP:∀p∈P,p.1<D):Best L2 D am cap T P:=by
 have qa:=h.BQ;have qf:=h.iq.1;obtain⟨M,h⟩:=h;have hg:∀v,v<L2+D+1+P.length->0<=M (L2+D) v:=fun v hv=>(by (rcases h.rep.all hv with⟨l,hl,e⟩|⟨j,hj,e⟩);{have:=h.rep.di.unit l hl (L2+D) (yX _);rw[e,qF qO]at this;rw[this];exact vC};have:=jzdb T _ he j (by rw[h.rep.gl];exact hj);rw[h.rep.go j hj,e]at this;exact this);obtain⟨o1,o2,o3⟩:=jzlx h hg;obtain⟨p1,p2,p3,p4⟩:=jzly h;have hp:∀i,i<L2+D->at_ (Ba T) i=M (L2+D) i:=fun i hi=>jzdw h.rep hi;have hv:T.goal.re=M (L2+D) (L2+D+1+P.length):=h.rep.gr;have hx:∀k,k<P.length->at_ ((Cq T).drop 1) k=FE T (L2+D) (L2+D+1+P.length) M (L2+D+1+k):=fun k hk=>(by rw[EK,wW h.rep qO, <-JK]);have qe:0<=T.goal.re:=(by rw[hv,p2];exact p1 _);have hz:∀z∈tq T P,0<=z.2:=fun z hz=>(by obtain⟨_,h2⟩:=BI P _ hz;obtain⟨k,hk,e⟩:=List.getElem_of_mem h2;have:at_ ((Cq T).drop 1) k=z.2:=(by unfold at_;rw[yG hk,e];rfl);rw[<-this,hx k qO];exact p1 _);refine⟨jzl3 hz (by unfold tq;rw[uz P _ qa];exact hd) (fun d hd=>vA qe (vB (FQ d hd))) (fun d hd=>?_) (fun a ha=>?_),fun i hi=>by rw[hp i hi];exact hg i qO,?_,?_,fun p hp2=>?_,qe,hz⟩;{unfold tq;rw[wQ (fun p f=>if p.1=d then f else 0) (0,[]) P _ qa,hv];refine Dv (p4 d hd) ?_;rw[au P.length fun k hk=>by rw[<-hx k hk]];exact vC};{unfold tq;rw[wQ (fun p f=>if a∈p.2 then f else 0) (0,[]) P _ qa];refine Dv ?_ (p3 a ha);rw[au P.length fun k hk=>by rw[hx k hk]];exact vC};{rw[hv, <-o1];exact au L2 fun a ha=>by rw[hp a qO]};{rw[au D fun d hd=>show am d*at_ (Ba T) (L2+d)=M (L2+D) (L2+d)*am d by rw[hp _ qO];grind];exact o2};(obtain⟨k,hk,e⟩:=List.getElem_of_mem hp2;have h1:=o3 k hk;rw[yG hk,e]at h1;have h1:=h1 (hP p hp2);rw[hp _ (by have:=hP p hp2;omega)];refine Dv h1 (Cw L2 fun a ha=>?_);show(if a∈p.2 then M (L2+D) a else 0)<=if a∈p.2 then at_ (Ba T) a else 0);rw[hp a qO];exact vC
def BO{α:Type}[DecidableEq α]:∀{l k:List α},l.Nodup->(∀a∈l,a∈k)->l.length<=k.length
 | [],_,_,_=>yZ _
 |a::l,k,h,hs=>by
  have h1:=J4.1 h;have h2:=BO (l:=l) (k:=k.erase a) h1.2 fun b hb=>by
   have qa:b≠a:=fun e=>h1.1 (e▸hb);exact(List.mem_erase_of_ne qa).2 (hs b (by simp[hb]))
  rw[List.length_erase_of_mem (hs a qS)]at h2;have:=List.length_pos_of_mem (hs a qS);show l.length+1<=k.length;omega
def Fj{D:Nat}{am:Nat->Rat}{v:Rat}{Z:List ((Nat×LN)×Rat)}{z:(Nat×LN)×Rat}(h:z∈uj D am v Z):0<z.2/\∃f,(z.1,f)∈Z/\z.2<=f:=by
 obtain⟨d,_,h2⟩:=Hl.1 h;exact⟨(uw h2).2.1,(uw h2).2.2⟩
def BH.few(h:BH L2 D am cap T P)(hd:P.Nodup):(uj D am T.goal.re (tq T P)).length<=L2+D:=by
 have qa:=h.BQ;have qf:=h.iq.1;obtain⟨M,h⟩:=h;have h1:=BO (l:=(uj D am T.goal.re (tq T P)).map (·.1)) (k:=(List.range (L2+D)).map fun l=>P[cu T.bn l-(L2+D+1)]?.getD (0,[])) (jzdv (by unfold tq;rw[uz P _ qa];exact hd)) fun p hp=>(by obtain⟨z,hz,rfl⟩:=Bv.1 hp;obtain⟨a1,f,a2,a3⟩:=Fj hz;have hf:0<f:=qG;obtain⟨k,hk,e⟩:=List.getElem_of_mem a2;have qe:k<P.length:=(by have:(tq T P).length=P.length:=(by rw[<-xV (f:=(·.1))];unfold tq;rw[uz P _ qa]);omega);have e1:P[k]=z.1:=(by have h2:((tq T P).map (·.1))[k]?=some z.1:=(by rw[yW,yG hk,e];rfl);unfold tq at h2;rw[uz P _ qa,yG qe]at h2;exact Option.some.inj h2);have e2:at_ ((Cq T).drop 1) k=f:=CV P _ qa k (show(tq T P)[k]?=some (z.1,f) by rw[yG hk,e]);rw[EK,wW h.rep qO]at e2;have e3:FE T (L2+D) (L2+D+1+P.length) M (L2+D+(1+k))≠0:=fun e4=>(by rw[e4]at e2;grind);refine Bv.2 ?_;refine Classical.byContradiction fun hn=>e3 (jzde fun l hl e4=>hn ⟨l,vX.2 hl,?_⟩);rw[e4,show L2+D+(1+k)-(L2+D+1)=k by omega,yG qe];exact e1);rw[xV,xV,Jt]at h1;exact h1
def Qn(Dn:Int)(N:Nat)(q:Rat):Prop:=sj (q*(Dn:Rat))/\Kk q N
def Qn.zero(Dn:Int){N:Nat}(hN:1<=N):Qn Dn N 0:=⟨by rw[Rat.zero_mul];exact sj.zero,by show 0<=N/\1<=N;omega⟩
def BH.sizes(h:BH L2 D am cap T P)(C:Nat)(hC:L2+D<=C)(hC1:1<=C)(hca:∀a,a<L2->sj (cap a)/\0<=cap a)(FQ:∀d,d<D->sj (am d)/\0<=am d)(hsc:sm L2 cap<=((C:Int):Rat))(hsa:sm D am<=((C:Int):Rat)):
  ∃Dn:Int,Dn≠0/\Dn.natAbs<=C^(L2+D)/\
   (∀i,i<T.rows.length->(∀q∈(T.row i).co,Qn Dn ((L2+D+1)*C^(L2+D)) q)/\Qn Dn ((L2+D+1)*C^(L2+D)) (T.row i).re)/\
   (∀q∈T.goal.co,Qn Dn ((L2+D+1)*C^(L2+D)) q)/\Qn Dn ((L2+D+1)*C^(L2+D)) T.goal.re/\
   (∀q∈Ba T,Qn Dn ((L2+D+1)*C^(L2+D)) q)/\∀q∈Cq T,Qn Dn ((L2+D+1)*C^(L2+D)) q:=by
 have qf:=h.iq.1;obtain⟨M,h,Dn,h0,h1,h2⟩:=h.size C hC hC1 hca FQ hsc hsa;have qa:∀{l:LQ} {q:Rat},q∈l->∃k,k<l.length/\at_ l k=q:=fun {l q} hq=>(by obtain⟨k,hk,e⟩:=List.getElem_of_mem hq;exact⟨k,hk,by unfold at_;rw[yG hk,e];rfl⟩);have qg:=h.rep.rl;have hN:1<=(L2+D+1)*C^(L2+D):=Nat.mul_pos qO (Du qO);refine⟨Dn,h0,h1,fun i hi=>⟨fun q hq=>?_,?_⟩,fun q hq=>?_,?_,fun q hq=>?_,fun q hq=>?_⟩;{obtain⟨k,hk,e⟩:=qa hq;rw[h.rep.cl i qO]at hk;rw[<-e,h.rep.co i k qO hk];exact h2 _ _ qO (Bg (h.rep.fv k hk))};{rw[h.rep.re i qO];exact h2 _ _ qO (yX _)};{obtain⟨k,hk,e⟩:=qa hq;rw[h.rep.gl]at hk;rw[<-e,h.rep.go k hk];exact h2 _ _ (yX _) (Bg (h.rep.fv k hk))};{rw[h.rep.gr];exact h2 _ _ (yX _) (yX _)};{obtain⟨k,hk,e⟩:=qa hq;have qe:k<L2+D:=(by unfold Ba at hk;rw[Af]at hk;omega);rw[<-e,jzdw h.rep qe];exact h2 _ _ (yX _) qO};obtain⟨k,hk,e⟩:=qa hq;have qe:k<T.iq:=(by unfold Cq at hk;rw[Ae]at hk;exact hk);rw[<-e,wW h.rep qe];by_cases hb:∃l,l<L2+D/\cu T.bn l=L2+D+k;{obtain⟨l,hl,e⟩:=hb;rw[<-e,h.x_bas hl];exact h2 _ _ qO (yX _)};rw[jzde fun l hl e=>hb ⟨l,hl,e⟩];exact Qn.zero Dn hN
def BH.shape(h:BH L2 D am cap T P):(∀i,i<T.rows.length->(T.row i).co.length=T.ay.length)/\T.goal.co.length=T.ay.length/\T.ay.length=P.length+1/\T.bn.length=L2+D/\
  (∀j k,j<T.ay.length->k<T.ay.length->cu T.ay j=cu T.ay k->j=k)/\(∀j,j<T.ay.length->cu T.ay j<L2+D+1+P.length)/\
  (∀j k,j<T.bn.length->k<T.bn.length->cu T.bn j=cu T.bn k->j=k)/\∀j,j<T.bn.length->cu T.bn j<L2+D+1+P.length:=by
 have hc:=h.iq;obtain⟨M,h⟩:=h;have hb:=h.rep.bl;exact⟨fun i hi=>h.rep.cl i qO,h.rep.gl,by have:=h.iq;omega,hb,h.rep.fi,h.rep.fv,fun j k hj hk e=>h.rep.di.inj qO qO e,fun j hj=>h.rep.di.lt j qO⟩
end
end Sx
open Go.RowKit
def mP(n:Nat)(hn:n<=1000000000000)w:
  (Instr.makeSlice 35 (vI (n:Int)) (vI (n:Int))).run prog w=.ok (.s (sA w.heap.size) n n) (w.alloc (.cells (madeCells rV (n*3)) 33)):=by
 obtain⟨i,hi,hz,hs,hb⟩:=info_parts Tryz.Ja;have qa:(i.bytes:Int)*(n:Int)<=281474976710656:=(by rw[hb];omega);have hr:=run_make (P:=prog) w 35 33 i _ underlying35 hi hz .i64 .i64 n n qO qO qa qO;simp only[xL]at hr;rw[hs]at hr;exact hr
def jzl4(B:Nat)(L:aQ)(T:Sx.Tb)w(h:aH w B L T)(qw:T.goal.co.length=T.ay.length)(hm0:0<L.m)(hm:L.m<=1000000)(Kh:0<T.ay.length)(hK:T.ay.length<=1000000000000)
  (qg:∀j k,j<T.ay.length->k<T.ay.length->Sx.cu T.ay j=Sx.cu T.ay k->j=k) (qx:∀j,j<T.ay.length->Sx.cu T.ay j<=1000000000000) (gv cv:Nat) (hV:L.V L.m=.s (sA gv) T.ay.length cv)
  (ni:Bool) AI (li ci:Nat) Fa (EN ET:Nat):
  Calls prog 84 #[.pointer (sA L.p),.agg #[.s (sA gv) T.ay.length cv,.bool ni,.s AI li ci,.s Fa EN ET]] w fun e w'=>∃gl,e=.returned (.s (sA gl) L.m L.m)/\QB w' gl (Sx.Ba T)/\w.heap.size<=gl/\Ext w w':=by
 have qa:=h.go;rw[hV]at qa;obtain⟨g,cr,qy,qQ⟩:=h.Cu hm0;obtain⟨cp,qp,qz,p0,p1,p2,p7⟩:=h.DV;obtain⟨gf,cf,qo,qH⟩:=h.Dl Kh;rw[qo]at p2;rw[qy]at p0;have qe:=h.ay;rw[qo]at qe;have q0:=(qp.cell 0).trans p0;have q2:=(qp.cell 2).trans p2;have qk:=h.rl;have HC:=Hx (ah qa (ah qe qw));have HI:=Hx (ah qg qx);have qA:=mP L.m qO;obtain⟨bx,e0⟩:=aU w #[.s (sA gv) T.ay.length cv,.bool ni,.s AI li ci,.s Fa EN ET] 145;have q0:=aA e0 q0;have q2:=aA e0 q2;clear h hV qp qz p0 p1 p2 p7 qy qo qa qe qw qg qx;have HE:Hid (Sx.Ba T=Sx.Bo T T.ay.length):=Hx (rfl);generalize ES:T.ay.length=K at*;clear ES;have qh:(w.alloc (.cells #[.s (sA gv) K cv,.bool ni,.s AI li ci,.s Fa EN ET] 145)).heap.size=w.heap.size+1:=qS;have qm:=QB.made (w.alloc (.cells #[.s (sA gv) K cv,.bool ni,.s AI li ci,.s Fa EN ET] 145)) L.m;rw[qh]at qm;have QM:=Hx qm;clear qm;have xb:=(eR (w.alloc (.cells #[.s (sA gv) K cv,.bool ni,.s AI li ci,.s Fa EN ET] 145))).alloc (.cells (madeCells rV (L.m*3)) 33);have q2:=aA xb q2;have BX:=Hx (bx.K xb);have E0:=Hx (e0.tr xb);have qj:w.heap.size<=w.heap.size+1:=Nat.le_succ _;have qn:w.heap.size≠w.heap.size+1:=qO;clear bx e0 xb;go_enter func84,ntmps84;(go_upto_region 2 with fail);generalize (w.alloc (.cells #[.s (sA gv) K cv,.bool ni,.s AI li ci,.s Fa EN ET] 145))=W1 at*;clear qh;have I0:Hid (QB (W1.alloc (.cells (madeCells rV (L.m*3)) 33)) (w.heap.size+1) (Sx.Bo T 0)/\ak (W1.alloc (.cells (madeCells rV (L.m*3)) 33)) w.heap.size 145 #[.s (sA gv) K cv,.bool ni,.s AI li ci,.s Fa EN ET]/\Ext w (W1.alloc (.cells (madeCells rV (L.m*3)) 33))):=Hx (⟨by rw[Sx.GX,qk];exact QM.o,BX.o,E0.o⟩);go_wp2;go_loopg [6,7,19] K (fun q _ _ it wr=>∃n:Nat,K-n=q/\n<=K/\it=vI (n:Int)/\Hid (QB wr (w.heap.size+1) (Sx.Bo T n)/\ak wr w.heap.size 145 #[.s (sA gv) K cv,.bool ni,.s AI li ci,.s Fa EN ET]/\Ext w wr));exact⟨0,rfl,yZ _,rfl,I0⟩;obtain⟨n,rfl,hn,rfl,I⟩:=hrel;clear q0 q2 qA;by_cases qi:n<K
 ·(have nK:(n:Int)<(K:Int):=by omega);have n0:(0:Int)<=(n:Int):=qO;have qf:=aA I.o.2.2 (gJ HC.o.2.1 qi);have qI:=HI.o.2 n (qi);have SK:=Hx (fun(h:T.rows.length<=Sx.cu T.ay n)=>Sx.GY T h);have SP:=Hx (fun(h:Sx.cu T.ay n<T.rows.length)=>Sx.IL T h fun j hj e=>by have:=HI.o.1 j n qO (qi) e;omega);generalize hx:Sx.cu T.ay n=x at*;have x0:decide ((0:Int)<=(x:Int))=true:=yO qO;by_cases qt:x<L.m
  ·have x1:decide ((x:Int)<(L.m:Int))=true:=yO qO
   have xm:(x:Int)<(L.m:Int):=qO;have xp:(0:Int)<=(x:Int):=qO;have b0:wr.cell? (aD w.heap.size 0)=some (.s (sA gv) K cv):=I.o.2.1.cell 0;obtain⟨neg,A,l,c,A',l',c',⟨i0,i1,i2⟩,_,hR⟩:=HC.o.1.cell (aZ (show n<T.goal.co.length by rw[HC.o.2.2];exact qi));have i0:=aA I.o.2.2 i0;have i1:=aA I.o.2.2 i1;have i2:=aA I.o.2.2 i2;have hR:=hR.K I.o.2.2;obtain⟨ny,Y1,my,fy,qJ,qM,qC,⟨s0,s1,s2⟩,⟨z0,z1,z2⟩,_⟩:=I.o.1.at_ (aZ (show x<(Sx.Bo T n).length by rw[Sx.Af,qk];exact qt));have I2:=Hx (show QB (((wr.setCell (aD (w.heap.size+1) (x*3)) (.bool neg)).setCell (aD (w.heap.size+1) (x*3+1)) (.s A l c)).setCell (aD (w.heap.size+1) (x*3+2)) (.s A' l' c')) (w.heap.size+1) (Sx.Bo T (n+1))/\
     ak (((wr.setCell (aD (w.heap.size+1) (x*3)) (.bool neg)).setCell (aD (w.heap.size+1) (x*3+1)) (.s A l c)).setCell (aD (w.heap.size+1) (x*3+2)) (.s A' l' c')) w.heap.size 145 #[.s (sA gv) K cv,.bool ni,.s AI li ci,.s Fa EN ET]/\
     Ext w (((wr.setCell (aD (w.heap.size+1) (x*3)) (.bool neg)).setCell (aD (w.heap.size+1) (x*3+1)) (.s A l c)).setCell (aD (w.heap.size+1) (x*3+2)) (.s A' l' c'))from
    ⟨by rw[SP.o (by rw[qk];exact qt)];exact I.o.1.put (by rw[Sx.Af,qk];exact qt) hR,((I.o.2.1.far (p:=(aD (w.heap.size+1) (x*3))) qn _).far (p:=(aD (w.heap.size+1) (x*3+1))) qn _).far (p:=(aD (w.heap.size+1) (x*3+2))) qn _,
     ((I.o.2.2.sT (p:=(aD (w.heap.size+1) (x*3))) qj _).sT (p:=(aD (w.heap.size+1) (x*3+1))) qj _).sT (p:=(aD (w.heap.size+1) (x*3+2))) qj _⟩)
   clear hR I SK SP hx;go_wp2;go_roundg (K-(n+1));exact⟨n+1,rfl,qO,by go_num,I2⟩;omega
  have x1:decide ((x:Int)<(L.m:Int))=false:=yP qO;have I2:Hid (QB wr (w.heap.size+1) (Sx.Bo T (n+1))/\ak wr w.heap.size 145 #[.s (sA gv) K cv,.bool ni,.s AI li ci,.s Fa EN ET]/\Ext w wr):=Hx (⟨by rw[SK.o qO];exact I.o.1,I.o.2⟩);clear I hx;go_wp2;go_roundg (K-(n+1));exact⟨n+1,rfl,qO,by go_num,I2⟩;omega
 obtain rfl:n=K:=qO;go_wp2;go_ret;exact⟨w.heap.size+1,rfl,by rw[HE.o];exact I.o.1,qj,I.o.2.2⟩
def jzdx(B:Nat)(L:aQ)(T:Sx.Tb)w(h:aH w B L T)(hgl:T.goal.co.length=T.ay.length)(hm0:0<L.m)(hm:L.m<=1000000)(Kh:0<T.ay.length)(hK:T.ay.length<=1000000000000)
  (hinj:∀j k,j<T.ay.length->k<T.ay.length->Sx.cu T.ay j=Sx.cu T.ay k->j=k) (hbd:∀j,j<T.ay.length->Sx.cu T.ay j<=1000000000000):
  Calls prog 32 #[.pointer (sA L.p)] w fun e w'=>∃gl,e=.returned (.s (sA gl) L.m L.m)/\QB w' gl (Sx.Ba T)/\w.heap.size<=gl/\Ext w w':=by
 obtain⟨gv,cv,hV,qj,qi⟩:=h.go.form qO;rw[hgl]at hV;obtain⟨cp,qa,qg,_⟩:=h.DV;obtain⟨ni,AI,li,ci,qf,qh,qe,a0,a1,a2,a3,ra⟩:=qg;rw[hV]at a0;have q3:=(qa.cell 3).trans a0;have q4:=(qa.cell (3+1)).trans a1;have q5:=(qa.cell (3+2)).trans a2;have q6:=(qa.cell (3+3)).trans a3;have PR:=Hx (jzl4 B L T w h hgl hm0 hm Kh hK hinj hbd gv cv hV ni AI li ci qf qh qe);clear h hgl hV qa a0 a1 a2 a3 ra hinj hbd;go_enter func32,ntmps32;go_wp2_with fail;refine PR.o.mono ?_;rintro e w2 ⟨gl,rfl,h1,h2,h3⟩;have F:=Hx (ah h1 (ah h2 h3));clear h1 h2 h3;go_wp2;go_ret;exact⟨gl,rfl,F.o⟩
def jzl5(B:Nat)(L:aQ)(T:Sx.Tb)w(h:aH w B L T):
  Calls prog 85 #[.pointer (sA L.p)] w (eM w T.goal.re):=by
 obtain⟨cp,qa,qh,_⟩:=h.DV;obtain⟨ni,AI,li,ci,qe,qg,qf,a0,a1,a2,a3,ra⟩:=qh;have q4:=(qa.cell (3+1)).trans a1;have q5:=(qa.cell (3+2)).trans a2;have q6:=(qa.cell (3+3)).trans a3;clear h qa a0 a1 a2 a3;obtain⟨bx,e0⟩:=aU w rV 33;have q4:=aA e0 q4;have q5:=aA e0 q5;have q6:=aA e0 q6;obtain⟨⟨p0,p1,p2⟩,f0,f1,f2⟩:=bx.t3;obtain⟨b2,e2⟩:=aU w #[.bool ni,.s AI li ci,.s qe qg qf] 33;have F:=Hx (ah (ra.K e2) e2);clear e0 ra;go_enter func85,ntmps85;go_wp2;exact bodyPost_ret (v:=.agg #[.bool ni,.s AI li ci,.s qe qg qf]) (by simp[results,results85,go_sem,b2.cell]) rfl (⟨ni,AI,li,ci,qe,qg,qf,rfl,F.o⟩)
def jzl6(B:Nat)(L:aQ)(T:Sx.Tb)w(h:aH w B L T)(hm0:0<L.m)(hm:L.m<=1000000)(hc:T.iq<=1000000000000)
  (qe:∀j k,j<L.m->k<L.m->Sx.cu T.bn j=Sx.cu T.bn k->j=k) (qt:∀j,j<L.m->Sx.cu T.bn j<L.m+T.iq) (qy:∀i,i<L.m->0<(T.row i).co.length):
  Calls prog 86 #[.pointer (sA L.p)] w fun e w'=>∃gl,e=.returned (.s (sA gl) T.iq T.iq)/\QB w' gl (Sx.Cq T)/\w.heap.size<=gl/\Ext w w':=by
 obtain⟨g,cr,qo,qU⟩:=h.Cu hm0;obtain⟨gb,cb,qn,qI⟩:=h.Dp hm0;obtain⟨cp,qi,qB,p0,p1,p2,p7⟩:=h.DV;rw[qn]at p1;rw[qo]at p0;have qa:=h.bn;rw[qn]at qa;have q0:=(qi.cell 0).trans p0;have q1:=(qi.cell 1).trans p1;have q7:=(qi.cell 7).trans p7;have qA:=h.rl;have HC:=Hx (ah qa (ah h qo));have HI:=Hx (ah qe (ah qt qy));have HE:=Hx (show Sx.Cq T=Sx.Bn T L.m by unfold Sx.Cq;rw[qA]);have qC:=mP T.iq hc;have QM:=Hx (QB.made w T.iq);have xb:=(eR w).alloc (.cells (madeCells rV (T.iq*3)) 33);have q1:=aA xb q1;have qp:=q0;have E0:=Hx xb;clear h qi qB p0 p1 p2 p7 qo qn qa qe qt qy xb;go_enter func86,ntmps86;(go_upto_region 2 with fail);have I0:Hid (QB (w.alloc (.cells (madeCells rV (T.iq*3)) 33)) w.heap.size (Sx.Bn T 0)/\Ext w (w.alloc (.cells (madeCells rV (T.iq*3)) 33))):=Hx (⟨by rw[Sx.GU];exact QM.o,E0.o⟩);have Q0:=Hx qp;clear q0 qp q7;go_wp2;go_loopg [4,5,16] L.m (fun q _ _ it wr=>∃n:Nat,L.m-n=q/\n<=L.m/\it=vI (n:Int)/\Hid (QB wr w.heap.size (Sx.Bn T n)/\Ext w wr));exact⟨0,rfl,yZ _,rfl,I0⟩;obtain⟨n,rfl,hn,rfl,I⟩:=hrel;clear q1 qC;by_cases qg:n<L.m
 ·(have nK:(n:Int)<(L.m:Int):=by omega);have n0:(0:Int)<=(n:Int):=qO;have qf:=aA I.o.2 (gJ HC.o.1 qg);have q0:=aA I.o.2 Q0.o;have qJ:=HI.o.2.1 n qg;have SK:=Hx (fun(h:Sx.cu T.bn n<T.rows.length)=>Sx.GV T h);have SP:=Hx (fun(h:T.rows.length<=Sx.cu T.bn n)=>Sx.IK T h fun j hj e=>by have:=HI.o.1 j n qO qg e;omega);generalize hx:Sx.cu T.bn n=x at*;by_cases qT:x<L.m;{have x1:decide ((L.m:Int)<=(x:Int))=false:=yP qO;have I2:Hid (QB wr w.heap.size (Sx.Bn T (n+1))/\Ext w wr):=Hx (⟨by rw[SK.o qO];exact I.o.1,I.o.2⟩);clear I hx;go_wp2;go_roundg (L.m-(n+1));exact⟨n+1,rfl,qO,by go_num,I2⟩;omega}
  obtain⟨y,rfl⟩:∃y,x=L.m+y:=⟨x-L.m,qO⟩;have x1:decide ((L.m:Int)<=((L.m+y:Nat):Int))=true:=yO qO;have qx:y<T.iq:=qO;have yN:(y:Int)<(T.iq:Int):=qO;have y0:(0:Int)<=(y:Int):=qO;have qz:IntKind.i64.wrap ((L.m:Int)+(y:Int)-(L.m:Int))=(y:Int):=(by rw[show(L.m:Int)+(y:Int)-(L.m:Int)=(y:Int) by omega,IntKind.wrap_i64];omega);obtain⟨ca,hb,nr,R1,m1,d1,qk,qj,qh,r0,r1,r2,r3,rr⟩:=HC.o.2.1.rwa qg HC.o.2.2;have k1:=aA I.o.2 ((hb.cell _).trans r1);have k2:=aA I.o.2 ((hb.cell _).trans r2);have k3:=aA I.o.2 ((hb.cell _).trans r3);obtain⟨ny,Y1,my,fy,qM,qQ,qH,⟨s0,s1,s2⟩,⟨z0,z1,z2⟩,_⟩:=I.o.1.at_ (aZ (show y<(Sx.Bn T n).length by rw[Sx.Ae];exact qx));have qm:w.heap.size<=w.heap.size:=yX _;have RR:=Hx (rr.K I.o.2);have qw:=Hx (show∀wx,Ext wr wx->QB (((wx.setCell (aD w.heap.size (y*3)) (.bool nr)).setCell (aD w.heap.size (y*3+1)) (.s R1 m1 d1)).setCell (aD w.heap.size (y*3+2)) (.s qk qj qh)) w.heap.size (Sx.Bn T (n+1))/\
    Ext w (((wx.setCell (aD w.heap.size (y*3)) (.bool nr)).setCell (aD w.heap.size (y*3+1)) (.s R1 m1 d1)).setCell (aD w.heap.size (y*3+2)) (.s qk qj qh))from fun wx hx2=>by
   have h1:=(I.o.1.K hx2).put (m:=y) (by rw[Sx.Ae];exact qx) (RR.o.K hx2);have h2:=SP.o qO;rw[show L.m+y-T.rows.length=y by omega]at h2;rw[h2];exact⟨h1,(((I.o.2.tr hx2).sT (p:=(aD w.heap.size (y*3))) qm _).sT (p:=(aD w.heap.size (y*3+1))) qm _).sT (p:=(aD w.heap.size (y*3+2))) qm _⟩)
  (clear rr hb r0 r1 r2 r3 hx;have XD:Hid (Ext wr wr.drew):=Hx ((eR wr).drewN 1);have eu:Hid (wr.drew.cell? (aD L.p 0)=some (.s (sA g) L.m cr)/\wr.drew.cell? (aD g (n*4+1))=some (.bool nr)/\wr.drew.cell? (aD g (n*4+2))=some (.s R1 m1 d1)/\wr.drew.cell? (aD g (n*4+3))=some (.s qk qj qh)):=Hx (⟨q0,k1,k2,k3⟩);go_wp2;refine jh (fun w'=>w'.C L.p 0 (.s (sA g) L.m cr)/\w'.C g (n*4+1) (.bool nr)/\w'.C g (n*4+2) (.s R1 m1 d1)/\w'.C g (n*4+3) (.s qk qj qh)) 17 qK ?_;refine wP 0 ?_;try simp only[qN]);refine wP 1 ?_;refine wP 2 ?_;refine wP 3 ?_;refine wP 4 ?_;refine wV 5 ?_;refine wP 6 ?_;refine wP 7 ?_;refine wP 8 ?_;refine wP 9 ?_;refine wP 10 ?_;refine wV 11 ?_;refine wP 12 ?_;refine wP 13 ?_;refine wP 14 ?_;refine wV 15 ?_;(refine wP 16 ?_;try simp only[qN]);refine bE qK rfl qR (fun KK hK=>?_);go_simp;refine hK.o _ _ ?_;clear hK KK;refine wpAny_done qK ?_ _;have I2:=Hx (qw.o _ XD.o);clear qw I;go_wp2;go_roundg (L.m-(n+1));exact⟨n+1,rfl,qO,by go_num,I2⟩;omega
 obtain rfl:n=L.m:=qO;go_wp2;go_ret;exact⟨w.heap.size,rfl,by rw[HE.o];exact I.o.1,yX _,I.o.2⟩
def Tryz.JM:(prog.info? 145).map (fun i=>(i.zero,i.size,i.bytes))=some (some (.agg #[zN,bF,zN,zN]),4,80):=by kernel_rfl
def Tryz.Cz:(prog.info? 3).map (fun i=>(i.zero,i.size,i.bytes))=some (some (vI 0),1,8):=by kernel_rfl
def EU(w:World)(B:Nat)(vr:Value)(l:LQ):Prop:=
 ∃css:List (List Value),css.length=l.length/\(∀cs∈css,cs.length=4)/\w.ownsRow B 145 4 vr l.length css.flatten/\∀i,i<l.length->∃cs,css[i]?=some cs/\Ic w cs zN (Sx.at_ l i)
def jzl7{w:World}{B n s:Nat}{e t:TypeId}{v:Value}{xs:List Value}(h:w.ownsRow B e s v n xs)(ht:e≠t):oh (fun b=>v.ownBlock=some b) w t:=fun _ hb=>bQ h hb ht
def EU.push{W w':World}{B:Nat}{vr:Value}{l:LQ}{css:List (List Value)}(h1:css.length=l.length)(h2:∀cs∈css,cs.length=4)(hown:W.ownsRow B 145 4 vr l.length css.flatten)
  (h4:∀i,i<l.length->∃cs,css[i]?=some cs/\Ic W cs zN (Sx.at_ l i)) {neg:Bool} {A} {n c:Nat} {A'} {n' c':Nat} {q:Rat} (hq:aC W neg A n c A' n' c' q) {v':Value}
  (own':w'.ownsRow B 145 4 v' (l.length+1) (css.flatten++[zN,.bool neg,.s A n c,.s A' n' c'])) (grow:W.grownBy w' vr.ownBlock):EU w' B v' (l++[q]):=by
 have k:fu (fun b=>vr.ownBlock=some b) W w':=eG grow fun g e=>e;have hn:=jzl7 (t:=196) hown qD;refine⟨css++[[zN,.bool neg,.s A n c,.s A' n' c']],by simp[h1],fun cs hc=>?_,by rw[List.flatten_append,yQ];simpa using own',fun i hi=>?_⟩;{(rcases xY.1 hc with hc|hc);{exact h2 cs hc};rw[xD.1 hc];rfl};by_cases e:i<l.length;{obtain⟨cs,k1,k2⟩:=h4 i e;refine⟨cs,by rw[yR qO];exact k1,?_⟩;have:Sx.at_ (l++[q]) i=Sx.at_ l i:=(by unfold Sx.at_;rw[yR e]);rw[this];exact k.Gc hn k2};rw[yQ]at hi;have hi:i<l.length+1:=hi;have e2:i=l.length:=qO;subst e2;refine⟨_,by rw[yS qO,h1,Nat.sub_self];rfl,?_⟩;have:Sx.at_ (l++[q]) l.length=q:=(by unfold Sx.at_;rw[yS qO,Nat.sub_self];rfl);rw[this];exact⟨neg,A,n,c,A',n',c',rfl,k.oz hn hq⟩
def EU.fr{S:Nat->Prop}{w w'}{B:Nat}{vr:Value}{l:LQ}(h:EU w B vr l)(k:fu S w w')(hn:oh S w 196)(hr:∀b,vr.ownBlock=some b->¬S b):EU w' B vr l:=by
 obtain⟨css,h1,h2,h3,h4⟩:=h;refine⟨css,h1,h2,k.own h3 hr,fun i hi=>?_⟩;obtain⟨cs,k1,k2⟩:=h4 i hi;exact⟨cs,k1,k.Gc hn k2⟩
def EU.K{w w'}{B:Nat}{vr:Value}{l:LQ}(h:EU w B vr l)(hx:Ext w w'):EU w' B vr l:=h.fr (S:=fun _=>False) (eE hx) (fun b hb=>hb.elim) (fun _ _ hb=>hb)
def kU(vr vb:Value):Array Value:=#[vr,vb,zN,zN,bF,zN,zN,vI 0]
def EU.tab{w}{B p:Nat}{vr vb:Value}{l:LQ}(h:EU w B vr l)(hB:B<=p)(hb:ak w p 147 (kU vr vb))(hv:w.ownsRow B 3 1 vb l.length (ints (List.range l.length))):
  aH w B ⟨p,vr,vb,zN,fun _=>zN,l.length⟩ (Sx.newT l):=by
 have qa:∀i,i<l.length->(Sx.newT l).row i=⟨[],Sx.at_ l i⟩:=fun i hi=>(by unfold Sx.newT Sx.Tb.row Sx.at_;show((l.map fun b=>(⟨[],b⟩:Sx.Rw))[i]?).getD _=_;rw[yW,yG hi];rfl);refine⟨by unfold Sx.newT;simp,hB,⟨[zN,bF,zN,zN],⟨false,none,0,0,none,0,0,rfl,fE w⟩,hb⟩,?_,by unfold Sx.newT;simp,hv,World.ownsRow_nil _ _ _ _,?_,fun i hi=>?_,OQ.nil,fun i k _ _ _=>.inl rfl⟩;{obtain⟨css,h1,h2,h3,h4⟩:=h;refine⟨css,h1,h2,h3,fun i hi=>?_⟩;obtain⟨cs,k1,k2⟩:=h4 i hi;exact⟨cs,k1,by rw[qa i hi];exact k2⟩};{show vb.ownBlock=none\/vb.ownBlock≠none;exact Classical.em _};rw[qa i hi];exact OQ.nil
def jzdy(m cb:Nat)PB(bs:LQ)(hbl:bs.length=m)w(hq:QL w PB bs)(hm:m<=1000000):
  Calls prog 71 #[.s PB m cb] w fun e w'=>∃L:aQ,e=.returned (.pointer (sA L.p))/\L.m=m/\L.p=w.heap.size/\aH w' w.heap.size L (Sx.newT bs)/\Ext w w':=by
 have HQ:=Hx hq;clear hq;obtain⟨b0,e0⟩:=aU w (kU zN zN) 147;have I0:=Hx (show ak (w.alloc (.cells (kU zN zN) 147)) w.heap.size 147 (kU zN zN)/\EU (w.alloc (.cells (kU zN zN) 147)) w.heap.size zN (bs.take 0)/\
   (w.alloc (.cells (kU zN zN) 147)).ownsRow w.heap.size 3 1 zN 0 (ints (List.range 0))/\Ext w (w.alloc (.cells (kU zN zN) 147))from
  ⟨b0,⟨[],qS,(fun _ h=>by cases h),by rw[List.take_zero];exact World.ownsRow_nil _ _ _ _,fun i hi=>by simp at hi⟩,World.ownsRow_nil _ _ _ _,e0⟩)
 clear b0 e0;unfold kU at I0;go_enter func71,ntmps71;go_wp2;go_loopg [4,5,10] m (fun q _ _ it wr=>∃(n:Nat) (vr vb:Value),m-n=q/\n<=m/\it=vI (n:Int)/\Hid (ak wr w.heap.size 147 #[vr,vb,zN,zN,bF,zN,zN,vI 0]/\EU wr w.heap.size vr (bs.take n)/\wr.ownsRow w.heap.size 3 1 vb n (ints (List.range n))/\Ext w wr));exact⟨0,_,_,rfl,yZ _,rfl,I0⟩;obtain⟨n,vr,vb,rfl,hn,rfl,I⟩:=hrel;by_cases qA:n<m
 ·have nM:(n:Int)<(m:Int):=by omega
  have n0:(0:Int)<=(n:Int):=qO;obtain⟨bq,oq,neg,A,l,c,A',l',c',rfl,qB,i0,i1,i2,hR⟩:=(HQ.o.K I.o.2.2.2).at_ (aZ (show n<bs.length by omega));obtain⟨bx,e0⟩:=aU wr #[.bool neg,.s A l c,.s A' l' c'] 33;have W4:=Hx (show ak (wr.alloc (.cells #[.bool neg,.s A l c,.s A' l' c'] 33)) w.heap.size 147 #[vr,vb,zN,zN,bF,zN,zN,vI 0]/\EU (wr.alloc (.cells #[.bool neg,.s A l c,.s A' l' c'] 33)) w.heap.size vr (bs.take n)/\
    (wr.alloc (.cells #[.bool neg,.s A l c,.s A' l' c'] 33)).ownsRow w.heap.size 3 1 vb n (ints (List.range n))/\Ext w (wr.alloc (.cells #[.bool neg,.s A l c,.s A' l' c'] 33))/\aC (wr.alloc (.cells #[.bool neg,.s A l c,.s A' l' c'] 33)) neg A l c A' l' c' (Sx.at_ bs n)from
   ⟨I.o.1.K e0,I.o.2.1.K e0,(eE (S:=fun _=>False) e0).own I.o.2.2.1 (fun _ _ h=>h),I.o.2.2.2.tr e0,hR.K e0⟩)
  have BX:=Hx bx;clear hR e0 bx I;(go_upto_region 5 with fail);(have qw:(wr.alloc (.cells #[.bool neg,.s A l c,.s A' l' c'] 33)).heap.size=wr.heap.size+1:=qS;generalize wr.alloc (.cells #[.bool neg,.s A l c,.s A' l' c'] 33)=W at*;generalize wr.heap.size=gx at*;have eu:Hid (W.drew.cell? (aD w.heap.size 0)=some vr/\W.drew.cell? (aD gx 0)=some (.bool neg)/\W.drew.cell? (aD gx 1)=some (.s A l c)/\W.drew.cell? (aD gx 2)=some (.s A' l' c')):=Hx (⟨W4.o.1.cell 0,BX.o.cell 0,BX.o.cell 1,BX.o.cell 2⟩);refine jh (fun w'=>w'.C w.heap.size 0 vr/\w'.C gx 0 (.bool neg)/\w'.C gx 1 (.s A l c)/\w'.C gx 2 (.s A' l' c')) 11 qK ?_;refine wP 0 ?_;try simp only[qN]);refine wP 1 ?_;refine wP 2 ?_;refine wP 3 ?_;refine wV 4 ?_;(refine wV 5 ?_;try simp only[qN]);refine wP 6 ?_;try simp only[qN]
  refine wC 7 rfl (fun KK hK=>?_);go_simp;have XB:Hid (Ext W (W.alloc (.cells #[zN,.bool neg,.s A l c,.s A' l' c'] 145)).drew):=Hx (((eR W).alloc _).drewN 1);have qj:=Hx (show(W.alloc (.cells #[zN,.bool neg,.s A l c,.s A' l' c'] 145)).drew.cell? (aD w.heap.size 0)=some vr/\(W.alloc (.cells #[zN,.bool neg,.s A l c,.s A' l' c'] 145)).drew.cell? (aD gx 0)=some (.bool neg)/\(W.alloc (.cells #[zN,.bool neg,.s A l c,.s A' l' c'] 145)).drew.cell? (aD gx 1)=some (.s A l c)/\(W.alloc (.cells #[zN,.bool neg,.s A l c,.s A' l' c'] 145)).drew.cell? (aD gx 2)=some (.s A' l' c')from
   ⟨(W4.o.1.K XB.o).cell 0,(BX.o.K XB.o).cell 0,(BX.o.K XB.o).cell 1,(BX.o.K XB.o).cell 2⟩)
  refine hK.o _ _ qj.o ?_;clear hK KK;have eu:=qj;have BW:Hid (ak (W.alloc (.cells #[zN,.bool neg,.s A l c,.s A' l' c'] 145)).drew (gx+1) 145 #[zN,.bool neg,.s A l c,.s A' l' c']):=Hx (by rw[<-qw];exact eN W _ _);clear qj;generalize (W.alloc (.cells #[zN,.bool neg,.s A l c,.s A' l' c'] 145)).drew=W6 at*;obtain⟨css,h1,h2,qa,h4⟩:=W4.o.2.1.K XB.o;rw[xF,Ik qO]at h1 qa h4;refine wC 8 rfl (fun KK hK=>?_);refine lT W6 143 145 _ 4 80 _ _ rfl underlying143 Tryz.JM rfl qD w.heap.size vr n css.flatten qR qa [zN,.bool neg,.s A l c,.s A' l' c'] rfl (by simp[Value.oneCell']) (gx+1) qR BW.o (by unfold maxLen;omega) qO (by have:=(W4.o.2.2.2.1.tr XB.o).size;omega) ?_;intro g7 c7 w7 qk qf qp;have k7:Hid (fu (fun x=>vr.ownBlock=some x) W6 w7):=Hx (eG qf fun g e=>e);have NP:Hid (¬vr.ownBlock=some w.heap.size):=Hx (fun e=>bQ qa e (t:=147) qD _ _ (W4.o.1.K XB.o));have NX:Hid (¬vr.ownBlock=some gx):=Hx (fun e=>bQ qa e (t:=33) qD _ _ (BX.o.K XB.o));have qh:=Hx (show w7.C w.heap.size 0 vr/\w7.C gx 0 (.bool neg)/\w7.C gx 1 (.s A l c)/\w7.cell? (aD gx 2)=some (.s A' l' c')from
   ⟨(k7.o.blk (W4.o.1.K XB.o) NP.o).cell 0,(k7.o.blk (BX.o.K XB.o) NX.o).cell 0,(k7.o.blk (BX.o.K XB.o) NX.o).cell 1,(k7.o.blk (BX.o.K XB.o) NX.o).cell 2⟩)
  have NW:Hid (EU w7 w.heap.size (.s (sA g7) (n+1) c7) (bs.take (n+1))):=Hx (by have h5:=EU.push (l:=bs.take n) (by rw[xF,Ik qO];exact h1) h2 (by rw[xF,Ik qO];exact qa) (fun i hi=>h4 i (by rw[xF]at hi;omega)) (W4.o.2.2.2.2.K XB.o) (v':=.s (sA g7) (n+1) c7) (by rw[xF,Ik qO];exact qk) qf;rw[show bs.take (n+1)=bs.take n++[Sx.at_ bs n] by rw[Dj,aZ (show n<bs.length by omega)];rfl];exact h5);have VB:Hid (w7.ownsRow w.heap.size 3 1 vb n (ints (List.range n))):=Hx (k7.o.own ((eE (S:=fun _=>False) XB.o).own W4.o.2.2.1 (fun _ _ h=>h)) fun x hx hr=>by obtain⟨qn,qe⟩:=aT ((eE (S:=fun _=>False) XB.o).own W4.o.2.2.1 (fun _ _ h=>h)) hx;exact bQ qa hr (t:=3) qD _ _ qe);(have BP:=Hx (k7.o.blk (W4.o.1.K XB.o) NP.o);have EW:Hid (Ext w w7):=Hx (k7.o.ext (W4.o.2.2.2.1.tr XB.o) fun x hx=>(qa.lt x hx).1);refine hK.o _ _ qh.o ?_;clear hK KK qk qf qa h1 h2 h4;have eu:=qh;try simp only[qN]);(have z0:w7.frozen? (aD w.heap.size 0)=false:=BP.o.frozen _;have t0:w7.cell? (aD w.heap.size 0)=some vr:=BP.o.cell 0;refine wP 9 ?_;try simp only[qN]);refine wP 10 ?_;try simp only[qN]
  refine bE qK rfl qR (fun KK hK=>?_);go_simp;refine hK.o _ _ ?_;clear hK KK qh;refine wpAny_done qK ?_ _;have k8:Hid (fu (fun x=>x=w.heap.size) w7 (w7.setCell (aD w.heap.size 0) (.s (sA g7) (n+1) c7))):=Hx (eG (aM w7 w.heap.size 0 _) fun g e=>by injection e with e;exact e.symm);have np:oh (fun x=>x=w.heap.size) w7 196:=oh.one BP.o qD;have I8:=Hx (show ak (w7.setCell (aD w.heap.size 0) (.s (sA g7) (n+1) c7)) w.heap.size 147 #[.s (sA g7) (n+1) c7,vb,zN,zN,bF,zN,zN,vI 0]/\
    EU (w7.setCell (aD w.heap.size 0) (.s (sA g7) (n+1) c7)) w.heap.size (.s (sA g7) (n+1) c7) (bs.take (n+1))/\
    (w7.setCell (aD w.heap.size 0) (.s (sA g7) (n+1) c7)).ownsRow w.heap.size 3 1 vb n (ints (List.range n))/\Ext w (w7.setCell (aD w.heap.size 0) (.s (sA g7) (n+1) c7))from
   ⟨BP.o.sT 0 _,NW.o.fr k8.o np (fun x hx e=>by
    obtain⟨qm,_,_,h9,_⟩:=NW.o;obtain⟨qn,qe⟩:=aT h9 hx;rw[e]at qe;exact absurd (bI qe BP.o).2 qD),k8.o.own VB.o (fun x hx e=>by
    obtain⟨qn,qe⟩:=aT VB.o hx;rw[e]at qe;exact absurd (bI qe BP.o).2 qD),k8.o.ext EW.o (fun x e=>by rw[e];exact yX _)⟩)
  clear z0 t0 np k8 k7 NP NX NW VB BP EW W4 BX BW XB css qp qw;generalize w7.setCell (aD w.heap.size 0) (.s (sA g7) (n+1) c7)=W8 at*;have p1:W8.cell? (aD w.heap.size 1)=some vb:=I8.o.1.cell 1;have qx:w.heap.size<W8.heap.size:=I8.o.1.lt;have XC:=Hx ((eR W8).alloc (.cells #[vI (n:Int)] 3));have BC:=Hx (eN W8 3 #[vI (n:Int)]);have VB:=Hx ((eE (S:=fun _=>False) XC.o).own I8.o.2.2.1 (fun _ _ h=>h));(go_wp2_with (at_builtin;refine kS _ 42 3 _ 1 8 rfl _ _ rfl underlying42 Tryz.Cz rfl qD w.heap.size vb n (ints (List.range n)) rfl VB.o [vI (n:Int)] rfl (by simp[Value.oneCell']) W8.heap.size rfl BC.o (by unfold maxLen;omega) qO (by have:=XC.o.size;omega) ?_));intro g9 c9 w9 qi qg qt;have k9:Hid (fu (fun x=>vb.ownBlock=some x) (W8.alloc (.cells #[vI (n:Int)] 3)) w9):=Hx (eG qg fun g e=>e);have NP:Hid (¬vb.ownBlock=some w.heap.size):=Hx (fun e=>bQ VB.o e (t:=147) qD _ _ (I8.o.1.K XC.o));have BP:=Hx (k9.o.blk (I8.o.1.K XC.o) NP.o);have F:Hid (EU w9 w.heap.size (.s (sA g7) (n+1) c7) (bs.take (n+1))/\Ext w w9):=Hx (⟨(I8.o.2.1.K XC.o).fr k9.o (fun b hb=>bQ VB.o hb qD) (fun x hx hr=>by obtain⟨qm,_,_,h9,_⟩:=I8.o.2.1.K XC.o;obtain⟨qn,qe⟩:=aT h9 hx;exact bQ VB.o hr (t:=145) qD _ _ qe),k9.o.ext (I8.o.2.2.2.tr XC.o) fun x hx=>(VB.o.lt x hx).1⟩)
  have qo:Hid (fu (fun x=>x=w.heap.size) w9 (w9.setCell (aD w.heap.size 1) (.s (sA g9) (n+1) c9))):=Hx (eG (aM w9 w.heap.size 1 _) fun g e=>by injection e with e;exact e.symm);have qy:=Hx (show ak (w9.setCell (aD w.heap.size 1) (.s (sA g9) (n+1) c9)) w.heap.size 147 #[.s (sA g7) (n+1) c7,.s (sA g9) (n+1) c9,zN,zN,bF,zN,zN,vI 0]/\
    EU (w9.setCell (aD w.heap.size 1) (.s (sA g9) (n+1) c9)) w.heap.size (.s (sA g7) (n+1) c7) (bs.take (n+1))/\
    (w9.setCell (aD w.heap.size 1) (.s (sA g9) (n+1) c9)).ownsRow w.heap.size 3 1 (.s (sA g9) (n+1) c9) (n+1) (ints (List.range (n+1)))/\Ext w (w9.setCell (aD w.heap.size 1) (.s (sA g9) (n+1) c9))from
   ⟨BP.o.sT 1 _,F.o.1.fr qo.o (oh.one BP.o qD) (fun x hx e=>by
    obtain⟨qm,_,_,h9,_⟩:=F.o.1;obtain⟨qn,qe⟩:=aT h9 hx;rw[e]at qe;exact absurd (bI qe BP.o).2 qD),by
    rw[IY,gU];exact qo.o.own qi (fun x hx e=>by
     obtain⟨qn,qe⟩:=aT qi hx;rw[e]at qe;exact absurd (bI qe BP.o).2 qD),qo.o.ext F.o.2 (fun x e=>by rw[e];exact yX _)⟩)
  have z1:w9.frozen? (aD w.heap.size 1)=false:=BP.o.frozen _;have t1:w9.cell? (aD w.heap.size 1)=some vb:=BP.o.cell 1;clear qi qg qt k9 qo p1 qx;go_wp2;go_roundg (m-(n+1));exact⟨n+1,_,_,rfl,qO,by go_num,qy⟩;omega
 obtain rfl:n=m:=qO;have qz:Hid (aH wr w.heap.size ⟨w.heap.size,vr,vb,zN,fun _=>zN,n⟩ (Sx.newT bs)):=Hx (by have h1:=I.o.2.1;rw[yU qO]at h1;have h2:=I.o.2.2.1;have h3:=h1.tab (yX _) I.o.1 (by rw[hbl];exact h2);rw[hbl]at h3;exact h3);have EX:=Hx I.o.2.2.2;clear I;go_wp2;go_ret;exact⟨⟨w.heap.size,vr,vb,zN,fun _=>zN,n⟩,rfl,rfl,rfl,qz.o,EX.o⟩
def aQ.Cx(L:aQ)(k:Nat)(v:Value):aQ:=⟨L.p,L.vr,L.vb,L.vf,fun i=>if i=k then v else L.V i,L.m⟩
def aQ.Jz(L:aQ)(v:Value):aQ:=⟨L.p,L.vr,L.vb,v,L.V,L.m⟩
def fK(T:Sx.Tb)(c:Nat):Sx.Tb:=⟨T.rows,T.bn,T.ay,T.goal,c⟩
section
variable {w w':World} {B:Nat} {L:aQ} {T:Sx.Tb}
def aQ.uh(L:aQ)(k:Nat)(v:Value):(L.Cx k v).V k=v:=qE rfl
def aQ.Ab(L:aQ){i k:Nat}(v:Value)(h:i≠k):(L.Cx k v).V i=L.V i:=qF h
def jzdz(h:aH w B L T){k g' n c':Nat}(hk:k<=L.m)(hg:some g'=(L.V k).ownBlock\/w.heap.size<=g'):∀i j,i<=L.m->j<=L.m->i≠j->((L.Cx k (.s (sA g') n c')).V i).ownBlock=none\/((L.Cx k (.s (sA g') n c')).V i).ownBlock≠((L.Cx k (.s (sA g') n c')).V j).ownBlock:=by
 have qe:∀j,j<=L.m->j≠k->some g'≠(L.V j).ownBlock:=fun j hj hne e=>(by (rcases hg with h1|h1);{(rcases h.sep j k hj hk hne with h2|h2);{rw[h2]at e;cases e};exact h2 (e.symm.trans h1)};obtain⟨qs,h2⟩:=h.oq hj;obtain⟨xs,h3⟩:=h2.own;have:=(h3.lt g' e.symm).2;omega);intro i j hi hj qa;by_cases e1:i=k;{subst e1;rw[L.uh,L.Ab _ (fun e=>qa e.symm)];exact .inr (qe j hj fun e=>qa e.symm)};rw[L.Ab _ e1];by_cases e2:j=k;{subst e2;rw[L.uh];exact .inr fun e=>qe i hi e1 e.symm};rw[L.Ab _ e2];exact h.sep i j hi hj qa
def aH.IE(h:aH w B L T){k:Nat}(hk:k<L.m){g cr g' n c':Nat}{cs:Array Value}{X':LQ}(D7:L.vr=.s (sA g) L.m cr)(hb:ak w g 145 cs)
  (hb':ak w' g 145 (cs.setIfInBounds (k*4) (.s (sA g') n c'))) (ho:OQ QR 33 w' B (.s (sA g') n c') X') (hf:fu (fun x=>x=g\/(L.V k).ownBlock=some x) w w') (hg:some g'=(L.V k).ownBlock\/w.heap.size<=g'):
  aH w' B (L.Cx k (.s (sA g') n c')) (cJ T k ⟨X',(T.row k).re⟩):=by
 obtain⟨qw,qh⟩:=(h.co k hk).own;have qk:∀t,145≠t->33≠t->oh (fun x=>x=g\/(L.V k).ownBlock=some x) w t:=fun t h1 h2 b hbb c fr e=>(by (rcases hbb with rfl|hbb);{exact oh.one hb h1 b rfl c fr e};exact bQ qh hbb h2 c fr e);have qa:=qk 196 qD qD;have far:∀{t:TypeId} {b:Nat} {c:Array Value},ak w b t c->t≠145->t≠33->¬(b=g\/(L.V k).ownBlock=some b):=fun hbb h1 h2 e=>(by (rcases e with rfl|e);{exact h1 (bI hbb hb).2};exact bQ qh e (fun e2=>h2 e2.symm) _ _ hbb);have qj:∀i,i<=L.m->i≠k->∀qs,OQ QR 33 w B (L.V i) qs->OQ QR 33 w' B (L.V i) qs:=fun i hi hne qs hq=>hf.oq qa hq fun b hbb e=>(by (obtain⟨xs,h1⟩:=hq.own;obtain⟨c,h2⟩:=aT h1 hbb;rcases e with rfl|e);{have:=(bI h2 hb).2;exact absurd this qD};(rcases h.sep i k hi (Bg hk) hne with h3|h3);{rw[h3]at hbb;cases hbb};exact h3 (by rw[hbb,e]));have qf:k<T.rows.length:=(by rw[h.rl];exact hk);have qo:(cJ T k ⟨X',(T.row k).re⟩).rows.length=L.m:=(by show(T.rows.set k _).length=_;rw[yV];exact h.rl);refine⟨qo,h.lo,?_,?_,h.bl,?_,?_,h.bf,fun i hi=>?_,?_,jzdz h (Bg hk) hg⟩;{obtain⟨gs,h1,h2⟩:=h.box;refine⟨gs,?_,hf.blk h2 (far h2 qD qD)⟩;show Ic w' gs ((L.Cx k _).V L.m) _;rw[L.Ab _ qO];exact hf.Gc qa h1};{obtain⟨css,h1,h2,h3,h4⟩:=h.rows;obtain⟨c0,k1,k2⟩:=h4 k hk;obtain⟨neg,A,n0,c,A',qy,qx,rfl,rr⟩:=k2;obtain⟨cb,qp,nr,R1,m1,d1,qi,qg,qe,r0,r1,r2,r3,qm⟩:=h.rwa hk D7;obtain⟨qn,_⟩:=bI hb qp;rw[<-qn]at r0 r1 r2 r3;have qt:k*4+3<cs.size:=(KM.1 r3).1;refine⟨css.set k [.s (sA g') n c',.bool nr,.s R1 m1 d1,.s qi qg qe],by rw[yV];exact h1,fun c hc=>?_,?_,fun i hi=>?_⟩;{(rcases xE hc with h5|h5);{exact h2 c h5};rw[h5];rfl};{show w'.ownsRow B 145 4 L.vr L.m _;rw[D7]at h3⊢;refine jzdl h3 h1 h2 hk hb hb' qS rfl (fun j hj=>?_) fun i hi=>?_;{(rcases(show j=0\/j=1\/j=2\/j=3 by omega)with rfl|rfl|rfl|rfl);{show(cs.setIfInBounds (k*4) _)[k*4]?=_;rw[KN qO];rfl};{rw[xH qO];exact r1};{rw[xH qO];exact r2};rw[xH qO];exact r3};rw[xH qO]};rw[oD T _ i qf];by_cases e:i=k;{subst e;refine⟨_,yM qO,?_⟩;rw[qE rfl,L.uh];exact⟨nr,R1,m1,d1,qi,qg,qe,rfl,hf.oz qa qm⟩};obtain⟨c,h5,h6⟩:=h4 i hi;refine⟨c,by rw[vN (fun e2=>e e2.symm)];exact h5,?_⟩;rw[qF e,L.Ab _ e];exact hf.Gc qa h6};{refine hf.own h.bn fun b hbb=>?_;obtain⟨c,h1⟩:=aT h.bn hbb;exact far h1 qD qD};{refine hf.own h.ay fun b hbb=>?_;obtain⟨c,h1⟩:=aT h.ay hbb;exact far h1 qD qD};{rw[oD T _ i qf];by_cases e:i=k;{subst e;rw[qE rfl,L.uh];exact ho};rw[qF e,L.Ab _ e];exact qj i (Bg hi) e _ (h.co i hi)};show OQ QR 33 w' B ((L.Cx k _).V L.m) T.goal.co;rw[L.Ab _ qO];exact qj L.m (yX _) qO _ h.go
def aH.Hu(h:aH w B L T){g' n c':Nat}{cs:Array Value}{X':LQ}(hb:ak w L.p 147 cs)
  (hb':ak w' L.p 147 (cs.setIfInBounds 3 (.s (sA g') n c'))) (ho:OQ QR 33 w' B (.s (sA g') n c') X') (hf:fu (fun x=>x=L.p\/(L.V L.m).ownBlock=some x) w w') (hg:some g'=(L.V L.m).ownBlock\/w.heap.size<=g'):
  aH w' B (L.Cx L.m (.s (sA g') n c')) (fJ T ⟨X',T.goal.re⟩):=by
 obtain⟨qj,qg⟩:=h.go.own;have qa:oh (fun x=>x=L.p\/(L.V L.m).ownBlock=some x) w 196:=fun b hbb c fr e=>(by (rcases hbb with rfl|hbb);{exact oh.one hb qD _ rfl c fr e};exact bQ qg hbb qD c fr e);have far:∀{t:TypeId} {b:Nat} {c:Array Value},ak w b t c->t≠147->t≠33->¬(b=L.p\/(L.V L.m).ownBlock=some b):=fun hbb h1 h2 e=>(by (rcases e with rfl|e);{exact h1 (bI hbb hb).2};exact bQ qg e (fun e2=>h2 e2.symm) _ _ hbb);refine⟨h.rl,h.lo,?_,?_,h.bl,?_,?_,h.bf,fun i hi=>?_,?_,jzdz h (yX _) hg⟩;{obtain⟨gs,h1,h2⟩:=h.box;obtain⟨e1,_⟩:=bI hb h2;obtain⟨n0,A0,m0,d0,qf,qh,qe,rfl,rr⟩:=h1;refine⟨[.s (sA g') n c',.bool n0,.s A0 m0 d0,.s qf qh qe],?_,?_⟩;{show Ic w' _ ((L.Cx L.m _).V L.m) _;rw[L.uh];exact⟨n0,A0,m0,d0,qf,qh,qe,rfl,hf.oz qa rr⟩};rw[e1]at hb';exact hb'};{obtain⟨css,h1,h2,h3,h4⟩:=h.rows;refine⟨css,h1,h2,hf.own h3 fun b hbb=>?_,fun i hi=>?_⟩;{obtain⟨c,h5⟩:=aT h3 hbb;exact far h5 qD qD};obtain⟨c,h5,h6⟩:=h4 i hi;have qi:i<L.m:=hi;exact⟨c,h5,by rw[L.Ab _ qO];exact hf.Gc qa h6⟩};{refine hf.own h.bn fun b hbb=>?_;obtain⟨c,h1⟩:=aT h.bn hbb;exact far h1 qD qD};{refine hf.own h.ay fun b hbb=>?_;obtain⟨c,h1⟩:=aT h.ay hbb;exact far h1 qD qD};{have qi:i<L.m:=hi;(rw[L.Ab _ qO];refine hf.oq qa (h.co i hi) fun b hbb e=>?_;obtain⟨xs,h1⟩:=(h.co i hi).own;obtain⟨c,h2⟩:=aT h1 hbb;rcases e with rfl|e);{have:=(bI h2 hb).2;exact absurd this qD};(rcases h.sep i L.m (Bg hi) (yX _) qO with h3|h3);{rw[h3]at hbb;cases hbb};exact h3 (by rw[hbb,e])};show OQ QR 33 w' B ((L.Cx L.m _).V L.m) X';rw[L.uh];exact ho
def aH.JW(h:aH w B L T){k:Nat}{u:Value}(hk:k=7\/k=2):fu (fun b=>b=L.p) w (w.setCell (aD L.p k) u)/\oh (fun b=>b=L.p) w 196/\(∀{b:Nat} {t:TypeId} {cs:Array Value},ak w b t cs->t≠147->¬b=L.p):=by
 obtain⟨gs,_,h2⟩:=h.box;exact⟨eG (aM w L.p k u) fun g e=>by injection e with e;exact e.symm,oh.one h2 qD,fun hb ht e=>by rw[e]at hb;exact ht (bI hb h2).2⟩
def aH.Jj(h:aH w B L T)(c:Nat):aH (w.setCell (aD L.p 7) (vI (c:Int))) B L (fK T c)/\fu L.S w (w.setCell (aD L.p 7) (vI (c:Int))):=by
 obtain⟨hf,qa,far⟩:=h.JW (k:=7) (u:=vI (c:Int)) (.inl rfl);refine⟨⟨h.rl,h.lo,?_,?_,h.bl,hf.own h.bn fun b hb=>?_,hf.own h.ay fun b hb=>?_,h.bf,fun i hi=>hf.oq qa (h.co i hi) fun b hb=>?_,hf.oq qa h.go fun b hb=>?_,h.sep⟩,hf.mono fun b hb=>.inl hb⟩;{obtain⟨gs,h1,h2⟩:=h.box;obtain⟨n0,A0,m0,d0,qf,qg,qe,rfl,rr⟩:=h1;exact⟨_,⟨n0,A0,m0,d0,qf,qg,qe,rfl,hf.oz qa rr⟩,h2.sT 7 _⟩};{obtain⟨css,h1,h2,h3,h4⟩:=h.rows;refine⟨css,h1,h2,hf.own h3 fun b hb=>?_,fun i hi=>?_⟩;{obtain⟨c,h5⟩:=aT h3 hb;exact far h5 qD};obtain⟨c,h5,h6⟩:=h4 i hi;exact⟨c,h5,hf.Gc qa h6⟩};{obtain⟨c,h1⟩:=aT h.bn hb;exact far h1 qD};{obtain⟨c,h1⟩:=aT h.ay hb;exact far h1 qD};{obtain⟨xs,h1⟩:=(h.co i hi).own;obtain⟨c,h2⟩:=aT h1 hb;exact far h2 qD};obtain⟨xs,h1⟩:=h.go.own;obtain⟨c,h2⟩:=aT h1 hb;exact far h2 qD
end
def aO(m:Nat)(ts:List (Nat×Rat)):LQ:=ts.foldl (fun v t=>v.set t.1 t.2) (List.replicate m 0)
def kB(m:Nat)(ts:List (Nat×Rat)):(aO m ts).length=m:=by
 have qa:∀(ts:List (Nat×Rat)) (v:LQ),(ts.foldl (fun v t=>v.set t.1 t.2) v).length=v.length:=fun ts=>(by (induction ts with|nil=>intro v;rfl|cons t ts ih=>intro v;show(ts.foldl _ (v.set t.1 t.2)).length=_;rw[ih,yV]));unfold aO;rw[qa,xC]
def dI(T:Sx.Tb)(vals:LQ)(n:Nat):Sx.Tb:=
 ⟨(List.range T.rows.length).map fun i=>if i<n then Sx.Gm T vals (T.row i) (if Sx.cu T.bn i<vals.length then Sx.at_ vals (Sx.cu T.bn i)else 0)else T.row i,T.bn,T.ay,T.goal,T.iq+1⟩
def jzl8(T:Sx.Tb)(vals:LQ)(n:Nat){i:Nat}(hi:i<T.rows.length):(dI T vals n).row i=if i<n then Sx.Gm T vals (T.row i) (if Sx.cu T.bn i<vals.length then Sx.at_ vals (Sx.cu T.bn i)else 0)else T.row i:=by
 unfold dI;show((List.range T.rows.length).map _)[i]?.getD _=_;rw[yW,xJ hi];rfl
def jzl9(T:Sx.Tb){n:Nat}(hn:n<T.rows.length):T.rows[n]?=some (T.row n):=by
 unfold Sx.Tb.row;rw[yG hn];rfl
def jzma(T:Sx.Tb)(vals:LQ):dI T vals 0=fK T (T.iq+1):=by
 unfold dI fK;congr 1;apply uK;intro n;by_cases hn:n<T.rows.length;{rw[yW,xJ hn,jzl9 T hn];simp};rw[yI (by simp;omega),yI qO]
def jzmb(T:Sx.Tb)(vals:LQ){n:Nat}(hn:n<T.rows.length):dI T vals (n+1)=cJ (dI T vals n) n (Sx.Gm T vals (T.row n) (if Sx.cu T.bn n<vals.length then Sx.at_ vals (Sx.cu T.bn n)else 0)):=by
 unfold dI cJ;congr 1;apply uK;intro k;by_cases hk:k<T.rows.length;{rw[yW,xJ hk];by_cases e:n=k;{subst e;rw[yM (by simp;omega)];simp};rw[vN e,yW,xJ hk];have:(k<n+1↔k<n):=qO;simp only[Gu];by_cases h:k<n;{rw[qE (this.2 h),qE h]};rw[qF (fun h2=>h (this.1 h2)),qF h]};rw[yI (by simp;omega),yI (by simp;omega)]
def jzmc(T:Sx.Tb)(vals:LQ):(dI T vals T.rows.length).rows=(List.range T.rows.length).map (fun i=>Sx.Gm T vals (T.row i) (if Sx.cu T.bn i<vals.length then Sx.at_ vals (Sx.cu T.bn i)else 0)):=by
 unfold dI;refine List.map_congr_left fun i hi=>?_;rw[qE (vX.1 hi)]
def cK(T:Sx.Tb)(i j k:Nat):Sx.Tb:=
 ⟨(List.range T.rows.length).map (fun n=>if n=i then Sx.ug (T.row i) j else if n<k then Sx.Au (T.row n) j (Sx.ug (T.row i) j)else T.row n),T.bn.set i (Sx.cu T.ay j),T.ay.set j (Sx.cu T.bn i),T.goal,T.iq⟩
def jzmd(T:Sx.Tb){n:Nat}(hn:n<T.rows.length):T.rows[n]?=some (T.row n):=by
 unfold Sx.Tb.row;rw[yG hn];rfl
def wY(T:Sx.Tb)(i j k:Nat){n:Nat}(hn:n<T.rows.length):(cK T i j k).row n=if n=i then Sx.ug (T.row i) j else if n<k then Sx.Au (T.row n) j (Sx.ug (T.row i) j)else T.row n:=by
 unfold cK;show((List.range T.rows.length).map _)[n]?.getD _=_;rw[yW,xJ hn];rfl
def jzme(T:Sx.Tb)(i j:Nat)(hi:i<T.rows.length):cK T i j 0=wJ (rH (cJ T i (Sx.ug (T.row i) j)) (T.bn.set i (Sx.cu T.ay j))) (T.ay.set j (Sx.cu T.bn i)):=by
 unfold cK wJ rH cJ;congr 1;apply uK;intro n;by_cases hn:n<T.rows.length;{rw[yW,xJ hn];simp only[Gu,Nat.not_lt_zero,if_false];by_cases e:n=i;{subst e;rw[qE rfl,yM hn]};rw[qF e,vN (fun e2=>e e2.symm),jzmd T hn]};rw[yI (by simp;omega),yI (by rw[yV];omega)]
def jzmf(T:Sx.Tb)(i j:Nat):cK T i j (i+1)=cK T i j i:=by
 unfold cK;congr 1;apply List.map_congr_left;intro n _;by_cases e:n=i;{rw[qE e,qE e]};rw[qF e,qF e];have:(n<i+1↔n<i):=qO;by_cases h:n<i;{rw[qE (this.2 h),qE h]};rw[qF (fun h2=>h (this.1 h2)),qF h]
def jzmg(T:Sx.Tb)(i j:Nat){k:Nat}(hk:k<T.rows.length)(hki:k≠i):cK T i j (k+1)=cJ (cK T i j k) k (Sx.Au (T.row k) j (Sx.ug (T.row i) j)):=by
 unfold cK cJ;simp only[];congr 1;apply uK;intro n;by_cases hn:n<T.rows.length;{by_cases e:n=k;{subst e;rw[yM (by simpa using hn),yW,xJ hn];simp only[Gu];rw[qF hki,qE qO]};rw[vN (fun e2=>e e2.symm),yW,yW,xJ hn];simp only[Gu];have:(n<k+1↔n<k):=qO;by_cases h:n<k;{rw[qE (this.2 h),qE h]};rw[qF (fun h2=>h (this.1 h2)),qF h]};rw[yI (by simp;omega),yI (by simp;omega)]
def jzmh(T:Sx.Tb)(i j:Nat):fJ (cK T i j T.rows.length) (Sx.Au T.goal j (Sx.ug (T.row i) j))=Sx.Ai T i j:=by
 unfold cK fJ Sx.Ai;simp only[];congr 1;apply List.map_congr_left;intro n hn;have:=vX.1 hn;by_cases e:n=i;{rw[qE e,qE e]};rw[qF e,qF e,qE this]
def jzmi w(B:Nat)(L:aQ)(T:Sx.Tb)(h:aH w B L T)(k i j K P g cr gv cv:Nat)(hk:k<L.m)(hi:i<L.m)(hki:k≠i)(hj:j<K)(hK:K<=1000000000000)(hP:P<=1000000)
  (D7:L.vr=.s (sA g) L.m cr) (hV:L.V i=.s (sA gv) K cv) (hck:(T.row k).co.length=K) (hci:(T.row i).co.length=K)
  (s1:∀q∈(T.row k).co,dx q P) (s2:dx (T.row k).re P) (s3:∀q∈(T.row i).co,dx q P) (s4:dx (T.row i).re P)
  (ni:Bool) AI (li ci:Nat) Fa (EN ET:Nat) (ra:aC w ni AI li ci Fa EN ET (T.row i).re):
  Calls prog 151 #[.pointer (some (aD g (k*4))),vI (j:Int),.agg #[.s (sA gv) K cv,.bool ni,.s AI li ci,.s Fa EN ET]] w
   (fun e w'=>e=.returned (.tuple #[])/\aH w' B L (cJ T k (Sx.Au (T.row k) j (T.row i)))/\fu L.S w w'):=by
 have hX:=h.co k hk;have hY:=h.co i hi;rw[hV]at hY;obtain⟨qg,qj,qa,_,_⟩:=hX.form (by rw[hck];omega);rw[hck]at qa;obtain⟨cs,qi,qe⟩:=h.rwa hk D7;have qf:qg≠gv:=fun e=>(by (rcases h.sep k i (Bg hk) (Bg hi) hki with h1|h1);{rw[qa]at h1;cases h1};exact h1 (by rw[qa,hV,e];rfl));have qh:=hX;rw[qa]at qh qe;refine(jzdk B B g (k*4) 145 cs qg K qj gv cv j P (T.row k).co (T.row i).co (T.row k).re (T.row i).re ni AI li ci Fa EN ET w qi qe qh hck hY hci ra qf qD qD hj hK hP s1 s2 s3 s4).mono ?_;rintro e w' ⟨rfl,qk,c1,c2,c3,c4,c5⟩;refine⟨rfl,?_,c5.mono fun b hb=>by (rcases hb with rfl|rfl);{exact .inr (.inl (by rw[D7];rfl))};exact .inr (.inr (.inr (.inr ⟨k,Bg hk,by rw[qa];rfl⟩)))⟩;rw[<-qa]at c3 c4;exact h.Es hk D7 qa qi c1 c2 c3 c4 c5
def jzmj w(B:Nat)(L:aQ)(T:Sx.Tb)(h:aH w B L T)(i j K P g cr gv cv:Nat)(hi:i<L.m)(hj:j<K)(hK:K<=1000000000000)(hP:P<=1000000)
  (D7:L.vr=.s (sA g) L.m cr) (hV:L.V i=.s (sA gv) K cv) (hck:T.goal.co.length=K) (hci:(T.row i).co.length=K)
  (s1:∀q∈T.goal.co,dx q P) (s2:dx T.goal.re P) (s3:∀q∈(T.row i).co,dx q P) (s4:dx (T.row i).re P)
  (ni:Bool) AI (li ci:Nat) Fa (EN ET:Nat) (ra:aC w ni AI li ci Fa EN ET (T.row i).re):
  Calls prog 151 #[.pointer (some (aD L.p 3)),vI (j:Int),.agg #[.s (sA gv) K cv,.bool ni,.s AI li ci,.s Fa EN ET]] w
   (fun e w'=>e=.returned (.tuple #[])/\aH w' B L (fJ T (Sx.Au T.goal j (T.row i)))/\fu L.S w w'):=by
 have hX:=h.go;have hY:=h.co i hi;rw[hV]at hY;obtain⟨qg,qj,qa,_,_⟩:=hX.form (by rw[hck];omega);rw[hck]at qa;obtain⟨cs,qi,qe,_⟩:=h.DV;have qf:qg≠gv:=fun e=>(by (rcases h.sep L.m i (yX _) (Bg hi) qO with h1|h1);{rw[qa]at h1;cases h1};exact h1 (by rw[qa,hV,e];rfl));have qh:=hX;rw[qa]at qh qe;refine(jzdk B B L.p 3 147 cs qg K qj gv cv j P T.goal.co (T.row i).co T.goal.re (T.row i).re ni AI li ci Fa EN ET w qi qe qh hck hY hci ra qf qD qD hj hK hP s1 s2 s3 s4).mono ?_;rintro e w' ⟨rfl,qk,c1,c2,c3,c4,c5⟩;refine⟨rfl,?_,c5.mono fun b hb=>by (rcases hb with rfl|rfl);{exact .inl rfl};exact .inr (.inr (.inr (.inr ⟨L.m,yX _,by rw[qa];rfl⟩)))⟩;rw[<-qa]at c3 c4;exact h.FB qa qi c1 c2 c3 c4 c5
end Go.Proofs.YtfeeacaofjpkaaaGreatDoor
namespace Go.Proofs.YtfeeacaofjpkaaaGreatDoor
open Go.Proofs.Tryz
open Go Go.RowKit
variable {P:Program} {md:Region.Mode} {ops:Array Oper} {Q:Exit->Act->World->Prop} {S:World->Prop} {L:Nat}
def jzmk{m i:Nat}{oi:Oper}{v:Value}(hL:wu md ops L m=true)(hm:wu md ops m i=true)(hi:ops[i]?=some oi)(Cc:i≠L)(hsel:∀(j:Nat) (o:Oper) cs b,ops[j]?=some o->o.op≠.select cs b)
  (hQ:∀c a w,Q (.panic c) (a.put oi.dst v) w->Q (.panic c) a w):
  ∀(qe:Nat) (qa:Array Bool) (a:Act) (w:World),qa.getD m true=false->
   (∀j oj,ops[j]?=some oj->j≠i->qa.getD j true=false->(∀e∈oj.after,Region.binds md e=true->e.on≠i)->oi.apart ops oj=true)->
   i∈Region.ready md ops qa->YieldsIf P ops S oi v a->S w->
   wpAnyL P md ops Q S L qe (qa.setIfInBounds i true) (a.put oi.dst v) w->wpAnyL P md ops Q S L (qe+1) qa a w:=by
 intro qe
 induction qe with
 |zero=>
  intro qa a w _ _ hr hy hS H;refine⟨fun h=>(by rw[h]at hr;cases hr),fun j hj=>?_⟩;by_cases qg:j=i
  ·subst qg;exact hy.wpOp hi hS ⟨fun e=>absurd e Cc,fun _=>⟨hS,H⟩⟩
  have:=ready_mono hj qg;rw[H.1]at this;cases this
 |succ qe ih=>
  intro qa a w qj qf hr hy hS H;refine⟨fun h=>(by rw[h]at hr;cases hr),fun j hj=>?_⟩;by_cases qg:j=i
  ·subst qg;exact hy.wpOp hi hS ⟨fun e=>absurd e Cc,fun _=>⟨hS,H⟩⟩
  have qk:j≠L:=fun e=>by
   rw[e]at hj;have qw:qa.getD m false=false:=by
    rcases Bc m qa.size with h'|h'
    ·simp[h']at qj⊢;exact qj
    simp[Fx h']
   exact nG hL hj (by simpa using qj)
  have qx:j≠m:=fun e=>by
   rw[e]at hj;exact nG hm hj (mem_ready.1 hr).1
  have h1:=H.2 j (ready_mono hj qg);obtain⟨qi,oj,qm,qn⟩:=mem_ready.1 hj;have qo:∀e∈oj.after,Region.binds md e=true->e.on≠i:=fun e he hb heq=>by
   have h1:=qn e he hb;have h0:=(mem_ready.1 hr).1;rw[heq]at h1;rcases Bc i qa.size with h'|h'
   ·simp[h']at h0 h1;rw[h0]at h1;cases h1
   simp[Fx h']at h1
  have h2:=wpOp_putIf qm (qf j oj qm qg qi qo) (fun cs b=>hsel i oi cs b hi) (fun cs b=>hsel j oj cs b qm) hQ hy h1;have qh:∀k ok,ops[k]?=some ok->k≠i->(qa.setIfInBounds j true).getD k true=false->
    (∀e∈ok.after,Region.binds md e=true->e.on≠i)->oi.apart ops ok=true:=fun k ok hk hki hun hno=>by
   refine qf k ok hk hki ?_ hno;by_cases qt:j=k
   ·subst qt;exact qi
   rw[getD_set_ne true qt]at hun;exact hun
  have qp:(qa.setIfInBounds j true).getD m true=false:=(by rw[getD_set_ne true qx];exact qj);refine wpOp_mono (fun a' w' h3=>⟨fun e=>absurd e qk,fun _=>⟨(h3.2.2 qk).1,ih (qa.setIfInBounds j true) a' w' qp qh (ready_mono hr (Ne.symm qg)) h3.1 (h3.2.2 qk).1 ?_⟩⟩) h2;rw[Array.setIfInBounds_comm _ _ qg];exact(h3.2.2 qk).2
def wZ{m i:Nat}{oi:Oper}{v:Value}{fuel:Nat}{listed:Array Bool}{a:Act}{w}(hi:ops[i]?=some oi)(hL:wu md ops L m=true)(hm:wu md ops m i=true)(hlm:listed.getD m true=false)(Cc:i≠L)
  (hs:Region.noSelect ops=true) (hf:Region.free md ops listed i=true) (hr:(Region.ready md ops listed).contains i=true)
  (hQ:∀c a w,Q (.panic c) (a.put oi.dst v) w->Q (.panic c) a w) (hy:YieldsIf P ops S oi v a) (hS:S w)
  (h:wpAnyL P md ops Q S L fuel (listed.setIfInBounds i true) (a.put oi.dst v) w):wpAnyL P md ops Q S L (fuel+1) listed a w:=
 jzmk hL hm hi Cc (Region.noSelect_spec hs) hQ fuel listed a w hlm (Region.free_spec hi hf) (by simpa using hr) hy hS h
end Go.Proofs.YtfeeacaofjpkaaaGreatDoor
namespace Go.Proofs.YtfeeacaofjpkaaaGreatDoor
open Go.Proofs.Tryz
open Go.RowKit
structure Kl(T:Sx.Tb)(P:Nat):Prop where
 co:∀i,i<T.rows.length->∀q∈(T.row i).co,dx q P
 re:∀i,i<T.rows.length->dx (T.row i).re P
 go:∀q∈T.goal.co,dx q P
 gr:dx T.goal.re P
structure Km(T:Sx.Tb):Prop where
 cl:∀i,i<T.rows.length->(T.row i).co.length=T.ay.length
 gl:T.goal.co.length=T.ay.length
def jzd0(w:World)(B:Nat)(L:aQ)(T':Sx.Tb)(e:Ending)(w':World):Prop:=e=.returned (.tuple #[])/\aH w' B L T'/\fu L.S w w'
def jzml(X:LQ)(j:Nat)(q:Rat):Sx.AZ X j q 0=X.set j 1:=by
 unfold Sx.AZ Sx.at_;apply uK;intro k;by_cases hk:k<X.length;{rw[yW,xJ hk];simp only[Gu,Nat.not_lt_zero,if_false];by_cases e:k=j;{subst e;rw[qE rfl,yM hk]};rw[qF e,vN (fun e2=>e e2.symm),yG hk];rfl};rw[yI (by simp;omega),yI (by rw[yV];omega)]
def jzd1(X:LQ)(j:Nat)(q:Rat){i:Nat}(hi:i<X.length):(Sx.AZ X j q i)[i]?=some (if i=j then 1 else Sx.at_ X i):=by
 unfold Sx.AZ;rw[yW,xJ hi];simp only[Gu,Ho,if_false]
def jzd2(X:LQ)(j:Nat)(q:Rat){i:Nat}(hi:i<X.length):Sx.AZ X j q (i+1)=(Sx.AZ X j q i).set i ((if i=j then 1 else Sx.at_ X i)*q):=by
 apply uK;intro k;by_cases hk:k<X.length;{by_cases e:i=k;{subst e;rw[yM (by rw[Sx.Ad];exact hi)];unfold Sx.AZ;rw[yW,xJ hk];simp only[Gu];rw[qE (show i<i+1 by omega)]};rw[vN e];unfold Sx.AZ;rw[yW,yW,xJ hk];simp only[Gu];have:(k<i+1↔k<i):=qO;by_cases h:k<i;{rw[qE (this.2 h),qE h]};rw[qF (fun h2=>h (this.1 h2)),qF h]};rw[yI (by rw[Sx.Ad];omega),yI (by rw[yV,Sx.Ad];omega)]
def jzmm(X:LQ)(j:Nat)(q:Rat){i:Nat}(hi:i<X.length)(h0:(if i=j then 1 else Sx.at_ X i)=0):Sx.AZ X j q (i+1)=Sx.AZ X j q i:=by
 have h:=jzd1 X j q hi;rw[h0]at h;rw[jzd2 X j q hi,h0,Rat.zero_mul];apply uK;intro k;by_cases e:i=k;{subst e;rw[yM (by rw[Sx.Ad];exact hi),h]};rw[vN e]
def jzd3{w:World}{B g c n i:Nat}{l:LN}(h:w.ownsRow B 3 1 (.s (sA g) n c) n (ints l))(hi:i<n):w.cell? (aD g i)=some (vI (Sx.cu l i:Nat))/\w.frozen? (aD g i)=false:=by
 obtain⟨g',c',qa,e1,_,e3,_,_,_,e7⟩:=iD h qO;injection e1 with e1 _ _
 injection e1 with e1
 injection e1 with e1
 subst e1;refine⟨?_,e3.frozen i⟩;have hl:l.length=n:=(by have:=h.1;rw[bX]at this;omega);rw[e3.cell, <-Gi];have h1:(qa.toList.take (n*1))[i]?=(ints l)[i]?:=(by rw[e7]);rw[xG,qE qO]at h1;rw[h1];unfold ints Sx.cu;rw[yW,yG qO];rfl
def jzd4:Am (decide ((1:Int)<0)) (1:Int).natAbs 1=1:=jza0 1
def dO(T:Sx.Tb)(i j n:Nat):Sx.Tb:=cJ T i ⟨Sx.AZ (T.row i).co j (1/Sx.at_ (T.row i).co j) n,(T.row i).re⟩
def jzd5(T:Sx.Tb)(i:Nat)(r s:Sx.Rw):cJ (cJ T i r) i s=cJ T i s:=by unfold cJ;simp
def jzmn(B i j bg P:Nat)(L:aQ)(T:Sx.Tb)w(h:aH w B L T)(vz:Km T)(vU:Kl T P)(hP:P<=100000)(hi:i<L.m)(hj:j<T.ay.length)(hp:Sx.at_ (T.row i).co j≠0)(hm:L.m<=1000000)(hK:T.ay.length<=1000000000000)
  (zm:ak w bg 142 #[.pointer (some (aD L.p 3))]):
  Calls prog 83 #[.pointer (sA L.p),vI (i:Int),vI (j:Int),.s (sA bg) 1 1] w (jzd0 w B L (Sx.Ai T i j)):=by
 obtain⟨g,cr,vn,zB⟩:=h.Cu qO;have qn:i<T.rows.length:=(by rw[h.rl];exact hi);have vl:=vz.cl i qn;obtain⟨gv,cv,hV,zi,qB⟩:=(h.co i hi).form (by rw[vl];omega);rw[vl]at hV zi;obtain⟨cb,hb,zk⟩:=h.rwa hi vn;obtain⟨cp,vp,zJ,p0,p1,p2,p7⟩:=h.DV;have q0:=(vp.cell 0).trans p0;rw[vn]at q0;obtain⟨nr,R1,m1,d1,zw,zI,zF,r0,r1,r2,r3,rr⟩:=zk;have qr:=(hb.cell (i*4)).trans r0;rw[hV]at qr;have vZ:j<(T.row i).co.length:=(by rw[vl];exact hj);have qZ:=h.co i hi;rw[hV]at qZ;obtain⟨nf,F1,f1,e1,vd,qX,vm,⟨x0,x1,x2⟩,⟨y0,y1,y2⟩,rf⟩:=qZ.cell (aZ vZ);have zx:L.p<w.heap.size:=vp.lt;have vF:g<w.heap.size:=hb.lt;have iN:(i:Int)<(L.m:Int):=qO;have jN:(j:Int)<(T.ay.length:Int):=qO;have i0:(0:Int)<=(i:Int):=qO;have j0:(0:Int)<=(j:Int):=qO;have H:=Hx (ah h (ah vz vU));have HV:=Hx (ah vn (ah hV vl));have HR:=Hx (ah rf rr);have HB:=Hx (ah hb (ah vp zm));have HP:=Hx hp;have vu:=Hx (vU.co i qn _ (yJ (aZ vZ)));generalize ES:T.ay.length=K at*;have qI:=Hx ES;go_enter func83,ntmps83;(go_upto_region 1 with fail);have XD:Hid (Ext w w.drew):=Hx ((eR w).drewN 1);have XA:Hid (Ext w (w.alloc (.cells #[.bool false,zN,zN] 33)).drew):=Hx (((eR w).alloc _).drewN 1);have BN:Hid (ak (w.alloc (.cells #[.bool false,zN,zN] 33)).drew w.heap.size 33 #[.bool false,zN,zN]):=Hx (eN w _ _);have qa:Hid (∀wx,Ext w wx->(wx.cell? (aD g (i*4))=some (.s (sA gv) K cv)/\wx.cell? (aD gv (j*3))=some (.bool nf)/\wx.cell? (aD gv (j*3+1))=some (.s F1 f1 e1)/\wx.cell? (aD gv (j*3+2))=some (.s vd qX vm))):=Hx (fun wx hx=>⟨aA hx qr,aA hx x0,aA hx x1,aA hx x2⟩);have LF:=Hx (HR.o.1.lens vu.o);obtain⟨zG,zs⟩:=LF.o;have vV:f1<=134217728:=qO;have vY:qX<=134217728:=qO;obtain⟨qU,i1,i2,i3⟩:=qa.o _ XD.o;obtain⟨u0,u1,u2,u3⟩:=qa.o _ XA.o;go_cut [9] (fun sl wx=>∃(gs:Nat) (ns:Bool) (A3:OA) (l3 c3:Nat) (qh:OA) (qf qi:Nat),sl=.pointer (sA gs)/\Hid (w.heap.size<=gs/\ak wx gs 33 #[.bool ns,.s A3 l3 c3,.s qh qf qi]/\aC wx ns A3 l3 c3 qh qf qi (1/Sx.at_ (T.row i).co j)/\Ext w wx))
 case first=>
  go_region_held3 (fun w'=>w'.cell? (aD g (i*4))=some (.s (sA gv) K cv)/\w'.cell? (aD gv (j*3))=some (.bool nf)/\w'.cell? (aD gv (j*3+1))=some (.s F1 f1 e1)/\w'.cell? (aD gv (j*3+2))=some (.s vd qX vm))
   (first|with_reducible exact⟨qU,i1,i2,i3⟩|with_reducible exact⟨u0,u1,u2,u3⟩|with_reducible exact⟨aS qU _,aS i1 _,aS i2 _,aS i3 _⟩|exact⟨aF (aF (aF qU fT) fT) fT,aF (aF (aF i1 fG) fG) fG,aF (aF (aF i2 fG) fG) fG,aF (aF (aF i3 fG) fG) fG⟩|fail)
   (first
    |(go_at_call 15
      first
      |(with_reducible refine(pH 1 w.drew qD qD).mono ?_
        rintro e w8 ⟨n8,A8,l8,c8,vg,vc,vk,rfl,h8,x8⟩;have E8:=Hx (XD.o.tr x8))
      |(with_reducible refine(pH 1 (w.alloc (.cells #[.bool false,zN,zN] 33)).drew qD qD).mono ?_
        rintro e w8 ⟨n8,A8,l8,c8,vg,vc,vk,rfl,h8,x8⟩;have E8:=Hx (XA.o.tr x8);have B8:=Hx (BN.o.K x8))
      rw[jzd4]at h8;have R8:=Hx h8;obtain⟨zC,v9⟩:=R8.o.lens (show dx 1 1 from⟨qD,qD⟩);obtain⟨qU,i1,i2,i3⟩:=qa.o _ E8.o;clear x8 h8)
    |(go_at_call 150
      first
      |(with_reducible refine(pZ n8 nf A8 l8 c8 vg vc vk F1 f1 e1 vd qX vm 1 (Sx.at_ (T.row i).co j) _ (by with_reducible exact R8.o) (HR.o.1.K (by with_reducible exact E8.o)) HP.o qO qO vV vY).mono ?_
        rintro e w9 ⟨n9,A9,l9,c9,qy,qp,qt,rfl,h9,x9⟩;have E9:=Hx (E8.o.tr x9)
        first
        |(have B9:=Hx (B8.o.K x9)
          obtain⟨⟨v0,v1,v2⟩,z0,z1,z2⟩:=B9.o.t3;have gg:w.heap.size<=w.heap.size:=yX _;have fT:g≠w.heap.size:=Ht vF;have fG:gv≠w.heap.size:=Ht qB)
        |skip)
      |(have xa:=(eR w8).alloc (.cells #[.bool false,zN,zN] 33)
        with_reducible refine(pZ n8 nf A8 l8 c8 vg vc vk F1 f1 e1 vd qX vm 1 (Sx.at_ (T.row i).co j) _ (R8.o.K (by with_reducible exact xa)) (HR.o.1.K (by with_reducible exact E8.o.tr xa)) HP.o qO qO vV vY).mono ?_
        rintro e w9 ⟨n9,A9,l9,c9,qy,qp,qt,rfl,h9,x9⟩;have E9:=Hx ((E8.o.tr xa).tr x9);have gg:w.heap.size<=w8.heap.size:=E8.o.size;have fT:g≠w8.heap.size:=Ht (yL vF gg);have fG:gv≠w8.heap.size:=Ht (yL qB gg);have B9:=Hx ((eN w8 33 #[.bool false,zN,zN]).K x9);obtain⟨⟨v0,v1,v2⟩,z0,z1,z2⟩:=B9.o.t3;clear xa)
      have R9:=Hx h9;obtain⟨qU,i1,i2,i3⟩:=qa.o _ E9.o;clear x9 h9)
    |fail)
  all_goals
   go_wp2;go_meet
   first
   |(obtain⟨k1,k2⟩:=eY (w:=w) R9.o B9.o gg E9.o
     exact⟨_,n9,A9,l9,c9,qy,qp,qt,rfl,Hx ⟨gg,((B9.o.sT 0 _).sT 1 _).sT 2 _,k1,k2⟩⟩)
   |(have xb:=(eR w9).alloc (.cells #[.bool n9,.s A9 l9 c9,.s qy qp qt] 33)
     exact⟨w9.heap.size,n9,A9,l9,c9,qy,qp,qt,rfl,Hx ⟨E9.o.size,eN w9 _ _,R9.o.K xb,E9.o.tr xb⟩⟩)
 obtain⟨gs,ns,A3,l3,c3,qh,qf,qi,rfl,G⟩:=hcut;have vJ:Hid (dx (1/Sx.at_ (T.row i).co j) (1+P)):=Hx ((show dx 1 1 from⟨qD,qD⟩).div vu.o HP.o);have NS:Hid (¬L.S gs):=Hx (fun hs=>by have:=(H.o.1.ty hs).2.1;have:=G.o.1;omega);have I0:Hid (aH wc B L T/\fu L.S w wc/\ak wc gs 33 #[.bool ns,.s A3 l3 c3,.s qh qf qi]/\aC wc ns A3 l3 c3 qh qf qi (1/Sx.at_ (T.row i).co j)):=Hx (⟨H.o.1.K G.o.2.2.2,eE G.o.2.2.2,G.o.2.1,G.o.2.2.1⟩);have VC:Hid (∀wx Tc,aH wx B L Tc->wx.cell? (aD g (i*4))=some (.s (sA gv) K cv)):=Hx (fun wx Tc hx=>by obtain⟨cs,hb,_,_,_,_,_,_,_,r0,_⟩:=hx.rwa hi HV.o.1;rw[HV.o.2.1]at r0;exact(hb.cell _).trans r0);have qe:g≠gv:=fun e=>(by obtain⟨xs,h1⟩:=(H.o.1.co i hi).own;obtain⟨c,h2⟩:=aT h1 (show(L.V i).ownBlock=some gv by rw[HV.o.2.1];rfl);subst e;have:=(bI HB.o.1 h2).2;exact absurd this qD);have q1:=VC.o _ _ I0.o.1;have q2:=show wc.drew.cell? (aD g (i*4))=some (.s (sA gv) K cv)from q1;have XD:Hid (Ext wc wc.drew):=Hx ((eR wc).drewN 1);(go_upto_region 2 with fail);go_cut [] (fun wx=>Hid (aH wx B L (dO T i j 0)/\fu L.S w wx/\ak wx gs 33 #[.bool ns,.s A3 l3 c3,.s qh qf qi]/\aC wx ns A3 l3 c3 qh qf qi (1/Sx.at_ (T.row i).co j)))
 case first=>
  go_region_held3 (fun w'=>w'.cell? (aD g (i*4))=some (.s (sA gv) K cv))
   (first|with_reducible exact q2|with_reducible exact q8|exact aF (aF (aF q8 qe) qe) qe|fail)
   (first
    |(go_at_call 15
      with_reducible refine(pH 1 wc.drew qD qD).mono ?_
      rintro e w8 ⟨n8,A8,l8,c8,vg,vc,vk,rfl,h8,x8⟩;have E8:=Hx (XD.o.tr x8);rw[jzd4]at h8;have R8:=Hx h8;have q8:=aA E8.o q1;have fz:=(show∀k,w8.frozen? (aD gv k)=false from fun k=>by
       obtain⟨xs,h1⟩:=((I0.o.1.K E8.o).co i hi).own;obtain⟨c,h2⟩:=aT h1 (show(L.V i).ownBlock=some gv by rw[HV.o.2.1];rfl);exact h2.frozen k)
      have z0:=fz (j*3);have z1:=fz (j*3+1);have z2:=fz (j*3+2);have cc:=((I0.o.1.K E8.o).co i hi);rw[HV.o.2.1]at cc;obtain⟨_,_,_,_,_,_,_,⟨t0,t1,t2⟩,_⟩:=cc.cell (aZ (show j<(T.row i).co.length by rw[HV.o.2.2];exact hj));clear x8 h8 fz cc)
    |fail)
  all_goals
   go_wp2;go_meet;exact Hx (by
    obtain⟨k1,k2⟩:=(I0.o.1.K E8.o).Jk hi HV.o.1 HV.o.2.1 HV.o.2.2 hj R8.o;have e1:dO T i j 0=cJ T i ⟨(T.row i).co.set j 1,(T.row i).re⟩:=(by unfold dO;rw[jzml]);rw[e1];exact⟨k1,(I0.o.2.1.tr (eE (S:=L.S) E8.o) fun b hb=>.inl hb).tr k2 fun b hb=>.inl hb,k2.blk (I0.o.2.2.1.K E8.o) NS.o,k2.oz (I0.o.1.K E8.o).IV (I0.o.2.2.2.K E8.o)⟩)
 have I1:=hcut;have HX:Hid (∀n,(dO T i j n).row i=⟨Sx.AZ (T.row i).co j (1/Sx.at_ (T.row i).co j) n,(T.row i).re⟩):=Hx (fun n=>by unfold dO;rw[oD _ _ _ qn,qE rfl]);have vx:Hid (∀n,((dO T i j n).row i).co.length=K):=Hx (fun n=>by rw[HX.o n];show(Sx.AZ _ _ _ _).length=K;rw[Sx.Ad];exact HV.o.2.2);have v7:Hid (L.S gv):=Hx (.inr (.inr (.inr (.inr ⟨i,Bg hi,by rw[HV.o.2.1];rfl⟩))));have q3:=VC.o _ _ I1.o.1;go_wp2;go_loopg [11,12,46] K (fun q _ _ it wx=>∃n:Nat,K-n=q/\n<=K/\it=vI (n:Int)/\Hid (aH wx B L (dO T i j n)/\fu L.S w wx/\ak wx gs 33 #[.bool ns,.s A3 l3 c3,.s qh qf qi]/\aC wx ns A3 l3 c3 qh qf qi (1/Sx.at_ (T.row i).co j)));(case atStart=>exact⟨0,rfl,yZ _,rfl,I1⟩);obtain⟨n,rfl,hn,rfl,I⟩:=hrel;by_cases vT:n<K
 ·(have va:n<(T.row i).co.length:=by rw[HV.o.2.2];exact vT);obtain⟨xn,vo⟩:∃xn,(if n=j then 1 else Sx.at_ (T.row i).co n)=xn:=⟨_,rfl⟩;have vW:=Hx vo;have zp:Hid (dx xn (1+P)):=Hx (by rw[<-vo];split;{exact(show dx 1 1 from⟨qD,qD⟩).mono qO};exact(H.o.2.2.co i qn _ (yJ (aZ va))).mono qO);have qZ:=I.o.1.co i hi;rw[HV.o.2.1,HX.o n]at qZ;obtain⟨ne,E1,p1,q1,qH,qC,qM,⟨v0,v1,v2⟩,⟨g0,g1,g2⟩,re⟩:=qZ.cell (jzd1 (T.row i).co j (1/Sx.at_ (T.row i).co j) va);rw[vo]at re;have zd:gv<wr.heap.size:=yL qB I.o.2.1.size;have nK:(n:Int)<(K:Int):=qO;have n0:(0:Int)<=(n:Int):=qO;have RE:=Hx re;have CE:=Hx (ah (ah v0 (ah v1 v2)) (ah g0 (ah g1 g2)));have XB:=(eR wr).alloc (.cells #[.bool ne,.s E1 p1 q1,.s qH qC qM] 33);have SG:=Hx (dA ne E1 p1 q1 qH qC qM xn _ (re.K XB));(go_wp2_with fail);refine SG.o.mono ?_;rintro e w4 ⟨rfl,x4⟩;have X4:Hid (Ext wr w4/\ak w4 wr.heap.size 33 #[.bool ne,.s E1 p1 q1,.s qH qC qM]):=Hx (⟨((eR wr).alloc _).tr x4,(eN wr _ _).K x4⟩);by_cases vq:xn=0;{have q4:aB xn=0:=(iC xn).2 vq;rw[q4];have I4:Hid (aH w4 B L (dO T i j (n+1))/\fu L.S w w4/\ak w4 gs 33 #[.bool ns,.s A3 l3 c3,.s qh qf qi]/\aC w4 ns A3 l3 c3 qh qf qi (1/Sx.at_ (T.row i).co j)):=Hx (by have e1:dO T i j (n+1)=dO T i j n:=(by unfold dO;rw[jzmm _ _ _ va (by rw[vW.o,vq])]);rw[e1];exact⟨I.o.1.K X4.o.1,I.o.2.1.tr (eE (S:=L.S) X4.o.1) fun b hb=>.inl hb,I.o.2.2.1.K X4.o.1,I.o.2.2.2.K X4.o.1⟩);go_wp2;go_roundg (K-(n+1));(case measure=>omega);exact⟨n+1,rfl,qO,by go_num,I4⟩}
  have q4:¬aB xn=0:=fun h=>vq ((iC xn).1 h);have zH:(aB xn !=0)=true:=(by simpa using q4);have zv:decide (aB xn=0)=false:=yP q4;have zE:(aB xn==0)=false:=(by simpa using q4);generalize aB xn=sy at*;have T4:=Hx (I.o.1.K X4.o.1);have XD:Hid (Ext w4 w4.drew):=Hx ((eR w4).drewN 1);have qa:=Hx (show∀wx,Ext w4 wx->(wx.cell? (aD g (i*4))=some (.s (sA gv) K cv)/\(wx.cell? (aD wr.heap.size 0)=some (.bool ne)/\wx.cell? (aD wr.heap.size 1)=some (.s E1 p1 q1)/\wx.cell? (aD wr.heap.size 2)=some (.s qH qC qM))/\wx.cell? (aD gs 0)=some (.bool ns)/\wx.cell? (aD gs 1)=some (.s A3 l3 c3)/\wx.cell? (aD gs 2)=some (.s qh qf qi))from fun wx hx=>
   ⟨aA hx (VC.o _ _ T4.o),(X4.o.2.K hx).t3.1,((I.o.2.2.1.K X4.o.1).K hx).t3.1⟩)
  obtain⟨k0,⟨k1,k2,k3⟩,k4,k5,k6⟩:=qa.o _ XD.o;have b1:wr.heap.size≠gv:=qO;have b2:gs≠gv:=fun e=>NS.o (by rw[e];exact v7.o);obtain⟨zu,zz⟩:=RE.o.lens zp.o;obtain⟨zK,zq⟩:=I.o.2.2.2.lens vJ.o;go_wp2
  go_region_held3 (fun w'=>w'.cell? (aD g (i*4))=some (.s (sA gv) K cv)/\(w'.cell? (aD wr.heap.size 0)=some (.bool ne)/\w'.cell? (aD wr.heap.size 1)=some (.s E1 p1 q1)/\w'.cell? (aD wr.heap.size 2)=some (.s qH qC qM))/\w'.cell? (aD gs 0)=some (.bool ns)/\w'.cell? (aD gs 1)=some (.s A3 l3 c3)/\w'.cell? (aD gs 2)=some (.s qh qf qi))
   (first|with_reducible exact⟨k0,⟨k1,k2,k3⟩,k4,k5,k6⟩|exact⟨aF (aF (aF k0 qe) qe) qe,⟨aF (aF (aF k1 b1) b1) b1,aF (aF (aF k2 b1) b1) b1,aF (aF (aF k3 b1) b1) b1⟩,aF (aF (aF k4 b2) b2) b2,aF (aF (aF k5 b2) b2) b2,aF (aF (aF k6 b2) b2) b2⟩|fail)
   (first
    |(go_at_call 47
      with_reducible refine(gX ne ns E1 p1 q1 qH qC qM A3 l3 c3 qh qf qi xn (1/Sx.at_ (T.row i).co j) _ ((RE.o.K X4.o.1).K (by with_reducible exact XD.o)) ((I.o.2.2.2.K X4.o.1).K (by with_reducible exact XD.o)) qO qO qO qO).mono ?_
      rintro e w5 ⟨n5,A5,l5,c5,qw,qx,qz,rfl,h5,x5⟩;have E5:=Hx (XD.o.tr x5);have R5:=Hx h5;obtain⟨k0,⟨k1,k2,k3⟩,k4,k5,k6⟩:=qa.o _ E5.o;have t0:=aA (X4.o.1.tr E5.o) CE.o.1.1;have t1:=aA (X4.o.1.tr E5.o) CE.o.1.2.1;have t2:=aA (X4.o.1.tr E5.o) CE.o.1.2.2;have z0:=mN (X4.o.1.tr E5.o) CE.o.1.1 CE.o.2.1;have z1:=mN (X4.o.1.tr E5.o) CE.o.1.2.1 CE.o.2.2.1;have z2:=mN (X4.o.1.tr E5.o) CE.o.1.2.2 CE.o.2.2.2;clear h5 x5)
    |fail)
  all_goals
   have I6:=Hx (show aH (((w5.setCell (aD gv (n*3)) (.bool n5)).setCell (aD gv (n*3+1)) (.s A5 l5 c5)).setCell (aD gv (n*3+2)) (.s qw qx qz)) B L (dO T i j (n+1))/\fu L.S w (((w5.setCell (aD gv (n*3)) (.bool n5)).setCell (aD gv (n*3+1)) (.s A5 l5 c5)).setCell (aD gv (n*3+2)) (.s qw qx qz))/\ak (((w5.setCell (aD gv (n*3)) (.bool n5)).setCell (aD gv (n*3+1)) (.s A5 l5 c5)).setCell (aD gv (n*3+2)) (.s qw qx qz)) gs 33 #[.bool ns,.s A3 l3 c3,.s qh qf qi]/\aC (((w5.setCell (aD gv (n*3)) (.bool n5)).setCell (aD gv (n*3+1)) (.s A5 l5 c5)).setCell (aD gv (n*3+2)) (.s qw qx qz)) ns A3 l3 c3 qh qf qi (1/Sx.at_ (T.row i).co j)from by
    have T5:=T4.o.K E5.o;have X5:=X4.o.1.tr E5.o;obtain⟨k1,k2⟩:=T5.Jk hi HV.o.1 HV.o.2.1 (vx.o n) vT R5.o;have e1:cJ (dO T i j n) i ⟨((dO T i j n).row i).co.set n (xn*(1/Sx.at_ (T.row i).co j)),((dO T i j n).row i).re⟩=dO T i j (n+1):=by
     rw[HX.o n];unfold dO;rw[jzd5,jzd2 _ _ _ va,vW.o]
    rw[e1]at k1;exact⟨k1,(I.o.2.1.tr (eE (S:=L.S) X5) fun b hb=>.inl hb).tr k2 fun b hb=>.inl hb,k2.blk (I.o.2.2.1.K X5) NS.o,k2.oz T5.IV (I.o.2.2.2.K X5)⟩)
   go_wp2
   go_roundg (K-(n+1))
   case measure=>
                 omega
   exact⟨n+1,rfl,qO,by go_num,I6⟩
 obtain rfl:K=n:=qO;have zh:¬((K:Int)<(K:Int)):=qO;have vO:¬K<K:=Ho K;obtain⟨zA,v5,zb⟩:=I.o.1.rwa hi HV.o.1;obtain⟨n9,A9,l9,c9,qy,qp,qt,s0,s1,s2,s3,v3⟩:=zb;rw[HX.o K]at v3;have B9:=Hx (ah v5 (ah s0 (ah s1 (ah s2 (ah s3 v3)))));have LE:Hid (l9<=134217728/\qp<=134217728/\l3<=134217728/\qf<=134217728):=Hx (by obtain⟨a1,a2⟩:=B9.o.2.2.2.2.2.lens (H.o.2.2.re i qn);obtain⟨a3,a4⟩:=I.o.2.2.2.lens vJ.o;exact⟨qO,qO,qO,qO⟩)
 have XD:Hid (Ext wr wr.drew):=Hx ((eR wr).drewN 1);have qa:=Hx (show∀wx,Ext wr wx->((wx.cell? (aD g (i*4+1))=some (.bool n9)/\wx.cell? (aD g (i*4+2))=some (.s A9 l9 c9)/\wx.cell? (aD g (i*4+3))=some (.s qy qp qt))/\wx.cell? (aD gs 0)=some (.bool ns)/\wx.cell? (aD gs 1)=some (.s A3 l3 c3)/\wx.cell? (aD gs 2)=some (.s qh qf qi))from fun wx hx=>
  ⟨⟨((B9.o.1.K hx).cell _).trans B9.o.2.2.1,((B9.o.1.K hx).cell _).trans B9.o.2.2.2.1,((B9.o.1.K hx).cell _).trans B9.o.2.2.2.2.1⟩,(I.o.2.2.1.K hx).t3.1⟩)
 have eu:=Hx (qa.o _ XD.o);go_wp2;refine jh (fun w'=>(w'.cell? (aD g (i*4+1))=some (.bool n9)/\w'.cell? (aD g (i*4+2))=some (.s A9 l9 c9)/\w'.cell? (aD g (i*4+3))=some (.s qy qp qt))/\w'.cell? (aD gs 0)=some (.bool ns)/\w'.cell? (aD gs 1)=some (.s A3 l3 c3)/\w'.cell? (aD gs 2)=some (.s qh qf qi)) 9 qK ?_;refine wV 0 ?_;refine wV 1 ?_;refine wV 2 ?_;refine wV 3 ?_;refine wV 4 ?_;refine wV 5 ?_;refine wC 6 rfl (fun KK hK=>?_);go_simp;refine(gX n9 ns A9 l9 c9 qy qp qt A3 l3 c3 qh qf qi (T.row i).re (1/Sx.at_ (T.row i).co j) _ (B9.o.2.2.2.2.2.K XD.o) (I.o.2.2.2.K XD.o) LE.o.1 LE.o.2.1 LE.o.2.2.1 LE.o.2.2.2).mono ?_;rintro e w5 ⟨n5,A5,l5,c5,qw,qx,qz,rfl,h5,x5⟩;have E5:=Hx (XD.o.tr x5);have eu:=Hx (qa.o _ E5.o);have R5:=Hx h5;refine hK.o _ _ eu.o ?_;clear hK KK h5 x5;refine wC 7 rfl (fun KK hK=>?_);go_simp;refine hK.o _ _ eu.o ?_;clear hK KK;refine wV 8 ?_;have z0:=(B9.o.1.K E5.o).frozen (i*4+1);have z1:=(B9.o.1.K E5.o).frozen (i*4+2);have z2:=(B9.o.1.K E5.o).frozen (i*4+3);obtain⟨⟨t0,t1,t2⟩,_⟩:=eu.o;refine bE qK rfl qR (fun KK hK=>?_);go_simp;refine hK.o _ _ ?_;clear hK KK;refine wpAny_done qK ?_ _;have I7:Hid (aH (((w5.setCell (aD g (i*4+1)) (.bool n5)).setCell (aD g (i*4+1+1)) (.s A5 l5 c5)).setCell (aD g (i*4+1+2)) (.s qw qx qz)) B L (cJ T i (Sx.ug (T.row i) j))/\fu L.S w (((w5.setCell (aD g (i*4+1)) (.bool n5)).setCell (aD g (i*4+1+1)) (.s A5 l5 c5)).setCell (aD g (i*4+1+2)) (.s qw qx qz))):=Hx (by obtain⟨k1,k2⟩:=(I.o.1.K E5.o).Ku hi HV.o.1 (by rw[vx.o K];omega) R5.o;have e1:cJ (dO T i j K) i ⟨((dO T i j K).row i).co,(T.row i).re*(1/Sx.at_ (T.row i).co j)⟩=cJ T i (Sx.ug (T.row i) j):=(by rw[HX.o K];unfold dO Sx.ug;rw[jzd5,HV.o.2.2]);rw[e1]at k1;exact⟨k1,(I.o.2.1.tr (eE (S:=L.S) E5.o) fun b hb=>.inl hb).tr k2 fun b hb=>.inl hb⟩);generalize ((w5.setCell (aD g (i*4+1)) (.bool n5)).setCell (aD g (i*4+1+1)) (.s A5 l5 c5)).setCell (aD g (i*4+1+2)) (.s qw qx qz)=W7 at*;obtain⟨gb,vH,q7,_⟩:=I7.o.1.Dp qO;obtain⟨gf,vj,qJ,_⟩:=I7.o.1.Dl (show 0<T.ay.length by rw[qI.o];omega);have qJ:L.vf=.s (sA gf) K vj:=(by rw[qJ];show Value.slice _ T.ay.length _=_;rw[qI.o]);have qY:=I7.o.1.bn;have qV:=I7.o.1.ay;have v6:(cJ T i (Sx.ug (T.row i) j)).ay.length=K:=qI.o;rw[q7]at qY;rw[v6,qJ]at qV;obtain⟨vy,v8⟩:=jzd3 qY hi;obtain⟨vG,zc⟩:=jzd3 qV hj;obtain⟨zy,q6,_,p0,p1,p2,_⟩:=I7.o.1.DV;rw[q7]at p1;rw[qJ]at p2;have c1:=(q6.cell 1).trans p1;have c2:=(q6.cell 2).trans p2;have vt:=Hx (ah q7 qJ);have q5:gb≠gf:=fun e=>(by (rcases I7.o.1.bf with h1|h1);{rw[q7]at h1;cases h1};exact h1 (by rw[q7,qJ,e];rfl));(have IC:=Hx (ah vy (ah v8 (ah vG (ah zc (ah c1 c2)))));have eu:Hid (W7.drew.cell? (aD L.p 1)=some (.s (sA gb) L.m vH)/\W7.drew.cell? (aD L.p 2)=some (.s (sA gf) K vj)/\W7.drew.cell? (aD gb i)=some (vI (Sx.cu T.bn i:Nat))/\W7.drew.cell? (aD gf j)=some (vI (Sx.cu T.ay j:Nat))):=Hx (⟨c1,c2,vy,vG⟩);go_wp2;refine jh (fun w'=>w'.cell? (aD L.p 1)=some (.s (sA gb) L.m vH)/\w'.cell? (aD L.p 2)=some (.s (sA gf) K vj)/\w'.cell? (aD gb i)=some (vI (Sx.cu T.bn i:Nat))/\w'.cell? (aD gf j)=some (vI (Sx.cu T.ay j:Nat))) 25 qK ?_;refine wP 0 ?_;refine wP 1 ?_;refine wP 2 ?_;refine wV 3 ?_;refine wP 4 ?_;refine wP 5 ?_;refine wP 6 ?_;refine wP 7 ?_;refine wV 8 ?_;refine wP 10 ?_;refine wP 11 ?_;refine wP 12 ?_;refine wV 13 ?_;refine wP 14 ?_;refine wP 15 ?_;refine wV 16 ?_;refine wP 17 ?_;refine wP 18 ?_;refine wP 19 ?_;try simp only[Act.put,yD,yE,yF]);refine wV 20 ?_;refine wP 21 ?_;refine wP 22 ?_;refine wV 23 ?_;refine wP 9 ?_;(refine wP 24 ?_;try simp only[Act.put,yD,yE,yF]);have z0:W7.drew.frozen? (aD gb i)=false:=IC.o.2.1;have t0:W7.drew.cell? (aD gb i)=some (vI (Sx.cu T.bn i:Nat)):=IC.o.1;refine bE qK rfl qR (fun KK hK=>?_);go_simp;refine hK.o _ _ ?_;clear hK KK z0 t0;have z1:(W7.setCell (aD gb i) (vI (Sx.cu T.ay j:Nat))).drew.frozen? (aD gf j)=false:=(World.frozen?_setCell _ _ _ _).trans IC.o.2.2.2.1;have t1:(W7.setCell (aD gb i) (vI (Sx.cu T.ay j:Nat))).drew.cell? (aD gf j)=some (vI (Sx.cu T.ay j:Nat)):=aF (w:=W7) IC.o.2.2.1 (fun e=>q5 e.symm);refine iY (i:=26) qK rfl qR (fun KK hK=>?_);go_simp;refine hK.o _ _ ?_;clear hK KK;refine iY (i:=27) qK rfl qR (fun KK hK=>?_);go_simp;refine hK.o _ _ ?_;clear hK KK z1 t1;refine wpAny_done qK ?_ _;have I8:Hid (aH ((W7.setCell (aD gb i) (vI (Sx.cu T.ay j:Nat))).setCell (aD gf j) (vI (Sx.cu T.bn i:Nat))).drew B L (cK T i j 0)/\fu L.S w ((W7.setCell (aD gb i) (vI (Sx.cu T.ay j:Nat))).setCell (aD gf j) (vI (Sx.cu T.bn i:Nat))).drew):=Hx (by obtain⟨a1,a2⟩:=I7.o.1.JX (i:=i) (v:=Sx.cu T.ay j) vt.o.1;have vw:L.vf=.s (sA gf) (rH (cJ T i (Sx.ug (T.row i) j)) ((cJ T i (Sx.ug (T.row i) j)).bn.set i (Sx.cu T.ay j))).ay.length vj:=(by rw[vt.o.2];show Value.slice _ K _=Value.slice _ T.ay.length _;rw[qI.o]);obtain⟨b1,b2⟩:=a1.JR (i:=j) (v:=Sx.cu T.bn i) vw;have XD:=(eR ((W7.setCell (aD gb i) (vI (Sx.cu T.ay j:Nat))).setCell (aD gf j) (vI (Sx.cu T.bn i:Nat)))).drewN 1;rw[jzme T i j qn];exact⟨b1.K XD,((I7.o.2.tr a2 fun b hb=>.inl hb).tr b2 fun b hb=>.inl hb).tr (eE (S:=L.S) XD) fun b hb=>.inl hb⟩);clear IC vt eu I7 q5;generalize ((W7.setCell (aD gb i) (vI (Sx.cu T.ay j:Nat))).setCell (aD gf j) (vI (Sx.cu T.bn i:Nat))).drew=W8 at*;have PC:Hid (∀wx Tc,aH wx B L Tc->wx.cell? (aD L.p 0)=some (.s (sA g) L.m cr)):=Hx (fun wx Tc hx=>by obtain⟨cs,hb,_,p0,_⟩:=hx.DV;rw[HV.o.1]at p0;exact(hb.cell _).trans p0);have SY:Hid ((∀q∈(Sx.ug (T.row i) j).co,dx q (2*P+4))/\dx (Sx.ug (T.row i) j).re (2*P+4)):=Hx (by have hq:dx (1/Sx.at_ (T.row i).co j) (1+P):=(show dx 1 1 from⟨qD,qD⟩).div vu.o HP.o;refine⟨fun q hq2=>?_,((H.o.2.2.re i qn).mul hq).mono qO⟩;unfold Sx.ug Sx.AZ at hq2;obtain⟨k,hk,rfl⟩:=Bv.1 hq2;have hk:=vX.1 hk;rw[qE hk];split;{exact((show dx 1 1 from⟨qD,qD⟩).mul hq).mono qO};exact((H.o.2.2.co i qn _ (yJ (aZ hk))).mul hq).mono qO);have q8:=PC.o _ _ I8.o.1;go_wp2;go_loopg [13,104] L.m (fun q _ it wx=>∃k:Nat,L.m-k=q/\k<=L.m/\it=vI (k:Int)/\Hid (aH wx B L (cK T i j k)/\fu L.S w wx));(case atStart=>exact⟨0,rfl,yZ _,rfl,I8⟩);obtain⟨k,rfl,hk,rfl,I⟩:=hrel;clear I8 q8;by_cases v4:k<L.m
 ·(have kN:(k:Int)<(L.m:Int):=by omega);have k0:(0:Int)<=(k:Int):=qO;by_cases qo:k=i;{(have vK:((k:Int) !=(i:Int))=false:=by rw[qo];simp);have ze:decide ((k:Int)=(i:Int))=true:=yO (by rw[qo]);have zn:((k:Int)==(i:Int))=true:=(by rw[qo];simp);have I9:Hid (aH wr B L (cK T i j (k+1))/\fu L.S w wr):=Hx (by have h2:=I.o;rw[qo]at h2⊢;rw[jzmf];exact h2);clear qo I;go_wp2;go_roundg (L.m-(k+1));(case measure=>omega);exact⟨k+1,rfl,qO,by go_num,I9⟩}
  have vK:((k:Int) !=(i:Int))=true:=(by simp;omega);have ze:decide ((k:Int)=(i:Int))=false:=yP qO;have zn:((k:Int)==(i:Int))=false:=(by simp;omega);have qW:k<T.rows.length:=(by have:=H.o.1.rl;omega);have qQ:(cK T i j k).row k=T.row k:=(by rw[wY T i j k qW,qF qo,qF (Ho k)]);have qm:(cK T i j k).row i=Sx.ug (T.row i) j:=(by rw[wY T i j k qn,qE rfl]);have qT:((cK T i j k).row k).co.length=K:=(by rw[qQ,H.o.2.1.cl k qW,qI.o]);have qj:((cK T i j k).row i).co.length=K:=(by rw[qm];show(Sx.AZ _ _ _ _).length=K;rw[Sx.Ad];exact HV.o.2.2);obtain⟨zo,qk,qA⟩:=I.o.1.rwa hi HV.o.1;obtain⟨ni,AI,li,ci,vh,ve,vi,a0,a1,a2,a3,ra⟩:=qA;rw[HV.o.2.1]at a0;have q9:=Hx (fun wx (hx:Ext wr wx)=>(jzmi wx B L (cK T i j k) (I.o.1.K hx) k i j K (2*P+4) g cr gv cv v4 hi qo hj hK qO HV.o.1 HV.o.2.1 qT qj
   (by rw[qQ];exact fun q hq=>(H.o.2.2.co k qW q hq).mono qO) (by rw[qQ];exact(H.o.2.2.re k qW).mono qO) (by rw[qm];exact SY.o.1) (by rw[qm];exact SY.o.2) ni AI li ci vh ve vi (ra.K hx)).mono
   (R':=fun e w'=>e=.returned (.tuple #[])/\aH w' B L (cK T i j (k+1))/\fu L.S w w') (fun e w' hq=>by
    obtain⟨h1,h2,h3⟩:=hq;rw[qQ,qm, <-jzmg T i j qW qo]at h2;exact⟨h1,h2,(I.o.2.tr (eE (S:=L.S) hx) fun b hb=>.inl hb).tr h3 fun b hb=>.inl hb⟩))
  have qa:=Hx (show∀wx,Ext wr wx->wx.cell? (aD L.p 0)=some (.s (sA g) L.m cr)/\wx.cell? (aD g (i*4))=some (.s (sA gv) K cv)/\wx.cell? (aD g (i*4+1))=some (.bool ni)/\wx.cell? (aD g (i*4+2))=some (.s AI li ci)/\wx.cell? (aD g (i*4+3))=some (.s vh ve vi)from fun wx hx=>
   ⟨PC.o _ _ (I.o.1.K hx),((qk.K hx).cell _).trans a0,((qk.K hx).cell _).trans a1,((qk.K hx).cell _).trans a2,((qk.K hx).cell _).trans a3⟩)
  (have XD:Hid (Ext wr wr.drew):=Hx ((eR wr).drewN 1);have eu:=Hx (qa.o _ XD.o);clear qQ qm qT qj qk a0 a1 a2 a3 ra I;go_wp2;refine wX qa 10 ?_;refine wP 0 ?_;try simp only[Act.put,yD,yE,yF]);refine wP 1 ?_;(refine wP 2 ?_;try simp only[Act.put,yD,yE,yF]);refine wZ (m:=5) (i:=3) (v:=?_) rfl qK qK qK qD qK qK qK (fun _ _ _ h=>h) (DF ⟨qR,?_⟩) eu.o ?_;rotate_left;(focus (intro w hSw;obtain⟨s1,s2,s3,s4,s5⟩:=hSw;go_simp;try with_reducible rfl));(try simp only[Act.put,yD,yE,yF]);refine wP 4 ?_;refine wP 5 ?_;refine wP 6 ?_;refine wP 7 ?_;refine wP 8 ?_;(refine wV 9 ?_;try simp only[Act.put,yD,yE,yF]);refine bE qK rfl qR (fun KK hK=>?_);go_simp;refine(q9.o _ XD.o).mono ?_;rintro e w5 ⟨rfl,I9⟩;have I9:=Hx I9;refine hK.o _ _ ?_;clear hK KK q9 qa eu XD;refine wpAny_done qK ?_ _;go_wp2;go_roundg (L.m-(k+1));(case measure=>omega);exact⟨k+1,rfl,qO,by go_num,I9⟩
 obtain rfl:L.m=k:=qO;have zg:¬((L.m:Int)<(L.m:Int)):=qO;have vL:¬L.m<L.m:=Ho _;have za:Hid (¬L.S bg):=Hx (fun hs=>by (obtain⟨_,_,zt,t',k1,k2⟩:=H.o.1.ty hs;have h3:=(bI HB.o.2.2 k1).2;rcases k2 with k2|k2|k2|k2);{rw[k2]at h3;exact absurd h3 qD};{rw[k2]at h3;exact absurd h3 qD};{rw[k2]at h3;exact absurd h3 qD};rw[k2]at h3;exact absurd h3 qD);have GC:Hid (∀wx,fu L.S w wx->wx.cell? (aD bg 0)=some (.pointer (some (aD L.p 3)))):=Hx (fun wx hx=>(hx.blk HB.o.2.2 za.o).cell 0);have I9:Hid (aH wr B L (if 0=0 then cK T i j L.m else Sx.Ai T i j)/\fu L.S w wr):=Hx (by rw[qE rfl];exact I.o);clear I;go_wp2;go_loopg [15,124] 1 (fun q _ it wx=>∃k:Nat,1-k=q/\k<=1/\it=vI (k:Int)/\Hid (aH wx B L (if k=0 then cK T i j L.m else Sx.Ai T i j)/\fu L.S w wx));(case atStart=>exact⟨0,rfl,qO,rfl,I9⟩);obtain⟨k,rfl,vK,rfl,J⟩:=hrel;clear I9;by_cases zf:k=0
 ·subst zf
  have J0:Hid (aH wr B L (cK T i j L.m)):=Hx (by have:=J.o.1;rwa [qE rfl]at this);have qm:(cK T i j L.m).row i=Sx.ug (T.row i) j:=(by rw[wY T i j L.m qn,qE rfl]);have qj:((cK T i j L.m).row i).co.length=K:=(by rw[qm];show(Sx.AZ _ _ _ _).length=K;rw[Sx.Ad];exact HV.o.2.2);obtain⟨zo,qk,qA⟩:=J0.o.rwa hi HV.o.1;obtain⟨ni,AI,li,ci,vh,ve,vi,a0,a1,a2,a3,ra⟩:=qA;rw[HV.o.2.1]at a0;have q0:=(qk.cell _).trans a0;have q1:=(qk.cell _).trans a1;have q2:=(qk.cell _).trans a2;have q3:=(qk.cell _).trans a3;have qg:=GC.o _ J.o.2;have q9:=Hx ((jzmj wr B L (cK T i j L.m) J0.o i j K (2*P+4) g cr gv cv hi hj hK qO HV.o.1 HV.o.2.1 (show T.goal.co.length=K by rw[H.o.2.1.gl,qI.o]) qj
   (fun q hq=>(H.o.2.2.go q hq).mono qO) (H.o.2.2.gr.mono qO) (by rw[qm];exact SY.o.1) (by rw[qm];exact SY.o.2) ni AI li ci vh ve vi ra).mono
   (R':=fun e w'=>e=.returned (.tuple #[])/\aH w' B L (if 0+1=0 then cK T i j L.m else Sx.Ai T i j)/\fu L.S w w') (fun e w' hq=>by
    obtain⟨h1,h2,h3⟩:=hq;refine⟨h1,?_,J.o.2.tr h3 fun b hb=>.inl hb⟩;rw[qm]at h2;have e1:=jzmh T i j;rw[H.o.1.rl]at e1;rw[qF qO, <-e1];exact h2))
  clear qm qj qk a0 a1 a2 a3 ra J J0;(go_wp2_with fail);refine q9.o.mono ?_;rintro e w5 ⟨rfl,J9⟩;have J9:=Hx J9;clear q9 q0 q1 q2 q3 qg;go_wp2;go_roundg (1-(0+1));(case measure=>omega);exact⟨0+1,rfl,qO,by go_num,J9⟩
 obtain rfl:k=1:=qO;have zj:Hid (jzd0 w B L (Sx.Ai T i j) (.returned (.tuple #[])) wr):=Hx (⟨rfl,by have:=J.o.1;rwa [qF qO]at this,J.o.2⟩);clear J;go_wp2;(go_end0);exact zj.o
structure Jy{α:Type}(le:α->α->Prop):Prop where
 refl:∀x,le x x
 tr:∀x y z,le x y->le y z->le x z
 tot:∀x y,le x y\/le y x
def bM{α:Type}(l:List α)(i j:Nat):List α:=match l[i]?,l[j]? with
 |some a,some b=>(l.set i b).set j a
 |_,_=>l
def jza{α:Type}{l:List α}{i j:Nat}{a b:α}(hi:l[i]?=some a)(hj:l[j]?=some b):bM l i j=(l.set i b).set j a:=by unfold bM;rw[hi,hj]
def lV{α:Type}{l:List α}{i j:Nat}{a b:α}(hi:l[i]?=some a)(hj:l[j]?=some b)(k:Nat):(bM l i j)[k]?=if k=j then some a else if k=i then some b else l[k]?:=by
 have h1:=(yH.1 hi).1;have h2:=(yH.1 hj).1;rw[jza hi hj];by_cases e:k=j;{subst e;rw[qE rfl,yM (by rw[yV];exact h2)]};rw[qF e,vN (fun h=>e h.symm)];by_cases e2:k=i;{subst e2;rw[qE rfl,yM h1]};rw[qF e2,vN (fun h=>e2 h.symm)]
def oF{α:Type}{l:List α}{i j:Nat}{a b:α}(hi:l[i]?=some a)(hj:l[j]?=some b):(bM l i j).Perm l:=by
 classical
 rw[List.perm_iff_count];intro x;have h1:=(yH.1 hi).1;have h2:=(yH.1 hj).1;have e1:=(yH.1 hi).2;have e2:=(yH.1 hj).2;rw[jza hi hj,List.count_set (by rw[yV];exact h2),List.count_set h1,e1];have qh:0<l.count a:=List.count_pos_iff.2 (yJ hi);by_cases e:i=j
 ·subst e
  have qe:a=b:=(by rw[hi]at hj;injection hj);subst qe;rw[List.getElem_set_self];by_cases hx:a=x
  ·subst hx;simp;omega
  have:(a==x)=false:=(by simp[hx]);simp[this]
 rw[List.getElem_set_ne e,e2];have qg:0<l.count b:=List.count_pos_iff.2 (yJ hj);by_cases hx:a=x
 ·by_cases hy:b=x
  ·subst hx;subst hy;simp;omega
  have:(b==x)=false:=(by simp[hy]);subst hx;simp[this];omega
 have qa:(a==x)=false:=(by simp[hx]);by_cases hy:b=x
 ·subst hy;simp[qa]
 have qf:(b==x)=false:=(by simp[hy]);simp[qa,qf]
section
variable {α:Type} {le:α->α->Prop}
def cT(le:α->α->Prop)(l:List α)(n:Nat):Prop:=∀(k:Nat) (a b:α),0<k->k<n->l[(k-1)/2]?=some a->l[k]?=some b->le a b
def Ib(le:α->α->Prop)(l:List α)(n j:Nat):Prop:=
 (∀(k:Nat) (a b:α),0<k->k<n->k≠j->l[(k-1)/2]?=some a->l[k]?=some b->le a b)/\
 (∀(k:Nat) (a b:α),0<j->0<k->k<n->(k-1)/2=j->l[(j-1)/2]?=some a->l[k]?=some b->le a b)
def dS(le:α->α->Prop)(l:List α)(n i:Nat):Prop:=
 (∀(k:Nat) (a b:α),0<k->k<n->(k-1)/2≠i->l[(k-1)/2]?=some a->l[k]?=some b->le a b)/\
 (∀(k:Nat) (a b:α),0<i->0<k->k<n->(k-1)/2=i->l[(i-1)/2]?=some a->l[k]?=some b->le a b)
def Ib.done{l:List α}{n j:Nat}(h:Ib le l n j)(hj:j=0\/∀a b,l[(j-1)/2]?=some a->l[j]?=some b->le a b):cT le l n:=fun k a b h0 hk ha hb=>by
 by_cases e:k=j;{subst e;(rcases hj with hj|hj);{omega};{exact hj a b ha hb}};{exact h.1 k a b h0 hk e ha hb}
def Ib.step(o:Jy le){l:List α}{n j:Nat}(h:Ib le l n j)(hj:0<j)(hjn:j<n){a b:α}(ha:l[(j-1)/2]?=some a)(hb:l[j]?=some b)(hle:le b a):Ib le (bM l ((j-1)/2) j) n ((j-1)/2):=by
 have hg:=lV ha hb;refine⟨fun k x y h0 hk hne hx hy=>?_,fun k x y hp h0 hk hpar hx hy=>?_⟩;{rw[hg]at hx hy;by_cases e1:k=j;{subst e1;(rw[qE rfl]at hy;rw[qF qO,qE rfl]at hx;injection hx with hx;injection hy with hy);subst hx hy;exact hle};rw[qF e1,qF hne]at hy;by_cases e2:(k-1)/2=j;{rw[qE e2]at hx;(injection hx with hx;subst hx);exact h.2 k a y hj h0 hk e2 ha hy};rw[qF e2]at hx;by_cases e3:(k-1)/2=(j-1)/2;{rw[qE e3]at hx;(injection hx with hx;subst hx);exact o.tr _ _ _ hle (h.1 k a y h0 hk e1 (by rw[e3];exact ha) hy)};rw[qF e3]at hx;exact h.1 k x y h0 hk e1 hx hy};rw[hg]at hx hy;rw[qF qO,qF qO]at hx;by_cases e1:k=j;{subst e1;(rw[qE rfl]at hy;injection hy with hy;subst hy);exact h.1 _ x a hp qO qO hx ha};rw[qF e1,qF qO]at hy;exact o.tr _ _ _ (h.1 _ x a hp qO qO hx ha) (h.1 k a y h0 hk e1 (by rw[hpar];exact ha) hy)
def dS.done{l:List α}{n i:Nat}(h:dS le l n i)(hi:∀(k:Nat) (a b:α),0<k->k<n->(k-1)/2=i->l[i]?=some a->l[k]?=some b->le a b):cT le l n:=fun k a b h0 hk ha hb=>by
 by_cases e:(k-1)/2=i;{exact hi k a b h0 hk e (by rw[<-e];exact ha) hb};{exact h.1 k a b h0 hk e ha hb}
def dS.step(o:Jy le){l:List α}{n i j:Nat}(h:dS le l n i)(hj:0<j)(hjn:j<n)(hp:(j-1)/2=i){a b:α}(ha:l[i]?=some a)(hb:l[j]?=some b)(hle:le b a)(hmin:∀(k:Nat) (c:α),0<k->k<n->(k-1)/2=i->l[k]?=some c->le b c):dS le (bM l i j) n j:=by
 have hg:=lV ha hb;refine⟨fun k x y h0 hk hne hx hy=>?_,fun k x y _ h0 hk hpar hx hy=>?_⟩;{rw[hg]at hx hy;rw[qF hne]at hx;by_cases e1:k=j;{subst e1;(rw[qE rfl]at hy;rw[qE hp]at hx;injection hx with hx;injection hy with hy);subst hx hy;exact hle};rw[qF e1]at hy;by_cases e2:k=i;{subst e2;(rw[qE rfl]at hy;injection hy with hy;subst hy);rw[qF qO]at hx;exact h.2 j x b qO hj hjn hp hx hb};rw[qF e2]at hy;by_cases e3:(k-1)/2=i;{rw[qE e3]at hx;(injection hx with hx;subst hx);exact hmin k y h0 hk e3 hy};rw[qF e3]at hx;exact h.1 k x y h0 hk e3 hx hy};(rw[hg]at hx hy;rw[hp,qF qO,qE rfl]at hx;injection hx with hx;subst hx);rw[qF qO,qF qO]at hy;exact h.1 k b y h0 hk qO (by rw[hpar];exact hb) hy
def cT.top(o:Jy le){l:List α}{n:Nat}(h:cT le l n)(hn:n<=l.length):∀(k:Nat) (a b:α),k<n->l[0]?=some a->l[k]?=some b->le a b:=by
 intro k;(induction k using Nat.strongRecOn with|_ k ih=>(intro a b hk ha hb;rcases Ee k with h0|h0);{subst h0;(rw[ha]at hb;injection hb with hb;subst hb);exact o.refl _};obtain⟨c,hc⟩:∃c,l[(k-1)/2]?=some c:=⟨_,yG qO⟩;exact o.tr _ _ _ (ih _ qO a c qO ha hc) (h k c b h0 hk hc hb))
def cT.pop{l:List α}{n:Nat}(h:cT le l (n+1))(hn:l.length=n+1){a b:α}(ha:l[0]?=some a)(hb:l[n]?=some b):dS le (bM l 0 n) n 0:=by
 have hg:=lV ha hb;refine⟨fun k x y h0 hk hne hx hy=>?_,fun k x y hp=>qO⟩;rw[hg]at hx hy;rw[qF qO,qF qO]at hx;rw[qF qO,qF qO]at hy;exact h k x y h0 qO hx hy
def cT.push{l:List α}(h:cT le l l.length)(x:α):Ib le (l++[x]) (l.length+1) l.length:=by
 refine⟨fun k a b h0 hk hne ha hb=>?_,fun k a b hp h0 hk hpar=>qO⟩;rw[yR qO]at ha hb;exact h k a b h0 qO ha hb
end
def dJ(t:Tp)(a:Nat):Nat:=match t.links[a/2]? with
 |some l=>if a%2=0 then l.c0.toNat else l.c1.toNat
 |none=>0
def bC(t:Tp)(x:LN):Nat:=x.foldl (fun s a=>s+dJ t a) 0
def jzd6 t(x:LN)(a:Nat):bC t (x++[a])=bC t x+dJ t a:=by unfold bC;rw[Jq];rfl
def bO(t:Tp):LQ:=(List.range (2*t.links.length)).map fun a=>((dJ t a:Int):Rat)
def jzmo(t:Tp)(a:Nat)(ha:a/2<t.links.length):(bO t)[a]?.getD 0=((dJ t a:Int):Rat):=by
 unfold bO;rw[yW,xJ qO];rfl
def jzd7 t(x:LN):nu (bO t) x=((bC t x:Int):Rat):=by
 have qa:∀(y:LN) (s:Nat),y.foldl (fun s a=>s+(bO t)[a]?.getD 0) ((s:Int):Rat)=((y.foldl (fun s a=>s+dJ t a) s:Nat):Int):=(by intro y;(induction y with|nil=>intro s;rfl|cons a y ih=>intro s;rw[List.foldl_cons,List.foldl_cons, <-ih (s+dJ t a)];congr 1;rw[Jo,Rat.intCast_add];congr 1;by_cases ha:a/2<t.links.length;{exact jzmo t a ha};have h1:dJ t a=0:=(by unfold dJ;rw[yI qO]);have h2:(bO t)[a]?=none:=(by unfold bO;rw[yI (by simp;omega)]);rw[h1,h2];rfl));exact qa x 0
def dD(t:Tp)(x y:LN):Int:=FH (aI (bC t x) (bC t y)) (aI x.length y.length) (bG x y)
def jzmp(a b:Nat):aW ((a:Int):Rat) ((b:Int):Rat)=aI a b:=by
 unfold aW aI;by_cases h:a<b;{rw[qE (Rat.intCast_lt_intCast.2 qO),qE h]};rw[qF (fun h2=>h (by have:=Rat.intCast_lt_intCast.1 h2;omega)),qF h];by_cases e:a=b;{subst e;rw[qE rfl,qE rfl]};rw[qF (fun h2=>e (by have:=Rat.intCast_inj.1 h2;omega)),qF e]
def jzmq t(x y:LN):bJ (bO t) x y=decide (dD t x y<0):=by
 unfold bJ kP dD;rw[jzd7,jzd7,jzmp]
def Ce(B:Nat)(w:World)(A:OA)(xs:List Value):Prop:=og w 3 A xs/\∀p,A=some p->B<=p.block
def Ce.rd{B:Nat}{w}{A}{xs:List Value}(h:Ce B w A xs):Rd w A xs:=h.1.rd
def Ce.K{B:Nat}{w w'}{A}{xs:List Value}(h:Ce B w A xs)(hx:Ext w w'):Ce B w' A xs:=⟨h.1.K hx,h.2⟩
def Ce.other{B:Nat}{w w'}{A}{xs:List Value}{g:Nat}{t':TypeId}{cs':Array Value}(h:Ce B w A xs)(hg:w.grownBy w' (some g))(hb:ak w g t' cs')(hne:3≠t'):Ce B w' A xs:=⟨h.1.other hg hb hne,h.2⟩
def Ce.gK{B:Nat}{w w'}{A}{xs:List Value}{t':TypeId}{row:Option Nat}(h:Ce B w A xs)(hg:w.grownBy w' row)(hr:∀k,row=some k->∃cs fr,w.heap[k]?=some (.cells cs t' fr))(hne:3≠t'):Ce B w' A xs:=⟨h.1.gK hg hr hne,h.2⟩
def Ce.below{B:Nat}{w w'}{A}{xs:List Value}{g:Nat}(h:Ce B w A xs)(hg:w.grownBy w' (some g))(hB:g<B):Ce B w' A xs:=by
 refine⟨fun hx=>?_,h.2⟩;obtain⟨b,o,cs,fr,e,hb,hc⟩:=h.1 hx;have:=h.2 _ e;refine⟨b,o,cs,fr,e,(hg.block b (gB hb) (fun e2=>?_)).trans hb,hc⟩;injection e2 with e2
 subst e2;simp at this;omega
def Ig(t:Tp)(B:Nat)(w:World)(cs:List Value)(z:Nat×LN):Prop:=
 ∃(A:OA) (c:Nat),cs=[vI (z.1:Int),vI (bC t z.2:Nat),vI 0,.s A z.2.length c]/\z.2.length<=c/\Ce B w A (ints z.2)
def Ig.K{t}{B:Nat}{w w'}{cs:List Value}{z:Nat×LN}(h:Ig t B w cs z)(hx:Ext w w'):Ig t B w' cs z:=by
 obtain⟨A,c,h1,h2,h3⟩:=h;exact⟨A,c,h1,h2,h3.K hx⟩
def Ig.other{t}{B:Nat}{w w'}{cs:List Value}{z:Nat×LN}{g:Nat}{t':TypeId}{cs':Array Value}(h:Ig t B w cs z)(hg:w.grownBy w' (some g))(hb:ak w g t' cs')(hne:3≠t'):Ig t B w' cs z:=by
 obtain⟨A,c,h1,h2,h3⟩:=h;exact⟨A,c,h1,h2,h3.other hg hb hne⟩
def Ig.gK{t}{B:Nat}{w w'}{cs:List Value}{z:Nat×LN}{t':TypeId}{row:Option Nat}(h:Ig t B w cs z)(hg:w.grownBy w' row)(hr:∀k,row=some k->∃cs fr,w.heap[k]?=some (.cells cs t' fr))(hne:3≠t'):Ig t B w' cs z:=by
 obtain⟨A,c,h1,h2,h3⟩:=h;exact⟨A,c,h1,h2,h3.gK hg hr hne⟩
structure bW(t:Tp)(w:World)(B g n c:Nat)(hs:List (Nat×LN)):Prop where
 len:hs.length=n
 row:∃css:List (List Value),css.length=n/\(∀cs∈css,cs.length=4)/\w.ownsRow B 212 4 (.s (sA g) n c) n css.flatten/\∀(i:Nat) (z:Nat×LN),hs[i]?=some z->∃cs,css[i]?=some cs/\Ig t B w cs z
def bW.blk{t}{w}{B g n c:Nat}{hs:List (Nat×LN)}(h:bW t w B g n c hs):∃cs,ak w g 212 cs:=by
 obtain⟨css,_,_,h3,_⟩:=h.row;rcases h3.2 with⟨e,_⟩|⟨g',cap,cur,e,_,h5,_⟩
 ·cases e
 injection e with e
 injection e with e
 injection e with e
 subst e;exact⟨cur,h5⟩
def bW.K{t}{w w'}{B g n c:Nat}{hs:List (Nat×LN)}(h:bW t w B g n c hs)(hx:Ext w w'):bW t w' B g n c hs:=by
 obtain⟨css,h1,h2,h3,h4⟩:=h.row;refine⟨h.len,css,h1,h2,h3.kept (eU hx) (eV _),fun i z hz=>?_⟩;obtain⟨cs,k1,k2⟩:=h4 i z hz;exact⟨cs,k1,k2.K hx⟩
def bW.at_{t}{w}{B g n c:Nat}{hs:List (Nat×LN)}(h:bW t w B g n c hs){i:Nat}{z:Nat×LN}(hz:hs[i]?=some z):
  ∃(A:OA) (k:Nat),(w.C g (i*4) (vI (z.1:Int))/\w.C g (i*4+1) (vI (bC t z.2:Nat))/\w.C g (i*4+2) (vI 0)/\w.C g (i*4+3) (.s A z.2.length k))/\
   (w.frozen? (aD g (i*4))=false/\w.frozen? (aD g (i*4+1))=false/\w.frozen? (aD g (i*4+2))=false/\w.frozen? (aD g (i*4+3))=false)/\z.2.length<=k/\Ce B w A (ints z.2):=by
 obtain⟨css,h1,h2,h3,h4⟩:=h.row;obtain⟨cs,k1,A,k,rfl,k2,k3⟩:=h4 i z hz;have hi:=(yH.1 hz).1;have qf:i<n:=(by have:=h.len;omega);obtain⟨cb,hb⟩:=h.blk;have qa:∀j,j<4->w.cell? (aD g (i*4+j))=([vI (z.1:Int),vI (bC t z.2:Nat),vI 0,.s A z.2.length k]:List Value)[j]?:=fun j hj=>(by (have hf:=dV css h2 i j qO hj;rw[k1]at hf;rcases h3.2 with⟨e,_⟩|⟨g',cap,cur,e,_,h5,h6,h7,h8,h9⟩);{cases e};(injection e with e1 e2 e3);(injection e1 with e1);(injection e1 with e1);subst e1;have qe:ak w g 212 cur:=h5;rw[qe.cell, <-Gi];rw[<-h9,xG,qE qO]at hf;exact hf);exact⟨A,k,⟨qa 0 qO,qa 1 qO,qa 2 qO,qa 3 qO⟩,⟨hb.frozen _,hb.frozen _,hb.frozen _,hb.frozen _⟩,k2,k3⟩
def rJ{w:World}{B g n c s k:Nat}{e:TypeId}{xs:List Value}(h:w.ownsRow B e s (.s (sA g) n c) n xs)(u:Value):(w.setCell (aD g k) u).ownsRow B e s (.s (sA g) n c) n (xs.set k u):=by
 refine⟨by rw[yV];exact h.1,?_⟩;rcases h.2 with⟨h3,h4⟩|⟨g',cap,cur,h3,h4,h5,h6,h7,h8,h9⟩
 ·cases h3
 have qa:=h3;injection h3 with e1 e2 e3
 injection e1 with e1
 injection e1 with e1
 subst e1;refine .inr ⟨g,cap,cur.setIfInBounds k u,qa,h4,(show ak w g e cur from h5).sT k u,h6,h7,by simpa using h8,?_⟩;rw[Array.toList_setIfInBounds, <-h9,List.take_set]
def jzmr{w:World}{B g n c i:Nat}{e:TypeId}{css:List (List Value)}(h:w.ownsRow B e 4 (.s (sA g) n c) n css.flatten)(h1:css.length=n)(h2:∀cs∈css,cs.length=4)(hi:i<n)(v0 v1 v2 v3:Value):
  ((((w.setCell (aD g (i*4)) v0).setCell (aD g (i*4+1)) v1).setCell (aD g (i*4+2)) v2).setCell (aD g (i*4+3)) v3).ownsRow B e 4 (.s (sA g) n c) n (css.set i [v0,v1,v2,v3]).flatten:=by
 have qa:i<css.length:=qO;obtain⟨cs,qf⟩:∃cs,css[i]?=some cs:=⟨_,yG qa⟩;have qe:cs.length=4:=h2 cs (yJ qf);have e0:css=css.set i cs:=(by apply uK;intro j;by_cases e:i=j;{subst e;rw[yM qa];exact qf};rw[vN e]);have b:=rJ (k:=i*4+3) (rJ (k:=i*4+2) (rJ (k:=i*4+1) (rJ (k:=i*4+0) h v0) v1) v2) v3;rw[e0,fF css h2 i qa cs 0 _ qe qO,fF css h2 i qa _ 1 _ (by simp[qe]) qO,fF css h2 i qa _ 2 _ (by simp[qe]) qO,fF css h2 i qa _ 3 _ (by simp[qe]) qO]at b;have e3:(((cs.set 0 v0).set 1 v1).set 2 v2).set 3 v3=[v0,v1,v2,v3]:=(by (rcases cs with _|⟨a0,_|⟨a1,_|⟨a2,_|⟨a3,_|⟨a4,r⟩⟩⟩⟩⟩);all_goals first|(simp at qe;done)|rfl);rw[e3]at b;exact b
def jzb(w:World)(g i:Nat)(v0 v1 v2 v3:Value):w.grownBy ((((w.setCell (aD g (i*4)) v0).setCell (aD g (i*4+1)) v1).setCell (aD g (i*4+2)) v2).setCell (aD g (i*4+3)) v3) (some g):=
 (((aM w g (i*4) v0).trans (aM _ g (i*4+1) v1)).trans (aM _ g (i*4+2) v2)).trans (aM _ g (i*4+3) v3)
def bW.put{t}{w}{B g n c i:Nat}{hs:List (Nat×LN)}{z:Nat×LN}{A}{k:Nat}(h:bW t w B g n c hs)(hi:i<n)(hk:z.2.length<=k)(hA:Ce B w A (ints z.2)):
  bW t ((((w.setCell (aD g (i*4)) (vI (z.1:Int))).setCell (aD g (i*4+1)) (vI (bC t z.2:Nat))).setCell (aD g (i*4+2)) (vI 0)).setCell (aD g (i*4+3)) (.s A z.2.length k)) B g n c (hs.set i z):=by
 obtain⟨cb,hb⟩:=h.blk;obtain⟨css,h1,h2,h3,h4⟩:=h.row;have hg:=jzb w g i (vI (z.1:Int)) (vI (bC t z.2:Nat)) (vI 0) (.s A z.2.length k);refine⟨by rw[yV];exact h.len,css.set i [vI (z.1:Int),vI (bC t z.2:Nat),vI 0,.s A z.2.length k],by rw[yV];exact h1,fun cs hc=>?_,jzmr h3 h1 h2 hi _ _ _ _,fun j y hj=>?_⟩;{(rcases xE hc with hc|hc);{exact h2 cs hc};rw[hc];rfl};by_cases e:i=j;{subst e;(rw[yM (by have:=h.len;omega)]at hj;injection hj with hj);subst hj;exact⟨_,yM qO,A,k,rfl,hk,hA.other hg hb qD⟩};rw[vN e]at hj;obtain⟨cs,k1,k2⟩:=h4 j y hj;exact⟨cs,by rw[vN e];exact k1,k2.other hg hb qD⟩
structure Ar(t:Tp)(w:World)(B q g n c:Nat)(hs:List (Nat×LN)):Prop where
 box:ak w q 214 #[.s (sA g) n c]
 row:bW t w B g n c hs
def Ar.K{t}{w w'}{B q g n c:Nat}{hs:List (Nat×LN)}(h:Ar t w B q g n c hs)(hx:Ext w w'):Ar t w' B q g n c hs:=⟨h.box.K hx,h.row.K hx⟩
def bW.below{t}{w w'}{B g n c b:Nat}{hs:List (Nat×LN)}(h:bW t w B g n c hs)(hg:w.grownBy w' (some b))(hB:b<B)(hgB:B<=g):bW t w' B g n c hs:=by
 obtain⟨css,h1,h2,h3,h4⟩:=h.row;refine⟨h.len,css,h1,h2,h3.kept hg (.inr (fun e=>?_)),fun i z hz=>?_⟩;{have e:some g=some b:=e;(injection e with e);omega};obtain⟨cs,k1,A,c',k2,k3,k4⟩:=h4 i z hz;exact⟨cs,k1,A,c',k2,k3,k4.below hg hB⟩
def bW.lo{t}{w}{B g n c:Nat}{hs:List (Nat×LN)}(h:bW t w B g n c hs):B<=g:=by
 obtain⟨css,h1,h2,h3,h4⟩:=h.row;exact(h3.lt g rfl).1
def Ar.below{t}{w w'}{B q g n c b:Nat}{hs:List (Nat×LN)}{cs:Array Value}(h:Ar t w B q g n c hs)(hg:w.grownBy w' (some b))(hb:ak w b 3 cs)(hB:b<B):Ar t w' B q g n c hs:=
 ⟨(hg.block q h.box.lt (fun e=>by injection e with e;exact h.box.ne_ hb qD e)).trans h.box,h.row.below hg hB h.row.lo⟩
def cO(t:Tp)(down:List Bool)(ps:LQ):Bool:=!aG t||!bU t down||!dL t ps
def Co(t:Tp)(down:List Bool)(ps:LQ)(s d:Int):LN×Int:=
 if cO t down ps then([],1)else if dR t s d then([],2)else match eH t down ps s.toNat d.toNat with
  |none=>([],11)
  |some l=>(l,0)
def jzms(w:World)(ps:LQ)(r:LN×Int)(e:Ending)(w':World):Prop:=
 ∃(A:OA) (c:Nat) (neg:Bool) (A1:OA) (n1 c1:Nat) (A2:OA) (n2 c2:Nat),e=.returned (.tuple #[.s A r.1.length c,.agg #[.bool neg,.s A1 n1 c1,.s A2 n2 c2],vI r.2])/\r.1.length<=c/\og w' 3 A (ints r.1)/\aC w' neg A1 n1 c1 A2 n2 c2 (nu ps r.1)/\Ext w w'
def oG(w:World)(ps:LQ)(r:LN×Int)(e:Ending)(w':World):Prop:=
 ∃(A:OA) (c:Nat) (neg:Bool) (A1:OA) (n1 c1:Nat) (A2:OA) (n2 c2:Nat),e=.returned (.tuple #[.s A r.1.length c,.agg #[.bool neg,.s A1 n1 c1,.s A2 n2 c2],vI r.2])/\r.1.length<=c/\Ie w.heap.size w' A (ints r.1)/\aC w' neg A1 n1 c1 A2 n2 c2 (nu ps r.1)/\Ext w w'
def oG.weak{w}{ps:LQ}{r:LN×Int}{e:Ending}{w'}(h:oG w ps r e w'):jzms w ps r e w':=by
 obtain⟨A,c,neg,A1,n1,c1,A2,n2,c2,h1,h2,h3,h4,h5⟩:=h;exact⟨A,c,neg,A1,n1,c1,A2,n2,c2,h1,h2,h3.1,h4,h5⟩
def Ie.nil(B:Nat)w:Ie B w none []:=⟨og.nil _ _ _,fun p hp=>by cases hp⟩
def nS.ext{W w}{ps:LQ}{aj:LN}{p:Value}(h:nS W ps aj p w):Ext W w:=by
 obtain⟨_,_,_,_,_,_,_,_,_,_,_,_,_,_,_,_,h⟩:=h;exact h
structure Dh(b:Nat)(X Z:World)(a:Int)(oB oL:Option Nat):Prop where
 x:Ext X Z
 h0:b<=Z.heap.size
 sb:∀g,oB=some g->ak Z g 3 #[vI a]
 sl:∀g,oL=some g->b<=g/\ak Z g 170 rW
section
variable {b:Nat} {X Z Z':World} {a:Int} {oB oL:Option Nat}
def Dh.K(h:Dh b X Z a oB oL)(hx:Ext Z Z'):Dh b X Z' a oB oL:=⟨h.x.tr hx,yY h.h0 hx.size,fun g e=>(h.sb g e).K hx,fun g e=>⟨(h.sl g e).1,(h.sl g e).2.K hx⟩⟩
def Dh.re(h:Dh b X Z a oB oL):Dh b Z Z a oB oL:=⟨eR _,h.h0,h.sb,h.sl⟩
def Dh.ab(h:Dh b X Z a oB oL):Dh b X (Z.alloc (.cells #[vI a] 3)) a (some Z.heap.size) oL:=by
 have k:=h.K ((eR Z).alloc (.cells #[vI a] 3));exact⟨k.x,k.h0,fun g e=>by cases e;exact eN ..,k.sl⟩
def Dh.al(h:Dh b X Z a oB oL):Dh b X (Z.alloc (.cells rW 170)) a oB (some Z.heap.size):=by
 have k:=h.K ((eR Z).alloc (.cells rW 170));exact⟨k.x,k.h0,k.sb,fun g e=>by cases e;exact⟨h.h0,eN ..⟩⟩
def Dh.abl(h:Dh b X Z a oB oL):Dh b X ((Z.alloc (.cells #[vI a] 3)).alloc (.cells rW 170)) a (some Z.heap.size) (some (Z.heap.size+1)):=by
 have k:=h.ab.al;rwa [show(Z.alloc (.cells #[vI a] 3)).heap.size=Z.heap.size+1 by simp]at k
def Dh.alb(h:Dh b X Z a oB oL):Dh b X ((Z.alloc (.cells rW 170)).alloc (.cells #[vI a] 3)) a (some (Z.heap.size+1)) (some Z.heap.size):=by
 have k:=h.al.ab;rwa [show(Z.alloc (.cells rW 170)).heap.size=Z.heap.size+1 by simp]at k
def Dh.dr(h:Dh b X Z a oB oL):Dh b X Z.drew a oB oL:=h.K ((eR Z).drewN 1)
def Dh.calls{P:Program}{f:Nat}{args:Array Value}{Q:Ending->World->Prop}(_:Dh b X Z a oB oL)(k:Calls P f args Z Q):Calls P f args Z Q:=k
def Dh.wp{P:Program}{o:Oper}{c:Act}{K:Act->World->Prop}{Q:Exit->Act->World->Prop}(_:Dh b X Z a oB oL)(k:o.wp P c Z K Q):o.wp P c Z K Q:=k
end
def jzmt t AO(co:Nat)AL(cl:Nat)AD(cd:Nat)(down:List Bool)PP(cp:Nat)(ps:LQ)(P:Nat)(s d:Int)w(ht:aR w t AO co AL cl)(vm:Rd w AD (bB down))(hcd:down.length<=281474976710656)(hdc:down.length<=cd)(hps:QL w PP ps)(hpl:ps.length<=1000000)(hP:1<=P)(hP2:P<=1000000)(hsz:∀q∈ps,dx q P):
  Calls prog 49 #[.agg #[vI t.nodes,.s AO t.over.length co,.s AL t.links.length cl],.s AD down.length cd,.s PP ps.length cp,vI s,vI d] w (oG w ps (Co t down ps s d)):=by
 have HT:=Hx (ht);have ji:=Hx (vm);have yb:=Hx (hps);have vu:=Hx (hsz);have h3:=ht.ll;have h4:=ht.cl;clear ht vm hps hsz;generalize hR:Co t down ps s d=R;have HR:=Hx (hR);clear hR;obtain⟨b0,b1,e0⟩:=cN w #[vI t.nodes,.s AO t.over.length co,.s AL t.links.length cl] 25 rV 33;obtain⟨⟨i0,i1,i2⟩,g0,g1,g2⟩:=b0.t3;have BB:=Hx (ah b0 b1);clear b0 b1;go_enter func49,ntmps49;(go_upto_region 1 with fail);go_cut [35] (fun s wx=>s=.bool (cO t down ps)/\ak wx w.heap.size 25 #[vI t.nodes,.s AO t.over.length co,.s AL t.links.length cl]/\ak wx (w.heap.size+1) 33 rV/\Ext w wx);(case first=>(go_wp2_with fail);refine(pJ t AO co AL cl _ (HT.o.K e0)).r fun w1 qo=>?_;have qe:=BB.o.1.K qo;have qf:=BB.o.2.K qo;obtain⟨⟨i0,i1,i2⟩,g0,g1,g2⟩:=qe.t3;have E1:=Hx (e0.tr qo);clear qo;cases hv:aG t;(case false=>go_wp2;go_meet;exact⟨by simp[cO,hv],qe,qf,E1.o⟩);have HV:=Hx (hv);go_wp2_with fail;refine(jza9 t AO co AL cl AD cd down _ (HT.o.K E1.o)).r fun w2 qH=>?_;have qe:=qe.K qH;have qf:=qf.K qH;obtain⟨⟨i0,i1,i2⟩,g0,g1,g2⟩:=qe.t3;have E2:=Hx (E1.o.tr qH);clear qH;cases hf:bU t down;(case false=>go_wp2;go_meet;exact⟨by simp[cO,hf],qe,qf,E2.o⟩);have HF:=Hx (hf);go_wp2_with fail;refine(jzkq t AO co AL cl PP cp ps _ (HT.o.K E2.o) (yb.o.K E2.o) hpl).r fun w3 q3=>?_;have qe:=qe.K q3;have qf:=qf.K q3;have E3:=Hx (E2.o.tr q3);clear q3;go_wp2;go_meet;exact⟨by simp[cO,HV.o,HF.o],qe,qf,E3.o⟩);obtain⟨rfl,qe,qf,hx⟩:=hcut;clear i0 i1 i2 g0 g1 g2 e0;have EX:=Hx (hx);obtain⟨⟨i0,i1,i2⟩,g0,g1,g2⟩:=qe.t3;obtain⟨⟨j0,j1,j2⟩,k0,k1,k2⟩:=qf.t3;cases hb1:cO t down ps
 case true=>
  have hr:R=([],1):=(by rw[<-HR.o];unfold Co;rw[hb1];rfl);subst hr;go_wp2;have q4:=((qf.sT 0 bF).sT 1 zN).sT 2 zN;exact bodyPost_ret (v:=.tuple #[zN,.agg rV,vI 1]) (by simp[results,results49,go_sem,q4.cell]) rfl
   ⟨none,0,false,none,0,0,none,0,0,rfl,yX _,Ie.nil _ _,fE _,((EX.o.sT qL _).sT qL _).sT qL _⟩
 have zV:=Hx (hb1);clear hb1;have vL:dR t s d= !(Cr t.nodes s&&Cr t.nodes d):=(by unfold dR Cr;rw[Bool.eq_iff_iff];simp;omega);have vJ:=Hx (vL);have vF:=Hx qf;clear vL qf;(go_upto_region 3 with fail);go_cut [46] (fun x wx=>x=.bool (dR t s d)/\ak wx w.heap.size 25 #[vI t.nodes,.s AO t.over.length co,.s AL t.links.length cl]/\ak wx (w.heap.size+1) 33 rV/\Ext w wx);(case first=>(go_wp2_with fail);refine(lI t AO co AL cl s _).r fun w1 qo=>?_;have qe:=qe.K qo;have vh:=Hx (vF.o.K qo);obtain⟨⟨i0,i1,i2⟩,g0,g1,g2⟩:=qe.t3;have E1:=Hx (EX.o.tr qo);clear qo;cases hn1:Cr t.nodes s;(case false=>go_wp2;go_meet;exact⟨by rw[vJ.o,hn1];rfl,qe,vh.o,E1.o⟩);have yw:=Hx (hn1);clear hn1;go_wp2_with fail;refine(lI t AO co AL cl d _).r fun w2 qH=>?_;have qe:=qe.K qH;have yt:=Hx (vh.o.K qH);have E2:=Hx (E1.o.tr qH);clear qH;go_wp2;go_meet;exact⟨by rw[vJ.o,yw.o];simp,qe,yt.o,E2.o⟩);obtain⟨rfl,qe,qf,hx⟩:=hcut;clear i0 i1 i2 g0 g1 g2 j0 j1 j2 k0 k1 k2 vF;have EX:=Hx (hx);obtain⟨⟨i0,i1,i2⟩,g0,g1,g2⟩:=qe.t3;obtain⟨⟨j0,j1,j2⟩,k0,k1,k2⟩:=qf.t3;clear hx;cases hb2:dR t s d
 case true=>
  have hr:R=([],2):=(by rw[<-HR.o];unfold Co;rw[zV.o,hb2];rfl);subst hr;go_wp2;have q4:=((qf.sT 0 bF).sT 1 zN).sT 2 zN;exact bodyPost_ret (v:=.tuple #[zN,.agg rV,vI 2]) (by simp[results,results49,go_sem,q4.cell]) rfl
   ⟨none,0,false,none,0,0,none,0,0,rfl,yX _,Ie.nil _ _,fE _,((EX.o.sT qL _).sT qL _).sT qL _⟩
 have hv:aG t=true/\bU t down=true/\dL t ps=true:=(by have:=zV.o;unfold cO at this;simp at this;exact⟨this.1.1,this.1.2,this.2⟩);have x7:0<=s/\s<t.nodes/\0<=d/\d<t.nodes:=(by unfold dR at hb2;simp at hb2;omega);(have hr:R=match eH t down ps s.toNat d.toNat with|none=>([],11)|some l=>(l,0):=by rw[<-HR.o];unfold Co;rw[zV.o,hb2];rfl);obtain⟨n,rfl⟩:∃n:Nat,s=(n:Int):=⟨s.toNat,qO⟩;obtain⟨m,rfl⟩:∃m:Nat,d=(m:Int):=⟨d.toNat,qO⟩;rw[xL,xL]at hr;have v0:=Hx (hr);have HV:=Hx (hv);have SD:=Hx (x7);have vF:=Hx qf;clear hr hv x7 hb2 qf;go_wp2_with fail;refine(tW t AO co AL cl _ (HT.o.K EX.o) HV.o.1).mono ?_;rintro e w1 ⟨Io,N,hN,rfl,xp,qo⟩;have qe:=qe.K qo;have vh:=Hx (vF.o.K qo);have E1:=Hx (EX.o.tr qo);have xt:=Hx (xp);clear qo xp i0 i1 i2 g0 g1 g2 j0 j1 j2 k0 k1 k2 vF;have vT:N<=64:=(by have:=HV.o.1;unfold aG cF kg at this;simp at this;omega);have yx:=jzkv N qO;have zI:=Hx qe;rw[hN]at qe;obtain⟨⟨i0,i1,i2⟩,g0,g1,g2⟩:=qe.t3;have vW:n<N/\m<N:=(by have:=SD.o;omega);have zZ:=zI.o.lt;have zH:=vh.o.lt;have HN:=Hx (hN);clear hN qe;obtain⟨vW,jR⟩:=vW;have yp:(n:Int)<(N:Int):=qO;have jk:(madeCells rW (N*6))[n*6]?=some bF:=(by have zj:∀cs∈List.replicate N zeroCells,cs.length=6:=fun cs h=>(by rw[uF h];rfl);rw[uP,xI];have h1:=dV _ zj n 0 (by rw[xC];exact vW) qO;rw[Ef,xB,qE vW,DL]at h1;rw[h1];rfl)
 have yh:cM (cC N n)<=N:=(by have:=nP (cC N n);simp[cC]at this⊢;omega);have LM:=Hx (jzkw w1 ps N n vW);have xx:=Hx (show gZ w (w1.alloc (.cells ((madeCells rW (N*6)).setIfInBounds (n*6) (.bool true)) 170)) t AO co AL cl ps w1.heap.size Io N (cC N n)from
  ⟨zI.o.alloc _,vh.o.alloc _,LM.o,by simp[cC],fun l hl=>by
   have hu:=nP (cC N n);have:l.aj=[]:=by
    unfold cC at hl;rcases xE hl with h|h
    ·
     rw[uF h]
    rw[h]
   rw[this];simpa using hu,xt.o.K ((eR w1).alloc _),qO,E1.o.alloc _,GJ.made _ _ _ _⟩)
 have qz:eH t down ps n m=gD t down ps m (N+1) (cC N n):=(by unfold eH;rw[HN.o];rfl);rw[qz]at v0;clear qz;go_wp2;clear yx jk i0 i1 i2 g0 g1 g2 zI vh xt zZ zH;generalize hDR:gD t down ps m (N+1) (cC N n)=DR at*;have xe:=Hx hDR;clear hDR;generalize w1.heap.size=g at*;generalize w1.alloc (.cells ((madeCells rW (N*6)).setIfInBounds (n*6) (.bool true)) 170)=w2 at*;go_loopg [15,16,18,19,20] N (fun k _ _ _ _ _ wr=>∃(f:Nat) (ls:List Lb),f=k/\cM ls<=f/\gZ w wr t AO co AL cl ps g Io N ls/\gD t down ps m (f+1) ls=DR);exact⟨N,cC N n,rfl,yh,xx.o,xe.o⟩;clear xx xe yh;obtain⟨f,ls,rfl,j4,qp,va⟩:=hrel;have qm:=jzks g ps ls wr qp.lab (jzce hP hP2 vu.o qp.ok qp.len vT) (by rw[qp.len];omega);rw[qp.len]at qm;have qV:=Hx qm;have vx:=uO ps ls ls.length;have zQ:=nL ps ls ls.length;change bZ ps ls= -1\/_ at vx;change 0<=bZ ps ls->∃l,ls[(bZ ps ls).toNat]?=some l/\_ at zQ;rw[gD]at va;have ST:=Hx qp;have zT:=Hx va;have FF:=Hx zQ;clear qm qp va zQ;go_wp2_with fail;refine qV.o.mono ?_;rintro e w3 ⟨rfl,q3⟩;have qg:=Hx (ST.o.K q3);clear q3 qV;generalize bZ ps ls=q at*;by_cases hq:q<0
 ·have hr:R=([],11):=(by rw[v0.o, <-zT.o,qE hq])
  subst hr;have xn:decide (q<0)=true:=yO hq;have qf:=qg.o.rr;have EX:=Hx qg.o.ext;obtain⟨⟨j0,j1,j2⟩,k0,k1,k2⟩:=qf.t3;go_wp2;have q4:=((qf.sT 0 bF).sT 1 zN).sT 2 zN;exact bodyPost_ret (v:=.tuple #[zN,.agg rV,vI 11]) (by simp[results,results49,go_sem,q4.cell]) rfl
   ⟨none,0,false,none,0,0,none,0,0,rfl,yX _,Ie.nil _ _,fE _,((EX.o.sT qL _).sT qL _).sT qL _⟩
 (have xn:decide (q<0)=false:=yP hq;rcases vx with vx|vx);{omega};obtain⟨v,rfl⟩:∃v:Nat,q=(v:Int):=⟨q.toNat,qO⟩;obtain⟨lv,qT,zA,q9⟩:=FF.o qO;rw[xL]at qT;have ja:v<ls.length:=(yH.1 qT).1;have xi:v<N:=(by have:=qg.o.len;omega);have yk:(v:Int)<(N:Int):=qO;have q7:=zT.o;rw[qF hq,xL]at q7;have q8:=Hx q7;have qC:=Hx qT;have yg:=Hx (ah zA q9);obtain⟨neg,A,n1,c1,A',vZ,v5,AX,cx,⟨i0,i1,i2,i3,i4,i5⟩,qZ,xA,zO⟩:=qg.o.lab.at_ qT;rw[zA]at i0;rw[q9]at i1;clear q7 zT qT zA q9 vx hq;by_cases yr:v=m
 ·subst yr;have jF:((v:Int)==(v:Int))=true:=qS;have qf:=qg.o.rr;have yu:R=(lv.aj,0):=(by rw[v0.o, <-q8.o,qE rfl];unfold dH;rw[qC.o];rfl);subst yu;obtain⟨⟨j0,j1,j2⟩,k0,k1,k2⟩:=qf.t3;have jG:g≠w.heap.size+1:=(by have:=qg.o.gg;omega);have yn:=qg.o.lab.lt;have RT:=Hx qZ;have XX:=Hx (ah zO (qg.o.fa v _ _ _ i5));have jy:=Hx qf;clear qZ zO qf;go_wp2;go_region
  go_wp2;have q0:ak w3 (w.heap.size+1) 33 _:=jy.o;have q1:=q0.sT 0 (.bool neg);have q2:=q1.sT 1 (.s A n1 c1);have q4:=q2.sT 2 (.s A' vZ v5);have x0:og w3 3 AX (ints lv.aj):=XX.o.1;have r0:aC w3 neg A n1 c1 A' vZ v5 (nu ps lv.aj):=RT.o;have EX:=qg.o.ext;refine bodyPost_ret (v:=.tuple #[.s AX lv.aj.length cx,.agg #[.bool neg,.s A n1 c1,.s A' vZ v5],vI 0]) (by simp[results,results49,go_sem,q4.cell]) rfl
   ⟨AX,cx,neg,A,n1,c1,A',vZ,v5,rfl,xA,?_,?_,?_⟩
  {refine⟨?_,XX.o.2⟩;exact((x0.sT (p:=(aD (w.heap.size+1) 0)) q0 qD _).sT (p:=(aD (w.heap.size+1) 1)) q1 qD _).sT (p:=(aD (w.heap.size+1) 2)) q2 qD _};{exact((r0.sT (p:=(aD (w.heap.size+1) 0)) q0 qD _).sT (p:=(aD (w.heap.size+1) 1)) q1 qD _).sT (p:=(aD (w.heap.size+1) 2)) q2 qD _};exact(((EX.sT qL _).sT qL _).sT qL _).drewN 1
 have jF:((v:Int)==(m:Int))=false:=yK.2 qO;have vH:=jzcc qC.o yg.o.2;have x8:(eF ls v).length=N:=(by unfold eF;rw[qC.o,yV];exact qg.o.len);have xc:nO (eF ls v):=fun l hl=>(by have h1:l.aj.length+cM ls<=ls.length:=(by (unfold eF at hl;rw[qC.o]at hl;rcases xE hl with h|h);{exact qg.o.ok l h};rw[h];exact qg.o.ok lv (yJ qC.o));have:=qg.o.len;omega);have yi:=Hx (qg.o.turn (aM w3 g (v*6+1) (.bool true)) (qg.o.lab.mark qC.o) x8 xc (qg.o.fa.mark qg.o.lab _));have jq:w3.frozen? (aD g (v*6+1))=false:=(by obtain⟨css,_,_,h9,_⟩:=qg.o.lab;exact h9.frozen _);have q7:=q8.o;rw[qF qO]at q7;have zW:=Hx q7;have AV:=Hx (show∃l,(eF ls v)[v]?=some l/\l.done=true/\l.aj.length+cM (eF ls v)<N by refine⟨⟨lv.known,true,lv.aj⟩,?_,rfl,?_⟩;{unfold eF;rw[qC.o,yM ja]};have h1:=qg.o.ok lv (yJ qC.o);have h2:=qg.o.len;simp only[];omega);have xK:=Hx vH;clear vH x8 xc q7 q8 qZ zO v0 i0 i2 i3 i4 i5 xA yg;(go_upto_region 14 with fail);go_cut [] (fun wx=>gZ w wx t AO co AL cl ps g Io N (eF ls v));(case first=>go_wp2;go_meet;exact yi.o);clear yi qg jq i1 qC xn;obtain⟨V,v1,v2⟩:=hcut.ll;have xu:=(v1.cell v).trans (pL _ V v xi);obtain⟨AR,cr,v3,jT,ve⟩:=v2 v xi;rw[v3]at xu;have zC:=lJ t (2*t.links.length) v;change (aL t v).length<=_ at zC;have xa:=Hx hcut;have xN:=Hx ve;clear v1 v2 v3 ve hcut;generalize hL:(aL t v).length=L at*;have HL:=Hx (hL);clear hL;generalize hM:eF ls v=Gh at*;clear hM;go_wp2;go_loopg [18,19,20,84] L (fun k _ _ _ it wr=>∃j:Nat,L-j=k/\j<=L/\it=vI j/\og wr 3 AR (ints (aL t v))/\gZ w wr t AO co AL cl ps g Io N (((aL t v).take j).foldl (dW t down ps m v) Gh)/\cM (((aL t v).take j).foldl (dW t down ps m v) Gh)=cM Gh/\∃l,(((aL t v).take j).foldl (dW t down ps m v) Gh)[v]?=some l/\l.done=true/\l.aj.length+cM Gh<N);exact⟨0,rfl,yZ _,rfl,xN.o,xa.o,rfl,AV.o⟩;clear xa xu xN;obtain⟨j,rfl,hj,rfl,ve,qp,yj,jw⟩:=hrel;generalize hQ:((aL t v).take j).foldl (dW t down ps m v) Gh=lq at*;have HQ:=Hx (hQ);have vG:=Hx (yj);clear hQ yj;obtain⟨la,yd,vm,zE⟩:=jw;have q6:=Hx yd;have qA:=Hx vm;clear yd vm;by_cases xb:j<L
 ·obtain⟨a,ha⟩:∃a,(aL t v)[j]?=some a:=⟨_,yG (by rw[HL.o];exact xb)⟩;have jB:a<2*t.links.length:=jzbh (yJ ha);obtain⟨h,hh,ju⟩:=pN HV.o.1 jB;rw[HN.o]at ju;have jC:a<ps.length:=(by have:=HV.o.2.2;unfold dL at this;simp at this;omega);obtain⟨b,o,rfl,jN,z7⟩:=ve.rd.Cg (k:=j) (by rw[HL.o];exact xb);rw[ha,DL]at z7;have vV:=qp.tt;obtain⟨⟨i0,i1,i2⟩,zk,zX,zY⟩:=vV.t3;have qk:=Hx (show((aL t v).take (j+1)).foldl (dW t down ps m v) Gh=dW t down ps m v lq a by rw[Dj,ha,Jq,HQ.o];rfl);have zz:=Hx qp;have xr:=Hx ve;have HH:=Hx (hh);clear ha qp ve hh vV;go_wp2_with fail;refine(mC t AO co AL cl a _ (HT.o.K zz.o.ext) qO).r fun w6 vi=>?_;rw[HH.o];have qQ:=Hx (zz.o.K vi);have zu:=Hx (xr.o.K vi);clear vi zz xr i0 i1 i2 zk zX zY z7;have xq:h<lq.length:=(by have:=qQ.o.len;omega);have j9:(h:Int)<(N:Int):=qO;obtain⟨lh,za⟩:∃lh,lq[h]?=some lh:=⟨_,yG xq⟩;obtain⟨jA,A2,n2,c2,jH,jJ,jL,jW,j6,⟨y0,y1,y2,y3,y4,y5⟩,qJ,yq,vo⟩:=qQ.o.lab.at_ za;have qh:=Hx (show dW t down ps m v lq a=if lh.done||!cV t down a m then lq else if !lh.known||bJ ps (dH lq v++[a]) lh.aj then lq.set h ⟨true,false,dH lq v++[a]⟩else lq by unfold dW;rw[HH.o,xL,za]);have vw:=Hx za;clear za;cases hld:lh.done;(case true=>rw[hld]at y1;have hS:=qh.o;rw[hld]at hS;simp only[Bool.true_or,if_true]at hS;have HS:=Hx (qk.o.trans hS);have vd:Hid (∃l,lq[v]?=some l/\l.done=true/\l.aj.length+cM Gh<N):=Hx (⟨la,q6.o,qA.o,zE⟩);clear hS qk qh hld;go_wp2;go_roundg (L-(j+1));exact⟨j+1,rfl,qO,by go_num,zu.o,by rw[HS.o];exact qQ.o,by rw[HS.o];exact vG.o,by rw[HS.o];exact vd.o⟩;omega);rw[hld]at y1;have vV:=qQ.o.tt;obtain⟨⟨i0,i1,i2⟩,zk,zX,zY⟩:=vV.t3;have xf:t.over=[]\/aK t a<t.over.length:=(by (have:=HV.o.1;unfold aG cF at this;simp at this;rw[HH.o];have jP:=HN.o;rcases this.1.2 with e|e);{exact .inl e};right;omega);have x4:down=[]\/a<down.length:=(by (have:=HV.o.2.1;unfold bU at this;simp at this;rcases this with e|e);{exact .inl e};right;omega);have x1:=Hx xf;have xX:=Hx x4;have zS:=Hx hld;clear xf x4 vV hld;go_wp2_with fail;refine(jzi0 t AO co AL cl AD cd down a m _ (HT.o.K qQ.o.ext) qO (ji.o.K qQ.o.ext) hdc hcd xX.o (by rw[HH.o];omega) x1.o).r fun w7 vO=>?_;have qB:=Hx (qQ.o.K vO);have zw:=Hx (zu.o.K vO);clear vO qQ zu i0 i1 i2 zk zX zY x1 xX y0 y1 y2 y3 y4 y5 qJ vo;cases Ez:cV t down a m;(case false=>have hS:=qh.o;rw[Ez]at hS;simp only[Bool.not_false,Bool.or_true,if_true]at hS;have HS:=Hx (qk.o.trans hS);have vd:Hid (∃l,lq[v]?=some l/\l.done=true/\l.aj.length+cM Gh<N):=Hx (⟨la,q6.o,qA.o,zE⟩);clear hS qk qh Ez;go_wp2;go_roundg (L-(j+1));exact⟨j+1,rfl,qO,by go_num,zw.o,by rw[HS.o];exact qB.o,by rw[HS.o];exact vG.o,by rw[HS.o];exact vd.o⟩;omega);have hS:=qh.o;rw[Ez,zS.o]at hS;simp only[Bool.not_true,Bool.or_false,Jr,if_false]at hS;have HS:=Hx (qk.o.trans hS);have vq:=Hx qk.o;clear hS qk qh Ez;(go_upto_region 20 with fail);obtain⟨vg,Av,nv,cv,zc,zF,zi,zd,zD,⟨yl,jf,x5,z9,x6,yf⟩,zt,yo,x2⟩:=qB.o.lab.at_ q6.o;obtain⟨qa,v7⟩:∃qa,ps[a]?=some qa:=⟨_,yG jC⟩;obtain⟨bp,op,q5,Ap,np,zg,zR,zb,zp,rfl,v4,xl,yc,xd,zP⟩:=(yb.o.K qB.o.ext).at_ v7;have jn:=Hx (show ps[a]?.getD 0=qa by rw[v7];rfl);have vy:=qB.o.lab.lt;have vp:dx (nu ps la.aj) 134217728:=(dx.pr hP vu.o la.aj).mono (by have h2:la.aj.length*(P+1)<=64*1000001:=DK qO qO;omega);have qT:=zt.lens vp;have xy:=zP.lens ((vu.o qa (yJ v7)).mono (show P<=134217728 by omega));have xz:=Hx zt;have xo:=Hx zP;have xh:=Hx x2;have y6:la.aj.length<=64:=qO;obtain⟨ti,hi,jm,jx,y7⟩:=info_parts Tryz.info3;have zs:=Hx zE;clear v7 zt zP x2 vp yl jf;obtain⟨W,z6⟩:∃W,W=w7:=⟨_,rfl⟩;have qB:=Hx (z6▸qB.o);subst z6;go_cut [20] (nS W ps (la.aj++[a]))
  case first=>
   have jQ:(0:Int)<=(a:Int):=qO;have jX:(a:Int)<(ps.length:Int):=qO;have qj:Hid (∀w',Ext W w'->w'.C g (v*6+2) (.bool vg)/\w'.C g (v*6+3) (.s Av nv cv)/\w'.C g (v*6+4) (.s zc zF zi)/\w'.C g (v*6+5) (.s zd la.aj.length zD)/\w'.C bp (op+a*3) (.bool q5)/\w'.C bp (op+a*3+1) (.s Ap np zg)/\w'.C bp (op+a*3+2) (.s zR zb zp)):=Hx (fun w' hx=>⟨(hx.cell vy).trans x5,(hx.cell vy).trans z9,(hx.cell vy).trans x6,(hx.cell vy).trans yf,(hx.cell v4).trans xl,(hx.cell v4).trans yc,(hx.cell v4).trans xd⟩);have XB:=Hx (eR W);have V:Hid (Dh W.heap.size W W (a:Int) none none):=Hx (⟨eR W,yX _,fun _ h=>(by cases h),fun _ h=>(by cases h)⟩)
   go_region_held3 (fun w'=>w'.C g (v*6+2) (.bool vg)/\w'.C g (v*6+3) (.s Av nv cv)/\w'.C g (v*6+4) (.s zc zF zi)/\w'.C g (v*6+5) (.s zd la.aj.length zD)/\w'.C bp (op+a*3) (.bool q5)/\w'.C bp (op+a*3+1) (.s Ap np zg)/\w'.C bp (op+a*3+2) (.s zR zb zp))
   (first|with_reducible exact qj.o _ XB.o|with_reducible exact qj.o _ (XB.o.alloc _)|with_reducible exact qj.o _ ((XB.o.alloc _).alloc _)|with_reducible exact qj.o _ V.o.dr.x|with_reducible exact qj.o _ V.o.ab.dr.x|with_reducible exact qj.o _ V.o.al.dr.x|with_reducible exact qj.o _ V.o.abl.dr.x|with_reducible exact qj.o _ V.o.alb.dr.x|with_reducible exact qj.o _ vU.o.ext|fail "none")
   (first
   |(rw[qE qR]
     first
     |(have U:=Hx V.o;with_reducible refine U.o.wp ?_)
     |(have U:=Hx V.o.ab;with_reducible refine U.o.wp ?_)
     |(have U:=Hx V.o.al;with_reducible refine U.o.wp ?_)
     |(have U:=Hx V.o.abl;with_reducible refine U.o.wp ?_)
     |(have U:=Hx V.o.alb;with_reducible refine U.o.wp ?_)
     refine mF _ (.tmp 117) (.tmp 119) 42 qR W.heap.size 3 ti (vI 0) 8 underlying42 hi jm jx y7 rfl v6 la.aj.length (ints la.aj) qR (O6.o.kept (eU U.o.x) (eV _)) (some ⟨_,0,none⟩) 1 1 [vI (a:Int)] qR rfl (jzkx (U.o.sb _ rfl)) (fun h=>by cases h) (fun u hu=>by simp at hu;subst hu;rfl) (by unfold maxLen;omega) qO (XB.o.tr U.o.x).size ?_;intro v8 w8 qy qi _;obtain⟨g8,c8,rfl,ya⟩:=jzjp qy;have zo:=Lib.ownsRow_kind (O6.o.kept (eU U.o.x) (eV _));have X8:Hid (Ext W w8):=Hx (Below.grown (XB.o.tr U.o.x) qi (XB.o.tr U.o.x).size (fun k hk=>(O6.o.lt k hk).1));have R8:=Hx ((R6.o.K U.o.x).gK qi zo qD);have zK:=jzky qy;have vY:(la.aj++[a]).length=la.aj.length+1:=qS;have zL:=Hx (jzkz (W:=W) (ps:=ps) (aj:=la.aj++[a]) (k:=la.aj.length+1) (cx:=c8) vY R8.o (by rw[vY];exact ya) zK X8.o)
     first
     |(have qt:=Hx (ak.gK (U.o.sl _ rfl).2 qi zo qD)
       have vU:=Hx (jzk0 (W:=W) (ps:=ps) (aj:=la.aj++[a]) (k:=la.aj.length+1) (cx:=c8) vY qt.o R8.o (by rw[vY];exact ya) zK (U.o.sl _ rfl).1 X8.o);have l0:=qt.o.cell 0;have jO:=qt.o.frozen 0;have l1:=qt.o.cell 1;have j5:=qt.o.frozen 1;have l2:=qt.o.cell 2;have jI:=qt.o.frozen 2;have l3:=qt.o.cell 3;have jV:=qt.o.frozen 3;have l4:=qt.o.cell 4;have j7:=qt.o.frozen 4;have l5:=qt.o.cell 5;have jY:=qt.o.frozen 5)
     |skip
     have XB:=X8;clear qy qi zo zK)
   |(go_at_call 108
     first
     |(have U:=Hx V.o;with_reducible refine U.o.calls ?_)
     |(have U:=Hx V.o.ab;with_reducible refine U.o.calls ?_)
     |(have U:=Hx V.o.al;with_reducible refine U.o.calls ?_)
     |(have U:=Hx V.o.abl;with_reducible refine U.o.calls ?_)
     |(have U:=Hx V.o.alb;with_reducible refine U.o.calls ?_)
     refine(jzcf zd zD la.aj _ (xh.o.K (XB.o.tr U.o.x)) qO).mono ?_;rintro e jl ⟨v6,rfl,qW,vi⟩;have E6:=Hx (U.o.K vi);have R6:=Hx (R5.o.K E6.o.x);have O6:Hid (jl.ownsRow W.heap.size 3 1 v6 la.aj.length (ints la.aj)):=Hx (qW.mono (XB.o.tr U.o.x).size);have XB:=Hx (XB.o.tr E6.o.x);have V:=Hx E6.o.re;clear qW vi)
   |(go_at_call 18
     first
     |(have U:=Hx V.o.dr;with_reducible refine U.o.calls ?_)
     |(have U:=Hx V.o.ab.dr;with_reducible refine U.o.calls ?_)
     |(have U:=Hx V.o.al.dr;with_reducible refine U.o.calls ?_)
     |(have U:=Hx V.o.abl.dr;with_reducible refine U.o.calls ?_)
     |(have U:=Hx V.o.alb.dr;with_reducible refine U.o.calls ?_)
     refine(lG vg q5 Av nv cv zc zF zi Ap np zg zR zb zp (nu ps la.aj) qa _ (xz.o.K U.o.x) (xo.o.K U.o.x) qT.1 qT.2 xy.1 xy.2 (iX (Hq (Gv _) (Gv _)))).mono ?_;rintro e w5 ⟨zJ,A5,n5,c5,yy,jr,jo,rfl,ye,zh⟩;have R5:=Hx (show aC w5 zJ A5 n5 c5 yy jr jo (nu ps (la.aj++[a])) by rw[jzca,jn.o];exact ye);have XB:=Hx (U.o.K zh).x;have V:=Hx (U.o.K zh).re;clear zh ye)
   |fail "no arm")
   all_goals
    go_wp2;go_meet
    first|exact zL.o|exact vU.o
  generalize hnx:la.aj++[a]=nx at*;have xm:=Hx hnx;have jS:nx.length<=65:=(by rw[<-hnx];simp;omega);clear hnx;obtain⟨gl,vc,A9,n9,c9,zM,zy,ze,v9,zm,rfl,bl,r9,zG,⟨x9,y9⟩,yn,zq⟩:=hcut;have jd:Hid (∀p,v9=some p->w.heap.size<=p.block):=Hx (fun p hp=>yY qB.o.ext.size (y9 p hp));clear y9;have qI:=Hx (qB.o.K zq);have x3:=Hx (zw.o.K zq);have qn:=Hx bl;have R9:=Hx r9;have X9:=Hx x9;have y8:gl≠g:=qO;obtain⟨zv,A3,n3,c3,je,jc,jg,yv,jv,⟨y0,y1,y2,y3,y4,y5⟩,zf,zU,xw⟩:=qI.o.lab.at_ vw.o;have R3:=Hx zf;have X3:=Hx xw;have qw:=qI.o.lab.lt;have z8:=Hx (show dH lq v=la.aj by unfold dH;rw[q6.o];rfl);have vz:dx (nu ps nx) 268435456:=(dx.pr hP vu.o nx).mono (by have h2:nx.length*(P+1)<=65*1000001:=DK qO qO;omega);have qY:=jzce hP hP2 vu.o qI.o.ok qI.o.len vT lh (yJ vw.o);have xv:=r9.lens vz;have xk:=zf.lens qY.1;have zB:=qY.2;clear bl r9 x9 zf xw zq vz qY qB zw x5 z9 x6 yf xl yc xd xz xo xh vy v4;(go_upto_region 21 with fail);go_cut [136] (fun s wx=>s=.bool (!lh.known||bJ ps nx lh.aj)/\Ext wc wx);(case first=>obtain⟨lk,ld,qX⟩:=lh;simp only[]at y0 y5 zU zB;have z0:=XW.cell _ _ _ qw y0;cases lk;(case false=>refine cA qK qK ?_;(repeat (go_big_quiet_step (fail)));refine wpQuiet_nil ?_;rintro _ ⟨x,rfl⟩;go_wp2;go_meet;exact⟨rfl,x.ext⟩);have z1:=XW.cell _ _ _ qw y1;have z2:=XW.cell _ _ _ qw y2;have z3:=XW.cell _ _ _ qw y3;have z4:=XW.cell _ _ _ qw y4;have z5:=XW.cell _ _ _ qw y5;have u0:=XW.cell _ _ _ qn.o.lt (qn.o.cell 0);have u1:=XW.cell _ _ _ qn.o.lt (qn.o.cell 1);have u2:=XW.cell _ _ _ qn.o.lt (qn.o.cell 2);have u3:=XW.cell _ _ _ qn.o.lt (qn.o.cell 3);have u4:=XW.cell _ _ _ qn.o.lt (qn.o.cell 4);have u5:=XW.cell _ _ _ qn.o.lt (qn.o.cell 5);have jM:(0:Int)<=(h:Int):=qO;refine cA qK qK ?_;(repeat (go_big_quiet_step ((go_at_call 109;exact Calls.ru (jzb9 _ _ vc _ _ zv A9 n9 c9 zM zy ze A3 n3 c3 je jc jg v9 yv zm jv (nu ps nx) (nu ps qX) nx qX _ (R9.o.K (XW.ext _)) (R3.o.K (XW.ext _)) xv.1 xv.2 xk.1 xk.2 (X9.o.rd.K (XW.ext _)) (X3.o.rd.K (XW.ext _)) qO qO)))));refine wpQuiet_nil ?_;rintro _ ⟨x,rfl⟩;go_wp2;go_meet;exact⟨rfl,x.ext⟩);obtain⟨rfl,vj⟩:=hcut;have qx:=Hx (qI.o.K vj);have xg:=Hx (x3.o.K vj);have vk:=Hx (qn.o.K vj);have jj:Hid (GH _ ps [.bool true,bF,.bool vc,.s A9 n9 c9,.s zM zy ze,.s v9 nx.length zm] ⟨true,false,nx⟩):=Hx (⟨vc,A9,n9,c9,zM,zy,ze,v9,zm,rfl,R9.o.K vj,zG,X9.o.K vj⟩);have vl:=HS.o;rw[z8.o,xm.o]at vl;have xj:=Hx (show cM (((aL t v).take (j+1)).foldl (dW t down ps m v) Gh)=cM Gh by rw[vq.o,jzcd];exact vG.o);clear vj qI x3 qn y0 y1 y2 y3 y4 y5 z8;cases hcnd:(!lh.known||bJ ps nx lh.aj);(case false=>have HS:=Hx (show((aL t v).take (j+1)).foldl (dW t down ps m v) Gh=lq by rw[vl,hcnd];rfl);have vd:Hid (∃l,lq[v]?=some l/\l.done=true/\l.aj.length+cM Gh<N):=Hx (⟨la,q6.o,qA.o,zs.o⟩);clear vl hcnd;go_wp2;go_roundg (L-(j+1));exact⟨j+1,rfl,qO,by go_num,xg.o,by rw[HS.o];exact qx.o,xj.o,by rw[HS.o];exact vd.o⟩;omega);have HS:=Hx (show((aL t v).take (j+1)).foldl (dW t down ps m v) Gh=lq.set h ⟨true,false,nx⟩ by rw[vl,hcnd];rfl);obtain⟨jb,A4,n4,c4,jZ,j8,jK,jU,j3,⟨y0,y1,y2,y3,y4,y5⟩,_,_,_⟩:=qx.o.lab.at_ vw.o;obtain⟨css,_,_,qU,_⟩:=qx.o.lab;have f0:=qU.frozen (h*6);have f1:=qU.frozen (h*6+1);have f2:=qU.frozen (h*6+2);have f3:=qU.frozen (h*6+3);have f4:=qU.frozen (h*6+4);have f5:=qU.frozen (h*6+5);have l0:=vk.o.cell 0;have l1:=vk.o.cell 1;have l2:=vk.o.cell 2;have l3:=vk.o.cell 3;have l4:=vk.o.cell 4;have l5:=vk.o.cell 5;simp only[xI,EP,List.getElem?_cons_succ]at l0 l1 l2 l3 l4 l5;have ym:=Hx qU;have jD:h≠v:=(by (rintro rfl;have e1:=q6.o;rw[vw.o]at e1;injection e1 with e1);have e2:=qA.o;rw[<-e1,zS.o]at e2;cases e2);have zn:nx.length=la.aj.length+1:=(by rw[<-xm.o];simp);have qM:=jzcb (l:=⟨true,false,nx⟩) vw.o zS.o rfl;have vn:nO (lq.set h ⟨true,false,nx⟩):=fun l hl=>(by (rw[qM,yV,qx.o.len];rcases xE hl with h9|h9);{have:=qx.o.ok l h9;rw[qx.o.len]at this;exact this};rw[h9];have h1:=zs.o;have h2:=vG.o;simp only[];omega);have yz:=Hx vn;have vd:Hid (∃l,(lq.set h ⟨true,false,nx⟩)[v]?=some l/\l.done=true/\l.aj.length+cM Gh<N):=Hx (⟨la,by rw[vN jD];exact q6.o,qA.o,zs.o⟩);have jz:=Hx (qx.o.lab.put xq jj.o);have jt:=Hx (show(lq.set h ⟨true,false,nx⟩).length=N by rw[yV];exact qx.o.len);clear vl hcnd qU zn qM vn;go_wp2;go_roundg (L-(j+1));exact⟨j+1,rfl,qO,by go_num,xg.o.other (jzcg _ _ _ _ _ _ _ _ _) ym.o qD,by rw[HS.o];exact qx.o.turn (jzcg _ _ _ _ _ _ _ _ _) jz.o jt.o yz.o (qx.o.fa.put qx.o.lab _ _ _ _ _ jd.o),xj.o,by rw[HS.o];exact vd.o⟩;omega
 have yN:j=L:=qO;subst yN;have vt:gD t down ps m f lq=DR:=(by have h1:=zW.o;have h2:=HQ.o;rw[yU (by rw[HL.o];exact yX _)]at h2;rw[<-h1, <-h2]);have jE:1<=f:=(by have:=xK.o;omega);have vK:=Hx (show cM lq<=f-1/\gD t down ps m (f-1+1) lq=DR by refine⟨?_,by rw[Nat.sub_add_cancel jE];exact vt⟩;have h1:=xK.o;have h2:=vG.o;omega);have qI:=Hx qp;clear vt qp ve;go_wp2;go_roundg (f-1);exact⟨f-1,lq,rfl,vK.o.1,qI.o,vK.o.2⟩;omega
end Go.Proofs.YtfeeacaofjpkaaaGreatDoor
namespace Go.Proofs.YtfeeacaofjpkaaaGreatDoor
open Go.Proofs.Tryz
def jzd8(q:Rat):aB q<0↔q<0:=by
 have h:q.num<0↔q<0:=(by rw[<-Int.not_le,Rat.num_nonneg,Rat.not_le]);unfold aB;split;{rename_i h0;rw[<-h,h0]};split;{rename_i h1;exact⟨fun _=>h.1 h1,fun _=>qD⟩};rename_i h1;exact⟨fun x=>qO,fun x=>absurd (h.2 x) h1⟩
open Go.RowKit Go.ChangeShapes Go.WideShapes Go.Deep
def jzmu{α:Type}(mk:α->List Value)(k:Nat)(hk:∀a,(mk a).length=k)(l:List α)(i r:Nat)(hi:i<l.length)(hr:r<k):(l.flatMap mk)[i*k+r]?=(mk l[i])[r]?:=by
 (induction l generalizing i with|nil=>simp at hi|cons a l ih=>(cases i with|zero=>simp only[xU,Nat.zero_mul,CU,yB];rw[yR (by rw[hk];exact hr)]|succ i=>simp only[xU,yC];rw[yS (by rw[hk,xP];omega),hk,show(i+1)*k+r-k=i*k+r by rw[xP];omega];exact ih i (by simpa using hi)))
def jzmv{α:Type}(mk:α->List Value)(k:Nat)(hk:∀a,(mk a).length=k)(l:List α):(l.flatMap mk).length=l.length*k:=by
 (induction l with|nil=>simp|cons a l ih=>rw[xU,yQ,ih,hk,Dw,xP];omega)
def jzmw{w:World}{a:Addr}{v:Value}(h:w.cell? a=some v):a.spot=none/\a.block<w.heap.size:=by
 unfold World.cell? at h;split at h;{rename_i hb;split at h;{cases h};rename_i hs;refine⟨by cases ha:a.spot <;> simp_all,Nat.lt_of_not_le fun hge=>by rw[Fx hge]at hb;cases hb⟩};cases h
def jzc{H:Type}{enc:TypeId×Value->H}{P:Program}{w}{base:Nat}{spare:Nat->Bool}{held:Bool}{α:Type}[Inhabited α](mk:α->List Value)(wf:α->Prop)(k:Nat)(hk1:0<k)(hk:∀a,(mk a).length=k){t e:TypeId}{fuel:Nat}{cs:List Value}{x:DataW H×List MemPlace}
  (ht:P.underlying t=some (.slice e)) (hc:P.cellsOf e=k) (hel:∀(n:Nat) (qe:List Value) (y:DataW H×List MemPlace),DataW.trod enc P w base spare held n e qe=some y->∃a,qe=mk a/\wf a)
  (h:DataW.trod enc P w base spare held fuel t cs=some x):
  ∃(A:OA) (l:List α) (c:Nat),cs=[.s A l.length c]/\l.length<=c/\c<=maxLen/\(∀a∈l,wf a)/\Rd w A (l.flatMap mk):=by
 (rcases open_slice ht h with⟨rfl,_⟩|⟨a,len,cap,m,n,D,Pl,rfl,hb,hl,hm,hmm,rfl,hx⟩);{exact⟨none,[],0,rfl,yX _,yZ _,(fun _ h=>by cases h),Rd.nil _ _⟩};have qj:len<=m:=(by rw[hmm];split <;> omega);obtain⟨F,hF⟩:=choose_lt (α:=α) (p:=fun i v=>w.cells? base (a.add (i*k)) k=some (mk v)/\wf v) (n:=m) (fun i hi=>by obtain⟨qe,h1,h2⟩:=hx i hi;rw[hc]at h1;obtain⟨v,rfl,hv⟩:=hel _ _ _ h2;exact⟨v,h1,hv⟩);refine⟨some a,(List.range len).map F,cap,qS,by simpa using hl,hm,?_,?_⟩;{intro v hv;obtain⟨i,hi,rfl⟩:=Bv.1 hv;exact(hF i (by have:=vX.1 hi;omega)).2};intro qi;have qf:0<len:=(by (rcases Ee len with h0|h0);{subst h0;simp at qi};exact h0);have qa:∀i r,i<len->r<k->w.cell? (a.add (i*k+r))=(mk (F i))[r]?:=fun i r hi hr=>(by have:=(World.cells?_some (hF i qO).1).2.2 r hr;rwa [add_add]at this);have qh:=qa 0 0 qf hk1;rw[show a.add (0*k+0)=a from by simp[Addr.add],yG (by rw[hk];exact hk1)]at qh;obtain⟨hs,qg⟩:=jzmw qh;obtain⟨b,o,s⟩:=a;simp only at hs qg;subst hs;refine⟨b,o,rfl,qg,fun j hj=>?_⟩;rw[jzmv mk k hk,xV,Jt]at hj;have hd:j/k<len:=Nat.div_lt_of_lt_mul (by rw[vE];exact hj);have hr:=xT j hk1;have h1:=qa (j/k) (j%k) hd hr;have h2:=jzmu mk k hk ((List.range len).map F) (j/k) (j%k) (by simpa using hd) hr;rw[mE,vE,Ij]at h1;rw[vE (j/k) k,Ij]at h2;rw[h1,h2];simp
def jzmx{n:Int}(h:(Lit.int .i64 n).wf=true):i64 n:=by
 simp[Lit.wf,IntKind.min,IntKind.max,IntKind.signed,IntKind.bits]at h;unfold i64;omega
def jzmy(l:List Bool):bB l=l.flatMap fun b:Bool=>[Value.bool b]:=by
 (induction l with|nil=>rfl|cons a l ih=>rw[xU, <-ih];rfl)
def jzmz{H:Type}{enc:TypeId×Value->H}{P:Program}{w}{base:Nat}{spare:Nat->Bool}{held:Bool}{t e:TypeId}{fuel:Nat}{cs:List Value}{x:DataW H×List MemPlace}
  (ht:P.underlying t=some (.slice e)) (he:P.underlying e=some .bool) (hc:P.cellsOf e=1) (h:DataW.trod enc P w base spare held fuel t cs=some x):
  ∃(A:OA) (l:List Bool) (c:Nat),cs=[.s A l.length c]/\l.length<=c/\c<=maxLen/\Rd w A (bB l):=by
 obtain⟨A,l,c,h1,h2,h3,_,h5⟩:=jzc (fun b:Bool=>[Value.bool b]) (fun _=>True) 1 qD (fun _=>rfl) ht hc (fun n cs' y hy=>by obtain⟨b,rfl,_⟩:=DataW.trod_bool he hy;exact⟨b,rfl,trivial⟩) h;refine⟨A,l,c,h1,h2,h3,?_⟩;rw[jzmy];exact h5
instance:Inhabited Lk:=⟨⟨0,0,0,0,0,0,0⟩⟩
def jzm0{α:Type}{l:List α}(h:l.length=7):∃a b c d e f g,l=[a,b,c,d,e,f,g]:=by
 match l,h with
 | [a,b,c,d,e,f,g],_=>exact⟨a,b,c,d,e,f,g,rfl⟩
def fV{α:Type}{l:List α}{n:Nat}(i:Nat)(h:l.length=n)(hi:i<n):∃y,l[i]?=some y:=⟨_,yG qO⟩
section
variable {H:Type} {enc:TypeId×Value->H} {w:World} {base:Nat} {spare:Nat->Bool} {held:Bool}
def Tryz.Eh:prog.cellsOf 3=1:=by kernel_rfl
def fW{n:Nat}{v:Value}{y:Option (DataW H×List MemPlace)}{z:DataW H×List MemPlace}(hy:y=some z)(h:DataW.trod enc prog w base spare held n 3 [v]=y):∃x,v=vI x/\i64 x:=by
 rw[hy]at h;obtain⟨x,e,_,hw⟩:=DataW.trod_int underlying3 h;exact⟨x,by simpa using e,jzmx hw⟩
def jzm1{n:Nat}{cs:List Value}{y:DataW H×List MemPlace}(h:DataW.trod enc prog w base spare held n 63 cs=some y):∃l:Lk,cs=l.cells/\l.wf:=by
 obtain⟨xs,m,_,_,hl,qa,hf⟩:=DataW.trod_struct underlying63 h;have c7:prog.cellsOf 63=7:=qK;have c2:prog.cellsOf 61=2:=qK;have c1:=Tryz.Eh;rw[c7]at hl;obtain⟨a0,a1,a2,a3,a4,a5,a6,rfl⟩:=jzm0 hl;have qa:xs.length=6:=qa;have h0:DataW.trod enc prog w base spare held m 3 (List.take (prog.cellsOf 3) (List.drop 0 [a0,a1,a2,a3,a4,a5,a6]))=xs[0]?:=hf 0 _ rfl;have h1:DataW.trod enc prog w base spare held m 3 (List.take (prog.cellsOf 3) (List.drop 1 [a0,a1,a2,a3,a4,a5,a6]))=xs[1]?:=hf 1 _ rfl;have h2:DataW.trod enc prog w base spare held m 61 (List.take (prog.cellsOf 61) (List.drop 2 [a0,a1,a2,a3,a4,a5,a6]))=xs[2]?:=hf 2 _ rfl;have h3:DataW.trod enc prog w base spare held m 3 (List.take (prog.cellsOf 3) (List.drop 4 [a0,a1,a2,a3,a4,a5,a6]))=xs[3]?:=hf 3 _ rfl;have h4:DataW.trod enc prog w base spare held m 3 (List.take (prog.cellsOf 3) (List.drop 5 [a0,a1,a2,a3,a4,a5,a6]))=xs[4]?:=hf 4 _ rfl;have h5:DataW.trod enc prog w base spare held m 3 (List.take (prog.cellsOf 3) (List.drop 6 [a0,a1,a2,a3,a4,a5,a6]))=xs[5]?:=hf 5 _ rfl;clear hf h;obtain⟨y0,e0⟩:=fV 0 qa qO;obtain⟨y1,e1⟩:=fV 1 qa qO;obtain⟨y2,e2⟩:=fV 2 qa qO;obtain⟨y3,e3⟩:=fV 3 qa qO;obtain⟨y4,e4⟩:=fV 4 qa qO;obtain⟨y5,e5⟩:=fV 5 qa qO;rw[c1]at h0 h1 h3 h4 h5;rw[c2]at h2;obtain⟨x0,rfl,g0⟩:=fW e0 h0;obtain⟨x1,rfl,g1⟩:=fW e1 h1;obtain⟨x4,rfl,g4⟩:=fW e3 h3;obtain⟨x5,rfl,g5⟩:=fW e4 h4;obtain⟨x6,rfl,g6⟩:=fW e5 h5;rw[e2]at h2;obtain⟨zs,m2,_,_,_,hz,qe⟩:=DataW.trod_array underlying61 h2;have k0:=qe 0 qD;have k1:=qe 1 qD;obtain⟨z0,d0⟩:=fV 0 hz qO;obtain⟨z1,d1⟩:=fV 1 hz qO;simp only[c1]at k0 k1;obtain⟨x2,rfl,g2⟩:=fW d0 k0;obtain⟨x3,rfl,g3⟩:=fW d1 k1;exact⟨⟨x0,x1,x2,x3,x4,x5,x6⟩,rfl,g0,g1,g2,g3,g4,g5,g6⟩
def jzm2{v:Value}{d:DataW H}{p:List MemPlace}{r:Reach}{b0:Nat}(hv:Value.okWide prog w r b0 25 v)(h:DataW.Trod enc prog w base spare held 25 v d p):
  ∃(t:Tp) (AO:OA) (co:Nat) (AL:OA) (cl:Nat),v=.agg #[vI t.nodes,.s AO t.over.length co,.s AL t.links.length cl]/\i64 t.nodes/\t.over.length<=co/\t.links.length<=cl/\co<=maxLen/\cl<=maxLen/\Rd w AO (bB t.over)/\Rd w AL (t.links.flatMap Lk.cells)/\∀l∈t.links,l.wf:=by
 obtain⟨v0,v1,v2,y0,y1,y2,n,rfl,_,_,h0,h1,h2⟩:=Joins.open_agg3 underlying25 qK qK hv h;obtain⟨N,rfl,hN⟩:=fW rfl h0;obtain⟨AO,over,co,e1,l1,m1,r1⟩:=jzmz underlying22 underlying4 qK h1;obtain⟨AL,links,cl,e2,l2,m2,wf,r2⟩:=jzc Lk.cells Lk.wf 7 qD (fun _=>rfl) underlying23 qK (fun n cs y hy=>jzm1 hy) h2;injection e1 with e1
 injection e2 with e2
 subst e1 e2;exact⟨⟨N,over,links⟩,AO,co,AL,cl,rfl,hN,l1,l2,m1,m2,r1,r2,wf⟩
end
end Go.Proofs.YtfeeacaofjpkaaaGreatDoor
namespace Go.Proofs.YtfeeacaofjpkaaaGreatDoor
open Go.Proofs.Tryz
open Go.RowKit
def jzd9 t(down:List Bool)(d:Nat):∀(f:Nat) (path:LN) (n:Nat) (seen:List Bool),∀p∈cB t down d f path n seen,p.length<path.length+f
 |0,path,n,seen,p,hp=>by simp[cB]at hp
 |f+1,path,n,seen,p,hp=>by
  unfold cB at hp
  split at hp
  ·simp at hp;subst hp;omega
  ·split at hp
   ·simp at hp
   ·obtain⟨a,_,h⟩:=Hl.1 hp
    split at h
    ·simp at h
    ·have:=jzd9 t down d f _ _ _ p h
     simp at this;omega
end Go.Proofs.YtfeeacaofjpkaaaGreatDoor
