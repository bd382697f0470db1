/- Part 13 of 23 of what the Flows claims share (the white space is struck, the texts are joined). -/
import Derived.Lib.Join
import Derived.Test.YtllmekijiohgmaaGreatDoorT12
set_option linter.unusedVariables false
set_option linter.unusedSimpArgs false
set_option maxRecDepth 100000
set_option maxHeartbeats 8000000
namespace Go.Proofs.YtllmekijiohgmaaGreatDoor
open Go.RowKit
open Go.Maps (Keyed int_keyed keyOf_int_mk Keyed.of_law)
namespace Fo
def SmN(x:Nat):Prop:=x<4294967296
def mB(x:Nat×Nat):Prop:=x.1<4294967296/\x.2<4294967296
theorem oC{x:Nat}(h:x<4294967296):(Lit.int .i64 (x:Int)).wf=true:=by simp[Lit.wf,IntKind.min,IntKind.max,IntKind.signed,IntKind.bits];omega
theorem ky1:KyG Tryz.prog 3 mA SmN:=⟨int_keyed Tryz.underlying3,fun x hx=>⟨_,keyOf_int_mk Tryz.underlying3 (oC hx)⟩,fun x y h=>by unfold mA at h;injection h with _ h;omega⟩
theorem jzii:Keyed Tryz.prog 116:=Keyed.of_law (deep_law_laid (by kernel_rfl) (m:=2) (by decide) (Nat.le_of_ble_eq_true (by kernel_rfl)) (by kernel_rfl) (by kernel_rfl))
theorem jzac:∃d,Tryz.prog.types.size+1=d+2:=by
 have h:1<=Tryz.prog.types.size:=Nat.le_of_ble_eq_true (by kernel_rfl);exact⟨Tryz.prog.types.size-1,by omega⟩
theorem jzij(a b:Value):(Value.agg #[a,b]).formed Tryz.prog 116=true:=by
 have c1:Tryz.prog.cellsOf 116=2:=(by kernel_rfl);unfold Value.formed;simp only[Tryz.underlying116,c1];rfl
theorem ky2:KyG Tryz.prog 116 kO mB:=⟨jzii,fun x hx=>by
 obtain⟨h1,h2⟩:=hx;have w1:=oC h1;have w2:=oC h2;refine⟨.string (keyBytes [Lit.int .i64 (x.1:Int),Lit.int .i64 (x.2:Int)]),?_⟩;unfold kO keyOf;have c0:Tryz.prog.keyType 116=true:=(by kernel_rfl);have c1:Tryz.prog.cellsOf 116=2:=(by kernel_rfl);have c2:Tryz.prog.cellsOf 3=1:=(by kernel_rfl);rw[Tryz.underlying116];simp only[c0,jzij,kZg,if_true];obtain⟨d,hd⟩:=jzac;rw[hd];unfold Program.keyLits;rw[Tryz.underlying116];simp[c1,c2,Value.cells,List.range,List.range.loop,Program.keyLits,Tryz.underlying3,w1,w2],fun x y h=>by
 unfold kO at h;simp at h;exact Prod.ext (by omega) (by omega)⟩
theorem kP{w:World}{B n g c:Nat}{e:TypeId}{xs:List Value}{v:Value}{i:Nat}(h:w.ownsRow B e 1 (.s (sA g) n c) n xs)(hi:xs[i]?=some v):w.cell? (aD g i)=some v:=by
 have hl:i<xs.length:=(yH.1 hi).1;obtain⟨b,o,e1,_,hc⟩:=(dX h).rd.at_ (i:=i) hl;injection e1 with e1
 injection e1 with e1 e2
 subst e1 e2;have:=hc i hl;rw[kQu]at this;exact this.trans hi
theorem oF{α:Type}{enc:α->Value}{w}{b n:Nat}{m:α->Option Value}(h:MpG enc w b n m)(t:TypeId):NoT (fun x=>x=b) w t:=fun x hx cs fr e=>by
 have hx:x=b:=hx;subst hx;obtain⟨es,qa,h1,_⟩:=h;rw[h1]at e;injection e with e
 cases e
theorem mC{α:Type}{enc:α->Value}{w}{b n:Nat}{m:α->Option Value}(h:MpG enc w b n m){B k s g c:Nat}{e:TypeId}{xs:List Value}(o:w.ownsRow B e s (.s (sA g) k c) k xs):g≠b:=fun e1=>by
 rcases o.2 with⟨h3,_⟩|⟨g',cap,cur,h3,_,h5,_⟩
 ·cases h3
 ·injection h3 with h3;injection h3 with h3;injection h3 with h3
  subst h3;exact oF h e _ e1 _ _ h5
section
variable {w wx wy:World} {gx m1 m2:Nat} {t:Tp} {AO:Option Addr} {co:Nat} {AL:Option Addr} {cl:Nat} {A:Option Addr} {n cA gN cN kN gC cC kC:Nat} {Ns:List Nat} {Cs:List Int} {f1 f1':Nat->Option Value} {f2 f2':Nat×Nat->Option Value} {b1 b2 b1' b2':Nat}
theorem TkI.map1(h:TkI w wx gx m1 m2 t AO co AL cl A n cA gN cN kN gC cC kC Ns Cs f1 f2 b1 b2)(g:wx.grownBy wy (some m1))(hm:MpG mA wy m1 b1' f1'):TkI w wy gx m1 m2 t AO co AL cl A n cA gN cN kN gC cC kC Ns Cs f1' f2 b1' b2/\FrS (fun b=>b=m1) wx wy:=by
 have k:FrS (fun b=>b=m1) wx wy:=eG g fun g e=>(by injection e with e;exact e.symm);refine⟨⟨k.ext h.ex fun b hb=>by have hb:b=m1:=hb;have:=h.l1;omega,k.blk h.tk fun e=>?_,k.own h.ns fun b hb e=>?_,k.own h.cs fun b hb e=>?_,hm,h.mp2.same (k.block m2 h.mp2.lt fun e=>h.nm (Eq.symm e)),h.ne,h.lx,h.l1,h.l2,h.nm⟩,k⟩;{have e:gx=m1:=e;exact h.mp1.not (t:=323) (by have h2:=h.tk;rw[e]at h2;exact h2)};{have hb:some gN=some b:=hb;(injection hb with hb);exact mC h.mp1 h.ns (hb.trans e)};(have hb:some gC=some b:=hb;injection hb with hb);exact mC h.mp1 h.cs (hb.trans e)
theorem TkI.map2(h:TkI w wx gx m1 m2 t AO co AL cl A n cA gN cN kN gC cC kC Ns Cs f1 f2 b1 b2)(g:wx.grownBy wy (some m2))(hm:MpG kO wy m2 b2' f2'):TkI w wy gx m1 m2 t AO co AL cl A n cA gN cN kN gC cC kC Ns Cs f1 f2' b1 b2'/\FrS (fun b=>b=m2) wx wy:=by
 have k:FrS (fun b=>b=m2) wx wy:=eG g fun g e=>(by injection e with e;exact e.symm);refine⟨⟨k.ext h.ex fun b hb=>by have hb:b=m2:=hb;have:=h.l2;omega,k.blk h.tk fun e=>?_,k.own h.ns fun b hb e=>?_,k.own h.cs fun b hb e=>?_,h.mp1.same (k.block m1 h.mp1.lt fun e=>h.nm e),hm,h.ne,h.lx,h.l1,h.l2,h.nm⟩,k⟩;{have e:gx=m2:=e;exact h.mp2.not (t:=323) (by have h2:=h.tk;rw[e]at h2;exact h2)};{have hb:some gN=some b:=hb;(injection hb with hb);exact mC h.mp2 h.ns (hb.trans e)};(have hb:some gC=some b:=hb;injection hb with hb);exact mC h.mp2 h.cs (hb.trans e)
end
def F1P(t:Tp)(N:Nat)(wx:World)(f1:Nat->Option Value):Prop:=∀d v,f1 d=some v->d<N/\∃g,v=.s (sA g) N N/\RdT wx 3 (sA g) (aR (dsL t [] d))
def F2P(t:Tp)(N:Nat)(f2:Nat×Nat->Option Value):Prop:=∀x v,f2 x=some v->(x.1<N/\x.2<N)/\v=.bool (cnP t [] x.1 x.2==1)
def CvI(w wx:World)(gx m1 m2:Nat)(t:Tp)(AO:OA)(co:Nat)(AL:OA)(cl:Nat)(A:OA)(n cA gN cN gC cC fr:Nat)(p:LN)(N:Nat):Prop:=
 ∃f1 f2 b1 b2,TkI w wx gx m1 m2 t AO co AL cl A n cA gN cN (n+1) gC cC (n+1) (ndL t fr p n) (ccL t p n) f1 f2 b1 b2/\F1P t N wx f1/\F2P t N f2
def coB(t:Tp)(fr:Nat)(p:LN)(i j:Nat):Bool:=decide (dsP t [] (ndP t fr p j) (ndP t fr p i)=ccP t p j-ccP t p i)&&(cnP t [] (ndP t fr p i) (ndP t fr p j)==1)
theorem jzik t AO(co:Nat)AL(cl:Nat)A(n cA gN cN gC cC fr:Nat)(p:LN)(N i j gx m1 m2:Nat)w wx
  (ht:aF w t AO co AL cl) (hv:aA t=true) (hN:t.nodes=(N:Int)) (h12:N<=12) (hi:i<=n) (hj:j<=n) (hn:n<=1000) (hnd:∀k,k<=n->ndP t fr p k<N) (hcc:∀k,k<=n->0<=ccP t p k/\ccP t p k<=65535000)
  (h:CvI w wx gx m1 m2 t AO co AL cl A n cA gN cN gC cC fr p N):
  Calls Tryz.prog 264 #[.pointer (sA gx),vI (i:Int),vI (j:Int)] wx fun e w'=>e=.returned (.bool (coB t fr p i j))/\CvI w w' gx m1 m2 t AO co AL cl A n cA gN cN gC cC fr p N/\FrS (fun b=>b=m1\/b=m2) wx w':=by
 obtain⟨f1,f2,b1,b2,T,F1,F2⟩:=h;have hm:∀W,MkR W t none 0 []:=fun W=>⟨by intro h;exact(h rfl).elim,yX _,.inl rfl⟩;have qj:=hnd i hi;have qg:=hnd j hj;have DI:=Hx (fun(W:World) (hx:Ext w W)=>sL t AO co AL cl none 0 [] (ndP t fr p j) N W (ht.K hx) hv (hm W) hN qg);have UN:=Hx (fun(W:World) (hx:Ext w W)=>jzih t AO co AL cl none 0 [] (ndP t fr p i) (ndP t fr p j) N W (ht.K hx) hv (hm W) hN qj qg h12);have DL:Hid ((dsL t [] (ndP t fr p j))[ndP t fr p i]?=some (dsP t [] (ndP t fr p j) (ndP t fr p i))):=Hx (by have hl:=lZ hv [] hN qg;rw[yG (by rw[hl];exact qj)];unfold dsP aI;rw[yG (by rw[hl];exact qj)];rfl);have DB:=sM hv [] hN qj qg;have y5:wx.cell? (aD gx 5)=some (.s (sA gN) (n+1) cN):=T.tk.cell 5;have yi:wx.cell? (aD gN i)=some (vI (ndP t fr p i:Int)):=kP T.ns (by unfold ints ndL;rw[yW,yW,xJ (by omega)];rfl);have yj:wx.cell? (aD gN j)=some (vI (ndP t fr p j:Int)):=kP T.ns (by unfold ints ndL;rw[yW,yW,xJ (by omega)];rfl);have ZI:Hid ((aR (ccL t p n))[i]?=some (vI (ccP t p i))):=Hx (by unfold aR ccL;rw[yW,yW,xJ (by omega)];rfl);have ZJ:Hid ((aR (ccL t p n))[j]?=some (vI (ccP t p j))):=Hx (by unfold aR ccL;rw[yW,yW,xJ (by omega)];rfl);have CB:Hid (coB t fr p i j=(decide (dsP t [] (ndP t fr p j) (ndP t fr p i)=ccP t p j-ccP t p i)&&(cnP t [] (ndP t fr p i) (ndP t fr p j)==1))):=Hx (rfl);obtain⟨qH,qF⟩:=hcc i hi;obtain⟨qG,qI⟩:=hcc j hj;have qe:=Hx h12;clear hcc hnd hm ht hv hN h12;generalize ndP t fr p i=a at*;generalize ndP t fr p j=b at*;generalize ccP t p i=ca at*;generalize ccP t p j=cb at*;generalize coB t fr p i j=cv at*;have TH:=Hx T;have qA:=Hx F1;have qi:=Hx F2;clear T F1 F2;have jn:(j:Int)<(n:Int)+1:=(by omega);have qm:(i:Int)<(n:Int)+1:=(by omega);have z5:=xc y5;have zi:=xc yi;have zj:=xc yj;clear y5 yi yj;go_enter Tryz.func264,Tryz.ntmps264;(go_upto_region 1 with fail);refine bH (by kernel_rfl) (by kernel_rfl) ?_;(repeat (go_big_quiet_step (fail)));refine wpQuiet_nil ?_;rintro _ ⟨x1,rfl⟩;have X1:=Hx x1.ext;generalize x1.val=w1 at*;have T1:=Hx (TH.o.K X1.o);have G1:Hid (F1P t N w1 f1):=Hx (fun d v hd=>by obtain⟨q1,g,q2,q3⟩:=qA.o d v hd;exact⟨q1,g,q2,q3.K X1.o⟩);clear z5 zi zj TH qA jn qm;have y7:w1.cell? (aD gx 7)=some (.map (some m1)):=T1.o.tk.cell 7;obtain⟨X,kX,hL,hX⟩:∃X kX,(f1 b).getD zN=.s X kX kX/\((X=none/\kX=0/\f1 b=none)\/(∃g,X=(sA g)/\kX=N/\f1 b=some (.s X kX kX))):=(by (cases hf:f1 b with|none=>exact⟨none,0,rfl,.inl ⟨rfl,rfl,rfl⟩⟩|some v=>obtain⟨_,g,q2,_⟩:=G1.o b v hf;subst q2;exact⟨(sA g),N,rfl,.inr ⟨g,rfl,rfl,rfl⟩⟩));have L1:(Instr.lookup 320 (.map (some m1)) (vI (b:Int)) false).run Tryz.prog w1=.ok (.s X kX kX) w1:=(by have h:=T1.o.mp1.look ky1 (fun x v hx=>by have:=(G1.o x v hx).1;have:=qe.o;unfold SmN;omega) Tryz.underlying320 (z:=zN) rfl (x:=b) (by have:=qe.o;unfold SmN;omega) false;rw[hL]at h;exact h);obtain⟨xn,BO,hX⟩:∃xn:Bool,(binOp BinOp.eql 28 (.s X kX kX) zN).run Tryz.prog w1=.ok (.bool xn) w1/\((xn=true/\f1 b=none)\/(xn=false/\f1 b=some (.s X kX kX))):=(by (rcases hX with⟨rfl,rfl,h⟩|⟨g,rfl,rfl,h⟩);{exact⟨true,rfl,.inl ⟨rfl,h⟩⟩};exact⟨false,rfl,.inr ⟨rfl,h⟩⟩);have HX:=Hx hX;clear hX hL;(go_upto_if 32 with fail);go_cut [] (fun wq=>∃g1 c1,Hid (TkI w wq gx m1 m2 t AO co AL cl A n cA gN cN (n+1) gC cC (n+1) (ndL t fr p n) (ccL t p n) g1 f2 c1 b2/\F1P t N wq g1/\(∃v,g1 b=some v)/\FrS (fun b=>b=m1\/b=m2) wx wq))
 case first=>
  cases hxn:xn;{(rcases HX.o with⟨h,_⟩|⟨_,h⟩);{rw[hxn]at h;cases h};subst hxn;have R:=Hx (kQa T1.o (kQa G1.o (kQa (show∃v,f1 b=some v from⟨_,h⟩) (eE (S:=fun b=>b=m1\/b=m2) X1.o))));clear T1 G1 HX h y7 L1 BO X1;go_wp2;go_meet;exact⟨_,_,R⟩};rcases HX.o with⟨_,h⟩|⟨h,_⟩
  ·subst hxn
   have qa:=Hx (show∀W,Ext w1 W->W.cell? (aD gx 7)=some (.map (some m1))/\W.cell? (aD gx 0)=some (vI t.nodes)/\W.cell? (aD gx 1)=some (.s AO t.over.length co)/\W.cell? (aD gx 2)=some (.s AL t.links.length cl)/\W.cell? (aD gx 3)=some zN from fun W hx=>
    ⟨(T1.o.tk.K hx).cell 7,(T1.o.tk.K hx).cell 0,(T1.o.tk.K hx).cell 1,(T1.o.tk.K hx).cell 2,(T1.o.tk.K hx).cell 3⟩)
   have XD:Hid (Ext w1 w1.drew):=Hx ((eR w1).drewN 1);have HSW:=Hx (qa.o _ XD.o);clear HX h L1 BO y7;(go_upto_region 3 with fail);(refine wX qa 18 ?_;refine wP 0 rfl HSW.o ?_;try simp only[Act.put,yA,yB,yC,yD,yE,yF]);refine wP 1 rfl HSW.o ?_;refine wP 2 rfl HSW.o ?_;refine wV 3 rfl HSW.o ?_;refine wP 4 rfl HSW.o ?_;refine wP 5 rfl HSW.o ?_;refine wP 6 rfl HSW.o ?_;refine wP 7 rfl HSW.o ?_;refine wV 8 rfl HSW.o ?_;refine wP 9 rfl HSW.o ?_;refine wP 10 rfl HSW.o ?_;refine wP 11 rfl HSW.o ?_;refine wV 12 rfl HSW.o ?_;(refine wP 13 rfl HSW.o ?_;try simp only[Act.put,yA,yB,yC,yD,yE,yF]);(refine wC 14 rfl (fun KK hK=>?_);go_simp;refine(DI.o _ (T1.o.ex.tr XD.o)).mono ?_;rintro e w5 ⟨g,rfl,qw,x5⟩;have X5:=Hx (XD.o.tr x5);have qf:=Hx (qa.o _ X5.o);have R5:=Hx (dX qw);refine hK.o _ _ qf.o ?_;clear hK KK HSW x5 XD qw;have HSW:=qf;clear qf;try simp only[Act.put,yD,yE,yF]);(have T5:=Hx (T1.o.K X5.o);refine wP 15 rfl HSW.o ?_;try simp only[Act.put,yA,yB,yC,yD,yE,yF]);(refine wP 16 rfl HSW.o ?_;try simp only[Act.put,yA,yB,yC,yD,yE,yF]);refine wP 17 rfl HSW.o ?_;try simp only[Act.put,yA,yB,yC,yD,yE,yF]
   refine aV (by kernel_rfl) rfl (by rfl) (fun KK hK=>?_);refine jz6 (.tmp 37) (.tmp 38) (.tmp 49) rfl ky1 Tryz.underlying320 T5.o.mp1 (fun x v hx=>by have:=(G1.o x v hx).1;have:=qe.o;unfold SmN;omega) (by rfl) b (by have:=qe.o;unfold SmN;omega) (by rfl) (.s (sA g) N N) (by rfl) ?_;intro w6 qt qC;have T6:=Hx (T5.o.map1 qC qt);have R:=Hx (show TkI w w6 gx m1 m2 t AO co AL cl A n cA gN cN (n+1) gC cC (n+1) (ndL t fr p n) (ccL t p n) (upM f1 b (.s (sA g) N N)) f2 (b1+1) b2/\F1P t N w6 (upM f1 b (.s (sA g) N N))/\(∃v,upM f1 b (.s (sA g) N N) b=some v)/\FrS (fun b=>b=m1\/b=m2) wx w6 from
    ⟨T6.o.1,fun d v hd=>by
     by_cases e:d=b
     ·
      subst e
      rw[iJ]at hd;injection hd with hd
      subst hd;exact⟨qg,g,rfl,T6.o.2.rdT (oF T5.o.mp1 _) R5.o⟩
     rw[kM _ _ e]at hd;obtain⟨q1,g',q2,q3⟩:=G1.o d v hd;exact⟨q1,g',q2,T6.o.2.rdT (oF T5.o.mp1 _) (q3.K X5.o)⟩,⟨_,iJ _ _ _⟩,(eE (S:=fun b=>b=m1\/b=m2) (X1.o.tr X5.o)).tr (T6.o.2.mono (S':=fun b=>b=m1\/b=m2) fun b h=>.inl h) fun b h=>.inl h⟩)
   refine hK.o _ _ ?_;clear hK KK HSW T5 T6 R5 qt qC X5 T1 G1 qa X1;refine wpAny_done (by kernel_rfl) ?_ _;go_wp2;go_meet;exact⟨_,_,R⟩
  rw[hxn]at h;cases h
 obtain⟨g1,c1,R⟩:=hcut;clear y7 L1 BO HX T1 G1 X1;have T2:=Hx R.o.1;obtain⟨v,qn⟩:=R.o.2.2.1;obtain⟨_,g,qE,qx⟩:=R.o.2.1 b v qn;subst qE;have G2:=Hx R.o.2.1;have qu:=Hx R.o.2.2.2;have y7:=xc (show wc.cell? (aD gx 7)=some (.map (some m1))from T2.o.tk.cell 7);have y6:=xc (show wc.cell? (aD gx 6)=some (.s (sA gC) (n+1) cC)from T2.o.tk.cell 6);have yd:wc.cell? (aD g a)=some (vI (dsP t [] b a)):=(by obtain⟨b',o',e1,_,hc⟩:=qx.rd.iint DL.o;injection e1 with e1;(injection e1 with e1 e2);subst e1 e2;rw[kQu]at hc;exact hc);have yd:=xc yd;have yi:=xc (kP T2.o.cs ZI.o);have yj:=xc (kP T2.o.cs ZJ.o);have L4:∀x:XW wc,(Instr.lookup 320 (.map (some m1)) (vI (b:Int)) false).run Tryz.prog x.val=.ok (.s (sA g) N N) x.val:=fun x=>(by have h:=(T2.o.mp1.K x.ext).look ky1 (fun x v hx=>by have:=(G2.o x v hx).1;have:=qe.o;unfold SmN;omega) Tryz.underlying320 (z:=zN) rfl (x:=b) (by have:=qe.o;unfold SmN;omega) false;rw[qn]at h;exact h);(have aN:(a:Int)<(N:Int):=(by omega);have jn:(j:Int)<(n:Int)+1:=(by omega);have qm:(i:Int)<(n:Int)+1:=(by omega);clear qn qx R;generalize dsP t [] b a=D at*;have wk:wrap64 (cb-ca)=cb-ca:=by unfold wrap64;omega);(go_upto_region 4 with fail);refine bH (by kernel_rfl) (by kernel_rfl) ?_;(repeat (go_big_quiet_step (fail)));refine wpQuiet_nil ?_;rintro _ ⟨x3,rfl⟩;have X3:=Hx x3.ext;generalize x3.val=w3 at*;have T3:=Hx (T2.o.K X3.o);have G3:Hid (F1P t N w3 g1):=Hx (fun d v hd=>by obtain⟨q1,g,q2,q3⟩:=G2.o d v hd;exact⟨q1,g,q2,q3.K X3.o⟩);have qk:Hid (FrS (fun b=>b=m1\/b=m2) wx w3):=Hx (qu.o.tr (eE (S:=fun b=>b=m1\/b=m2) X3.o) fun b h=>.inl h);clear y7 y6 yd yi yj L4 aN jn qm T2 G2 qu X3 wk;cases hne:(D !=cb-ca)
 case true=>
  have F:=Hx (show Ending.returned (.bool false)=.returned (.bool cv)/\CvI w w3 gx m1 m2 t AO co AL cl A n cA gN cN gC cC fr p N/\FrS (fun b=>b=m1\/b=m2) wx w3 from
   ⟨by rw[CB.o,yP (by simpa using hne)];rfl,⟨_,_,_,_,T3.o,G3.o,qi.o⟩,qk.o⟩)
  clear T3 G3 qk;go_wp2;go_ret;exact F.o
 have CV:Hid (cv=(cnP t [] a b==1)):=Hx (by rw[CB.o,yO (by simpa using hne)];rfl);clear CB;(go_upto_region 7 with fail);have B4:Hid (Blk (w3.alloc (.cells #[vI (a:Int),vI (b:Int)] 116)) w3.heap.size 116 #[vI (a:Int),vI (b:Int)]):=Hx (eN w3 _ _);have X4:Hid (Ext w3 (w3.alloc (.cells #[vI (a:Int),vI (b:Int)] 116))):=Hx ((eR w3).alloc _);generalize w3.alloc (.cells #[vI (a:Int),vI (b:Int)] 116)=w4 at*;generalize w3.heap.size=gk at*;have T4:=Hx (T3.o.K X4.o);have G4:Hid (F1P t N w4 g1):=Hx (fun d v hd=>by obtain⟨q1,g,q2,q3⟩:=G3.o d v hd;exact⟨q1,g,q2,q3.K X4.o⟩);have qz:Hid (FrS (fun b=>b=m1\/b=m2) wx w4):=Hx (qk.o.tr (eE (S:=fun b=>b=m1\/b=m2) X4.o) fun b h=>.inl h);have qo:Hid (∀x v,f2 x=some v->mB x):=Hx (fun x v hx=>by have h:=(qi.o x v hx).1;have:=qe.o;unfold mB;omega);have qp:Hid (mB (a,b)):=Hx (by have:=qe.o;unfold mB;omega);clear T3 G3 qk X4 hne;have y8:=xc (show w4.cell? (aD gx 8)=some (.map (some m2))from T4.o.tk.cell 8);have k0:=xc (show w4.cell? (aD gk 0)=some (vI (a:Int))from B4.o.cell 0);have k1:=xc (show w4.cell? (aD gk 1)=some (vI (b:Int))from B4.o.cell 1);obtain⟨on,kn,L7,hk⟩:∃on kn:Bool,(∀x:XW w4,(Instr.lookup 321 (.map (some m2)) (.agg #[vI (a:Int),vI (b:Int)]) true).run Tryz.prog x.val=.ok (.tuple #[.bool on,.bool kn]) x.val)/\(kn=false\/(kn=true/\on=(cnP t [] a b==1))):=(by (cases hf:f2 (a,b)with|none=>exact⟨false,false,fun x=>by have h:=(T4.o.mp2.K x.ext).look ky2 qo.o Tryz.underlying321 (z:=.bool false) rfl (x:=(a,b)) qp.o true;rw[hf]at h;exact h,.inl rfl⟩|some v=>obtain⟨_,h2⟩:=qi.o (a,b) v hf;subst h2;exact⟨_,true,fun x=>by have h:=(T4.o.mp2.K x.ext).look ky2 qo.o Tryz.underlying321 (z:=.bool false) rfl (x:=(a,b)) qp.o true;rw[hf]at h;exact h,.inr ⟨rfl,rfl⟩⟩));have HK:=Hx hk;clear hk;refine bH (by kernel_rfl) (by kernel_rfl) ?_;(repeat (go_big_quiet_step (fail)));refine wpQuiet_nil ?_;rintro _ ⟨x5,rfl⟩;have X5:=Hx x5.ext;generalize x5.val=w5 at*;have T5:=Hx (T4.o.K X5.o);have B5:=Hx (B4.o.K X5.o);have G5:Hid (F1P t N w5 g1):=Hx (fun d v hd=>by obtain⟨q1,g,q2,q3⟩:=G4.o d v hd;exact⟨q1,g,q2,q3.K X5.o⟩);have qh:Hid (FrS (fun b=>b=m1\/b=m2) wx w5):=Hx (qz.o.tr (eE (S:=fun b=>b=m1\/b=m2) X5.o) fun b h=>.inl h);clear y8 k0 k1 L7 T4 B4 G4 qz X5;(go_upto_if 89 with fail);go_cut [10] (fun s wq=>s=.bool cv/\Hid (CvI w wq gx m1 m2 t AO co AL cl A n cA gN cN gC cC fr p N/\FrS (fun b=>b=m1\/b=m2) wx wq))
 case first=>
  rcases HK.o with hk|⟨hk,ho⟩
  ·subst hk
   clear HK;have qa:=Hx (show∀W,Ext w5 W->W.cell? (aD gx 0)=some (vI t.nodes)/\W.cell? (aD gx 1)=some (.s AO t.over.length co)/\W.cell? (aD gx 2)=some (.s AL t.links.length cl)/\W.cell? (aD gx 3)=some zN from fun W hx=>
    ⟨(T5.o.tk.K hx).cell 0,(T5.o.tk.K hx).cell 1,(T5.o.tk.K hx).cell 2,(T5.o.tk.K hx).cell 3⟩)
   have XD:Hid (Ext w5 w5.drew):=Hx ((eR w5).drewN 1);have HSW:=Hx (qa.o _ XD.o);(go_upto_region 9 with fail);(refine wX qa 10 ?_;refine wP 0 rfl HSW.o ?_;try simp only[Act.put,yA,yB,yC,yD,yE,yF]);refine wP 1 rfl HSW.o ?_;refine wP 2 rfl HSW.o ?_;refine wV 3 rfl HSW.o ?_;refine wP 4 rfl HSW.o ?_;refine wP 5 rfl HSW.o ?_;refine wP 6 rfl HSW.o ?_;refine wV 7 rfl HSW.o ?_;refine wP 8 rfl HSW.o ?_;(refine wP 9 rfl HSW.o ?_;try simp only[Act.put,yA,yB,yC,yD,yE,yF]);(refine aV (by kernel_rfl) rfl (by rfl) (fun KK hK=>?_);go_simp;refine(UN.o _ (T5.o.ex.tr XD.o)).mono ?_;rintro e w6 ⟨rfl,x6⟩;have X6:=Hx (XD.o.tr x6);refine hK.o _ _ ?_;clear hK KK HSW qa XD x6;try simp only[Act.put,yD,yE,yF]);refine dQ (i:=11) (by kernel_rfl) rfl (by rfl) (fun KK hK=>?_);go_simp;refine hK.o _ _ ?_;clear hK KK;refine wpAny_done (by kernel_rfl) ?_ _;rw[<-CV.o];have T6:=Hx (T5.o.K X6.o);have B6:=Hx (B5.o.K X6.o);have G6:Hid (F1P t N w6 g1):=Hx (fun d v hd=>by obtain⟨q1,g,q2,q3⟩:=G5.o d v hd;exact⟨q1,g,q2,q3.K X6.o⟩);have qB:Hid (FrS (fun b=>b=m1\/b=m2) wx w6):=Hx (qh.o.tr (eE (S:=fun b=>b=m1\/b=m2) X6.o) fun b h=>.inl h);clear T5 B5 G5 qh X6;have XD:Hid (Ext w6 w6.drew):=Hx ((eR w6).drewN 1);have HSW:Hid (w6.drew.cell? (aD gx 8)=some (.map (some m2))/\w6.drew.cell? (aD gk 0)=some (vI (a:Int))/\w6.drew.cell? (aD gk 1)=some (vI (b:Int))):=Hx (⟨(T6.o.tk.K XD.o).cell 8,(B6.o.K XD.o).cell 0,(B6.o.K XD.o).cell 1⟩);(go_upto_region 10 with fail);(refine wp_region_last (fun W=>W.cell? (aD gx 8)=some (.map (some m2))/\W.cell? (aD gk 0)=some (vI (a:Int))/\W.cell? (aD gk 1)=some (vI (b:Int))) 6 (by kernel_rfl) ?_;refine wP 0 rfl HSW.o ?_;try simp only[Act.put,yA,yB,yC,yD,yE,yF]);refine wP 1 rfl HSW.o ?_;refine wP 2 rfl HSW.o ?_;refine wV 3 rfl HSW.o ?_;(refine wV 4 rfl HSW.o ?_;try simp only[Act.put,yA,yB,yC,yD,yE,yF]);refine wP 5 rfl HSW.o ?_;try simp only[Act.put,yA,yB,yC,yD,yE,yF]
   refine aV (by kernel_rfl) rfl (by rfl) (fun KK hK=>?_);have T7:=Hx (T6.o.K XD.o);refine jz6 (.tmp 104) (.tmp 105) (.tmp 106) rfl ky2 Tryz.underlying321 T7.o.mp2 qo.o (by rfl) (a,b) qp.o (by rfl) (.bool cv) (by rfl) ?_;intro w8 qD qy;have T8:=Hx (T7.o.map2 qy qD);have F:=Hx (show CvI w w8 gx m1 m2 t AO co AL cl A n cA gN cN gC cC fr p N/\FrS (fun b=>b=m1\/b=m2) wx w8 from
    ⟨⟨_,_,_,_,T8.o.1,fun d v hd=>by
      obtain⟨q1,g,q2,q3⟩:=G6.o d v hd;exact⟨q1,g,q2,T8.o.2.rdT (oF T7.o.mp2 _) (q3.K XD.o)⟩,fun x v hx=>by
      by_cases e:x=(a,b)
      ·
       subst e
       rw[iJ]at hx;injection hx with hx
       subst hx;exact⟨⟨qj,qg⟩,by rw[CV.o]⟩
      rw[kM _ _ e]at hx;exact qi.o x v hx⟩,(qB.o.tr (eE (S:=fun b=>b=m1\/b=m2) XD.o) fun b h=>.inl h).tr (T8.o.2.mono (S':=fun b=>b=m1\/b=m2) fun b h=>.inr h) fun b h=>.inl h⟩)
   refine hK.o _ _ ?_;clear hK KK HSW T6 B6 G6 qB T7 T8 qD qy XD;refine wpAny_done (by kernel_rfl) ?_ _;go_wp2;go_meet;exact⟨rfl,F⟩
  subst hk;have F:Hid (CvI w w5 gx m1 m2 t AO co AL cl A n cA gN cN gC cC fr p N/\FrS (fun b=>b=m1\/b=m2) wx w5):=Hx (⟨⟨_,_,_,_,T5.o,G5.o,qi.o⟩,qh.o⟩);have e:=ho.trans CV.o.symm;clear HK T5 B5 G5 qh ho CV;subst e;go_wp2;go_meet;exact⟨rfl,F⟩
 obtain⟨rfl,F⟩:=hcut;clear T5 B5 G5 qh HK;go_wp2;go_ret;exact⟨rfl,F.o⟩
end Fo
end Go.Proofs.YtllmekijiohgmaaGreatDoor
namespace Go.Proofs.YtllmekijiohgmaaGreatDoor
namespace Fo
open Sx
def dF:Int:=6402373705728000
def dH(h:Nat):Rat:=((dF^h:Int):Rat)
theorem jzad(h:Nat):dH (h+1)=dH h*((dF:Int):Rat):=by unfold dH;rw[Int.pow_succ,kZu]
theorem jzae(h:Nat):isI (dH h):=⟨_,rfl⟩
theorem sU{q:Rat}{h:Nat}(hq:isI (q*dH h)):isI (q*dH (h+1)):=by
 rw[jzad, <-Rat.mul_assoc];exact hq.mul ⟨dF,rfl⟩
theorem jzil:∀n:Nat,n<19->0<n->dF%(n:Int)=0:=by decide
theorem sV{q:Rat}{h n:Nat}(hq:isI (q*dH h))(h0:0<n)(hn:n<=18):isI (q/(n:Rat)*dH (h+1)):=by
 obtain⟨z,hz⟩:=hq;have h1:=jzil n (by omega) h0;have h2:dF=(n:Int)*(dF/(n:Int)):=(by have:=Int.mul_ediv_add_emod dF (n:Int);omega);have qa:(n:Rat)≠0:=fun e=>(by have:((n:Int):Rat)=((0:Int):Rat):=e;have:=Rat.intCast_inj.1 this;omega);refine⟨z*(dF/(n:Int)),?_⟩;rw[jzad,kZu, <-hz];have h3:((dF:Int):Rat)=(n:Rat)*(((dF/(n:Int):Int)):Rat):=(by (conv=>lhs;rw[h2]);rw[kZu];rfl);rw[h3];have h4:q/(n:Rat)*(n:Rat)=q:=Rat.div_mul_cancel qa;grind
def aP(l:List Gp):Rat:=l.foldr (fun g s=>g.am+s) 0
theorem oG:∀(l:List Gp) (x:Gp),aP (bK l x)=aP l+x.am
 | [],x=>by show x.am+0=0+x.am;grind
 |g::l,x=>by
  unfold bK
  split
  ·show g.am+x.am+aP l=g.am+aP l+x.am
   grind
  ·show g.am+aP (bK l x)=g.am+aP l+x.am
   rw[oG l x];grind
structure GpB(t:Tp)(h:Nat)(g:Gp):Prop where
 node:g.node<t.nodes.toNat
 sg:∀s∈g.st,sgB t s
 am:0<=g.am
 int:isI (g.am*dH h)
theorem jzaf{t}{h:Nat}:∀{l:List Gp} {x:Gp},(∀g∈l,GpB t h g)->GpB t h x->∀g∈bK l x,GpB t h g
 | [],x,_,hx,g,hg=>by
   obtain rfl:g=x:=(by simpa [bK]using hg);exact hx
 |a::l,x,hl,hx,g,hg=>by
  unfold bK at hg
  split at hg
  ·rcases xZ.1 hg with rfl|hg
   ·have ha:=hl a (by simp)
    exact⟨ha.node,ha.sg,Rat.add_nonneg ha.am hx.am,by
     show isI ((a.am+x.am)*dH h);rw[Rat.add_mul];exact ha.int.add hx.int⟩
   ·exact hl g (by simp[hg])
  ·rcases xZ.1 hg with rfl|hg
   ·exact hl g (by simp)
   ·exact jzaf (fun b hb=>hl b (by simp[hb])) hx g hg
structure QB_(h:Nat)(P q:Rat):Prop where
 nn:0<=q
 top:q<=P
 int:isI (q*dH h)
structure FsB(t:Tp)(h:Nat)(B P:Rat)(s:Fs):Prop where
 len:s.sh.length=2*t.links.length
 sh:∀q∈s.sh,QB_ (h+1) (B+P) q
 lo:QB_ (h+1) (B+P) s.lo
 nx:∀g∈s.nx,GpB t (h+1) g
 tot:aP s.nx<=P
section
variable {t:Tp} {h:Nat} {B P:Rat} {s:Fs}
theorem QB_.mono{P P' q:Rat}(hq:QB_ h P q)(hp:P<=P'):QB_ h P' q:=⟨hq.nn,kQs hq.top hp,hq.int⟩
theorem QB_.zero{P:Rat}(hp:0<=P):QB_ h P 0:=⟨vC,hp,by rw[Rat.zero_mul];exact isI.zero⟩
theorem QB_.add{P p q:Rat}(hq:QB_ h P q)(hp:0<=p)(hi:isI (p*dH h)):QB_ h (P+p) (q+p):=⟨Rat.add_nonneg hq.nn hp,by have:=hq.top;grind,by rw[Rat.add_mul];exact hq.int.add hi⟩
theorem FsB.out_(hs:FsB t h B P s)(g:Gok t){st:List Sg}(hst:∀s∈st,sgB t s){q:Rat}(hq:0<=q)(hi:isI (q*dH (h+1))){a:Nat}(ha:a<2*t.links.length):FsB t h B (P+q) (bZ t st q s a):=by
 obtain⟨y,hg⟩:∃y,s.sh[a]?=some y:=⟨_,yG (by rw[hs.len];exact ha)⟩;refine⟨?_,fun r hr=>?_,?_,?_,?_⟩;{show(dE s.sh a q).length=_;unfold dE;rw[yV];exact hs.len};{have hr:r∈s.sh.set a (s.sh[a]?.getD 0+q):=hr;(rcases xE hr with h1|h1);{exact(hs.sh r h1).mono (by grind)};rw[h1,hg,kQ1];have:=(hs.sh _ (yJ hg)).add hq hi;rwa [Rat.add_assoc]at this};{exact hs.lo.mono (by grind)};{exact jzaf hs.nx ⟨g.hd a ha,hst,hq,hi⟩};show aP (bK s.nx _)<=P+q;rw[oG];have:=hs.tot;show aP s.nx+q<=P+q;grind
theorem FsB.outs(g:Gok t){st:List Sg}(hst:∀s∈st,sgB t s){q:Rat}(hq:0<=q)(hi:isI (q*dH (h+1))):∀(l:LN) {P:Rat} {s:Fs},FsB t h B P s->(∀a∈l,a<2*t.links.length)->FsB t h B (P+(l.length:Rat)*q) (l.foldl (bZ t st q) s)
 | [],P,s,hs,_=>by
   have e:P+((([]:LN).length:Nat):Rat)*q=P:=by
    show P+(0:Rat)*q=P;grind
   rw[e];exact hs
 |a::l,P,s,hs,hl=>by
  have h1:=FsB.outs g hst hq hi l (hs.out_ g hst hq hi (hl a (by simp))) fun b hb=>hl b (by simp[hb]);have e:P+(((a::l).length:Nat):Rat)*q=P+q+(l.length:Rat)*q:=by
   have:(((a::l).length:Nat):Rat)=(l.length:Rat)+1:=by
    show(((l.length+1:Nat):Int):Rat)=((l.length:Int):Rat)+1;rw[kZv,Rat.intCast_add];rfl
   rw[this];grind
  rw[e];exact h1
theorem nP{q:Rat}{n:Nat}(h:0<=q):0<=q/(n:Rat):=by
 rw[Rat.div_def];refine vA h ?_;by_cases hn:n=0;{subst hn;show(0:Rat)<=(0:Rat)⁻¹;rw[Rat.inv_zero];exact vC};exact vB (Rat.inv_pos.2 (Rat.intCast_pos.2 (by omega)))
theorem FsB.grp(hs:FsB t h B P s)(gk:Gok t)(hL:t.links.length<=9){T:List Tb}(hT:∀n x,T[n]?=some x->TbB t n x)(dst:Nat){g:Gp}(hg:GpB t h g):FsB t h B (P+g.am) (grS t T dst h s g):=by
 have qa:FsB t h B (P+g.am) s:=⟨hs.len,fun q hq=>(hs.sh q hq).mono (by have:=hg.am;grind),hs.lo.mono (by have:=hg.am;grind),hs.nx,by have:=hs.tot;have:=hg.am;grind⟩;unfold grS;split;{exact qa};rename_i x hx;have h1:=lS (hT _ _ hx) dst h hg.sg;split;rename_i arcs st r e;rw[e]at h1;split;{split;{exact qa};refine⟨hs.len,qa.sh,?_,hs.nx,qa.tot⟩;have:=hs.lo.add hg.am (sU hg.int);rwa [Rat.add_assoc]at this};rename_i hne;have h2:0<arcs.length:=List.length_pos_iff.2 hne;have h3:arcs.length<=18:=(by have:=h1.few;simp only at this;omega);have h4:=hs.outs gk h1.sg (nP (n:=arcs.length) hg.am) (sV hg.int h2 h3) arcs fun a ha=>(h1.arc a ha).1;have h5:(arcs.length:Rat)*(g.am/(arcs.length:Rat))=g.am:=(by rw[Rat.mul_comm];exact Rat.div_mul_cancel fun e=>(by have:((arcs.length:Int):Rat)=((0:Int):Rat):=e;have:=Rat.intCast_inj.1 this;omega));rwa [h5]at h4
theorem sW:∀h,1<=dF^h:=fun h=>by
 (induction h with|zero=>decide|succ h ih=>rw[Int.pow_succ];unfold dF at*;omega)
theorem jzag{h k:Nat}(hk:h<=k):dF^h<=dF^k:=by
 obtain⟨j,rfl⟩:∃j,k=h+j:=⟨k-h,by omega⟩;clear hk;(induction j with|zero=>exact Int.le_refl _|succ j ih=>rw[<-kZw,Int.pow_succ];have:=sW (h+j);unfold dF at*;omega)
theorem jzim:512*dF^256<(B32^430:Nat):=by decide+kernel
theorem QB_.sz{h:Nat}{P q:Rat}(hq:QB_ h P q)(hh:h<=256)(hP:P<=((512:Int):Rat)):SzQ q 430:=by
 obtain⟨z,hz⟩:=hq.int;have hd:=sW h;have hm:=jzag hh;have h0:(0:Rat)<=dH h:=Rat.intCast_nonneg.2 (by omega);have qa:0<=z:=(by have:=vA hq.nn h0;rw[hz]at this;exact Rat.intCast_nonneg.1 this);have qe:z<=512*dF^h:=(by have h1:=kQ5 (kQs hq.top hP) h0;rw[hz]at h1;unfold dH at h1;rw[<-kZu]at h1;exact kQt.1 h1);have h3:=jzf (q:=q) (D:=dF^h) (N:=z) (Z:=(512*dF^256).natAbs) (by omega) hz (by omega) (by omega);have h4:=jzim;exact⟨by have:=h3.1;omega,by have:=h3.2;omega⟩
theorem GpB.qb{h:Nat}{g:Gp}(hg:GpB t h g){P:Rat}(hP:g.am<=P):QB_ h P g.am:=⟨hg.am,hP,hg.int⟩
theorem oH:∀(l:List Gp),(∀g∈l,0<=g.am)->0<=aP l/\∀g∈l,g.am<=aP l
 | [],_=>⟨vC,fun _ h=>by cases h⟩
 |a::l,h=>by
  obtain⟨h1,h2⟩:=oH l fun g hg=>h g (by simp[hg]);have h3:=h a (by simp);refine⟨Rat.add_nonneg h3 h1,fun g hg=>?_⟩;show g.am<=a.am+aP l;rcases xZ.1 hg with rfl|hg
  ·grind
  ·have:=h2 g hg;grind
end
end Fo
end Go.Proofs.YtllmekijiohgmaaGreatDoor
namespace Go.Proofs.YtllmekijiohgmaaGreatDoor
namespace Sx
open Go.Lib
def oI(l:List UInt8):Nat:=l.foldl (fun n c=>10*n+(c.toNat-48)) 0
theorem oJ{n:Nat}(h:n<256):(UInt8.ofNat n).toNat=n:=by
 rw[UInt8.toNat_ofNat'];omega
theorem oK(u:Nat):oI (decDigits u)=u:=by
 (induction u using Nat.strongRecOn with|_ u ih=>by_cases h:u<10;{rw[decDigits,dif_pos h];show 10*0+((UInt8.ofNat (48+u)).toNat-48)=u;rw[oJ (by omega)];omega};have h1:=ih (u/10) (by omega);rw[decDigits,dif_neg h];unfold oI at h1⊢;rw[kZt,h1];show 10*(u/10)+((UInt8.ofNat (48+u%10)).toNat-48)=u;rw[oJ (by omega)];omega)
theorem rK(u:Nat):∀c∈decDigits u,48<=c.toNat:=by
 (induction u using Nat.strongRecOn with|_ u ih=>intro c hc;rw[decDigits]at hc;by_cases h:u<10;{rw[dif_pos h]at hc;rw[xD.1 hc,oJ (by omega)];omega};(rw[dif_neg h]at hc;rcases xY.1 hc with h1|h1);{exact ih (u/10) (by omega) c h1};rw[xD.1 h1,oJ (by omega)];omega)
theorem jzin(n:Int):∀c∈itoa n,c≠32:=by
 have key:∀u,∀c∈decDigits u,c≠32:=fun u c hc e=>(by have:=rK u c hc;rw[e]at this;exact absurd this (by decide));intro c hc;unfold itoa at hc;split at hc;{(rcases xZ.1 hc with rfl|h);{decide};exact key _ c h};exact key _ c hc
theorem jzio{a b:Int}(h:itoa a=itoa b):a=b:=by
 have no:∀(u v:Nat),(45:UInt8)::decDigits u≠decDigits v:=fun u v e=>(by have:=rK v 45 (by rw[<-e];simp);exact absurd this (by decide));unfold itoa at h;by_cases ha:a<0;{rw[if_pos ha]at h;by_cases hb:b<0;{rw[if_pos hb]at h;have h1:=congrArg oI (List.cons.inj h).2;rw[oK,oK]at h1;omega};rw[if_neg hb]at h;exact absurd h (no _ _)};rw[if_neg ha]at h;by_cases hb:b<0;{rw[if_pos hb]at h;exact absurd h.symm (no _ _)};rw[if_neg hb]at h;have h1:=congrArg oI h;rw[oK,oK]at h1;omega
end Sx
end Go.Proofs.YtllmekijiohgmaaGreatDoor
namespace Go.Proofs.YtllmekijiohgmaaGreatDoor
namespace Fo
open Go.Lib Sx
def sgT(s:Sg):List UInt8:=(if s.1=1 then 110 else 97)::itoa (s.2:Int)
def txL(l:List Sg):List UInt8:=Lib.join (l.map sgT) [32]
theorem sX(s:Sg):∀c∈sgT s,c≠32:=fun c hc=>by
 unfold sgT at hc;rcases xZ.1 hc with rfl|hc
 ·split <;> decide
 ·exact jzin _ c hc
theorem sY:∀(x y t u:List UInt8),(∀c∈x,c≠32)->(∀c∈y,c≠32)->(t=[]\/∃r,t=32::r)->(u=[]\/∃r,u=32::r)->x++t=y++u->x=y/\t=u
 | [],[],_,_,_,_,_,_,h=>⟨rfl,h⟩
 | [],b::y,t,u,_,hy,ht,_,h=>by
   exfalso;rcases ht with rfl|⟨r,rfl⟩
   ·cases h
   ·injection h with h _
    exact hy b (by simp) h.symm
 |a::x,[],t,u,hx,_,_,hu,h=>by
  exfalso;rcases hu with rfl|⟨r,rfl⟩
  ·cases h
  ·injection h with h _
   exact hx a (by simp) h
 |a::x,b::y,t,u,hx,hy,ht,hu,h=>by
  injection h with h1 h2
  obtain⟨h3,h4⟩:=sY x y t u (fun c hc=>hx c (by simp[hc])) (fun c hc=>hy c (by simp[hc])) ht hu h2;exact⟨by rw[h1,h3],h4⟩
theorem oM(r:List (List UInt8)):joinTail [32] r=[]\/∃q,joinTail [32] r=32::q:=by
 (cases r with|nil=>exact .inl rfl|cons x r=>exact .inr ⟨_,rfl⟩)
theorem jzah:∀(l k:List (List UInt8)),(∀x∈l,∀c∈x,c≠32)->(∀x∈k,∀c∈x,c≠32)->joinTail [32] l=joinTail [32] k->l=k
 | [],[],_,_,_=>rfl
 | [],x::k,_,_,h=>by cases h
 |x::l,[],_,_,h=>by cases h
 |x::l,y::k,hl,hk,h=>by
  have h:32::(x++joinTail [32] l)=32::(y++joinTail [32] k):=by
   have e:∀(x:List UInt8) (l:List (List UInt8)),joinTail [32] (x::l)=32::(x++joinTail [32] l):=fun x l=>(by simp[joinTail]);rw[<-e, <-e];exact h
  injection h with _ h
  obtain⟨h1,h2⟩:=sY x y _ _ (hl x (by simp)) (hk y (by simp)) (oM l) (oM k) h;rw[h1,jzah l k (fun x hx=>hl x (by simp[hx])) (fun x hx=>hk x (by simp[hx])) h2]
theorem jzip{s u:Sg}(hs:s.1=1\/s.1=2)(hu:u.1=1\/u.1=2)(h:sgT s=sgT u):s=u:=by
 obtain⟨k,m⟩:=s;obtain⟨j,n⟩:=u;unfold sgT at h;injection h with h1 h2;have h2:=jzio h2;simp only at h1 h2 hs hu;have e:k=j:=(by (rcases hs with rfl|rfl <;> rcases hu with rfl|rfl);{rfl};{exact absurd h1 (by simp)};{exact absurd h1 (by simp)};rfl);have e2:m=n:=(by omega);rw[e,e2]
theorem jziq{l k:List Sg}(hl:∀s∈l,s.1=1\/s.1=2)(hk:∀s∈k,s.1=1\/s.1=2)(h:txL l=txL k):l=k:=by
 have qa:∀l:List Sg,∀x∈l.map sgT,∀c∈x,c≠32:=fun l x hx=>(by obtain⟨s,_,rfl⟩:=kQl.1 hx;exact sX s);have key:l.map sgT=k.map sgT:=(by (cases l with|nil=>(cases k with|nil=>rfl|cons s k=>exfalso;unfold txL at h;rw[kZa,join_cons]at h;exact absurd h.symm (by unfold sgT;simp[join_nil]))|cons s l=>(cases k with|nil=>exfalso;unfold txL at h;rw[kZa,join_cons]at h;exact absurd h (by unfold sgT;simp[join_nil])|cons u k=>unfold txL at h;rw[kZa,kZa,join_cons,join_cons]at h;obtain⟨h1,h2⟩:=sY _ _ _ _ (sX s) (sX u) (oM _) (oM _) h;rw[kZa,kZa,h1,jzah _ _ (qa l) (qa k) h2])));have inj:∀(l k:List Sg),(∀s∈l,s.1=1\/s.1=2)->(∀s∈k,s.1=1\/s.1=2)->l.map sgT=k.map sgT->l=k:=fun l=>(by (induction l with|nil=>(intro k _ _ h;cases k with|nil=>rfl|cons s k=>cases h)|cons s l ih=>(intro k hl hk h;cases k with|nil=>cases h|cons u k=>(rw[kZa,kZa]at h;injection h with h1 h2);rw[jzip (hl s (by simp)) (hk u (by simp)) h1,ih k (fun s hs=>hl s (by simp[hs])) (fun s hs=>hk s (by simp[hs])) h2])));exact inj l k hl hk key
def fdG(l:List Gp)(n:Nat)(st:List Sg):Option Nat:=l.findIdx? fun g=>decide (g.node=n/\g.st=st)
theorem jzir{l:List Gp}{n i:Nat}{st:List Sg}(h:fdG l n st=some i):i<l.length:=by
 unfold fdG at h;rw[List.findIdx?_eq_some_iff_getElem]at h;exact h.1
theorem jzai:∀{l:List Gp} {x:Gp},fdG l x.node x.st=none->bK l x=l++[x]
 | [],_,_=>rfl
 |g::l,x,h=>by
  unfold fdG at h;rw[List.findIdx?_cons]at h;unfold bK;by_cases e:g.node=x.node/\g.st=x.st
  ·rw[yO e,if_pos rfl]at h
   cases h
  ·rw[yP e,if_neg Bool.false_ne_true,Option.map_eq_none_iff]at h
   rw[if_neg e,jzai h];rfl
theorem jzaj:∀{l:List Gp} {x:Gp} {i:Nat},fdG l x.node x.st=some i->∃g,l[i]?=some g/\g.node=x.node/\g.st=x.st/\bK l x=l.set i ⟨g.node,g.st,g.am+x.am⟩
 | [],_,_,h=>by cases h
 |g::l,x,i,h=>by
  unfold fdG at h;rw[List.findIdx?_cons]at h;unfold bK;by_cases e:g.node=x.node/\g.st=x.st
  ·rw[yO e,if_pos rfl]at h
   injection h with h
   subst h;rw[if_pos e];exact⟨g,rfl,e.1,e.2,rfl⟩
  ·rw[yP e,if_neg Bool.false_ne_true,Option.map_eq_some_iff]at h
   obtain⟨j,h1,rfl⟩:=h;obtain⟨y,h2,h3,h4,h5⟩:=jzaj h1;rw[if_neg e,h5];exact⟨y,h2,h3,h4,rfl⟩
end Fo
end Go.Proofs.YtllmekijiohgmaaGreatDoor
namespace Go.Proofs.YtllmekijiohgmaaGreatDoor
open Go.RowKit Go.Lib Sx
theorem jzak(r:Int)w(ht:Tab w)(hr:i64 r):
  Calls Tryz.prog 96 #[vI r] w fun e w'=>e=.returned (.string ⟨(Lib.itoa r).toArray⟩)/\Ext w w':=by
 unfold i64 at hr;refine(Tryz.strconv_Itoa r (by omega) (by omega) w ht).mono ?_;rintro e w' ⟨rfl,k,os,rfl⟩;exact⟨rfl,uZ _ _ _⟩
theorem jzis(r:Nat)(h:r<10000000000000000000):(Lib.decDigits r).length<=19:=by
 rw[Lib.decDigits_length];have h1:=Dig.fixD_pad 18 r (by simp;omega);have h2:∀k r,(Dig.fixD k r).length=k:=fun k=>(by (induction k with|zero=>intro r;rfl|succ k ih=>intro r;rw[Dig.fixD,yQ,ih];rfl));have h3:=congrArg List.length h1;rw[h2,yQ,xC,Lib.decDigits_length]at h3;omega
theorem sZ(r:Int)(hr:i64 r):(Lib.itoa r).length<=20:=by
 unfold i64 at hr;unfold Lib.itoa;have h1:∀n:Nat,n<=9223372036854775808->(Lib.decDigits n).length<=19:=fun n hn=>(by exact jzis n (by omega));split;{rw[kQo];have:=h1 r.natAbs (by omega);omega};have:=h1 r.toNat (by omega);omega
end Go.Proofs.YtllmekijiohgmaaGreatDoor
namespace Go.Proofs.YtllmekijiohgmaaGreatDoor
open Go.RowKit
open Go.Maps (Keyed)
namespace Fo
def fA(x:Nat×List UInt8):Value:=.agg #[vI (x.1:Int),.string ⟨x.2.toArray⟩]
def SmS(x:Nat×List UInt8):Prop:=x.1<4294967296/\x.2.length<=1000000
theorem jzit:Keyed Tryz.prog 158:=Keyed.of_law (deep_law_laid (by kernel_rfl) (m:=2) (by decide) (Nat.le_of_ble_eq_true (by kernel_rfl)) (by kernel_rfl) (by kernel_rfl))
theorem jziu(a b:Value):(Value.agg #[a,b]).formed Tryz.prog 158=true:=by
 have c1:Tryz.prog.cellsOf 158=2:=(by kernel_rfl);unfold Value.formed;simp only[Tryz.underlying158,c1];rfl
theorem ky3:KyG Tryz.prog 158 fA SmS:=⟨jzit,fun x hx=>by
 have w1:=oC hx.1;have w2:x.2.length<=maxLen:=(by have:=hx.2;unfold maxLen;omega);refine⟨.string (keyBytes [Lit.int .i64 (x.1:Int),.string x.2]),?_⟩;unfold fA keyOf;have c0:Tryz.prog.keyType 158=true:=(by kernel_rfl);have c1:Tryz.prog.cellsOf 158=2:=(by kernel_rfl);have c2:Tryz.prog.cellsOf 3=1:=(by kernel_rfl);have c3:Tryz.prog.cellsOf 9=1:=(by kernel_rfl);rw[Tryz.underlying158];simp only[c0,jziu,kZg,if_true];obtain⟨d,hd⟩:=jzac;rw[hd];have k1:Tryz.prog.keyLits (d+1) 3 [vI (x.1:Int)]=some [Lit.int .i64 (x.1:Int)]:=by
  unfold Program.keyLits;rw[Tryz.underlying3];simp[w1]
 have k2:Tryz.prog.keyLits (d+1) 9 [.string ⟨x.2.toArray⟩]=some [.string x.2]:=by
  unfold Program.keyLits;rw[Tryz.underlying9];have e:(⟨x.2.toArray⟩:ByteArray).size=x.2.length:=(by simp[ByteArray.size]);simp only[e];rw[if_pos w2]
 unfold Program.keyLits;rw[Tryz.underlying158];have e0:(Value.agg #[vI (x.1:Int),.string ⟨x.2.toArray⟩]).cells.toList=[vI (x.1:Int),.string ⟨x.2.toArray⟩]:=rfl;rw[e0];simp only[c1];rw[if_pos ⟨rfl,by kernel_rfl⟩];simp only[List.mapM_cons,List.mapM_nil,c2,c3,List.drop_zero,List.drop_succ_cons,List.take_succ_cons,List.take_zero,k1,k2];rfl,fun x y h=>by
 unfold fA at h;simp at h;exact Prod.ext (by omega) (by simpa using h.2)⟩
def mG(l:List Gp)(x:Nat×List UInt8):Option Value:=(l.findIdx? fun g=>decide (g.node=x.1/\txL g.st=x.2)).map fun i:Nat=>Value.int .i64 (i:Int)
theorem jziv{l:List Gp}(hl:∀g∈l,∀s∈g.st,s.1=1\/s.1=2){n:Nat}{st:List Sg}(hs:∀s∈st,s.1=1\/s.1=2):mG l (n,txL st)=(fdG l n st).map fun i:Nat=>Value.int .i64 (i:Int):=by
 unfold mG fdG;congr 1;(induction l with|nil=>rfl|cons g l ih=>rw[List.findIdx?_cons,List.findIdx?_cons,ih fun g hg=>hl g (by simp[hg])];have e:decide (g.node=n/\txL g.st=txL st)=decide (g.node=n/\g.st=st):=decide_eq_decide.2 ⟨fun h=>⟨h.1,jziq (hl g (by simp)) hs h.2⟩,fun h=>⟨h.1,by rw[h.2]⟩⟩;rw[e])
theorem jziw{l:List Gp}{x:Gp}(h:mG l (x.node,txL x.st)=none):mG (l++[x])=upM (mG l) (x.node,txL x.st) (vI (l.length:Int)):=by
 funext y;unfold upM;by_cases e:y=(x.node,txL x.st);{rw[if_pos e];subst e;unfold mG at h⊢;rw[Option.map_eq_none_iff]at h;rw[List.findIdx?_append,h];simp[List.findIdx?_cons]};rw[if_neg e];have e2:¬(x.node=y.1/\txL x.st=y.2):=fun h=>e (Prod.ext h.1.symm h.2.symm);unfold mG;rw[List.findIdx?_append];simp[List.findIdx?_cons,e2]
theorem jzix{l:List Gp}{i:Nat}{g:Gp}(hg:l[i]?=some g)(q:Rat):mG (l.set i ⟨g.node,g.st,q⟩)=mG l:=by
 funext y;unfold mG;congr 1;(induction l generalizing i with|nil=>rfl|cons z l ih=>(cases i with|zero=>(injection hg with hg);subst hg;rfl|succ i=>rw[yF,List.findIdx?_cons,List.findIdx?_cons,ih hg]))
theorem jzal{l:List Sg}(h:∀s∈l,s.2<9223372036854775808):(txL l).length<=22*l.length:=by
 have h1:∀s∈l,(sgT s).length<=21:=fun s hs=>(by unfold sgT;have:=sZ (s.2:Int) ⟨by omega,by have:=h s hs;omega⟩;rw[kQo];omega);have key:∀l:List Sg,(∀s∈l,(sgT s).length<=21)->(Lib.joinTail [32] (l.map sgT)).length<=22*l.length:=fun l=>(by (induction l with|nil=>intro _;exact yX _|cons s l ih=>intro h;have h2:=ih fun x hx=>h x (by simp[hx]);have h3:=h s (by simp);have e:Lib.joinTail [32] ((s::l).map sgT)=32::(sgT s++Lib.joinTail [32] (l.map sgT)):=(by simp[Lib.joinTail]);rw[e,kQo,yQ,kQo];omega));(unfold txL;cases l with|nil=>exact yZ _|cons s l=>rw[kZa,Lib.join_cons,yQ,kQo];have h2:=key l fun x hx=>h1 x (by simp[hx]);have h3:=h1 s (by simp);omega)
theorem jziy{l:List Gp}{N:Nat}(hl:∀g∈l,g.node<N/\(txL g.st).length<=1000000)(hN:N<=4294967296)(x:Nat×List UInt8)(v:Value)(h:mG l x=some v):SmS x:=by
 unfold mG at h;rw[Option.map_eq_some_iff]at h;obtain⟨i,h,_⟩:=h;rw[List.findIdx?_eq_some_iff_getElem]at h;obtain⟨h1,h2,_⟩:=h;have h3:=of_decide_eq_true h2;have h4:=hl _ (xR h1);unfold SmS;rw[<-h3.1, <-h3.2];omega
end Fo
end Go.Proofs.YtllmekijiohgmaaGreatDoor
namespace Go.Proofs.YtllmekijiohgmaaGreatDoor
open Go.RowKit
namespace Fo
def DrP(w:World)(i1 i2 i3 i4 h:Int)(l:List (Int×Int))(r:Int)(e:Ending)(w':World):Prop:=∃v,e=.returned (.tuple #[zN,.agg #[vI i1,vI i2,vI i3,vI i4,v,vI h],vI r])/\OwS w w' v l
theorem jzam(i1 i2 i3 i4 h r:Int)A(n c:Nat)(l:List (Int×Int))w(hA:RdS w A l)(hn:l.length=n)(hb:n<=100000):
  Calls Tryz.prog 140 #[.agg #[vI i1,vI i2,vI i3,vI i4,.s A n c,vI h],vI r] w (DrP w i1 i2 i3 i4 h l r):=by
 have CL:Hid (∀wx,Ext w wx->Calls Tryz.prog 141 #[.agg #[vI i1,vI i2,vI i3,vI i4,.s A n c,vI h],.s A n c] wx (WiP wx i1 i2 i3 i4 h l)):=Hx (fun wx hx=>sP i1 i2 i3 i4 h A n c A n c l wx (hA.K hx) hn hb);clear hA hn hb;go_enter Tryz.func140,Tryz.ntmps140;go_upto_region 1 with fail
 have B1:=Hx (show Blk ((w.alloc (.cells #[vI i1,vI i2,vI i3,vI i4,.s A n c,vI h] 147)).alloc (.cells #[vI 0,vI 0,vI 0,vI 0,zN,vI 0] 147)) w.heap.size 147 #[vI i1,vI i2,vI i3,vI i4,.s A n c,vI h]/\Blk ((w.alloc (.cells #[vI i1,vI i2,vI i3,vI i4,.s A n c,vI h] 147)).alloc (.cells #[vI 0,vI 0,vI 0,vI 0,zN,vI 0] 147)) (w.heap.size+1) 147 #[vI 0,vI 0,vI 0,vI 0,zN,vI 0]/\Ext w ((w.alloc (.cells #[vI i1,vI i2,vI i3,vI i4,.s A n c,vI h] 147)).alloc (.cells #[vI 0,vI 0,vI 0,vI 0,zN,vI 0] 147))from
  ⟨(eN w _ _).alloc _,by
    have h:=eN (w.alloc (.cells #[vI i1,vI i2,vI i3,vI i4,.s A n c,vI h] 147)) 147 #[vI 0,vI 0,vI 0,vI 0,zN,vI 0];rw[World.size_alloc]at h;exact h,((eR w).alloc _).alloc _⟩)
 generalize (w.alloc (.cells #[vI i1,vI i2,vI i3,vI i4,.s A n c,vI h] 147)).alloc (.cells #[vI 0,vI 0,vI 0,vI 0,zN,vI 0] 147)=w2 at*;generalize hgp:w.heap.size=gp at*;have q0:=B1.o.1.cell 0;have q1:=B1.o.1.cell 1;have q2:=B1.o.1.cell 2;have q3:=B1.o.1.cell 3;have q4:=B1.o.1.cell 4;have q5:=B1.o.1.cell 5;(go_wp2_with fail);refine(CL.o _ B1.o.2.2).mono ?_;rintro e w3 ⟨v,rfl,h3⟩;obtain⟨A2,n2,c2,rfl⟩:∃(A2:OA) (n2 c2:Nat),v=.s A2 n2 c2:=(by rcases h3.own.2 with⟨e,_⟩|⟨g,cap,_,e,_⟩ <;> exact⟨_,_,_,e⟩);have D3:=B1.o.2.1.K h3.ex;have f0:=D3.frozen 0;have f1:=D3.frozen 1;have f2:=D3.frozen 2;have f3:=D3.frozen 3;have f4:=D3.frozen 4;have f5:=D3.frozen 5;have d0:=D3.cell 0;have d1:=D3.cell 1;have d2:=D3.cell 2;have d3:=D3.cell 3;have d4:=D3.cell 4;have d5:=D3.cell 5;have O3:Hid (OwS w w3 (.s A2 n2 c2) l/\∀b,(Value.slice A2 n2 c2).ownBlock=some b->gp+1<b):=Hx (⟨⟨h3.own.mono B1.o.2.2.size,B1.o.2.2.tr h3.ex⟩,fun b hb=>by have h1:=(h3.own.lt b hb).1;have h2:=B1.o.2.1.lt;omega⟩);have B5:=Hx (dO (vI i1) (vI i2) (vI i3) (vI i4) (.s A2 n2 c2) (vI h) D3);clear B1 D3 h3 CL q0 q1 q2 q3 q4 q5;go_wp2;have F:Hid (DrP w i1 i2 i3 i4 h l r (.returned (.tuple #[zN,.agg #[vI i1,vI i2,vI i3,vI i4,.s A2 n2 c2,vI h],vI r])) ((((((w3.setCell (aD (gp+1) 0) (vI i1)).setCell (aD (gp+1) 1) (vI i2)).setCell (aD (gp+1) 2) (vI i3)).setCell (aD (gp+1) 3) (vI i4)).setCell (aD (gp+1) 4) (.s A2 n2 c2)).setCell (aD (gp+1) 5) (vI h))):=Hx (by refine⟨_,rfl,B5.o.2.own O3.o.1.own fun b hb e=>?_,B5.o.2.ext O3.o.1.ex fun b hb=>?_⟩;{have h1:=O3.o.2 b hb;have e:b=gp+1:=e;omega};have hb:b=gp+1:=hb;omega);have r0:=B5.o.1.cell 0;have r1:=B5.o.1.cell 1;have r2:=B5.o.1.cell 2;have r3:=B5.o.1.cell 3;have r4:=B5.o.1.cell 4;have r5:=B5.o.1.cell 5;clear B5;generalize (((((w3.setCell (aD (gp+1) 0) (vI i1)).setCell (aD (gp+1) 1) (vI i2)).setCell (aD (gp+1) 2) (vI i3)).setCell (aD (gp+1) 3) (vI i4)).setCell (aD (gp+1) 4) (.s A2 n2 c2)).setCell (aD (gp+1) 5) (vI h)=w6 at*;refine bodyPost_ret (v:=.tuple #[zN,.agg #[vI i1,vI i2,vI i3,vI i4,.s A2 n2 c2,vI h],vI r]) ?_ rfl F.o;simp[results,Tryz.results140,go_sem,asAddr,Result.andThen,r0,r1,r2,r3,r4,r5]
end Fo
section
variable {P:Program} (w:World)
theorem jziz(base:Nat)(t ty e:TypeId)(i:TypeInfo)(z:Value)(sz bytes:Nat)(ht:P.underlying t=some (.slice e))(hi:P.info? e=some i)(hz:i.zero=some z)
  (hsize:i.size=sz) (hby:i.bytes=bytes) (hzs:z.cells.size=sz) (hsz:0<sz)
  (v:Value) (n:Nat) (xs:List Value) (hown:w.ownsRow base e sz v n xs)
  A (m c:Nat) (news:List Value) (hm:news.length=m*sz) (hr:Rd w A news) (hA:A=none->m=0) (h1:∀u∈news,u.oneCell'=true)
  (h63:n+m<=maxLen) (hbytes:(n+m)*bytes<=140737488355328) (hbase:base<=w.heap.size):
  ∃v' w',(Builtin.append_ #[t,t] ty #[v,.s A m c]).run P w=.ok v' w'/\w'.ownsRow base e sz v' (n+m) (xs++news)/\w.grownBy w' v.ownBlock/\
   (v'.ownBlock=v.ownBlock\/v'.ownBlock=some w.heap.size):=by
 (rcases A with _|ad);{have qf:m=0:=hA rfl;(subst qf;have hn:news=[]:=kQz (by omega);subst hn;refine⟨v,w,?_,by simpa using hown,World.grownBy.refl w _,.inl rfl⟩;rcases hown.2 with⟨rfl,rfl⟩|⟨g,cap,cur,rfl,_,_,hnc,_⟩);{simp[Builtin.append_,run_underlying ht,sizeOf,typeInfo,hi,Builtin.lenOf,Builtin.firstCells]};simp[Builtin.append_,run_underlying ht,sizeOf,typeInfo,hi,Builtin.lenOf,Builtin.firstCells,hnc,storeCells]};have qa:∀j u,news[j]?=some u->w.cell? (ad.add j)=some u:=(by (intro j u hu;have hj:j<news.length:=(yH.1 hu).1;obtain⟨b,o,he,_,hc⟩:=hr.at_ hj;injection he with he);subst he;rw[iU,hc j hj,hu]);obtain⟨v',w',qe,h2,h3,_,h5⟩:=run_append_own_at (P:=P) w base t ty e i z sz bytes ht hi hz hsize hby hzs hsz v n xs hown ad m c news hm qa h1 h63 hbytes hbase;exact⟨v',w',qe,h2,h3,h5⟩
theorem jzi0{ops:Array Oper}{rest:List Oper}{o:Oper}{a:Act}{Q:Exit->Act->World->Prop}(t e:TypeId)(z:Value)(sz bytes:Nat)(hgd:o.guard=none)(s x:Operand)
  (ho:o.op=.call {callee:=.builtin .append,args:=#[s,x],argTypes:=#[t,t]})
  (ht:P.underlying t=some (.slice e)) (hinfo:(P.info? e).map (fun i=>(i.zero,i.size,i.bytes))=some (some z,sz,bytes)) (hzs:z.cells.size=sz) (hsz:0<sz)
  (base:Nat) (v:Value) (n:Nat) (xs:List Value) (hs:a.eval s=v) (hown:w.ownsRow base e sz v n xs)
  A (m c:Nat) (news:List Value) (hx:a.eval x=.s A m c) (hm:news.length=m*sz) (hr:Rd w A news) (hA:A=none->m=0) (h1:∀u∈news,u.oneCell'=true)
  (h63:n+m<=maxLen) (hbytes:(n+m)*bytes<=140737488355328) (hbase:base<=w.heap.size)
  (h:∀v' w',w'.ownsRow base e sz v' (n+m) (xs++news)->w.grownBy w' v.ownBlock->(v'.ownBlock=v.ownBlock\/v'.ownBlock=some w.heap.size)->wpList P ops Q rest (a.put o.dst v') w'):wpList P ops Q (o::rest) a w:=
 wpList_plain hgd fun _ hK=>by
  obtain⟨ti,hi,qf,qg,qe⟩:=info_parts hinfo;obtain⟨v',w',qa,h2,h3,h4⟩:=jziz (P:=P) w base t o.type e ti z sz bytes ht hi qf qg qe hzs hsz v n xs hown A m c news hm hr hA h1 h63 hbytes hbase;unfold Oper.wp execOp;simp only[ho,resolve,invoke,builtin,Sem.run_bind,Sem.run_pure,Result.andThen_ok,List.map_toArray,kZa,List.map_nil,hs,hx,qa];exact hK _ _ (h v' w' h2 h3 h4)
end
namespace Fo
theorem jzi1(n:Nat)w(hn:n<=100000):
  Calls Tryz.prog 223 #[zN,vI (n:Int)] w fun e w'=>∃v,e=.returned v/\w'.ownsRow w.heap.size 148 2 v 0 []/\Ext w w':=by
 have h1:¬((n:Int)<0):=(by omega);by_cases hz:n=0;{subst hz;go_enter Tryz.func223,Tryz.ntmps223;go_wp2;go_ret;exact⟨_,rfl,⟨rfl,.inl ⟨rfl,rfl⟩⟩,eR _⟩};obtain⟨ti,hi,qh,qm,qf⟩:=info_parts kK;have h4:(n:Int)>0:=(by omega);have qg:∀ty,(Builtin.append_ #[101,3] ty #[zN,vI (n:Int)]).run Tryz.prog w=.ok (.s (sA w.heap.size) n (grownCap w n 0 148)) (w.drew.alloc (.cells (([]:List Value).toArray++Builtin.zeroCells (Value.agg #[vI 0,vI 0]).cells n++Builtin.zeroCells (Value.agg #[vI 0,vI 0]).cells (grownCap w n 0 148-n)) 148)):=fun ty=>(by have h:=Lib.run_append_grow_zeros (P:=Tryz.prog) w 101 3 ty 148 ti (.agg #[vI 0,vI 0]) .i64 .i64 Tryz.underlying101 Tryz.underlying3 hi qh none 0 0 [] (run_firstCells_none _ _ 0 0 0) n (by omega) (by omega) (by omega) (by omega) (by rw[qf];omega) (by rw[qf,kQu];exact growslice_fits (by omega) (by omega));rw[kQu]at h;exact h)
 have qj:n<=grownCap w n 0 148:=grownCap_ge w _ _ _;have qa:=grownCap_le_maxLen w n 0 148 (by unfold maxLen;omega);have qe:=Hx (show(w.drew.alloc (.cells (([]:List Value).toArray++Builtin.zeroCells (Value.agg #[vI 0,vI 0]).cells n++Builtin.zeroCells (Value.agg #[vI 0,vI 0]).cells (grownCap w n 0 148-n)) 148)).ownsRow w.heap.size 148 2 (.s (sA w.heap.size) 0 (grownCap w n 0 148)) 0 []/\Ext w (w.drew.alloc (.cells (([]:List Value).toArray++Builtin.zeroCells (Value.agg #[vI 0,vI 0]).cells n++Builtin.zeroCells (Value.agg #[vI 0,vI 0]).cells (grownCap w n 0 148-n)) 148))from
  ⟨World.ownsRow_made w.drew _ _ (yX _) qa (by simp[Builtin.zeroCells,Value.cells];omega),((eR w).drewN 1).alloc _⟩)
 obtain⟨G,hG⟩:∃G,G=grownCap w n 0 148:=⟨_,rfl⟩;rw[<-hG]at qg qj qa qe;obtain⟨W',qi⟩:∃W',W'=w.drew.alloc (.cells (([]:List Value).toArray++Builtin.zeroCells (Value.agg #[vI 0,vI 0]).cells n++Builtin.zeroCells (Value.agg #[vI 0,vI 0]).cells (G-n)) 148):=⟨_,rfl⟩;rw[<-qi]at qg qe;clear qi;have qk:G<=9223372036854775807:=(by unfold maxLen at qa;omega);clear hG hi qh qm qf qa;go_enter Tryz.func223,Tryz.ntmps223;go_wp2_with (at_builtin;refine Lib.wpList_append_run _ rfl _ _ _ _ rfl _ _ rfl rfl _ _ (qg _) ?_)
 all_goals
  go_ret;exact⟨_,rfl,qe.o.1,qe.o.2⟩
def rowG(r:OA×List Sg×Nat):Value:=.s r.1 r.2.1.length r.2.2
def cgS(rs:List (OA×List Sg×Nat)):Nat:=(rs.map fun r=>r.2.1.length).sum
def cgL(rs:List (OA×List Sg×Nat)):List Sg:=(rs.map fun r=>r.2.1).flatten
theorem jzan{rs:List (OA×List Sg×Nat)}{k:Nat}{r:OA×List Sg×Nat}(h:rs[k]?=some r):cgS (rs.take (k+1))=cgS (rs.take k)+r.2.1.length:=by
 unfold cgS;rw[kQr,h];simp
theorem jzi2{rs:List (OA×List Sg×Nat)}{k:Nat}{r:OA×List Sg×Nat}(h:rs[k]?=some r):cgL (rs.take (k+1))=cgL (rs.take k)++r.2.1:=by
 unfold cgL;rw[kQr,h];simp
theorem jzi3(rs:List (OA×List Sg×Nat)):(cgL rs).length=cgS rs:=by
 unfold cgL cgS;rw[List.length_flatten,List.map_map];rfl
theorem jzao(rs:List (OA×List Sg×Nat))(k:Nat):cgS (rs.take k)<=cgS rs:=by
 have h:cgS rs=cgS (rs.take k)+cgS (rs.drop k):=(by unfold cgS;(conv=>lhs;rw[<-kZz k rs]);rw[List.map_append,List.sum_append]);omega
theorem jzap(a b:List (Int×Int)):sgc (a++b)=sgc a++sgc b:=by unfold sgc;rw[List.flatMap_append]
theorem jzi4(l:List (Int×Int)):∀u∈sgc l,u.oneCell'=true:=fun u hu=>by
 unfold sgc at hu;rw[kZx]at hu;obtain⟨x,_,hx⟩:=hu;simp at hx;rcases hx with rfl|rfl <;> rfl
theorem jzi5(rs:List (OA×List Sg×Nat))(m b:Nat)w(hm:rs.length=m)(hb:Blk w b 101 (rs.map rowG).toArray)(hr:∀r∈rs,bB w r.1 r.2.1)(hn:m<=1000)(hs:cgS rs<=100000):
  Calls Tryz.prog 190 #[.s (sA b) m m] w fun e w'=>∃v,e=.returned v/\OwS w w' v (sgI (cgL rs)):=by
 have HB:=Hx hb;have HR:=Hx hr;have HM:=Hx hm;have HS:=Hx hs;have qo:=hb.lt;clear hb hr hm hs;go_enter Tryz.func190,Tryz.ntmps190;go_wp2;go_loopg [3,5,11] m (fun j st _ it wr=>∃(k:Nat),m-k=j/\k<=m/\it=vI (k:Int)/\st=vI (cgS (rs.take k):Nat)/\w=wr);(case atStart=>exact⟨0,rfl,yZ _,rfl,rfl,rfl⟩);obtain⟨k,rfl,hk,rfl,rfl,rfl⟩:=hrel;by_cases qn:k<m;{obtain⟨r,hr⟩:∃r,rs[k]?=some r:=⟨_,yG (by rw[HM.o];exact qn)⟩;have qh:=jzan hr;have h1:=jzao rs (k+1);have h2:=HS.o;have iN:(k:Int)<(m:Int):=(by omega);have c0:w.cell? (aD b k)=some (.s r.1 r.2.1.length r.2.2):=(by rw[HB.o.cell];simp[hr,rowG]);rw[qh]at h1;have qf:=Hx qh;generalize cgS (rs.take k)=S at*;clear qh hr;go_wp2;go_roundg (m-(k+1));(case measure=>omega);exact⟨k+1,rfl,by omega,by go_num,by rw[qf.o];go_num,rfl⟩};obtain rfl:k=m:=(by omega);have qm:¬(k:Int)<(k:Int):=(by omega);have qg:rs.take k=rs:=yU (by rw[HM.o];exact yX _);rw[qg];obtain⟨S,hS⟩:∃S,S=cgS rs:=⟨_,rfl⟩;have qp:=Hx hS;have qt:=Hx qg;rw[<-hS];clear hS qg;(go_wp2_with fail);refine(jzi1 S _ (by rw[qp.o];have:=HS.o;omega)).mono ?_;rintro e w1 ⟨v1,rfl,o1,x1⟩;have O1:=Hx o1;have X1:=Hx x1;clear o1 x1;go_wp2;go_loopg [6,8,27] k (fun j ot _ it wx=>∃(i:Nat) (v:Value),k-i=j/\i<=k/\it=vI (i:Int)/\v=ot/\Hid (wx.ownsRow w.heap.size 148 2 v (cgL (rs.take i)).length (sgc (sgI (cgL (rs.take i)))))/\Hid (Ext w wx));(case atStart=>exact⟨0,v1,rfl,yZ _,rfl,rfl,O1,X1⟩);obtain⟨i,v,rfl,qx,rfl,rfl,OI,XI⟩:=hrel;by_cases qu:i<k;{obtain⟨r,hr⟩:∃r,rs[i]?=some r:=⟨_,yG (by rw[HM.o];exact qu)⟩;have qf:=Hx (jzi2 hr);have qi:(cgL (rs.take i)).length+r.2.1.length<=100000:=(by have h1:=jzao rs (i+1);have h2:=HS.o;have h3:=jzan hr;rw[jzi3];omega);have iN:(i:Int)<(k:Int):=(by omega);have c0:wr.cell? (aD b i)=some (.s r.1 r.2.1.length r.2.2):=(by rw[XI.o.cell (p:=(aD b i)) qo,HB.o.cell];simp[hr,rowG]);have qj:=(HR.o r (yJ hr)).K XI.o;obtain⟨A,x,c⟩:=r;simp only at qi c0 qj qf;have qk:=Hx qj;clear hr qj;(go_wp2_with (at_builtin;go_must (refine jzi0 _ 101 148 (.agg #[vI 0,vI 0]) 2 16 rfl (.tmp 31) (.tmp 32) rfl Tryz.underlying101 kK rfl (by decide) w.heap.size v (cgL (rs.take i)).length (sgc (sgI (cgL (rs.take i)))) rfl ?c0 A x.length c (sgc (sgI x)) rfl ?c1 ?c2 ?c3 (jzi4 _) ?c4 ?c5 ?c6 ?_)));(case c0=>exact OI.o);(case c1=>rw[jz2,eS];omega);(case c2=>exact qk.o.rd.rd);(case c3=>(intro hA;rcases qk.o.ad with⟨_,h2⟩|⟨b9,o9,h2,_⟩);{rw[h2];rfl};rw[hA]at h2;cases h2);(case c4=>unfold maxLen;omega);(case c5=>omega);(case c6=>exact XI.o.size);intro v2 w2 qe qa _;have X2:Hid (Ext w w2):=Hx (Below.grown XI.o qa XI.o.size (fun q hq=>(OI.o.lt q hq).1));have O2:Hid (w2.ownsRow w.heap.size 148 2 v2 (cgL (rs.take (i+1))).length (sgc (sgI (cgL (rs.take (i+1)))))):=Hx (by rw[qf.o,nW,jzap,yQ];exact qe);clear qe qa;go_wp2;go_roundg (k-(i+1));(case measure=>omega);exact⟨i+1,v2,rfl,by omega,by go_num,rfl,O2,X2⟩};obtain rfl:i=k:=(by omega);have qm:¬(i:Int)<(i:Int):=(by omega);have O3:=OI.o;rw[qt.o]at O3;have qw:Hid (OwS w wr v (sgI (cgL rs))):=Hx (⟨by rw[eS];exact O3,XI.o⟩);clear O3;go_wp2;go_ret;exact⟨v,rfl,qw.o⟩
end Fo
namespace Fo
section
variable {w w0 w' w3 w4:World} {va vs:Value} {h:Nat} {h':Int} {o:List Nat×List Sg×Int}
structure StC(w w':World)(va vs:Value)(h:Nat)(h':Int)(o:LN×List Sg×Int):Prop where
 own:w'.ownsRow w.heap.size 3 1 va o.1.length (ints o.1)
 mv:o.1≠ []->h'=((h+1:Nat):Int)/\OwS w w' vs (sgI o.2.1)
 sl:∃A n c,vs=.s A n c
 ex:Ext w w'
theorem StC.mono(hS:StC w w' va vs h h' o)(hx:Ext w0 w):StC w0 w' va vs h h' o:=
 ⟨hS.own.mono hx.size,fun hn=>⟨(hS.mv hn).1,(hS.mv hn).2.own.mono hx.size,hx.tr (hS.mv hn).2.ex⟩,hS.sl,hx.tr hS.ex⟩
theorem StC.sto{g:Nat}{cs:Array Value}(hS:StC w w3 va vs h h' o)(hg:Blk w3 g 147 cs)(k:FrS (fun b=>b=g) w3 w4)(lo:w.heap.size<=g):StC w w4 va vs h h' o:=by
 have kx:∀{b:Nat},(fun b=>b=g) b->w.heap.size<=b:=fun {b} hb=>(by have hb:b=g:=hb;omega);refine⟨k.own hS.own fun b hb e=>?_,fun hn=>⟨(hS.mv hn).1,k.own (hS.mv hn).2.own fun b hb e=>?_,k.ext (hS.mv hn).2.ex fun b hb=>kx hb⟩,hS.sl,k.ext hS.ex fun b hb=>kx hb⟩;{have e:b=g:=e;subst e;exact aW hS.own hb (t:=147) (by decide) _ _ hg};have e:b=g:=e;subst e;exact aW (hS.mv hn).2.own hb (t:=147) (by decide) _ _ hg
theorem OwS.sto{g:Nat}{cs:Array Value}{l:List (Int×Int)}(hS:OwS w w3 vs l)(hg:Blk w3 g 147 cs)(k:FrS (fun b=>b=g) w3 w4)(lo:w.heap.size<=g):OwS w w4 vs l:=
 ⟨k.own hS.own fun b hb e=>by
  have e:b=g:=e;subst e;exact aW hS.own hb (t:=147) (by decide) _ _ hg,k.ext hS.ex fun b hb=>by have hb:b=g:=hb;omega⟩
theorem StC.none_{r:Int}{l:List (Int×Int)}(hS:OwS w w' vs l):StC w w' zN vs h h' ([],[],r):=
 ⟨World.ownsRow_nil _ _ _ _,fun hn=>absurd rfl hn,by obtain⟨A,c,e,_⟩:=oFA hS.own;exact⟨A,_,c,e⟩,hS.ex⟩
end
def StQ(w:World)(i1 i2 i3 i4:Int)(h:Nat)(o:LN×List Sg×Int)(e:Ending)(w':World):Prop:=
 ∃va vs h',e=.returned (.tuple #[va,.agg #[vI i1,vI i2,vI i3,vI i4,vs,vI h'],vI o.2.2])/\StC w w' va vs h h' o
theorem bC{w}{g:Nat}{t:TypeId}{v0 v1 v2 v3 v4 v5:Value}(h:Blk w g t #[v0,v1,v2,v3,v4,v5]):
  (w.cell? (aD g 0)=some v0/\w.cell? (aD g 1)=some v1/\w.cell? (aD g 2)=some v2/\w.cell? (aD g 3)=some v3/\w.cell? (aD g 4)=some v4/\w.cell? (aD g 5)=some v5)/\
  w.frozen? (aD g 0)=false/\w.frozen? (aD g 1)=false/\w.frozen? (aD g 2)=false/\w.frozen? (aD g 3)=false/\w.frozen? (aD g 4)=false/\w.frozen? (aD g 5)=false:=
 ⟨⟨h.cell 0,h.cell 1,h.cell 2,h.cell 3,h.cell 4,h.cell 5⟩,h.frozen 0,h.frozen 1,h.frozen 2,h.frozen 3,h.frozen 4,h.frozen 5⟩
theorem jzaq(i1 i2 i3 i4:Int)(h:Nat)A'(n' c':Nat)A(n c:Nat)(l:List Sg)B(m cB:Nat)(ars:LN)w(hA:bB w A l)(hn:l.length=n)(hb:n<=1000)(hB:RdT w 3 B (ints ars))(hm:ars.length=m)(hm2:m<=1000)(hh:h<=1000):
  Calls Tryz.prog 143 #[.agg #[vI i1,vI i2,vI i3,vI i4,.s A' n' c',vI (h:Int)],.s A n c,.s B m cB] w (StQ w i1 i2 i3 i4 h (ars,l,0)):=by
 have CL:Hid (∀wx,Ext w wx->Calls Tryz.prog 141 #[.agg #[vI i1,vI i2,vI i3,vI i4,.s A' n' c',vI (h:Int)],.s A n c] wx (WiP wx i1 i2 i3 i4 (h:Int) (sgI l))):=Hx (fun wx hx=>sP i1 i2 i3 i4 (h:Int) A' n' c' A n c (sgI l) wx (hA.K hx).s (by rw[eS];exact hn) (by omega));have CO:Hid (∀wx,Ext w wx->Calls Tryz.prog 189 #[.s B m cB] wx fun e w'=>∃v,e=.returned v/\w'.ownsRow wx.heap.size 3 1 v m (ints ars)/\Ext wx w'):=Hx (fun wx hx=>by subst hm;exact jzfe B cB ars wx (hB.K hx) hm2);have HM:=Hx hm;have e0:=(eR w).alloc (.cells #[vI i1,vI i2,vI i3,vI i4,.s A' n' c',vI (h:Int)] 147) |>.alloc (.cells #[vI 0,vI 0,vI 0,vI 0,zN,vI 0] 147);have B1:=Hx (dS w #[vI i1,vI i2,vI i3,vI i4,.s A' n' c',vI (h:Int)] 147 #[vI 0,vI 0,vI 0,vI 0,zN,vI 0] 147);clear hA hn hb hB hm hm2 e0;go_enter Tryz.func143,Tryz.ntmps143;(go_upto_region 1 with fail);generalize (w.alloc (.cells #[vI i1,vI i2,vI i3,vI i4,.s A' n' c',vI (h:Int)] 147)).alloc (.cells #[vI 0,vI 0,vI 0,vI 0,zN,vI 0] 147)=w2 at*;generalize hgp:w.heap.size=gp at*;have qa:=Hx hgp;clear hgp;obtain⟨⟨q0,q1,q2,q3,q4,q5⟩,_⟩:=bC B1.o.1;(go_wp2_with fail);refine(CL.o _ B1.o.2.2).mono ?_;rintro e w3 ⟨v,rfl,h3⟩;obtain⟨A2,c2,rfl,_⟩:=oFA h3.own;have B3:=Hx (kQa (B1.o.1.K h3.ex) (B1.o.2.1.K h3.ex));obtain⟨⟨p0,p1,p2,p3,p4,p5⟩,f0,f1,f2,f3,f4,f5⟩:=bC B3.o.1;have S4:=Hx (dO (vI i1) (vI i2) (vI i3) (vI i4) (.s A2 (sgI l).length c2) (vI (h:Int)) B3.o.1);have O3:Hid (OwS w w3 (.s A2 (sgI l).length c2) (sgI l)):=Hx (⟨h3.own.mono B1.o.2.2.size,B1.o.2.2.tr h3.ex⟩);clear B1 h3 CL q0 q1 q2 q3 q4 q5;generalize (sgI l).length=ln at*;go_upto_region 2 with fail
 generalize (((((w3.setCell (aD gp 0) (vI i1)).setCell (aD gp 1) (vI i2)).setCell (aD gp 2) (vI i3)).setCell (aD gp 3) (vI i4)).setCell (aD gp 4) (.s A2 ln c2)).setCell (aD gp 5) (vI (h:Int))=w4 at*;have W4:=Hx (show Blk w4 gp 147 #[vI i1,vI i2,vI i3,vI i4,.s A2 ln c2,vI (h:Int)]/\Blk w4 (gp+1) 147 #[vI 0,vI 0,vI 0,vI 0,zN,vI 0]/\OwS w w4 (.s A2 ln c2) (sgI l)from
  ⟨S4.o.1,S4.o.2.blk B3.o.2 (by show¬gp+1=gp;omega),O3.o.sto B3.o.1 S4.o.2 (by have:=qa.o;omega)⟩)
 clear S4 O3 B3 p0 p1 p2 p3 p4 p5 f0 f1 f2 f3 f4 f5;obtain⟨⟨p0,p1,p2,p3,p4,p5⟩,f0,f1,f2,f3,f4,f5⟩:=bC W4.o.1;have k5:FrS (fun b=>b=gp) w4 (w4.setCell (aD gp 5) (vI ((h:Int)+1))):=eG (bI w4 gp 5 _) fun y e=>(by (injection e with e);exact e.symm)
 have W5:=Hx (show Blk (w4.setCell (aD gp 5) (vI ((h:Int)+1))) gp 147 #[vI i1,vI i2,vI i3,vI i4,.s A2 ln c2,vI ((h:Int)+1)]/\Blk (w4.setCell (aD gp 5) (vI ((h:Int)+1))) (gp+1) 147 #[vI 0,vI 0,vI 0,vI 0,zN,vI 0]/\OwS w (w4.setCell (aD gp 5) (vI ((h:Int)+1))) (.s A2 ln c2) (sgI l)from
  ⟨W4.o.1.sT 5 _,k5.blk W4.o.2.1 (by show¬gp+1=gp;omega),W4.o.2.2.sto W4.o.1 k5 (by have:=qa.o;omega)⟩)
 clear W4 k5;go_upto_region 3 with fail
 generalize w4.setCell (aD gp 5) (vI ((h:Int)+1))=w5 at*;clear p0 p1 p2 p3 p4 p5 f0 f1 f2 f3 f4 f5;have xd:Ext w5 w5.drew:=(eR w5).drewN 1;have HSW:=Hx (bC (W5.o.1.K xd)).1;have W6:=Hx (show Blk w5.drew gp 147 #[vI i1,vI i2,vI i3,vI i4,.s A2 ln c2,vI ((h:Int)+1)]/\Blk w5.drew (gp+1) 147 #[vI 0,vI 0,vI 0,vI 0,zN,vI 0]/\OwS w w5.drew (.s A2 ln c2) (sgI l)from
  ⟨W5.o.1.K xd,W5.o.2.1.K xd,dB W5.o.2.2.own xd,W5.o.2.2.ex.tr xd⟩)
 (clear W5 xd;refine wp_region_last (fun w'=>w'.cell? (aD gp 0)=some (vI i1)/\w'.cell? (aD gp 1)=some (vI i2)/\w'.cell? (aD gp 2)=some (vI i3)/\w'.cell? (aD gp 3)=some (vI i4)/\w'.cell? (aD gp 4)=some (.s A2 ln c2)/\w'.cell? (aD gp 5)=some (vI ((h:Int)+1))) 4 (by kernel_rfl) ?_;generalize w5.drew=w6 at*;refine wV 2 rfl HSW.o ?_;try simp only[Act.put,yA,yB,yC,yD,yE,yF]);refine wP 0 rfl HSW.o ?_;try simp only[Act.put,yA,yB,yC,yD,yE,yF]
 refine wC 1 rfl (fun KK hK=>?_);go_simp;refine(CO.o _ W6.o.2.2.ex).mono ?_;rintro e w7 ⟨va,rfl,o7,x7⟩;have D7:=Hx (W6.o.2.1.K x7);have C7:=Hx (show StC w w7 va (.s A2 ln c2) h ((h:Int)+1) (ars,l,0)from
  ⟨by have:=o7.mono W6.o.2.2.ex.size;rw[<-HM.o]at this;exact this,fun _=>⟨by omega,dB W6.o.2.2.own x7,W6.o.2.2.ex.tr x7⟩,⟨_,_,_,rfl⟩,W6.o.2.2.ex.tr x7⟩)
 (have qe:=Hx (bC (W6.o.1.K x7)).1;refine hK.o _ _ qe.o ?_;clear hK KK o7 x7 W6 CO HSW;have HSW:=qe;clear qe;try simp only[Act.put,yD,yE,yF]);(refine wP 3 rfl HSW.o ?_;try simp only[Act.put,yA,yB,yC,yD,yE,yF]);obtain⟨⟨d0,d1,d2,d3,d4,d5⟩,f0,f1,f2,f3,f4,f5⟩:=bC D7.o;refine aV (by kernel_rfl) rfl (by rfl) (fun KK hK=>?_);go_simp;refine hK.o _ _ ?_;clear hK KK;try simp only[Act.put,yD,yE,yF]
 refine dQ (i:=5) (by kernel_rfl) rfl (by rfl) (fun KK hK=>?_);go_simp;refine hK.o _ _ ?_;clear hK KK;refine wpAny_done (by kernel_rfl) ?_ _;have B8:=Hx (dO (vI i1) (vI i2) (vI i3) (vI i4) (.s A2 ln c2) (vI ((h:Int)+1)) D7.o);have F:=Hx (show StQ w i1 i2 i3 i4 h (ars,l,0) (.returned (.tuple #[va,.agg #[vI i1,vI i2,vI i3,vI i4,.s A2 ln c2,vI ((h:Int)+1)],vI 0])) ((((((w7.setCell (aD (gp+1) 0) (vI i1)).setCell (aD (gp+1) 1) (vI i2)).setCell (aD (gp+1) 2) (vI i3)).setCell (aD (gp+1) 3) (vI i4)).setCell (aD (gp+1) 4) (.s A2 ln c2)).setCell (aD (gp+1) 5) (vI ((h:Int)+1)))from
  ⟨_,_,_,rfl,C7.o.sto D7.o B8.o.2 (by have:=qa.o;omega)⟩)
 have⟨⟨r0,r1,r2,r3,r4,r5⟩,_⟩:=bC B8.o.1;clear B8 D7 C7 d0 d1 d2 d3 d4 d5 f0 f1 f2 f3 f4 f5;generalize (((((w7.setCell (aD (gp+1) 0) (vI i1)).setCell (aD (gp+1) 1) (vI i2)).setCell (aD (gp+1) 2) (vI i3)).setCell (aD (gp+1) 3) (vI i4)).setCell (aD (gp+1) 4) (.s A2 ln c2)).setCell (aD (gp+1) 5) (vI ((h:Int)+1))=w8 at*;go_wp2;refine bodyPost_ret (v:=.tuple #[va,.agg #[vI i1,vI i2,vI i3,vI i4,.s A2 ln c2,vI ((h:Int)+1)],vI 0]) ?_ rfl F.o;simp[results,Tryz.results143,go_sem,asAddr,Result.andThen,r0,r1,r2,r3,r4,r5]
end Fo
end Go.Proofs.YtllmekijiohgmaaGreatDoor
namespace Go.Proofs.YtllmekijiohgmaaGreatDoor
namespace Fo
open Sx
theorem jzar:∀(n:Nat) {f g:Nat->Rat} {x:Nat},x<n->(∀k,k<n->k≠x->f k=g k)->sm n f+g x=sm n g+f x
 |0,_,_,_,h,_=>by omega
 |n+1,f,g,x,h,he=>by
  show sm n f+f n+g x=sm n g+g n+f x;by_cases e:x=n
  ·subst e
   rw[lV x (f:=f) (g:=g) fun k hk=>he k (by omega) (by omega)];grind
  ·have h1:=jzar n (f:=f) (g:=g) (x:=x) (by omega) fun k hk hne=>he k (by omega) hne
   have h2:=he n (by omega) fun e2=>e e2.symm;grind
def shA(l:LQ)(a:Nat):Rat:=l[a]?.getD 0
theorem tA{l:LQ}{a b:Nat}{q:Rat}(ha:a<l.length):shA (dE l a q) b=if b=a then shA l a+q else shA l b:=by
 unfold shA dE;by_cases e:b=a;{subst e;rw[if_pos rfl,yM ha];rfl};rw[if_neg e,vN fun h=>e h.symm]
def kN(t:Tp)(s n:Nat)(sh:LQ):Rat:=(if n=s then 1 else 0)+sm (2*t.links.length) fun a=>(if hdN t a=n then shA sh a else 0)-(if tlN t a=n then shA sh a else 0)
theorem jzi6{t:Tp}{s n a:Nat}{sh:LQ}{q:Rat}(ha:a<2*t.links.length)(hl:sh.length=2*t.links.length):kN t s n (dE sh a q)=kN t s n sh+(if hdN t a=n then q else 0)-(if tlN t a=n then q else 0):=by
 unfold kN;have h:=jzar (2*t.links.length) (x:=a) (f:=fun b=>(if hdN t b=n then shA (dE sh a q) b else 0)-(if tlN t b=n then shA (dE sh a q) b else 0)) (g:=fun b=>(if hdN t b=n then shA sh b else 0)-(if tlN t b=n then shA sh b else 0)) ha fun k _ e=>(by simp only[tA (b:=k) (a:=a) (l:=sh) (q:=q) (by omega),if_neg e]);simp only[tA (b:=a) (a:=a) (l:=sh) (q:=q) (by omega),if_true]at h;by_cases h1:hdN t a=n <;> by_cases h2:tlN t a=n <;> simp only[h1,h2,if_true,if_false]at h⊢ <;> grind
def prN(l:List Gp)(n:Nat):Rat:=l.foldr (fun g s=>(if g.node=n then g.am else 0)+s) 0
theorem jzas:∀(l:List Gp) (x:Gp) (n:Nat),prN (bK l x) n=prN l n+(if x.node=n then x.am else 0)
 | [],x,n=>by show(if x.node=n then x.am else 0)+0=0+_;grind
 |g::l,x,n=>by
  unfold bK
  split
  ·rename_i e
   show(if g.node=n then g.am+x.am else 0)+prN l n=(if g.node=n then g.am else 0)+prN l n+_;rw[<-e.1]
   split <;> grind
  ·show(if g.node=n then g.am else 0)+prN (bK l x) n=(if g.node=n then g.am else 0)+prN l n+_
   rw[jzas l x n];grind
structure CI(t:Tp)(s dst m:Nat)(p:Rat)(rest:List Gp)(f:Fs):Prop where
 len:f.sh.length=2*t.links.length
 lt:∀n,prN rest n+prN f.nx n+(if m=n then p else 0)<=kN t s n f.sh
 at_:prN rest dst+prN f.nx dst+(if m=dst then p else 0)+1-f.lo-aP rest-aP f.nx-p<=kN t s dst f.sh
 le:f.lo+aP rest+aP f.nx+p<=1
section
variable {t:Tp} {s dst m:Nat} {p:Rat} {rest:List Gp} {f:Fs}
theorem CI.out_(h:CI t s dst m p rest f){a:Nat}(ha:a<2*t.links.length)(ht:tlN t a=m)(st:List Sg)(q:Rat):CI t s dst m (p-q) rest (bZ t st q f a):=by
 have hk:=fun n=>jzi6 (s:=s) (n:=n) (q:=q) ha h.len;have hp:=fun n=>jzas f.nx ⟨hdN t a,st,q⟩ n;refine⟨?_,fun n=>?_,?_,?_⟩;{show(dE f.sh a q).length=_;unfold dE;rw[yV];exact h.len};{show prN rest n+prN (bK f.nx _) n+_<=kN t s n (dE f.sh a q);rw[hk,hp,ht];have:=h.lt n;simp only;by_cases e:m=n;{simp only[e,if_true]at this⊢;grind};simp only[e,if_false]at this⊢;grind};{show prN rest dst+prN (bK f.nx _) dst+_+1-f.lo-aP rest-aP (bK f.nx _)-(p-q)<=kN t s dst (dE f.sh a q);rw[hk,hp,ht,oG];have:=h.at_;simp only;by_cases e:m=dst;{simp only[e,if_true]at this⊢;grind};simp only[e,if_false]at this⊢;grind};show f.lo+aP rest+aP (bK f.nx _)+(p-q)<=1;rw[oG];have:=h.le;simp only;grind
theorem CI.outs(st:List Sg)(q:Rat):∀(l:LN) {p:Rat} {f:Fs},CI t s dst m p rest f->(∀a∈l,a<2*t.links.length/\tlN t a=m)->CI t s dst m (p-(l.length:Rat)*q) rest (l.foldl (bZ t st q) f)
 | [],p,f,h,_=>by
   have e:p-((([]:LN).length:Nat):Rat)*q=p:=(by show p-(0:Rat)*q=p;grind);rw[e];exact h
 |a::l,p,f,h,hl=>by
  have h1:=CI.outs st q l (h.out_ (hl a (by simp)).1 (hl a (by simp)).2 st q) fun b hb=>hl b (by simp[hb]);have e:p-(((a::l).length:Nat):Rat)*q=p-q-(l.length:Rat)*q:=by
   have:(((a::l).length:Nat):Rat)=(l.length:Rat)+1:=by
    show(((l.length+1:Nat):Int):Rat)=((l.length:Int):Rat)+1;rw[kZv,Rat.intCast_add];rfl
   rw[this];grind
  rw[e];exact h1
theorem oN{x:Tb}{h:Nat}(e:(goN x dst h).2.2= -1):dst=x.node:=by
 unfold goN at e;split at e;{assumption};split at e;{cases e};split at e;{cases e};split at e;{cases e};unfold cQ at e;split at e;{split at e <;> cases e};cases e
theorem jzi7{x:Tb}{h:Nat}{st:List Sg}(e:(cM t x dst h st).2.2= -1):dst=x.node:=by
 (unfold cM at e;cases hp:cH x.node st with|nil=>rw[hp]at e;exact oN e|cons y r=>obtain⟨k,j⟩:=y;rw[hp]at e;unfold goS at e;simp only at e;split at e;{cases e};split at e;{split at e;{cases e};split at e;{exact oN e};cases e};split at e;{exact oN e};split at e;{exact oN e};unfold cQ at e;split at e;{split at e <;> cases e};cases e)
theorem CI.grp{g:Gp}(h:CI t s dst m 0 (g::rest) f){T:List Tb}(hT:∀n x,T[n]?=some x->TbB t n x)(hs:∀y∈g.st,sgB t y)(ha:0<=g.am)(hg:g.node<T.length)(k:Nat):CI t s dst 0 0 rest (grS t T dst k f g):=by
 have e1:∀n,prN (g::rest) n=(if g.node=n then g.am else 0)+prN rest n:=fun _=>rfl;have e2:aP (g::rest)=g.am+aP rest:=rfl;have h0:CI t s dst g.node g.am rest f:=⟨h.len,fun n=>by
  have:=h.lt n;rw[e1]at this;have e3:(if m=n then(0:Rat)else 0)=0:=(by split <;> rfl);rw[e3]at this;grind,by
  have:=h.at_;rw[e1,e2]at this;have e3:(if m=dst then(0:Rat)else 0)=0:=(by split <;> rfl);rw[e3]at this;grind,by have:=h.le;rw[e2]at this;grind⟩
 have z:∀n:Nat,(if(0:Nat)=n then(0:Rat)else 0)=0:=fun n=>(by split <;> rfl);unfold grS;rw[yG hg];have hx:=hT _ _ (yG hg);generalize T[g.node]=x at*;have h1:=lS hx dst k hs;have h2:=jzi7 (t:=t) (x:=x) (dst:=dst) (h:=k) (st:=g.st);obtain⟨arcs,st,r,e⟩:∃arcs st r,cM t x dst k g.st=(arcs,st,r):=⟨_,_,_,rfl⟩;rw[e]at h1 h2;simp only[e]at h2⊢
 split
 ·split
  ·rename_i hr
   have hd:=h2 hr;rw[hx.node]at hd;refine⟨h0.len,fun n=>?_,?_,?_⟩
   ·have:=h0.lt n
    rw[z]
    split at this <;> grind
   ·have:=h0.at_
    rw[z];rw[if_pos hd.symm]at this;grind
   have:=h0.le;grind
  refine⟨h0.len,fun n=>?_,?_,?_⟩
  ·have:=h0.lt n
   rw[z]
   split at this <;> grind
  ·have:=h0.at_
   rw[z];show prN rest dst+prN f.nx dst+0+1-(f.lo+g.am)-aP rest-aP f.nx-0<=_
   split at this <;> grind
  have:=h0.le;show f.lo+g.am+aP rest+aP f.nx+0<=1;grind
 rename_i hne
 have h3:=h0.outs st (g.am/(arcs.length:Rat)) arcs fun a ha=>h1.arc a ha;have h5:(arcs.length:Rat)*(g.am/(arcs.length:Rat))=g.am:=by
  rw[Rat.mul_comm];exact Rat.div_mul_cancel fun e=>by
   have h6:=List.length_pos_iff.2 hne;have:((arcs.length:Int):Rat)=((0:Int):Rat):=e;have:=Rat.intCast_inj.1 this;omega
 rw[h5]at h3;have e4:g.am-g.am=0:=(by grind);rw[e4]at h3;exact⟨h3.len,fun n=>by
  have:=h3.lt n;rw[z];have e3:(if g.node=n then(0:Rat)else 0)=0:=(by split <;> rfl);rw[e3]at this;exact this,by
  have:=h3.at_;rw[z];have e3:(if g.node=dst then(0:Rat)else 0)=0:=(by split <;> rfl);rw[e3]at this;exact this,h3.le⟩
end
end Fo
end Go.Proofs.YtllmekijiohgmaaGreatDoor
