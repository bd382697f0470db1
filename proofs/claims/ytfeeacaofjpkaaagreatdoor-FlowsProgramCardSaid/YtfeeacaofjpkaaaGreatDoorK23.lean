/- Walks, part 23. -/
import Derived.Test.YtfeeacaofjpkaaaGreatDoorK22
set_option linter.unusedVariables false
set_option linter.unusedSimpArgs false
set_option maxRecDepth 100000
set_option maxHeartbeats 8000000
namespace Go.Proofs.YtfeeacaofjpkaaaGreatDoor
open Go.Proofs.Tryz
open Go.RowKit
open Sx
theorem jzo9:kW (3/2)=[51,47,50]:=by
 unfold kW;rw[show(3/2:Rat).num=3 from by decide+kernel,show(3/2:Rat).den=2 from by decide+kernel];simp[Lib.decDigits]
theorem jzfu(neg:Bool)A(n c:Nat)A'(n' c':Nat)(q:Rat)(hq:q=3/2)w(h:aB w neg A n c A' n' c' q)(ht:Tab w):
  Calls prog 23 #[.agg #[.bool neg,.s A n c,.s A' n' c']] w fun e w'=>e=.returned (.string ⟨#[51,47,50]⟩)/\Ext w w':=by
 subst hq;obtain⟨h1,h2⟩:=h.lens (k:=1) (by unfold SzQ;decide+kernel);have:=jzig neg A n c A' n' c' (3/2) w h qO qO ht;rw[jzo9]at this;exact this
theorem jzpa:connL rgT [rgA]:=jzm.connL
theorem jzpb:connL rgT [rgA,rgB]:=jzfo.connL
theorem jzp(l:List Dm)(hl:l=[rgA]\/l=[rgA,rgB])AL(cl:Nat)AD(nd cd:Nat)(hnd:l.length=nd)w(ht:bD w rgT none 0 AL cl)(hd:DmR w l AD cd)(hta:Tab w):
  Calls prog 7 #[.agg #[vI 4,zN,.s AL 4 cl],.s AD nd cd] w fun e w'=>∃(neg:Bool) (A1:OA) (n1 c1:Nat) (A2:OA) (n2 c2:Nat) (AP:OA) (np cp gp:Nat) (Z:List ((Nat×LN)×Rat)) (pr:LQ),
   e=.returned (.tuple #[.agg #[.bool neg,.s A1 n1 c1,.s A2 n2 c2,.s AP np cp,.s (sA gp) 8 8],vI 0])/\Hid (Z.length=np)/\dW w' rgT l neg A1 n1 c1 A2 n2 c2 AP cp gp (3/2) Z pr/\Ext w w':=by
 subst hnd
 have hf:Fit rgT l:=by rcases hl with rfl|rfl; ·exact sH
                       ·exact jzl
 have hD:l.length<=4:=(by rcases hl with rfl|rfl <;> decide);refine(jzej rgT none 0 AL cl l AD cd w ht hd qD hD (fun _=>qD) hta).mono ?_;intro e w' h;rcases h.cases hf hD with⟨h1,_⟩|⟨neg,A1,n1,c1,A2,n2,c2,AP,cp,gp,v,Z,pr,h1,h2,h3⟩
 ·rcases hl with rfl|rfl
  ·exact absurd jzpa h1
  exact absurd jzpb h1
 have hv:v=3/2:=by
  rcases hl with rfl|rfl
  ·exact h2.ok.unique sH jzm
  exact h2.ok.unique jzl jzfo
 subst hv;exact⟨neg,A1,n1,c1,A2,n2,c2,AP,_,cp,gp,Z,pr,h1,Hx rfl,h2,h3⟩
theorem jzpc{w}{A}{c:Nat}(h:Rd w A ([rgA,rgB].flatMap Dm.cells))(hc:2<=c):DmR w [rgA,rgB] A c:=⟨hc,qD,h,fun d hd=>by
 rcases xZ.1 hd with rfl|hd
 ·unfold Dm.wf i64 rgA;simp
 ·rw[xD.1 hd];unfold Dm.wf i64 rgB;simp⟩
theorem DmR.first{w}{A}{c:Nat}(h:DmR w [rgA,rgB] A c):DmR w [rgA] A c:=⟨by have:=h.len;simp at this⊢;omega,qD,fun _=>by
 obtain⟨b,o,e,hb,hc⟩:=h.rd (by simp[Dm.cells]);refine⟨b,o,e,hb,fun i hi=>?_⟩;have qa:i<4:=hi;rw[hc i (by show i<8;omega)];show(rgA.cells++(rgB.cells++[]))[i]?=(rgA.cells++[])[i]?;rw[yR (by show i<4;omega),yR (by show i<4;omega)],fun d hd=>h.wf d (by rw[xD.1 hd];simp)⟩
theorem jzpd{W0 w5}{g:Nat}{t}{l:List Dm}{neg:Bool}{A1}{n1 c1:Nat}{A2}{n2 c2:Nat}{AP}{cp gp:Nat}{v:Rat}{Z:List ((Nat×LN)×Rat)}{pr:LQ}(np nr:Nat)
  (h5:Blk w5 g 37 #[bF,zN,zN,zN,zN]) (hS:dW w5 t l neg A1 n1 c1 A2 n2 c2 AP cp gp v Z pr) (hx:Ext W0 w5) (hg:W0.heap.size<=g):
  Blk (((((w5.setCell (aD g 0) (.bool neg)).setCell (aD g 1) (.s A1 n1 c1)).setCell (aD g 2) (.s A2 n2 c2)).setCell (aD g 3) (.s AP np cp)).setCell (aD g 4) (.s (sA gp) nr nr)) g 37 #[.bool neg,.s A1 n1 c1,.s A2 n2 c2,.s AP np cp,.s (sA gp) nr nr]/\
  dW (((((w5.setCell (aD g 0) (.bool neg)).setCell (aD g 1) (.s A1 n1 c1)).setCell (aD g 2) (.s A2 n2 c2)).setCell (aD g 3) (.s AP np cp)).setCell (aD g 4) (.s (sA gp) nr nr)) t l neg A1 n1 c1 A2 n2 c2 AP cp gp v Z pr/\
  Ext W0 (((((w5.setCell (aD g 0) (.bool neg)).setCell (aD g 1) (.s A1 n1 c1)).setCell (aD g 2) (.s A2 n2 c2)).setCell (aD g 3) (.s AP np cp)).setCell (aD g 4) (.s (sA gp) nr nr)):=by
 have b0:=h5.sT 0 (.bool neg);have b1:=b0.sT 1 (.s A1 n1 c1);have b2:=b1.sT 2 (.s A2 n2 c2);have b3:=b2.sT 3 (.s AP np cp);have b4:=b3.sT 4 (.s (sA gp) nr nr);have k:FrS (fun x=>x=g) w5 (((((w5.setCell (aD g 0) (.bool neg)).setCell (aD g 1) (.s A1 n1 c1)).setCell (aD g 2) (.s A2 n2 c2)).setCell (aD g 3) (.s AP np cp)).setCell (aD g 4) (.s (sA gp) nr nr)):=eG (S:=fun x=>x=g) (oI w5 g (.bool neg) (.s A1 n1 c1) (.s A2 n2 c2) (.s AP np cp) (.s (sA gp) nr nr)) fun y e=>(Option.some.inj e).symm;exact⟨b4,hS.fill h5 k,k.ext hx fun b hb=>by rw[hb];exact hg⟩
theorem jzpe w(ht:Tab w):
  Calls prog 5 #[] w fun e w'=>e=.returned (.bool true)/\Ext w w':=by
 have HT:=Hx ht
 go_enter func5,ntmps5
 go_upto_region 2 with fail
 have D0:=Hx (jzpc (w:=w.alloc (.cells #[vI 0,vI 2,vI 4,vI 0,vI 2,vI 0,vI 4,vI 0] 60)) (A:=(sA w.heap.size)) (c:=2) (Rd.new w 60 #[vI 0,vI 2,vI 4,vI 0,vI 2,vI 0,vI 4,vI 0] (xs:=[rgA,rgB].flatMap Dm.cells) rfl rfl) (yX _));have X0:=Hx ((eR w).alloc (.cells #[vI 0,vI 2,vI 4,vI 0,vI 2,vI 0,vI 4,vI 0] 60));generalize w.alloc (.cells #[vI 0,vI 2,vI 4,vI 0,vI 2,vI 0,vI 4,vI 0] 60)=W0 at*;generalize w.heap.size=gd at*;have XD:Hid (Ext W0 W0.drew):=Hx ((eR W0).drewN 1);have XA:Hid (Ext W0 (W0.alloc (.cells #[.bool false,zN,zN,zN,zN] 37)).drew):=Hx (((eR W0).alloc _).drewN 1);have BA:Hid (Blk (W0.alloc (.cells #[.bool false,zN,zN,zN,zN] 37)).drew W0.heap.size 37 #[.bool false,zN,zN,zN,zN]):=Hx (eN W0 _ _)
 go_cut [2,3] (fun s2 s3 wx=>∃(b:Nat) (neg:Bool) (A1:OA) (n1 c1:Nat) (A2:OA) (n2 c2:Nat) (AP:OA) (np cp gp:Nat),s2=.pointer (sA b)/\s3=vI 0/\Hid (∃(Z:List ((Nat×LN)×Rat)) (pr:LQ),Z.length=np/\Blk wx b 37 #[.bool neg,.s A1 n1 c1,.s A2 n2 c2,.s AP np cp,.s (sA gp) 8 8]/\dW wx rgT [rgA] neg A1 n1 c1 A2 n2 c2 AP cp gp (3/2) Z pr)/\Hid (Ext W0 wx))
 case first=>
  go_region_held3 (fun _=>True)
   (trivial)
   (first
    |(go_at_call 22
      refine(sJ _).mono ?_;rintro e w1 ⟨AL,cl,rfl,T1,x1⟩
      first
      |(have E1:=Hx (kQa T1 (show Ext W0 w1 by with_reducible exact XD.o.tr x1)))
      |(have E1:=Hx (kQa T1 (show Ext W0 w1 by with_reducible exact XA.o.tr x1))
        have B1:=Hx (BA.o.K x1))
      clear T1 x1)
    |(go_at_call 7
      first
      |(with_reducible refine(jzp [rgA] (.inl rfl) AL cl (sA gd) 1 2 rfl _ E1.o.1 (D0.o.first.K E1.o.2) (HT.o.K (X0.o.tr E1.o.2))).mono ?_
        rintro e w5 ⟨neg,A1,n1,c1,A2,n2,c2,AP,np,cp,gp,Z,pr,rfl,HZ,S5,x5⟩;have E5:=Hx (kQa S5 (E1.o.2.tr x5))
        first
        |(have B5:=Hx (B1.o.K x5)
          have f0:=B5.o.frozen 0;have f1:=B5.o.frozen 1;have f2:=B5.o.frozen 2;have f3:=B5.o.frozen 3;have f4:=B5.o.frozen 4;have u0:=B5.o.cell 0;have u1:=B5.o.cell 1;have u2:=B5.o.cell 2;have u3:=B5.o.cell 3;have u4:=B5.o.cell 4)
        |skip)
      |(with_reducible refine(jzp [rgA] (.inl rfl) AL cl (sA gd) 1 2 rfl _ (E1.o.1.K ((eR w1).alloc _)) (D0.o.first.K (E1.o.2.alloc _)) (HT.o.K (X0.o.tr (E1.o.2.alloc _)))).mono ?_
        rintro e w5 ⟨neg,A1,n1,c1,A2,n2,c2,AP,np,cp,gp,Z,pr,rfl,HZ,S5,x5⟩;have E5:=Hx (kQa S5 ((E1.o.2.alloc (.cells #[.bool false,zN,zN,zN,zN] 37)).tr x5));have B5:=Hx (Blk.K (eN w1 37 #[.bool false,zN,zN,zN,zN]) x5);have f0:=B5.o.frozen 0;have f1:=B5.o.frozen 1;have f2:=B5.o.frozen 2;have f3:=B5.o.frozen 3;have f4:=B5.o.frozen 4;have u0:=B5.o.cell 0;have u1:=B5.o.cell 1;have u2:=B5.o.cell 2;have u3:=B5.o.cell 3;have u4:=B5.o.cell 4)
      clear S5 x5)
    |fail)
  all_goals
   go_wp2;go_meet;have qh:=E1.o.2.size
   first
   |(have F:=jzpd np 8 B5.o E5.o.1 E5.o.2 qO
     exact⟨_,neg,A1,n1,c1,A2,n2,c2,AP,np,cp,gp,rfl,rfl,Hx ⟨Z,pr,HZ.o,F.1,F.2.1⟩,Hx F.2.2⟩)
   |exact⟨_,neg,A1,n1,c1,A2,n2,c2,AP,np,cp,gp,rfl,rfl,Hx ⟨Z,pr,HZ.o,eN w5 _ _,E5.o.1.K ((eR w5).alloc _)⟩,Hx (E5.o.2.alloc _)⟩
 obtain⟨b1,neg,A1,n1,c1,A2,n2,c2,AP,np,cp,gp,rfl,rfl,P1,X1⟩:=hcut
 go_wp2_with fail
 refine(sJ _).mono ?_;rintro e w3 ⟨AL,cl,rfl,T3,x3⟩;have E3:=Hx (kQa T3 (X1.o.tr x3));have X3:=Hx x3
 go_wp2_with fail
 refine(jzp [rgA,rgB] (.inr rfl) AL cl (sA gd) 2 2 rfl _ E3.o.1 (D0.o.K E3.o.2) (HT.o.K (X0.o.tr E3.o.2))).mono ?_;rintro e w5 ⟨ng,G1,u1,v1,G2,u2,v2,GP,mp,dp,hp,Z,pr,rfl,HZ,S5,x5⟩;have B6:=Hx (eN w5 37 #[.bool ng,.s G1 u1 v1,.s G2 u2 v2,.s GP mp dp,.s (sA hp) 8 8]);have X6:=Hx ((eR w5).alloc (.cells #[.bool ng,.s G1 u1 v1,.s G2 u2 v2,.s GP mp dp,.s (sA hp) 8 8] 37));have S6:=Hx (S5.K X6.o);have qi:=Hx ((X3.o.tr x5).tr X6.o);have E6:=Hx (X0.o.tr ((E3.o.2.tr x5).tr X6.o));have D6:=Hx (D0.o.K ((E3.o.2.tr x5).tr X6.o))
 go_upto_region 4 with fail
 generalize w5.alloc (.cells #[.bool ng,.s G1 u1 v1,.s G2 u2 v2,.s GP mp dp,.s (sA hp) 8 8] 37)=W6 at*;generalize w5.heap.size=b6 at*;obtain⟨Z1,qB,qw,qx,qh⟩:=P1.o;have B1:=Hx (qx.K qi.o);have S1:=Hx (kQa qw (qh.K qi.o));have qa:=Hx (show∀wx,Ext W6 wx->(wx.cell? (aD b1 0)=some (.bool neg)/\wx.cell? (aD b1 1)=some (.s A1 n1 c1)/\wx.cell? (aD b1 2)=some (.s A2 n2 c2)/\wx.cell? (aD b1 3)=some (.s AP np cp))/\
   wx.cell? (aD b6 0)=some (.bool ng)/\wx.cell? (aD b6 1)=some (.s G1 u1 v1)/\wx.cell? (aD b6 2)=some (.s G2 u2 v2)/\wx.cell? (aD b6 3)=some (.s GP mp dp)/\wx.cell? (aD b6 4)=some (.s (sA hp) 8 8)from fun wx hx=>
  ⟨⟨(B1.o.K hx).cell 0,(B1.o.K hx).cell 1,(B1.o.K hx).cell 2,(B1.o.K hx).cell 3⟩,(B6.o.K hx).cell 0,(B6.o.K hx).cell 1,(B6.o.K hx).cell 2,(B6.o.K hx).cell 3,(B6.o.K hx).cell 4⟩)
 have XD:Hid (Ext W6 W6.drew):=Hx ((eR W6).drewN 1);have HSW:=Hx (qa.o _ XD.o);refine wX qa 32 ?_;refine wP 0 rfl HSW.o ?_;refine wP 1 rfl HSW.o ?_;refine wP 2 rfl HSW.o ?_;refine wP 3 rfl HSW.o ?_;refine wP 4 rfl HSW.o ?_;refine wP 5 rfl HSW.o ?_;refine wP 6 rfl HSW.o ?_;refine wP 7 rfl HSW.o ?_;try simp only[Act.put,yA,yB,yC,yD,yE,yF]
 refine wV 8 rfl HSW.o ?_;refine wC 9 rfl (fun KK hK=>?_);go_simp;refine(jzfu neg A1 n1 c1 A2 n2 c2 (3/2) rfl _ (S1.o.2.val.K XD.o) (HT.o.K (E6.o.tr XD.o))).mono ?_;rintro e w7 ⟨rfl,x7⟩;have E7:=Hx (XD.o.tr x7);have HSW:=Hx (qa.o _ E7.o);refine hK.o _ _ HSW.o ?_;refine wP 10 rfl HSW.o ?_;refine wP 11 rfl HSW.o ?_;refine wP 12 rfl HSW.o ?_;refine wP 13 rfl HSW.o ?_;refine wV 14 rfl HSW.o ?_;refine wC 15 rfl (fun KK hK=>?_);go_simp;refine(jzfu ng G1 u1 v1 G2 u2 v2 (3/2) rfl _ (S6.o.val.K E7.o) (HT.o.K (E6.o.tr E7.o))).mono ?_;rintro e w8 ⟨rfl,x8⟩;have E8:=Hx (E7.o.tr x8);have HSW:=Hx (qa.o _ E8.o);refine hK.o _ _ HSW.o ?_;try simp only[Act.put,yA,yB,yC,yD,yE,yF]
 refine wP 16 rfl HSW.o ?_;try simp only[Act.put,yA,yB,yC,yD,yE,yF]
 refine wP 17 rfl HSW.o ?_;try simp only[Act.put,yA,yB,yC,yD,yE,yF]
 refine wP 18 rfl HSW.o ?_;try simp only[Act.put,yA,yB,yC,yD,yE,yF]
 refine wP 20 rfl HSW.o ?_;try simp only[Act.put,yA,yB,yC,yD,yE,yF]
 refine wV 21 rfl HSW.o ?_;try simp only[Act.put,yA,yB,yC,yD,yE,yF]
 refine wC 19 rfl (fun KK hK=>?_);go_simp;refine(sJ _).mono ?_;rintro e w9 ⟨qy,qt,rfl,T9,x9⟩;have E9:=Hx (kQa T9 (E8.o.tr x9));have HSW:=Hx (qa.o _ E9.o.2);refine hK.o _ _ HSW.o ?_;clear hK KK x9 T9;try simp only[Act.put,yA,yB,yC,yD,yE,yF]
 refine wC 22 rfl (fun KK hK=>?_);go_simp;refine((S6.o.K E9.o.2).check (t:=rgT) (AO:=none) (co:=0) (AL:=qy) (cl:=qt) (AD:=(sA gd)) (cd:=2) (nr:=8) (cr:=8) jzl qD HZ.o S6.o.ok.plen E9.o.1 (D6.o.K E9.o.2) (HT.o.K (E6.o.tr E9.o.2))).mono ?_;rintro e qA ⟨rfl,qo⟩;have qj:=Hx (E9.o.2.tr qo);have HSW:=Hx (qa.o _ qj.o);refine hK.o _ _ HSW.o ?_;clear hK KK qo;try simp only[Act.put,yA,yB,yC,yD,yE,yF]
 refine wP 23 rfl HSW.o ?_;try simp only[Act.put,yA,yB,yC,yD,yE,yF]
 refine wP 24 rfl HSW.o ?_;try simp only[Act.put,yA,yB,yC,yD,yE,yF]
 refine wP 26 rfl HSW.o ?_;try simp only[Act.put,yA,yB,yC,yD,yE,yF]
 refine wV 27 rfl HSW.o ?_;try simp only[Act.put,yA,yB,yC,yD,yE,yF]
 refine wC 25 rfl (fun KK hK=>?_);go_simp;refine(sJ _).mono ?_;rintro e qz ⟨qf,qg,rfl,qm,qk⟩;have qe:=Hx (kQa qm (qj.o.tr qk));have HSW:=Hx (qa.o _ qe.o.2);refine hK.o _ _ HSW.o ?_;clear hK KK qk qm;try simp only[Act.put,yA,yB,yC,yD,yE,yF]
 refine wC 28 rfl (fun KK hK=>?_);go_simp;have h4:=jzoy S1.o.2.ok;refine((S1.o.2.K qe.o.2).full (t:=rgT) (AO:=none) (co:=0) (AL:=qf) (cl:=qg) sH qD S1.o.1 qe.o.1).mono ?_;rw[h4];rintro e qC ⟨AF,cf,rfl,qn⟩;have qp:=Hx (qe.o.2.tr qn);have HSW:=Hx (qa.o _ qp.o);refine hK.o _ _ HSW.o ?_;clear hK KK qn;try simp only[Act.put,yA,yB,yC,yD,yE,yF]
 refine wP 29 rfl HSW.o ?_;try simp only[Act.put,yA,yB,yC,yD,yE,yF]
 refine wP 30 rfl HSW.o ?_;try simp only[Act.put,yA,yB,yC,yD,yE,yF]
 refine wP 31 rfl HSW.o ?_;try simp only[Act.put,yA,yB,yC,yD,yE,yF]
 refine aY qK rfl qR (fun KK hK=>?_);go_simp;refine hK.o _ _ ?_;clear hK KK;refine wpAny_done qK ?_ _;go_wp2;go_ret;exact⟨rfl,E6.o.tr qp.o⟩
end Go.Proofs.YtfeeacaofjpkaaaGreatDoor
namespace Go.Proofs.YtfeeacaofjpkaaaGreatDoor
open Go.Proofs.Tryz
open Go.RowKit
structure kL(w:World)(t:Tp)(AO:OA)(co:Nat)(AL:OA)(cl:Nat)(l:List Dm)(AD:OA)(cd:Nat):Prop where
 nodes:i64 t.nodes
 lo:t.over.length<=co
 ll:t.links.length<=cl
 over:Rd w AO (bH t.over)
 links:Rd w AL (t.links.flatMap Lk.cells)
 wf:∀x∈t.links,x.wf
 ld:l.length<=cd
 lm:l.length<=9223372036854775807
 dr:Rd w AD (l.flatMap Dm.cells)
 dwf:∀x∈l,x.wf
section
variable {w w':World} {t:Tp} {AO:Option Addr} {co:Nat} {AL:Option Addr} {cl:Nat} {l:List Dm} {AD:Option Addr} {cd:Nat}
theorem kL.K(h:kL w t AO co AL cl l AD cd)(hx:Ext w w'):kL w' t AO co AL cl l AD cd:=⟨h.nodes,h.lo,h.ll,h.over.K hx,h.links.K hx,h.wf,h.ld,h.lm,h.dr.K hx,h.dwf⟩
theorem kL.top(h:kL w t AO co AL cl l AD cd)(h1:t.links.length<=10)(h2:t.over.length<=20):bD w t AO co AL cl:=⟨h.nodes,h.lo,h.ll,qO,qO,h.over,h.links,h.wf⟩
theorem kL.dem(h:kL w t AO co AL cl l AD cd)(h1:l.length<=4):DmR w l AD cd:=⟨h.ld,qO,h.dr,h.dwf⟩
theorem Rd.dm{A}(h:Rd w A (l.flatMap Dm.cells)){i:Nat}{d:Dm}(hl:l[i]?=some d):∃b o:Nat,A=some (aD b o)/\b<w.heap.size/\w.cell? (aD b (o+i*4+2))=some (vI d.amount):=by
 have hi:=(yH.1 hl).1;have qa:=jzdj Dm.cells 4 (fun _=>rfl) l;obtain⟨b,o,e,hb,hc⟩:=h.at_ (i:=i*4) (by rw[qa];omega);have qe:w.cell? (aD b (o+(i*4+2)))=(Dm.cells d)[2]?:=(by rw[hc (i*4+2) (by rw[qa];omega)];exact wG Dm.cells 4 (fun _=>rfl) l i 2 hl qD);exact⟨b,o,e,hb,qe⟩
end
def eH(t:Tp)(l:List Dm):Bool:=l.all (fun d=>decide (d.amount<=1000))&&decide (t.links.length<=10)&&decide (t.over.length<=20)&&decide (l.length<=4)&&(!aH t||decide (t.nodes<=7))
theorem jzpf{l:List Dm}{k:Nat}{d:Dm}(hl:l[k]?=some d)(hb:¬d.amount<=1000):l.all (fun d=>decide (d.amount<=1000))=false:=by
 obtain⟨hk,he⟩:=yH.1 hl;rw[List.all_eq_false];exact⟨d,by rw[<-he];exact xR hk,by simpa using hb⟩
theorem jzpg{l:List Dm}(h:∀(j:Nat) (d:Dm),l[j]?=some d->d.amount<=1000):l.all (fun d=>decide (d.amount<=1000))=true:=by
 rw[xW];intro d hd;obtain⟨j,hj,rfl⟩:=List.mem_iff_getElem.1 hd;exact yO (h j _ (yG hj))
theorem jzph t AO(co:Nat)AL(cl:Nat)(l:List Dm)AD(cd:Nat)w(h:kL w t AO co AL cl l AD cd):
  Calls prog 6 #[.agg #[vI t.nodes,.s AO t.over.length co,.s AL t.links.length cl],.s AD l.length cd] w fun e w'=>e=.returned (.bool (eH t l))/\Ext w w':=by
 have qi:=h.ld;have qh:=h.lm;have HA:=Hx h;obtain⟨qe,e0⟩:=bA w #[vI t.nodes,.s AO t.over.length co,.s AL t.links.length cl] 25;obtain⟨⟨i0,i1,i2⟩,_⟩:=qe.t3;have E0:=Hx (kQa qe e0);clear h qe e0;go_enter func6,ntmps6;go_wp2;go_loopg [5] l.length (fun q it wx=>∃n:Nat,l.length-n=q/\n<=l.length/\it=vI (n:Int)/\Hid (∀(j:Nat) (d:Dm),j<n->l[j]?=some d->d.amount<=1000)/\wx=w.alloc (.cells #[vI t.nodes,.s AO t.over.length co,.s AL t.links.length cl] 25));exact⟨0,rfl,yZ _,rfl,Hx fun j d h=>qO,rfl⟩;obtain⟨n,rfl,hn,rfl,I,rfl⟩:=hrel;by_cases qg:n<l.length
 ·obtain⟨d,hd⟩:∃d,l[n]?=some d:=⟨_,yG qg⟩;have HL:=Hx hd;obtain⟨b,o,rfl,hb,c2⟩:=(HA.o.dr.K E0.o.2).dm hd;have nN:(n:Int)<(l.length:Int):=qO;have n0:(0:Int)<=(n:Int):=qO;clear hd;by_cases ha:d.amount<=1000
  ·have HJ:=Hx ha;have d1:decide (1000<d.amount)=false:=yP qO;clear ha;go_wp2;go_roundg (l.length-(n+1));(case measure=>omega)
   case rel=>
    exact⟨n+1,rfl,qO,by go_num,Hx fun j d' hj hd'=>by
    by_cases e:j=n;{subst e;have:=HL.o;rw[this]at hd';injection hd' with hd';subst hd';exact HJ.o}
    exact I.o j d' qO hd',rfl⟩
  have HF:=Hx (show eH t l=false by unfold eH;rw[jzpf HL.o ha];simp);have d1:decide (1000<d.amount)=true:=yO qO;clear ha;go_wp2;go_ret;rw[HF.o];exact⟨rfl,E0.o.2⟩
 obtain rfl:n=l.length:=qO;have HF:=Hx (jzpg (l:=l) fun j d hj=>I.o j d (yH.1 hj).1 hj);by_cases h1:t.links.length<=10;(case neg=>have qa:=Hx (show eH t l=false by simp[eH,h1]);have d1:decide ((t.links.length:Int)<=10)=false:=(by simp;omega);go_wp2;go_ret;rw[qa.o];exact⟨rfl,E0.o.2⟩);have d1:decide ((t.links.length:Int)<=10)=true:=(by simp;omega);by_cases h2:t.over.length<=20;(case neg=>have qa:=Hx (show eH t l=false by simp[eH,h2]);have d2:decide ((t.over.length:Int)<=20)=false:=(by simp;omega);go_wp2;go_ret;rw[qa.o];exact⟨rfl,E0.o.2⟩);have d2:decide ((t.over.length:Int)<=20)=true:=(by simp;omega);by_cases h3:l.length<=4;(case neg=>have qa:=Hx (show eH t l=false by simp[eH,h3]);have d3:decide ((l.length:Int)<=4)=false:=(by simp;omega);go_wp2;go_ret;rw[qa.o];exact⟨rfl,E0.o.2⟩);(have d3:decide ((l.length:Int)<=4)=true:=by simp;omega);go_wp2_with fail;refine(nE t AO co AL cl _ ((HA.o.top h1 h2).K E0.o.2)).mono ?_;rintro e w1 ⟨rfl,qf⟩;obtain⟨⟨k0,_,_⟩,_⟩:=(E0.o.1.K qf).t3;have E1:=Hx (E0.o.2.tr qf);clear qf i0 i1 i2;cases hvv:aH t;(case false=>have qa:=Hx (show eH t l=true by simp only[eH,HF.o,hvv,h1,h2,h3];rfl);go_wp2;go_ret;rw[qa.o];exact⟨rfl,E1.o⟩);by_cases h5:t.nodes<=7;{have qa:=Hx (show eH t l=true by simp only[eH,HF.o,hvv,h1,h2,h3,h5];rfl);have d5:decide (t.nodes<=7)=true:=(by simp;omega);go_wp2;go_ret;rw[qa.o];exact⟨rfl,E1.o⟩};have qa:=Hx (show eH t l=false by simp only[eH,HF.o,hvv,h1,h2,h3,h5];rfl);have d5:decide (t.nodes<=7)=false:=(by simp;omega);go_wp2;go_ret;rw[qa.o];exact⟨rfl,E1.o⟩
theorem kO{N:Int}{d:Dm}(h:¬(0<=d.src/\d.src<N/\0<=d.dst/\d.dst<N/\d.src≠d.dst/\1<=d.amount/\d.amount<=1048576/\0<=d.prio/\d.prio<=7)):d.ok N=false:=by
 (cases h1:d.ok N with|false=>rfl|true=>exfalso;unfold Dm.ok inB at h1;simp at h1;omega)
theorem jzpi(N:Int)A(c:Nat)(l:List Dm)w(hd:DmR w l A c):
  Calls prog 34 #[vI N,.s A l.length c] w fun e w'=>e=.returned (.bool (dO N l))/\Ext w w':=by
 have HD:=Hx hd;have qf:=hd.len;have qa:=hd.cap;clear hd;by_cases a1:N<0;{have HR:=Hx (show dO N l=false by unfold dO inB;rw[yP (show¬(0<=N/\N<=64) by omega)];rfl);have d1:decide (N<0)=true:=yO a1;go_enter func34,ntmps34;go_wp2;go_ret;rw[HR.o];exact⟨rfl,eR _⟩};have b1:decide (N<0)=false:=yP a1;by_cases a2:64<N;{have HR:=Hx (show dO N l=false by unfold dO inB;rw[yP (show¬(0<=N/\N<=64) by omega)];rfl);have d2:decide (64<N)=true:=yO a2;go_enter func34,ntmps34;go_wp2;go_ret;rw[HR.o];exact⟨rfl,eR _⟩};have b2:decide (64<N)=false:=yP a2;by_cases a3:l.length<=64;(case neg=>have HR:=Hx (show dO N l=false by unfold dO;rw[yP a3];simp);have d3:decide (64<(l.length:Int))=true:=yO qO;go_enter func34,ntmps34;go_wp2;go_ret;rw[HR.o];exact⟨rfl,eR _⟩);have b3:decide (64<(l.length:Int))=false:=yP qO;have HR:=Hx (show dO N l=l.all (Dm.ok N) by unfold dO inB;rw[yO (show 0<=N/\N<=64 by omega),yO a3];rfl);go_enter func34,ntmps34;go_wp2;clear b1 b2 b3;go_loopg [5] l.length (fun q it wx=>∃n:Nat,l.length-n=q/\n<=l.length/\it=vI (n:Int)/\Hid ((∀j d,j<n->l[j]?=some d->d.ok N=true)/\Ext w wx));exact⟨0,rfl,yZ _,rfl,Hx ⟨fun j d h=>qO,eR _⟩⟩;obtain⟨n,rfl,hn,rfl,I⟩:=hrel;by_cases qe:n<l.length
 ·obtain⟨d,hd⟩:∃d,l[n]?=some d:=⟨_,yG qe⟩;have HL:=Hx hd;obtain⟨b,o,rfl,hb,c0,c1,c2,c3⟩:=(HD.o.K I.o.2).at_ hd;have nN:(n:Int)<(l.length:Int):=qO;have n0:(0:Int)<=(n:Int):=qO;have X9:=Hx (I.o.2.alloc (.cells #[vI d.src,vI d.dst,vI d.amount,vI d.prio] 60));clear hd;by_cases h1:d.src<0;{have HF:=Hx (gX HL.o (kO (N:=N) (d:=d) qO));have d1:decide (d.src<0)=true:=yO h1;clear h1;go_wp2;go_ret;rw[HR.o,HF.o];exact⟨rfl,X9.o⟩};have d1:decide (d.src<0)=false:=yP h1;have H1:=Hx h1;clear h1;by_cases h2:N<=d.src;{have HF:=Hx (gX HL.o (kO (N:=N) (d:=d) qO));have d2:decide (N<=d.src)=true:=yO h2;clear h2;go_wp2;go_ret;rw[HR.o,HF.o];exact⟨rfl,X9.o⟩};have d2:decide (N<=d.src)=false:=yP h2;have H2:=Hx h2;clear h2;by_cases h3:d.dst<0;{have HF:=Hx (gX HL.o (kO (N:=N) (d:=d) qO));have d3:decide (d.dst<0)=true:=yO h3;clear h3;go_wp2;go_ret;rw[HR.o,HF.o];exact⟨rfl,X9.o⟩};have d3:decide (d.dst<0)=false:=yP h3;have H3:=Hx h3;clear h3;by_cases h4:N<=d.dst;{have HF:=Hx (gX HL.o (kO (N:=N) (d:=d) qO));have d4:decide (N<=d.dst)=true:=yO h4;clear h4;go_wp2;go_ret;rw[HR.o,HF.o];exact⟨rfl,X9.o⟩};have d4:decide (N<=d.dst)=false:=yP h4;have H4:=Hx h4;clear h4;by_cases h5:d.src=d.dst;{have HF:=Hx (gX HL.o (kO (N:=N) (d:=d) qO));have d5:(d.src==d.dst)=true:=beq_iff_eq.2 h5;clear h5;go_wp2;go_ret;rw[HR.o,HF.o];exact⟨rfl,X9.o⟩};have d5:(d.src==d.dst)=false:=yK.2 h5;have H5:=Hx h5;clear h5;by_cases h6:d.amount<1;{have HF:=Hx (gX HL.o (kO (N:=N) (d:=d) qO));have d6:decide (d.amount<1)=true:=yO h6;clear h6;go_wp2;go_ret;rw[HR.o,HF.o];exact⟨rfl,X9.o⟩};have d6:decide (d.amount<1)=false:=yP h6;have H6:=Hx h6;clear h6;by_cases h7:1048576<d.amount;{have HF:=Hx (gX HL.o (kO (N:=N) (d:=d) qO));have d7:decide (1048576<d.amount)=true:=yO h7;clear h7;go_wp2;go_ret;rw[HR.o,HF.o];exact⟨rfl,X9.o⟩};have d7:decide (1048576<d.amount)=false:=yP h7;have H7:=Hx h7;clear h7;by_cases h8:d.prio<0;{have HF:=Hx (gX HL.o (kO (N:=N) (d:=d) qO));have d8:decide (d.prio<0)=true:=yO h8;clear h8;go_wp2;go_ret;rw[HR.o,HF.o];exact⟨rfl,X9.o⟩};have d8:decide (d.prio<0)=false:=yP h8;have H8:=Hx h8;clear h8;by_cases h9:7<d.prio;{have HF:=Hx (gX HL.o (kO (N:=N) (d:=d) qO));have d9:decide (7<d.prio)=true:=yO h9;clear h9;go_wp2;go_ret;rw[HR.o,HF.o];exact⟨rfl,X9.o⟩};have d9:decide (7<d.prio)=false:=yP h9;have H9:=Hx h9;clear h9;have OK:=Hx (show d.ok N=true by have g1:=H1.o;have g2:=H2.o;have g3:=H3.o;have g4:=H4.o;have g5:=H5.o;have g6:=H6.o;have g7:=H7.o;have g8:=H8.o;have g9:=H9.o;unfold Dm.ok inB;simp;omega);go_wp2;go_roundg (l.length-(n+1));(case measure=>omega)
  case rel=>
   exact⟨n+1,rfl,qO,by go_num,Hx ⟨fun j d' hj hd'=>by
   by_cases e:j=n;{subst e;have:=HL.o;rw[this]at hd';injection hd' with hd';subst hd';exact OK.o}
   exact I.o.1 j d' qO hd',X9.o⟩⟩
 obtain rfl:n=l.length:=qO;have HF:=Hx (jzdk (l:=l) (N:=N) (fun j d hj=>I.o.1 j d (yH.1 hj).1 hj));go_wp2;go_ret;rw[HR.o,HF.o];exact⟨rfl,I.o.2⟩
theorem jzpj t AO(co:Nat)AL(cl:Nat)(l:List Dm)A(c:Nat)w(ht:bD w t AO co AL cl)(hd:DmR w l A c):
  Calls prog 8 #[.agg #[vI t.nodes,.s AO t.over.length co,.s AL t.links.length cl],.s A l.length c] w fun e w'=>e=.returned (.bool (dT t l))/\Ext w w':=by
 have HT:=Hx (kQa ht hd);clear ht hd;obtain⟨qa,e0⟩:=bA w #[vI t.nodes,.s AO t.over.length co,.s AL t.links.length cl] 25;have BA:=Hx (kQa qa e0);obtain⟨⟨i0,i1,i2⟩,_⟩:=qa.t3;clear qa e0;go_enter func8,ntmps8;go_wp2_with fail;refine(nE t AO co AL cl _ (HT.o.1.K BA.o.2)).mono ?_;rintro e w1 ⟨rfl,qe⟩;have E1:=Hx (kQa (BA.o.1.K qe) (BA.o.2.tr qe));clear qe BA i0 i1 i2;obtain⟨⟨i0,i1,i2⟩,_⟩:=E1.o.1.t3;cases hv:aH t;{have HR:=Hx (show dT t l=false by unfold dT;rw[hv];rfl);go_wp2_with fail;go_ret;rw[HR.o];exact⟨rfl,E1.o.2⟩};by_cases hl:0<l.length;{have HR:=Hx (show dT t l=dO t.nodes l by unfold dT;rw[hv,yO hl];rfl);have qg:decide ((0:Int)<(l.length:Int))=true:=yO qO;go_wp2_with fail;refine(jzpi t.nodes A c l _ (HT.o.2.K E1.o.2)).mono ?_;rintro e w2 ⟨rfl,qf⟩;have E2:=Hx (E1.o.2.tr qf);clear qf;go_wp2_with fail;go_ret;rw[HR.o];exact⟨rfl,E2.o⟩};have HR:=Hx (show dT t l=false by unfold dT;rw[yP hl];simp);have qg:decide ((0:Int)<(l.length:Int))=false:=yP qO;go_wp2_with fail;go_ret;rw[HR.o];exact⟨rfl,E1.o.2⟩
def cv:LN->LN->Nat->Nat
 | [],_,_=>0
 |x::xs,ys,k=>x*ys[k]?.getD 0+(match k with
  |0=>0
  |k+1=>cv xs ys k)
def vs(f:Nat->Nat):Nat->Nat
 |0=>0
 |n+1=>f 0+G6*vs (fun k=>f (k+1)) n
theorem FW.arcs{t}{down:List Bool}{d:Nat}:∀(p:LN) {u v:Nat},FW t down d u p v->∀a∈p,a<2*t.links.length
 | [],_,_,_,a,h=>by simp at h
 |b::p,u,v,hw,a,h=>by
  rcases xZ.1 h with rfl|h
  ·have:=hw.1
   unfold aL cE at this;rw[List.mem_filter,vX]at this;exact this.1
  ·exact FW.arcs p hw.2.2 a h
theorem jzpk{t}{down:List Bool}{s d:Nat}(hv:aH t=true){p:LN}(h:p∈kV t down s d):(∀a∈p,a<2*t.links.length)/\p.length<t.nodes.toNat:=by
 refine⟨FW.arcs p (jzcu hv _ [] s _ p rfl h),?_⟩;have:=jzcl t down d t.nodes.toNat [] s _ p h;simpa using this
end Go.Proofs.YtfeeacaofjpkaaaGreatDoor
