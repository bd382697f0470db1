/- Walks, part 24. -/
import Derived.Test.YtfeeacaofjpkaaaGreatDoorK23
set_option linter.unusedVariables false
set_option linter.unusedSimpArgs false
set_option maxRecDepth 100000
set_option maxHeartbeats 8000000
namespace Go.Proofs.YtfeeacaofjpkaaaGreatDoor
open Go.Proofs.Tryz
open Go.RowKit
open Sx
theorem jzpk{t}{l:List Dm}(hs:eK t l=true):t.links.length<=10/\t.over.length<=20/\l.length<=4/\(aI t=true->t.nodes<=7):=by
 unfold eK at hs;simp only[vM,xW,decide_eq_true_eq,Bool.or_eq_true,Bool.not_eq_true']at hs;exact⟨hs.1.1.1.2,hs.1.1.2,hs.1.2,fun hv=>hs.2.resolve_left (by rw[hv];decide)⟩
theorem jzpl:(prog.info? 35).map (fun i=>(i.zero,i.size,i.bytes))=some (some zN,1,24):=by kernel_rfl
theorem jzpm(m:Nat):fC (fun _=>zN) m=madeCells #[zN] m:=by
 apply Array.toList_inj.1;rw[toList_madeCells_one];unfold fC;simp only[List.map_const',kZm]
def Pg0(w7 wx:World)(m bq g1 ga:Nat)(nq:Bool)(F1:OA)(u1 d1:Nat)(F2:OA)(u2 d2:Nat):Prop:=
 Blk wx bq 56 #[.s (sA g1) 1 1,.s (sA ga) m m,zN]/\Blk wx g1 33 #[.bool nq,.s F1 u1 d1,.s F2 u2 d2]/\aC wx nq F1 u1 d1 F2 u2 d2 1/\Blk wx ga 35 (madeCells #[zN] m)/\Ext w7 wx/\w7.heap.size<=bq/\w7.heap.size<=g1/\w7.heap.size<=ga
theorem Pg0.leaf{w7 Y}{m bq g1 ga:Nat}{nq:Bool}{F1}{u1 d1:Nat}{F2}{u2 d2:Nat}(hb:Blk Y bq 56 #[zN,zN,zN])(hg:Blk Y g1 33 #[.bool nq,.s F1 u1 d1,.s F2 u2 d2])(hr:aC Y nq F1 u1 d1 F2 u2 d2 ((1:Int):Rat))(ha:Blk Y ga 35 (madeCells #[zN] m))(hx:Ext w7 Y)(h1:w7.heap.size<=bq)(h2:w7.heap.size<=g1)(h3:w7.heap.size<=ga):
  Pg0 w7 (((Y.setCell (aD bq 0) (.s (sA g1) 1 1)).setCell (aD bq 1) (.s (sA ga) m m)).setCell (aD bq 2) zN) m bq g1 ga nq F1 u1 d1 F2 u2 d2:=by
 have k:=eG (S:=fun x=>x=bq) (dX Y bq 0 (.s (sA g1) 1 1) (.s (sA ga) m m) zN) fun y e=>(Option.some.inj e).symm;exact⟨((hb.sT 0 _).sT 1 _).sT 2 _,k.blk hg fun e=>absurd (aZ (e▸hg) hb).2 qD,k.ratR (NoT.one hb qD) hr,k.blk ha fun e=>absurd (aZ (e▸ha) hb).2 qD,k.ext hx fun b e=>by rw[e];exact h1,h1,h2,h3⟩
theorem aX.put{w}{g:Nat}{q:Rat}(h:RB w g q)(u0 u1 u2:Value):aX w (((w.setCell (aD g 0) u0).setCell (aD g 1) u1).setCell (aD g 2) u2):=by
 obtain⟨cs,hb⟩:=QB.blk h;exact aX.of_fr (S:=fun x=>x=g) (eG (dX w g 0 u0 u1 u2) fun y e=>(Option.some.inj e).symm) (NoT.one hb qD) (NoT.one hb qD)
theorem jzf0{P:Nat}:∀{Z:List ((Nat×LN)×Rat)},(∀z∈Z,SzQ z.2 P)->∀p,SzQ (plP Z p) (P+1)
 | [],_,_=>SzQ.zero.mono qO
 |z::Z,h,p=>by
  unfold plP
  split
  ·exact(h z List.mem_cons_self).mono qO
  ·exact jzf0 (fun y hy=>h y (xO _ hy)) p
theorem lG:SzQ 1 1/\SzQ 0 1/\SzQ (-1) 1:=⟨by unfold SzQ;decide+kernel,by unfold SzQ;decide+kernel,by unfold SzQ;decide+kernel⟩
theorem jzpn(J:List (Nat×LN)):∀q∈((1:Rat)::J.map fun _=>(0:Rat)),SzQ q 1:=by
 intro q hq;rcases xZ.1 hq with rfl|hq
 ·exact lG.1
 obtain⟨_,_,rfl⟩:=kQl.1 hq;exact lG.2.1
theorem jzpo{t}{l:List Dm}(hf:Fit t l)(J:List (Nat×LN))(i:Nat):∀q∈aJ l J i,SzQ q 1:=by
 intro q hq;unfold aJ at hq;split at hq;{rename_i hil;(rcases xZ.1 hq with rfl|hq);{exact sF hf hil};obtain⟨p,_,rfl⟩:=kQl.1 hq;unfold cD;split;{exact lG.2.2};exact lG.2.1};(rcases xZ.1 hq with rfl|hq);{exact lG.2.1};obtain⟨p,_,rfl⟩:=kQl.1 hq;unfold cA;split;{exact lG.1};exact lG.2.1
theorem jzpp{t}{l:List Dm}(hf:Fit t l):∀q∈bJ t l,SzQ q 1:=by
 (intro q hq;unfold bJ at hq;rcases xY.1 hq with hq|hq);{rw[(List.mem_replicate.1 hq).2];exact lG.2.1};obtain⟨a,ha,rfl⟩:=kQl.1 hq;exact mX hf.v (vX.1 ha)
theorem sR(l:List Dm)(J:List (Nat×LN))(p:Nat×LN)(i:Nat):aJ l (J++[p]) i=aJ l J i++[if i<l.length then cD i p else cA (i-l.length) p]:=by
 unfold aJ;by_cases h:i<l.length;{rw[qE h,qE h,qE h,List.map_append];rfl};rw[qF h,qF h,qF h,List.map_append];rfl
theorem jzx(l:List Dm)(J:List (Nat×LN))(i:Nat):(aJ l J i).length=J.length+1:=by
 unfold aJ;split <;> simp
def vS(m:Nat)(a b c d:Value):Nat->Value:=fun i=>if i<m then zN else if i=m then a else if i=m+1 then b else if i=m+2 then c else d
theorem PgI.start{w7 W8 W9}{m bq g1 ga gx br:Nat}{nq:Bool}{F1}{u1 d1:Nat}{F2}{u2 d2:Nat}{neg:Bool}{A1}{n1 c1:Nat}{A2}{n2 c2:Nat}{v:Rat}{R':Nat->LQ}(h:Pg0 w7 W8 m bq g1 ga nq F1 u1 d1 F2 u2 d2)(hx:Ext W8 W9)(hv:aC W9 neg A1 n1 c1 A2 n2 c2 v)(hgx:Blk W9 gx 33 #[.bool neg,.s A1 n1 c1,.s A2 n2 c2])(hg:W8.heap.size<=gx)
  (hbr:Blk W9 br 58 #[vI 1,.s (sA gx) 1 1,zN,zN,.bool neg,.s A1 n1 c1,.s A2 n2 c2]) (hr:W8.heap.size<=br):
  PgI w7 W9 bq br ga m neg A1 n1 c1 A2 n2 c2 (vS m (.s (sA g1) 1 1) zN (.s (sA gx) 1 1) zN) (qSt m 0 (fun _=>[]) R' [1] [] [v] []):=by
 obtain⟨hq,h1,h2,h3,h4,h5,h6,h7⟩:=h;have e0:vS m (.s (sA g1) 1 1) zN (.s (sA gx) 1 1) zN m=.s (sA g1) 1 1:=(by unfold vS;rw[qF (kZr _),qE rfl]);have e1:vS m (.s (sA g1) 1 1) zN (.s (sA gx) 1 1) zN (m+1)=zN:=(by unfold vS;rw[qF qO,qF qO,qE rfl]);have e2:vS m (.s (sA g1) 1 1) zN (.s (sA gx) 1 1) zN (m+2)=.s (sA gx) 1 1:=(by unfold vS;rw[qF qO,qF qO,qF qO,qE rfl]);have e3:∀i,i≠m->i≠m+2->vS m (.s (sA g1) 1 1) zN (.s (sA gx) 1 1) zN i=zN:=fun i k1 k2=>(by unfold vS;simp[k1,k2]);have hs:=hx.size;have qa:=h1.lt;refine⟨h4.tr hx,h5,by have:=h4.size;omega,h7,by rw[e0,e1];exact hq.K hx,by rw[e2];exact hbr,?_,fun i hi=>?_,fun i j hi hj hij=>?_⟩;{have e:fC (vS m (.s (sA g1) 1 1) zN (.s (sA gx) 1 1) zN) m=fC (fun _=>zN) m:=(by unfold fC;congr 1;exact List.map_congr_left fun i hi=>e3 i (by have:=vX.1 hi;omega) (by have:=vX.1 hi;omega));rw[e,jzpm];exact h3.K hx};{by_cases k0:i=m;{subst k0;rw[e0,lX];exact OwL.one (R:=QR) (us:=[.bool nq,.s F1 u1 d1,.s F2 u2 d2]) (h1.K hx) h6 rfl ⟨nq,F1,u1,d1,F2,u2,d2,rfl,h2.K hx⟩};by_cases k2:i=m+2;{subst k2;rw[e2,oY];exact OwL.one (R:=QR) (us:=[.bool neg,.s A1 n1 c1,.s A2 n2 c2]) hgx (by have:=h4.size;omega) rfl ⟨neg,A1,n1,c1,A2,n2,c2,rfl,hv⟩};rw[e3 i k0 k2];have e:qSt m 0 (fun _=>[]) R' [1] [] [v] [] i=[]:=(by unfold qSt;by_cases k3:i<m;{rw[qE k3,qF (Nat.not_lt_zero _)]};rw[qF k3,qF k0,qF k2];split;{rfl};split <;> rfl);rw[e];exact OQ.nil};by_cases k0:i=m;{subst k0;refine .inr ?_;rw[e0];by_cases k2:j=i+2;{subst k2;(rw[e2];show some g1≠some gx;intro e;injection e with e);omega};rw[e3 j (fun e=>hij e.symm) k2];show some g1≠none;exact fun e=>by cases e};by_cases k2:i=m+2;{subst k2;refine .inr ?_;rw[e2];by_cases k3:j=m;{subst k3;(rw[e0];show some gx≠some g1;intro e;injection e with e);omega};rw[e3 j k3 (fun e=>hij e.symm)];show some gx≠none;exact fun e=>by cases e};exact .inl (by rw[e3 i k0 k2];rfl)
theorem jzpq t AO(co:Nat)AL(cl:Nat)(l:List Dm)AD(cd:Nat)w(h:kQ w t AO co AL cl l AD cd)(zi:Tab w):
   Calls prog 4 #[.agg #[vI t.nodes,.s AO t.over.length co,.s AL t.links.length cl],.s AD l.length cd] w fun e w'=>e=.returned (.bool true)/\Ext w w':=by
 have zQ:=h.ld;have zP:=h.lm;have HA:=Hx (kQa h zi);obtain⟨zb,e0⟩:=bA w #[vI t.nodes,.s AO t.over.length co,.s AL t.links.length cl] 25;have E0:=Hx (kQa zb e0);clear h zi zb e0
 go_enter func4,ntmps4
 go_wp2_with fail
 refine(jzpd _ (HA.o.2.K E0.o.2)).mono ?_;rintro e w1 ⟨rfl,x1⟩;have E1:=Hx (kQa (E0.o.1.K x1) (E0.o.2.tr x1));clear x1 E0;obtain⟨⟨i0,i1,i2⟩,_⟩:=E1.o.1.t3
 go_wp2_with fail
 refine(jzpg t AO co AL cl l AD cd _ (HA.o.1.K E1.o.2)).mono ?_;rintro e w2 ⟨rfl,x2⟩;have E2:=Hx (kQa (E1.o.1.K x2) (E1.o.2.tr x2));clear x2 E1 i0 i1 i2;cases hs:eK t l
 case false=>
  go_wp2;go_ret;exact⟨rfl,E2.o.2⟩
 obtain⟨qY,g2,g3,g5⟩:=jzpk hs;have G5:=Hx g5;clear g5 hs;obtain⟨⟨i0,i1,i2⟩,_⟩:=E2.o.1.t3
 go_wp2_with fail
 refine(jzpi t AO co AL cl l AD cd _ ((HA.o.1.K E2.o.2).top qY g2) ((HA.o.1.K E2.o.2).dem g3)).mono ?_;rintro e w3 ⟨rfl,x3⟩;have E3:=Hx (kQa (E2.o.1.K x3) (E2.o.2.tr x3));clear x3 E2 i0 i1 i2;cases hf:dW t l
 case false=>
  go_wp2;go_ret;exact⟨rfl,E3.o.2⟩
 have HF:=Hx ((rS (show l.length<=64 by omega)).1 hf);have hN:t.nodes<=7:=G5.o HF.o.v;clear hf;obtain⟨⟨i0,i1,i2⟩,_⟩:=E3.o.1.t3
 go_wp2_with fail
 refine(jzeo t AO co AL cl l AD cd _ ((HA.o.1.top qY g2).K E3.o.2) ((HA.o.1.dem g3).K E3.o.2) qY g3 (fun _=>hN) (HA.o.2.K E3.o.2)).mono ?_;intro e w5 hp;clear i0 i1 i2;rcases hp.cases HF.o g3 with⟨hnc,rfl,x5⟩|⟨neg,A1,n1,c1,A2,n2,c2,AP,cp,gp,v,Z,pr,rfl,S5,x5⟩
 ·have X5:=Hx (E3.o.2.tr x5)
  clear hp hnc x5;go_wp2;go_ret;exact⟨rfl,X5.o.alloc _⟩
 obtain⟨np,vw⟩:∃np,Z.length=np:=⟨_,rfl⟩;obtain⟨L2,vH⟩:∃L2,2*t.links.length=L2:=⟨_,rfl⟩;rw[vw,vH];have B6:=Hx (eN w5 37 #[.bool neg,.s A1 n1 c1,.s A2 n2 c2,.s AP np cp,.s (sA gp) L2 L2]);have X6:=Hx (E3.o.2.tr (x5.alloc (.cells #[.bool neg,.s A1 n1 c1,.s A2 n2 c2,.s AP np cp,.s (sA gp) L2 L2] 37)));have S6:=Hx (S5.K ((eR w5).alloc (.cells #[.bool neg,.s A1 n1 c1,.s A2 n2 c2,.s AP np cp,.s (sA gp) L2 L2] 37)));have T6:=Hx ((E3.o.1.K x5).K ((eR w5).alloc (.cells #[.bool neg,.s A1 n1 c1,.s A2 n2 c2,.s AP np cp,.s (sA gp) L2 L2] 37)));have qJ:=Hx (kQa vw vH);have zI:np<=24:=(by rw[<-vw];exact S5.len);have v3:L2<=20:=qO;clear hp x5 S5 vw vH E3
 go_upto_region 8 with fail
 generalize w5.alloc (.cells #[.bool neg,.s A1 n1 c1,.s A2 n2 c2,.s AP np cp,.s (sA gp) L2 L2] 37)=W6 at*;generalize hb6:w5.heap.size=b6 at*;obtain⟨⟨i0,i1,i2⟩,_⟩:=T6.o.t3
 go_wp2_with fail
 refine(nI t AO co AL cl _ ((HA.o.1.top qY g2).K X6.o) HF.o.v).mono ?_;rintro e w7 ⟨rfl,x7⟩;rw[show(2*(t.links.length:Int))=(L2:Int) by have:=qJ.o.2;omega];have X7:=Hx (X6.o.tr x7);have B7:=Hx (B6.o.K x7);have T7:=Hx (T6.o.K x7);have S7:=Hx (S6.o.K x7);have y4:=B7.o.cell 4;clear x7 i0 i1 i2 X6 B6 T6 S6
 go_upto_region 11 with fail
 clear y4;have zR:0<l.length:=HF.o.n;obtain⟨m,hm⟩:∃m,m=l.length+L2:=⟨_,rfl⟩;have HM:=Hx hm;have zK:m<=24:=qO;have XD:Hid (Ext w7 w7.drew):=Hx ((eR w7).drewN 1);have qz:IntKind.i64.wrap ((l.length:Int)+(L2:Int))=(m:Int):=(by rw[IntKind.wrap_i64];omega);have zv:=run_make_row' (P:=prog) 54 35 zN 24 underlying54 jzpl rfl .i64 .i64 m qO qO;clear hm
 go_cut [8] (fun s wx=>∃(bq g1 ga:Nat) (nq:Bool) (F1:OA) (u1 d1:Nat) (F2:OA) (u2 d2:Nat),s=.pointer (sA bq)/\Hid (Pg0 w7 wx m bq g1 ga nq F1 u1 d1 F2 u2 d2))
 case first=>
  as_aux_lemma=>
   have HSW:=Hx trivial;refine wp_region_last (fun _=>True) 9 qK ?_;refine wP 2 rfl HSW.o ?_;try simp only[qP]
   refine wP 3 rfl HSW.o ?_;try simp only[qP]
   refine wP 4 rfl HSW.o ?_;try simp only[qP]
   refine wP 5 rfl HSW.o ?_;try simp only[qP]
   generalize hY0:w7.drew=Y0 at*;have EX:=XD;clear hY0 XD;refine jzfl (i:=0) (j:=6) (l:=8) qD qD qD qK rfl rfl rfl qR qR qR (fun KK hK=>?_) (fun KK hK=>?_) (fun KK hK=>?_)
   ·skip
    go_simp;refine(dS 1 _ ⟨qO,qO⟩).mono ?_;rintro e Y1 ⟨nq,F1,u1,d1,F2,u2,d2,rfl,hR,x8⟩;have EX:=Hx (EX.o.tr x8);have R0:=Hx hR;refine hK.o _ _ trivial ?_;clear hK KK x8 hR;try simp only[qP]
    refine jzfl (i:=1) (j:=6) (l:=8) qD qD qD qK rfl rfl rfl qR qR qR (fun KK hK=>?_) (fun KK hK=>?_) (fun KK hK=>?_)
    ·skip
     go_simp;have XN:Hid (Ext Y1 (Y1.alloc (.cells #[.bool nq,.s F1 u1 d1,.s F2 u2 d2] 33))):=Hx ((eR Y1).alloc _);have qk:w7.heap.size<=Y1.heap.size:=EX.o.size;have EX:=Hx (EX.o.tr XN.o);have R0:=Hx (R0.o.K XN.o);have GR:=Hx (eN Y1 33 #[.bool nq,.s F1 u1 d1,.s F2 u2 d2]);refine hK.o _ _ trivial ?_;clear hK KK XN;generalize Y1.alloc (.cells #[.bool nq,.s F1 u1 d1,.s F2 u2 d2] 33)=Y2 at*;generalize Y1.heap.size=gr at*;try simp only[qP]
     refine lY (i:=6) (j:=8) qD qD qK rfl rfl qR qR (fun KK hK=>?_) (fun KK hK=>?_)
     ·skip
      go_simp;have XN:Hid (Ext Y2 (Y2.alloc (.cells (madeCells #[zN] m) 35))):=Hx ((eR Y2).alloc _);have qn:w7.heap.size<=Y2.heap.size:=EX.o.size;have EX:=Hx (EX.o.tr XN.o);have R0:=Hx (R0.o.K XN.o);have GR:=Hx (GR.o.K XN.o);have GA:=Hx (eN Y2 35 (madeCells #[zN] m));refine hK.o _ _ trivial ?_;clear hK KK XN;generalize Y2.alloc (.cells (madeCells #[zN] m) 35)=Y3 at*;generalize Y2.heap.size=ga at*;try simp only[qP]
      refine wP 7 rfl HSW.o ?_;try simp only[qP]
      refine wC 8 rfl (fun KK hK=>?_);go_simp;have XN:Hid (Ext Y3 (Y3.alloc (.cells #[zN,zN,zN] 56))):=Hx ((eR Y3).alloc _);have qj:w7.heap.size<=Y3.heap.size:=EX.o.size;have EX:=Hx (EX.o.tr XN.o);have R0:=Hx (R0.o.K XN.o);have GR:=Hx (GR.o.K XN.o);have GA:=Hx (GA.o.K XN.o);have BQ:=Hx (eN Y3 56 #[zN,zN,zN]);refine hK.o _ _ trivial ?_;clear hK KK XN;generalize Y3.alloc (.cells #[zN,zN,zN] 56)=Y4 at*;generalize Y3.heap.size=bq at*;try simp only[qP]
      have z0:=BQ.o.cell 0;have z1:=BQ.o.cell 1;have z2:=BQ.o.cell 2;have f0:=BQ.o.frozen 0;have f1:=BQ.o.frozen 1;have f2:=BQ.o.frozen 2;refine aY qK rfl qR (fun KK hK=>?_);go_simp;have FL:=Hx (Pg0.leaf BQ.o GR.o R0.o GA.o EX.o qj qk qn);refine hK.o _ _ ?_;clear hK KK z0 z1 z2 f0 f1 f2 BQ GR R0 GA EX HSW;generalize (((Y4.setCell (aD bq 0) (.s (sA gr) 1 1)).setCell (aD bq 1) (.s (sA ga) m m)).setCell (aD bq 2) zN)=YF at*;refine wpAny_done qK ?_ _;go_wp2;go_meet;exact⟨bq,gr,ga,nq,F1,u1,d1,F2,u2,d2,rfl,FL⟩
     skip
     go_simp;have XN:Hid (Ext Y2 (Y2.alloc (.cells #[zN,zN,zN] 56))):=Hx ((eR Y2).alloc _);have qj:w7.heap.size<=Y2.heap.size:=EX.o.size;have EX:=Hx (EX.o.tr XN.o);have R0:=Hx (R0.o.K XN.o);have GR:=Hx (GR.o.K XN.o);have BQ:=Hx (eN Y2 56 #[zN,zN,zN]);refine hK.o _ _ trivial ?_;clear hK KK XN;generalize Y2.alloc (.cells #[zN,zN,zN] 56)=Y5 at*;generalize Y2.heap.size=bq at*;try simp only[qP]
     refine wC 6 rfl (fun KK hK=>?_);go_simp;have XN:Hid (Ext Y5 (Y5.alloc (.cells (madeCells #[zN] m) 35))):=Hx ((eR Y5).alloc _);have qn:w7.heap.size<=Y5.heap.size:=EX.o.size;have EX:=Hx (EX.o.tr XN.o);have R0:=Hx (R0.o.K XN.o);have GR:=Hx (GR.o.K XN.o);have BQ:=Hx (BQ.o.K XN.o);have GA:=Hx (eN Y5 35 (madeCells #[zN] m));refine hK.o _ _ trivial ?_;clear hK KK XN;generalize Y5.alloc (.cells (madeCells #[zN] m) 35)=Y6 at*;generalize Y5.heap.size=ga at*;try simp only[qP]
     refine wP 7 rfl HSW.o ?_;try simp only[qP]
     have z0:=BQ.o.cell 0;have z1:=BQ.o.cell 1;have z2:=BQ.o.cell 2;have f0:=BQ.o.frozen 0;have f1:=BQ.o.frozen 1;have f2:=BQ.o.frozen 2;refine aY qK rfl qR (fun KK hK=>?_);go_simp;have FL:=Hx (Pg0.leaf BQ.o GR.o R0.o GA.o EX.o qj qk qn);refine hK.o _ _ ?_;clear hK KK z0 z1 z2 f0 f1 f2 BQ GR R0 GA EX HSW;generalize (((Y6.setCell (aD bq 0) (.s (sA gr) 1 1)).setCell (aD bq 1) (.s (sA ga) m m)).setCell (aD bq 2) zN)=YF at*;refine wpAny_done qK ?_ _;go_wp2;go_meet;exact⟨bq,gr,ga,nq,F1,u1,d1,F2,u2,d2,rfl,FL⟩
    ·skip
     go_simp;have XN:Hid (Ext Y1 (Y1.alloc (.cells (madeCells #[zN] m) 35))):=Hx ((eR Y1).alloc _);have qn:w7.heap.size<=Y1.heap.size:=EX.o.size;have EX:=Hx (EX.o.tr XN.o);have R0:=Hx (R0.o.K XN.o);have GA:=Hx (eN Y1 35 (madeCells #[zN] m));refine hK.o _ _ trivial ?_;clear hK KK XN;generalize Y1.alloc (.cells (madeCells #[zN] m) 35)=Y7 at*;generalize Y1.heap.size=ga at*;try simp only[qP]
     refine lY (i:=1) (j:=8) qD qD qK rfl rfl qR qR (fun KK hK=>?_) (fun KK hK=>?_)
     ·skip
      go_simp;have XN:Hid (Ext Y7 (Y7.alloc (.cells #[.bool nq,.s F1 u1 d1,.s F2 u2 d2] 33))):=Hx ((eR Y7).alloc _);have qk:w7.heap.size<=Y7.heap.size:=EX.o.size;have EX:=Hx (EX.o.tr XN.o);have R0:=Hx (R0.o.K XN.o);have GA:=Hx (GA.o.K XN.o);have GR:=Hx (eN Y7 33 #[.bool nq,.s F1 u1 d1,.s F2 u2 d2]);refine hK.o _ _ trivial ?_;clear hK KK XN;generalize Y7.alloc (.cells #[.bool nq,.s F1 u1 d1,.s F2 u2 d2] 33)=Y8 at*;generalize Y7.heap.size=gr at*;try simp only[qP]
      refine wP 7 rfl HSW.o ?_;try simp only[qP]
      refine wC 8 rfl (fun KK hK=>?_);go_simp;have XN:Hid (Ext Y8 (Y8.alloc (.cells #[zN,zN,zN] 56))):=Hx ((eR Y8).alloc _);have qj:w7.heap.size<=Y8.heap.size:=EX.o.size;have EX:=Hx (EX.o.tr XN.o);have R0:=Hx (R0.o.K XN.o);have GR:=Hx (GR.o.K XN.o);have GA:=Hx (GA.o.K XN.o);have BQ:=Hx (eN Y8 56 #[zN,zN,zN]);refine hK.o _ _ trivial ?_;clear hK KK XN;generalize Y8.alloc (.cells #[zN,zN,zN] 56)=Y9 at*;generalize Y8.heap.size=bq at*;try simp only[qP]
      have z0:=BQ.o.cell 0;have z1:=BQ.o.cell 1;have z2:=BQ.o.cell 2;have f0:=BQ.o.frozen 0;have f1:=BQ.o.frozen 1;have f2:=BQ.o.frozen 2;refine aY qK rfl qR (fun KK hK=>?_);go_simp;have FL:=Hx (Pg0.leaf BQ.o GR.o R0.o GA.o EX.o qj qk qn);refine hK.o _ _ ?_;clear hK KK z0 z1 z2 f0 f1 f2 BQ GR R0 GA EX HSW;generalize (((Y9.setCell (aD bq 0) (.s (sA gr) 1 1)).setCell (aD bq 1) (.s (sA ga) m m)).setCell (aD bq 2) zN)=YF at*;refine wpAny_done qK ?_ _;go_wp2;go_meet;exact⟨bq,gr,ga,nq,F1,u1,d1,F2,u2,d2,rfl,FL⟩
     skip
     go_simp;have XN:Hid (Ext Y7 (Y7.alloc (.cells #[zN,zN,zN] 56))):=Hx ((eR Y7).alloc _);have qj:w7.heap.size<=Y7.heap.size:=EX.o.size;have EX:=Hx (EX.o.tr XN.o);have R0:=Hx (R0.o.K XN.o);have GA:=Hx (GA.o.K XN.o);have BQ:=Hx (eN Y7 56 #[zN,zN,zN]);refine hK.o _ _ trivial ?_;clear hK KK XN;generalize Y7.alloc (.cells #[zN,zN,zN] 56)=Y10 at*;generalize Y7.heap.size=bq at*;try simp only[qP]
     refine wC 1 rfl (fun KK hK=>?_);go_simp;have XN:Hid (Ext Y10 (Y10.alloc (.cells #[.bool nq,.s F1 u1 d1,.s F2 u2 d2] 33))):=Hx ((eR Y10).alloc _);have qk:w7.heap.size<=Y10.heap.size:=EX.o.size;have EX:=Hx (EX.o.tr XN.o);have R0:=Hx (R0.o.K XN.o);have GA:=Hx (GA.o.K XN.o);have BQ:=Hx (BQ.o.K XN.o);have GR:=Hx (eN Y10 33 #[.bool nq,.s F1 u1 d1,.s F2 u2 d2]);refine hK.o _ _ trivial ?_;clear hK KK XN;generalize Y10.alloc (.cells #[.bool nq,.s F1 u1 d1,.s F2 u2 d2] 33)=Y11 at*;generalize Y10.heap.size=gr at*;try simp only[qP]
     refine wP 7 rfl HSW.o ?_;try simp only[qP]
     have z0:=BQ.o.cell 0;have z1:=BQ.o.cell 1;have z2:=BQ.o.cell 2;have f0:=BQ.o.frozen 0;have f1:=BQ.o.frozen 1;have f2:=BQ.o.frozen 2;refine aY qK rfl qR (fun KK hK=>?_);go_simp;have FL:=Hx (Pg0.leaf BQ.o GR.o R0.o GA.o EX.o qj qk qn);refine hK.o _ _ ?_;clear hK KK z0 z1 z2 f0 f1 f2 BQ GR R0 GA EX HSW;generalize (((Y11.setCell (aD bq 0) (.s (sA gr) 1 1)).setCell (aD bq 1) (.s (sA ga) m m)).setCell (aD bq 2) zN)=YF at*;refine wpAny_done qK ?_ _;go_wp2;go_meet;exact⟨bq,gr,ga,nq,F1,u1,d1,F2,u2,d2,rfl,FL⟩
    skip
    go_simp;have XN:Hid (Ext Y1 (Y1.alloc (.cells #[zN,zN,zN] 56))):=Hx ((eR Y1).alloc _);have qj:w7.heap.size<=Y1.heap.size:=EX.o.size;have EX:=Hx (EX.o.tr XN.o);have R0:=Hx (R0.o.K XN.o);have BQ:=Hx (eN Y1 56 #[zN,zN,zN]);refine hK.o _ _ trivial ?_;clear hK KK XN;generalize Y1.alloc (.cells #[zN,zN,zN] 56)=Y12 at*;generalize Y1.heap.size=bq at*;try simp only[qP]
    refine lY (i:=1) (j:=6) qD qD qK rfl rfl qR qR (fun KK hK=>?_) (fun KK hK=>?_)
    ·skip
     go_simp;have XN:Hid (Ext Y12 (Y12.alloc (.cells #[.bool nq,.s F1 u1 d1,.s F2 u2 d2] 33))):=Hx ((eR Y12).alloc _);have qk:w7.heap.size<=Y12.heap.size:=EX.o.size;have EX:=Hx (EX.o.tr XN.o);have R0:=Hx (R0.o.K XN.o);have BQ:=Hx (BQ.o.K XN.o);have GR:=Hx (eN Y12 33 #[.bool nq,.s F1 u1 d1,.s F2 u2 d2]);refine hK.o _ _ trivial ?_;clear hK KK XN;generalize Y12.alloc (.cells #[.bool nq,.s F1 u1 d1,.s F2 u2 d2] 33)=Y13 at*;generalize Y12.heap.size=gr at*;try simp only[qP]
     refine wC 6 rfl (fun KK hK=>?_);go_simp;have XN:Hid (Ext Y13 (Y13.alloc (.cells (madeCells #[zN] m) 35))):=Hx ((eR Y13).alloc _);have qn:w7.heap.size<=Y13.heap.size:=EX.o.size;have EX:=Hx (EX.o.tr XN.o);have R0:=Hx (R0.o.K XN.o);have GR:=Hx (GR.o.K XN.o);have BQ:=Hx (BQ.o.K XN.o);have GA:=Hx (eN Y13 35 (madeCells #[zN] m));refine hK.o _ _ trivial ?_;clear hK KK XN;generalize Y13.alloc (.cells (madeCells #[zN] m) 35)=Y14 at*;generalize Y13.heap.size=ga at*;try simp only[qP]
     refine wP 7 rfl HSW.o ?_;try simp only[qP]
     have z0:=BQ.o.cell 0;have z1:=BQ.o.cell 1;have z2:=BQ.o.cell 2;have f0:=BQ.o.frozen 0;have f1:=BQ.o.frozen 1;have f2:=BQ.o.frozen 2;refine aY qK rfl qR (fun KK hK=>?_);go_simp;have FL:=Hx (Pg0.leaf BQ.o GR.o R0.o GA.o EX.o qj qk qn);refine hK.o _ _ ?_;clear hK KK z0 z1 z2 f0 f1 f2 BQ GR R0 GA EX HSW;generalize (((Y14.setCell (aD bq 0) (.s (sA gr) 1 1)).setCell (aD bq 1) (.s (sA ga) m m)).setCell (aD bq 2) zN)=YF at*;refine wpAny_done qK ?_ _;go_wp2;go_meet;exact⟨bq,gr,ga,nq,F1,u1,d1,F2,u2,d2,rfl,FL⟩
    skip
    go_simp;have XN:Hid (Ext Y12 (Y12.alloc (.cells (madeCells #[zN] m) 35))):=Hx ((eR Y12).alloc _);have qn:w7.heap.size<=Y12.heap.size:=EX.o.size;have EX:=Hx (EX.o.tr XN.o);have R0:=Hx (R0.o.K XN.o);have BQ:=Hx (BQ.o.K XN.o);have GA:=Hx (eN Y12 35 (madeCells #[zN] m));refine hK.o _ _ trivial ?_;clear hK KK XN;generalize Y12.alloc (.cells (madeCells #[zN] m) 35)=Y15 at*;generalize Y12.heap.size=ga at*;try simp only[qP]
    refine wC 1 rfl (fun KK hK=>?_);go_simp;have XN:Hid (Ext Y15 (Y15.alloc (.cells #[.bool nq,.s F1 u1 d1,.s F2 u2 d2] 33))):=Hx ((eR Y15).alloc _);have qk:w7.heap.size<=Y15.heap.size:=EX.o.size;have EX:=Hx (EX.o.tr XN.o);have R0:=Hx (R0.o.K XN.o);have GA:=Hx (GA.o.K XN.o);have BQ:=Hx (BQ.o.K XN.o);have GR:=Hx (eN Y15 33 #[.bool nq,.s F1 u1 d1,.s F2 u2 d2]);refine hK.o _ _ trivial ?_;clear hK KK XN;generalize Y15.alloc (.cells #[.bool nq,.s F1 u1 d1,.s F2 u2 d2] 33)=Y16 at*;generalize Y15.heap.size=gr at*;try simp only[qP]
    refine wP 7 rfl HSW.o ?_;try simp only[qP]
    have z0:=BQ.o.cell 0;have z1:=BQ.o.cell 1;have z2:=BQ.o.cell 2;have f0:=BQ.o.frozen 0;have f1:=BQ.o.frozen 1;have f2:=BQ.o.frozen 2;refine aY qK rfl qR (fun KK hK=>?_);go_simp;have FL:=Hx (Pg0.leaf BQ.o GR.o R0.o GA.o EX.o qj qk qn);refine hK.o _ _ ?_;clear hK KK z0 z1 z2 f0 f1 f2 BQ GR R0 GA EX HSW;generalize (((Y16.setCell (aD bq 0) (.s (sA gr) 1 1)).setCell (aD bq 1) (.s (sA ga) m m)).setCell (aD bq 2) zN)=YF at*;refine wpAny_done qK ?_ _;go_wp2;go_meet;exact⟨bq,gr,ga,nq,F1,u1,d1,F2,u2,d2,rfl,FL⟩
   ·skip
    go_simp;have XN:Hid (Ext Y0 (Y0.alloc (.cells (madeCells #[zN] m) 35))):=Hx ((eR Y0).alloc _);have qn:w7.heap.size<=Y0.heap.size:=EX.o.size;have EX:=Hx (EX.o.tr XN.o);have GA:=Hx (eN Y0 35 (madeCells #[zN] m));refine hK.o _ _ trivial ?_;clear hK KK XN;generalize Y0.alloc (.cells (madeCells #[zN] m) 35)=Y17 at*;generalize Y0.heap.size=ga at*;try simp only[qP]
    refine lY (i:=0) (j:=8) qD qD qK rfl rfl qR qR (fun KK hK=>?_) (fun KK hK=>?_)
    ·skip
     go_simp;refine(dS 1 _ ⟨qO,qO⟩).mono ?_;rintro e qw ⟨nq,F1,u1,d1,F2,u2,d2,rfl,hR,x8⟩;have EX:=Hx (EX.o.tr x8);have GA:=Hx (GA.o.K x8);have R0:=Hx hR;refine hK.o _ _ trivial ?_;clear hK KK x8 hR;try simp only[qP]
     refine lY (i:=1) (j:=8) qD qD qK rfl rfl qR qR (fun KK hK=>?_) (fun KK hK=>?_)
     ·skip
      go_simp;have XN:Hid (Ext qw (qw.alloc (.cells #[.bool nq,.s F1 u1 d1,.s F2 u2 d2] 33))):=Hx ((eR qw).alloc _);have qk:w7.heap.size<=qw.heap.size:=EX.o.size;have EX:=Hx (EX.o.tr XN.o);have R0:=Hx (R0.o.K XN.o);have GA:=Hx (GA.o.K XN.o);have GR:=Hx (eN qw 33 #[.bool nq,.s F1 u1 d1,.s F2 u2 d2]);refine hK.o _ _ trivial ?_;clear hK KK XN;generalize qw.alloc (.cells #[.bool nq,.s F1 u1 d1,.s F2 u2 d2] 33)=Y19 at*;generalize qw.heap.size=gr at*;try simp only[qP]
      refine wP 7 rfl HSW.o ?_;try simp only[qP]
      refine wC 8 rfl (fun KK hK=>?_);go_simp;have XN:Hid (Ext Y19 (Y19.alloc (.cells #[zN,zN,zN] 56))):=Hx ((eR Y19).alloc _);have qj:w7.heap.size<=Y19.heap.size:=EX.o.size;have EX:=Hx (EX.o.tr XN.o);have R0:=Hx (R0.o.K XN.o);have GR:=Hx (GR.o.K XN.o);have GA:=Hx (GA.o.K XN.o);have BQ:=Hx (eN Y19 56 #[zN,zN,zN]);refine hK.o _ _ trivial ?_;clear hK KK XN;generalize Y19.alloc (.cells #[zN,zN,zN] 56)=Y20 at*;generalize Y19.heap.size=bq at*;try simp only[qP]
      have z0:=BQ.o.cell 0;have z1:=BQ.o.cell 1;have z2:=BQ.o.cell 2;have f0:=BQ.o.frozen 0;have f1:=BQ.o.frozen 1;have f2:=BQ.o.frozen 2;refine aY qK rfl qR (fun KK hK=>?_);go_simp;have FL:=Hx (Pg0.leaf BQ.o GR.o R0.o GA.o EX.o qj qk qn);refine hK.o _ _ ?_;clear hK KK z0 z1 z2 f0 f1 f2 BQ GR R0 GA EX HSW;generalize (((Y20.setCell (aD bq 0) (.s (sA gr) 1 1)).setCell (aD bq 1) (.s (sA ga) m m)).setCell (aD bq 2) zN)=YF at*;refine wpAny_done qK ?_ _;go_wp2;go_meet;exact⟨bq,gr,ga,nq,F1,u1,d1,F2,u2,d2,rfl,FL⟩
     skip
     go_simp;have XN:Hid (Ext qw (qw.alloc (.cells #[zN,zN,zN] 56))):=Hx ((eR qw).alloc _);have qj:w7.heap.size<=qw.heap.size:=EX.o.size;have EX:=Hx (EX.o.tr XN.o);have R0:=Hx (R0.o.K XN.o);have GA:=Hx (GA.o.K XN.o);have BQ:=Hx (eN qw 56 #[zN,zN,zN]);refine hK.o _ _ trivial ?_;clear hK KK XN;generalize qw.alloc (.cells #[zN,zN,zN] 56)=Y21 at*;generalize qw.heap.size=bq at*;try simp only[qP]
     refine wC 1 rfl (fun KK hK=>?_);go_simp;have XN:Hid (Ext Y21 (Y21.alloc (.cells #[.bool nq,.s F1 u1 d1,.s F2 u2 d2] 33))):=Hx ((eR Y21).alloc _);have qk:w7.heap.size<=Y21.heap.size:=EX.o.size;have EX:=Hx (EX.o.tr XN.o);have R0:=Hx (R0.o.K XN.o);have GA:=Hx (GA.o.K XN.o);have BQ:=Hx (BQ.o.K XN.o);have GR:=Hx (eN Y21 33 #[.bool nq,.s F1 u1 d1,.s F2 u2 d2]);refine hK.o _ _ trivial ?_;clear hK KK XN;generalize Y21.alloc (.cells #[.bool nq,.s F1 u1 d1,.s F2 u2 d2] 33)=Y22 at*;generalize Y21.heap.size=gr at*;try simp only[qP]
     refine wP 7 rfl HSW.o ?_;try simp only[qP]
     have z0:=BQ.o.cell 0;have z1:=BQ.o.cell 1;have z2:=BQ.o.cell 2;have f0:=BQ.o.frozen 0;have f1:=BQ.o.frozen 1;have f2:=BQ.o.frozen 2;refine aY qK rfl qR (fun KK hK=>?_);go_simp;have FL:=Hx (Pg0.leaf BQ.o GR.o R0.o GA.o EX.o qj qk qn);refine hK.o _ _ ?_;clear hK KK z0 z1 z2 f0 f1 f2 BQ GR R0 GA EX HSW;generalize (((Y22.setCell (aD bq 0) (.s (sA gr) 1 1)).setCell (aD bq 1) (.s (sA ga) m m)).setCell (aD bq 2) zN)=YF at*;refine wpAny_done qK ?_ _;go_wp2;go_meet;exact⟨bq,gr,ga,nq,F1,u1,d1,F2,u2,d2,rfl,FL⟩
    skip
    go_simp;have XN:Hid (Ext Y17 (Y17.alloc (.cells #[zN,zN,zN] 56))):=Hx ((eR Y17).alloc _);have qj:w7.heap.size<=Y17.heap.size:=EX.o.size;have EX:=Hx (EX.o.tr XN.o);have GA:=Hx (GA.o.K XN.o);have BQ:=Hx (eN Y17 56 #[zN,zN,zN]);refine hK.o _ _ trivial ?_;clear hK KK XN;generalize Y17.alloc (.cells #[zN,zN,zN] 56)=Y23 at*;generalize Y17.heap.size=bq at*;try simp only[qP]
    refine wC 0 rfl (fun KK hK=>?_);go_simp;refine(dS 1 _ ⟨qO,qO⟩).mono ?_;rintro e qU ⟨nq,F1,u1,d1,F2,u2,d2,rfl,hR,x8⟩;have EX:=Hx (EX.o.tr x8);have GA:=Hx (GA.o.K x8);have BQ:=Hx (BQ.o.K x8);have R0:=Hx hR;refine hK.o _ _ trivial ?_;clear hK KK x8 hR;try simp only[qP]
    refine wC 1 rfl (fun KK hK=>?_);go_simp;have XN:Hid (Ext qU (qU.alloc (.cells #[.bool nq,.s F1 u1 d1,.s F2 u2 d2] 33))):=Hx ((eR qU).alloc _);have qk:w7.heap.size<=qU.heap.size:=EX.o.size;have EX:=Hx (EX.o.tr XN.o);have R0:=Hx (R0.o.K XN.o);have GA:=Hx (GA.o.K XN.o);have BQ:=Hx (BQ.o.K XN.o);have GR:=Hx (eN qU 33 #[.bool nq,.s F1 u1 d1,.s F2 u2 d2]);refine hK.o _ _ trivial ?_;clear hK KK XN;generalize qU.alloc (.cells #[.bool nq,.s F1 u1 d1,.s F2 u2 d2] 33)=Y25 at*;generalize qU.heap.size=gr at*;try simp only[qP]
    refine wP 7 rfl HSW.o ?_;try simp only[qP]
    have z0:=BQ.o.cell 0;have z1:=BQ.o.cell 1;have z2:=BQ.o.cell 2;have f0:=BQ.o.frozen 0;have f1:=BQ.o.frozen 1;have f2:=BQ.o.frozen 2;refine aY qK rfl qR (fun KK hK=>?_);go_simp;have FL:=Hx (Pg0.leaf BQ.o GR.o R0.o GA.o EX.o qj qk qn);refine hK.o _ _ ?_;clear hK KK z0 z1 z2 f0 f1 f2 BQ GR R0 GA EX HSW;generalize (((Y25.setCell (aD bq 0) (.s (sA gr) 1 1)).setCell (aD bq 1) (.s (sA ga) m m)).setCell (aD bq 2) zN)=YF at*;refine wpAny_done qK ?_ _;go_wp2;go_meet;exact⟨bq,gr,ga,nq,F1,u1,d1,F2,u2,d2,rfl,FL⟩
   skip
   go_simp;have XN:Hid (Ext Y0 (Y0.alloc (.cells #[zN,zN,zN] 56))):=Hx ((eR Y0).alloc _);have qj:w7.heap.size<=Y0.heap.size:=EX.o.size;have EX:=Hx (EX.o.tr XN.o);have BQ:=Hx (eN Y0 56 #[zN,zN,zN]);refine hK.o _ _ trivial ?_;clear hK KK XN;generalize Y0.alloc (.cells #[zN,zN,zN] 56)=Y26 at*;generalize Y0.heap.size=bq at*;try simp only[qP]
   refine lY (i:=0) (j:=6) qD qD qK rfl rfl qR qR (fun KK hK=>?_) (fun KK hK=>?_)
   ·skip
    go_simp;refine(dS 1 _ ⟨qO,qO⟩).mono ?_;rintro e qt ⟨nq,F1,u1,d1,F2,u2,d2,rfl,hR,x8⟩;have EX:=Hx (EX.o.tr x8);have BQ:=Hx (BQ.o.K x8);have R0:=Hx hR;refine hK.o _ _ trivial ?_;clear hK KK x8 hR;try simp only[qP]
    refine lY (i:=1) (j:=6) qD qD qK rfl rfl qR qR (fun KK hK=>?_) (fun KK hK=>?_)
    ·skip
     go_simp;have XN:Hid (Ext qt (qt.alloc (.cells #[.bool nq,.s F1 u1 d1,.s F2 u2 d2] 33))):=Hx ((eR qt).alloc _);have qk:w7.heap.size<=qt.heap.size:=EX.o.size;have EX:=Hx (EX.o.tr XN.o);have R0:=Hx (R0.o.K XN.o);have BQ:=Hx (BQ.o.K XN.o);have GR:=Hx (eN qt 33 #[.bool nq,.s F1 u1 d1,.s F2 u2 d2]);refine hK.o _ _ trivial ?_;clear hK KK XN;generalize qt.alloc (.cells #[.bool nq,.s F1 u1 d1,.s F2 u2 d2] 33)=Y28 at*;generalize qt.heap.size=gr at*;try simp only[qP]
     refine wC 6 rfl (fun KK hK=>?_);go_simp;have XN:Hid (Ext Y28 (Y28.alloc (.cells (madeCells #[zN] m) 35))):=Hx ((eR Y28).alloc _);have qn:w7.heap.size<=Y28.heap.size:=EX.o.size;have EX:=Hx (EX.o.tr XN.o);have R0:=Hx (R0.o.K XN.o);have GR:=Hx (GR.o.K XN.o);have BQ:=Hx (BQ.o.K XN.o);have GA:=Hx (eN Y28 35 (madeCells #[zN] m));refine hK.o _ _ trivial ?_;clear hK KK XN;generalize Y28.alloc (.cells (madeCells #[zN] m) 35)=Y29 at*;generalize Y28.heap.size=ga at*;try simp only[qP]
     refine wP 7 rfl HSW.o ?_;try simp only[qP]
     have z0:=BQ.o.cell 0;have z1:=BQ.o.cell 1;have z2:=BQ.o.cell 2;have f0:=BQ.o.frozen 0;have f1:=BQ.o.frozen 1;have f2:=BQ.o.frozen 2;refine aY qK rfl qR (fun KK hK=>?_);go_simp;have FL:=Hx (Pg0.leaf BQ.o GR.o R0.o GA.o EX.o qj qk qn);refine hK.o _ _ ?_;clear hK KK z0 z1 z2 f0 f1 f2 BQ GR R0 GA EX HSW;generalize (((Y29.setCell (aD bq 0) (.s (sA gr) 1 1)).setCell (aD bq 1) (.s (sA ga) m m)).setCell (aD bq 2) zN)=YF at*;refine wpAny_done qK ?_ _;go_wp2;go_meet;exact⟨bq,gr,ga,nq,F1,u1,d1,F2,u2,d2,rfl,FL⟩
    skip
    go_simp;have XN:Hid (Ext qt (qt.alloc (.cells (madeCells #[zN] m) 35))):=Hx ((eR qt).alloc _);have qn:w7.heap.size<=qt.heap.size:=EX.o.size;have EX:=Hx (EX.o.tr XN.o);have R0:=Hx (R0.o.K XN.o);have BQ:=Hx (BQ.o.K XN.o);have GA:=Hx (eN qt 35 (madeCells #[zN] m));refine hK.o _ _ trivial ?_;clear hK KK XN;generalize qt.alloc (.cells (madeCells #[zN] m) 35)=Y30 at*;generalize qt.heap.size=ga at*;try simp only[qP]
    refine wC 1 rfl (fun KK hK=>?_);go_simp;have XN:Hid (Ext Y30 (Y30.alloc (.cells #[.bool nq,.s F1 u1 d1,.s F2 u2 d2] 33))):=Hx ((eR Y30).alloc _);have qk:w7.heap.size<=Y30.heap.size:=EX.o.size;have EX:=Hx (EX.o.tr XN.o);have R0:=Hx (R0.o.K XN.o);have GA:=Hx (GA.o.K XN.o);have BQ:=Hx (BQ.o.K XN.o);have GR:=Hx (eN Y30 33 #[.bool nq,.s F1 u1 d1,.s F2 u2 d2]);refine hK.o _ _ trivial ?_;clear hK KK XN;generalize Y30.alloc (.cells #[.bool nq,.s F1 u1 d1,.s F2 u2 d2] 33)=Y31 at*;generalize Y30.heap.size=gr at*;try simp only[qP]
    refine wP 7 rfl HSW.o ?_;try simp only[qP]
    have z0:=BQ.o.cell 0;have z1:=BQ.o.cell 1;have z2:=BQ.o.cell 2;have f0:=BQ.o.frozen 0;have f1:=BQ.o.frozen 1;have f2:=BQ.o.frozen 2;refine aY qK rfl qR (fun KK hK=>?_);go_simp;have FL:=Hx (Pg0.leaf BQ.o GR.o R0.o GA.o EX.o qj qk qn);refine hK.o _ _ ?_;clear hK KK z0 z1 z2 f0 f1 f2 BQ GR R0 GA EX HSW;generalize (((Y31.setCell (aD bq 0) (.s (sA gr) 1 1)).setCell (aD bq 1) (.s (sA ga) m m)).setCell (aD bq 2) zN)=YF at*;refine wpAny_done qK ?_ _;go_wp2;go_meet;exact⟨bq,gr,ga,nq,F1,u1,d1,F2,u2,d2,rfl,FL⟩
   skip
   go_simp;have XN:Hid (Ext Y26 (Y26.alloc (.cells (madeCells #[zN] m) 35))):=Hx ((eR Y26).alloc _);have qn:w7.heap.size<=Y26.heap.size:=EX.o.size;have EX:=Hx (EX.o.tr XN.o);have BQ:=Hx (BQ.o.K XN.o);have GA:=Hx (eN Y26 35 (madeCells #[zN] m));refine hK.o _ _ trivial ?_;clear hK KK XN;generalize Y26.alloc (.cells (madeCells #[zN] m) 35)=Y32 at*;generalize Y26.heap.size=ga at*;try simp only[qP]
   refine wC 0 rfl (fun KK hK=>?_);go_simp;refine(dS 1 _ ⟨qO,qO⟩).mono ?_;rintro e qV ⟨nq,F1,u1,d1,F2,u2,d2,rfl,hR,x8⟩;have EX:=Hx (EX.o.tr x8);have GA:=Hx (GA.o.K x8);have BQ:=Hx (BQ.o.K x8);have R0:=Hx hR;refine hK.o _ _ trivial ?_;clear hK KK x8 hR;try simp only[qP]
   refine wC 1 rfl (fun KK hK=>?_);go_simp;have XN:Hid (Ext qV (qV.alloc (.cells #[.bool nq,.s F1 u1 d1,.s F2 u2 d2] 33))):=Hx ((eR qV).alloc _);have qk:w7.heap.size<=qV.heap.size:=EX.o.size;have EX:=Hx (EX.o.tr XN.o);have R0:=Hx (R0.o.K XN.o);have GA:=Hx (GA.o.K XN.o);have BQ:=Hx (BQ.o.K XN.o);have GR:=Hx (eN qV 33 #[.bool nq,.s F1 u1 d1,.s F2 u2 d2]);refine hK.o _ _ trivial ?_;clear hK KK XN;generalize qV.alloc (.cells #[.bool nq,.s F1 u1 d1,.s F2 u2 d2] 33)=Y34 at*;generalize qV.heap.size=gr at*;try simp only[qP]
   refine wP 7 rfl HSW.o ?_;try simp only[qP]
   have z0:=BQ.o.cell 0;have z1:=BQ.o.cell 1;have z2:=BQ.o.cell 2;have f0:=BQ.o.frozen 0;have f1:=BQ.o.frozen 1;have f2:=BQ.o.frozen 2;refine aY qK rfl qR (fun KK hK=>?_);go_simp;have FL:=Hx (Pg0.leaf BQ.o GR.o R0.o GA.o EX.o qj qk qn);refine hK.o _ _ ?_;clear hK KK z0 z1 z2 f0 f1 f2 BQ GR R0 GA EX HSW;generalize (((Y34.setCell (aD bq 0) (.s (sA gr) 1 1)).setCell (aD bq 1) (.s (sA ga) m m)).setCell (aD bq 2) zN)=YF at*;refine wpAny_done qK ?_ _;go_wp2;go_meet;exact⟨bq,gr,ga,nq,F1,u1,d1,F2,u2,d2,rfl,FL⟩
 obtain⟨bq,g1,ga,nq,F1,u1,d1,F2,u2,d2,rfl,P0⟩:=hcut;generalize wc=W8 at*;clear XD qz zv;have B8:=Hx (B7.o.K P0.o.2.2.2.2.1);have y0:=B8.o.cell 0;have y1:=B8.o.cell 1;have y2:=B8.o.cell 2;have k0:=aA ((eR W8).alloc (.cells #[.bool neg,.s A1 n1 c1,.s A2 n2 c2] 33)) y0;have k1:=aA ((eR W8).alloc (.cells #[.bool neg,.s A1 n1 c1,.s A2 n2 c2] 33)) y1;have k2:=aA ((eR W8).alloc (.cells #[.bool neg,.s A1 n1 c1,.s A2 n2 c2] 33)) y2;obtain⟨ze,zg,e9⟩:=dO W8 #[.bool neg,.s A1 n1 c1,.s A2 n2 c2] 33 #[vI 1,.s (sA W8.heap.size) 1 1,zN,zN,.bool neg,.s A1 n1 c1,.s A2 n2 c2] 58;have I0:=Hx (PgI.start (R':=aJ l []) P0.o e9 (S7.o.val.K (P0.o.2.2.2.2.1.tr e9)) ze (yX _) zg (Nat.le_succ _));have zM:((W8.alloc (.cells #[.bool neg,.s A1 n1 c1,.s A2 n2 c2] 33)).alloc (.cells #[vI 1,.s (sA W8.heap.size) 1 1,zN,zN,.bool neg,.s A1 n1 c1,.s A2 n2 c2] 58)).heap.size=W8.heap.size+2:=qS;clear ze zg e9
 go_upto_region 13 with fail
 clear y0 y1 y2 k0 k1 k2;generalize (W8.alloc (.cells #[.bool neg,.s A1 n1 c1,.s A2 n2 c2] 33)).alloc (.cells #[vI 1,.s (sA W8.heap.size) 1 1,zN,zN,.bool neg,.s A1 n1 c1,.s A2 n2 c2] 58)=W9 at*;generalize hg8:W8.heap.size=g8 at*;obtain⟨V0,qC⟩:∃V0,V0=vS m (.s (sA g1) 1 1) zN (.s (sA g8) 1 1) zN:=⟨_,rfl⟩;rw[<-qC]at I0;have vj:V0 (m+3)=zN:=(by rw[qC];unfold vS;rw[qF qO,qF qO,qF qO,qF qO]);clear qC P0 B8 hg8;generalize g8+1=br at*;go_wp2
 go_loopg [10] l.length (fun q it wx=>∃(n:Nat) (V:Nat->Value),l.length-n=q/\n<=l.length/\it=vI (n:Int)/\Hid (PgI w7 wx bq br ga m neg A1 n1 c1 A2 n2 c2 V (qSt m n (fun _=>[]) (aJ l []) [1] (List.replicate n 0) [v] [])/\V (m+3)=zN))
 case atStart=>exact⟨0,V0,rfl,yZ _,rfl,Hx ⟨I0.o,vj⟩⟩
 as_aux_lemma=>
  obtain⟨n,V,rfl,hn,rfl,J⟩:=hrel;clear I0 vj;by_cases vh:n<l.length
  ·as_aux_lemma=>
   obtain⟨d,hd⟩:∃d,l[n]?=some d:=⟨_,yG vh⟩;obtain⟨bd,od,rfl,_,_,_,a2,_⟩:=((HA.o.1.dem g3).K (X7.o.tr J.o.1.ext)).at_ hd;have DC:=Hx (show w7.cell? (aD bd (od+n*4+2))=some (vI d.amount)from by
    obtain⟨b',o',e',_,_,_,k2,_⟩:=((HA.o.1.dem g3).K X7.o).at_ hd;injection e' with e'
    injection e' with e1 e2
    rw[e1,e2];exact k2)
   have qx:=Hx (show aJ l [] n=[]++[(d.amount:Rat)]from by
    unfold aJ;rw[qE vh];show [amQ l n]=_;unfold amQ;rw[hd];rfl)
   have zf:=(HA.o.1.dwf d (yJ hd)).2.2.1;have qW:n<m:=(by have:=HM.o;omega);have nN:(n:Int)<(l.length:Int):=qO;have nM:(n:Int)<(m:Int):=qO;have n0:(0:Int)<=(n:Int):=qO;clear hd a2;have qe:Hid (∀wx,Ext wr wx->wx.cell? (aD bq 1)=some (.s (sA ga) m m)/\wx.cell? (aD ga n)=some (V n)/\wx.cell? (aD bd (od+n*4+2))=some (vI d.amount)):=Hx (fun wx hx=>⟨(J.o.1.qb.K hx).cell 1,((J.o.1.ab.K hx).cell n).trans (gD qW),aA (J.o.1.ext.tr hx) DC.o⟩);have XD:Hid (Ext wr wr.drew):=Hx ((eR wr).drewN 1);have HSW:=Hx (qe.o _ XD.o)
   go_upto_region 16 with fail
   refine wX qe 17 ?_;refine wP 0 rfl HSW.o ?_;try simp only[qP]
   refine wV 1 rfl HSW.o ?_;try simp only[qP]
   refine wP 2 rfl HSW.o ?_;try simp only[qP]
   refine wP 3 rfl HSW.o ?_;try simp only[qP]
   refine wV 4 rfl HSW.o ?_;try simp only[qP]
   refine wP 5 rfl HSW.o ?_;try simp only[qP]
   refine wP 6 rfl HSW.o ?_;try simp only[qP]
   refine wV 7 rfl HSW.o ?_;try simp only[qP]
   refine wP 8 rfl HSW.o ?_;try simp only[qP]
   refine wP 9 rfl HSW.o ?_;try simp only[qP]
   refine wP 10 rfl HSW.o ?_;try simp only[qP]
   refine wP 11 rfl HSW.o ?_;try simp only[qP]
   refine wV 12 rfl HSW.o ?_;try simp only[qP]
   refine wC 13 rfl (fun KK hK=>?_);go_simp;refine(dS d.amount _ zf).mono ?_;rintro e wa ⟨nf,H1,p1,q1,H2,p2,q2,rfl,hR,xa⟩;have EA:=Hx (XD.o.tr xa);have RA:=Hx hR;have HSW:=Hx (qe.o _ EA.o);refine hK.o _ _ HSW.o ?_;clear hK KK xa hR;try simp only[qP]
   refine wC 14 rfl (fun KK hK=>?_);go_simp;have XN:Hid (Ext wa (wa.alloc (.cells #[.bool nf,.s H1 p1 q1,.s H2 p2 q2] 33))):=Hx ((eR wa).alloc _);have BW:=Hx (eN wa 33 #[.bool nf,.s H1 p1 q1,.s H2 p2 q2]);have EB:=Hx (EA.o.tr XN.o);have RB:=Hx (RA.o.K XN.o);have HSW:=Hx (qe.o _ EB.o);refine hK.o _ _ HSW.o ?_;clear hK KK XN;generalize wa.alloc (.cells #[.bool nf,.s H1 p1 q1,.s H2 p2 q2] 33)=wb at*;generalize wa.heap.size=gb at*;try simp only[qP]
   refine wC 15 rfl (fun KK hK=>?_);obtain⟨css,h1,h2,qa,h4⟩:=(J.o.1.own (n) qO).K QR.keep_ EB.o;have qg:Hid ((qSt m n (fun _=>[]) (aJ l []) [1] (List.replicate n 0) [v] [] n).length=0):=Hx (by rw[lW qW,qF (kZr n)];rfl);rw[qg.o]at qa;refine fS wb 35 33 _ 3 56 _ _ rfl underlying35 Tryz.info44 rfl qD w7.heap.size (V (n)) (0) css.flatten qR qa [.bool nf,.s H1 p1 q1,.s H2 p2 q2] rfl (by simp[Value.oneCell']) gb qR BW.o (by unfold maxLen;omega) qO ((J.o.1.ext.tr EB.o).size) ?_;intro g9 c9 wc qi qf qh;have J9:=Hx ((J.o.1.K EB.o).pushed qO qg.o h1 h2 qa h4 RB.o qi qf qh);have HSW:Hid (wc.cell? (aD bq 1)=some (.s (sA ga) m m)/\wc.cell? (aD ga n)=some (V n)/\wc.cell? (aD bd (od+n*4+2))=some (vI d.amount)):=Hx (⟨J9.o.qb.cell 1,(J9.o.ab.cell n).trans (gD qW),aA J9.o.ext DC.o⟩);refine hK.o _ _ HSW.o ?_;clear hK KK h1 h2 qa h4 qi qf qh css qg EA RA EB RB BW qe;try simp only[qP]
   have z0:wc.frozen? (aD ga n)=false:=J9.o.ab.frozen _;have t0:wc.cell? (aD ga n)=some (V (n)):=(J9.o.ab.cell n).trans (gD qW);refine wP 16 rfl HSW.o ?_;try simp only[qP]
   refine aY qK rfl qR (fun KK hK=>?_);go_simp;refine hK.o _ _ ?_;have N9:Hid (∃V',PgI w7 (wc.setCell (aD ga n) (.s (sA g9) (0+1) c9)) bq br ga m neg A1 n1 c1 A2 n2 c2 V' (qSt m (n+1) (fun _=>[]) (aJ l []) [1] (List.replicate n 0) [v] [])/\V' (m+3)=V (m+3)):=Hx (⟨_,by rw[<-sJ qW qx.o];exact J9.o.row qW,bU _ _ qO⟩);clear hK KK z0 t0 J9 HSW XD;refine wpAny_done qK ?_ _;generalize wc.setCell (aD ga n) (.s (sA g9) (0+1) c9)=wd at*;have hV:=J.o.2;obtain⟨V1,N1⟩:∃V1,Hid (PgI w7 wd bq br ga m neg A1 n1 c1 A2 n2 c2 V1 (qSt m (n+1) (fun _=>[]) (aJ l []) [1] (List.replicate n 0) [v] [])/\V1 (m+3)=zN):=by
    obtain⟨V1,k1,k2⟩:=N9.o;exact⟨V1,Hx ⟨k1,k2.trans hV⟩⟩
   clear N9 J hV DC qx zf;have qe:Hid (∀wx,Ext wd wx->wx.cell? (aD bq 2)=some (V1 (m+1))/\True):=Hx (fun wx hx=>⟨(N1.o.1.qb.K hx).cell 2,trivial⟩);have XD:Hid (Ext wd wd.drew):=Hx ((eR wd).drewN 1);have HSW:=Hx (qe.o _ XD.o)
   go_upto_region 17 with fail
   refine wX qe 6 ?_;refine wP 0 rfl HSW.o ?_;try simp only[qP]
   refine wV 1 rfl HSW.o ?_;try simp only[qP]
   refine wC 2 rfl (fun KK hK=>?_);go_simp;refine(dS 0 _ ⟨qO,qO⟩).mono ?_;rintro e wa ⟨nf,H1,p1,q1,H2,p2,q2,rfl,hR,xa⟩;have EA:=Hx (XD.o.tr xa);have RA:=Hx hR;have HSW:=Hx (qe.o _ EA.o);refine hK.o _ _ HSW.o ?_;clear hK KK xa hR;try simp only[qP]
   refine wC 3 rfl (fun KK hK=>?_);go_simp;have XN:Hid (Ext wa (wa.alloc (.cells #[.bool nf,.s H1 p1 q1,.s H2 p2 q2] 33))):=Hx ((eR wa).alloc _);have BW:=Hx (eN wa 33 #[.bool nf,.s H1 p1 q1,.s H2 p2 q2]);have EB:=Hx (EA.o.tr XN.o);have RB:=Hx (RA.o.K XN.o);have HSW:=Hx (qe.o _ EB.o);refine hK.o _ _ HSW.o ?_;clear hK KK XN;generalize wa.alloc (.cells #[.bool nf,.s H1 p1 q1,.s H2 p2 q2] 33)=wb at*;generalize wa.heap.size=gb at*;try simp only[qP]
   refine wC 4 rfl (fun KK hK=>?_);obtain⟨css,h1,h2,qa,h4⟩:=(N1.o.1.own (m+1) qO).K QR.keep_ EB.o;have qg:Hid ((qSt m (n+1) (fun _=>[]) (aJ l []) [1] (List.replicate n 0) [v] [] (m+1)).length=n):=Hx (by rw[mZ,xC]);rw[qg.o]at qa;refine fS wb 35 33 _ 3 56 _ _ rfl underlying35 Tryz.info44 rfl qD w7.heap.size (V1 (m+1)) (n) css.flatten qR qa [.bool nf,.s H1 p1 q1,.s H2 p2 q2] rfl (by simp[Value.oneCell']) gb qR BW.o (by unfold maxLen;omega) qO ((N1.o.1.ext.tr EB.o).size) ?_;intro g9 c9 wc qi qf qh;have J9:=Hx ((N1.o.1.K EB.o).pushed qO qg.o h1 h2 qa h4 RB.o qi qf qh);have HSW:Hid (wc.cell? (aD bq 2)=some (V1 (m+1))/\True):=Hx (⟨J9.o.qb.cell 2,trivial⟩);refine hK.o _ _ HSW.o ?_;clear hK KK h1 h2 qa h4 qi qf qh css qg EA RA EB RB BW qe;try simp only[qP]
   have z0:wc.frozen? (aD bq 2)=false:=J9.o.qb.frozen _;have t0:wc.cell? (aD bq 2)=some (V1 (m+1)):=J9.o.qb.cell 2;refine wP 5 rfl HSW.o ?_;try simp only[qP]
   refine aY qK rfl qR (fun KK hK=>?_);go_simp;refine hK.o _ _ ?_;have N9:Hid (∃V',PgI w7 (wc.setCell (aD bq 2) (.s (sA g9) (n+1) c9)) bq br ga m neg A1 n1 c1 A2 n2 c2 V' (qSt m (n+1) (fun _=>[]) (aJ l []) [1] (List.replicate (n+1) 0) [v] [])/\V' (m+3)=V1 (m+3)):=Hx (⟨_,by have h9:=J9.o.b;rw[jzfh,mZ,show List.replicate n (0:Rat)++[((0:Int):Rat)]=List.replicate (n+1) 0 from(List.replicate_succ' ..).symm]at h9;exact h9,bU _ _ qO⟩);clear hK KK z0 t0 J9 HSW XD;refine wpAny_done qK ?_ _;generalize wc.setCell (aD bq 2) (.s (sA g9) (n+1) c9)=we at*;obtain⟨V2,k1,k2⟩:=N9.o;have qp:=Hx (kQa k1 (k2.trans N1.o.2));clear N9 N1 k1 k2;go_wp2
   go_roundg (l.length-(n+1))
   case measure=>omega
   exact⟨n+1,V2,rfl,qO,by go_num,qp⟩
  as_aux_lemma=>
   obtain rfl:n=l.length:=qO;obtain⟨V0,qC⟩:∃V0,V0=V:=⟨_,rfl⟩;rw[<-qC]at J;have I0:=J;clear J vh hn qC;have I1:=Hx (show PgI w7 wr bq br ga m neg A1 n1 c1 A2 n2 c2 V0 (qSt m (l.length+0) (fun _=>[]) (aJ l []) [1] (List.replicate l.length 0++(List.range 0).map (aQ t)) [v] [])from by
    have h9:=I0.o.1;rw[<-List.append_nil (List.replicate l.length (0:Rat))]at h9;exact h9)
   have vj:=I0.o.2;clear I0;go_wp2
   go_loopg [11] L2 (fun q it wx=>∃(n:Nat) (V:Nat->Value),L2-n=q/\n<=L2/\it=vI (n:Int)/\Hid (PgI w7 wx bq br ga m neg A1 n1 c1 A2 n2 c2 V (qSt m (l.length+n) (fun _=>[]) (aJ l []) [1] (List.replicate l.length 0++(List.range n).map (aQ t)) [v] [])/\V (m+3)=zN))
   case atStart=>exact⟨0,V0,rfl,yZ _,rfl,Hx ⟨I1.o,vj⟩⟩
   as_aux_lemma=>
    obtain⟨n,V,rfl,hn,rfl,J⟩:=hrel;clear I1 vj;by_cases vh:n<L2
    ·as_aux_lemma=>
     have zn:n<2*t.links.length:=(by have:=qJ.o.2;omega);obtain⟨hl,_,_,_,k5,k6,k7⟩:=lE HF.o.v zn;obtain⟨lk,vy⟩:∃lk,t.links[n/2]?=some lk:=⟨_,yG hl⟩;have e0:t.links[n/2]=lk:=(yH.1 vy).2;rw[e0]at k5 k6 k7;obtain⟨bL,oL,zu,_,_,_,_,_,c4,_,_⟩:=((HA.o.1.top qY g2).K X7.o).link vy;subst zu;have LC:=Hx (kQa c4 k5);have zw:i64 lk.cap:=⟨qO,qO⟩;obtain⟨k,hk⟩:∃k,l.length+n=k:=⟨_,rfl⟩;rw[hk]at J;have HK:=Hx hk;have qm:k<m:=(by have:=HM.o;omega);have qx:=Hx (show aJ l [] k=[]++[((0:Int):Rat)]from by
      unfold aJ;rw[qF qO];rfl)
     have nN:(n:Int)<(L2:Int):=qO;have n0:(0:Int)<=(n:Int):=qO;have kM:(k:Int)<(m:Int):=qO;have k0:(0:Int)<=(k:Int):=qO;have qz:IntKind.i64.wrap ((l.length:Int)+(n:Int))=(k:Int):=(by rw[IntKind.wrap_i64];omega);clear zn hl vy e0 c4 k5 k6 k7 hk;have qe:Hid (∀wx,Ext wr wx->wx.cell? (aD bq 1)=some (.s (sA ga) m m)/\wx.cell? (aD ga k)=some (V k)):=Hx (fun wx hx=>⟨(J.o.1.qb.K hx).cell 1,((J.o.1.ab.K hx).cell k).trans (gD qm)⟩);have XD:Hid (Ext wr wr.drew):=Hx ((eR wr).drewN 1);have HSW:=Hx (qe.o _ XD.o)
     go_upto_region 21 with fail
     refine wX qe 18 ?_;refine wP 0 rfl HSW.o ?_;try simp only[qP]
     refine wV 1 rfl HSW.o ?_;try simp only[qP]
     refine wP 2 rfl HSW.o ?_;try simp only[qP]
     refine wP 3 rfl HSW.o ?_;try simp only[qP]
     refine wP 4 rfl HSW.o ?_;try simp only[qP]
     refine wP 5 rfl HSW.o ?_;try simp only[qP]
     refine wP 6 rfl HSW.o ?_;try simp only[qP]
     refine wV 7 rfl HSW.o ?_;try simp only[qP]
     refine wP 8 rfl HSW.o ?_;try simp only[qP]
     refine wP 9 rfl HSW.o ?_;try simp only[qP]
     refine wP 10 rfl HSW.o ?_;try simp only[qP]
     refine wP 11 rfl HSW.o ?_;try simp only[qP]
     refine wP 12 rfl HSW.o ?_;try simp only[qP]
     refine wV 13 rfl HSW.o ?_;try simp only[qP]
     refine wC 14 rfl (fun KK hK=>?_);go_simp;refine(dS 0 _ ⟨qO,qO⟩).mono ?_;rintro e wa ⟨nf,H1,p1,q1,H2,p2,q2,rfl,hR,xa⟩;have EA:=Hx (XD.o.tr xa);have RA:=Hx hR;have HSW:=Hx (qe.o _ EA.o);refine hK.o _ _ HSW.o ?_;clear hK KK xa hR;try simp only[qP]
     refine wC 15 rfl (fun KK hK=>?_);go_simp;have XN:Hid (Ext wa (wa.alloc (.cells #[.bool nf,.s H1 p1 q1,.s H2 p2 q2] 33))):=Hx ((eR wa).alloc _);have BW:=Hx (eN wa 33 #[.bool nf,.s H1 p1 q1,.s H2 p2 q2]);have EB:=Hx (EA.o.tr XN.o);have RB:=Hx (RA.o.K XN.o);have HSW:=Hx (qe.o _ EB.o);refine hK.o _ _ HSW.o ?_;clear hK KK XN;generalize wa.alloc (.cells #[.bool nf,.s H1 p1 q1,.s H2 p2 q2] 33)=wb at*;generalize wa.heap.size=gb at*;try simp only[qP]
     refine wC 16 rfl (fun KK hK=>?_);obtain⟨css,h1,h2,qa,h4⟩:=(J.o.1.own (k) qO).K QR.keep_ EB.o;have qg:Hid ((qSt m k (fun _=>[]) (aJ l []) [1] (List.replicate l.length 0++(List.range n).map (aQ t)) [v] [] k).length=0):=Hx (by rw[lW qm,qF (kZr k)];rfl);rw[qg.o]at qa;refine fS wb 35 33 _ 3 56 _ _ rfl underlying35 Tryz.info44 rfl qD w7.heap.size (V (k)) (0) css.flatten qR qa [.bool nf,.s H1 p1 q1,.s H2 p2 q2] rfl (by simp[Value.oneCell']) gb qR BW.o (by unfold maxLen;omega) qO ((J.o.1.ext.tr EB.o).size) ?_;intro g9 c9 wc qi qf qh;have J9:=Hx ((J.o.1.K EB.o).pushed qO qg.o h1 h2 qa h4 RB.o qi qf qh);have HSW:Hid (wc.cell? (aD bq 1)=some (.s (sA ga) m m)/\wc.cell? (aD ga k)=some (V k)):=Hx (⟨J9.o.qb.cell 1,(J9.o.ab.cell k).trans (gD qm)⟩);refine hK.o _ _ HSW.o ?_;clear hK KK h1 h2 qa h4 qi qf qh css qg EA RA EB RB BW qe;try simp only[qP]
     have z0:wc.frozen? (aD ga k)=false:=J9.o.ab.frozen _;have t0:wc.cell? (aD ga k)=some (V (k)):=(J9.o.ab.cell k).trans (gD qm);refine wP 17 rfl HSW.o ?_;try simp only[qP]
     refine aY qK rfl qR (fun KK hK=>?_);go_simp;refine hK.o _ _ ?_;have N9:Hid (∃V',PgI w7 (wc.setCell (aD ga k) (.s (sA g9) (0+1) c9)) bq br ga m neg A1 n1 c1 A2 n2 c2 V' (qSt m (k+1) (fun _=>[]) (aJ l []) [1] (List.replicate l.length 0++(List.range n).map (aQ t)) [v] [])/\V' (m+3)=V (m+3)):=Hx (⟨_,by rw[<-sJ qm qx.o];exact J9.o.row qm,bU _ _ qO⟩);clear hK KK z0 t0 J9 HSW XD;refine wpAny_done qK ?_ _;generalize wc.setCell (aD ga k) (.s (sA g9) (0+1) c9)=wd at*;have hV:=J.o.2;obtain⟨V1,N1⟩:∃V1,Hid (PgI w7 wd bq br ga m neg A1 n1 c1 A2 n2 c2 V1 (qSt m (k+1) (fun _=>[]) (aJ l []) [1] (List.replicate l.length 0++(List.range n).map (aQ t)) [v] [])/\V1 (m+3)=zN):=by
      obtain⟨V1,k1,k2⟩:=N9.o;exact⟨V1,Hx ⟨k1,k2.trans hV⟩⟩
     clear N9 J hV qx qz;have nt:(n:Int)<2*(t.links.length:Int):=(by have:=qJ.o.2;omega);have q1:((n/2:Nat):Int)<(t.links.length:Int):=qO;have q2:(0:Int)<=((n/2:Nat):Int):=qO;have q3:(n:Int)/2<(t.links.length:Int):=qO;have q4:(0:Int)<=(n:Int)/2:=qO;have q5:((n:Int)/2).toNat=n/2:=qO;have q6:(n:Int).tdiv 2=(n:Int)/2:=Int.tdiv_eq_ediv_of_nonneg qO;have q7:IntKind.i64.wrap ((n:Int)/2)=(n:Int)/2:=IntWalk.i64_in _ qO;clear nt;have qe:Hid (∀wx,Ext wd wx->wx.cell? (aD bq 2)=some (V1 (m+1))/\wx.cell? (aD w.heap.size 2)=some (.s (some (aD bL oL)) t.links.length cl)/\wx.cell? (aD bL (oL+n/2*7+4))=some (vI lk.cap)):=Hx (fun wx hx=>⟨(N1.o.1.qb.K hx).cell 2,((T7.o.K N1.o.1.ext).K hx).cell 2,aA (N1.o.1.ext.tr hx) LC.o.1⟩);have XD:Hid (Ext wd wd.drew):=Hx ((eR wd).drewN 1);have HSW:=Hx (qe.o _ XD.o)
     go_upto_region 22 with fail
     refine wX qe 13 ?_;refine wP 0 rfl HSW.o ?_;try simp only[qP]
     refine wV 1 rfl HSW.o ?_;try simp only[qP]
     refine wP 2 rfl HSW.o ?_;try simp only[qP]
     refine wV 3 rfl HSW.o ?_;try simp only[qP]
     refine wP 4 rfl HSW.o ?_;try simp only[qP]
     refine wP 5 rfl HSW.o ?_;try simp only[qP]
     refine wP 6 rfl HSW.o ?_;try simp only[qP]
     refine wP 7 rfl HSW.o ?_;try simp only[qP]
     refine wV 8 rfl HSW.o ?_;try simp only[qP]
     refine wC 9 rfl (fun KK hK=>?_);go_simp;refine(dS lk.cap _ zw).mono ?_;rintro e wa ⟨nf,H1,p1,q1,H2,p2,q2,rfl,hR,xa⟩;have EA:=Hx (XD.o.tr xa);have RA:=Hx hR;have HSW:=Hx (qe.o _ EA.o);refine hK.o _ _ HSW.o ?_;clear hK KK xa hR;try simp only[qP]
     refine wC 10 rfl (fun KK hK=>?_);go_simp;have XN:Hid (Ext wa (wa.alloc (.cells #[.bool nf,.s H1 p1 q1,.s H2 p2 q2] 33))):=Hx ((eR wa).alloc _);have BW:=Hx (eN wa 33 #[.bool nf,.s H1 p1 q1,.s H2 p2 q2]);have EB:=Hx (EA.o.tr XN.o);have RB:=Hx (RA.o.K XN.o);have HSW:=Hx (qe.o _ EB.o);refine hK.o _ _ HSW.o ?_;clear hK KK XN;generalize wa.alloc (.cells #[.bool nf,.s H1 p1 q1,.s H2 p2 q2] 33)=wb at*;generalize wa.heap.size=gb at*;try simp only[qP]
     refine wC 11 rfl (fun KK hK=>?_);obtain⟨css,h1,h2,qa,h4⟩:=(N1.o.1.own (m+1) qO).K QR.keep_ EB.o;have qg:Hid ((qSt m (k+1) (fun _=>[]) (aJ l []) [1] (List.replicate l.length 0++(List.range n).map (aQ t)) [v] [] (m+1)).length=l.length+n):=Hx (by rw[mZ];simp);rw[qg.o]at qa;refine fS wb 35 33 _ 3 56 _ _ rfl underlying35 Tryz.info44 rfl qD w7.heap.size (V1 (m+1)) (l.length+n) css.flatten qR qa [.bool nf,.s H1 p1 q1,.s H2 p2 q2] rfl (by simp[Value.oneCell']) gb qR BW.o (by unfold maxLen;omega) qO ((N1.o.1.ext.tr EB.o).size) ?_;intro g9 c9 wc qi qf qh;have J9:=Hx ((N1.o.1.K EB.o).pushed qO qg.o h1 h2 qa h4 RB.o qi qf qh);have HSW:Hid (wc.cell? (aD bq 2)=some (V1 (m+1))/\wc.cell? (aD w.heap.size 2)=some (.s (some (aD bL oL)) t.links.length cl)/\wc.cell? (aD bL (oL+n/2*7+4))=some (vI lk.cap)):=Hx (⟨J9.o.qb.cell 2,(T7.o.K J9.o.ext).cell 2,aA J9.o.ext LC.o.1⟩);refine hK.o _ _ HSW.o ?_;clear hK KK h1 h2 qa h4 qi qf qh css qg EA RA EB RB BW qe;try simp only[qP]
     have z0:wc.frozen? (aD bq 2)=false:=J9.o.qb.frozen _;have t0:wc.cell? (aD bq 2)=some (V1 (m+1)):=J9.o.qb.cell 2;refine wP 12 rfl HSW.o ?_;try simp only[qP]
     refine aY qK rfl qR (fun KK hK=>?_);go_simp;refine hK.o _ _ ?_;have N9:Hid (∃V',PgI w7 (wc.setCell (aD bq 2) (.s (sA g9) (l.length+n+1) c9)) bq br ga m neg A1 n1 c1 A2 n2 c2 V' (qSt m (k+1) (fun _=>[]) (aJ l []) [1] (List.replicate l.length 0++(List.range (n+1)).map (aQ t)) [v] [])/\V' (m+3)=V1 (m+3)):=Hx (⟨_,by have h9:=J9.o.b;rw[jzfh,mZ, <-LC.o.2,List.append_assoc,show(List.range n).map (aQ t)++[aQ t n]=(List.range (n+1)).map (aQ t) by rw[kZc,List.map_append];rfl]at h9;exact h9,bU _ _ qO⟩);clear hK KK z0 t0 J9 HSW XD;refine wpAny_done qK ?_ _;generalize wc.setCell (aD bq 2) (.s (sA g9) (l.length+n+1) c9)=we at*;obtain⟨V2,k1,k2⟩:=N9.o;have h8:PgI w7 we bq br ga m neg A1 n1 c1 A2 n2 c2 V2 (qSt m (l.length+(n+1)) (fun _=>[]) (aJ l []) [1] (List.replicate l.length 0++(List.range (n+1)).map (aQ t)) [v] []):=by
      rw[show l.length+(n+1)=k+1 by have:=HK.o;omega];exact k1
     have qp:=Hx (kQa h8 (k2.trans N1.o.2));clear N9 N1 k1 k2 h8;go_wp2
     go_roundg (L2-(n+1))
     case measure=>omega
     exact⟨n+1,V2,rfl,qO,by go_num,qp⟩
    as_aux_lemma=>
     obtain rfl:n=L2:=qO;obtain⟨V0,qC⟩:∃V0,V0=V:=⟨_,rfl⟩;rw[<-qC]at J;have vk:m<=l.length+n:=(by have:=HM.o;omega);have h8:PgI w7 wr bq br ga m neg A1 n1 c1 A2 n2 c2 V0 (qSt m 0 (aJ l []) (aJ l []) [1] (bJ t l) [v] []):=by
      have h9:=J.o.1;rw[jzfi vk,jzq (aJ l []),show(List.replicate l.length (0:Rat)++(List.range n).map (aQ t))=bJ t l by unfold bJ;rw[qJ.o.2]]at h9;exact h9
     have I0:=Hx (kQa h8 J.o.2);clear J vh hn qC vk h8;have za:2*t.links.length=n:=qJ.o.2;have zm:(2*t.links.length+1)^t.nodes.toNat<=2^42:=yY (yY (Nat.pow_le_pow_left (show 2*t.links.length+1<=21 by omega) _) (kQk qD (show t.nodes.toNat<=7 by omega))) qD;have zG:=Hx zm;have vq:Hid (pr.length=n):=Hx (S7.o.ok.plen.trans za);clear za zm;go_wp2
     go_loopg [12,13] l.length (fun q vK it wx=>∃(d:Nat) (V:Nat->Value),l.length-d=q/\d<=l.length/\it=vI (d:Int)/\vK=V (m+3)/\Hid ((aV t l d).length<=60)/\Hid (PgI w7 wx bq br ga m neg A1 n1 c1 A2 n2 c2 V (qSt m 0 (aJ l (aV t l d)) (aJ l (aV t l d)) (1::(aV t l d).map fun _=>0) (bJ t l) (v::(aV t l d).map (plP Z)) ((List.range d).map fun d=>aK pr n (jsP t l d)))))
     case atStart=>exact⟨0,V0,rfl,yZ _,rfl,I0.o.2.symm,Hx (yZ _),Hx I0.o.1⟩
     as_aux_lemma=>
      obtain⟨d,V,rfl,hd,rfl,rfl,vJ,J⟩:=hrel;clear I0;obtain⟨W0,rfl⟩:∃W,W=wr:=⟨_,rfl⟩;by_cases vZ:d<l.length
      ·obtain⟨x,hx⟩:∃x,l[d]?=some x:=⟨_,yG vZ⟩
       obtain⟨f1,f2,_,f4,f5⟩:=HF.o.nodes vZ;have v7:l[d]=x:=(yH.1 hx).2;rw[v7]at f4 f5;obtain⟨bd,od,rfl,_,a0,a1,_,_⟩:=((HA.o.1.dem g3).K X7.o).at_ hx;rw[f4]at a0;rw[f5]at a1;have zL:0<=t.nodes:=by
        have:=HF.o.v;unfold aI cU inB at this;simp at this;omega
       have qe:=Hx (show∀wx,Ext W0 wx->(wx.cell? (aD w.heap.size 0)=some (vI t.nodes)/\wx.cell? (aD w.heap.size 1)=some (.s AO t.over.length co)/\wx.cell? (aD w.heap.size 2)=some (.s AL t.links.length cl))/\wx.cell? (aD bd (od+d*4))=some (vI (bE l d:Int))/\wx.cell? (aD bd (od+d*4+1))=some (vI (bC l d:Int))from fun wx hx=>
        ⟨⟨(T7.o.K (J.o.ext.tr hx)).cell 0,(T7.o.K (J.o.ext.tr hx)).cell 1,(T7.o.K (J.o.ext.tr hx)).cell 2⟩,aA (J.o.ext.tr hx) a0,aA (J.o.ext.tr hx) a1⟩)
       have zc:=Hx (fun wx (hx:Ext W0 wx)=>jzho t AO co AL cl none 0 [] (bE l d) (bC l d) wx ((HA.o.1.top qY g2).K (X7.o.tr (J.o.ext.tr hx))) HF.o.v (Rd.nil _ _) qS qO qO zG.o);have XD:Hid (Ext W0 W0.drew):=Hx ((eR W0).drewN 1);have HSW:=Hx (qe.o _ XD.o);have dN:(d:Int)<(l.length:Int):=qO;have d0:(0:Int)<=(d:Int):=qO;clear hx f1 f2 f4 f5 v7 a0 a1 zL
       go_upto_region 27 with fail
       refine wX qe 12 ?_;refine wV 0 rfl HSW.o ?_;try simp only[qP]
       refine wP 1 rfl HSW.o ?_;try simp only[qP]
       refine wP 2 rfl HSW.o ?_;try simp only[qP]
       refine wP 3 rfl HSW.o ?_;try simp only[qP]
       refine wP 4 rfl HSW.o ?_;try simp only[qP]
       refine wV 5 rfl HSW.o ?_;try simp only[qP]
       refine wP 6 rfl HSW.o ?_;try simp only[qP]
       refine wP 7 rfl HSW.o ?_;try simp only[qP]
       refine wP 8 rfl HSW.o ?_;try simp only[qP]
       refine wP 9 rfl HSW.o ?_;try simp only[qP]
       refine wV 10 rfl HSW.o ?_;try simp only[qP]
       refine wC 11 rfl (fun KK hK=>?_);go_simp;refine(zc.o _ XD.o).mono ?_;rintro e wa ⟨vs,rfl,hP,xa⟩;obtain⟨AJ,cj,rfl⟩:=hP.form;have EA:=Hx (XD.o.tr xa);have PA:=Hx (iF.of hP rfl);have HSW:=Hx (qe.o _ EA.o);refine hK.o _ _ HSW.o ?_;clear hK KK xa hP;try simp only[qP]
       refine aY qK rfl qR (fun KK hK=>?_);go_simp;refine hK.o _ _ ?_;clear hK KK HSW qe zc XD;refine wpAny_done qK ?_ _;obtain⟨nj,vT⟩:∃nj,(kY t [] (bE l d) (bC l d)).length=nj:=⟨_,rfl⟩;rw[vT];have vt:Hid ((jsP t l d).length=nj):=Hx (vT);have PJ:Hid (iF wa AJ (jsP t l d)):=Hx (PA.o);have J1:=Hx (J.o.K EA.o);clear vT PA J EA;obtain⟨b5,x5⟩:=bA wa rV 33;have B5:Hid (PgB w7 (wa.alloc (.cells rV 33)) m V [(wa.heap.size,aK pr n ((jsP t l d).take 0))]):=Hx (PgB.more PgB.nil (RB.of b5 (eM _)) J1.o.ext.size J1.o.new);have J5:=Hx (J1.o.K x5);have P5:=Hx (PJ.o.K (aX.of_ext x5));clear b5 x5 J1 PJ
       go_upto_region 29 with fail
       generalize wa.alloc (.cells rV 33)=W5 at*;generalize wa.heap.size=gl at*;obtain⟨vK,qo⟩:∃vK,V (m+3)=vK:=⟨_,rfl⟩;rw[qo];have I5:=Hx (show PgI w7 W5 bq br ga m neg A1 n1 c1 A2 n2 c2 V (qSt m (0) (aJ l (aV t l d++((jsP t l d).take (0)).map fun x=>(d,x))) (aJ l (aV t l d++((jsP t l d).take (0)).map fun x=>(d,x))) (1::(aV t l d++((jsP t l d).take (0)).map fun x=>(d,x)).map fun _=>0) (bJ t l) (v::(aV t l d++((jsP t l d).take (0)).map fun x=>(d,x)).map (plP Z)) ((List.range d).map fun d=>aK pr n (jsP t l d)))from by
        have h9:=J5.o;rw[<-List.append_nil (aV t l d)]at h9;exact h9)
       clear J5;go_wp2
       go_loopg [16] nj (fun q it wx=>∃(i:Nat) (V:Nat->Value),nj-i=q/\i<=nj/\it=vI (i:Int)/\V (m+3)=vK/\Hid ((aV t l d++((jsP t l d).take (i)).map fun x=>(d,x)).length<=60)/\Hid (PgI w7 wx bq br ga m neg A1 n1 c1 A2 n2 c2 V (qSt m (0) (aJ l (aV t l d++((jsP t l d).take (i)).map fun x=>(d,x))) (aJ l (aV t l d++((jsP t l d).take (i)).map fun x=>(d,x))) (1::(aV t l d++((jsP t l d).take (i)).map fun x=>(d,x)).map fun _=>0) (bJ t l) (v::(aV t l d++((jsP t l d).take (i)).map fun x=>(d,x)).map (plP Z)) ((List.range d).map fun d=>aK pr n (jsP t l d)))/\PgB w7 wx m V [(gl,aK pr n ((jsP t l d).take i))]/\aX W5 wx))
       case atStart=>exact⟨0,V,rfl,yZ _,rfl,qo,Hx (by have:=vJ.o;simpa using this),Hx ⟨I5.o,B5.o,aX.refl _⟩⟩
       as_aux_lemma=>
        clear I5 B5 qo V;obtain⟨i,V,rfl,hi,rfl,qo,vF,K⟩:=hrel;obtain⟨W1,rfl⟩:∃W,W=wr:=⟨_,rfl⟩;by_cases zC:i<nj
        ·obtain⟨x,hx⟩:∃x,(jsP t l d)[i]?=some x:=⟨_,yG (by rw[vt.o];exact zC)⟩
         obtain⟨J,hJ⟩:∃J,J=aV t l d++((jsP t l d).take (i)).map fun x=>(d,x):=⟨_,rfl⟩;rw[<-hJ]at K vF;obtain⟨z1,qQ⟩:∃z1,J.length+1=z1:=⟨_,rfl⟩;have HX:=Hx (kQa hx (kQa hJ qQ));obtain⟨gC,cC,v0,_,_⟩:=(K.o.1.own m qO).form (by rw[lX];simp);rw[lX,kQo,xV,qQ]at v0;have y0:W1.cell? (aD bq 0)=some (V m):=K.o.1.qb.cell 0;rw[v0]at y0;have iN:(i:Int)<(nj:Int):=qO;have i0:(0:Int)<=(i:Int):=qO;clear hx hJ qQ v0;by_cases zF:60<z1
         ·have hq:(60:Int)<(z1:Int):=by omega
          have qp:=Hx (X7.o.tr K.o.1.ext);go_wp2;go_ret;exact⟨rfl,qp.o⟩
         have hq:decide ((60:Int)<(z1:Int))=false:=yP qO;have zy:z1<=60:=qO;clear zF;obtain⟨b7,x7⟩:=bA W1 rV 33;have K0:=Hx (show PgI w7 (W1.alloc (.cells rV 33)) bq br ga m neg A1 n1 c1 A2 n2 c2 V (qSt m (0) (aJ l (J)) (aJ l (J++[(d,x)])) (1::(J).map fun _=>0) (bJ t l) (v::(J).map (plP Z)) ((List.range d).map fun d=>aK pr n (jsP t l d)))/\PgB w7 (W1.alloc (.cells rV 33)) m V [(W1.heap.size,0),(gl,aK pr n ((jsP t l d).take i))]/\aX W5 (W1.alloc (.cells rV 33))from
          ⟨by rw[jzq (aJ l J)];exact K.o.1.K x7,(K.o.2.1.K x7).more (RB.of b7 (eM _)) K.o.1.ext.size K.o.1.new,K.o.2.2.tr (aX.of_ext x7)⟩)
         have vc:gl≠W1.heap.size:=(by have:=((K.o.2.1) gl _ List.mem_cons_self).1.lt;omega);clear b7 x7 K
         go_upto_region 35 with fail
         clear y0 hq;generalize W1.alloc (.cells rV 33)=W2 at*;generalize W1.heap.size=gx at*;have zB:Hid (gl≠gx):=Hx (vc);clear vc;go_wp2
         go_loopg [18] l.length (fun q it wx=>∃(k:Nat) (V:Nat->Value),l.length-k=q/\k<=l.length/\it=vI (k:Int)/\V (m+3)=vK/\Hid (PgI w7 wx bq br ga m neg A1 n1 c1 A2 n2 c2 V (qSt m (k) (aJ l (J)) (aJ l (J++[(d,x)])) (1::(J).map fun _=>0) (bJ t l) (v::(J).map (plP Z)) ((List.range d).map fun d=>aK pr n (jsP t l d)))/\PgB w7 wx m V [(gx,0),(gl,aK pr n ((jsP t l d).take i))]/\aX W5 wx))
         case atStart=>exact⟨0,V,rfl,yZ _,rfl,qo,K0⟩
         as_aux_lemma=>
          clear K0 qo V;obtain⟨k,V,rfl,hk,rfl,qo,L⟩:=hrel;by_cases vR:k<l.length
          ·have qm:k<m:=by have:=HM.o;omega
           have kN:(k:Int)<(l.length:Int):=qO;have kM:(k:Int)<(m:Int):=qO;have k0:(0:Int)<=(k:Int):=qO;by_cases vp:k=d
           case' pos=>
            have qx:Hid (aJ l (J++[(d,x)]) k=aJ l J k++[((-1:Int):Rat)]):=Hx (by rw[sR,qE vR];unfold cD;rw[qE vp];rfl);have zk:((k:Int)==(d:Int))=true:=by rw[vp];simp
           case' neg=>
            have qx:Hid (aJ l (J++[(d,x)]) k=aJ l J k++[((0:Int):Rat)]):=Hx (by rw[sR,qE vR];unfold cD;rw[qF vp];rfl);have zk:((k:Int)==(d:Int))=false:=by rw[yK];omega
           all_goals
            as_aux_lemma=>
             clear vp;have qe:Hid (∀wx,Ext wr wx->wx.cell? (aD bq 1)=some (.s (sA ga) m m)/\wx.cell? (aD ga k)=some (V k)):=Hx (fun wx hx=>⟨(L.o.1.qb.K hx).cell 1,((L.o.1.ab.K hx).cell k).trans (gD qm)⟩);have XD:Hid (Ext wr wr.drew):=Hx ((eR wr).drewN 1);have HSW:=Hx (qe.o _ XD.o)
             go_upto_region 41 with fail
             refine wX qe 13 ?_;refine wP 0 rfl HSW.o ?_;try simp only[qP]
             refine wV 1 rfl HSW.o ?_;try simp only[qP]
             refine wP 2 rfl HSW.o ?_;try simp only[qP]
             refine wP 3 rfl HSW.o ?_;try simp only[qP]
             refine wV 4 rfl HSW.o ?_;try simp only[qP]
             refine wP 5 rfl HSW.o ?_;try simp only[qP]
             refine wP 6 rfl HSW.o ?_;try simp only[qP]
             refine wV 7 rfl HSW.o ?_;try simp only[qP]
             refine wP 8 rfl HSW.o ?_;try simp only[qP]
             refine wC 9 rfl (fun KK hK=>?_);go_simp;refine(dS _ _ ⟨qO,qO⟩).mono ?_;rintro e wa ⟨nf,H1,p1,q1,H2,p2,q2,rfl,hR,xa⟩;have EA:=Hx (XD.o.tr xa);have RA:=Hx hR;have HSW:=Hx (qe.o _ EA.o);refine hK.o _ _ HSW.o ?_;clear hK KK xa hR;try simp only[qP]
             refine wC 10 rfl (fun KK hK=>?_);go_simp;have XN:Hid (Ext wa (wa.alloc (.cells #[.bool nf,.s H1 p1 q1,.s H2 p2 q2] 33))):=Hx ((eR wa).alloc _);have BW:=Hx (eN wa 33 #[.bool nf,.s H1 p1 q1,.s H2 p2 q2]);have EB:=Hx (EA.o.tr XN.o);have RB:=Hx (RA.o.K XN.o);have HSW:=Hx (qe.o _ EB.o);refine hK.o _ _ HSW.o ?_;clear hK KK XN;generalize wa.alloc (.cells #[.bool nf,.s H1 p1 q1,.s H2 p2 q2] 33)=wb at*;generalize wa.heap.size=gb at*;try simp only[qP]
             refine wC 11 rfl (fun KK hK=>?_);obtain⟨css,h1,h2,qa,h4⟩:=(L.o.1.own (k) qO).K QR.keep_ EB.o;have qg:Hid ((qSt m (k) (aJ l (J)) (aJ l (J++[(d,x)])) (1::(J).map fun _=>0) (bJ t l) (v::(J).map (plP Z)) ((List.range d).map fun d=>aK pr n (jsP t l d)) k).length=z1):=Hx (by rw[lW qm,qF (kZr k),jzx];exact HX.o.2.2);rw[qg.o]at qa;refine fS wb 35 33 _ 3 56 _ _ rfl underlying35 Tryz.info44 rfl qD w7.heap.size (V (k)) (z1) css.flatten qR qa [.bool nf,.s H1 p1 q1,.s H2 p2 q2] rfl (by simp[Value.oneCell']) gb qR BW.o (by unfold maxLen;omega) qO ((L.o.1.ext.tr EB.o).size) ?_;intro g9 c9 wc qi qf qh;have J9:=Hx ((L.o.1.K EB.o).pushed qO qg.o h1 h2 qa h4 RB.o qi qf qh);have B9:=Hx ((L.o.2.1.K EB.o).pushed qO qa qf qh (n':=(z1)+1) (c7:=c9));have K9:=Hx ((aX.of_ext EB.o).tr (aX.own qa qf));have HSW:Hid (wc.cell? (aD bq 1)=some (.s (sA ga) m m)/\wc.cell? (aD ga k)=some (V k)):=Hx (⟨J9.o.qb.cell 1,(J9.o.ab.cell k).trans (gD qm)⟩);refine hK.o _ _ HSW.o ?_;clear hK KK h1 h2 qa h4 qi qf qh css qg EA RA EB RB BW qe;try simp only[qP]
             have z0:wc.frozen? (aD ga k)=false:=J9.o.ab.frozen _;have t0:wc.cell? (aD ga k)=some (V (k)):=(J9.o.ab.cell k).trans (gD qm);refine wP 12 rfl HSW.o ?_;try simp only[qP]
             refine aY qK rfl qR (fun KK hK=>?_);go_simp;refine hK.o _ _ ?_;have N9:Hid (∃V',PgI w7 (wc.setCell (aD ga k) (.s (sA g9) (z1+1) c9)) bq br ga m neg A1 n1 c1 A2 n2 c2 V' (qSt m ((k+1)) (aJ l (J)) (aJ l (J++[(d,x)])) (1::(J).map fun _=>0) (bJ t l) (v::(J).map (plP Z)) ((List.range d).map fun d=>aK pr n (jsP t l d)))/\V' (m+3)=V (m+3)/\PgB w7 (wc.setCell (aD ga k) (.s (sA g9) (z1+1) c9)) m V' [(gx,0),(gl,aK pr n ((jsP t l d).take i))]/\aX wr (wc.setCell (aD ga k) (.s (sA g9) (z1+1) c9))):=Hx (⟨_,by rw[<-sJ qm qx.o];exact J9.o.row qm,bU _ _ qO,B9.o.store J9.o.ab qD qD _,K9.o.tr (aX.store J9.o.ab qD qD _)⟩);clear hK KK z0 t0 J9 HSW XD;refine wpAny_done qK ?_ _;generalize wc.setCell (aD ga k) (.s (sA g9) (z1+1) c9)=wd at*;obtain⟨V2,k1,k2,k3,k4⟩:=N9.o;have qp:=Hx (kQa k1 (kQa k3 (L.o.2.2.tr k4)));have qy:=k2.trans qo;clear N9 L k1 k2 k3 k4 qx zk;go_wp2
             go_roundg (l.length-(k+1))
             case measure=>omega
             exact⟨k+1,V2,rfl,qO,by go_num,qy,qp⟩
          as_aux_lemma=>
           obtain rfl:k=l.length:=qO;have L0:Hid (PgI w7 wr bq br ga m neg A1 n1 c1 A2 n2 c2 V (qSt m (l.length) (aJ l (J)) (aJ l (J++[(d,x)])) (1::(J).map fun _=>0) (bJ t l) (v::(J).map (plP Z)) ((List.range d).map fun d=>aK pr n (jsP t l d)))/\PgB w7 wr m V [(gx,bX pr x 0),(gl,aK pr n ((jsP t l d).take i))]/\aX W5 wr):=Hx (L.o);obtain⟨W3,rfl⟩:∃W,W=wr:=⟨_,rfl⟩;clear L vR hk;obtain⟨bx,ox,Ax,cx,zH,vU,zo,vz⟩:=P5.o.atK HX.o.1;subst zH;obtain⟨nx,vG⟩:∃nx,x.length=nx:=⟨_,rfl⟩;rw[vG]at vU vz;have CW:=Hx vz;have XC:=Hx (kQa zo (kQa vG vU));have vL:nx<=1000:=by
            have h9:=(jzpj HF.o.v (yJ HX.o.1)).2;omega
           clear zo vG vU vz;go_wp2
           go_loopg [20] n (fun q it wx=>∃(a:Nat) (V:Nat->Value),n-a=q/\a<=n/\it=vI (a:Int)/\V (m+3)=vK/\Hid (PgI w7 wx bq br ga m neg A1 n1 c1 A2 n2 c2 V (qSt m (l.length+a) (aJ l (J)) (aJ l (J++[(d,x)])) (1::(J).map fun _=>0) (bJ t l) (v::(J).map (plP Z)) ((List.range d).map fun d=>aK pr n (jsP t l d)))/\PgB w7 wx m V [(gx,bX pr x a),(gl,aK pr n ((jsP t l d).take i))]/\aX W5 wx))
           case atStart=>exact⟨0,V,rfl,yZ _,rfl,qo,L0⟩
           as_aux_lemma=>
            clear L0 qo V;obtain⟨a,V,rfl,ha,rfl,qo,L⟩:=hrel;by_cases vW:a<n
            ·obtain⟨k,hk⟩:∃k,l.length+a=k:=⟨_,rfl⟩
             rw[hk]at L;have HK:=Hx hk;have qm:k<m:=(by have:=HM.o;omega);have aN:(a:Int)<(n:Int):=qO;have a0:(0:Int)<=(a:Int):=qO;have kM:(k:Int)<(m:Int):=qO;have k0:(0:Int)<=(k:Int):=qO;have iN:(i:Int)<(nj:Int):=qO;have i0:(0:Int)<=(i:Int):=qO;have qz:IntKind.i64.wrap ((l.length:Int)+(a:Int))=(k:Int):=(by rw[IntKind.wrap_i64];omega);clear hk;have w1:=CW.o _ L.o.2.2
             go_wp2_with fail
             refine(jzou x a Ax nx cx XC.o.2.1 _ ((L.o.2.2.rdT (.inl rfl) XC.o.1).rd) qO).mono ?_;rintro e wh ⟨rfl,xh⟩;have LH:Hid (PgI w7 wh bq br ga m neg A1 n1 c1 A2 n2 c2 V (qSt m (k) (aJ l (J)) (aJ l (J++[(d,x)])) (1::(J).map fun _=>0) (bJ t l) (v::(J).map (plP Z)) ((List.range d).map fun d=>aK pr n (jsP t l d)))/\PgB w7 wh m V [(gx,bX pr x a),(gl,aK pr n ((jsP t l d).take i))]/\aX W5 wh):=Hx (⟨L.o.1.K xh,L.o.2.1.K xh,L.o.2.2.tr (aX.of_ext xh)⟩);clear xh L w1;by_cases qM:a∈x
             case' pos=>
              have ve:decide (a∈x)=true:=yO qM;rw[ve];have qx:Hid (aJ l (J++[(d,x)]) k=aJ l J k++[((1:Int):Rat)]):=Hx (by rw[sR,qF (by have:=HK.o;omega),show k-l.length=a by have:=HK.o;omega];unfold cA;rw[qE qM];rfl);have v9:=Hx (jzon (pr:=pr) qM);clear qM ve;obtain⟨ny,Y1,my,fy,Y2,qB,qH,⟨s0,s1,s2⟩,_,hy⟩:=(LH.o.2.1 gx _ List.mem_cons_self).1.at3;obtain⟨bp,op,vu,Q1,mq,fq,Q2,vo,vx,eP,_,r0,r1,r2,hq⟩:=S7.o.prs.at_ (aP (show a<pr.length by rw[vq.o];exact vW));injection eP with eP
              injection eP with eP1 eP2
              subst eP1;subst eP2;rw[kQu]at r0 r1 r2;obtain⟨l1,zA⟩:=hy.lens (jzr S7.o.sp qD a);obtain⟨l2,zD⟩:=hq.lens (S7.o.sp _ (yJ (aP (show a<pr.length by rw[vq.o];exact vW))));have zE:a*(20+1)<=20*21:=kQq qO qO;have qI:=Hx (kQa hy hq);have qe:=Hx (show∀wx,Ext wh wx->(wx.cell? (aD gx 0)=some (.bool ny)/\wx.cell? (aD gx 1)=some (.s Y1 my fy)/\wx.cell? (aD gx 2)=some (.s Y2 qB qH))/\wx.cell? (aD b6 4)=some (.s (sA gp) n n)/\(wx.cell? (aD gp (a*3))=some (.bool vu)/\wx.cell? (aD gp (a*3+1))=some (.s Q1 mq fq)/\wx.cell? (aD gp (a*3+2))=some (.s Q2 vo vx))from fun wx hx=>
               ⟨⟨aA hx s0,aA hx s1,aA hx s2⟩,(B7.o.K (LH.o.1.ext.tr hx)).cell 4,aA (LH.o.1.ext.tr hx) r0,aA (LH.o.1.ext.tr hx) r1,aA (LH.o.1.ext.tr hx) r2⟩)
              have XD:Hid (Ext wh wh.drew):=Hx ((eR wh).drewN 1);have HSW:=Hx (qe.o _ XD.o);clear hy hq s0 s1 s2 r0 r1 r2
              go_upto_region 48 with fail
              refine wX qe 7 ?_;refine wV 0 rfl HSW.o ?_;try simp only[qP]
              refine wP 1 rfl HSW.o ?_;try simp only[qP]
              refine wV 2 rfl HSW.o ?_;try simp only[qP]
              refine wP 3 rfl HSW.o ?_;try simp only[qP]
              refine wP 4 rfl HSW.o ?_;try simp only[qP]
              refine wV 5 rfl HSW.o ?_;try simp only[qP]
              refine wC 6 rfl (fun KK hK=>?_);go_simp;refine(fM ny vu Y1 my fy Y2 qB qH Q1 mq fq Q2 vo vx (bX pr x a) (at_ pr a) _ (qI.o.1.K XD.o) (qI.o.2.K (LH.o.1.ext.tr XD.o)) qO qO qO qO (fD (kQx (kQ7 _) (kQ7 _)))).mono ?_;rintro e wp ⟨n9,A9,l9,d9,q8,qZ,q9,rfl,h9,x9⟩;rw[<-v9.o]at h9;have E9:=Hx (XD.o.tr x9);have HSW:=Hx (qe.o _ E9.o);have BP:=Hx ((LH.o.2.1.K E9.o).put (by intro y hy;rw[xD.1 hy];exact zB.o) h9);have IP:=Hx ((LH.o.1.K E9.o).put (((LH.o.2.1.K E9.o) gx _ List.mem_cons_self)) (.bool n9) (.s A9 l9 d9) (.s q8 qZ q9));have KP:Hid (aX W5 (((wp.setCell (aD gx 0) (.bool n9)).setCell (aD gx 1) (.s A9 l9 d9)).setCell (aD gx 2) (.s q8 qZ q9))):=Hx (LH.o.2.2.tr ((aX.of_ext E9.o).tr (aX.put ((LH.o.2.1.K E9.o) gx _ List.mem_cons_self).1 _ _ _)));obtain⟨_,_,_,_,_,_,_,_,⟨z0,vl,z2⟩,_⟩:=((LH.o.2.1.K E9.o) gx _ List.mem_cons_self).1.at3;refine hK.o _ _ HSW.o ?_;clear hK KK x9 h9;try simp only[qP]
              obtain⟨⟨s0,s1,s2⟩,_,_,_⟩:=HSW.o;refine aY qK rfl qR (fun KK hK=>?_);go_simp;refine hK.o _ _ ?_;clear hK KK;refine wpAny_done qK ?_ _;clear s0 s1 s2 z0 vl z2 HSW qe XD qI E9 v9;have qA:Hid (PgI w7 (((wp.setCell (aD gx 0) (.bool n9)).setCell (aD gx 1) (.s A9 l9 d9)).setCell (aD gx 2) (.s q8 qZ q9)) bq br ga m neg A1 n1 c1 A2 n2 c2 V (qSt m (k) (aJ l (J)) (aJ l (J++[(d,x)])) (1::(J).map fun _=>0) (bJ t l) (v::(J).map (plP Z)) ((List.range d).map fun d=>aK pr n (jsP t l d)))/\PgB w7 (((wp.setCell (aD gx 0) (.bool n9)).setCell (aD gx 1) (.s A9 l9 d9)).setCell (aD gx 2) (.s q8 qZ q9)) m V [(gx,bX pr x (a+1)),(gl,aK pr n ((jsP t l d).take i))]/\aX W5 (((wp.setCell (aD gx 0) (.bool n9)).setCell (aD gx 1) (.s A9 l9 d9)).setCell (aD gx 2) (.s q8 qZ q9))):=Hx (⟨IP.o,BP.o,KP.o⟩);clear IP BP KP LH;generalize ((wp.setCell (aD gx 0) (.bool n9)).setCell (aD gx 1) (.s A9 l9 d9)).setCell (aD gx 2) (.s q8 qZ q9)=wq at*
             case' neg=>
              have ve:decide (a∈x)=false:=yP qM;rw[ve];have qx:Hid (aJ l (J++[(d,x)]) k=aJ l J k++[((0:Int):Rat)]):=Hx (by rw[sR,qF (by have:=HK.o;omega),show k-l.length=a by have:=HK.o;omega];unfold cA;rw[qF qM];rfl);have qA:Hid (PgI w7 wh bq br ga m neg A1 n1 c1 A2 n2 c2 V (qSt m (k) (aJ l (J)) (aJ l (J++[(d,x)])) (1::(J).map fun _=>0) (bJ t l) (v::(J).map (plP Z)) ((List.range d).map fun d=>aK pr n (jsP t l d)))/\PgB w7 wh m V [(gx,bX pr x (a+1)),(gl,aK pr n ((jsP t l d).take i))]/\aX W5 wh):=Hx (⟨LH.o.1,by rw[jzoo qM];exact LH.o.2.1,LH.o.2.2⟩);clear qM ve LH;generalize wh=wq at*
             all_goals
              as_aux_lemma=>
               skip
               have qe:Hid (∀wx,Ext wq wx->wx.cell? (aD bq 1)=some (.s (sA ga) m m)/\wx.cell? (aD ga k)=some (V k)):=Hx (fun wx hx=>⟨(qA.o.1.qb.K hx).cell 1,((qA.o.1.ab.K hx).cell k).trans (gD qm)⟩);have XD:Hid (Ext wq wq.drew):=Hx ((eR wq).drewN 1);have HSW:=Hx (qe.o _ XD.o)
               go_upto_region 49 with fail
               refine wX qe 19 ?_;refine wP 0 rfl HSW.o ?_;try simp only[qP]
               refine wV 1 rfl HSW.o ?_;try simp only[qP]
               refine wP 2 rfl HSW.o ?_;try simp only[qP]
               refine wP 3 rfl HSW.o ?_;try simp only[qP]
               refine wP 4 rfl HSW.o ?_;try simp only[qP]
               refine wP 5 rfl HSW.o ?_;try simp only[qP]
               refine wP 6 rfl HSW.o ?_;try simp only[qP]
               refine wV 7 rfl HSW.o ?_;try simp only[qP]
               refine wP 8 rfl HSW.o ?_;try simp only[qP]
               refine wP 9 rfl HSW.o ?_;try simp only[qP]
               refine wP 10 rfl HSW.o ?_;try simp only[qP]
               refine wP 11 rfl HSW.o ?_;try simp only[qP]
               refine wP 12 rfl HSW.o ?_;try simp only[qP]
               refine wV 13 rfl HSW.o ?_;try simp only[qP]
               refine wP 14 rfl HSW.o ?_;try simp only[qP]
               refine wC 15 rfl (fun KK hK=>?_);go_simp;refine(dS _ _ ⟨qO,qO⟩).mono ?_;rintro e wa ⟨nf,H1,p1,q1,H2,p2,q2,rfl,hR,xa⟩;have EA:=Hx (XD.o.tr xa);have RA:=Hx hR;have HSW:=Hx (qe.o _ EA.o);refine hK.o _ _ HSW.o ?_;clear hK KK xa hR;try simp only[qP]
               refine wC 16 rfl (fun KK hK=>?_);go_simp;have XN:Hid (Ext wa (wa.alloc (.cells #[.bool nf,.s H1 p1 q1,.s H2 p2 q2] 33))):=Hx ((eR wa).alloc _);have BW:=Hx (eN wa 33 #[.bool nf,.s H1 p1 q1,.s H2 p2 q2]);have EB:=Hx (EA.o.tr XN.o);have RB:=Hx (RA.o.K XN.o);have HSW:=Hx (qe.o _ EB.o);refine hK.o _ _ HSW.o ?_;clear hK KK XN;generalize wa.alloc (.cells #[.bool nf,.s H1 p1 q1,.s H2 p2 q2] 33)=wb at*;generalize wa.heap.size=gb at*;try simp only[qP]
               refine wC 17 rfl (fun KK hK=>?_);obtain⟨css,h1,h2,qa,h4⟩:=(qA.o.1.own (k) qO).K QR.keep_ EB.o;have qg:Hid ((qSt m (k) (aJ l (J)) (aJ l (J++[(d,x)])) (1::(J).map fun _=>0) (bJ t l) (v::(J).map (plP Z)) ((List.range d).map fun d=>aK pr n (jsP t l d)) k).length=z1):=Hx (by rw[lW qm,qF (kZr k),jzx];exact HX.o.2.2);rw[qg.o]at qa;refine fS wb 35 33 _ 3 56 _ _ rfl underlying35 Tryz.info44 rfl qD w7.heap.size (V (k)) (z1) css.flatten qR qa [.bool nf,.s H1 p1 q1,.s H2 p2 q2] rfl (by simp[Value.oneCell']) gb qR BW.o (by unfold maxLen;omega) qO ((qA.o.1.ext.tr EB.o).size) ?_;intro g9 c9 wc qi qf qh;have J9:=Hx ((qA.o.1.K EB.o).pushed qO qg.o h1 h2 qa h4 RB.o qi qf qh);have B9:=Hx ((qA.o.2.1.K EB.o).pushed qO qa qf qh (n':=(z1)+1) (c7:=c9));have K9:=Hx ((aX.of_ext EB.o).tr (aX.own qa qf));have HSW:Hid (wc.cell? (aD bq 1)=some (.s (sA ga) m m)/\wc.cell? (aD ga k)=some (V k)):=Hx (⟨J9.o.qb.cell 1,(J9.o.ab.cell k).trans (gD qm)⟩);refine hK.o _ _ HSW.o ?_;clear hK KK h1 h2 qa h4 qi qf qh css qg EA RA EB RB BW qe;try simp only[qP]
               have z0:wc.frozen? (aD ga k)=false:=J9.o.ab.frozen _;have t0:wc.cell? (aD ga k)=some (V (k)):=(J9.o.ab.cell k).trans (gD qm);refine wP 18 rfl HSW.o ?_;try simp only[qP]
               refine aY qK rfl qR (fun KK hK=>?_);go_simp;refine hK.o _ _ ?_;have N9:Hid (∃V',PgI w7 (wc.setCell (aD ga k) (.s (sA g9) (z1+1) c9)) bq br ga m neg A1 n1 c1 A2 n2 c2 V' (qSt m ((k+1)) (aJ l (J)) (aJ l (J++[(d,x)])) (1::(J).map fun _=>0) (bJ t l) (v::(J).map (plP Z)) ((List.range d).map fun d=>aK pr n (jsP t l d)))/\V' (m+3)=V (m+3)/\PgB w7 (wc.setCell (aD ga k) (.s (sA g9) (z1+1) c9)) m V' [(gx,bX pr x (a+1)),(gl,aK pr n ((jsP t l d).take i))]/\aX wq (wc.setCell (aD ga k) (.s (sA g9) (z1+1) c9))):=Hx (⟨_,by rw[<-sJ qm qx.o];exact J9.o.row qm,bU _ _ qO,B9.o.store J9.o.ab qD qD _,K9.o.tr (aX.store J9.o.ab qD qD _)⟩);clear hK KK z0 t0 J9 HSW XD;refine wpAny_done qK ?_ _;generalize wc.setCell (aD ga k) (.s (sA g9) (z1+1) c9)=wd at*;obtain⟨V2,k1,k2,k3,k4⟩:=N9.o;have h8:PgI w7 wd bq br ga m neg A1 n1 c1 A2 n2 c2 V2 (qSt m ((l.length+(a+1))) (aJ l (J)) (aJ l (J++[(d,x)])) (1::(J).map fun _=>0) (bJ t l) (v::(J).map (plP Z)) ((List.range d).map fun d=>aK pr n (jsP t l d))):=by
                rw[show l.length+(a+1)=k+1 by have:=HK.o;omega];exact k1
               have qp:=Hx (kQa h8 (kQa k3 (qA.o.2.2.tr k4)));clear h8;have qy:=k2.trans qo;clear N9 qA k1 k2 k3 k4 qx qz;go_wp2
               go_roundg (n-(a+1))
               case measure=>omega
               exact⟨a+1,V2,rfl,qO,by go_num,qy,qp⟩
            as_aux_lemma=>
             obtain rfl:a=n:=qO;have vk:m<=l.length+a:=(by have:=HM.o;omega);have h8:PgI w7 wr bq br ga m neg A1 n1 c1 A2 n2 c2 V (qSt m 0 (aJ l (J++[(d,x)])) (aJ l (J++[(d,x)])) (1::(J).map fun _=>0) (bJ t l) (v::(J).map (plP Z)) ((List.range d).map fun d=>aK pr a (jsP t l d))):=by
              have h9:=L.o.1;rw[jzfi vk,jzq (aJ l (J++[(d,x)]))]at h9;exact h9
             have E0:=Hx (kQa h8 L.o.2);clear L vW ha vk h8;obtain⟨W4,rfl⟩:∃W,W=wr:=⟨_,rfl⟩;obtain⟨ny,Y1,my,fy,Y2,qB,qH,⟨s0,s1,s2⟩,_,hy⟩:=(E0.o.2.1 gx _ List.mem_cons_self).1.at3;obtain⟨vu,Q1,mq,fq,Q2,vo,vx,⟨r0,r1,r2⟩,⟨z0,vl,z2⟩,hq⟩:=(E0.o.2.1 gl _ (xO _ List.mem_cons_self)).1.at3;have zE:a*(20+1)<=20*21:=kQq qO qO;obtain⟨l1,zA⟩:=hy.lens (jzr S7.o.sp qD a);obtain⟨l2,zD⟩:=hq.lens (jzfj S7.o.sp qD a _);have qI:=Hx (kQa hy hq);have LT:=Hx (jzoq (pr:=pr) (L2:=a) HX.o.1);clear hy hq
             go_upto_region 50 with fail
             go_cut [226] (fun s wx=>s=.bool (decide (i=0\/bX pr x a<aK pr a ((jsP t l d).take i)))/\Hid (Ext W4 wx))
             case first=>
              by_cases vg:i=0
              ·have e9:((i:Int)==0)=true:=by rw[vg];rfl
               have FD:Hid (decide (i=0\/bX pr x a<aK pr a ((jsP t l d).take i))=true):=Hx (yO (.inl vg));clear vg;go_wp2;go_meet;exact⟨by rw[FD.o],Hx (eR _)⟩
              have e9:((i:Int)==0)=false:=(by rw[yK];omega);have FD:=Hx (show decide (i=0\/bX pr x a<aK pr a ((jsP t l d).take i))=decide (bG (bX pr x a) (aK pr a ((jsP t l d).take i))<0)from by
               rw[decide_eq_decide,oO];exact⟨fun h=>h.resolve_left vg,.inr⟩)
              clear vg
              go_wp2_with fail
              refine(fI ny vu Y1 my fy Y2 qB qH Q1 mq fq Q2 vo vx (bX pr x a) (aK pr a ((jsP t l d).take i)) _ qI.o.1 qI.o.2 qO qO qO qO).mono ?_;rintro e w9 ⟨rfl,x9⟩;have X9:=Hx x9;clear x9;go_wp2;go_meet;exact⟨by rw[FD.o],X9⟩
             obtain⟨rfl,X9⟩:=hcut;generalize wc=W6a at*;have s0:=aA X9.o s0;have s1:=aA X9.o s1;have s2:=aA X9.o s2;have E6:Hid (PgI w7 W6a bq br ga m neg A1 n1 c1 A2 n2 c2 V (qSt m 0 (aJ l (J++[(d,x)])) (aJ l (J++[(d,x)])) (1::(J).map fun _=>0) (bJ t l) (v::(J).map (plP Z)) ((List.range d).map fun d=>aK pr a (jsP t l d)))/\PgB w7 W6a m V [(gx,bX pr x a),(gl,aK pr a ((jsP t l d).take i))]/\aX W5 W6a):=Hx (⟨E0.o.1.K X9.o,E0.o.2.1.K X9.o,E0.o.2.2.tr (aX.of_ext X9.o)⟩);obtain⟨_,_,_,_,_,_,_,⟨r0,r1,r2⟩,⟨z0,vl,z2⟩,_⟩:=(E6.o.2.1 gl _ (xO _ List.mem_cons_self)).1.at3;have zq:=Hx (qI.o.1.K X9.o);clear E0 X9 qI
             go_upto_if 226 with fail
             go_cut [] (fun wx=>Hid (PgI w7 wx bq br ga m neg A1 n1 c1 A2 n2 c2 V (qSt m 0 (aJ l (J++[(d,x)])) (aJ l (J++[(d,x)])) (1::(J).map fun _=>0) (bJ t l) (v::(J).map (plP Z)) ((List.range d).map fun d=>aK pr a (jsP t l d)))/\PgB w7 wx m V [(gl,aK pr a ((jsP t l d).take (i+1)))]/\aX W5 wx))
             case first=>
              by_cases qX:i=0\/bX pr x a<aK pr a ((jsP t l d).take i)
              ·have vi:decide (i=0\/bX pr x a<aK pr a ((jsP t l d).take i))=true:=yO qX
               rw[vi];have FB:Hid (aK pr a ((jsP t l d).take (i+1))=bX pr x a):=Hx (by rw[LT.o,qE qX]);clear qX vi;go_wp2;go_meet;exact Hx ⟨E6.o.1.put (E6.o.2.1 gl _ (xO _ List.mem_cons_self)) _ _ _,by rw[FB.o];exact(E6.o.2.1.less.put (fun _ h=>by cases h) zq.o),E6.o.2.2.tr (aX.put (E6.o.2.1 gl _ (xO _ List.mem_cons_self)).1 _ _ _)⟩
              have vi:decide (i=0\/bX pr x a<aK pr a ((jsP t l d).take i))=false:=yP qX;rw[vi];have FB:Hid (aK pr a ((jsP t l d).take (i+1))=aK pr a ((jsP t l d).take i)):=Hx (by rw[LT.o,qF qX]);clear qX vi;go_wp2;go_meet;exact Hx ⟨E6.o.1,by rw[FB.o];exact E6.o.2.1.less,E6.o.2.2⟩
             have C6:=hcut;clear hcut E6 zq s0 s1 s2 r0 r1 r2 z0 vl z2 LT;generalize wc=W7a at*;have qe:Hid (∀wx,Ext W7a wx->wx.cell? (aD bq 0)=some (V m)/\True):=Hx (fun wx hx=>⟨(C6.o.1.qb.K hx).cell 0,trivial⟩);have XD:Hid (Ext W7a W7a.drew):=Hx ((eR W7a).drewN 1);have HSW:=Hx (qe.o _ XD.o)
             go_upto_region 52 with fail
             refine wX qe 6 ?_;refine wP 0 rfl HSW.o ?_;try simp only[qP]
             refine wV 1 rfl HSW.o ?_;try simp only[qP]
             refine wC 2 rfl (fun KK hK=>?_);go_simp;refine(dS 0 _ ⟨qO,qO⟩).mono ?_;rintro e wa ⟨nf,H1,p1,q1,H2,p2,q2,rfl,hR,xa⟩;have EA:=Hx (XD.o.tr xa);have RA:=Hx hR;have HSW:=Hx (qe.o _ EA.o);refine hK.o _ _ HSW.o ?_;clear hK KK xa hR;try simp only[qP]
             refine wC 3 rfl (fun KK hK=>?_);go_simp;have XN:Hid (Ext wa (wa.alloc (.cells #[.bool nf,.s H1 p1 q1,.s H2 p2 q2] 33))):=Hx ((eR wa).alloc _);have BW:=Hx (eN wa 33 #[.bool nf,.s H1 p1 q1,.s H2 p2 q2]);have EB:=Hx (EA.o.tr XN.o);have RB:=Hx (RA.o.K XN.o);have HSW:=Hx (qe.o _ EB.o);refine hK.o _ _ HSW.o ?_;clear hK KK XN;generalize wa.alloc (.cells #[.bool nf,.s H1 p1 q1,.s H2 p2 q2] 33)=wb at*;generalize wa.heap.size=gb at*;try simp only[qP]
             refine wC 4 rfl (fun KK hK=>?_);obtain⟨css,h1,h2,qa,h4⟩:=(C6.o.1.own (m) qO).K QR.keep_ EB.o;have qg:Hid ((qSt m 0 (aJ l (J++[(d,x)])) (aJ l (J++[(d,x)])) (1::(J).map fun _=>0) (bJ t l) (v::(J).map (plP Z)) ((List.range d).map fun d=>aK pr a (jsP t l d)) m).length=z1):=Hx (by rw[lX,kQo,xV];exact HX.o.2.2);rw[qg.o]at qa;refine fS wb 35 33 _ 3 56 _ _ rfl underlying35 Tryz.info44 rfl qD w7.heap.size (V (m)) (z1) css.flatten qR qa [.bool nf,.s H1 p1 q1,.s H2 p2 q2] rfl (by simp[Value.oneCell']) gb qR BW.o (by unfold maxLen;omega) qO ((C6.o.1.ext.tr EB.o).size) ?_;intro g9 c9 wc qi qf qh;have J9:=Hx ((C6.o.1.K EB.o).pushed qO qg.o h1 h2 qa h4 RB.o qi qf qh);have B9:=Hx ((C6.o.2.1.K EB.o).pushed qO qa qf qh (n':=(z1)+1) (c7:=c9));have K9:=Hx ((aX.of_ext EB.o).tr (aX.own qa qf));have HSW:Hid (wc.cell? (aD bq 0)=some (V m)/\True):=Hx (⟨J9.o.qb.cell 0,trivial⟩);refine hK.o _ _ HSW.o ?_;clear hK KK h1 h2 qa h4 qi qf qh css qg EA RA EB RB BW qe;try simp only[qP]
             have z0:wc.frozen? (aD bq 0)=false:=J9.o.qb.frozen _;have t0:wc.cell? (aD bq 0)=some (V (m)):=J9.o.qb.cell 0;refine wP 5 rfl HSW.o ?_;try simp only[qP]
             refine aY qK rfl qR (fun KK hK=>?_);go_simp;refine hK.o _ _ ?_;have N9:Hid (∃V',PgI w7 (wc.setCell (aD bq 0) (.s (sA g9) (z1+1) c9)) bq br ga m neg A1 n1 c1 A2 n2 c2 V' (qSt m 0 (aJ l (J++[(d,x)])) (aJ l (J++[(d,x)])) (1::(J++[(d,x)]).map fun _=>0) (bJ t l) (v::(J).map (plP Z)) ((List.range d).map fun d=>aK pr a (jsP t l d)))/\V' (m+3)=V (m+3)/\PgB w7 (wc.setCell (aD bq 0) (.s (sA g9) (z1+1) c9)) m V' [(gl,aK pr a ((jsP t l d).take (i+1)))]/\aX W7a (wc.setCell (aD bq 0) (.s (sA g9) (z1+1) c9))):=Hx (⟨_,by have h9:=J9.o.c;rw[jzok,lX,show(1::J.map fun _=>(0:Rat))++[((0:Int):Rat)]=1::(J++[(d,x)]).map fun _=>(0:Rat) by rw[List.map_append];rfl]at h9;exact h9,bU _ _ qO,B9.o.store J9.o.qb qD qD _,K9.o.tr (aX.store J9.o.qb qD qD _)⟩);clear hK KK z0 t0 J9 HSW XD;refine wpAny_done qK ?_ _;generalize wc.setCell (aD bq 0) (.s (sA g9) (z1+1) c9)=wd at*;obtain⟨V1,k1,k2,k3,k4⟩:=N9.o;have M1:=Hx (kQa k1 (kQa k3 (C6.o.2.2.tr k4)));have va:=k2.trans qo;clear N9 C6 k1 k2 k3 k4 qo;have v4:=Hx (show∀z∈Z,z.1.2.length<=1000 from fun z hz=>by
              have h9:=((S7.o.arcs HF.o g3).1 (pzI z) (kQl.2 ⟨z,hz,rfl⟩)).1;have e:(pzI z).arcs.length=z.1.2.length:=xV ..;omega)
             have iN:(i:Int)<(nj:Int):=qO;have i0:(0:Int)<=(i:Int):=qO;have qe:Hid (∀wx,Ext wd wx->wx.cell? (aD br 1)=some (V1 (m+2))/\(wx.cell? (aD b6 0)=some (.bool neg)/\wx.cell? (aD b6 1)=some (.s A1 n1 c1)/\wx.cell? (aD b6 2)=some (.s A2 n2 c2)/\wx.cell? (aD b6 3)=some (.s AP np cp)/\wx.cell? (aD b6 4)=some (.s (sA gp) a a))/\wx.cell? (aD bx (ox+i))=some (.s Ax nx cx)):=Hx (fun wx hx=>⟨(M1.o.1.rb.K hx).cell 1,⟨(B7.o.K (M1.o.1.ext.tr hx)).cell 0,(B7.o.K (M1.o.1.ext.tr hx)).cell 1,(B7.o.K (M1.o.1.ext.tr hx)).cell 2,(B7.o.K (M1.o.1.ext.tr hx)).cell 3,(B7.o.K (M1.o.1.ext.tr hx)).cell 4⟩,CW.o _ (M1.o.2.2.tr (aX.of_ext hx))⟩);have XD:Hid (Ext wd wd.drew):=Hx ((eR wd).drewN 1);have HSW:=Hx (qe.o _ XD.o)
             go_upto_region 53 with fail
             refine wX qe 12 ?_;refine wP 0 rfl HSW.o ?_;try simp only[qP]
             refine wV 1 rfl HSW.o ?_;try simp only[qP]
             refine wV 2 rfl HSW.o ?_;try simp only[qP]
             refine wP 3 rfl HSW.o ?_;try simp only[qP]
             refine wP 4 rfl HSW.o ?_;try simp only[qP]
             refine wP 5 rfl HSW.o ?_;try simp only[qP]
             refine wP 6 rfl HSW.o ?_;try simp only[qP]
             refine wV 7 rfl HSW.o ?_;try simp only[qP]
             refine wC 8 rfl (fun KK hK=>?_);go_simp;refine(jzoi d x Ax nx cx neg A1 n1 c1 A2 n2 c2 AP np cp (sA gp) a a Z qJ.o.1 _ (S7.o.K (M1.o.1.ext.tr XD.o)).pat (((M1.o.2.2.tr (aX.of_ext XD.o)).rdT (.inl rfl) XC.o.1).rd) XC.o.2.1 XC.o.2.2 qO vL v4.o).mono ?_;rintro e wa ⟨nf,H1,p1,q1,H2,p2,q2,rfl,hR,xa⟩;have EA:=Hx (XD.o.tr xa);have RA:=Hx hR;have HSW:=Hx (qe.o _ EA.o);refine hK.o _ _ HSW.o ?_;clear hK KK xa hR;try simp only[qP]
             refine wC 9 rfl (fun KK hK=>?_);go_simp;have XN:Hid (Ext wa (wa.alloc (.cells #[.bool nf,.s H1 p1 q1,.s H2 p2 q2] 33))):=Hx ((eR wa).alloc _);have BW:=Hx (eN wa 33 #[.bool nf,.s H1 p1 q1,.s H2 p2 q2]);have EB:=Hx (EA.o.tr XN.o);have RB:=Hx (RA.o.K XN.o);have HSW:=Hx (qe.o _ EB.o);refine hK.o _ _ HSW.o ?_;clear hK KK XN;generalize wa.alloc (.cells #[.bool nf,.s H1 p1 q1,.s H2 p2 q2] 33)=wb at*;generalize wa.heap.size=gb at*;try simp only[qP]
             refine wC 10 rfl (fun KK hK=>?_);obtain⟨css,h1,h2,qa,h4⟩:=(M1.o.1.own (m+2) qO).K QR.keep_ EB.o;have qg:Hid ((qSt m 0 (aJ l (J++[(d,x)])) (aJ l (J++[(d,x)])) (1::(J++[(d,x)]).map fun _=>0) (bJ t l) (v::(J).map (plP Z)) ((List.range d).map fun d=>aK pr a (jsP t l d)) (m+2)).length=z1):=Hx (by rw[oY,kQo,xV];exact HX.o.2.2);rw[qg.o]at qa;refine fS wb 35 33 _ 3 56 _ _ rfl underlying35 Tryz.info44 rfl qD w7.heap.size (V1 (m+2)) (z1) css.flatten qR qa [.bool nf,.s H1 p1 q1,.s H2 p2 q2] rfl (by simp[Value.oneCell']) gb qR BW.o (by unfold maxLen;omega) qO ((M1.o.1.ext.tr EB.o).size) ?_;intro g9 c9 wc qi qf qh;have J9:=Hx ((M1.o.1.K EB.o).pushed qO qg.o h1 h2 qa h4 RB.o qi qf qh);have B9:=Hx ((M1.o.2.1.K EB.o).pushed qO qa qf qh (n':=(z1)+1) (c7:=c9));have K9:=Hx ((aX.of_ext EB.o).tr (aX.own qa qf));have HSW:Hid (wc.cell? (aD br 1)=some (V1 (m+2))/\(wc.cell? (aD b6 0)=some (.bool neg)/\wc.cell? (aD b6 1)=some (.s A1 n1 c1)/\wc.cell? (aD b6 2)=some (.s A2 n2 c2)/\wc.cell? (aD b6 3)=some (.s AP np cp)/\wc.cell? (aD b6 4)=some (.s (sA gp) a a))/\wc.cell? (aD bx (ox+i))=some (.s Ax nx cx)):=Hx (⟨J9.o.rb.cell 1,⟨(B7.o.K J9.o.ext).cell 0,(B7.o.K J9.o.ext).cell 1,(B7.o.K J9.o.ext).cell 2,(B7.o.K J9.o.ext).cell 3,(B7.o.K J9.o.ext).cell 4⟩,CW.o _ (M1.o.2.2.tr K9.o)⟩);refine hK.o _ _ HSW.o ?_;clear hK KK h1 h2 qa h4 qi qf qh css qg EA RA EB RB BW qe;try simp only[qP]
             have z0:wc.frozen? (aD br 1)=false:=J9.o.rb.frozen _;have t0:wc.cell? (aD br 1)=some (V1 (m+2)):=J9.o.rb.cell 1;refine wP 11 rfl HSW.o ?_;try simp only[qP]
             refine aY qK rfl qR (fun KK hK=>?_);go_simp;refine hK.o _ _ ?_;have N9:Hid (∃V',PgI w7 (wc.setCell (aD br 1) (.s (sA g9) (z1+1) c9)) bq br ga m neg A1 n1 c1 A2 n2 c2 V' (qSt m 0 (aJ l (J++[(d,x)])) (aJ l (J++[(d,x)])) (1::(J++[(d,x)]).map fun _=>0) (bJ t l) (v::(J++[(d,x)]).map (plP Z)) ((List.range d).map fun d=>aK pr a (jsP t l d)))/\V' (m+3)=V1 (m+3)/\PgB w7 (wc.setCell (aD br 1) (.s (sA g9) (z1+1) c9)) m V' [(gl,aK pr a ((jsP t l d).take (i+1)))]/\aX wd (wc.setCell (aD br 1) (.s (sA g9) (z1+1) c9))):=Hx (⟨_,by have h9:=J9.o.x;rw[jzol,oY,show(v::J.map (plP Z))++[plP Z (d,x)]=v::(J++[(d,x)]).map (plP Z) by rw[List.map_append];rfl]at h9;exact h9,bU _ _ qO,B9.o.store J9.o.rb qD qD _,K9.o.tr (aX.store J9.o.rb qD qD _)⟩);clear hK KK z0 t0 J9 HSW XD;refine wpAny_done qK ?_ _;generalize wc.setCell (aD br 1) (.s (sA g9) (z1+1) c9)=we at*;obtain⟨V2,k1,k2,k3,k4⟩:=N9.o;have EJ:=Hx (show(aV t l d++((jsP t l d).take (i+1)).map fun x=>(d,x))=J++[(d,x)]from by
              rw[kQr,HX.o.1,HX.o.2.1];simp)
             have qp:Hid (PgI w7 we bq br ga m neg A1 n1 c1 A2 n2 c2 V2 (qSt m (0) (aJ l (aV t l d++((jsP t l d).take (i+1)).map fun x=>(d,x))) (aJ l (aV t l d++((jsP t l d).take (i+1)).map fun x=>(d,x))) (1::(aV t l d++((jsP t l d).take (i+1)).map fun x=>(d,x)).map fun _=>0) (bJ t l) (v::(aV t l d++((jsP t l d).take (i+1)).map fun x=>(d,x)).map (plP Z)) ((List.range d).map fun d=>aK pr a (jsP t l d)))/\PgB w7 we m V2 [(gl,aK pr a ((jsP t l d).take (i+1)))]/\aX W5 we):=Hx (⟨by rw[EJ.o];exact k1,k3,M1.o.2.2.tr k4⟩);have vn:=Hx (show(aV t l d++((jsP t l d).take (i+1)).map fun x=>(d,x)).length<=60 from by
              rw[EJ.o,yQ];have:=HX.o.2.2;show J.length+1<=60;omega)
             have qy:=k2.trans va;clear N9 M1 k1 k2 k3 k4 va EJ v4;have zx:i+1<=60:=by
              have h9:=vn.o;rw[yQ,xV,xF,vt.o]at h9;omega
             go_wp2
             go_roundg (nj-(i+1))
             case measure=>omega
             exact⟨i+1,V2,rfl,qO,by go_num,qy,vn,qp⟩
        as_aux_lemma=>
         obtain rfl:i=nj:=qO;have EJ:=Hx (show(aV t l d++((jsP t l d).take (i)).map fun x=>(d,x))=aV t l (d+1)from by
          rw[jzn4,yU (by rw[vt.o];exact yX _)])
         have vn:Hid ((aV t l (d+1)).length<=60):=Hx (by rw[<-EJ.o];exact vF.o);have h8:PgI w7 W1 bq br ga m neg A1 n1 c1 A2 n2 c2 V (qSt m 0 (aJ l (aV t l (d+1))) (aJ l (aV t l (d+1))) (1::(aV t l (d+1)).map fun _=>0) (bJ t l) (v::(aV t l (d+1)).map (plP Z)) ((List.range d).map fun d=>aK pr n (jsP t l d))):=by
          have h9:=K.o.1;rw[EJ.o]at h9;exact h9
         have h7:PgB w7 W1 m V [(gl,aK pr n (jsP t l d))]:=by
          have h9:=K.o.2.1;rw[yU (by rw[vt.o];exact yX _)]at h9;exact h9
         have KI:=Hx (kQa h8 h7);clear K vF EJ h8 h7;subst qo;obtain⟨ny,Y1,my,fy,Y2,qB,qH,⟨s0,s1,s2⟩,_,hy⟩:=(KI.o.2 gl _ List.mem_cons_self).1.at3;have XN:Hid (Ext W1 (W1.alloc (.cells #[.bool ny,.s Y1 my fy,.s Y2 qB qH] 33))):=Hx ((eR W1).alloc _);have BW:=Hx (eN W1 33 #[.bool ny,.s Y1 my fy,.s Y2 qB qH]);have RY:=Hx (hy.K XN.o);have zd:w7.heap.size<=(W1.alloc (.cells #[.bool ny,.s Y1 my fy,.s Y2 qB qH] 33)).heap.size:=(KI.o.1.ext.tr XN.o).size;obtain⟨css,h1,h2,qa,h4⟩:=(KI.o.1.own (m+3) qO).K QR.keep_ XN.o;have qg:Hid (((qSt m 0 (aJ l (aV t l (d+1))) (aJ l (aV t l (d+1))) (1::(aV t l (d+1)).map fun _=>0) (bJ t l) (v::(aV t l (d+1)).map (plP Z)) ((List.range d).map fun d=>aK pr n (jsP t l d))) (m+3)).length=d):=Hx (by rw[oZ,xV,kZm]);rw[qg.o]at qa;clear hy
         go_wp2_with (at_builtin;refine lC _ 35 33 _ 3 56 rfl _ _ rfl underlying35 Tryz.info44 rfl qD w7.heap.size (V (m+3)) d css.flatten rfl qa [.bool ny,.s Y1 my fy,.s Y2 qB qH] rfl (by simp[Value.oneCell']) W1.heap.size rfl BW.o (by unfold maxLen;omega) qO zd ?_)
         intro g9 c9 wc qi qf qh;have J9:=Hx ((KI.o.1.K XN.o).pushed (k:=m+3) qO qg.o h1 h2 qa h4 RY.o qi qf (qh.imp id fun e=>e.trans qS));have qp:=Hx (show PgI w7 wc bq br ga m neg A1 n1 c1 A2 n2 c2 (cN V (m+3) (.s (sA g9) (d+1) c9)) (qSt m 0 (aJ l (aV t l (d+1))) (aJ l (aV t l (d+1))) (1::(aV t l (d+1)).map fun _=>0) (bJ t l) (v::(aV t l (d+1)).map (plP Z)) ((List.range (d+1)).map fun d=>aK pr n (jsP t l d)))from by
          have h9:=J9.o.slot;rw[jzom,oZ,show((List.range d).map fun d=>aK pr n (jsP t l d))++[aK pr n (jsP t l d)]=(List.range (d+1)).map fun d=>aK pr n (jsP t l d) by rw[kZc,List.map_append];rfl]at h9;exact h9)
         clear J9 qi qf qh h1 h2 qa h4 qg zd RY BW XN KI s0 s1 s2;go_wp2
         go_roundg (l.length-(d+1))
         case measure=>omega
         exact⟨d+1,_,rfl,qO,by go_num,(fH ..).symm,vn,qp⟩
      as_aux_lemma=>
       obtain rfl:d=l.length:=qO;have zJ:=vJ.o;obtain⟨J1,vO⟩:∃J1,J1=aV t l l.length:=⟨_,rfl⟩;rw[<-vO]at J zJ;have zz:=Hx vO;clear vO vZ hd vJ;have y4:W0.cell? (aD b6 4)=some (.s (sA gp) n n):=(B7.o.K J.o.ext).cell 4;obtain⟨qT,k1,k2,k3,k4⟩:=(S7.o.K J.o.ext).prs;obtain⟨css,h1,h2,qa,h4⟩:=J.o.own (m+3) qO;have qg:Hid (((qSt m 0 (aJ l (J1)) (aJ l (J1)) (1::(J1).map fun _=>0) (bJ t l) (v::(J1).map (plP Z)) ((List.range l.length).map fun d=>aK pr n (jsP t l d))) (m+3)).length=l.length):=Hx (by rw[oZ,xV,kZm]);rw[qg.o]at qa;have zh:=J.o.ext.size;have v8:qT.flatten.length=n*3:=(by rw[gG qT k2,k1,vq.o]);have vd:=jzot k1 k4;have CP:=Hx (kQa h1 (kQa h2 (kQa h4 (kQa k1 (kQa k2 k4)))))
       go_wp2_with (at_builtin;refine jzos _ 35 33 _ 3 56 rfl _ _ rfl underlying35 Tryz.info44 rfl qD w7.heap.size (V (m+3)) l.length css.flatten rfl qa (sA gp) n n qT.flatten rfl v8 k3 (fun h=>by cases h) vd (by unfold maxLen;omega) qO zh ?_)
       intro vY wc qi qf qh;obtain⟨AY,cY,rfl,_⟩:=jzfk qi;obtain⟨vV,F9,Y9⟩:=J.o.final CP.o.1 CP.o.2.1 CP.o.2.2.2.1 CP.o.2.2.2.2.1 CP.o.2.2.1 CP.o.2.2.2.2.2 qa qi qf;have FF:=Hx (kQa F9 Y9);have z2:=vV.frozen 2;have t2:=vV.cell 2;clear qi qf qh F9 Y9 qa h1 h2 h4 k1 k2 k3 k4 qg v8 vd CP J zh y4 vV
       go_upto_region 56 with fail
       clear z2 t2;generalize wc.setCell (aD br 2) (.s AY (l.length+n) cY)=wf at*;have XF:=Hx FF.o.1.ext;have v6:(1::J1.map fun _=>(0:Rat)).length=J1.length+1:=qS;obtain⟨z1,qQ⟩:∃z1,J1.length+1=z1:=⟨_,rfl⟩;have v2:z1<=61:=qO;have qj:(bJ t l).length=m:=by
        unfold bJ;simp;have:=HM.o;have:=qJ.o.2;omega
       obtain⟨AC,cc,AB,cb,eC,eB,zt⟩:=FF.o.1.lpr (n:=z1) (by rw[v6];exact qQ) qO qO qO qj (fun i hi=>by rw[jzx];exact qQ) (jzpn J1) (fun i _=>jzpo HF.o J1 i) (jzpp HF.o);have hX:=FF.o.1.own (m+2) (yX _);rw[oY]at hX;obtain⟨AX,cX,eX,_⟩:=hX.form1;have vm:(v::J1.map (plP Z)).length=z1:=(by simp;exact qQ);rw[vm]at eX;rw[eX]at hX;have v1:=jzn7 HF.o S7.o.ok (S7.o.ok.vnn HF.o);rw[<-zz.o,qJ.o.2]at v1;have zp:(((List.range l.length).map fun d=>aK pr n (jsP t l d))++pr).length=m:=by
        rw[yQ,xV,kZm,vq.o];exact HM.o.symm
       have zs:∀q∈(v::J1.map (plP Z)),SzQ q 500:=by
        intro q hq;rcases xZ.1 hq with rfl|hq
        ·exact S7.o.sv.mono qD
        obtain⟨p,_,rfl⟩:=kQl.1 hq;exact(jzf0 S7.o.sz p).mono qD
       have zO:n*(20+1)<=20*21:=kQq v3 qO;have v5:∀q∈(((List.range l.length).map fun d=>aK pr n (jsP t l d))++pr),SzQ q 500:=by
        intro q hq;rcases xY.1 hq with hq|hq
        ·obtain⟨d,_,rfl⟩:=kQl.1 hq
         exact(jzfj S7.o.sp qD n _).mono qO
        exact(S7.o.sp q hq).mono qD
       have zj:QL wf AY (((List.range l.length).map fun d=>aK pr n (jsP t l d))++pr):=by
        have h9:=FF.o.2;rw[oZ]at h9;exact h9
       clear zO;have LX:=Hx (show LpX wf z1 m 500 AC (sA ga) AB AX AY (1::J1.map fun _=>0) (bJ t l) (v::J1.map (plP Z)) (((List.range l.length).map fun d=>aK pr n (jsP t l d))++pr) (aJ l J1) v from
        ⟨zt,hX.ql vm,vm,zs,zj,zp,v5,qD,v1⟩)
       clear zs v5 zj;have RV:=Hx (S7.o.val.K XF.o);have q0:wf.cell? (aD bq 0)=some (V m):=FF.o.1.qb.cell 0;have q1:wf.cell? (aD bq 1)=some (.s (sA ga) m m):=FF.o.1.qb.cell 1;have q2:wf.cell? (aD bq 2)=some (V (m+1)):=FF.o.1.qb.cell 2;have r0:wf.cell? (aD br 0)=some (vI 1):=FF.o.1.rb.cell 0;have r1:wf.cell? (aD br 1)=some (V (m+2)):=FF.o.1.rb.cell 1;have r2:wf.cell? (aD br 2)=some (.s AY m cY):=(FF.o.1.rb.cell 2).trans (by rw[HM.o];rfl);have r3:wf.cell? (aD br 3)=some zN:=FF.o.1.rb.cell 3;have r4:wf.cell? (aD br 4)=some (.bool neg):=FF.o.1.rb.cell 4;have r5:wf.cell? (aD br 5)=some (.s A1 n1 c1):=FF.o.1.rb.cell 5;have r6:wf.cell? (aD br 6)=some (.s A2 n2 c2):=FF.o.1.rb.cell 6;rw[eC]at q0;rw[eB]at q2;rw[eX]at r1;clear v1 hX zt FF eC eB eX zp vm qQ v6 qj v2
       go_wp2_with fail
       refine(jzoe z1 m 500 cc m cb cX cY AC (sA ga) AB AX AY _ _ _ _ _ v neg A1 n1 c1 A2 n2 c2 _ LX.o RV.o).mono ?_;rintro e we ⟨rfl,xe⟩;have qp:=Hx (X7.o.tr (XF.o.tr xe));clear xe q0 q1 q2 r0 r1 r2 r3 r4 r5 r6;go_wp2;go_ret;exact⟨rfl,qp.o⟩
end Go.Proofs.YtfeeacaofjpkaaaGreatDoor
