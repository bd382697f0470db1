/- Walks, part 24. -/
import Derived.Test.YtfeeacaofjpkaaaGreatDoorK23
set_option linter.unusedVariables false
set_option linter.unusedSimpArgs false
set_option maxRecDepth 100000
set_option maxHeartbeats 8000000
namespace Go.Proofs.YtfeeacaofjpkaaaGreatDoor
open Go.Proofs.Tryz
open Go.RowKit
open Sx
theorem jzpl{t}{l:List Dm}(hs:eH t l=true):t.links.length<=10/\t.over.length<=20/\l.length<=4/\(aH t=true->t.nodes<=7):=by
 unfold eH at hs;simp only[vM,xW,decide_eq_true_eq,Bool.or_eq_true,Bool.not_eq_true']at hs;exact⟨hs.1.1.1.2,hs.1.1.2,hs.1.2,fun hv=>hs.2.resolve_left (by rw[hv];decide)⟩
theorem jzpm:(prog.info? 35).map (fun i=>(i.zero,i.size,i.bytes))=some (some zN,1,24):=by kernel_rfl
theorem jzpn(m:Nat):eY (fun _=>zN) m=madeCells #[zN] m:=by
 apply Array.toList_inj.1;rw[toList_madeCells_one];unfold eY;simp only[List.map_const',kZm]
def Pg0(w7 wx:World)(m bq g1 ga:Nat)(nq:Bool)(F1:OA)(u1 d1:Nat)(F2:OA)(u2 d2:Nat):Prop:=
 Blk wx bq 56 #[.s (sA g1) 1 1,.s (sA ga) m m,zN]/\Blk wx g1 33 #[.bool nq,.s F1 u1 d1,.s F2 u2 d2]/\aB wx nq F1 u1 d1 F2 u2 d2 1/\Blk wx ga 35 (madeCells #[zN] m)/\Ext w7 wx/\w7.heap.size<=bq/\w7.heap.size<=g1/\w7.heap.size<=ga
theorem Pg0.leaf{w7 Y}{m bq g1 ga:Nat}{nq:Bool}{F1}{u1 d1:Nat}{F2}{u2 d2:Nat}(hb:Blk Y bq 56 #[zN,zN,zN])(hg:Blk Y g1 33 #[.bool nq,.s F1 u1 d1,.s F2 u2 d2])(hr:aB Y nq F1 u1 d1 F2 u2 d2 ((1:Int):Rat))(ha:Blk Y ga 35 (madeCells #[zN] m))(hx:Ext w7 Y)(h1:w7.heap.size<=bq)(h2:w7.heap.size<=g1)(h3:w7.heap.size<=ga):
  Pg0 w7 (((Y.setCell (aD bq 0) (.s (sA g1) 1 1)).setCell (aD bq 1) (.s (sA ga) m m)).setCell (aD bq 2) zN) m bq g1 ga nq F1 u1 d1 F2 u2 d2:=by
 have k:=eG (S:=fun x=>x=bq) (dU Y bq 0 (.s (sA g1) 1 1) (.s (sA ga) m m) zN) fun y e=>(Option.some.inj e).symm;exact⟨((hb.sT 0 _).sT 1 _).sT 2 _,k.blk hg fun e=>absurd (aZ (e▸hg) hb).2 qD,k.ratR (NoT.one hb qD) hr,k.blk ha fun e=>absurd (aZ (e▸ha) hb).2 qD,k.ext hx fun b e=>by rw[e];exact h1,h1,h2,h3⟩
theorem aX.put{w}{g:Nat}{q:Rat}(h:RB w g q)(u0 u1 u2:Value):aX w (((w.setCell (aD g 0) u0).setCell (aD g 1) u1).setCell (aD g 2) u2):=by
 obtain⟨cs,hb⟩:=QB.blk h;exact aX.of_fr (S:=fun x=>x=g) (eG (dU w g 0 u0 u1 u2) fun y e=>(Option.some.inj e).symm) (NoT.one hb qD) (NoT.one hb qD)
theorem jzfv{P:Nat}:∀{Z:List ((Nat×LN)×Rat)},(∀z∈Z,SzQ z.2 P)->∀p,SzQ (plP Z p) (P+1)
 | [],_,_=>SzQ.zero.mono qO
 |z::Z,h,p=>by
  unfold plP
  split
  ·exact(h z List.mem_cons_self).mono qO
  ·exact jzfv (fun y hy=>h y (xO _ hy)) p
theorem lD:SzQ 1 1/\SzQ 0 1/\SzQ (-1) 1:=⟨by unfold SzQ;decide+kernel,by unfold SzQ;decide+kernel,by unfold SzQ;decide+kernel⟩
theorem jzpo(J:List (Nat×LN)):∀q∈((1:Rat)::J.map fun _=>(0:Rat)),SzQ q 1:=by
 intro q hq;rcases xZ.1 hq with rfl|hq
 ·exact lD.1
 obtain⟨_,_,rfl⟩:=kQl.1 hq;exact lD.2.1
theorem jzpp{t}{l:List Dm}(hf:Fit t l)(J:List (Nat×LN))(i:Nat):∀q∈aI l J i,SzQ q 1:=by
 intro q hq;unfold aI at hq;split at hq;{rename_i hil;(rcases xZ.1 hq with rfl|hq);{exact rY hf hil};obtain⟨p,_,rfl⟩:=kQl.1 hq;unfold cD;split;{exact lD.2.2};exact lD.2.1};(rcases xZ.1 hq with rfl|hq);{exact lD.2.1};obtain⟨p,_,rfl⟩:=kQl.1 hq;unfold cA;split;{exact lD.1};exact lD.2.1
theorem jzpq{t}{l:List Dm}(hf:Fit t l):∀q∈bJ t l,SzQ q 1:=by
 (intro q hq;unfold bJ at hq;rcases xY.1 hq with hq|hq);{rw[(List.mem_replicate.1 hq).2];exact lD.2.1};obtain⟨a,ha,rfl⟩:=kQl.1 hq;exact mU hf.v (vX.1 ha)
theorem sK(l:List Dm)(J:List (Nat×LN))(p:Nat×LN)(i:Nat):aI l (J++[p]) i=aI l J i++[if i<l.length then cD i p else cA (i-l.length) p]:=by
 unfold aI;by_cases h:i<l.length;{rw[qE h,qE h,qE h,List.map_append];rfl};rw[qF h,qF h,qF h,List.map_append];rfl
theorem jzq(l:List Dm)(J:List (Nat×LN))(i:Nat):(aI l J i).length=J.length+1:=by
 unfold aI;split <;> simp
def vS(m:Nat)(a b c d:Value):Nat->Value:=fun i=>if i<m then zN else if i=m then a else if i=m+1 then b else if i=m+2 then c else d
theorem PgI.start{w7 W8 W9}{m bq g1 ga gx br:Nat}{nq:Bool}{F1}{u1 d1:Nat}{F2}{u2 d2:Nat}{neg:Bool}{A1}{n1 c1:Nat}{A2}{n2 c2:Nat}{v:Rat}{R':Nat->LQ}(h:Pg0 w7 W8 m bq g1 ga nq F1 u1 d1 F2 u2 d2)(hx:Ext W8 W9)(hv:aB W9 neg A1 n1 c1 A2 n2 c2 v)(hgx:Blk W9 gx 33 #[.bool neg,.s A1 n1 c1,.s A2 n2 c2])(hg:W8.heap.size<=gx)
  (hbr:Blk W9 br 58 #[vI 1,.s (sA gx) 1 1,zN,zN,.bool neg,.s A1 n1 c1,.s A2 n2 c2]) (hr:W8.heap.size<=br):
  PgI w7 W9 bq br ga m neg A1 n1 c1 A2 n2 c2 (vS m (.s (sA g1) 1 1) zN (.s (sA gx) 1 1) zN) (qSt m 0 (fun _=>[]) R' [1] [] [v] []):=by
 obtain⟨hq,h1,h2,h3,h4,h5,h6,h7⟩:=h;have e0:vS m (.s (sA g1) 1 1) zN (.s (sA gx) 1 1) zN m=.s (sA g1) 1 1:=(by unfold vS;rw[qF (kZr _),qE rfl]);have e1:vS m (.s (sA g1) 1 1) zN (.s (sA gx) 1 1) zN (m+1)=zN:=(by unfold vS;rw[qF qO,qF qO,qE rfl]);have e2:vS m (.s (sA g1) 1 1) zN (.s (sA gx) 1 1) zN (m+2)=.s (sA gx) 1 1:=(by unfold vS;rw[qF qO,qF qO,qF qO,qE rfl]);have e3:∀i,i≠m->i≠m+2->vS m (.s (sA g1) 1 1) zN (.s (sA gx) 1 1) zN i=zN:=fun i k1 k2=>(by unfold vS;simp[k1,k2]);have hs:=hx.size;have qa:=h1.lt;refine⟨h4.tr hx,h5,by have:=h4.size;omega,h7,by rw[e0,e1];exact hq.K hx,by rw[e2];exact hbr,?_,fun i hi=>?_,fun i j hi hj hij=>?_⟩;{have e:eY (vS m (.s (sA g1) 1 1) zN (.s (sA gx) 1 1) zN) m=eY (fun _=>zN) m:=(by unfold eY;congr 1;exact List.map_congr_left fun i hi=>e3 i (by have:=vX.1 hi;omega) (by have:=vX.1 hi;omega));rw[e,jzpn];exact h3.K hx};{by_cases k0:i=m;{subst k0;rw[e0,lU];exact OwL.one (R:=QR) (us:=[.bool nq,.s F1 u1 d1,.s F2 u2 d2]) (h1.K hx) h6 rfl ⟨nq,F1,u1,d1,F2,u2,d2,rfl,h2.K hx⟩};by_cases k2:i=m+2;{subst k2;rw[e2,oS];exact OwL.one (R:=QR) (us:=[.bool neg,.s A1 n1 c1,.s A2 n2 c2]) hgx (by have:=h4.size;omega) rfl ⟨neg,A1,n1,c1,A2,n2,c2,rfl,hv⟩};rw[e3 i k0 k2];have e:qSt m 0 (fun _=>[]) R' [1] [] [v] [] i=[]:=(by unfold qSt;by_cases k3:i<m;{rw[qE k3,qF (Nat.not_lt_zero _)]};rw[qF k3,qF k0,qF k2];split;{rfl};split <;> rfl);rw[e];exact OQ.nil};by_cases k0:i=m;{subst k0;refine .inr ?_;rw[e0];by_cases k2:j=i+2;{subst k2;(rw[e2];show some g1≠some gx;intro e;injection e with e);omega};rw[e3 j (fun e=>hij e.symm) k2];show some g1≠none;exact fun e=>by cases e};by_cases k2:i=m+2;{subst k2;refine .inr ?_;rw[e2];by_cases k3:j=m;{subst k3;(rw[e0];show some gx≠some g1;intro e;injection e with e);omega};rw[e3 j k3 (fun e=>hij e.symm)];show some gx≠none;exact fun e=>by cases e};exact .inl (by rw[e3 i k0 k2];rfl)
set_option maxHeartbeats 40000000 in
theorem jzpr t AO(co:Nat)AL(cl:Nat)(l:List Dm)AD(cd:Nat)w(h:kL w t AO co AL cl l AD cd)(hta:Tab w):
   Calls prog 4 #[.agg #[vI t.nodes,.s AO t.over.length co,.s AL t.links.length cl],.s AD l.length cd] w fun e w'=>e=.returned (.bool true)/\Ext w w':=by
 have hlc:=h.ld;have hlm:=h.lm;have HA:=Hx (kQa h hta);obtain⟨hba,e0⟩:=bA w #[vI t.nodes,.s AO t.over.length co,.s AL t.links.length cl] 25;have E0:=Hx (kQa hba e0);clear h hta hba e0
 go_enter func4,ntmps4
 go_wp2_with fail
 refine(jzpe _ (HA.o.2.K E0.o.2)).mono ?_;rintro e w1 ⟨rfl,x1⟩;have E1:=Hx (kQa (E0.o.1.K x1) (E0.o.2.tr x1));clear x1 E0;obtain⟨⟨i0,i1,i2⟩,_⟩:=E1.o.1.t3
 go_wp2_with fail
 refine(jzph t AO co AL cl l AD cd _ (HA.o.1.K E1.o.2)).mono ?_;rintro e w2 ⟨rfl,x2⟩;have E2:=Hx (kQa (E1.o.1.K x2) (E1.o.2.tr x2));clear x2 E1 i0 i1 i2;cases hs:eH t l
 case false=>
  go_wp2;go_ret;exact⟨rfl,E2.o.2⟩
 obtain⟨hg1,g2,g3,g5⟩:=jzpl hs;have G5:=Hx g5;clear g5 hs;obtain⟨⟨i0,i1,i2⟩,_⟩:=E2.o.1.t3
 go_wp2_with fail
 refine(jzpj t AO co AL cl l AD cd _ ((HA.o.1.K E2.o.2).top hg1 g2) ((HA.o.1.K E2.o.2).dem g3)).mono ?_;rintro e w3 ⟨rfl,x3⟩;have E3:=Hx (kQa (E2.o.1.K x3) (E2.o.2.tr x3));clear x3 E2 i0 i1 i2;cases hf:dT t l
 case false=>
  go_wp2;go_ret;exact⟨rfl,E3.o.2⟩
 have HF:=Hx ((rM (show l.length<=64 by omega)).1 hf);have hN:t.nodes<=7:=G5.o HF.o.v;clear hf;obtain⟨⟨i0,i1,i2⟩,_⟩:=E3.o.1.t3
 go_wp2_with fail
 refine(jzej t AO co AL cl l AD cd _ ((HA.o.1.top hg1 g2).K E3.o.2) ((HA.o.1.dem g3).K E3.o.2) hg1 g3 (fun _=>hN) (HA.o.2.K E3.o.2)).mono ?_;intro e w5 hp;clear i0 i1 i2;rcases hp.cases HF.o g3 with⟨hnc,rfl,x5⟩|⟨neg,A1,n1,c1,A2,n2,c2,AP,cp,gp,v,Z,pr,rfl,S5,x5⟩
 ·have X5:=Hx (E3.o.2.tr x5)
  clear hp hnc x5;go_wp2;go_ret;exact⟨rfl,X5.o.alloc _⟩
 obtain⟨np,hnp⟩:∃np,Z.length=np:=⟨_,rfl⟩;obtain⟨L2,hL2⟩:∃L2,2*t.links.length=L2:=⟨_,rfl⟩;rw[hnp,hL2];have B6:=Hx (eN w5 37 #[.bool neg,.s A1 n1 c1,.s A2 n2 c2,.s AP np cp,.s (sA gp) L2 L2]);have X6:=Hx (E3.o.2.tr (x5.alloc (.cells #[.bool neg,.s A1 n1 c1,.s A2 n2 c2,.s AP np cp,.s (sA gp) L2 L2] 37)));have S6:=Hx (S5.K ((eR w5).alloc (.cells #[.bool neg,.s A1 n1 c1,.s A2 n2 c2,.s AP np cp,.s (sA gp) L2 L2] 37)));have T6:=Hx ((E3.o.1.K x5).K ((eR w5).alloc (.cells #[.bool neg,.s A1 n1 c1,.s A2 n2 c2,.s AP np cp,.s (sA gp) L2 L2] 37)));have HNP:=Hx (kQa hnp hL2);have hn24:np<=24:=(by rw[<-hnp];exact S5.len);have hL20:L2<=20:=qO;clear hp x5 S5 hnp hL2 E3
 go_upto_region 8 with fail
 generalize w5.alloc (.cells #[.bool neg,.s A1 n1 c1,.s A2 n2 c2,.s AP np cp,.s (sA gp) L2 L2] 37)=W6 at*;generalize hb6:w5.heap.size=b6 at*;obtain⟨⟨i0,i1,i2⟩,_⟩:=T6.o.t3
 go_wp2_with fail
 refine(nF t AO co AL cl _ ((HA.o.1.top hg1 g2).K X6.o) HF.o.v).mono ?_;rintro e w7 ⟨rfl,x7⟩;rw[show(2*(t.links.length:Int))=(L2:Int) by have:=HNP.o.2;omega];have X7:=Hx (X6.o.tr x7);have B7:=Hx (B6.o.K x7);have T7:=Hx (T6.o.K x7);have S7:=Hx (S6.o.K x7);have y4:=B7.o.cell 4;clear x7 i0 i1 i2 X6 B6 T6 S6
 go_upto_region 11 with fail
 clear y4;have hD1:0<l.length:=HF.o.n;obtain⟨m,hm⟩:∃m,m=l.length+L2:=⟨_,rfl⟩;have HM:=Hx hm;have hm24:m<=24:=qO;have XD:Hid (Ext w7 w7.drew):=Hx ((eR w7).drewN 1);have hadd:IntKind.i64.wrap ((l.length:Int)+(L2:Int))=(m:Int):=(by rw[IntKind.wrap_i64];omega);have hmk:=run_make_row' (P:=prog) 54 35 zN 24 underlying54 jzpm rfl .i64 .i64 m qO qO;clear hm
 go_cut [8] (fun s wx=>∃(bq g1 ga:Nat) (nq:Bool) (F1:OA) (u1 d1:Nat) (F2:OA) (u2 d2:Nat),s=.pointer (sA bq)/\Hid (Pg0 w7 wx m bq g1 ga nq F1 u1 d1 F2 u2 d2))
 case first=>
  as_aux_lemma=>
   have HSW:=Hx trivial;refine wp_region_last (fun _=>True) 9 qK ?_;refine wP 2 rfl HSW.o ?_;try simp only[Act.put,yA,yB,yC,yD,yE,yF]
   refine wP 3 rfl HSW.o ?_;try simp only[Act.put,yA,yB,yC,yD,yE,yF]
   refine wP 4 rfl HSW.o ?_;try simp only[Act.put,yA,yB,yC,yD,yE,yF]
   refine wP 5 rfl HSW.o ?_;try simp only[Act.put,yA,yB,yC,yD,yE,yF]
   generalize hY0:w7.drew=Y0 at*;have EX:=XD;clear hY0 XD;refine jzfg (i:=0) (j:=6) (l:=8) qD qD qD qK rfl rfl rfl qR qR qR (fun KK hK=>?_) (fun KK hK=>?_) (fun KK hK=>?_)
   ·skip
    go_simp;refine(dP 1 _ ⟨qO,qO⟩).mono ?_;rintro e Y1 ⟨nq,F1,u1,d1,F2,u2,d2,rfl,hR,x8⟩;have EX:=Hx (EX.o.tr x8);have R0:=Hx hR;refine hK.o _ _ trivial ?_;clear hK KK x8 hR;try simp only[Act.put,yA,yB,yC,yD,yE,yF]
    refine jzfg (i:=1) (j:=6) (l:=8) qD qD qD qK rfl rfl rfl qR qR qR (fun KK hK=>?_) (fun KK hK=>?_) (fun KK hK=>?_)
    ·skip
     go_simp;have XN:Hid (Ext Y1 (Y1.alloc (.cells #[.bool nq,.s F1 u1 d1,.s F2 u2 d2] 33))):=Hx ((eR Y1).alloc _);have hgr:w7.heap.size<=Y1.heap.size:=EX.o.size;have EX:=Hx (EX.o.tr XN.o);have R0:=Hx (R0.o.K XN.o);have GR:=Hx (eN Y1 33 #[.bool nq,.s F1 u1 d1,.s F2 u2 d2]);refine hK.o _ _ trivial ?_;clear hK KK XN;generalize Y1.alloc (.cells #[.bool nq,.s F1 u1 d1,.s F2 u2 d2] 33)=Y2 at*;generalize Y1.heap.size=gr at*;try simp only[Act.put,yA,yB,yC,yD,yE,yF]
     refine lV (i:=6) (j:=8) qD qD qK rfl rfl qR qR (fun KK hK=>?_) (fun KK hK=>?_)
     ·skip
      go_simp;have XN:Hid (Ext Y2 (Y2.alloc (.cells (madeCells #[zN] m) 35))):=Hx ((eR Y2).alloc _);have hga:w7.heap.size<=Y2.heap.size:=EX.o.size;have EX:=Hx (EX.o.tr XN.o);have R0:=Hx (R0.o.K XN.o);have GR:=Hx (GR.o.K XN.o);have GA:=Hx (eN Y2 35 (madeCells #[zN] m));refine hK.o _ _ trivial ?_;clear hK KK XN;generalize Y2.alloc (.cells (madeCells #[zN] m) 35)=Y3 at*;generalize Y2.heap.size=ga at*;try simp only[Act.put,yA,yB,yC,yD,yE,yF]
      refine wP 7 rfl HSW.o ?_;try simp only[Act.put,yA,yB,yC,yD,yE,yF]
      refine wC 8 rfl (fun KK hK=>?_);go_simp;have XN:Hid (Ext Y3 (Y3.alloc (.cells #[zN,zN,zN] 56))):=Hx ((eR Y3).alloc _);have hbq:w7.heap.size<=Y3.heap.size:=EX.o.size;have EX:=Hx (EX.o.tr XN.o);have R0:=Hx (R0.o.K XN.o);have GR:=Hx (GR.o.K XN.o);have GA:=Hx (GA.o.K XN.o);have BQ:=Hx (eN Y3 56 #[zN,zN,zN]);refine hK.o _ _ trivial ?_;clear hK KK XN;generalize Y3.alloc (.cells #[zN,zN,zN] 56)=Y4 at*;generalize Y3.heap.size=bq at*;try simp only[Act.put,yA,yB,yC,yD,yE,yF]
      have z0:=BQ.o.cell 0;have z1:=BQ.o.cell 1;have z2:=BQ.o.cell 2;have f0:=BQ.o.frozen 0;have f1:=BQ.o.frozen 1;have f2:=BQ.o.frozen 2;refine aY qK rfl qR (fun KK hK=>?_);go_simp;have FL:=Hx (Pg0.leaf BQ.o GR.o R0.o GA.o EX.o hbq hgr hga);refine hK.o _ _ ?_;clear hK KK z0 z1 z2 f0 f1 f2 BQ GR R0 GA EX HSW;generalize (((Y4.setCell (aD bq 0) (.s (sA gr) 1 1)).setCell (aD bq 1) (.s (sA ga) m m)).setCell (aD bq 2) zN)=YF at*;refine wpAny_done qK ?_ _;go_wp2;go_meet;exact⟨bq,gr,ga,nq,F1,u1,d1,F2,u2,d2,rfl,FL⟩
     skip
     go_simp;have XN:Hid (Ext Y2 (Y2.alloc (.cells #[zN,zN,zN] 56))):=Hx ((eR Y2).alloc _);have hbq:w7.heap.size<=Y2.heap.size:=EX.o.size;have EX:=Hx (EX.o.tr XN.o);have R0:=Hx (R0.o.K XN.o);have GR:=Hx (GR.o.K XN.o);have BQ:=Hx (eN Y2 56 #[zN,zN,zN]);refine hK.o _ _ trivial ?_;clear hK KK XN;generalize Y2.alloc (.cells #[zN,zN,zN] 56)=Y5 at*;generalize Y2.heap.size=bq at*;try simp only[Act.put,yA,yB,yC,yD,yE,yF]
     refine wC 6 rfl (fun KK hK=>?_);go_simp;have XN:Hid (Ext Y5 (Y5.alloc (.cells (madeCells #[zN] m) 35))):=Hx ((eR Y5).alloc _);have hga:w7.heap.size<=Y5.heap.size:=EX.o.size;have EX:=Hx (EX.o.tr XN.o);have R0:=Hx (R0.o.K XN.o);have GR:=Hx (GR.o.K XN.o);have BQ:=Hx (BQ.o.K XN.o);have GA:=Hx (eN Y5 35 (madeCells #[zN] m));refine hK.o _ _ trivial ?_;clear hK KK XN;generalize Y5.alloc (.cells (madeCells #[zN] m) 35)=Y6 at*;generalize Y5.heap.size=ga at*;try simp only[Act.put,yA,yB,yC,yD,yE,yF]
     refine wP 7 rfl HSW.o ?_;try simp only[Act.put,yA,yB,yC,yD,yE,yF]
     have z0:=BQ.o.cell 0;have z1:=BQ.o.cell 1;have z2:=BQ.o.cell 2;have f0:=BQ.o.frozen 0;have f1:=BQ.o.frozen 1;have f2:=BQ.o.frozen 2;refine aY qK rfl qR (fun KK hK=>?_);go_simp;have FL:=Hx (Pg0.leaf BQ.o GR.o R0.o GA.o EX.o hbq hgr hga);refine hK.o _ _ ?_;clear hK KK z0 z1 z2 f0 f1 f2 BQ GR R0 GA EX HSW;generalize (((Y6.setCell (aD bq 0) (.s (sA gr) 1 1)).setCell (aD bq 1) (.s (sA ga) m m)).setCell (aD bq 2) zN)=YF at*;refine wpAny_done qK ?_ _;go_wp2;go_meet;exact⟨bq,gr,ga,nq,F1,u1,d1,F2,u2,d2,rfl,FL⟩
    ·skip
     go_simp;have XN:Hid (Ext Y1 (Y1.alloc (.cells (madeCells #[zN] m) 35))):=Hx ((eR Y1).alloc _);have hga:w7.heap.size<=Y1.heap.size:=EX.o.size;have EX:=Hx (EX.o.tr XN.o);have R0:=Hx (R0.o.K XN.o);have GA:=Hx (eN Y1 35 (madeCells #[zN] m));refine hK.o _ _ trivial ?_;clear hK KK XN;generalize Y1.alloc (.cells (madeCells #[zN] m) 35)=Y7 at*;generalize Y1.heap.size=ga at*;try simp only[Act.put,yA,yB,yC,yD,yE,yF]
     refine lV (i:=1) (j:=8) qD qD qK rfl rfl qR qR (fun KK hK=>?_) (fun KK hK=>?_)
     ·skip
      go_simp;have XN:Hid (Ext Y7 (Y7.alloc (.cells #[.bool nq,.s F1 u1 d1,.s F2 u2 d2] 33))):=Hx ((eR Y7).alloc _);have hgr:w7.heap.size<=Y7.heap.size:=EX.o.size;have EX:=Hx (EX.o.tr XN.o);have R0:=Hx (R0.o.K XN.o);have GA:=Hx (GA.o.K XN.o);have GR:=Hx (eN Y7 33 #[.bool nq,.s F1 u1 d1,.s F2 u2 d2]);refine hK.o _ _ trivial ?_;clear hK KK XN;generalize Y7.alloc (.cells #[.bool nq,.s F1 u1 d1,.s F2 u2 d2] 33)=Y8 at*;generalize Y7.heap.size=gr at*;try simp only[Act.put,yA,yB,yC,yD,yE,yF]
      refine wP 7 rfl HSW.o ?_;try simp only[Act.put,yA,yB,yC,yD,yE,yF]
      refine wC 8 rfl (fun KK hK=>?_);go_simp;have XN:Hid (Ext Y8 (Y8.alloc (.cells #[zN,zN,zN] 56))):=Hx ((eR Y8).alloc _);have hbq:w7.heap.size<=Y8.heap.size:=EX.o.size;have EX:=Hx (EX.o.tr XN.o);have R0:=Hx (R0.o.K XN.o);have GR:=Hx (GR.o.K XN.o);have GA:=Hx (GA.o.K XN.o);have BQ:=Hx (eN Y8 56 #[zN,zN,zN]);refine hK.o _ _ trivial ?_;clear hK KK XN;generalize Y8.alloc (.cells #[zN,zN,zN] 56)=Y9 at*;generalize Y8.heap.size=bq at*;try simp only[Act.put,yA,yB,yC,yD,yE,yF]
      have z0:=BQ.o.cell 0;have z1:=BQ.o.cell 1;have z2:=BQ.o.cell 2;have f0:=BQ.o.frozen 0;have f1:=BQ.o.frozen 1;have f2:=BQ.o.frozen 2;refine aY qK rfl qR (fun KK hK=>?_);go_simp;have FL:=Hx (Pg0.leaf BQ.o GR.o R0.o GA.o EX.o hbq hgr hga);refine hK.o _ _ ?_;clear hK KK z0 z1 z2 f0 f1 f2 BQ GR R0 GA EX HSW;generalize (((Y9.setCell (aD bq 0) (.s (sA gr) 1 1)).setCell (aD bq 1) (.s (sA ga) m m)).setCell (aD bq 2) zN)=YF at*;refine wpAny_done qK ?_ _;go_wp2;go_meet;exact⟨bq,gr,ga,nq,F1,u1,d1,F2,u2,d2,rfl,FL⟩
     skip
     go_simp;have XN:Hid (Ext Y7 (Y7.alloc (.cells #[zN,zN,zN] 56))):=Hx ((eR Y7).alloc _);have hbq:w7.heap.size<=Y7.heap.size:=EX.o.size;have EX:=Hx (EX.o.tr XN.o);have R0:=Hx (R0.o.K XN.o);have GA:=Hx (GA.o.K XN.o);have BQ:=Hx (eN Y7 56 #[zN,zN,zN]);refine hK.o _ _ trivial ?_;clear hK KK XN;generalize Y7.alloc (.cells #[zN,zN,zN] 56)=Y10 at*;generalize Y7.heap.size=bq at*;try simp only[Act.put,yA,yB,yC,yD,yE,yF]
     refine wC 1 rfl (fun KK hK=>?_);go_simp;have XN:Hid (Ext Y10 (Y10.alloc (.cells #[.bool nq,.s F1 u1 d1,.s F2 u2 d2] 33))):=Hx ((eR Y10).alloc _);have hgr:w7.heap.size<=Y10.heap.size:=EX.o.size;have EX:=Hx (EX.o.tr XN.o);have R0:=Hx (R0.o.K XN.o);have GA:=Hx (GA.o.K XN.o);have BQ:=Hx (BQ.o.K XN.o);have GR:=Hx (eN Y10 33 #[.bool nq,.s F1 u1 d1,.s F2 u2 d2]);refine hK.o _ _ trivial ?_;clear hK KK XN;generalize Y10.alloc (.cells #[.bool nq,.s F1 u1 d1,.s F2 u2 d2] 33)=Y11 at*;generalize Y10.heap.size=gr at*;try simp only[Act.put,yA,yB,yC,yD,yE,yF]
     refine wP 7 rfl HSW.o ?_;try simp only[Act.put,yA,yB,yC,yD,yE,yF]
     have z0:=BQ.o.cell 0;have z1:=BQ.o.cell 1;have z2:=BQ.o.cell 2;have f0:=BQ.o.frozen 0;have f1:=BQ.o.frozen 1;have f2:=BQ.o.frozen 2;refine aY qK rfl qR (fun KK hK=>?_);go_simp;have FL:=Hx (Pg0.leaf BQ.o GR.o R0.o GA.o EX.o hbq hgr hga);refine hK.o _ _ ?_;clear hK KK z0 z1 z2 f0 f1 f2 BQ GR R0 GA EX HSW;generalize (((Y11.setCell (aD bq 0) (.s (sA gr) 1 1)).setCell (aD bq 1) (.s (sA ga) m m)).setCell (aD bq 2) zN)=YF at*;refine wpAny_done qK ?_ _;go_wp2;go_meet;exact⟨bq,gr,ga,nq,F1,u1,d1,F2,u2,d2,rfl,FL⟩
    skip
    go_simp;have XN:Hid (Ext Y1 (Y1.alloc (.cells #[zN,zN,zN] 56))):=Hx ((eR Y1).alloc _);have hbq:w7.heap.size<=Y1.heap.size:=EX.o.size;have EX:=Hx (EX.o.tr XN.o);have R0:=Hx (R0.o.K XN.o);have BQ:=Hx (eN Y1 56 #[zN,zN,zN]);refine hK.o _ _ trivial ?_;clear hK KK XN;generalize Y1.alloc (.cells #[zN,zN,zN] 56)=Y12 at*;generalize Y1.heap.size=bq at*;try simp only[Act.put,yA,yB,yC,yD,yE,yF]
    refine lV (i:=1) (j:=6) qD qD qK rfl rfl qR qR (fun KK hK=>?_) (fun KK hK=>?_)
    ·skip
     go_simp;have XN:Hid (Ext Y12 (Y12.alloc (.cells #[.bool nq,.s F1 u1 d1,.s F2 u2 d2] 33))):=Hx ((eR Y12).alloc _);have hgr:w7.heap.size<=Y12.heap.size:=EX.o.size;have EX:=Hx (EX.o.tr XN.o);have R0:=Hx (R0.o.K XN.o);have BQ:=Hx (BQ.o.K XN.o);have GR:=Hx (eN Y12 33 #[.bool nq,.s F1 u1 d1,.s F2 u2 d2]);refine hK.o _ _ trivial ?_;clear hK KK XN;generalize Y12.alloc (.cells #[.bool nq,.s F1 u1 d1,.s F2 u2 d2] 33)=Y13 at*;generalize Y12.heap.size=gr at*;try simp only[Act.put,yA,yB,yC,yD,yE,yF]
     refine wC 6 rfl (fun KK hK=>?_);go_simp;have XN:Hid (Ext Y13 (Y13.alloc (.cells (madeCells #[zN] m) 35))):=Hx ((eR Y13).alloc _);have hga:w7.heap.size<=Y13.heap.size:=EX.o.size;have EX:=Hx (EX.o.tr XN.o);have R0:=Hx (R0.o.K XN.o);have GR:=Hx (GR.o.K XN.o);have BQ:=Hx (BQ.o.K XN.o);have GA:=Hx (eN Y13 35 (madeCells #[zN] m));refine hK.o _ _ trivial ?_;clear hK KK XN;generalize Y13.alloc (.cells (madeCells #[zN] m) 35)=Y14 at*;generalize Y13.heap.size=ga at*;try simp only[Act.put,yA,yB,yC,yD,yE,yF]
     refine wP 7 rfl HSW.o ?_;try simp only[Act.put,yA,yB,yC,yD,yE,yF]
     have z0:=BQ.o.cell 0;have z1:=BQ.o.cell 1;have z2:=BQ.o.cell 2;have f0:=BQ.o.frozen 0;have f1:=BQ.o.frozen 1;have f2:=BQ.o.frozen 2;refine aY qK rfl qR (fun KK hK=>?_);go_simp;have FL:=Hx (Pg0.leaf BQ.o GR.o R0.o GA.o EX.o hbq hgr hga);refine hK.o _ _ ?_;clear hK KK z0 z1 z2 f0 f1 f2 BQ GR R0 GA EX HSW;generalize (((Y14.setCell (aD bq 0) (.s (sA gr) 1 1)).setCell (aD bq 1) (.s (sA ga) m m)).setCell (aD bq 2) zN)=YF at*;refine wpAny_done qK ?_ _;go_wp2;go_meet;exact⟨bq,gr,ga,nq,F1,u1,d1,F2,u2,d2,rfl,FL⟩
    skip
    go_simp;have XN:Hid (Ext Y12 (Y12.alloc (.cells (madeCells #[zN] m) 35))):=Hx ((eR Y12).alloc _);have hga:w7.heap.size<=Y12.heap.size:=EX.o.size;have EX:=Hx (EX.o.tr XN.o);have R0:=Hx (R0.o.K XN.o);have BQ:=Hx (BQ.o.K XN.o);have GA:=Hx (eN Y12 35 (madeCells #[zN] m));refine hK.o _ _ trivial ?_;clear hK KK XN;generalize Y12.alloc (.cells (madeCells #[zN] m) 35)=Y15 at*;generalize Y12.heap.size=ga at*;try simp only[Act.put,yA,yB,yC,yD,yE,yF]
    refine wC 1 rfl (fun KK hK=>?_);go_simp;have XN:Hid (Ext Y15 (Y15.alloc (.cells #[.bool nq,.s F1 u1 d1,.s F2 u2 d2] 33))):=Hx ((eR Y15).alloc _);have hgr:w7.heap.size<=Y15.heap.size:=EX.o.size;have EX:=Hx (EX.o.tr XN.o);have R0:=Hx (R0.o.K XN.o);have GA:=Hx (GA.o.K XN.o);have BQ:=Hx (BQ.o.K XN.o);have GR:=Hx (eN Y15 33 #[.bool nq,.s F1 u1 d1,.s F2 u2 d2]);refine hK.o _ _ trivial ?_;clear hK KK XN;generalize Y15.alloc (.cells #[.bool nq,.s F1 u1 d1,.s F2 u2 d2] 33)=Y16 at*;generalize Y15.heap.size=gr at*;try simp only[Act.put,yA,yB,yC,yD,yE,yF]
    refine wP 7 rfl HSW.o ?_;try simp only[Act.put,yA,yB,yC,yD,yE,yF]
    have z0:=BQ.o.cell 0;have z1:=BQ.o.cell 1;have z2:=BQ.o.cell 2;have f0:=BQ.o.frozen 0;have f1:=BQ.o.frozen 1;have f2:=BQ.o.frozen 2;refine aY qK rfl qR (fun KK hK=>?_);go_simp;have FL:=Hx (Pg0.leaf BQ.o GR.o R0.o GA.o EX.o hbq hgr hga);refine hK.o _ _ ?_;clear hK KK z0 z1 z2 f0 f1 f2 BQ GR R0 GA EX HSW;generalize (((Y16.setCell (aD bq 0) (.s (sA gr) 1 1)).setCell (aD bq 1) (.s (sA ga) m m)).setCell (aD bq 2) zN)=YF at*;refine wpAny_done qK ?_ _;go_wp2;go_meet;exact⟨bq,gr,ga,nq,F1,u1,d1,F2,u2,d2,rfl,FL⟩
   ·skip
    go_simp;have XN:Hid (Ext Y0 (Y0.alloc (.cells (madeCells #[zN] m) 35))):=Hx ((eR Y0).alloc _);have hga:w7.heap.size<=Y0.heap.size:=EX.o.size;have EX:=Hx (EX.o.tr XN.o);have GA:=Hx (eN Y0 35 (madeCells #[zN] m));refine hK.o _ _ trivial ?_;clear hK KK XN;generalize Y0.alloc (.cells (madeCells #[zN] m) 35)=Y17 at*;generalize Y0.heap.size=ga at*;try simp only[Act.put,yA,yB,yC,yD,yE,yF]
    refine lV (i:=0) (j:=8) qD qD qK rfl rfl qR qR (fun KK hK=>?_) (fun KK hK=>?_)
    ·skip
     go_simp;refine(dP 1 _ ⟨qO,qO⟩).mono ?_;rintro e Y18 ⟨nq,F1,u1,d1,F2,u2,d2,rfl,hR,x8⟩;have EX:=Hx (EX.o.tr x8);have GA:=Hx (GA.o.K x8);have R0:=Hx hR;refine hK.o _ _ trivial ?_;clear hK KK x8 hR;try simp only[Act.put,yA,yB,yC,yD,yE,yF]
     refine lV (i:=1) (j:=8) qD qD qK rfl rfl qR qR (fun KK hK=>?_) (fun KK hK=>?_)
     ·skip
      go_simp;have XN:Hid (Ext Y18 (Y18.alloc (.cells #[.bool nq,.s F1 u1 d1,.s F2 u2 d2] 33))):=Hx ((eR Y18).alloc _);have hgr:w7.heap.size<=Y18.heap.size:=EX.o.size;have EX:=Hx (EX.o.tr XN.o);have R0:=Hx (R0.o.K XN.o);have GA:=Hx (GA.o.K XN.o);have GR:=Hx (eN Y18 33 #[.bool nq,.s F1 u1 d1,.s F2 u2 d2]);refine hK.o _ _ trivial ?_;clear hK KK XN;generalize Y18.alloc (.cells #[.bool nq,.s F1 u1 d1,.s F2 u2 d2] 33)=Y19 at*;generalize Y18.heap.size=gr at*;try simp only[Act.put,yA,yB,yC,yD,yE,yF]
      refine wP 7 rfl HSW.o ?_;try simp only[Act.put,yA,yB,yC,yD,yE,yF]
      refine wC 8 rfl (fun KK hK=>?_);go_simp;have XN:Hid (Ext Y19 (Y19.alloc (.cells #[zN,zN,zN] 56))):=Hx ((eR Y19).alloc _);have hbq:w7.heap.size<=Y19.heap.size:=EX.o.size;have EX:=Hx (EX.o.tr XN.o);have R0:=Hx (R0.o.K XN.o);have GR:=Hx (GR.o.K XN.o);have GA:=Hx (GA.o.K XN.o);have BQ:=Hx (eN Y19 56 #[zN,zN,zN]);refine hK.o _ _ trivial ?_;clear hK KK XN;generalize Y19.alloc (.cells #[zN,zN,zN] 56)=Y20 at*;generalize Y19.heap.size=bq at*;try simp only[Act.put,yA,yB,yC,yD,yE,yF]
      have z0:=BQ.o.cell 0;have z1:=BQ.o.cell 1;have z2:=BQ.o.cell 2;have f0:=BQ.o.frozen 0;have f1:=BQ.o.frozen 1;have f2:=BQ.o.frozen 2;refine aY qK rfl qR (fun KK hK=>?_);go_simp;have FL:=Hx (Pg0.leaf BQ.o GR.o R0.o GA.o EX.o hbq hgr hga);refine hK.o _ _ ?_;clear hK KK z0 z1 z2 f0 f1 f2 BQ GR R0 GA EX HSW;generalize (((Y20.setCell (aD bq 0) (.s (sA gr) 1 1)).setCell (aD bq 1) (.s (sA ga) m m)).setCell (aD bq 2) zN)=YF at*;refine wpAny_done qK ?_ _;go_wp2;go_meet;exact⟨bq,gr,ga,nq,F1,u1,d1,F2,u2,d2,rfl,FL⟩
     skip
     go_simp;have XN:Hid (Ext Y18 (Y18.alloc (.cells #[zN,zN,zN] 56))):=Hx ((eR Y18).alloc _);have hbq:w7.heap.size<=Y18.heap.size:=EX.o.size;have EX:=Hx (EX.o.tr XN.o);have R0:=Hx (R0.o.K XN.o);have GA:=Hx (GA.o.K XN.o);have BQ:=Hx (eN Y18 56 #[zN,zN,zN]);refine hK.o _ _ trivial ?_;clear hK KK XN;generalize Y18.alloc (.cells #[zN,zN,zN] 56)=Y21 at*;generalize Y18.heap.size=bq at*;try simp only[Act.put,yA,yB,yC,yD,yE,yF]
     refine wC 1 rfl (fun KK hK=>?_);go_simp;have XN:Hid (Ext Y21 (Y21.alloc (.cells #[.bool nq,.s F1 u1 d1,.s F2 u2 d2] 33))):=Hx ((eR Y21).alloc _);have hgr:w7.heap.size<=Y21.heap.size:=EX.o.size;have EX:=Hx (EX.o.tr XN.o);have R0:=Hx (R0.o.K XN.o);have GA:=Hx (GA.o.K XN.o);have BQ:=Hx (BQ.o.K XN.o);have GR:=Hx (eN Y21 33 #[.bool nq,.s F1 u1 d1,.s F2 u2 d2]);refine hK.o _ _ trivial ?_;clear hK KK XN;generalize Y21.alloc (.cells #[.bool nq,.s F1 u1 d1,.s F2 u2 d2] 33)=Y22 at*;generalize Y21.heap.size=gr at*;try simp only[Act.put,yA,yB,yC,yD,yE,yF]
     refine wP 7 rfl HSW.o ?_;try simp only[Act.put,yA,yB,yC,yD,yE,yF]
     have z0:=BQ.o.cell 0;have z1:=BQ.o.cell 1;have z2:=BQ.o.cell 2;have f0:=BQ.o.frozen 0;have f1:=BQ.o.frozen 1;have f2:=BQ.o.frozen 2;refine aY qK rfl qR (fun KK hK=>?_);go_simp;have FL:=Hx (Pg0.leaf BQ.o GR.o R0.o GA.o EX.o hbq hgr hga);refine hK.o _ _ ?_;clear hK KK z0 z1 z2 f0 f1 f2 BQ GR R0 GA EX HSW;generalize (((Y22.setCell (aD bq 0) (.s (sA gr) 1 1)).setCell (aD bq 1) (.s (sA ga) m m)).setCell (aD bq 2) zN)=YF at*;refine wpAny_done qK ?_ _;go_wp2;go_meet;exact⟨bq,gr,ga,nq,F1,u1,d1,F2,u2,d2,rfl,FL⟩
    skip
    go_simp;have XN:Hid (Ext Y17 (Y17.alloc (.cells #[zN,zN,zN] 56))):=Hx ((eR Y17).alloc _);have hbq:w7.heap.size<=Y17.heap.size:=EX.o.size;have EX:=Hx (EX.o.tr XN.o);have GA:=Hx (GA.o.K XN.o);have BQ:=Hx (eN Y17 56 #[zN,zN,zN]);refine hK.o _ _ trivial ?_;clear hK KK XN;generalize Y17.alloc (.cells #[zN,zN,zN] 56)=Y23 at*;generalize Y17.heap.size=bq at*;try simp only[Act.put,yA,yB,yC,yD,yE,yF]
    refine wC 0 rfl (fun KK hK=>?_);go_simp;refine(dP 1 _ ⟨qO,qO⟩).mono ?_;rintro e Y24 ⟨nq,F1,u1,d1,F2,u2,d2,rfl,hR,x8⟩;have EX:=Hx (EX.o.tr x8);have GA:=Hx (GA.o.K x8);have BQ:=Hx (BQ.o.K x8);have R0:=Hx hR;refine hK.o _ _ trivial ?_;clear hK KK x8 hR;try simp only[Act.put,yA,yB,yC,yD,yE,yF]
    refine wC 1 rfl (fun KK hK=>?_);go_simp;have XN:Hid (Ext Y24 (Y24.alloc (.cells #[.bool nq,.s F1 u1 d1,.s F2 u2 d2] 33))):=Hx ((eR Y24).alloc _);have hgr:w7.heap.size<=Y24.heap.size:=EX.o.size;have EX:=Hx (EX.o.tr XN.o);have R0:=Hx (R0.o.K XN.o);have GA:=Hx (GA.o.K XN.o);have BQ:=Hx (BQ.o.K XN.o);have GR:=Hx (eN Y24 33 #[.bool nq,.s F1 u1 d1,.s F2 u2 d2]);refine hK.o _ _ trivial ?_;clear hK KK XN;generalize Y24.alloc (.cells #[.bool nq,.s F1 u1 d1,.s F2 u2 d2] 33)=Y25 at*;generalize Y24.heap.size=gr at*;try simp only[Act.put,yA,yB,yC,yD,yE,yF]
    refine wP 7 rfl HSW.o ?_;try simp only[Act.put,yA,yB,yC,yD,yE,yF]
    have z0:=BQ.o.cell 0;have z1:=BQ.o.cell 1;have z2:=BQ.o.cell 2;have f0:=BQ.o.frozen 0;have f1:=BQ.o.frozen 1;have f2:=BQ.o.frozen 2;refine aY qK rfl qR (fun KK hK=>?_);go_simp;have FL:=Hx (Pg0.leaf BQ.o GR.o R0.o GA.o EX.o hbq hgr hga);refine hK.o _ _ ?_;clear hK KK z0 z1 z2 f0 f1 f2 BQ GR R0 GA EX HSW;generalize (((Y25.setCell (aD bq 0) (.s (sA gr) 1 1)).setCell (aD bq 1) (.s (sA ga) m m)).setCell (aD bq 2) zN)=YF at*;refine wpAny_done qK ?_ _;go_wp2;go_meet;exact⟨bq,gr,ga,nq,F1,u1,d1,F2,u2,d2,rfl,FL⟩
   skip
   go_simp;have XN:Hid (Ext Y0 (Y0.alloc (.cells #[zN,zN,zN] 56))):=Hx ((eR Y0).alloc _);have hbq:w7.heap.size<=Y0.heap.size:=EX.o.size;have EX:=Hx (EX.o.tr XN.o);have BQ:=Hx (eN Y0 56 #[zN,zN,zN]);refine hK.o _ _ trivial ?_;clear hK KK XN;generalize Y0.alloc (.cells #[zN,zN,zN] 56)=Y26 at*;generalize Y0.heap.size=bq at*;try simp only[Act.put,yA,yB,yC,yD,yE,yF]
   refine lV (i:=0) (j:=6) qD qD qK rfl rfl qR qR (fun KK hK=>?_) (fun KK hK=>?_)
   ·skip
    go_simp;refine(dP 1 _ ⟨qO,qO⟩).mono ?_;rintro e Y27 ⟨nq,F1,u1,d1,F2,u2,d2,rfl,hR,x8⟩;have EX:=Hx (EX.o.tr x8);have BQ:=Hx (BQ.o.K x8);have R0:=Hx hR;refine hK.o _ _ trivial ?_;clear hK KK x8 hR;try simp only[Act.put,yA,yB,yC,yD,yE,yF]
    refine lV (i:=1) (j:=6) qD qD qK rfl rfl qR qR (fun KK hK=>?_) (fun KK hK=>?_)
    ·skip
     go_simp;have XN:Hid (Ext Y27 (Y27.alloc (.cells #[.bool nq,.s F1 u1 d1,.s F2 u2 d2] 33))):=Hx ((eR Y27).alloc _);have hgr:w7.heap.size<=Y27.heap.size:=EX.o.size;have EX:=Hx (EX.o.tr XN.o);have R0:=Hx (R0.o.K XN.o);have BQ:=Hx (BQ.o.K XN.o);have GR:=Hx (eN Y27 33 #[.bool nq,.s F1 u1 d1,.s F2 u2 d2]);refine hK.o _ _ trivial ?_;clear hK KK XN;generalize Y27.alloc (.cells #[.bool nq,.s F1 u1 d1,.s F2 u2 d2] 33)=Y28 at*;generalize Y27.heap.size=gr at*;try simp only[Act.put,yA,yB,yC,yD,yE,yF]
     refine wC 6 rfl (fun KK hK=>?_);go_simp;have XN:Hid (Ext Y28 (Y28.alloc (.cells (madeCells #[zN] m) 35))):=Hx ((eR Y28).alloc _);have hga:w7.heap.size<=Y28.heap.size:=EX.o.size;have EX:=Hx (EX.o.tr XN.o);have R0:=Hx (R0.o.K XN.o);have GR:=Hx (GR.o.K XN.o);have BQ:=Hx (BQ.o.K XN.o);have GA:=Hx (eN Y28 35 (madeCells #[zN] m));refine hK.o _ _ trivial ?_;clear hK KK XN;generalize Y28.alloc (.cells (madeCells #[zN] m) 35)=Y29 at*;generalize Y28.heap.size=ga at*;try simp only[Act.put,yA,yB,yC,yD,yE,yF]
     refine wP 7 rfl HSW.o ?_;try simp only[Act.put,yA,yB,yC,yD,yE,yF]
     have z0:=BQ.o.cell 0;have z1:=BQ.o.cell 1;have z2:=BQ.o.cell 2;have f0:=BQ.o.frozen 0;have f1:=BQ.o.frozen 1;have f2:=BQ.o.frozen 2;refine aY qK rfl qR (fun KK hK=>?_);go_simp;have FL:=Hx (Pg0.leaf BQ.o GR.o R0.o GA.o EX.o hbq hgr hga);refine hK.o _ _ ?_;clear hK KK z0 z1 z2 f0 f1 f2 BQ GR R0 GA EX HSW;generalize (((Y29.setCell (aD bq 0) (.s (sA gr) 1 1)).setCell (aD bq 1) (.s (sA ga) m m)).setCell (aD bq 2) zN)=YF at*;refine wpAny_done qK ?_ _;go_wp2;go_meet;exact⟨bq,gr,ga,nq,F1,u1,d1,F2,u2,d2,rfl,FL⟩
    skip
    go_simp;have XN:Hid (Ext Y27 (Y27.alloc (.cells (madeCells #[zN] m) 35))):=Hx ((eR Y27).alloc _);have hga:w7.heap.size<=Y27.heap.size:=EX.o.size;have EX:=Hx (EX.o.tr XN.o);have R0:=Hx (R0.o.K XN.o);have BQ:=Hx (BQ.o.K XN.o);have GA:=Hx (eN Y27 35 (madeCells #[zN] m));refine hK.o _ _ trivial ?_;clear hK KK XN;generalize Y27.alloc (.cells (madeCells #[zN] m) 35)=Y30 at*;generalize Y27.heap.size=ga at*;try simp only[Act.put,yA,yB,yC,yD,yE,yF]
    refine wC 1 rfl (fun KK hK=>?_);go_simp;have XN:Hid (Ext Y30 (Y30.alloc (.cells #[.bool nq,.s F1 u1 d1,.s F2 u2 d2] 33))):=Hx ((eR Y30).alloc _);have hgr:w7.heap.size<=Y30.heap.size:=EX.o.size;have EX:=Hx (EX.o.tr XN.o);have R0:=Hx (R0.o.K XN.o);have GA:=Hx (GA.o.K XN.o);have BQ:=Hx (BQ.o.K XN.o);have GR:=Hx (eN Y30 33 #[.bool nq,.s F1 u1 d1,.s F2 u2 d2]);refine hK.o _ _ trivial ?_;clear hK KK XN;generalize Y30.alloc (.cells #[.bool nq,.s F1 u1 d1,.s F2 u2 d2] 33)=Y31 at*;generalize Y30.heap.size=gr at*;try simp only[Act.put,yA,yB,yC,yD,yE,yF]
    refine wP 7 rfl HSW.o ?_;try simp only[Act.put,yA,yB,yC,yD,yE,yF]
    have z0:=BQ.o.cell 0;have z1:=BQ.o.cell 1;have z2:=BQ.o.cell 2;have f0:=BQ.o.frozen 0;have f1:=BQ.o.frozen 1;have f2:=BQ.o.frozen 2;refine aY qK rfl qR (fun KK hK=>?_);go_simp;have FL:=Hx (Pg0.leaf BQ.o GR.o R0.o GA.o EX.o hbq hgr hga);refine hK.o _ _ ?_;clear hK KK z0 z1 z2 f0 f1 f2 BQ GR R0 GA EX HSW;generalize (((Y31.setCell (aD bq 0) (.s (sA gr) 1 1)).setCell (aD bq 1) (.s (sA ga) m m)).setCell (aD bq 2) zN)=YF at*;refine wpAny_done qK ?_ _;go_wp2;go_meet;exact⟨bq,gr,ga,nq,F1,u1,d1,F2,u2,d2,rfl,FL⟩
   skip
   go_simp;have XN:Hid (Ext Y26 (Y26.alloc (.cells (madeCells #[zN] m) 35))):=Hx ((eR Y26).alloc _);have hga:w7.heap.size<=Y26.heap.size:=EX.o.size;have EX:=Hx (EX.o.tr XN.o);have BQ:=Hx (BQ.o.K XN.o);have GA:=Hx (eN Y26 35 (madeCells #[zN] m));refine hK.o _ _ trivial ?_;clear hK KK XN;generalize Y26.alloc (.cells (madeCells #[zN] m) 35)=Y32 at*;generalize Y26.heap.size=ga at*;try simp only[Act.put,yA,yB,yC,yD,yE,yF]
   refine wC 0 rfl (fun KK hK=>?_);go_simp;refine(dP 1 _ ⟨qO,qO⟩).mono ?_;rintro e Y33 ⟨nq,F1,u1,d1,F2,u2,d2,rfl,hR,x8⟩;have EX:=Hx (EX.o.tr x8);have GA:=Hx (GA.o.K x8);have BQ:=Hx (BQ.o.K x8);have R0:=Hx hR;refine hK.o _ _ trivial ?_;clear hK KK x8 hR;try simp only[Act.put,yA,yB,yC,yD,yE,yF]
   refine wC 1 rfl (fun KK hK=>?_);go_simp;have XN:Hid (Ext Y33 (Y33.alloc (.cells #[.bool nq,.s F1 u1 d1,.s F2 u2 d2] 33))):=Hx ((eR Y33).alloc _);have hgr:w7.heap.size<=Y33.heap.size:=EX.o.size;have EX:=Hx (EX.o.tr XN.o);have R0:=Hx (R0.o.K XN.o);have GA:=Hx (GA.o.K XN.o);have BQ:=Hx (BQ.o.K XN.o);have GR:=Hx (eN Y33 33 #[.bool nq,.s F1 u1 d1,.s F2 u2 d2]);refine hK.o _ _ trivial ?_;clear hK KK XN;generalize Y33.alloc (.cells #[.bool nq,.s F1 u1 d1,.s F2 u2 d2] 33)=Y34 at*;generalize Y33.heap.size=gr at*;try simp only[Act.put,yA,yB,yC,yD,yE,yF]
   refine wP 7 rfl HSW.o ?_;try simp only[Act.put,yA,yB,yC,yD,yE,yF]
   have z0:=BQ.o.cell 0;have z1:=BQ.o.cell 1;have z2:=BQ.o.cell 2;have f0:=BQ.o.frozen 0;have f1:=BQ.o.frozen 1;have f2:=BQ.o.frozen 2;refine aY qK rfl qR (fun KK hK=>?_);go_simp;have FL:=Hx (Pg0.leaf BQ.o GR.o R0.o GA.o EX.o hbq hgr hga);refine hK.o _ _ ?_;clear hK KK z0 z1 z2 f0 f1 f2 BQ GR R0 GA EX HSW;generalize (((Y34.setCell (aD bq 0) (.s (sA gr) 1 1)).setCell (aD bq 1) (.s (sA ga) m m)).setCell (aD bq 2) zN)=YF at*;refine wpAny_done qK ?_ _;go_wp2;go_meet;exact⟨bq,gr,ga,nq,F1,u1,d1,F2,u2,d2,rfl,FL⟩
 obtain⟨bq,g1,ga,nq,F1,u1,d1,F2,u2,d2,rfl,P0⟩:=hcut;generalize wc=W8 at*;clear XD hadd hmk;have B8:=Hx (B7.o.K P0.o.2.2.2.2.1);have y0:=B8.o.cell 0;have y1:=B8.o.cell 1;have y2:=B8.o.cell 2;have k0:=aA ((eR W8).alloc (.cells #[.bool neg,.s A1 n1 c1,.s A2 n2 c2] 33)) y0;have k1:=aA ((eR W8).alloc (.cells #[.bool neg,.s A1 n1 c1,.s A2 n2 c2] 33)) y1;have k2:=aA ((eR W8).alloc (.cells #[.bool neg,.s A1 n1 c1,.s A2 n2 c2] 33)) y2;obtain⟨hgx,hbr,e9⟩:=dK W8 #[.bool neg,.s A1 n1 c1,.s A2 n2 c2] 33 #[vI 1,.s (sA W8.heap.size) 1 1,zN,zN,.bool neg,.s A1 n1 c1,.s A2 n2 c2] 58;have I0:=Hx (PgI.start (R':=aI l []) P0.o e9 (S7.o.val.K (P0.o.2.2.2.2.1.tr e9)) hgx (yX _) hbr (Nat.le_succ _));have hsz9:((W8.alloc (.cells #[.bool neg,.s A1 n1 c1,.s A2 n2 c2] 33)).alloc (.cells #[vI 1,.s (sA W8.heap.size) 1 1,zN,zN,.bool neg,.s A1 n1 c1,.s A2 n2 c2] 58)).heap.size=W8.heap.size+2:=qS;clear hgx hbr e9
 go_upto_region 13 with fail
 clear y0 y1 y2 k0 k1 k2;generalize (W8.alloc (.cells #[.bool neg,.s A1 n1 c1,.s A2 n2 c2] 33)).alloc (.cells #[vI 1,.s (sA W8.heap.size) 1 1,zN,zN,.bool neg,.s A1 n1 c1,.s A2 n2 c2] 58)=W9 at*;generalize hg8:W8.heap.size=g8 at*;obtain⟨V0,hV0⟩:∃V0,V0=vS m (.s (sA g1) 1 1) zN (.s (sA g8) 1 1) zN:=⟨_,rfl⟩;rw[<-hV0]at I0;have hv3:V0 (m+3)=zN:=(by rw[hV0];unfold vS;rw[qF qO,qF qO,qF qO,qF qO]);clear hV0 P0 B8 hg8;generalize g8+1=br at*;go_wp2
 go_loopg [10] l.length (fun q it wx=>∃(n:Nat) (V:Nat->Value),l.length-n=q/\n<=l.length/\it=vI (n:Int)/\Hid (PgI w7 wx bq br ga m neg A1 n1 c1 A2 n2 c2 V (qSt m n (fun _=>[]) (aI l []) [1] (List.replicate n 0) [v] [])/\V (m+3)=zN))
 case atStart=>exact⟨0,V0,rfl,yZ _,rfl,Hx ⟨I0.o,hv3⟩⟩
 as_aux_lemma=>
  obtain⟨n,V,rfl,hn,rfl,J⟩:=hrel;clear I0 hv3;by_cases hnl:n<l.length
  ·as_aux_lemma=>
   obtain⟨d,hd⟩:∃d,l[n]?=some d:=⟨_,yG hnl⟩;obtain⟨bd,od,rfl,_,_,_,a2,_⟩:=((HA.o.1.dem g3).K (X7.o.tr J.o.1.ext)).at_ hd;have DC:=Hx (show w7.cell? (aD bd (od+n*4+2))=some (vI d.amount)from by
    obtain⟨b',o',e',_,_,_,k2,_⟩:=((HA.o.1.dem g3).K X7.o).at_ hd;injection e' with e'
    injection e' with e1 e2
    rw[e1,e2];exact k2)
   have AMQ:=Hx (show aI l [] n=[]++[(d.amount:Rat)]from by
    unfold aI;rw[qE hnl];show [amQ l n]=_;unfold amQ;rw[hd];rfl)
   have hdw:=(HA.o.1.dwf d (yJ hd)).2.2.1;have hnm:n<m:=(by have:=HM.o;omega);have nN:(n:Int)<(l.length:Int):=qO;have nM:(n:Int)<(m:Int):=qO;have n0:(0:Int)<=(n:Int):=qO;clear hd a2;have KEEP:Hid (∀wx,Ext wr wx->wx.cell? (aD bq 1)=some (.s (sA ga) m m)/\wx.cell? (aD ga n)=some (V n)/\wx.cell? (aD bd (od+n*4+2))=some (vI d.amount)):=Hx (fun wx hx=>⟨(J.o.1.qb.K hx).cell 1,((J.o.1.ab.K hx).cell n).trans (fW hnm),aA (J.o.1.ext.tr hx) DC.o⟩);have XD:Hid (Ext wr wr.drew):=Hx ((eR wr).drewN 1);have HSW:=Hx (KEEP.o _ XD.o)
   go_upto_region 16 with fail
   refine wX KEEP 17 ?_;refine wP 0 rfl HSW.o ?_;try simp only[Act.put,yA,yB,yC,yD,yE,yF]
   refine wV 1 rfl HSW.o ?_;try simp only[Act.put,yA,yB,yC,yD,yE,yF]
   refine wP 2 rfl HSW.o ?_;try simp only[Act.put,yA,yB,yC,yD,yE,yF]
   refine wP 3 rfl HSW.o ?_;try simp only[Act.put,yA,yB,yC,yD,yE,yF]
   refine wV 4 rfl HSW.o ?_;try simp only[Act.put,yA,yB,yC,yD,yE,yF]
   refine wP 5 rfl HSW.o ?_;try simp only[Act.put,yA,yB,yC,yD,yE,yF]
   refine wP 6 rfl HSW.o ?_;try simp only[Act.put,yA,yB,yC,yD,yE,yF]
   refine wV 7 rfl HSW.o ?_;try simp only[Act.put,yA,yB,yC,yD,yE,yF]
   refine wP 8 rfl HSW.o ?_;try simp only[Act.put,yA,yB,yC,yD,yE,yF]
   refine wP 9 rfl HSW.o ?_;try simp only[Act.put,yA,yB,yC,yD,yE,yF]
   refine wP 10 rfl HSW.o ?_;try simp only[Act.put,yA,yB,yC,yD,yE,yF]
   refine wP 11 rfl HSW.o ?_;try simp only[Act.put,yA,yB,yC,yD,yE,yF]
   refine wV 12 rfl HSW.o ?_;try simp only[Act.put,yA,yB,yC,yD,yE,yF]
   refine wC 13 rfl (fun KK hK=>?_);go_simp;refine(dP d.amount _ hdw).mono ?_;rintro e wa ⟨nf,H1,p1,q1,H2,p2,q2,rfl,hR,xa⟩;have EA:=Hx (XD.o.tr xa);have RA:=Hx hR;have HSW:=Hx (KEEP.o _ EA.o);refine hK.o _ _ HSW.o ?_;clear hK KK xa hR;try simp only[Act.put,yA,yB,yC,yD,yE,yF]
   refine wC 14 rfl (fun KK hK=>?_);go_simp;have XN:Hid (Ext wa (wa.alloc (.cells #[.bool nf,.s H1 p1 q1,.s H2 p2 q2] 33))):=Hx ((eR wa).alloc _);have BW:=Hx (eN wa 33 #[.bool nf,.s H1 p1 q1,.s H2 p2 q2]);have EB:=Hx (EA.o.tr XN.o);have RB:=Hx (RA.o.K XN.o);have HSW:=Hx (KEEP.o _ EB.o);refine hK.o _ _ HSW.o ?_;clear hK KK XN;generalize wa.alloc (.cells #[.bool nf,.s H1 p1 q1,.s H2 p2 q2] 33)=wb at*;generalize wa.heap.size=gb at*;try simp only[Act.put,yA,yB,yC,yD,yE,yF]
   refine wC 15 rfl (fun KK hK=>?_);obtain⟨css,h1,h2,hown,h4⟩:=(J.o.1.own (n) qO).K QR.keep_ EB.o;have hlen:Hid ((qSt m n (fun _=>[]) (aI l []) [1] (List.replicate n 0) [v] [] n).length=0):=Hx (by rw[lT hnm,qF (kZr n)];rfl);rw[hlen.o]at hown;refine fO wb 35 33 _ 3 56 _ _ rfl underlying35 Tryz.info44 rfl qD w7.heap.size (V (n)) (0) css.flatten qR hown [.bool nf,.s H1 p1 q1,.s H2 p2 q2] rfl (by simp[Value.oneCell']) gb qR BW.o (by unfold maxLen;omega) qO ((J.o.1.ext.tr EB.o).size) ?_;intro g9 c9 wc own9 grow9 new9;have J9:=Hx ((J.o.1.K EB.o).pushed qO hlen.o h1 h2 hown h4 RB.o own9 grow9 new9);have HSW:Hid (wc.cell? (aD bq 1)=some (.s (sA ga) m m)/\wc.cell? (aD ga n)=some (V n)/\wc.cell? (aD bd (od+n*4+2))=some (vI d.amount)):=Hx (⟨J9.o.qb.cell 1,(J9.o.ab.cell n).trans (fW hnm),aA J9.o.ext DC.o⟩);refine hK.o _ _ HSW.o ?_;clear hK KK h1 h2 hown h4 own9 grow9 new9 css hlen EA RA EB RB BW KEEP;try simp only[Act.put,yA,yB,yC,yD,yE,yF]
   have z0:wc.frozen? (aD ga n)=false:=J9.o.ab.frozen _;have t0:wc.cell? (aD ga n)=some (V (n)):=(J9.o.ab.cell n).trans (fW hnm);refine wP 16 rfl HSW.o ?_;try simp only[Act.put,yA,yB,yC,yD,yE,yF]
   refine aY qK rfl qR (fun KK hK=>?_);go_simp;refine hK.o _ _ ?_;have N9:Hid (∃V',PgI w7 (wc.setCell (aD ga n) (.s (sA g9) (0+1) c9)) bq br ga m neg A1 n1 c1 A2 n2 c2 V' (qSt m (n+1) (fun _=>[]) (aI l []) [1] (List.replicate n 0) [v] [])/\V' (m+3)=V (m+3)):=Hx (⟨_,by rw[<-sD hnm AMQ.o];exact J9.o.row hnm,bU _ _ qO⟩);clear hK KK z0 t0 J9 HSW XD;refine wpAny_done qK ?_ _;generalize wc.setCell (aD ga n) (.s (sA g9) (0+1) c9)=wd at*;have hV:=J.o.2;obtain⟨V1,N1⟩:∃V1,Hid (PgI w7 wd bq br ga m neg A1 n1 c1 A2 n2 c2 V1 (qSt m (n+1) (fun _=>[]) (aI l []) [1] (List.replicate n 0) [v] [])/\V1 (m+3)=zN):=by
    obtain⟨V1,k1,k2⟩:=N9.o;exact⟨V1,Hx ⟨k1,k2.trans hV⟩⟩
   clear N9 J hV DC AMQ hdw;have KEEP:Hid (∀wx,Ext wd wx->wx.cell? (aD bq 2)=some (V1 (m+1))/\True):=Hx (fun wx hx=>⟨(N1.o.1.qb.K hx).cell 2,trivial⟩);have XD:Hid (Ext wd wd.drew):=Hx ((eR wd).drewN 1);have HSW:=Hx (KEEP.o _ XD.o)
   go_upto_region 17 with fail
   refine wX KEEP 6 ?_;refine wP 0 rfl HSW.o ?_;try simp only[Act.put,yA,yB,yC,yD,yE,yF]
   refine wV 1 rfl HSW.o ?_;try simp only[Act.put,yA,yB,yC,yD,yE,yF]
   refine wC 2 rfl (fun KK hK=>?_);go_simp;refine(dP 0 _ ⟨qO,qO⟩).mono ?_;rintro e wa ⟨nf,H1,p1,q1,H2,p2,q2,rfl,hR,xa⟩;have EA:=Hx (XD.o.tr xa);have RA:=Hx hR;have HSW:=Hx (KEEP.o _ EA.o);refine hK.o _ _ HSW.o ?_;clear hK KK xa hR;try simp only[Act.put,yA,yB,yC,yD,yE,yF]
   refine wC 3 rfl (fun KK hK=>?_);go_simp;have XN:Hid (Ext wa (wa.alloc (.cells #[.bool nf,.s H1 p1 q1,.s H2 p2 q2] 33))):=Hx ((eR wa).alloc _);have BW:=Hx (eN wa 33 #[.bool nf,.s H1 p1 q1,.s H2 p2 q2]);have EB:=Hx (EA.o.tr XN.o);have RB:=Hx (RA.o.K XN.o);have HSW:=Hx (KEEP.o _ EB.o);refine hK.o _ _ HSW.o ?_;clear hK KK XN;generalize wa.alloc (.cells #[.bool nf,.s H1 p1 q1,.s H2 p2 q2] 33)=wb at*;generalize wa.heap.size=gb at*;try simp only[Act.put,yA,yB,yC,yD,yE,yF]
   refine wC 4 rfl (fun KK hK=>?_);obtain⟨css,h1,h2,hown,h4⟩:=(N1.o.1.own (m+1) qO).K QR.keep_ EB.o;have hlen:Hid ((qSt m (n+1) (fun _=>[]) (aI l []) [1] (List.replicate n 0) [v] [] (m+1)).length=n):=Hx (by rw[mW,xC]);rw[hlen.o]at hown;refine fO wb 35 33 _ 3 56 _ _ rfl underlying35 Tryz.info44 rfl qD w7.heap.size (V1 (m+1)) (n) css.flatten qR hown [.bool nf,.s H1 p1 q1,.s H2 p2 q2] rfl (by simp[Value.oneCell']) gb qR BW.o (by unfold maxLen;omega) qO ((N1.o.1.ext.tr EB.o).size) ?_;intro g9 c9 wc own9 grow9 new9;have J9:=Hx ((N1.o.1.K EB.o).pushed qO hlen.o h1 h2 hown h4 RB.o own9 grow9 new9);have HSW:Hid (wc.cell? (aD bq 2)=some (V1 (m+1))/\True):=Hx (⟨J9.o.qb.cell 2,trivial⟩);refine hK.o _ _ HSW.o ?_;clear hK KK h1 h2 hown h4 own9 grow9 new9 css hlen EA RA EB RB BW KEEP;try simp only[Act.put,yA,yB,yC,yD,yE,yF]
   have z0:wc.frozen? (aD bq 2)=false:=J9.o.qb.frozen _;have t0:wc.cell? (aD bq 2)=some (V1 (m+1)):=J9.o.qb.cell 2;refine wP 5 rfl HSW.o ?_;try simp only[Act.put,yA,yB,yC,yD,yE,yF]
   refine aY qK rfl qR (fun KK hK=>?_);go_simp;refine hK.o _ _ ?_;have N9:Hid (∃V',PgI w7 (wc.setCell (aD bq 2) (.s (sA g9) (n+1) c9)) bq br ga m neg A1 n1 c1 A2 n2 c2 V' (qSt m (n+1) (fun _=>[]) (aI l []) [1] (List.replicate (n+1) 0) [v] [])/\V' (m+3)=V1 (m+3)):=Hx (⟨_,by have h9:=J9.o.b;rw[jzfc,mW,show List.replicate n (0:Rat)++[((0:Int):Rat)]=List.replicate (n+1) 0 from(List.replicate_succ' ..).symm]at h9;exact h9,bU _ _ qO⟩);clear hK KK z0 t0 J9 HSW XD;refine wpAny_done qK ?_ _;generalize wc.setCell (aD bq 2) (.s (sA g9) (n+1) c9)=we at*;obtain⟨V2,k1,k2⟩:=N9.o;have FIN:=Hx (kQa k1 (k2.trans N1.o.2));clear N9 N1 k1 k2;go_wp2
   go_roundg (l.length-(n+1))
   case measure=>omega
   exact⟨n+1,V2,rfl,qO,by go_num,FIN⟩
  as_aux_lemma=>
   obtain rfl:n=l.length:=qO;obtain⟨V0,hV0⟩:∃V0,V0=V:=⟨_,rfl⟩;rw[<-hV0]at J;have I0:=J;clear J hnl hn hV0;have I1:=Hx (show PgI w7 wr bq br ga m neg A1 n1 c1 A2 n2 c2 V0 (qSt m (l.length+0) (fun _=>[]) (aI l []) [1] (List.replicate l.length 0++(List.range 0).map (aP t)) [v] [])from by
    have h9:=I0.o.1;rw[<-List.append_nil (List.replicate l.length (0:Rat))]at h9;exact h9)
   have hv3:=I0.o.2;clear I0;go_wp2
   go_loopg [11] L2 (fun q it wx=>∃(n:Nat) (V:Nat->Value),L2-n=q/\n<=L2/\it=vI (n:Int)/\Hid (PgI w7 wx bq br ga m neg A1 n1 c1 A2 n2 c2 V (qSt m (l.length+n) (fun _=>[]) (aI l []) [1] (List.replicate l.length 0++(List.range n).map (aP t)) [v] [])/\V (m+3)=zN))
   case atStart=>exact⟨0,V0,rfl,yZ _,rfl,Hx ⟨I1.o,hv3⟩⟩
   as_aux_lemma=>
    obtain⟨n,V,rfl,hn,rfl,J⟩:=hrel;clear I1 hv3;by_cases hnl:n<L2
    ·as_aux_lemma=>
     have hnt:n<2*t.links.length:=(by have:=HNP.o.2;omega);obtain⟨hl,_,_,_,k5,k6,k7⟩:=lB HF.o.v hnt;obtain⟨lk,hlk⟩:∃lk,t.links[n/2]?=some lk:=⟨_,yG hl⟩;have e0:t.links[n/2]=lk:=(yH.1 hlk).2;rw[e0]at k5 k6 k7;obtain⟨bL,oL,hAL,_,_,_,_,_,c4,_,_⟩:=((HA.o.1.top hg1 g2).K X7.o).link hlk;subst hAL;have LC:=Hx (kQa c4 k5);have hci:i64 lk.cap:=⟨qO,qO⟩;obtain⟨k,hk⟩:∃k,l.length+n=k:=⟨_,rfl⟩;rw[hk]at J;have HK:=Hx hk;have hkm:k<m:=(by have:=HM.o;omega);have AMQ:=Hx (show aI l [] k=[]++[((0:Int):Rat)]from by
      unfold aI;rw[qF qO];rfl)
     have nN:(n:Int)<(L2:Int):=qO;have n0:(0:Int)<=(n:Int):=qO;have kM:(k:Int)<(m:Int):=qO;have k0:(0:Int)<=(k:Int):=qO;have hadd:IntKind.i64.wrap ((l.length:Int)+(n:Int))=(k:Int):=(by rw[IntKind.wrap_i64];omega);clear hnt hl hlk e0 c4 k5 k6 k7 hk;have KEEP:Hid (∀wx,Ext wr wx->wx.cell? (aD bq 1)=some (.s (sA ga) m m)/\wx.cell? (aD ga k)=some (V k)):=Hx (fun wx hx=>⟨(J.o.1.qb.K hx).cell 1,((J.o.1.ab.K hx).cell k).trans (fW hkm)⟩);have XD:Hid (Ext wr wr.drew):=Hx ((eR wr).drewN 1);have HSW:=Hx (KEEP.o _ XD.o)
     go_upto_region 21 with fail
     refine wX KEEP 18 ?_;refine wP 0 rfl HSW.o ?_;try simp only[Act.put,yA,yB,yC,yD,yE,yF]
     refine wV 1 rfl HSW.o ?_;try simp only[Act.put,yA,yB,yC,yD,yE,yF]
     refine wP 2 rfl HSW.o ?_;try simp only[Act.put,yA,yB,yC,yD,yE,yF]
     refine wP 3 rfl HSW.o ?_;try simp only[Act.put,yA,yB,yC,yD,yE,yF]
     refine wP 4 rfl HSW.o ?_;try simp only[Act.put,yA,yB,yC,yD,yE,yF]
     refine wP 5 rfl HSW.o ?_;try simp only[Act.put,yA,yB,yC,yD,yE,yF]
     refine wP 6 rfl HSW.o ?_;try simp only[Act.put,yA,yB,yC,yD,yE,yF]
     refine wV 7 rfl HSW.o ?_;try simp only[Act.put,yA,yB,yC,yD,yE,yF]
     refine wP 8 rfl HSW.o ?_;try simp only[Act.put,yA,yB,yC,yD,yE,yF]
     refine wP 9 rfl HSW.o ?_;try simp only[Act.put,yA,yB,yC,yD,yE,yF]
     refine wP 10 rfl HSW.o ?_;try simp only[Act.put,yA,yB,yC,yD,yE,yF]
     refine wP 11 rfl HSW.o ?_;try simp only[Act.put,yA,yB,yC,yD,yE,yF]
     refine wP 12 rfl HSW.o ?_;try simp only[Act.put,yA,yB,yC,yD,yE,yF]
     refine wV 13 rfl HSW.o ?_;try simp only[Act.put,yA,yB,yC,yD,yE,yF]
     refine wC 14 rfl (fun KK hK=>?_);go_simp;refine(dP 0 _ ⟨qO,qO⟩).mono ?_;rintro e wa ⟨nf,H1,p1,q1,H2,p2,q2,rfl,hR,xa⟩;have EA:=Hx (XD.o.tr xa);have RA:=Hx hR;have HSW:=Hx (KEEP.o _ EA.o);refine hK.o _ _ HSW.o ?_;clear hK KK xa hR;try simp only[Act.put,yA,yB,yC,yD,yE,yF]
     refine wC 15 rfl (fun KK hK=>?_);go_simp;have XN:Hid (Ext wa (wa.alloc (.cells #[.bool nf,.s H1 p1 q1,.s H2 p2 q2] 33))):=Hx ((eR wa).alloc _);have BW:=Hx (eN wa 33 #[.bool nf,.s H1 p1 q1,.s H2 p2 q2]);have EB:=Hx (EA.o.tr XN.o);have RB:=Hx (RA.o.K XN.o);have HSW:=Hx (KEEP.o _ EB.o);refine hK.o _ _ HSW.o ?_;clear hK KK XN;generalize wa.alloc (.cells #[.bool nf,.s H1 p1 q1,.s H2 p2 q2] 33)=wb at*;generalize wa.heap.size=gb at*;try simp only[Act.put,yA,yB,yC,yD,yE,yF]
     refine wC 16 rfl (fun KK hK=>?_);obtain⟨css,h1,h2,hown,h4⟩:=(J.o.1.own (k) qO).K QR.keep_ EB.o;have hlen:Hid ((qSt m k (fun _=>[]) (aI l []) [1] (List.replicate l.length 0++(List.range n).map (aP t)) [v] [] k).length=0):=Hx (by rw[lT hkm,qF (kZr k)];rfl);rw[hlen.o]at hown;refine fO wb 35 33 _ 3 56 _ _ rfl underlying35 Tryz.info44 rfl qD w7.heap.size (V (k)) (0) css.flatten qR hown [.bool nf,.s H1 p1 q1,.s H2 p2 q2] rfl (by simp[Value.oneCell']) gb qR BW.o (by unfold maxLen;omega) qO ((J.o.1.ext.tr EB.o).size) ?_;intro g9 c9 wc own9 grow9 new9;have J9:=Hx ((J.o.1.K EB.o).pushed qO hlen.o h1 h2 hown h4 RB.o own9 grow9 new9);have HSW:Hid (wc.cell? (aD bq 1)=some (.s (sA ga) m m)/\wc.cell? (aD ga k)=some (V k)):=Hx (⟨J9.o.qb.cell 1,(J9.o.ab.cell k).trans (fW hkm)⟩);refine hK.o _ _ HSW.o ?_;clear hK KK h1 h2 hown h4 own9 grow9 new9 css hlen EA RA EB RB BW KEEP;try simp only[Act.put,yA,yB,yC,yD,yE,yF]
     have z0:wc.frozen? (aD ga k)=false:=J9.o.ab.frozen _;have t0:wc.cell? (aD ga k)=some (V (k)):=(J9.o.ab.cell k).trans (fW hkm);refine wP 17 rfl HSW.o ?_;try simp only[Act.put,yA,yB,yC,yD,yE,yF]
     refine aY qK rfl qR (fun KK hK=>?_);go_simp;refine hK.o _ _ ?_;have N9:Hid (∃V',PgI w7 (wc.setCell (aD ga k) (.s (sA g9) (0+1) c9)) bq br ga m neg A1 n1 c1 A2 n2 c2 V' (qSt m (k+1) (fun _=>[]) (aI l []) [1] (List.replicate l.length 0++(List.range n).map (aP t)) [v] [])/\V' (m+3)=V (m+3)):=Hx (⟨_,by rw[<-sD hkm AMQ.o];exact J9.o.row hkm,bU _ _ qO⟩);clear hK KK z0 t0 J9 HSW XD;refine wpAny_done qK ?_ _;generalize wc.setCell (aD ga k) (.s (sA g9) (0+1) c9)=wd at*;have hV:=J.o.2;obtain⟨V1,N1⟩:∃V1,Hid (PgI w7 wd bq br ga m neg A1 n1 c1 A2 n2 c2 V1 (qSt m (k+1) (fun _=>[]) (aI l []) [1] (List.replicate l.length 0++(List.range n).map (aP t)) [v] [])/\V1 (m+3)=zN):=by
      obtain⟨V1,k1,k2⟩:=N9.o;exact⟨V1,Hx ⟨k1,k2.trans hV⟩⟩
     clear N9 J hV AMQ hadd;have nt:(n:Int)<2*(t.links.length:Int):=(by have:=HNP.o.2;omega);have q1:((n/2:Nat):Int)<(t.links.length:Int):=qO;have q2:(0:Int)<=((n/2:Nat):Int):=qO;have q3:(n:Int)/2<(t.links.length:Int):=qO;have q4:(0:Int)<=(n:Int)/2:=qO;have q5:((n:Int)/2).toNat=n/2:=qO;have q6:(n:Int).tdiv 2=(n:Int)/2:=Int.tdiv_eq_ediv_of_nonneg qO;have q7:IntKind.i64.wrap ((n:Int)/2)=(n:Int)/2:=IntWalk.i64_in _ qO;clear nt;have KEEP:Hid (∀wx,Ext wd wx->wx.cell? (aD bq 2)=some (V1 (m+1))/\wx.cell? (aD w.heap.size 2)=some (.s (some (aD bL oL)) t.links.length cl)/\wx.cell? (aD bL (oL+n/2*7+4))=some (vI lk.cap)):=Hx (fun wx hx=>⟨(N1.o.1.qb.K hx).cell 2,((T7.o.K N1.o.1.ext).K hx).cell 2,aA (N1.o.1.ext.tr hx) LC.o.1⟩);have XD:Hid (Ext wd wd.drew):=Hx ((eR wd).drewN 1);have HSW:=Hx (KEEP.o _ XD.o)
     go_upto_region 22 with fail
     refine wX KEEP 13 ?_;refine wP 0 rfl HSW.o ?_;try simp only[Act.put,yA,yB,yC,yD,yE,yF]
     refine wV 1 rfl HSW.o ?_;try simp only[Act.put,yA,yB,yC,yD,yE,yF]
     refine wP 2 rfl HSW.o ?_;try simp only[Act.put,yA,yB,yC,yD,yE,yF]
     refine wV 3 rfl HSW.o ?_;try simp only[Act.put,yA,yB,yC,yD,yE,yF]
     refine wP 4 rfl HSW.o ?_;try simp only[Act.put,yA,yB,yC,yD,yE,yF]
     refine wP 5 rfl HSW.o ?_;try simp only[Act.put,yA,yB,yC,yD,yE,yF]
     refine wP 6 rfl HSW.o ?_;try simp only[Act.put,yA,yB,yC,yD,yE,yF]
     refine wP 7 rfl HSW.o ?_;try simp only[Act.put,yA,yB,yC,yD,yE,yF]
     refine wV 8 rfl HSW.o ?_;try simp only[Act.put,yA,yB,yC,yD,yE,yF]
     refine wC 9 rfl (fun KK hK=>?_);go_simp;refine(dP lk.cap _ hci).mono ?_;rintro e wa ⟨nf,H1,p1,q1,H2,p2,q2,rfl,hR,xa⟩;have EA:=Hx (XD.o.tr xa);have RA:=Hx hR;have HSW:=Hx (KEEP.o _ EA.o);refine hK.o _ _ HSW.o ?_;clear hK KK xa hR;try simp only[Act.put,yA,yB,yC,yD,yE,yF]
     refine wC 10 rfl (fun KK hK=>?_);go_simp;have XN:Hid (Ext wa (wa.alloc (.cells #[.bool nf,.s H1 p1 q1,.s H2 p2 q2] 33))):=Hx ((eR wa).alloc _);have BW:=Hx (eN wa 33 #[.bool nf,.s H1 p1 q1,.s H2 p2 q2]);have EB:=Hx (EA.o.tr XN.o);have RB:=Hx (RA.o.K XN.o);have HSW:=Hx (KEEP.o _ EB.o);refine hK.o _ _ HSW.o ?_;clear hK KK XN;generalize wa.alloc (.cells #[.bool nf,.s H1 p1 q1,.s H2 p2 q2] 33)=wb at*;generalize wa.heap.size=gb at*;try simp only[Act.put,yA,yB,yC,yD,yE,yF]
     refine wC 11 rfl (fun KK hK=>?_);obtain⟨css,h1,h2,hown,h4⟩:=(N1.o.1.own (m+1) qO).K QR.keep_ EB.o;have hlen:Hid ((qSt m (k+1) (fun _=>[]) (aI l []) [1] (List.replicate l.length 0++(List.range n).map (aP t)) [v] [] (m+1)).length=l.length+n):=Hx (by rw[mW];simp);rw[hlen.o]at hown;refine fO wb 35 33 _ 3 56 _ _ rfl underlying35 Tryz.info44 rfl qD w7.heap.size (V1 (m+1)) (l.length+n) css.flatten qR hown [.bool nf,.s H1 p1 q1,.s H2 p2 q2] rfl (by simp[Value.oneCell']) gb qR BW.o (by unfold maxLen;omega) qO ((N1.o.1.ext.tr EB.o).size) ?_;intro g9 c9 wc own9 grow9 new9;have J9:=Hx ((N1.o.1.K EB.o).pushed qO hlen.o h1 h2 hown h4 RB.o own9 grow9 new9);have HSW:Hid (wc.cell? (aD bq 2)=some (V1 (m+1))/\wc.cell? (aD w.heap.size 2)=some (.s (some (aD bL oL)) t.links.length cl)/\wc.cell? (aD bL (oL+n/2*7+4))=some (vI lk.cap)):=Hx (⟨J9.o.qb.cell 2,(T7.o.K J9.o.ext).cell 2,aA J9.o.ext LC.o.1⟩);refine hK.o _ _ HSW.o ?_;clear hK KK h1 h2 hown h4 own9 grow9 new9 css hlen EA RA EB RB BW KEEP;try simp only[Act.put,yA,yB,yC,yD,yE,yF]
     have z0:wc.frozen? (aD bq 2)=false:=J9.o.qb.frozen _;have t0:wc.cell? (aD bq 2)=some (V1 (m+1)):=J9.o.qb.cell 2;refine wP 12 rfl HSW.o ?_;try simp only[Act.put,yA,yB,yC,yD,yE,yF]
     refine aY qK rfl qR (fun KK hK=>?_);go_simp;refine hK.o _ _ ?_;have N9:Hid (∃V',PgI w7 (wc.setCell (aD bq 2) (.s (sA g9) (l.length+n+1) c9)) bq br ga m neg A1 n1 c1 A2 n2 c2 V' (qSt m (k+1) (fun _=>[]) (aI l []) [1] (List.replicate l.length 0++(List.range (n+1)).map (aP t)) [v] [])/\V' (m+3)=V1 (m+3)):=Hx (⟨_,by have h9:=J9.o.b;rw[jzfc,mW, <-LC.o.2,List.append_assoc,show(List.range n).map (aP t)++[aP t n]=(List.range (n+1)).map (aP t) by rw[kZc,List.map_append];rfl]at h9;exact h9,bU _ _ qO⟩);clear hK KK z0 t0 J9 HSW XD;refine wpAny_done qK ?_ _;generalize wc.setCell (aD bq 2) (.s (sA g9) (l.length+n+1) c9)=we at*;obtain⟨V2,k1,k2⟩:=N9.o;have h8:PgI w7 we bq br ga m neg A1 n1 c1 A2 n2 c2 V2 (qSt m (l.length+(n+1)) (fun _=>[]) (aI l []) [1] (List.replicate l.length 0++(List.range (n+1)).map (aP t)) [v] []):=by
      rw[show l.length+(n+1)=k+1 by have:=HK.o;omega];exact k1
     have FIN:=Hx (kQa h8 (k2.trans N1.o.2));clear N9 N1 k1 k2 h8;go_wp2
     go_roundg (L2-(n+1))
     case measure=>omega
     exact⟨n+1,V2,rfl,qO,by go_num,FIN⟩
    as_aux_lemma=>
     obtain rfl:n=L2:=qO;obtain⟨V0,hV0⟩:∃V0,V0=V:=⟨_,rfl⟩;rw[<-hV0]at J;have hmm:m<=l.length+n:=(by have:=HM.o;omega);have h8:PgI w7 wr bq br ga m neg A1 n1 c1 A2 n2 c2 V0 (qSt m 0 (aI l []) (aI l []) [1] (bJ t l) [v] []):=by
      have h9:=J.o.1;rw[jzfd hmm,jzj (aI l []),show(List.replicate l.length (0:Rat)++(List.range n).map (aP t))=bJ t l by unfold bJ;rw[HNP.o.2]]at h9;exact h9
     have I0:=Hx (kQa h8 J.o.2);clear J hnl hn hV0 hmm h8;have hLL:2*t.links.length=n:=HNP.o.2;have hpw:(2*t.links.length+1)^t.nodes.toNat<=2^42:=yY (yY (Nat.pow_le_pow_left (show 2*t.links.length+1<=21 by omega) _) (kQk qD (show t.nodes.toNat<=7 by omega))) qD;have HPW:=Hx hpw;have PRL:Hid (pr.length=n):=Hx (S7.o.ok.plen.trans hLL);clear hLL hpw;go_wp2
     go_loopg [12,13] l.length (fun q vK it wx=>∃(d:Nat) (V:Nat->Value),l.length-d=q/\d<=l.length/\it=vI (d:Int)/\vK=V (m+3)/\Hid ((aV t l d).length<=60)/\Hid (PgI w7 wx bq br ga m neg A1 n1 c1 A2 n2 c2 V (qSt m 0 (aI l (aV t l d)) (aI l (aV t l d)) (1::(aV t l d).map fun _=>0) (bJ t l) (v::(aV t l d).map (plP Z)) ((List.range d).map fun d=>aJ pr n (jsP t l d)))))
     case atStart=>exact⟨0,V0,rfl,yZ _,rfl,I0.o.2.symm,Hx (yZ _),Hx I0.o.1⟩
     as_aux_lemma=>
      obtain⟨d,V,rfl,hd,rfl,rfl,CLN,J⟩:=hrel;clear I0;obtain⟨W0,rfl⟩:∃W,W=wr:=⟨_,rfl⟩;by_cases hdl:d<l.length
      ·obtain⟨x,hx⟩:∃x,l[d]?=some x:=⟨_,yG hdl⟩
       obtain⟨f1,f2,_,f4,f5⟩:=HF.o.nodes hdl;have hxe:l[d]=x:=(yH.1 hx).2;rw[hxe]at f4 f5;obtain⟨bd,od,rfl,_,a0,a1,_,_⟩:=((HA.o.1.dem g3).K X7.o).at_ hx;rw[f4]at a0;rw[f5]at a1;have hns:0<=t.nodes:=by
        have:=HF.o.v;unfold aH cS inB at this;simp at this;omega
       have KEEP:=Hx (show∀wx,Ext W0 wx->(wx.cell? (aD w.heap.size 0)=some (vI t.nodes)/\wx.cell? (aD w.heap.size 1)=some (.s AO t.over.length co)/\wx.cell? (aD w.heap.size 2)=some (.s AL t.links.length cl))/\wx.cell? (aD bd (od+d*4))=some (vI (bE l d:Int))/\wx.cell? (aD bd (od+d*4+1))=some (vI (bC l d:Int))from fun wx hx=>
        ⟨⟨(T7.o.K (J.o.ext.tr hx)).cell 0,(T7.o.K (J.o.ext.tr hx)).cell 1,(T7.o.K (J.o.ext.tr hx)).cell 2⟩,aA (J.o.ext.tr hx) a0,aA (J.o.ext.tr hx) a1⟩)
       have SIM:=Hx (fun wx (hx:Ext W0 wx)=>jzhj t AO co AL cl none 0 [] (bE l d) (bC l d) wx ((HA.o.1.top hg1 g2).K (X7.o.tr (J.o.ext.tr hx))) HF.o.v (Rd.nil _ _) qS qO qO HPW.o);have XD:Hid (Ext W0 W0.drew):=Hx ((eR W0).drewN 1);have HSW:=Hx (KEEP.o _ XD.o);have dN:(d:Int)<(l.length:Int):=qO;have d0:(0:Int)<=(d:Int):=qO;clear hx f1 f2 f4 f5 hxe a0 a1 hns
       go_upto_region 27 with fail
       refine wX KEEP 12 ?_;refine wV 0 rfl HSW.o ?_;try simp only[Act.put,yA,yB,yC,yD,yE,yF]
       refine wP 1 rfl HSW.o ?_;try simp only[Act.put,yA,yB,yC,yD,yE,yF]
       refine wP 2 rfl HSW.o ?_;try simp only[Act.put,yA,yB,yC,yD,yE,yF]
       refine wP 3 rfl HSW.o ?_;try simp only[Act.put,yA,yB,yC,yD,yE,yF]
       refine wP 4 rfl HSW.o ?_;try simp only[Act.put,yA,yB,yC,yD,yE,yF]
       refine wV 5 rfl HSW.o ?_;try simp only[Act.put,yA,yB,yC,yD,yE,yF]
       refine wP 6 rfl HSW.o ?_;try simp only[Act.put,yA,yB,yC,yD,yE,yF]
       refine wP 7 rfl HSW.o ?_;try simp only[Act.put,yA,yB,yC,yD,yE,yF]
       refine wP 8 rfl HSW.o ?_;try simp only[Act.put,yA,yB,yC,yD,yE,yF]
       refine wP 9 rfl HSW.o ?_;try simp only[Act.put,yA,yB,yC,yD,yE,yF]
       refine wV 10 rfl HSW.o ?_;try simp only[Act.put,yA,yB,yC,yD,yE,yF]
       refine wC 11 rfl (fun KK hK=>?_);go_simp;refine(SIM.o _ XD.o).mono ?_;rintro e wa ⟨vs,rfl,hP,xa⟩;obtain⟨AJ,cj,rfl⟩:=hP.form;have EA:=Hx (XD.o.tr xa);have PA:=Hx (iB.of hP rfl);have HSW:=Hx (KEEP.o _ EA.o);refine hK.o _ _ HSW.o ?_;clear hK KK xa hP;try simp only[Act.put,yA,yB,yC,yD,yE,yF]
       refine aY qK rfl qR (fun KK hK=>?_);go_simp;refine hK.o _ _ ?_;clear hK KK HSW KEEP SIM XD;refine wpAny_done qK ?_ _;obtain⟨nj,hnj⟩:∃nj,(kV t [] (bE l d) (bC l d)).length=nj:=⟨_,rfl⟩;rw[hnj];have HNJ:Hid ((jsP t l d).length=nj):=Hx (hnj);have PJ:Hid (iB wa AJ (jsP t l d)):=Hx (PA.o);have J1:=Hx (J.o.K EA.o);clear hnj PA J EA;obtain⟨b5,x5⟩:=bA wa #[.bool false,zN,zN] 33;have B5:Hid (PgB w7 (wa.alloc (.cells #[.bool false,zN,zN] 33)) m V [(wa.heap.size,aJ pr n ((jsP t l d).take 0))]):=Hx (PgB.more PgB.nil (RB.of b5 (eJ _)) J1.o.ext.size J1.o.new);have J5:=Hx (J1.o.K x5);have P5:=Hx (PJ.o.K (aX.of_ext x5));clear b5 x5 J1 PJ
       go_upto_region 29 with fail
       generalize wa.alloc (.cells #[.bool false,zN,zN] 33)=W5 at*;generalize wa.heap.size=gl at*;obtain⟨vK,hvK⟩:∃vK,V (m+3)=vK:=⟨_,rfl⟩;rw[hvK];have I5:=Hx (show PgI w7 W5 bq br ga m neg A1 n1 c1 A2 n2 c2 V (qSt m (0) (aI l (aV t l d++((jsP t l d).take (0)).map fun x=>(d,x))) (aI l (aV t l d++((jsP t l d).take (0)).map fun x=>(d,x))) (1::(aV t l d++((jsP t l d).take (0)).map fun x=>(d,x)).map fun _=>0) (bJ t l) (v::(aV t l d++((jsP t l d).take (0)).map fun x=>(d,x)).map (plP Z)) ((List.range d).map fun d=>aJ pr n (jsP t l d)))from by
        have h9:=J5.o;rw[<-List.append_nil (aV t l d)]at h9;exact h9)
       clear J5;go_wp2
       go_loopg [16] nj (fun q it wx=>∃(i:Nat) (V:Nat->Value),nj-i=q/\i<=nj/\it=vI (i:Int)/\V (m+3)=vK/\Hid ((aV t l d++((jsP t l d).take (i)).map fun x=>(d,x)).length<=60)/\Hid (PgI w7 wx bq br ga m neg A1 n1 c1 A2 n2 c2 V (qSt m (0) (aI l (aV t l d++((jsP t l d).take (i)).map fun x=>(d,x))) (aI l (aV t l d++((jsP t l d).take (i)).map fun x=>(d,x))) (1::(aV t l d++((jsP t l d).take (i)).map fun x=>(d,x)).map fun _=>0) (bJ t l) (v::(aV t l d++((jsP t l d).take (i)).map fun x=>(d,x)).map (plP Z)) ((List.range d).map fun d=>aJ pr n (jsP t l d)))/\PgB w7 wx m V [(gl,aJ pr n ((jsP t l d).take i))]/\aX W5 wx))
       case atStart=>exact⟨0,V,rfl,yZ _,rfl,hvK,Hx (by have:=CLN.o;simpa using this),Hx ⟨I5.o,B5.o,aX.refl _⟩⟩
       as_aux_lemma=>
        clear I5 B5 hvK V;obtain⟨i,V,rfl,hi,rfl,hvK,CLI,K⟩:=hrel;obtain⟨W1,rfl⟩:∃W,W=wr:=⟨_,rfl⟩;by_cases hil:i<nj
        ·obtain⟨x,hx⟩:∃x,(jsP t l d)[i]?=some x:=⟨_,yG (by rw[HNJ.o];exact hil)⟩
         obtain⟨J,hJ⟩:∃J,J=aV t l d++((jsP t l d).take (i)).map fun x=>(d,x):=⟨_,rfl⟩;rw[<-hJ]at K CLI;obtain⟨z1,hz1⟩:∃z1,J.length+1=z1:=⟨_,rfl⟩;have HX:=Hx (kQa hx (kQa hJ hz1));obtain⟨gC,cC,hVC,_,_⟩:=(K.o.1.own m qO).form (by rw[lU];simp);rw[lU,kQo,xV,hz1]at hVC;have y0:W1.cell? (aD bq 0)=some (V m):=K.o.1.qb.cell 0;rw[hVC]at y0;have iN:(i:Int)<(nj:Int):=qO;have i0:(0:Int)<=(i:Int):=qO;clear hx hJ hz1 hVC;by_cases h60:60<z1
         ·have hq:(60:Int)<(z1:Int):=by omega
          have FIN:=Hx (X7.o.tr K.o.1.ext);go_wp2;go_ret;exact⟨rfl,FIN.o⟩
         have hq:decide ((60:Int)<(z1:Int))=false:=yP qO;have hz60:z1<=60:=qO;clear h60;obtain⟨b7,x7⟩:=bA W1 #[.bool false,zN,zN] 33;have K0:=Hx (show PgI w7 (W1.alloc (.cells #[.bool false,zN,zN] 33)) bq br ga m neg A1 n1 c1 A2 n2 c2 V (qSt m (0) (aI l (J)) (aI l (J++[(d,x)])) (1::(J).map fun _=>0) (bJ t l) (v::(J).map (plP Z)) ((List.range d).map fun d=>aJ pr n (jsP t l d)))/\PgB w7 (W1.alloc (.cells #[.bool false,zN,zN] 33)) m V [(W1.heap.size,0),(gl,aJ pr n ((jsP t l d).take i))]/\aX W5 (W1.alloc (.cells #[.bool false,zN,zN] 33))from
          ⟨by rw[jzj (aI l J)];exact K.o.1.K x7,(K.o.2.1.K x7).more (RB.of b7 (eJ _)) K.o.1.ext.size K.o.1.new,K.o.2.2.tr (aX.of_ext x7)⟩)
         have hglx:gl≠W1.heap.size:=(by have:=((K.o.2.1) gl _ List.mem_cons_self).1.lt;omega);clear b7 x7 K
         go_upto_region 35 with fail
         clear y0 hq;generalize W1.alloc (.cells #[.bool false,zN,zN] 33)=W2 at*;generalize W1.heap.size=gx at*;have GNE:Hid (gl≠gx):=Hx (hglx);clear hglx;go_wp2
         go_loopg [18] l.length (fun q it wx=>∃(k:Nat) (V:Nat->Value),l.length-k=q/\k<=l.length/\it=vI (k:Int)/\V (m+3)=vK/\Hid (PgI w7 wx bq br ga m neg A1 n1 c1 A2 n2 c2 V (qSt m (k) (aI l (J)) (aI l (J++[(d,x)])) (1::(J).map fun _=>0) (bJ t l) (v::(J).map (plP Z)) ((List.range d).map fun d=>aJ pr n (jsP t l d)))/\PgB w7 wx m V [(gx,0),(gl,aJ pr n ((jsP t l d).take i))]/\aX W5 wx))
         case atStart=>exact⟨0,V,rfl,yZ _,rfl,hvK,K0⟩
         as_aux_lemma=>
          clear K0 hvK V;obtain⟨k,V,rfl,hk,rfl,hvK,L⟩:=hrel;by_cases hkl:k<l.length
          ·have hkm:k<m:=by have:=HM.o;omega
           have kN:(k:Int)<(l.length:Int):=qO;have kM:(k:Int)<(m:Int):=qO;have k0:(0:Int)<=(k:Int):=qO;by_cases hkd:k=d
           case' pos=>
            have AMQ:Hid (aI l (J++[(d,x)]) k=aI l J k++[((-1:Int):Rat)]):=Hx (by rw[sK,qE hkl];unfold cD;rw[qE hkd];rfl);have hdd:((k:Int)==(d:Int))=true:=by rw[hkd];simp
           case' neg=>
            have AMQ:Hid (aI l (J++[(d,x)]) k=aI l J k++[((0:Int):Rat)]):=Hx (by rw[sK,qE hkl];unfold cD;rw[qF hkd];rfl);have hdd:((k:Int)==(d:Int))=false:=by rw[yK];omega
           all_goals
            as_aux_lemma=>
             clear hkd;have KEEP:Hid (∀wx,Ext wr wx->wx.cell? (aD bq 1)=some (.s (sA ga) m m)/\wx.cell? (aD ga k)=some (V k)):=Hx (fun wx hx=>⟨(L.o.1.qb.K hx).cell 1,((L.o.1.ab.K hx).cell k).trans (fW hkm)⟩);have XD:Hid (Ext wr wr.drew):=Hx ((eR wr).drewN 1);have HSW:=Hx (KEEP.o _ XD.o)
             go_upto_region 41 with fail
             refine wX KEEP 13 ?_;refine wP 0 rfl HSW.o ?_;try simp only[Act.put,yA,yB,yC,yD,yE,yF]
             refine wV 1 rfl HSW.o ?_;try simp only[Act.put,yA,yB,yC,yD,yE,yF]
             refine wP 2 rfl HSW.o ?_;try simp only[Act.put,yA,yB,yC,yD,yE,yF]
             refine wP 3 rfl HSW.o ?_;try simp only[Act.put,yA,yB,yC,yD,yE,yF]
             refine wV 4 rfl HSW.o ?_;try simp only[Act.put,yA,yB,yC,yD,yE,yF]
             refine wP 5 rfl HSW.o ?_;try simp only[Act.put,yA,yB,yC,yD,yE,yF]
             refine wP 6 rfl HSW.o ?_;try simp only[Act.put,yA,yB,yC,yD,yE,yF]
             refine wV 7 rfl HSW.o ?_;try simp only[Act.put,yA,yB,yC,yD,yE,yF]
             refine wP 8 rfl HSW.o ?_;try simp only[Act.put,yA,yB,yC,yD,yE,yF]
             refine wC 9 rfl (fun KK hK=>?_);go_simp;refine(dP _ _ ⟨qO,qO⟩).mono ?_;rintro e wa ⟨nf,H1,p1,q1,H2,p2,q2,rfl,hR,xa⟩;have EA:=Hx (XD.o.tr xa);have RA:=Hx hR;have HSW:=Hx (KEEP.o _ EA.o);refine hK.o _ _ HSW.o ?_;clear hK KK xa hR;try simp only[Act.put,yA,yB,yC,yD,yE,yF]
             refine wC 10 rfl (fun KK hK=>?_);go_simp;have XN:Hid (Ext wa (wa.alloc (.cells #[.bool nf,.s H1 p1 q1,.s H2 p2 q2] 33))):=Hx ((eR wa).alloc _);have BW:=Hx (eN wa 33 #[.bool nf,.s H1 p1 q1,.s H2 p2 q2]);have EB:=Hx (EA.o.tr XN.o);have RB:=Hx (RA.o.K XN.o);have HSW:=Hx (KEEP.o _ EB.o);refine hK.o _ _ HSW.o ?_;clear hK KK XN;generalize wa.alloc (.cells #[.bool nf,.s H1 p1 q1,.s H2 p2 q2] 33)=wb at*;generalize wa.heap.size=gb at*;try simp only[Act.put,yA,yB,yC,yD,yE,yF]
             refine wC 11 rfl (fun KK hK=>?_);obtain⟨css,h1,h2,hown,h4⟩:=(L.o.1.own (k) qO).K QR.keep_ EB.o;have hlen:Hid ((qSt m (k) (aI l (J)) (aI l (J++[(d,x)])) (1::(J).map fun _=>0) (bJ t l) (v::(J).map (plP Z)) ((List.range d).map fun d=>aJ pr n (jsP t l d)) k).length=z1):=Hx (by rw[lT hkm,qF (kZr k),jzq];exact HX.o.2.2);rw[hlen.o]at hown;refine fO wb 35 33 _ 3 56 _ _ rfl underlying35 Tryz.info44 rfl qD w7.heap.size (V (k)) (z1) css.flatten qR hown [.bool nf,.s H1 p1 q1,.s H2 p2 q2] rfl (by simp[Value.oneCell']) gb qR BW.o (by unfold maxLen;omega) qO ((L.o.1.ext.tr EB.o).size) ?_;intro g9 c9 wc own9 grow9 new9;have J9:=Hx ((L.o.1.K EB.o).pushed qO hlen.o h1 h2 hown h4 RB.o own9 grow9 new9);have B9:=Hx ((L.o.2.1.K EB.o).pushed qO hown grow9 new9 (n':=(z1)+1) (c7:=c9));have K9:=Hx ((aX.of_ext EB.o).tr (aX.own hown grow9));have HSW:Hid (wc.cell? (aD bq 1)=some (.s (sA ga) m m)/\wc.cell? (aD ga k)=some (V k)):=Hx (⟨J9.o.qb.cell 1,(J9.o.ab.cell k).trans (fW hkm)⟩);refine hK.o _ _ HSW.o ?_;clear hK KK h1 h2 hown h4 own9 grow9 new9 css hlen EA RA EB RB BW KEEP;try simp only[Act.put,yA,yB,yC,yD,yE,yF]
             have z0:wc.frozen? (aD ga k)=false:=J9.o.ab.frozen _;have t0:wc.cell? (aD ga k)=some (V (k)):=(J9.o.ab.cell k).trans (fW hkm);refine wP 12 rfl HSW.o ?_;try simp only[Act.put,yA,yB,yC,yD,yE,yF]
             refine aY qK rfl qR (fun KK hK=>?_);go_simp;refine hK.o _ _ ?_;have N9:Hid (∃V',PgI w7 (wc.setCell (aD ga k) (.s (sA g9) (z1+1) c9)) bq br ga m neg A1 n1 c1 A2 n2 c2 V' (qSt m ((k+1)) (aI l (J)) (aI l (J++[(d,x)])) (1::(J).map fun _=>0) (bJ t l) (v::(J).map (plP Z)) ((List.range d).map fun d=>aJ pr n (jsP t l d)))/\V' (m+3)=V (m+3)/\PgB w7 (wc.setCell (aD ga k) (.s (sA g9) (z1+1) c9)) m V' [(gx,0),(gl,aJ pr n ((jsP t l d).take i))]/\aX wr (wc.setCell (aD ga k) (.s (sA g9) (z1+1) c9))):=Hx (⟨_,by rw[<-sD hkm AMQ.o];exact J9.o.row hkm,bU _ _ qO,B9.o.store J9.o.ab qD qD _,K9.o.tr (aX.store J9.o.ab qD qD _)⟩);clear hK KK z0 t0 J9 HSW XD;refine wpAny_done qK ?_ _;generalize wc.setCell (aD ga k) (.s (sA g9) (z1+1) c9)=wd at*;obtain⟨V2,k1,k2,k3,k4⟩:=N9.o;have FIN:=Hx (kQa k1 (kQa k3 (L.o.2.2.tr k4)));have hvK2:=k2.trans hvK;clear N9 L k1 k2 k3 k4 AMQ hdd;go_wp2
             go_roundg (l.length-(k+1))
             case measure=>omega
             exact⟨k+1,V2,rfl,qO,by go_num,hvK2,FIN⟩
          as_aux_lemma=>
           obtain rfl:k=l.length:=qO;have L0:Hid (PgI w7 wr bq br ga m neg A1 n1 c1 A2 n2 c2 V (qSt m (l.length) (aI l (J)) (aI l (J++[(d,x)])) (1::(J).map fun _=>0) (bJ t l) (v::(J).map (plP Z)) ((List.range d).map fun d=>aJ pr n (jsP t l d)))/\PgB w7 wr m V [(gx,bX pr x 0),(gl,aJ pr n ((jsP t l d).take i))]/\aX W5 wr):=Hx (L.o);obtain⟨W3,rfl⟩:∃W,W=wr:=⟨_,rfl⟩;clear L hkl hk;obtain⟨bx,ox,Ax,cx,hAJ,hcx,hrx,hcw⟩:=P5.o.atK HX.o.1;subst hAJ;obtain⟨nx,hnx⟩:∃nx,x.length=nx:=⟨_,rfl⟩;rw[hnx]at hcx hcw;have CW:=Hx hcw;have XC:=Hx (kQa hrx (kQa hnx hcx));have hnx7:nx<=1000:=by
            have h9:=(jzpk HF.o.v (yJ HX.o.1)).2;omega
           clear hrx hnx hcx hcw;go_wp2
           go_loopg [20] n (fun q it wx=>∃(a:Nat) (V:Nat->Value),n-a=q/\a<=n/\it=vI (a:Int)/\V (m+3)=vK/\Hid (PgI w7 wx bq br ga m neg A1 n1 c1 A2 n2 c2 V (qSt m (l.length+a) (aI l (J)) (aI l (J++[(d,x)])) (1::(J).map fun _=>0) (bJ t l) (v::(J).map (plP Z)) ((List.range d).map fun d=>aJ pr n (jsP t l d)))/\PgB w7 wx m V [(gx,bX pr x a),(gl,aJ pr n ((jsP t l d).take i))]/\aX W5 wx))
           case atStart=>exact⟨0,V,rfl,yZ _,rfl,hvK,L0⟩
           as_aux_lemma=>
            clear L0 hvK V;obtain⟨a,V,rfl,ha,rfl,hvK,L⟩:=hrel;by_cases hal:a<n
            ·obtain⟨k,hk⟩:∃k,l.length+a=k:=⟨_,rfl⟩
             rw[hk]at L;have HK:=Hx hk;have hkm:k<m:=(by have:=HM.o;omega);have aN:(a:Int)<(n:Int):=qO;have a0:(0:Int)<=(a:Int):=qO;have kM:(k:Int)<(m:Int):=qO;have k0:(0:Int)<=(k:Int):=qO;have iN:(i:Int)<(nj:Int):=qO;have i0:(0:Int)<=(i:Int):=qO;have hadd:IntKind.i64.wrap ((l.length:Int)+(a:Int))=(k:Int):=(by rw[IntKind.wrap_i64];omega);clear hk;have w1:=CW.o _ L.o.2.2
             go_wp2_with fail
             refine(jzov x a Ax nx cx XC.o.2.1 _ ((L.o.2.2.rdT (.inl rfl) XC.o.1).rd) qO).mono ?_;rintro e wh ⟨rfl,xh⟩;have LH:Hid (PgI w7 wh bq br ga m neg A1 n1 c1 A2 n2 c2 V (qSt m (k) (aI l (J)) (aI l (J++[(d,x)])) (1::(J).map fun _=>0) (bJ t l) (v::(J).map (plP Z)) ((List.range d).map fun d=>aJ pr n (jsP t l d)))/\PgB w7 wh m V [(gx,bX pr x a),(gl,aJ pr n ((jsP t l d).take i))]/\aX W5 wh):=Hx (⟨L.o.1.K xh,L.o.2.1.K xh,L.o.2.2.tr (aX.of_ext xh)⟩);clear xh L w1;by_cases hax:a∈x
             case' pos=>
              have hdx:decide (a∈x)=true:=yO hax;rw[hdx];have AMQ:Hid (aI l (J++[(d,x)]) k=aI l J k++[((1:Int):Rat)]):=Hx (by rw[sK,qF (by have:=HK.o;omega),show k-l.length=a by have:=HK.o;omega];unfold cA;rw[qE hax];rfl);have HPT:=Hx (jzoo (pr:=pr) hax);clear hax hdx;obtain⟨ny,Y1,my,fy,Y2,my',fy',⟨s0,s1,s2⟩,_,hy⟩:=(LH.o.2.1 gx _ List.mem_cons_self).1.at3;obtain⟨bp,op,nq2,Q1,mq,fq,Q2,mq',fq',eP,_,r0,r1,r2,hq⟩:=S7.o.prs.at_ (aO (show a<pr.length by rw[PRL.o];exact hal));injection eP with eP
              injection eP with eP1 eP2
              subst eP1;subst eP2;rw[kQu]at r0 r1 r2;obtain⟨l1,l1'⟩:=hy.lens (jzk S7.o.sp qD a);obtain⟨l2,l2'⟩:=hq.lens (S7.o.sp _ (yJ (aO (show a<pr.length by rw[PRL.o];exact hal))));have hbd:a*(20+1)<=20*21:=kQq qO qO;have RYQ:=Hx (kQa hy hq);have KEEP:=Hx (show∀wx,Ext wh wx->(wx.cell? (aD gx 0)=some (.bool ny)/\wx.cell? (aD gx 1)=some (.s Y1 my fy)/\wx.cell? (aD gx 2)=some (.s Y2 my' fy'))/\wx.cell? (aD b6 4)=some (.s (sA gp) n n)/\(wx.cell? (aD gp (a*3))=some (.bool nq2)/\wx.cell? (aD gp (a*3+1))=some (.s Q1 mq fq)/\wx.cell? (aD gp (a*3+2))=some (.s Q2 mq' fq'))from fun wx hx=>
               ⟨⟨aA hx s0,aA hx s1,aA hx s2⟩,(B7.o.K (LH.o.1.ext.tr hx)).cell 4,aA (LH.o.1.ext.tr hx) r0,aA (LH.o.1.ext.tr hx) r1,aA (LH.o.1.ext.tr hx) r2⟩)
              have XD:Hid (Ext wh wh.drew):=Hx ((eR wh).drewN 1);have HSW:=Hx (KEEP.o _ XD.o);clear hy hq s0 s1 s2 r0 r1 r2
              go_upto_region 48 with fail
              refine wX KEEP 7 ?_;refine wV 0 rfl HSW.o ?_;try simp only[Act.put,yA,yB,yC,yD,yE,yF]
              refine wP 1 rfl HSW.o ?_;try simp only[Act.put,yA,yB,yC,yD,yE,yF]
              refine wV 2 rfl HSW.o ?_;try simp only[Act.put,yA,yB,yC,yD,yE,yF]
              refine wP 3 rfl HSW.o ?_;try simp only[Act.put,yA,yB,yC,yD,yE,yF]
              refine wP 4 rfl HSW.o ?_;try simp only[Act.put,yA,yB,yC,yD,yE,yF]
              refine wV 5 rfl HSW.o ?_;try simp only[Act.put,yA,yB,yC,yD,yE,yF]
              refine wC 6 rfl (fun KK hK=>?_);go_simp;refine(kF ny nq2 Y1 my fy Y2 my' fy' Q1 mq fq Q2 mq' fq' (bX pr x a) (at_ pr a) _ (RYQ.o.1.K XD.o) (RYQ.o.2.K (LH.o.1.ext.tr XD.o)) qO qO qO qO (gI (kQx (kQ7 _) (kQ7 _)))).mono ?_;rintro e wp ⟨n9,A9,l9,d9,A9',l9',d9',rfl,h9,x9⟩;rw[<-HPT.o]at h9;have E9:=Hx (XD.o.tr x9);have HSW:=Hx (KEEP.o _ E9.o);have BP:=Hx ((LH.o.2.1.K E9.o).put (by intro y hy;rw[xD.1 hy];exact GNE.o) h9);have IP:=Hx ((LH.o.1.K E9.o).put (((LH.o.2.1.K E9.o) gx _ List.mem_cons_self)) (.bool n9) (.s A9 l9 d9) (.s A9' l9' d9'));have KP:Hid (aX W5 (((wp.setCell (aD gx 0) (.bool n9)).setCell (aD gx 1) (.s A9 l9 d9)).setCell (aD gx 2) (.s A9' l9' d9'))):=Hx (LH.o.2.2.tr ((aX.of_ext E9.o).tr (aX.put ((LH.o.2.1.K E9.o) gx _ List.mem_cons_self).1 _ _ _)));obtain⟨_,_,_,_,_,_,_,_,⟨z0,z1',z2⟩,_⟩:=((LH.o.2.1.K E9.o) gx _ List.mem_cons_self).1.at3;refine hK.o _ _ HSW.o ?_;clear hK KK x9 h9;try simp only[Act.put,yA,yB,yC,yD,yE,yF]
              obtain⟨⟨s0,s1,s2⟩,_,_,_⟩:=HSW.o;refine aY qK rfl qR (fun KK hK=>?_);go_simp;refine hK.o _ _ ?_;clear hK KK;refine wpAny_done qK ?_ _;clear s0 s1 s2 z0 z1' z2 HSW KEEP XD RYQ E9 HPT;have L2_:Hid (PgI w7 (((wp.setCell (aD gx 0) (.bool n9)).setCell (aD gx 1) (.s A9 l9 d9)).setCell (aD gx 2) (.s A9' l9' d9')) bq br ga m neg A1 n1 c1 A2 n2 c2 V (qSt m (k) (aI l (J)) (aI l (J++[(d,x)])) (1::(J).map fun _=>0) (bJ t l) (v::(J).map (plP Z)) ((List.range d).map fun d=>aJ pr n (jsP t l d)))/\PgB w7 (((wp.setCell (aD gx 0) (.bool n9)).setCell (aD gx 1) (.s A9 l9 d9)).setCell (aD gx 2) (.s A9' l9' d9')) m V [(gx,bX pr x (a+1)),(gl,aJ pr n ((jsP t l d).take i))]/\aX W5 (((wp.setCell (aD gx 0) (.bool n9)).setCell (aD gx 1) (.s A9 l9 d9)).setCell (aD gx 2) (.s A9' l9' d9'))):=Hx (⟨IP.o,BP.o,KP.o⟩);clear IP BP KP LH;generalize ((wp.setCell (aD gx 0) (.bool n9)).setCell (aD gx 1) (.s A9 l9 d9)).setCell (aD gx 2) (.s A9' l9' d9')=wq at*
             case' neg=>
              have hdx:decide (a∈x)=false:=yP hax;rw[hdx];have AMQ:Hid (aI l (J++[(d,x)]) k=aI l J k++[((0:Int):Rat)]):=Hx (by rw[sK,qF (by have:=HK.o;omega),show k-l.length=a by have:=HK.o;omega];unfold cA;rw[qF hax];rfl);have L2_:Hid (PgI w7 wh bq br ga m neg A1 n1 c1 A2 n2 c2 V (qSt m (k) (aI l (J)) (aI l (J++[(d,x)])) (1::(J).map fun _=>0) (bJ t l) (v::(J).map (plP Z)) ((List.range d).map fun d=>aJ pr n (jsP t l d)))/\PgB w7 wh m V [(gx,bX pr x (a+1)),(gl,aJ pr n ((jsP t l d).take i))]/\aX W5 wh):=Hx (⟨LH.o.1,by rw[jzop hax];exact LH.o.2.1,LH.o.2.2⟩);clear hax hdx LH;generalize wh=wq at*
             all_goals
              as_aux_lemma=>
               skip
               have KEEP:Hid (∀wx,Ext wq wx->wx.cell? (aD bq 1)=some (.s (sA ga) m m)/\wx.cell? (aD ga k)=some (V k)):=Hx (fun wx hx=>⟨(L2_.o.1.qb.K hx).cell 1,((L2_.o.1.ab.K hx).cell k).trans (fW hkm)⟩);have XD:Hid (Ext wq wq.drew):=Hx ((eR wq).drewN 1);have HSW:=Hx (KEEP.o _ XD.o)
               go_upto_region 49 with fail
               refine wX KEEP 19 ?_;refine wP 0 rfl HSW.o ?_;try simp only[Act.put,yA,yB,yC,yD,yE,yF]
               refine wV 1 rfl HSW.o ?_;try simp only[Act.put,yA,yB,yC,yD,yE,yF]
               refine wP 2 rfl HSW.o ?_;try simp only[Act.put,yA,yB,yC,yD,yE,yF]
               refine wP 3 rfl HSW.o ?_;try simp only[Act.put,yA,yB,yC,yD,yE,yF]
               refine wP 4 rfl HSW.o ?_;try simp only[Act.put,yA,yB,yC,yD,yE,yF]
               refine wP 5 rfl HSW.o ?_;try simp only[Act.put,yA,yB,yC,yD,yE,yF]
               refine wP 6 rfl HSW.o ?_;try simp only[Act.put,yA,yB,yC,yD,yE,yF]
               refine wV 7 rfl HSW.o ?_;try simp only[Act.put,yA,yB,yC,yD,yE,yF]
               refine wP 8 rfl HSW.o ?_;try simp only[Act.put,yA,yB,yC,yD,yE,yF]
               refine wP 9 rfl HSW.o ?_;try simp only[Act.put,yA,yB,yC,yD,yE,yF]
               refine wP 10 rfl HSW.o ?_;try simp only[Act.put,yA,yB,yC,yD,yE,yF]
               refine wP 11 rfl HSW.o ?_;try simp only[Act.put,yA,yB,yC,yD,yE,yF]
               refine wP 12 rfl HSW.o ?_;try simp only[Act.put,yA,yB,yC,yD,yE,yF]
               refine wV 13 rfl HSW.o ?_;try simp only[Act.put,yA,yB,yC,yD,yE,yF]
               refine wP 14 rfl HSW.o ?_;try simp only[Act.put,yA,yB,yC,yD,yE,yF]
               refine wC 15 rfl (fun KK hK=>?_);go_simp;refine(dP _ _ ⟨qO,qO⟩).mono ?_;rintro e wa ⟨nf,H1,p1,q1,H2,p2,q2,rfl,hR,xa⟩;have EA:=Hx (XD.o.tr xa);have RA:=Hx hR;have HSW:=Hx (KEEP.o _ EA.o);refine hK.o _ _ HSW.o ?_;clear hK KK xa hR;try simp only[Act.put,yA,yB,yC,yD,yE,yF]
               refine wC 16 rfl (fun KK hK=>?_);go_simp;have XN:Hid (Ext wa (wa.alloc (.cells #[.bool nf,.s H1 p1 q1,.s H2 p2 q2] 33))):=Hx ((eR wa).alloc _);have BW:=Hx (eN wa 33 #[.bool nf,.s H1 p1 q1,.s H2 p2 q2]);have EB:=Hx (EA.o.tr XN.o);have RB:=Hx (RA.o.K XN.o);have HSW:=Hx (KEEP.o _ EB.o);refine hK.o _ _ HSW.o ?_;clear hK KK XN;generalize wa.alloc (.cells #[.bool nf,.s H1 p1 q1,.s H2 p2 q2] 33)=wb at*;generalize wa.heap.size=gb at*;try simp only[Act.put,yA,yB,yC,yD,yE,yF]
               refine wC 17 rfl (fun KK hK=>?_);obtain⟨css,h1,h2,hown,h4⟩:=(L2_.o.1.own (k) qO).K QR.keep_ EB.o;have hlen:Hid ((qSt m (k) (aI l (J)) (aI l (J++[(d,x)])) (1::(J).map fun _=>0) (bJ t l) (v::(J).map (plP Z)) ((List.range d).map fun d=>aJ pr n (jsP t l d)) k).length=z1):=Hx (by rw[lT hkm,qF (kZr k),jzq];exact HX.o.2.2);rw[hlen.o]at hown;refine fO wb 35 33 _ 3 56 _ _ rfl underlying35 Tryz.info44 rfl qD w7.heap.size (V (k)) (z1) css.flatten qR hown [.bool nf,.s H1 p1 q1,.s H2 p2 q2] rfl (by simp[Value.oneCell']) gb qR BW.o (by unfold maxLen;omega) qO ((L2_.o.1.ext.tr EB.o).size) ?_;intro g9 c9 wc own9 grow9 new9;have J9:=Hx ((L2_.o.1.K EB.o).pushed qO hlen.o h1 h2 hown h4 RB.o own9 grow9 new9);have B9:=Hx ((L2_.o.2.1.K EB.o).pushed qO hown grow9 new9 (n':=(z1)+1) (c7:=c9));have K9:=Hx ((aX.of_ext EB.o).tr (aX.own hown grow9));have HSW:Hid (wc.cell? (aD bq 1)=some (.s (sA ga) m m)/\wc.cell? (aD ga k)=some (V k)):=Hx (⟨J9.o.qb.cell 1,(J9.o.ab.cell k).trans (fW hkm)⟩);refine hK.o _ _ HSW.o ?_;clear hK KK h1 h2 hown h4 own9 grow9 new9 css hlen EA RA EB RB BW KEEP;try simp only[Act.put,yA,yB,yC,yD,yE,yF]
               have z0:wc.frozen? (aD ga k)=false:=J9.o.ab.frozen _;have t0:wc.cell? (aD ga k)=some (V (k)):=(J9.o.ab.cell k).trans (fW hkm);refine wP 18 rfl HSW.o ?_;try simp only[Act.put,yA,yB,yC,yD,yE,yF]
               refine aY qK rfl qR (fun KK hK=>?_);go_simp;refine hK.o _ _ ?_;have N9:Hid (∃V',PgI w7 (wc.setCell (aD ga k) (.s (sA g9) (z1+1) c9)) bq br ga m neg A1 n1 c1 A2 n2 c2 V' (qSt m ((k+1)) (aI l (J)) (aI l (J++[(d,x)])) (1::(J).map fun _=>0) (bJ t l) (v::(J).map (plP Z)) ((List.range d).map fun d=>aJ pr n (jsP t l d)))/\V' (m+3)=V (m+3)/\PgB w7 (wc.setCell (aD ga k) (.s (sA g9) (z1+1) c9)) m V' [(gx,bX pr x (a+1)),(gl,aJ pr n ((jsP t l d).take i))]/\aX wq (wc.setCell (aD ga k) (.s (sA g9) (z1+1) c9))):=Hx (⟨_,by rw[<-sD hkm AMQ.o];exact J9.o.row hkm,bU _ _ qO,B9.o.store J9.o.ab qD qD _,K9.o.tr (aX.store J9.o.ab qD qD _)⟩);clear hK KK z0 t0 J9 HSW XD;refine wpAny_done qK ?_ _;generalize wc.setCell (aD ga k) (.s (sA g9) (z1+1) c9)=wd at*;obtain⟨V2,k1,k2,k3,k4⟩:=N9.o;have h8:PgI w7 wd bq br ga m neg A1 n1 c1 A2 n2 c2 V2 (qSt m ((l.length+(a+1))) (aI l (J)) (aI l (J++[(d,x)])) (1::(J).map fun _=>0) (bJ t l) (v::(J).map (plP Z)) ((List.range d).map fun d=>aJ pr n (jsP t l d))):=by
                rw[show l.length+(a+1)=k+1 by have:=HK.o;omega];exact k1
               have FIN:=Hx (kQa h8 (kQa k3 (L2_.o.2.2.tr k4)));clear h8;have hvK2:=k2.trans hvK;clear N9 L2_ k1 k2 k3 k4 AMQ hadd;go_wp2
               go_roundg (n-(a+1))
               case measure=>omega
               exact⟨a+1,V2,rfl,qO,by go_num,hvK2,FIN⟩
            as_aux_lemma=>
             obtain rfl:a=n:=qO;have hmm:m<=l.length+a:=(by have:=HM.o;omega);have h8:PgI w7 wr bq br ga m neg A1 n1 c1 A2 n2 c2 V (qSt m 0 (aI l (J++[(d,x)])) (aI l (J++[(d,x)])) (1::(J).map fun _=>0) (bJ t l) (v::(J).map (plP Z)) ((List.range d).map fun d=>aJ pr a (jsP t l d))):=by
              have h9:=L.o.1;rw[jzfd hmm,jzj (aI l (J++[(d,x)]))]at h9;exact h9
             have E0:=Hx (kQa h8 L.o.2);clear L hal ha hmm h8;obtain⟨W4,rfl⟩:∃W,W=wr:=⟨_,rfl⟩;obtain⟨ny,Y1,my,fy,Y2,my',fy',⟨s0,s1,s2⟩,_,hy⟩:=(E0.o.2.1 gx _ List.mem_cons_self).1.at3;obtain⟨nq2,Q1,mq,fq,Q2,mq',fq',⟨r0,r1,r2⟩,⟨z0,z1',z2⟩,hq⟩:=(E0.o.2.1 gl _ (xO _ List.mem_cons_self)).1.at3;have hbd:a*(20+1)<=20*21:=kQq qO qO;obtain⟨l1,l1'⟩:=hy.lens (jzk S7.o.sp qD a);obtain⟨l2,l2'⟩:=hq.lens (jzfe S7.o.sp qD a _);have RYQ:=Hx (kQa hy hq);have LT:=Hx (jzor (pr:=pr) (L2:=a) HX.o.1);clear hy hq
             go_upto_region 50 with fail
             go_cut [226] (fun s wx=>s=.bool (decide (i=0\/bX pr x a<aJ pr a ((jsP t l d).take i)))/\Hid (Ext W4 wx))
             case first=>
              by_cases hi0:i=0
              ·have e9:((i:Int)==0)=true:=by rw[hi0];rfl
               have FD:Hid (decide (i=0\/bX pr x a<aJ pr a ((jsP t l d).take i))=true):=Hx (yO (.inl hi0));clear hi0;go_wp2;go_meet;exact⟨by rw[FD.o],Hx (eR _)⟩
              have e9:((i:Int)==0)=false:=(by rw[yK];omega);have FD:=Hx (show decide (i=0\/bX pr x a<aJ pr a ((jsP t l d).take i))=decide (bG (bX pr x a) (aJ pr a ((jsP t l d).take i))<0)from by
               rw[decide_eq_decide,oH];exact⟨fun h=>h.resolve_left hi0,.inr⟩)
              clear hi0
              go_wp2_with fail
              refine(fE ny nq2 Y1 my fy Y2 my' fy' Q1 mq fq Q2 mq' fq' (bX pr x a) (aJ pr a ((jsP t l d).take i)) _ RYQ.o.1 RYQ.o.2 qO qO qO qO).mono ?_;rintro e w9 ⟨rfl,x9⟩;have X9:=Hx x9;clear x9;go_wp2;go_meet;exact⟨by rw[FD.o],X9⟩
             obtain⟨rfl,X9⟩:=hcut;generalize wc=W6a at*;have s0:=aA X9.o s0;have s1:=aA X9.o s1;have s2:=aA X9.o s2;have E6:Hid (PgI w7 W6a bq br ga m neg A1 n1 c1 A2 n2 c2 V (qSt m 0 (aI l (J++[(d,x)])) (aI l (J++[(d,x)])) (1::(J).map fun _=>0) (bJ t l) (v::(J).map (plP Z)) ((List.range d).map fun d=>aJ pr a (jsP t l d)))/\PgB w7 W6a m V [(gx,bX pr x a),(gl,aJ pr a ((jsP t l d).take i))]/\aX W5 W6a):=Hx (⟨E0.o.1.K X9.o,E0.o.2.1.K X9.o,E0.o.2.2.tr (aX.of_ext X9.o)⟩);obtain⟨_,_,_,_,_,_,_,⟨r0,r1,r2⟩,⟨z0,z1',z2⟩,_⟩:=(E6.o.2.1 gl _ (xO _ List.mem_cons_self)).1.at3;have RY6:=Hx (RYQ.o.1.K X9.o);clear E0 X9 RYQ
             go_upto_if 226 with fail
             go_cut [] (fun wx=>Hid (PgI w7 wx bq br ga m neg A1 n1 c1 A2 n2 c2 V (qSt m 0 (aI l (J++[(d,x)])) (aI l (J++[(d,x)])) (1::(J).map fun _=>0) (bJ t l) (v::(J).map (plP Z)) ((List.range d).map fun d=>aJ pr a (jsP t l d)))/\PgB w7 wx m V [(gl,aJ pr a ((jsP t l d).take (i+1)))]/\aX W5 wx))
             case first=>
              by_cases hlt:i=0\/bX pr x a<aJ pr a ((jsP t l d).take i)
              ·have hd9:decide (i=0\/bX pr x a<aJ pr a ((jsP t l d).take i))=true:=yO hlt
               rw[hd9];have FB:Hid (aJ pr a ((jsP t l d).take (i+1))=bX pr x a):=Hx (by rw[LT.o,qE hlt]);clear hlt hd9;go_wp2;go_meet;exact Hx ⟨E6.o.1.put (E6.o.2.1 gl _ (xO _ List.mem_cons_self)) _ _ _,by rw[FB.o];exact(E6.o.2.1.less.put (fun _ h=>by cases h) RY6.o),E6.o.2.2.tr (aX.put (E6.o.2.1 gl _ (xO _ List.mem_cons_self)).1 _ _ _)⟩
              have hd9:decide (i=0\/bX pr x a<aJ pr a ((jsP t l d).take i))=false:=yP hlt;rw[hd9];have FB:Hid (aJ pr a ((jsP t l d).take (i+1))=aJ pr a ((jsP t l d).take i)):=Hx (by rw[LT.o,qF hlt]);clear hlt hd9;go_wp2;go_meet;exact Hx ⟨E6.o.1,by rw[FB.o];exact E6.o.2.1.less,E6.o.2.2⟩
             have C6:=hcut;clear hcut E6 RY6 s0 s1 s2 r0 r1 r2 z0 z1' z2 LT;generalize wc=W7a at*;have KEEP:Hid (∀wx,Ext W7a wx->wx.cell? (aD bq 0)=some (V m)/\True):=Hx (fun wx hx=>⟨(C6.o.1.qb.K hx).cell 0,trivial⟩);have XD:Hid (Ext W7a W7a.drew):=Hx ((eR W7a).drewN 1);have HSW:=Hx (KEEP.o _ XD.o)
             go_upto_region 52 with fail
             refine wX KEEP 6 ?_;refine wP 0 rfl HSW.o ?_;try simp only[Act.put,yA,yB,yC,yD,yE,yF]
             refine wV 1 rfl HSW.o ?_;try simp only[Act.put,yA,yB,yC,yD,yE,yF]
             refine wC 2 rfl (fun KK hK=>?_);go_simp;refine(dP 0 _ ⟨qO,qO⟩).mono ?_;rintro e wa ⟨nf,H1,p1,q1,H2,p2,q2,rfl,hR,xa⟩;have EA:=Hx (XD.o.tr xa);have RA:=Hx hR;have HSW:=Hx (KEEP.o _ EA.o);refine hK.o _ _ HSW.o ?_;clear hK KK xa hR;try simp only[Act.put,yA,yB,yC,yD,yE,yF]
             refine wC 3 rfl (fun KK hK=>?_);go_simp;have XN:Hid (Ext wa (wa.alloc (.cells #[.bool nf,.s H1 p1 q1,.s H2 p2 q2] 33))):=Hx ((eR wa).alloc _);have BW:=Hx (eN wa 33 #[.bool nf,.s H1 p1 q1,.s H2 p2 q2]);have EB:=Hx (EA.o.tr XN.o);have RB:=Hx (RA.o.K XN.o);have HSW:=Hx (KEEP.o _ EB.o);refine hK.o _ _ HSW.o ?_;clear hK KK XN;generalize wa.alloc (.cells #[.bool nf,.s H1 p1 q1,.s H2 p2 q2] 33)=wb at*;generalize wa.heap.size=gb at*;try simp only[Act.put,yA,yB,yC,yD,yE,yF]
             refine wC 4 rfl (fun KK hK=>?_);obtain⟨css,h1,h2,hown,h4⟩:=(C6.o.1.own (m) qO).K QR.keep_ EB.o;have hlen:Hid ((qSt m 0 (aI l (J++[(d,x)])) (aI l (J++[(d,x)])) (1::(J).map fun _=>0) (bJ t l) (v::(J).map (plP Z)) ((List.range d).map fun d=>aJ pr a (jsP t l d)) m).length=z1):=Hx (by rw[lU,kQo,xV];exact HX.o.2.2);rw[hlen.o]at hown;refine fO wb 35 33 _ 3 56 _ _ rfl underlying35 Tryz.info44 rfl qD w7.heap.size (V (m)) (z1) css.flatten qR hown [.bool nf,.s H1 p1 q1,.s H2 p2 q2] rfl (by simp[Value.oneCell']) gb qR BW.o (by unfold maxLen;omega) qO ((C6.o.1.ext.tr EB.o).size) ?_;intro g9 c9 wc own9 grow9 new9;have J9:=Hx ((C6.o.1.K EB.o).pushed qO hlen.o h1 h2 hown h4 RB.o own9 grow9 new9);have B9:=Hx ((C6.o.2.1.K EB.o).pushed qO hown grow9 new9 (n':=(z1)+1) (c7:=c9));have K9:=Hx ((aX.of_ext EB.o).tr (aX.own hown grow9));have HSW:Hid (wc.cell? (aD bq 0)=some (V m)/\True):=Hx (⟨J9.o.qb.cell 0,trivial⟩);refine hK.o _ _ HSW.o ?_;clear hK KK h1 h2 hown h4 own9 grow9 new9 css hlen EA RA EB RB BW KEEP;try simp only[Act.put,yA,yB,yC,yD,yE,yF]
             have z0:wc.frozen? (aD bq 0)=false:=J9.o.qb.frozen _;have t0:wc.cell? (aD bq 0)=some (V (m)):=J9.o.qb.cell 0;refine wP 5 rfl HSW.o ?_;try simp only[Act.put,yA,yB,yC,yD,yE,yF]
             refine aY qK rfl qR (fun KK hK=>?_);go_simp;refine hK.o _ _ ?_;have N9:Hid (∃V',PgI w7 (wc.setCell (aD bq 0) (.s (sA g9) (z1+1) c9)) bq br ga m neg A1 n1 c1 A2 n2 c2 V' (qSt m 0 (aI l (J++[(d,x)])) (aI l (J++[(d,x)])) (1::(J++[(d,x)]).map fun _=>0) (bJ t l) (v::(J).map (plP Z)) ((List.range d).map fun d=>aJ pr a (jsP t l d)))/\V' (m+3)=V (m+3)/\PgB w7 (wc.setCell (aD bq 0) (.s (sA g9) (z1+1) c9)) m V' [(gl,aJ pr a ((jsP t l d).take (i+1)))]/\aX W7a (wc.setCell (aD bq 0) (.s (sA g9) (z1+1) c9))):=Hx (⟨_,by have h9:=J9.o.c;rw[jzol,lU,show(1::J.map fun _=>(0:Rat))++[((0:Int):Rat)]=1::(J++[(d,x)]).map fun _=>(0:Rat) by rw[List.map_append];rfl]at h9;exact h9,bU _ _ qO,B9.o.store J9.o.qb qD qD _,K9.o.tr (aX.store J9.o.qb qD qD _)⟩);clear hK KK z0 t0 J9 HSW XD;refine wpAny_done qK ?_ _;generalize wc.setCell (aD bq 0) (.s (sA g9) (z1+1) c9)=wd at*;obtain⟨V1,k1,k2,k3,k4⟩:=N9.o;have M1:=Hx (kQa k1 (kQa k3 (C6.o.2.2.tr k4)));have hvK1:=k2.trans hvK;clear N9 C6 k1 k2 k3 k4 hvK;have ZAL:=Hx (show∀z∈Z,z.1.2.length<=1000 from fun z hz=>by
              have h9:=((S7.o.arcs HF.o g3).1 (pzI z) (kQl.2 ⟨z,hz,rfl⟩)).1;have e:(pzI z).arcs.length=z.1.2.length:=xV ..;omega)
             have iN:(i:Int)<(nj:Int):=qO;have i0:(0:Int)<=(i:Int):=qO;have KEEP:Hid (∀wx,Ext wd wx->wx.cell? (aD br 1)=some (V1 (m+2))/\(wx.cell? (aD b6 0)=some (.bool neg)/\wx.cell? (aD b6 1)=some (.s A1 n1 c1)/\wx.cell? (aD b6 2)=some (.s A2 n2 c2)/\wx.cell? (aD b6 3)=some (.s AP np cp)/\wx.cell? (aD b6 4)=some (.s (sA gp) a a))/\wx.cell? (aD bx (ox+i))=some (.s Ax nx cx)):=Hx (fun wx hx=>⟨(M1.o.1.rb.K hx).cell 1,⟨(B7.o.K (M1.o.1.ext.tr hx)).cell 0,(B7.o.K (M1.o.1.ext.tr hx)).cell 1,(B7.o.K (M1.o.1.ext.tr hx)).cell 2,(B7.o.K (M1.o.1.ext.tr hx)).cell 3,(B7.o.K (M1.o.1.ext.tr hx)).cell 4⟩,CW.o _ (M1.o.2.2.tr (aX.of_ext hx))⟩);have XD:Hid (Ext wd wd.drew):=Hx ((eR wd).drewN 1);have HSW:=Hx (KEEP.o _ XD.o)
             go_upto_region 53 with fail
             refine wX KEEP 12 ?_;refine wP 0 rfl HSW.o ?_;try simp only[Act.put,yA,yB,yC,yD,yE,yF]
             refine wV 1 rfl HSW.o ?_;try simp only[Act.put,yA,yB,yC,yD,yE,yF]
             refine wV 2 rfl HSW.o ?_;try simp only[Act.put,yA,yB,yC,yD,yE,yF]
             refine wP 3 rfl HSW.o ?_;try simp only[Act.put,yA,yB,yC,yD,yE,yF]
             refine wP 4 rfl HSW.o ?_;try simp only[Act.put,yA,yB,yC,yD,yE,yF]
             refine wP 5 rfl HSW.o ?_;try simp only[Act.put,yA,yB,yC,yD,yE,yF]
             refine wP 6 rfl HSW.o ?_;try simp only[Act.put,yA,yB,yC,yD,yE,yF]
             refine wV 7 rfl HSW.o ?_;try simp only[Act.put,yA,yB,yC,yD,yE,yF]
             refine wC 8 rfl (fun KK hK=>?_);go_simp;refine(jzoj d x Ax nx cx neg A1 n1 c1 A2 n2 c2 AP np cp (sA gp) a a Z HNP.o.1 _ (S7.o.K (M1.o.1.ext.tr XD.o)).pat (((M1.o.2.2.tr (aX.of_ext XD.o)).rdT (.inl rfl) XC.o.1).rd) XC.o.2.1 XC.o.2.2 qO hnx7 ZAL.o).mono ?_;rintro e wa ⟨nf,H1,p1,q1,H2,p2,q2,rfl,hR,xa⟩;have EA:=Hx (XD.o.tr xa);have RA:=Hx hR;have HSW:=Hx (KEEP.o _ EA.o);refine hK.o _ _ HSW.o ?_;clear hK KK xa hR;try simp only[Act.put,yA,yB,yC,yD,yE,yF]
             refine wC 9 rfl (fun KK hK=>?_);go_simp;have XN:Hid (Ext wa (wa.alloc (.cells #[.bool nf,.s H1 p1 q1,.s H2 p2 q2] 33))):=Hx ((eR wa).alloc _);have BW:=Hx (eN wa 33 #[.bool nf,.s H1 p1 q1,.s H2 p2 q2]);have EB:=Hx (EA.o.tr XN.o);have RB:=Hx (RA.o.K XN.o);have HSW:=Hx (KEEP.o _ EB.o);refine hK.o _ _ HSW.o ?_;clear hK KK XN;generalize wa.alloc (.cells #[.bool nf,.s H1 p1 q1,.s H2 p2 q2] 33)=wb at*;generalize wa.heap.size=gb at*;try simp only[Act.put,yA,yB,yC,yD,yE,yF]
             refine wC 10 rfl (fun KK hK=>?_);obtain⟨css,h1,h2,hown,h4⟩:=(M1.o.1.own (m+2) qO).K QR.keep_ EB.o;have hlen:Hid ((qSt m 0 (aI l (J++[(d,x)])) (aI l (J++[(d,x)])) (1::(J++[(d,x)]).map fun _=>0) (bJ t l) (v::(J).map (plP Z)) ((List.range d).map fun d=>aJ pr a (jsP t l d)) (m+2)).length=z1):=Hx (by rw[oS,kQo,xV];exact HX.o.2.2);rw[hlen.o]at hown;refine fO wb 35 33 _ 3 56 _ _ rfl underlying35 Tryz.info44 rfl qD w7.heap.size (V1 (m+2)) (z1) css.flatten qR hown [.bool nf,.s H1 p1 q1,.s H2 p2 q2] rfl (by simp[Value.oneCell']) gb qR BW.o (by unfold maxLen;omega) qO ((M1.o.1.ext.tr EB.o).size) ?_;intro g9 c9 wc own9 grow9 new9;have J9:=Hx ((M1.o.1.K EB.o).pushed qO hlen.o h1 h2 hown h4 RB.o own9 grow9 new9);have B9:=Hx ((M1.o.2.1.K EB.o).pushed qO hown grow9 new9 (n':=(z1)+1) (c7:=c9));have K9:=Hx ((aX.of_ext EB.o).tr (aX.own hown grow9));have HSW:Hid (wc.cell? (aD br 1)=some (V1 (m+2))/\(wc.cell? (aD b6 0)=some (.bool neg)/\wc.cell? (aD b6 1)=some (.s A1 n1 c1)/\wc.cell? (aD b6 2)=some (.s A2 n2 c2)/\wc.cell? (aD b6 3)=some (.s AP np cp)/\wc.cell? (aD b6 4)=some (.s (sA gp) a a))/\wc.cell? (aD bx (ox+i))=some (.s Ax nx cx)):=Hx (⟨J9.o.rb.cell 1,⟨(B7.o.K J9.o.ext).cell 0,(B7.o.K J9.o.ext).cell 1,(B7.o.K J9.o.ext).cell 2,(B7.o.K J9.o.ext).cell 3,(B7.o.K J9.o.ext).cell 4⟩,CW.o _ (M1.o.2.2.tr K9.o)⟩);refine hK.o _ _ HSW.o ?_;clear hK KK h1 h2 hown h4 own9 grow9 new9 css hlen EA RA EB RB BW KEEP;try simp only[Act.put,yA,yB,yC,yD,yE,yF]
             have z0:wc.frozen? (aD br 1)=false:=J9.o.rb.frozen _;have t0:wc.cell? (aD br 1)=some (V1 (m+2)):=J9.o.rb.cell 1;refine wP 11 rfl HSW.o ?_;try simp only[Act.put,yA,yB,yC,yD,yE,yF]
             refine aY qK rfl qR (fun KK hK=>?_);go_simp;refine hK.o _ _ ?_;have N9:Hid (∃V',PgI w7 (wc.setCell (aD br 1) (.s (sA g9) (z1+1) c9)) bq br ga m neg A1 n1 c1 A2 n2 c2 V' (qSt m 0 (aI l (J++[(d,x)])) (aI l (J++[(d,x)])) (1::(J++[(d,x)]).map fun _=>0) (bJ t l) (v::(J++[(d,x)]).map (plP Z)) ((List.range d).map fun d=>aJ pr a (jsP t l d)))/\V' (m+3)=V1 (m+3)/\PgB w7 (wc.setCell (aD br 1) (.s (sA g9) (z1+1) c9)) m V' [(gl,aJ pr a ((jsP t l d).take (i+1)))]/\aX wd (wc.setCell (aD br 1) (.s (sA g9) (z1+1) c9))):=Hx (⟨_,by have h9:=J9.o.x;rw[jzom,oS,show(v::J.map (plP Z))++[plP Z (d,x)]=v::(J++[(d,x)]).map (plP Z) by rw[List.map_append];rfl]at h9;exact h9,bU _ _ qO,B9.o.store J9.o.rb qD qD _,K9.o.tr (aX.store J9.o.rb qD qD _)⟩);clear hK KK z0 t0 J9 HSW XD;refine wpAny_done qK ?_ _;generalize wc.setCell (aD br 1) (.s (sA g9) (z1+1) c9)=we at*;obtain⟨V2,k1,k2,k3,k4⟩:=N9.o;have EJ:=Hx (show(aV t l d++((jsP t l d).take (i+1)).map fun x=>(d,x))=J++[(d,x)]from by
              rw[kQr,HX.o.1,HX.o.2.1];simp)
             have FIN:Hid (PgI w7 we bq br ga m neg A1 n1 c1 A2 n2 c2 V2 (qSt m (0) (aI l (aV t l d++((jsP t l d).take (i+1)).map fun x=>(d,x))) (aI l (aV t l d++((jsP t l d).take (i+1)).map fun x=>(d,x))) (1::(aV t l d++((jsP t l d).take (i+1)).map fun x=>(d,x)).map fun _=>0) (bJ t l) (v::(aV t l d++((jsP t l d).take (i+1)).map fun x=>(d,x)).map (plP Z)) ((List.range d).map fun d=>aJ pr a (jsP t l d)))/\PgB w7 we m V2 [(gl,aJ pr a ((jsP t l d).take (i+1)))]/\aX W5 we):=Hx (⟨by rw[EJ.o];exact k1,k3,M1.o.2.2.tr k4⟩);have CL2:=Hx (show(aV t l d++((jsP t l d).take (i+1)).map fun x=>(d,x)).length<=60 from by
              rw[EJ.o,yQ];have:=HX.o.2.2;show J.length+1<=60;omega)
             have hvK2:=k2.trans hvK1;clear N9 M1 k1 k2 k3 k4 hvK1 EJ ZAL;have hi60:i+1<=60:=by
              have h9:=CL2.o;rw[yQ,xV,xF,HNJ.o]at h9;omega
             go_wp2
             go_roundg (nj-(i+1))
             case measure=>omega
             exact⟨i+1,V2,rfl,qO,by go_num,hvK2,CL2,FIN⟩
        as_aux_lemma=>
         obtain rfl:i=nj:=qO;have EJ:=Hx (show(aV t l d++((jsP t l d).take (i)).map fun x=>(d,x))=aV t l (d+1)from by
          rw[jzn5,yU (by rw[HNJ.o];exact yX _)])
         have CL2:Hid ((aV t l (d+1)).length<=60):=Hx (by rw[<-EJ.o];exact CLI.o);have h8:PgI w7 W1 bq br ga m neg A1 n1 c1 A2 n2 c2 V (qSt m 0 (aI l (aV t l (d+1))) (aI l (aV t l (d+1))) (1::(aV t l (d+1)).map fun _=>0) (bJ t l) (v::(aV t l (d+1)).map (plP Z)) ((List.range d).map fun d=>aJ pr n (jsP t l d))):=by
          have h9:=K.o.1;rw[EJ.o]at h9;exact h9
         have h7:PgB w7 W1 m V [(gl,aJ pr n (jsP t l d))]:=by
          have h9:=K.o.2.1;rw[yU (by rw[HNJ.o];exact yX _)]at h9;exact h9
         have KI:=Hx (kQa h8 h7);clear K CLI EJ h8 h7;subst hvK;obtain⟨ny,Y1,my,fy,Y2,my',fy',⟨s0,s1,s2⟩,_,hy⟩:=(KI.o.2 gl _ List.mem_cons_self).1.at3;have XN:Hid (Ext W1 (W1.alloc (.cells #[.bool ny,.s Y1 my fy,.s Y2 my' fy'] 33))):=Hx ((eR W1).alloc _);have BW:=Hx (eN W1 33 #[.bool ny,.s Y1 my fy,.s Y2 my' fy']);have RY:=Hx (hy.K XN.o);have hsz:w7.heap.size<=(W1.alloc (.cells #[.bool ny,.s Y1 my fy,.s Y2 my' fy'] 33)).heap.size:=(KI.o.1.ext.tr XN.o).size;obtain⟨css,h1,h2,hown,h4⟩:=(KI.o.1.own (m+3) qO).K QR.keep_ XN.o;have hlen:Hid (((qSt m 0 (aI l (aV t l (d+1))) (aI l (aV t l (d+1))) (1::(aV t l (d+1)).map fun _=>0) (bJ t l) (v::(aV t l (d+1)).map (plP Z)) ((List.range d).map fun d=>aJ pr n (jsP t l d))) (m+3)).length=d):=Hx (by rw[oT,xV,kZm]);rw[hlen.o]at hown;clear hy
         go_wp2_with (at_builtin;refine kZ _ 35 33 _ 3 56 rfl _ _ rfl underlying35 Tryz.info44 rfl qD w7.heap.size (V (m+3)) d css.flatten rfl hown [.bool ny,.s Y1 my fy,.s Y2 my' fy'] rfl (by simp[Value.oneCell']) W1.heap.size rfl BW.o (by unfold maxLen;omega) qO hsz ?_)
         intro g9 c9 wc own9 grow9 new9;have J9:=Hx ((KI.o.1.K XN.o).pushed (k:=m+3) qO hlen.o h1 h2 hown h4 RY.o own9 grow9 (new9.imp id fun e=>e.trans qS));have FIN:=Hx (show PgI w7 wc bq br ga m neg A1 n1 c1 A2 n2 c2 (cL V (m+3) (.s (sA g9) (d+1) c9)) (qSt m 0 (aI l (aV t l (d+1))) (aI l (aV t l (d+1))) (1::(aV t l (d+1)).map fun _=>0) (bJ t l) (v::(aV t l (d+1)).map (plP Z)) ((List.range (d+1)).map fun d=>aJ pr n (jsP t l d)))from by
          have h9:=J9.o.slot;rw[jzon,oT,show((List.range d).map fun d=>aJ pr n (jsP t l d))++[aJ pr n (jsP t l d)]=(List.range (d+1)).map fun d=>aJ pr n (jsP t l d) by rw[kZc,List.map_append];rfl]at h9;exact h9)
         clear J9 own9 grow9 new9 h1 h2 hown h4 hlen hsz RY BW XN KI s0 s1 s2;go_wp2
         go_roundg (l.length-(d+1))
         case measure=>omega
         exact⟨d+1,_,rfl,qO,by go_num,(fD ..).symm,CL2,FIN⟩
      as_aux_lemma=>
       obtain rfl:d=l.length:=qO;have hzz:=CLN.o;obtain⟨J1,hJ1⟩:∃J1,J1=aV t l l.length:=⟨_,rfl⟩;rw[<-hJ1]at J hzz;have HJ1:=Hx hJ1;clear hJ1 hdl hd CLN;have y4:W0.cell? (aD b6 4)=some (.s (sA gp) n n):=(B7.o.K J.o.ext).cell 4;obtain⟨css2,k1,k2,k3,k4⟩:=(S7.o.K J.o.ext).prs;obtain⟨css,h1,h2,hown,h4⟩:=J.o.own (m+3) qO;have hlen:Hid (((qSt m 0 (aI l (J1)) (aI l (J1)) (1::(J1).map fun _=>0) (bJ t l) (v::(J1).map (plP Z)) ((List.range l.length).map fun d=>aJ pr n (jsP t l d))) (m+3)).length=l.length):=Hx (by rw[oT,xV,kZm]);rw[hlen.o]at hown;have hb0:=J.o.ext.size;have hfl:css2.flatten.length=n*3:=(by rw[fZ css2 k2,k1,PRL.o]);have hone:=jzou k1 k4;have CP:=Hx (kQa h1 (kQa h2 (kQa h4 (kQa k1 (kQa k2 k4)))))
       go_wp2_with (at_builtin;refine jzot _ 35 33 _ 3 56 rfl _ _ rfl underlying35 Tryz.info44 rfl qD w7.heap.size (V (m+3)) l.length css.flatten rfl hown (sA gp) n n css2.flatten rfl hfl k3 (fun h=>by cases h) hone (by unfold maxLen;omega) qO hb0 ?_)
       intro vY wc own9 grow9 new9;obtain⟨AY,cY,rfl,_⟩:=jzff own9;obtain⟨rb9,F9,Y9⟩:=J.o.final CP.o.1 CP.o.2.1 CP.o.2.2.2.1 CP.o.2.2.2.2.1 CP.o.2.2.1 CP.o.2.2.2.2.2 hown own9 grow9;have FF:=Hx (kQa F9 Y9);have z2:=rb9.frozen 2;have t2:=rb9.cell 2;clear own9 grow9 new9 F9 Y9 hown h1 h2 h4 k1 k2 k3 k4 hlen hfl hone CP J hb0 y4 rb9
       go_upto_region 56 with fail
       clear z2 t2;generalize wc.setCell (aD br 2) (.s AY (l.length+n) cY)=wf at*;have XF:=Hx FF.o.1.ext;have hzm:(1::J1.map fun _=>(0:Rat)).length=J1.length+1:=qS;obtain⟨z1,hz1⟩:∃z1,J1.length+1=z1:=⟨_,rfl⟩;have hz61:z1<=61:=qO;have hbq:(bJ t l).length=m:=by
        unfold bJ;simp;have:=HM.o;have:=HNP.o.2;omega
       obtain⟨AC,cc,AB,cb,eC,eB,LPR⟩:=FF.o.1.lpr (n:=z1) (by rw[hzm];exact hz1) qO qO qO hbq (fun i hi=>by rw[jzq];exact hz1) (jzpo J1) (fun i _=>jzpp HF.o J1 i) (jzpq HF.o);have hX:=FF.o.1.own (m+2) (yX _);rw[oS]at hX;obtain⟨AX,cX,eX,_⟩:=hX.form1;have hxl:(v::J1.map (plP Z)).length=z1:=(by simp;exact hz1);rw[hxl]at eX;rw[eX]at hX;have LAW:=jzn8 HF.o S7.o.ok (S7.o.ok.vnn HF.o);rw[<-HJ1.o,HNP.o.2]at LAW;have hyl:(((List.range l.length).map fun d=>aJ pr n (jsP t l d))++pr).length=m:=by
        rw[yQ,xV,kZm,PRL.o];exact HM.o.symm
       have hsx:∀q∈(v::J1.map (plP Z)),SzQ q 500:=by
        intro q hq;rcases xZ.1 hq with rfl|hq
        ·exact S7.o.sv.mono qD
        obtain⟨p,_,rfl⟩:=kQl.1 hq;exact(jzfv S7.o.sz p).mono qD
       have hnn:n*(20+1)<=20*21:=kQq hL20 qO;have hsy:∀q∈(((List.range l.length).map fun d=>aJ pr n (jsP t l d))++pr),SzQ q 500:=by
        intro q hq;rcases xY.1 hq with hq|hq
        ·obtain⟨d,_,rfl⟩:=kQl.1 hq
         exact(jzfe S7.o.sp qD n _).mono qO
        exact(S7.o.sp q hq).mono qD
       have hyq:QL wf AY (((List.range l.length).map fun d=>aJ pr n (jsP t l d))++pr):=by
        have h9:=FF.o.2;rw[oT]at h9;exact h9
       clear hnn;have LX:=Hx (show LpX wf z1 m 500 AC (sA ga) AB AX AY (1::J1.map fun _=>0) (bJ t l) (v::J1.map (plP Z)) (((List.range l.length).map fun d=>aJ pr n (jsP t l d))++pr) (aI l J1) v from
        ⟨LPR,hX.ql hxl,hxl,hsx,hyq,hyl,hsy,qD,LAW⟩)
       clear hsx hsy hyq;have RV:=Hx (S7.o.val.K XF.o);have q0:wf.cell? (aD bq 0)=some (V m):=FF.o.1.qb.cell 0;have q1:wf.cell? (aD bq 1)=some (.s (sA ga) m m):=FF.o.1.qb.cell 1;have q2:wf.cell? (aD bq 2)=some (V (m+1)):=FF.o.1.qb.cell 2;have r0:wf.cell? (aD br 0)=some (vI 1):=FF.o.1.rb.cell 0;have r1:wf.cell? (aD br 1)=some (V (m+2)):=FF.o.1.rb.cell 1;have r2:wf.cell? (aD br 2)=some (.s AY m cY):=(FF.o.1.rb.cell 2).trans (by rw[HM.o];rfl);have r3:wf.cell? (aD br 3)=some zN:=FF.o.1.rb.cell 3;have r4:wf.cell? (aD br 4)=some (.bool neg):=FF.o.1.rb.cell 4;have r5:wf.cell? (aD br 5)=some (.s A1 n1 c1):=FF.o.1.rb.cell 5;have r6:wf.cell? (aD br 6)=some (.s A2 n2 c2):=FF.o.1.rb.cell 6;rw[eC]at q0;rw[eB]at q2;rw[eX]at r1;clear LAW hX LPR FF eC eB eX hyl hxl hz1 hzm hbq hz61
       go_wp2_with fail
       refine(jzof z1 m 500 cc m cb cX cY AC (sA ga) AB AX AY _ _ _ _ _ v neg A1 n1 c1 A2 n2 c2 _ LX.o RV.o).mono ?_;rintro e we ⟨rfl,xe⟩;have FIN:=Hx (X7.o.tr (XF.o.tr xe));clear xe q0 q1 q2 r0 r1 r2 r3 r4 r5 r6;go_wp2;go_ret;exact⟨rfl,FIN.o⟩
end Go.Proofs.YtfeeacaofjpkaaaGreatDoor
