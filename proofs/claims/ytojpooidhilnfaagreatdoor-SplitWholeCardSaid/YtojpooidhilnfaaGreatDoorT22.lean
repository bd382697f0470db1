/- Walks, part 22. -/
import Derived.Test.YtojpooidhilnfaaGreatDoorT21
set_option linter.unusedVariables false
set_option linter.unusedSimpArgs false
set_option maxRecDepth 100000
set_option maxHeartbeats 8000000
namespace Go.Proofs.YtojpooidhilnfaaGreatDoor
open Go.Proofs.Tryz
open Go.RowKit
open Sx
theorem jzf5{t}{l:List Dm}(hf:Fit t l):∀(Z:List ((Nat×LN)×Rat)) (ks:List (List UInt8)) (sm:LQ),sm.length=l.length->(∀z∈Z,z.1.1<l.length/\0<z.2/\Lpl t (bD l z.1.1) (bA l z.1.1) z.1.2/\eW z.1∉ks)->(Z.map (·.1)).Nodup->
  ∃qa,rtB t l ks sm (Z.map pzI)=some qa/\∀d,d<l.length->at_ qa d=at_ sm d+ls (fun z=>if z.1.1=d then z.2 else 0) Z
 | [],ks,sm,_,_,_=>⟨sm,rfl,fun d _=>by show _=_+(0:Rat);grind⟩
 |z::Z,ks,sm,hs,h,hn=>by
  obtain⟨h1,h2,h3,h4⟩:=h z qS;rw[kZa,kZo]at hn;obtain⟨n1,n2⟩:=hn;obtain⟨qa,e1,e2⟩:=jzf5 hf Z (eW z.1::ks) (sm.set z.1.1 (at_ sm z.1.1+z.2)) (by rw[yV];exact hs) (fun y hy=>by
   obtain⟨k1,k2,k3,k4⟩:=h y (xO _ hy);refine⟨k1,k2,k3,fun hm=>?_⟩;rcases xZ.1 hm with e|e
   ·exact n1 (kQl.2 ⟨y,hy,jzeo e⟩)
   exact k4 e) n2
  refine⟨qa,?_,fun d hd=>?_⟩
  ·have hc:rtC t l ks (pzI z):=by
    refine⟨⟨⟨Int.natCast_nonneg _,Int.ofNat_lt.2 h1⟩,h4,h2⟩,?_⟩;obtain⟨f1,f2⟩:=jzp9 hf h1;have qe:mL l (pzI z).dem.toNat=(bD l z.1.1:Int):=f1;have qf:mM l (pzI z).dem.toNat=(bA l z.1.1:Int):=f2;rw[qe,qf];exact(jzfw hf.v _ (hf.nodes h1).1).2 ⟨z.1.2,rfl,h3⟩
   show(if rtC t l ks (pzI z)then _ else none)=_;rw[qE hc];exact e1
  rw[e2 d hd];show _=at_ sm d+((if z.1.1=d then z.2 else 0)+ls _ Z);rw[pJ _ _ _ _ qO];by_cases e:z.1.1=d
  ·rw[qE e,qE e,e];grind
  rw[qF e,qF e];grind
theorem jzf6{L2:Nat}{f:Rat}:∀(x:LN) (ld:LQ),ld.length=L2->x.Nodup->(∀a∈x,a<L2)->∃qa,ldA L2 f ld (x.map fun a:Nat=>(a:Int))=some qa/\qa.length=L2/\∀a,a<L2->at_ qa a=at_ ld a+if a∈x then f else 0
 | [],ld,hl,_,_=>⟨ld,rfl,hl,fun a _=>by simp;grind⟩
 |b::x,ld,hl,hn,hx=>by
  rw[kZo]at hn;have hb:=hx b qS;obtain⟨qa,e1,e2,e3⟩:=jzf6 x (ld.set b (at_ ld b+f)) (by rw[yV];exact hl) hn.2 (fun a ha=>hx a (xO _ ha));refine⟨qa,?_,e2,fun a ha=>?_⟩
  ·show(if 0<=(b:Int)/\(b:Int)<(L2:Int)then _ else none)=_
   rw[qE ⟨Int.natCast_nonneg _,by exact_mod_cast hb⟩];exact e1
  ·rw[e3 a ha,pJ _ _ _ _ qO]
   by_cases e:b=a
   ·subst e
    rw[qE rfl,qF hn.1,qE qS];grind
   ·rw[qF e]
    by_cases e4:a∈x
    ·rw[qE e4,qE (xO _ e4)]
    ·rw[qF e4,qF (fun hm=>(xZ.1 hm).elim (fun e5=>e e5.symm) e4)]
theorem jz1{L2:Nat}:∀(Z:List ((Nat×LN)×Rat)) (ld:LQ),ld.length=L2->(∀z∈Z,z.1.2.Nodup/\∀a∈z.1.2,a<L2)->∃ld',ldP L2 ld (Z.map pzI)=some ld'/\ld'.length=L2/\∀a,a<L2->at_ ld' a=at_ ld a+ls (fun z=>if a∈z.1.2 then z.2 else 0) Z
 | [],ld,hl,_=>⟨ld,rfl,hl,fun a _=>by show _=_+(0:Rat);grind⟩
 |z::Z,ld,hl,h=>by
  obtain⟨h1,h2⟩:=h z qS;obtain⟨l1,e1,e2,e3⟩:=jzf6 (f:=z.2) z.1.2 ld hl h1 h2;obtain⟨l2,k1,k2,k3⟩:=jz1 Z l1 e2 fun y hy=>h y (xO _ hy);refine⟨l2,?_,k2,fun a ha=>?_⟩
  ·show(match ldA L2 z.2 ld (z.1.2.map fun a:Nat=>(a:Int))with|none=>none|some ld'=>ldP L2 ld' (Z.map pzI))=_
   rw[e1];exact k1
  ·rw[k3 a ha,e3 a ha]
   show _=at_ ld a+((if a∈z.1.2 then z.2 else 0)+ls _ Z);grind
section
variable {t:Tp} {l:List Dm} {v:Rat} {Z:List ((Nat×List Nat)×Rat)} {pr:List Rat}
theorem jzqa(hv:aI t=true)(h:∀z∈Z,∃s d,Lpl t s d z.1.2):∃ld,cT t (Z.map pzI)=(ld,0)/\ld.length=2*t.links.length/\∀a,a<2*t.links.length->at_ ld a=ls (fun z=>if a∈z.1.2 then z.2 else 0) Z:=by
 obtain⟨ld,h1,h2,h3⟩:=jz1 (L2:=2*t.links.length) Z (List.replicate (2*t.links.length) 0) (xC) fun z hz=>(by obtain⟨s,d,hl⟩:=h z hz;exact⟨hl.nodup,gG _ hl.1⟩);refine⟨ld,?_,h2,fun a ha=>by rw[h3 a ha,pK];grind⟩;unfold cT;rw[qE hv,h1]
theorem jzqb(hD:l.length<=64)(hf:Fit t l)(h:Adm (2*t.links.length) l.length (amQ l) (aJ t) v Z)(hl:∀z∈Z,Lpl t (bD l z.1.1) (bA l z.1.1) z.1.2):fB t l v (Z.map pzI)=true:=by
 obtain⟨qa,e1,e2⟩:=jzf5 hf Z [] (List.replicate l.length 0) xC (fun z hz=>⟨h.dem z hz,h.pos z hz,hl z hz,fun hm=>by cases hm⟩) h.dif;obtain⟨ld,k1,k2,k3⟩:=jzqa hf.v (Z:=Z) fun z hz=>⟨_,_,hl z hz⟩;unfold fB;rw[(nT hD).2 hf,kZg,e1,k1];show(gS l v qa l.length&&gJ t ld ld.length)=true;rw[vM];constructor;{unfold gS;rw[xW];intro d hd;have hd:=vX.1 hd;rw[decide_eq_true_eq,e2 d hd,pK,h.sum d hd];grind};unfold gJ;rw[xW];intro a ha;have ha:=vX.1 ha;rw[k2]at ha;rw[decide_eq_true_eq,k3 a ha];exact h.cap a ha
theorem dG.admits(hD:l.length<=64)(hf:Fit t l)(h:dG t l v Z pr):fB t l v (Z.map pzI)=true:=jzqb hD hf h.adm h.loop
end
end Go.Proofs.YtojpooidhilnfaaGreatDoor
namespace Go.Proofs.YtojpooidhilnfaaGreatDoor
open Go.Proofs.Tryz
open Go.RowKit
def jzqc(w:World)(r:LN×Int)(e:Ending)(w':World):Prop:=
 ∃(A:OA) (c:Nat),e=.returned (.tuple #[.s A r.1.length c,vI r.2])/\r.1.length<=c/\RdT w' 3 A (ints r.1)/\Ext w w'
theorem jz2(T:Nat):mkQ (decide ((T:Int)<0)) (T:Int).natAbs 1=((T:Int):Rat):=by
 rw[yP qO];unfold mkQ;rw[Int.natAbs_natCast];simp[Rat.mkRat_one]
theorem jzqd(q:Rat):(flQ q).num.natAbs=flN q:=by
 unfold flQ;rw[rA _ qD,Nat.gcd_one_right,Nat.div_one]
theorem aC.pos{w}{neg:Bool}{A}{n c:Nat}{A'}{n' c':Nat}{q:Rat}(h:aC w neg A n c A' n' c' q)(h0:0<=q):neg=false:=by
 rw[h.1,decide_eq_false_iff_not];have:=Rat.num_nonneg.2 h0;omega
structure sV(wB wr:World)(gw gr n:Nat)(qs:LQ)(T i:Nat):Prop where
 wt:aO wr gw (eM n (fun j=>flN (aK qs T j)) 0 i)
 rs:QB wr gr (eM n (fP qs T) 0 i)
 ext:Ext wB wr
theorem sizes{qs:LQ}(h:bX qs=true)(hsz:∀q∈qs,SzQ q 100){T:Nat}(hT:T<=65536)(i:Nat):SzR qs 6464/\SzQ (aZ qs) 6465/\SzQ (((T:Int):Rat)/aZ qs) 6466/\SzQ (qs[i]?.getD 0) 100/\SzQ (aK qs T i) 6566/\SzQ (flQ (aK qs T i)) 6566/\SzQ (fP qs T i) 20000:=by
 have qa:=(lZ h).2;have h0:aZ qs≠0:=fun e=>(by have:=(mA h).2;rw[e]at this;exact kZf this);have s1:SzR qs 6464:=(by have h1:=SzR.of hsz;revert h1;have qe:qs.length*(100+1)<=6464:=qO;generalize qs.length*(100+1)=C at*;clear hsz h qa h0 hT;(induction qs generalizing C with|nil=>intro _;trivial|cons a l _=>intro ⟨k,D,x1,x2,x3⟩;exact⟨k,D,x1,x2,qO⟩));have s2:=s1.sum;have s3:SzQ ((T:Int):Rat) 1:=(by rw[<-jz2];refine SzQ.mkQ_ qD ?_ qD;rw[Nat.pow_one,aL,Int.natAbs_natCast];omega);have s4:SzQ (((T:Int):Rat)/aZ qs) 6466:=(s3.div s2 h0).mono qD;have s5:SzQ (qs[i]?.getD 0) 100:=(by (cases hq:qs[i]? with|none=>exact SzQ.zero.mono qD|some q=>exact hsz q (yJ hq)));have s6:SzQ (aK qs T i) 6566:=(s5.mul s4).mono qD;have s7:=s6.fl qD;exact⟨s1,s2,s4,s5,s6,s7,(s6.sub s7).mono qD⟩
theorem jzf7(P:OA)(n c:Nat)(qs:LQ)(hn:qs.length=n)(hn2:n<=1000000)(total:Int)(w:World)(hq:QL w P qs)(qg:∀q∈qs,SzQ q 100):
  Calls prog 66 #[.s P n c,vI total] w (jzqc w (gX qs total)):=by
 have HQ:=Hx hq;have HN:=Hx hn;have HS:=Hx qg;generalize hR:gX qs total=R;have HR:=Hx hR;clear hq hn qg hR
 go_enter func66,ntmps66
 go_wp2_with fail
 refine(uO P n c qs HN.o hn2 _ HQ.o).mono ?_;rintro e w1 ⟨rfl,x1⟩;have E1:=Hx x1;clear x1;cases hp:bX qs
 case false=>
  have HF:=Hx (show R=([],1) by rw[<-HR.o];unfold gX;rw[hp];rfl);obtain rfl:=HF.o;clear hp;go_wp2;exact bodyPost_ret (v:=.tuple #[zN,vI 1]) (by simp[results,results66,go_sem]) rfl (⟨none,0,rfl,yX _,RdT.nil _ _ _,E1.o⟩)
 by_cases ht:1<=total/\total<=65536
 ·obtain⟨T,rfl⟩:∃T:Nat,total=(T:Int):=⟨total.toNat,qO⟩
  have HF:=Hx (show R=((List.range n).map (iR qs T),0) by rw[<-HR.o];unfold gX;rw[hp,yO ht.1,yO ht.2,HN.o,xL];rfl);obtain rfl:=HF.o;have vF:1<=T/\T<=65536:=qO;obtain⟨h0,vZ⟩:=lZ hp;rw[HN.o]at h0 vZ;have HP:=Hx hp;have SZ:=Hx (sizes hp HS.o vF.2);have t1:¬(T:Int)<1:=qO;have t2:¬(65536:Int)<(T:Int):=qO;have t3:decide ((T:Int)<1)=false:=(by simp;omega);clear hp HR ht
  go_wp2_with fail
  refine(kO (T:Int) _ qO qO).mono ?_;rintro e w2 ⟨n2,A2,l2,c2,vR,zd,vW,rfl,h2,x2⟩;rw[jz2]at h2;have R2:=Hx h2;have E2:=Hx (E1.o.tr x2);clear h2 x2 E1
  go_wp2_with fail
  refine(jzbu P n c qs HN.o h0 hn2 6464 qD (SZ.o 0).1 _ (HQ.o.K E2.o)).mono ?_;rintro e w3 ⟨n3,A3,l3,c3,zb,v9,zf,rfl,h3,x3⟩;have R3:=Hx (kQa (R2.o.K x3) h3);have E3:=Hx (E2.o.tr x3);obtain⟨q1,q2⟩:=h3.lens (SZ.o 0).2.1;obtain⟨q3,q4⟩:=R2.o.lens (show SzQ ((T:Int):Rat) 1 by
   rw[<-jz2];refine SzQ.mkQ_ qD ?_ qD;rw[Nat.pow_one,aL,Int.natAbs_natCast];omega)
  clear h3 x3 R2 E2;have vy:Hid (aZ qs≠0):=Hx (fun e=>by have:=(mA HP.o).2;rw[e]at this;exact kZf this)
  go_wp2_with fail
  refine(lB n2 n3 A2 l2 c2 vR zd vW A3 l3 c3 zb v9 zf _ (aZ qs) _ R3.o.1 R3.o.2 vy.o qO qO qO qO).mono ?_;rintro e w4 ⟨ns,S1,k1,d1,qH,qV,qJ,rfl,h4,x4⟩;have xb:=(eR w4).alloc (.cells #[.bool ns,.s S1 k1 d1,.s qH qV qJ] 35);have E4:=Hx ((E3.o.tr x4).tr xb);have B4:=Hx (eN w4 35 #[.bool ns,.s S1 k1 d1,.s qH qV qJ]);have R4:=Hx (h4.K xb);obtain⟨zp,zk⟩:=h4.lens (SZ.o 0).2.2.1;clear h4 x4 xb R3 E3 q1 q2 q3 q4 vy;have vY:=run_make_row' (P:=prog) 44 3 (vI 0) 8 underlying44 Tryz.info3 rfl .i64 .i64 n qO qO;have ze:=jzb5 n qO;obtain⟨wB,qj⟩:∃wB,wB=w4.alloc (.cells #[.bool ns,.s S1 k1 d1,.s qH qV qJ] 35):=⟨_,rfl⟩;rw[<-qj]at E4 B4 R4;have qg:wB.heap.size=w4.heap.size+1:=(by rw[qj];simp);have x1:=(eR wB).alloc (.cells (madeCells #[vI 0] n) 3);have x2:=(eR (wB.alloc (.cells (madeCells #[vI 0] n) 3))).alloc (.cells (madeCells rV (n*3)) 35);have L0:=Hx (show sV wB ((wB.alloc (.cells (madeCells #[vI 0] n) 3)).alloc (.cells (madeCells rV (n*3)) 35)) (w4.heap.size+1) (w4.heap.size+1+1) n qs T 0 from⟨by
   rw[jzcc];have:=(aO.made wB n).K x2;rw[qg]at this;exact this,by
   rw[jzcc];have:=QB.made (wB.alloc (.cells (madeCells #[vI 0] n) 3)) n;have h9:(wB.alloc (.cells (madeCells #[vI 0] n) 3)).heap.size=w4.heap.size+1+1:=(by simp[qg]);rw[h9]at this;exact this,x1.tr x2⟩)
  clear x1 x2;have vt:=Hx qg;clear qg;rw[qj]at L0;go_wp2;rw[<-qj];rw[<-qj]at L0;clear vY ze qj;generalize ((wB.alloc (.cells (madeCells #[vI 0] n) 3)).alloc (.cells (madeCells rV (n*3)) 35))=w5 at*;generalize w4.heap.size=gs at*;generalize hgw:gs+1=gw at*;generalize hgr:gw+1=gr at*;have zm:gs<gw/\gw<gr:=qO;have qx:wB.heap.size<=gw/\wB.heap.size<=gr:=(by have:=vt.o;omega);clear hgw hgr vt;have vm:(T:Int)=(T:Int)-((bI (fun j=>flN (aK qs T j)) 0:Nat):Int):=(by simp[bI]);have vL:=Hx vm;clear vm
  go_loopg [10,11,12,13,14,15,16,47] n (fun q mt _ _ _ _ _ _ it wr=>∃(i:Nat),n-i=q/\i<=n/\it=vI i/\mt=vI ((T:Int)-((bI (fun j=>flN (aK qs T j)) i:Nat):Int))/\Hid (sV wB wr gw gr n qs T i))
  case atStart=>exact⟨0,rfl,yZ _,rfl,by rw[<-vL.o],L0⟩
  obtain⟨i,rfl,hi,rfl,rfl,L⟩:=hrel;clear L0 vL;have v6:bI (fun j=>flN (aK qs T j)) i<=4194304:=by
   have h1:=uS (fun j=>flN (aK qs T j)) T i (fun j hj=>uU HP.o T (by rw[HN.o];omega));have h2:i*T<=64*65536:=kQq qO vF.2;omega
  by_cases qf:i<n
  ·obtain⟨b1,o1,n1,X1,m1,f1,qY,vc,vh,rfl,zq,y0,y1,y2,qX⟩:=(HQ.o.K (E4.o.tr L.o.ext)).at_ (nA (K:=qs) (i:=i) (by rw[HN.o];exact qf))
   have qm:=(eR wr).alloc (.cells #[.bool n1,.s X1 m1 f1,.s qY vc vh] 35);have XB:=Hx qm;have BX:=eN wr 35 #[.bool n1,.s X1 m1 f1,.s qY vc vh];have BS:=(B4.o.K L.o.ext).K qm;obtain⟨⟨z0,z1,z2⟩,_⟩:=BS.t3;have R1:=Hx (kQa (qX.K qm) ((R4.o.K L.o.ext).K qm));obtain⟨p1,p2⟩:=qX.lens (SZ.o i).2.2.2.1;have iN:(i:Int)<(n:Int):=qO;have vO:Hid (bI (fun j=>flN (aK qs T j)) (i+1)=bI (fun j=>flN (aK qs T j)) i+flN (aK qs T i)):=Hx (rfl);have vo:=Hx (uU HP.o T (show i<qs.length by rw[HN.o];exact qf));generalize hM:bI (fun j=>flN (aK qs T j)) i=M at*;clear qX BX BS qm hM
   go_wp2_with fail
   refine(iL n1 ns X1 m1 f1 qY vc vh S1 k1 d1 qH qV qJ _ _ _ R1.o.1 R1.o.2 qO qO qO qO).mono ?_;rintro e w6 ⟨n6,Q1,a1,e1,qw,qB,qC,rfl,h6,x6⟩;have h6:aC w6 n6 Q1 a1 e1 qw qB qC (aK qs T i):=h6;obtain rfl:=h6.pos (uT HP.o T i);obtain⟨u1,u2⟩:=h6.lens (SZ.o i).2.2.2.2.1;have ve:=(eR w6).alloc (.cells #[bF,.s Q1 a1 e1,.s qw qB qC] 35);have BQ:=Hx (eN w6 35 #[bF,.s Q1 a1 e1,.s qw qB qC]);have X6:=Hx ((XB.o.tr x6).tr ve);have R6:=Hx (h6.K ve);have W6:Hid (wr.heap.size<=w6.heap.size):=Hx ((XB.o.tr x6).size);clear h6 x6 ve R1 XB z0 z1 z2 y0 y1 y2
   go_wp2_with fail
   refine(jzke Q1 a1 e1 qw qB qC (aK qs T i) _ R6.o qO qO).mono ?_;rintro e w7 ⟨n7,F1,v1,g1,qU,qQ,qT,rfl,h7,x7⟩;obtain⟨u3,u4⟩:=h7.lens (SZ.o i).2.2.2.2.2.1;have qp:=(eR w7).alloc (.cells #[.bool n7,.s F1 v1 g1,.s qU qQ qT] 35);have BF:=Hx (kQa ((BQ.o.K x7).K qp) (eN w7 35 #[.bool n7,.s F1 v1 g1,.s qU qQ qT]));have X7:=Hx ((X6.o.tr x7).tr qp);have R7:=Hx (kQa ((R6.o.K x7).K qp) (h7.K qp));have W7:Hid (wr.heap.size<=w7.heap.size):=Hx ((X6.o.tr x7).size);clear h7 x7 qp R6 X6 BQ
   go_wp2_with fail
   refine(jzkc n7 F1 v1 g1 qU qQ qT _).mono ?_;rintro e w8 ⟨rfl,x8⟩;have qZ:=Hx (kQa (BF.o.1.K x8) (BF.o.2.K x8));have X8:=Hx (X7.o.tr x8);have R8:=Hx (kQa (R7.o.1.K x8) (R7.o.2.K x8));have N8:=Hx (show aF w8 F1 v1 g1 (flN (aK qs T i)) by
    have:=R8.o.2.2.1;rw[jzqd]at this;exact this)
   clear x8 BF X7 R7;have qz:flN (aK qs T i)<=65536:=(by have:=vo.o;omega);have vV:Hid (flN (aK qs T i)=flN (aK qs T i)):=Hx (rfl)
   go_wp2_with fail
   refine(kK F1 v1 g1 (flN (aK qs T i)) _ N8.o qO).mono ?_;rintro e w9 ⟨rfl,x9⟩;have qW:=Hx (kQa (qZ.o.1.K x9) (qZ.o.2.K x9));have X9:=Hx (X8.o.tr x9);have R9:=Hx (kQa (R8.o.1.K x9) (R8.o.2.K x9));have L9:Hid (sV wB w9 gw gr n qs T i):=Hx (⟨L.o.wt.K X9.o,L.o.rs.K X9.o,L.o.ext.tr X9.o⟩);have vT:=L.o.wt.lt;have q7:=L.o.rs.lt;have v7:w6.heap.size≠gw:=(by have:=W6.o;omega);have v4:w7.heap.size≠gw:=(by have:=W7.o;omega);have zg:w6.heap.size≠gr:=(by have:=W6.o;omega);have zh:w7.heap.size≠gr:=(by have:=W7.o;omega);clear x9 X8 R8 qZ N8 L vT q7 W6 W7;have vJ:i<(eM n (fun j=>flN (aK qs T j)) 0 i).length:=(by rw[nG];exact qf);have cw:=L9.o.wt.cell vJ;have fw:=L9.o.wt.frozen i;obtain⟨F,hF⟩:∃F,F=flN (aK qs T i):=⟨_,rfl⟩;rw[<-hF]at qz;rw[<-hF];obtain⟨zn,qa,_⟩:=L9.o.wt;have LA:=Hx (show aO (w9.setCell (aD gw i) (vI (F:Int))) gw (eM n (fun j=>flN (aK qs T j)) 0 (i+1))/\QB (w9.setCell (aD gw i) (vI (F:Int))) gr (eM n (fP qs T) 0 i)/\Ext wB (w9.setCell (aD gw i) (vI (F:Int)))from⟨by
    rw[jzcd _ _ _ qf, <-hF];exact L9.o.wt.put F vJ,L9.o.rs.other (aM w9 gw i _) qa qD qO,L9.o.ext.sT (p:=(aD gw i)) qx.1 _⟩)
   have RA:=Hx (kQa (R9.o.1.sT (p:=(aD gw i)) qa qD (vI (F:Int))) (R9.o.2.sT (p:=(aD gw i)) qa qD (vI (F:Int))));have BA:=Hx (kQa (qW.o.1.far (p:=(aD gw i)) v7 (vI (F:Int))) (qW.o.2.far (p:=(aD gw i)) v4 (vI (F:Int))));obtain⟨⟨i0,i1,i2⟩,_⟩:=BA.o.1.t3;obtain⟨⟨j0,j1,j2⟩,_⟩:=BA.o.2.t3;have vg:=Hx hF;clear qa L9 R9 qW X9 hF
   go_wp2_with fail
   refine(mX false n7 Q1 a1 e1 qw qB qC F1 v1 g1 qU qQ qT _ _ _ RA.o.1 RA.o.2 qO qO qO qO).mono ?_;rintro e vw ⟨vq,G1,r1,t4,vn,vl,vu,rfl,qI,qt⟩;have qI:aC vw vq G1 r1 t4 vn vl vu (fP qs T i):=qI;have vk:i<(eM n (fP qs T) 0 i).length:=(by rw[nG];exact qf);obtain⟨_,_,_,_,_,_,_,⟨s0,s1,s2⟩,⟨v0,v2,v3⟩,za⟩:=(LA.o.2.1.K qt).at_ (i:=i) (yG vk);clear za;obtain⟨ce,vG,qo⟩:=LA.o.1.K qt;have qh:gw≠gr:=qO;have LB:=Hx (show sV wB (((vw.setCell (aD gr (i*3)) (.bool vq)).setCell (aD gr (i*3+1)) (.s G1 r1 t4)).setCell (aD gr (i*3+2)) (.s vn vl vu)) gw gr n qs T (i+1)from⟨⟨ce,((vG.far (p:=(aD gr (i*3))) qh _).far (p:=(aD gr (i*3+1))) qh _).far (p:=(aD gr (i*3+2))) qh _,qo⟩,by
    rw[jzcd _ _ _ qf];exact(LA.o.2.1.K qt).put vk qI,(((LA.o.2.2.tr qt).sT (p:=(aD gr (i*3))) qx.2 _).sT (p:=(aD gr (i*3+1))) qx.2 _).sT (p:=(aD gr (i*3+2))) qx.2 _⟩)
   have q5:=LB.o.wt.cell (i:=i) (by rw[nG];exact qf);have qA:atL (eM n (fun j=>flN (aK qs T j)) 0 (i+1)) i=F:=by
    unfold atL;rw[uR _ _ _ _ _ qf,qE qO,vg.o];rfl
   rw[qA]at q5;have vU:=Hx (show bI (fun j=>flN (aK qs T j)) (i+1)=M+F by rw[vO.o,vg.o]);clear vG qo qI qt LA RA BA qA vg vO vo vV i0 i1 i2 j0 j1 j2 cw fw;go_wp2
   go_roundg (n-(i+1))
   case measure=>omega
   exact⟨i+1,rfl,qO,by go_num,by rw[vU.o];go_num,LB⟩
  obtain rfl:i=n:=qO;have zi:¬(i:Int)<(i:Int):=qO;have q6:=Hx (show(dR qs T).length=i by unfold dR;rw[xV,kZm];exact HN.o);have vK:=Hx (show QL wr (sA gr) (dR qs T) by
   have:=L.o.rs.ql;rw[jzce]at this;unfold dR;rw[HN.o];exact this)
  have vz:=Hx (show(T:Int)-((bI (fun j=>flN (aK qs T j)) i:Nat):Int)=fF qs T by unfold fF;rw[HN.o]);rw[vz.o]
  go_wp2_with fail
  refine(jzb3 (sA gr) i i (dR qs T) q6.o h0 qO _ vK.o (fun q hq=>by
   unfold dR at hq;obtain⟨j,_,rfl⟩:=kQl.1 hq;exact(SZ.o j).2.2.2.2.2.2.mono qD)).mono ?_
  rintro e q9 ⟨g,c',l,rfl,qy,vx,qe,qn,hg,va⟩;have RK:=Hx (uP q6.o vx qe qn);have M0:=Hx (show aO q9 gw (cG (dR qs T) i (fF qs T) (fun j=>flN (aK qs T j)+1) (fun j=>flN (aK qs T j)) 0)/\aO q9 g l/\Ext wB q9 from⟨by
   rw[jzb6, <-jzce i (fun j=>flN (aK qs T j)) 0];exact L.o.wt.K va,qy,L.o.ext.tr va⟩)
  have zc:gw<g:=(by have:=L.o.wt.lt;omega);have vp:=Hx (show(List.range i).map (iR qs T)=cG (dR qs T) i (fF qs T) (fun j=>flN (aK qs T j)+1) (fun j=>flN (aK qs T j)) i by rw[jzb8 RK.o];rfl);clear qy vx qe qn hg va L vK vz q6 v6;generalize fF qs T=MQ at*;go_wp2
  go_loopg [17,18,84] i (fun q _ _ it wr=>∃p:Nat,i-p=q/\p<=i/\it=vI p/\Hid (aO wr gw (cG (dR qs T) i MQ (fun j=>flN (aK qs T j)+1) (fun j=>flN (aK qs T j)) p)/\aO wr g l/\Ext wB wr))
  case atStart=>exact⟨0,rfl,yZ _,rfl,M0⟩
  obtain⟨p,rfl,zo,rfl,K⟩:=hrel;clear M0;by_cases qM:p<i
  ·have pN:(p:Int)<(i:Int):=by omega
   have c1:=K.o.2.1.cell (i:=p) (by rw[RK.o.len];exact qM);have q8:=RK.o.lt p qM;have vd:=RK.o.rank p qM;have NX:=Hx (jzb7 RK.o MQ (fun j=>flN (aK qs T j)+1) (fun j=>flN (aK qs T j)) qM);generalize hx:atL l p=x at*;clear hx;have xN:(x:Int)<(i:Int):=qO;by_cases vH:(p:Int)<MQ
   ·have q0:x<(cG (dR qs T) i MQ (fun j=>flN (aK qs T j)+1) (fun j=>flN (aK qs T j)) p).length:=by rw[rO];exact q8
    have c2:=K.o.1.cell q0;have f2:=K.o.1.frozen x;have qA:atL (cG (dR qs T) i MQ (fun j=>flN (aK qs T j)+1) (fun j=>flN (aK qs T j)) p) x=flN (aK qs T x):=by
     unfold atL;rw[rP _ _ _ _ _ _ _ q8,vd,qF qO];rfl
    rw[qA]at c2;have qz:flN (aK qs T x)<=65536:=by
     have:=uU HP.o T (show x<qs.length by rw[HN.o];exact q8);omega
    have qi:=K.o.1.put (flN (aK qs T x)+1) q0;rw[show((flN (aK qs T x)+1:Nat):Int)=(flN (aK qs T x):Int)+1 by omega]at qi;obtain⟨cn,vj,qk⟩:=K.o.2.1;have vi:g≠gw:=qO;have v8:Hid (aO (wr.setCell (aD gw x) (vI ((flN (aK qs T x):Int)+1))) gw (cG (dR qs T) i MQ (fun j=>flN (aK qs T j)+1) (fun j=>flN (aK qs T j)) (p+1))/\aO (wr.setCell (aD gw x) (vI ((flN (aK qs T x):Int)+1))) g l/\Ext wB (wr.setCell (aD gw x) (vI ((flN (aK qs T x):Int)+1)))):=Hx (⟨by rw[NX.o,qE vH];exact qi,⟨cn,vj.far (p:=(aD gw x)) vi _,qk⟩,K.o.2.2.sT (p:=(aD gw x)) qx.1 _⟩);clear qi vj qk K NX q0 vi qA vd;generalize flN (aK qs T x)=F at*;go_wp2
    go_roundg (i-(p+1))
    case measure=>omega
    exact⟨p+1,rfl,qO,by go_num,v8⟩
   have v5:=Hx (show cG (dR qs T) i MQ (fun j=>flN (aK qs T j)+1) (fun j=>flN (aK qs T j)) (p+1)=cG (dR qs T) i MQ (fun j=>flN (aK qs T j)+1) (fun j=>flN (aK qs T j)) p by rw[NX.o,qF vH]);clear NX vd;go_wp2
   go_roundg (i-(p+1))
   case measure=>omega
   exact⟨p+1,rfl,qO,by go_num,Hx (by rw[v5.o];exact K.o)⟩
  obtain rfl:p=i:=qO;have zj:¬(p:Int)<(p:Int):=qO;have F:Hid (RdT wr 3 (sA gw) (ints ((List.range p).map (iR qs T)))/\Ext w wr):=Hx (⟨by rw[vp.o];exact K.o.1.rdT,E4.o.tr K.o.2.2⟩);clear K vp;go_wp2;exact bodyPost_ret (v:=.tuple #[.s (sA gw) p p,vI 0]) (by simp[results,results66,go_sem]) rfl (⟨(sA gw),p,qS,qS,F.o.1,F.o.2⟩)
 have HF:=Hx (show R=([],1) by
  rw[<-HR.o];unfold gX;by_cases h1:1<=total
  ·rw[yP (show¬total<=65536 by omega)];simp
  rw[yP h1];simp)
 obtain rfl:=HF.o;clear hp;by_cases h1:total<1
 ·have t3:decide (total<1)=true:=by simp;omega
  go_wp2;exact bodyPost_ret (v:=.tuple #[zN,vI 1]) (by simp[results,results66,go_sem]) rfl (⟨none,0,rfl,yX _,RdT.nil _ _ _,E1.o⟩)
 have t3:decide (total<1)=false:=(by simp;omega);have t4:(65536:Int)<total:=qO;go_wp2;exact bodyPost_ret (v:=.tuple #[zN,vI 1]) (by simp[results,results66,go_sem]) rfl (⟨none,0,rfl,yX _,RdT.nil _ _ _,E1.o⟩)
def eO(qs:LQ)(ws:List Int)(T:Int)(i:Nat):Rat:=ofQ (ws[i]?.getD 0) T-(qs[i]?.getD 0)/aZ qs
def kG(d:Rat):Rat:=if aE d<0 then-d else d
def fC(qs:LQ)(ws:List Int)(T:Int):Nat->Rat
 |0=>0
 |i+1=>if 0<aU (kG (eO qs ws T i)) (fC qs ws T i)then kG (eO qs ws T i)else fC qs ws T i
def okW(x:Int):Bool:=decide (0<=x)&&decide (x<=65536)
def cB:List Int->Int
 | []=>0
 |a::l=>a+cB l
theorem jzqe(l m:List Int):cB (l++m)=cB l+cB m:=by
 (induction l with|nil=>simp[cB]|cons a l ih=>show a+cB (l++m)=a+cB l+cB m;rw[ih];omega)
theorem jzqf(l:List Int)(i:Nat)(x:Int)(h:l[i]?=some x):cB (l.take (i+1))=cB (l.take i)+x:=by
 rw[kQr,h,jzqe];simp[cB]
theorem jzf8:∀(l:List Int),l.all okW=true->0<=cB l/\cB l<=l.length*65536
 | [],_=>by simp[cB]
 |a::l,h=>by
  rw[List.all_cons,vM]at h;have:=jzf8 l h.2;have h1:=h.1;unfold okW at h1;simp at h1;show 0<=a+cB l/\a+cB l<=((l.length+1:Nat):Int)*65536;omega
def lL(qs:LQ)(ws:List Int):Rat×Int:=if bX qs&&(decide (ws.length=qs.length)&&(ws.all okW&&(decide (1<=cB ws)&&decide (cB ws<=65536))))then(fC qs ws (cB ws) qs.length,0)else(0,1)
theorem jzqg{x y:Int}(h1:x.natAbs<=65536)(h2:y.natAbs<=65536)(h3:y≠0):SzQ (ofQ x y) 1:=by
 unfold ofQ;refine SzQ.mkQ_ qO ?_ ?_;{rw[Nat.pow_one,aL];omega};rw[Nat.pow_one,aL];omega
theorem jzf9{qs:LQ}{ws:List Int}(h:bX qs=true)(hsz:∀q∈qs,SzQ q 100){T:Int}(hT:1<=T/\T<=65536)(hw:∀x∈ws,okW x=true)(i:Nat):SzQ (ofQ (ws[i]?.getD 0) T) 1/\SzQ ((qs[i]?.getD 0)/aZ qs) 6565/\SzQ (eO qs ws T i) 6567/\SzQ (kG (eO qs ws T i)) 6567:=by
 obtain⟨_,s2,_,s4,_⟩:=sizes h hsz (T:=1) qD i;have h0:aZ qs≠0:=fun e=>(by have:=(mA h).2;rw[e]at this;exact kZf this);have hx:(ws[i]?.getD 0).natAbs<=65536:=(by (cases hq:ws[i]? with|none=>simp|some x=>have:=hw x (yJ hq);unfold okW at this;simp at this;simp only[kQ1];omega));have s5:=jzqg hx (show T.natAbs<=65536 by omega) qO;have s6:SzQ ((qs[i]?.getD 0)/aZ qs) 6565:=(s4.div s2 h0).mono qD;have s7:SzQ (eO qs ws T i) 6567:=(s5.sub s6).mono qD;refine⟨s5,s6,s7,?_⟩;unfold kG;split;{exact s7.neg_};exact s7
theorem jzga{qs:LQ}{ws:List Int}(h:bX qs=true)(hsz:∀q∈qs,SzQ q 100){T:Int}(hT:1<=T/\T<=65536)(hw:∀x∈ws,okW x=true):∀i,SzQ (fC qs ws T i) 6567
 |0=>SzQ.zero.mono qD
 |i+1=>by
  unfold fC
  split
  ·exact(jzf9 h hsz hT hw i).2.2.2
  ·exact jzga h hsz hT hw i
def jzgb(w:World)(r:Rat×Int)(e:Ending)(w':World):Prop:=
 ∃(neg:Bool) (A:OA) (n c:Nat) (A':OA) (n' c':Nat),e=.returned (.tuple #[.agg #[.bool neg,.s A n c,.s A' n' c'],vI r.2])/\aC w' neg A n c A' n' c' r.1/\Ext w w'
theorem jzqh{f:Int->Bool}{l:List Int}{i:Nat}{x:Int}(h:l[i]?=some x):(l.take (i+1)).all f=((l.take i).all f&&f x):=by
 rw[kQr,h,List.all_append];simp
theorem jzqi P(n c:Nat)(qs:LQ)(hn:qs.length=n)(hn2:n<=1000000)V(m cv:Nat)(ws:List Int)(hm:ws.length=m)w(hq:QL w P qs)(hsz:∀q∈qs,SzQ q 100)(hv:Rd w V (fR ws)):
  Calls prog 67 #[.s P n c,.s V m cv] w (jzgb w (lL qs ws)):=by
 obtain⟨b0,e0⟩:=bB w rV 35;have HQ:=Hx (hq.K e0);have HV:=Hx (hv.K e0);have HN:=Hx hn;have HM:=Hx hm;have HS:=Hx hsz;have BB:=Hx b0;have E0:=Hx e0;generalize hR:lL qs ws=R;have HR:=Hx hR;clear hq hn hsz hR hv hm b0 e0;go_enter func67,ntmps67;go_wp2_with fail;refine(uO P n c qs HN.o hn2 _ HQ.o).mono ?_;rintro e w1 ⟨rfl,x1⟩;have E1:=Hx (E0.o.tr x1);have B1:=Hx (BB.o.K x1);have qh:Hid (∀W,Ext w W->Blk W w.heap.size 35 rV->aC (((W.setCell (aD w.heap.size 0) bF).setCell (aD w.heap.size 1) zN).setCell (aD w.heap.size 2) zN) false none 0 0 none 0 0 0/\Ext w (((W.setCell (aD w.heap.size 0) bF).setCell (aD w.heap.size 1) zN).setCell (aD w.heap.size 2) zN)):=Hx (fun W hx hb=>dM (w:=w) (fD W) hb (yX _) hx);have X1:=Hx x1;clear x1 E0 BB;cases hp:bX qs;(case false=>have HF:=Hx (show R=(0,1) by rw[<-HR.o];unfold lL;rw[hp];rfl);obtain rfl:=HF.o;have qg:=B1.o;obtain⟨⟨k0,k1,k2⟩,f0,f1,f2⟩:=qg.t3;clear hp;go_wp2;exact bodyPost_ret (v:=.tuple #[.agg rV,vI 1]) (by simp[results,results67,go_sem,(((qg.sT 0 _).sT 1 _).sT 2 _).cell]) rfl ⟨_,_,_,_,_,_,_,rfl,(qh.o _ E1.o B1.o).1,(qh.o _ E1.o B1.o).2⟩);by_cases qQ:m=n;{obtain rfl:=qQ.symm;have vu:n<=64:=(by have:=(lZ hp).2;rw[HN.o]at this;exact this);have h0:0<n:=(by have:=(lZ hp).1;rw[HN.o]at this;exact this);have vg:((n:Int) !=(n:Int))=false:=qS;have HP:=Hx hp;have qg:=B1.o;obtain⟨⟨k0,k1,k2⟩,f0,f1,f2⟩:=qg.t3;clear hp qQ;go_wp2;go_loopg [6,8,31] n (fun q tt _ it wr=>∃i:Nat,n-i=q/\i<=n/\it=vI i/\tt=vI (cB (ws.take i))/\Hid ((ws.take i).all okW=true)/\w1=wr);exact⟨0,rfl,yZ _,rfl,rfl,Hx rfl,rfl⟩;obtain⟨i,rfl,hi,rfl,rfl,AL,rfl⟩:=hrel;have q8:=jzf8 _ AL.o;rw[xF]at q8;have q9:0<=cB (ws.take i)/\cB (ws.take i)<=4194304:=qO;clear q8;by_cases vm:i<n;{obtain⟨x,hx⟩:∃x,ws[i]?=some x:=⟨_,yG (by rw[HM.o];exact vm)⟩;obtain⟨bp,op,rfl,qU,qn⟩:=HV.o.iint hx;have kx:=(X1.o.cell (p:=(aD bp (op+i))) qU).trans qn;have SN:=Hx (jzqf ws i x hx);have AN:=Hx (jzqh (f:=okW) hx);have vn:=Hx (yJ hx);have iN:(i:Int)<(n:Int):=qO;generalize cB (ws.take i)=tot at*;clear hx qn;by_cases q7:0<=x/\x<=65536;{(have t1:decide (x<0)=false:=by simp;omega);have t2:¬(65536:Int)<x:=qO;have AK:=Hx (show(ws.take (i+1)).all okW=true by rw[AN.o,AL.o];unfold okW;simp;exact q7);obtain⟨vp,vH⟩:=q7;go_wp2;go_roundg (n-(i+1));exact⟨i+1,rfl,qO,by go_num,by rw[SN.o],AK,rfl⟩;omega};have HF:=Hx (show R=(0,1) by rw[<-HR.o];unfold lL;have:ws.all okW=false:=(by rw[List.all_eq_false];exact⟨x,vn.o,by unfold okW;simp;omega⟩);rw[this];simp);obtain rfl:=HF.o;by_cases vh:x<0;{(have t1:decide (x<0)=true:=by simp;omega);go_wp2;exact bodyPost_ret (v:=.tuple #[.agg rV,vI 1]) (by simp[results,results67,go_sem,(((qg.sT 0 _).sT 1 _).sT 2 _).cell]) rfl ⟨_,_,_,_,_,_,_,rfl,(qh.o _ E1.o B1.o).1,(qh.o _ E1.o B1.o).2⟩};have t1:decide (x<0)=false:=(by simp;omega);have t2:(65536:Int)<x:=qO;go_wp2;exact bodyPost_ret (v:=.tuple #[.agg rV,vI 1]) (by simp[results,results67,go_sem,(((qg.sT 0 _).sT 1 _).sT 2 _).cell]) rfl ⟨_,_,_,_,_,_,_,rfl,(qh.o _ E1.o B1.o).1,(qh.o _ E1.o B1.o).2⟩};obtain rfl:i=n:=qO;have vq:¬(i:Int)<(i:Int):=qO;have ve:ws.take i=ws:=yU (by rw[HM.o];omega);rw[ve]at q9 AL⊢;clear ve;by_cases qy:1<=cB ws/\cB ws<=65536;{have HF:=Hx (show R=(fC qs ws (cB ws) i,0) by rw[<-HR.o];unfold lL;rw[HP.o,HM.o,HN.o,AL.o,yO qy.1,yO qy.2];simp);obtain rfl:=HF.o;have qH:Hid (∀x∈ws,okW x=true):=Hx (xW.1 AL.o);have SZ:=Hx (jzf9 HP.o HS.o qy qH.o);have WZ:=Hx (jzga HP.o HS.o qy qH.o);have vk:Hid (aZ qs≠0):=Hx (fun e=>by have:=(mA HP.o).2;rw[e]at this;exact kZf this);have SS:=Hx (sizes HP.o HS.o (T:=1) qD);generalize cB ws=T at*;have t1:decide (T<1)=false:=(by simp;omega);have t2:¬(65536:Int)<T:=qO;clear q9 AL HR k0 k1 k2 f0 f1 f2 qg;go_wp2_with fail;refine(jzbu P i c qs HN.o h0 hn2 6464 qD (SS.o 0).1 _ (HQ.o.K X1.o)).mono ?_;rintro e w2 ⟨n9,A9,l9,c9,qA,qB,qx,rfl,h9,x2⟩;obtain⟨p9,vF⟩:=h9.lens (SS.o 0).2.1;have xb:=(eR w2).alloc (.cells #[.bool n9,.s A9 l9 c9,.s qA qB qx] 35);have EB:=Hx ((X1.o.tr x2).tr xb);have EW:=Hx ((E1.o.tr x2).tr xb);have B9:=Hx (kQa (eN w2 35 #[.bool n9,.s A9 l9 c9,.s qA qB qx]) ((B1.o.K x2).K xb));have R9:=Hx (h9.K xb);obtain⟨wB,qm⟩:∃wB,wB=w2.alloc (.cells #[.bool n9,.s A9 l9 c9,.s qA qB qx] 35):=⟨_,rfl⟩;have qk:wB.heap.size=w2.heap.size+1:=(by rw[qm];simp);rw[<-qm]at EB EW B9 R9;have L0:Hid (Blk (wB.alloc (.cells rV 35)) (w2.heap.size+1) 35 rV/\aC (wB.alloc (.cells rV 35)) false none 0 0 none 0 0 (fC qs ws T 0)/\Ext wB (wB.alloc (.cells rV 35))):=Hx (⟨by have:=eN wB 35 rV;rw[qk]at this;exact this,fD _,(eR wB).alloc _⟩);have vd:=Hx qk;clear h9 x2 xb qk;rw[qm]at L0;go_wp2;rw[<-qm];rw[<-qm]at L0;clear qm X1 E1 B1;generalize wB.alloc (.cells rV 35)=w3 at*;generalize w2.heap.size=g9 at*;generalize hg10:g9+1=g10 at*;have vj:g9<g10/\wB.heap.size<=g10:=(by have:=vd.o;omega);clear hg10 vd;go_loopg [11,12,13,14,15,16,17,57] i (fun q _ _ _ _ _ _ _ it wr=>∃(j:Nat) (ng:Bool) (A:OA) (l d:Nat) (A':OA) (l' d':Nat),i-j=q/\j<=i/\it=vI j/\Hid (Blk wr g10 35 #[.bool ng,.s A l d,.s A' l' d']/\aC wr ng A l d A' l' d' (fC qs ws T j)/\Ext wB wr));exact⟨0,false,none,0,0,none,0,0,rfl,yZ _,rfl,L0⟩;obtain⟨j,ng,A,l,d,A',l',d',rfl,hj,rfl,L⟩:=hrel;clear L0;by_cases vc:j<i;{obtain⟨x,hx⟩:∃x,ws[j]?=some x:=⟨_,yG (by rw[HM.o];exact vc)⟩;obtain⟨bp,op,vl,qU,qn⟩:=HV.o.iint hx;subst vl;obtain⟨b1,o1,n1,X1,m1,f1,qJ,qW,q1,vi,vJ,y0,y1,y2,qI⟩:=(HQ.o.K (EB.o.tr L.o.2.2)).at_ (nA (K:=qs) (i:=j) (by rw[HN.o];exact vc));subst vi;have qz:=(eR wr).alloc (.cells #[.bool n1,.s X1 m1 f1,.s qJ qW q1] 35);have kx:=(((EB.o.tr L.o.2.2).tr qz).cell (p:=(aD bp (op+j))) qU).trans qn;have vt:0<=x/\x<=65536:=(by have:=qH.o x (yJ hx);unfold okW at this;simpa using this);have HX:=Hx (show ws[j]?.getD 0=x by rw[hx];rfl);have va:=Hx qz;have BX:=Hx (eN wr 35 #[.bool n1,.s X1 m1 f1,.s qJ qW q1]);have R1:=Hx (qI.K qz);obtain⟨p1,vG⟩:=qI.lens (SS.o j).2.2.2.1;have jN:(j:Int)<(i:Int):=qO;have WN:Hid (fC qs ws T (j+1)=if 0<aU (kG (eO qs ws T j)) (fC qs ws T j)then kG (eO qs ws T j)else fC qs ws T j):=Hx (rfl);clear hx qn qI qz;go_wp2_with fail;refine(jzas x T _ qO qO qO qO qO).mono ?_;rintro e w4 ⟨n4,O1,a1,e1,qC,qX,q6,rfl,h4,x4⟩;obtain⟨u4,vz⟩:=h4.lens (by have:=(SZ.o j).1;rw[HX.o]at this;exact this);have qt:=(eR w4).alloc (.cells #[.bool n4,.s O1 a1 e1,.s qC qX q6] 35);have X4:=Hx ((va.o.tr x4).tr qt);have B4:=Hx (kQa ((BX.o.K x4).K qt) (kQa (eN w4 35 #[.bool n4,.s O1 a1 e1,.s qC qX q6]) ((B9.o.1.K L.o.2.2).K X4.o)));have R4:=Hx (kQa ((R1.o.K x4).K qt) (kQa (h4.K qt) ((R9.o.K L.o.2.2).K X4.o)));clear h4 x4 qt R1 BX va kx y0 y1 y2;obtain⟨⟨i0,i1,i2⟩,_⟩:=B4.o.1.t3;obtain⟨⟨j0,j1,j2⟩,_⟩:=B4.o.2.2.t3;go_wp2_with fail;refine(lB n1 n9 X1 m1 f1 qJ qW q1 A9 l9 c9 qA qB qx _ (aZ qs) _ R4.o.1 R4.o.2.2 vk.o qO qO qO qO).mono ?_;rintro e w5 ⟨n5,D1,r1,t4,qZ,qM,qV,rfl,h5,x5⟩;obtain⟨u5,vw⟩:=h5.lens (SZ.o j).2.1;have qp:=(eR w5).alloc (.cells #[.bool n5,.s D1 r1 t4,.s qZ qM qV] 35);have X5:=Hx ((X4.o.tr x5).tr qp);have B5:=Hx (kQa ((B4.o.2.1.K x5).K qp) (eN w5 35 #[.bool n5,.s D1 r1 t4,.s qZ qM qV]));have R5:=Hx (kQa ((R4.o.2.1.K x5).K qp) (h5.K qp));clear h5 x5 qp R4 B4 X4 i0 i1 i2 j0 j1 j2;obtain⟨⟨i0,i1,i2⟩,_⟩:=B5.o.1.t3;obtain⟨⟨j0,j1,j2⟩,_⟩:=B5.o.2.t3;go_wp2_with fail;refine(mX n4 n5 O1 a1 e1 qC qX q6 D1 r1 t4 qZ qM qV _ _ _ R5.o.1 R5.o.2 qO qO qO qO).mono ?_;rintro e w6 ⟨n6,F1,v1,g1,qf,qa,qe,rfl,h6,x6⟩;have h6:aC w6 n6 F1 v1 g1 qf qa qe (eO qs ws T j):=(by unfold eO;rw[HX.o];exact h6);obtain⟨u6,vo⟩:=h6.lens (SZ.o j).2.2.1;obtain⟨uw,vx⟩:=L.o.2.1.lens (WZ.o j);have qY:=(eR w6).alloc (.cells #[.bool n6,.s F1 v1 g1,.s qf qa qe] 35);have X6:=Hx ((X5.o.tr x6).tr qY);have q0:Hid (wr.heap.size<=w6.heap.size):=Hx ((X5.o.tr x6).size);have S6:=Hx (kQa (eN w6 35 #[.bool n6,.s F1 v1 g1,.s qf qa qe]) (h6.K qY));clear h6 x6 qY R5 B5 X5 i0 i1 i2 j0 j1 j2 HX;go_wp2_with fail;refine(bW n6 F1 v1 g1 qf qa qe (eO qs ws T j) _ S6.o.2).mono ?_;rintro e w7 ⟨rfl,x7⟩;have S7:=Hx (kQa (S6.o.1.K x7) (S6.o.2.K x7));have L7:Hid (Blk w7 g10 35 #[.bool ng,.s A l d,.s A' l' d']/\aC w7 ng A l d A' l' d' (fC qs ws T j)/\Ext wB w7):=Hx (⟨(L.o.1.K X6.o).K x7,(L.o.2.1.K X6.o).K x7,(L.o.2.2.tr X6.o).tr x7⟩);have qo:=L.o.1.lt;have qi:g10≠w6.heap.size:=(by have:=q0.o;omega);have qT:wB.heap.size<=w6.heap.size:=(by have h1:=q0.o;have h2:=L.o.2.2.size;omega);clear x7 S6 X6 L qo q0;have AB:Hid (∀b,decide (aE (eO qs ws T j)<0)=b->kG (eO qs ws T j)=if b then-(eO qs ws T j)else eO qs ws T j):=Hx (fun b hb=>by unfold kG;cases b;{rw[qF (of_decide_eq_false hb)];rfl};rw[qE (of_decide_eq_true hb)];rfl);have AZ:=Hx (SZ.o j).2.2.2;(go_upto_if 82 with(fail));go_cut [84] (fun _ wx=>∃(nb:Bool),Blk wx w6.heap.size 35 #[.bool nb,.s F1 v1 g1,.s qf qa qe]/\aC wx nb F1 v1 g1 qf qa qe (kG (eO qs ws T j))/\Blk wx g10 35 #[.bool ng,.s A l d,.s A' l' d']/\aC wx ng A l d A' l' d' (fC qs ws T j)/\Ext wB wx);(case first=>generalize hdd:eO qs ws T j=dd at*;clear hdd;cases hs:decide (aE dd<0);(case true=>have HA:=Hx (AB.o true hs);obtain⟨⟨i0,i1,i2⟩,f0,f1,f2⟩:=S7.o.1.t3;generalize aE dd=sg at*;clear AB;go_wp2_with fail;refine(jzbt n6 F1 v1 g1 qf qa qe dd _ S7.o.2).mono ?_;rintro e w8 ⟨nb,rfl,h8,x8⟩;have qw:=S7.o.1.K x8;obtain⟨⟨i0,i1,i2⟩,f0,f1,f2⟩:=qw.t3;obtain⟨r1,r2⟩:=dM (w:=wB) h8 qw qT (L7.o.2.2.tr x8);have q3:=((qw.sT 0 (.bool nb)).sT 1 (.s F1 v1 g1)).sT 2 (.s qf qa qe);have q4:=(((L7.o.1.K x8).far (p:=(aD w6.heap.size 0)) qi (.bool nb)).far (p:=(aD w6.heap.size 1)) qi (.s F1 v1 g1)).far (p:=(aD w6.heap.size 2)) qi (.s qf qa qe);have q5:=(L7.o.2.1.K x8).other (jzbr w8 w6.heap.size (.bool nb) (.s F1 v1 g1) (.s qf qa qe)) qw qD;have FF:=Hx (kQa q3 (kQa r1 (kQa q4 (kQa q5 r2))));clear q3 q4 q5 r1 r2 h8 x8 qw S7 L7;go_wp2;go_meet;exact⟨nb,FF.o.1,by rw[HA.o];exact FF.o.2.1,FF.o.2.2.1,FF.o.2.2.2.1,FF.o.2.2.2.2⟩);have HA:=Hx (AB.o false hs);generalize aE dd=sg at*;clear AB;go_wp2;go_meet;exact⟨n6,S7.o.1,by rw[HA.o];exact S7.o.2,L7.o.1,L7.o.2.1,L7.o.2.2⟩);obtain⟨nb,c1,c2,c3,c4,c5⟩:=hcut;obtain⟨⟨i0,i1,i2⟩,_⟩:=c1.t3;obtain⟨⟨j0,j1,j2⟩,v0,v2,v3⟩:=c3.t3;have CC:=Hx (kQa c1 (kQa c2 (kQa c3 (kQa c4 c5))));obtain⟨ua,vK⟩:=c2.lens AZ.o;generalize hdd:kG (eO qs ws T j)=dd at*;generalize hww:fC qs ws T j=ww at*;clear c1 c2 c3 c4 c5 S7 L7 AB AZ hdd hww;go_wp2_with fail;refine(fM nb ng F1 v1 g1 qf qa qe A l d A' l' d' dd ww _ CC.o.2.1 CC.o.2.2.2.1 qO qO qO qO).mono ?_;rintro e w9 ⟨rfl,x9⟩;have D9:=Hx (kQa (CC.o.1.K x9) (kQa (CC.o.2.1.K x9) (kQa (CC.o.2.2.1.K x9) (kQa (CC.o.2.2.2.1.K x9) (CC.o.2.2.2.2.tr x9)))));clear x9 CC i0 i1 i2 j0 j1 j2 v0 v2 v3;obtain⟨⟨i0,i1,i2⟩,_⟩:=D9.o.1.t3;have qj:=D9.o.2.2.1;obtain⟨⟨j0,j1,j2⟩,v0,v2,v3⟩:=qj.t3;by_cases hc:0<aU dd ww;{have HW:=Hx (show fC qs ws T (j+1)=dd by rw[WN.o,qE hc]);obtain⟨r1,r2⟩:=dM (w:=wB) D9.o.2.1 qj vj.2 D9.o.2.2.2.2;have q3:=((qj.sT 0 (.bool nb)).sT 1 (.s F1 v1 g1)).sT 2 (.s qf qa qe);have FF:=Hx (kQa q3 (kQa r1 r2));clear q3 r1 r2 D9 qj WN;generalize aU dd ww=cc at*;go_wp2;go_roundg (i-(j+1));exact⟨j+1,nb,F1,v1,g1,qf,qa,qe,rfl,qO,by go_num,Hx ⟨FF.o.1,by rw[HW.o];exact FF.o.2.1,FF.o.2.2⟩⟩;omega};have HW:=Hx (show fC qs ws T (j+1)=ww by rw[WN.o,qF hc]);clear WN;generalize aU dd ww=cc at*;go_wp2;go_roundg (i-(j+1));exact⟨j+1,ng,A,l,d,A',l',d',rfl,qO,by go_num,Hx ⟨D9.o.2.2.1,by rw[HW.o];exact D9.o.2.2.2.1,D9.o.2.2.2.2⟩⟩;omega};obtain rfl:j=i:=qO;have vy:¬(j:Int)<(j:Int):=qO;obtain⟨⟨z0,z1,z2⟩,_⟩:=L.o.1.t3;have q2:=B9.o.2.K L.o.2.2;obtain⟨⟨k0,k1,k2⟩,f0,f1,f2⟩:=q2.t3;have F:=Hx (dM (w:=w) L.o.2.1 q2 (yX _) (EW.o.tr L.o.2.2));clear L;go_wp2;exact bodyPost_ret (v:=.tuple #[.agg #[.bool ng,.s A l d,.s A' l' d'],vI 0]) (by simp[results,results67,go_sem,(((q2.sT 0 _).sT 1 _).sT 2 _).cell]) rfl ⟨_,_,_,_,_,_,_,rfl,F.o.1,F.o.2⟩};have HF:=Hx (show R=(0,1) by rw[<-HR.o];unfold lL;by_cases h1:1<=cB ws;{rw[yP (show¬cB ws<=65536 by omega)];simp};rw[yP h1];simp);obtain rfl:=HF.o;generalize cB ws=T at*;by_cases vh:T<1;{(have t1:decide (T<1)=true:=by simp;omega);go_wp2;exact bodyPost_ret (v:=.tuple #[.agg rV,vI 1]) (by simp[results,results67,go_sem,(((qg.sT 0 _).sT 1 _).sT 2 _).cell]) rfl ⟨_,_,_,_,_,_,_,rfl,(qh.o _ E1.o B1.o).1,(qh.o _ E1.o B1.o).2⟩};have t1:decide (T<1)=false:=(by simp;omega);have t2:(65536:Int)<T:=qO;go_wp2;exact bodyPost_ret (v:=.tuple #[.agg rV,vI 1]) (by simp[results,results67,go_sem,(((qg.sT 0 _).sT 1 _).sT 2 _).cell]) rfl ⟨_,_,_,_,_,_,_,rfl,(qh.o _ E1.o B1.o).1,(qh.o _ E1.o B1.o).2⟩};have vg:((m:Int) !=(n:Int))=true:=(by simp;omega);have HF:=Hx (show R=(0,1) by rw[<-HR.o];unfold lL;rw[HM.o,HN.o,yP qQ];simp);obtain rfl:=HF.o;have qg:=B1.o;obtain⟨⟨k0,k1,k2⟩,f0,f1,f2⟩:=qg.t3;clear hp;go_wp2;exact bodyPost_ret (v:=.tuple #[.agg rV,vI 1]) (by simp[results,results67,go_sem,(((qg.sT 0 _).sT 1 _).sT 2 _).cell]) rfl ⟨_,_,_,_,_,_,_,rfl,(qh.o _ E1.o B1.o).1,(qh.o _ E1.o B1.o).2⟩
theorem jzgc{bf:Nat->Nat->Bool}{x y:Nat}(h:x≠y):ltB bf x y\/ltB bf y x:=by
 unfold ltB;cases e1:bf x y;{cases e2:bf y x;{(rcases Nat.lt_or_gt_of_ne h with h2|h2);{exact .inl (.inr ⟨rfl,h2⟩)};exact .inr (.inr ⟨rfl,h2⟩)};exact .inr (.inl rfl)};exact .inl (.inl rfl)
theorem jzgd(qs:LQ):∃l:LN,l.Perm (List.range qs.length)/\Srt (bfV (cvQ qs)) 0 qs.length l/\RkS qs qs.length l:=by
 have o:=uN qs;obtain⟨le,qe⟩:∃le:Nat->Nat->Bool,le=fun a b=>decide (¬ltB (bfV (cvQ qs)) b a):=⟨_,rfl⟩;have hp:=List.mergeSort_perm (List.range qs.length) le;have hs:=List.pairwise_mergeSort (le:=le) (fun a b c h1 h2=>by
  rw[qe]at*;simp only[decide_eq_true_eq]at*;intro h3;by_cases e:a=b;{subst e;exact h2 h3}
  ·(rcases jzgc (bf:=bfV (cvQ qs)) e with h4|h4);{exact h2 (lC o h3 h4)}
   exact h1 h4) (fun a b=>by
  rw[qe];simp only[Bool.or_eq_true,decide_eq_true_eq];by_cases h1:ltB (bfV (cvQ qs)) b a;{right;intro h2;exact uL o _ (lC o h1 h2)}
  exact .inl h1) (List.range qs.length)
 obtain⟨l,hl⟩:∃l,l=(List.range qs.length).mergeSort le:=⟨_,rfl⟩;rw[<-hl]at hp hs;have qf:l.length=qs.length:=(by rw[hp.length_eq];simp);have qg:l.Nodup:=hp.nodup_iff.2 List.nodup_range;have qa:Srt (bfV (cvQ qs)) 0 qs.length l:=fun i j _ h2 h3=>(by (have h4:=List.pairwise_iff_getElem.1 hs i j qO qO h2;rw[qe]at h4;simp only[decide_eq_true_eq]at h4;have h5:=List.pairwise_iff_getElem.1 qg i j qO qO h2;have e1:atL l i=l[i]:=(by unfold atL;rw[yG qO];rfl);have e2:atL l j=l[j]:=(by unfold atL;rw[yG qO];rfl);rw[e1,e2];rcases jzgc (bf:=bfV (cvQ qs)) h5 with h6|h6);{exact h6};exact absurd h6 h4);exact⟨l,hp,qa,uP rfl qf hp qa⟩
theorem jzge(M:Int)(h0:0<=M):∀n:Nat,((List.range n).countP (fun p:Nat=>decide ((p:Int)<M)):Int)=if M<=(n:Int)then M else(n:Int)
 |0=>by
  simp;omega
 |n+1=>by
  have e:([n]:LN).countP (fun p:Nat=>decide ((p:Int)<M))=if(n:Int)<M then 1 else 0:=by simp[List.countP_cons]
  rw[kZc,List.countP_append,kZv,jzge M h0 n,e];by_cases h1:M<=(n:Int)
  ·rw[qE h1,qF (show¬(n:Int)<M by omega),qE (show M<=((n+1:Nat):Int) by omega)];simp
  ·rw[qF h1,qE (show(n:Int)<M by omega)]
   by_cases h2:M<=((n+1:Nat):Int)
   ·rw[qE h2];omega
   ·rw[qF h2];omega
theorem jzgf(qs:LQ)(M:Int)(h0:0<=M)(hn:M<=qs.length):((List.range qs.length).countP (fun i=>decide ((cF qs i:Int)<M)):Int)=M:=by
 obtain⟨l,hp,_,hr⟩:=jzgd qs;rw[<-hp.countP_eq];have e:l=(List.range qs.length).map (atL l):=(by apply uK;intro i;by_cases hi:i<qs.length;{rw[yW,xJ hi,lX (by rw[hr.len];exact hi)];rfl};rw[yI (by rw[hr.len];omega),yI (by simp;omega)]);rw[e,List.countP_map];have e2:(List.range qs.length).countP ((fun i=>decide ((cF qs i:Int)<M)) ∘ atL l)=(List.range qs.length).countP (fun p:Nat=>decide ((p:Int)<M)):=(by apply List.countP_congr;intro p qa;simp only[Function.comp];rw[hr.rank p (vX.1 qa)]);rw[e2,jzge M h0,qE hn]
theorem jzgg(c:Nat->Bool):∀n,bI (fun i=>if c i then 1 else 0) n=(List.range n).countP c
 |0=>rfl
 |n+1=>by
  rw[kZc,List.countP_append, <-jzgg c n];show bI _ n+(if c n then 1 else 0)=_;simp[List.countP_cons]
theorem jzgh(f g:Nat->Nat):∀n,bI (fun i=>f i+g i) n=bI f n+bI g n
 |0=>rfl
 |n+1=>by
  show bI _ n+(f n+g n)=(bI f n+f n)+(bI g n+g n);rw[jzgh f g n];omega
theorem jzgi{f g:Nat->Nat}:∀n,(∀i,i<n->f i=g i)->bI f n=bI g n
 |0,_=>rfl
 |n+1,h=>by
  show bI f n+f n=bI g n+g n;rw[jzgi n (fun i hi=>h i qO),h n qO]
def bV(f:Nat->Rat):Nat->Rat
 |0=>0
 |i+1=>bV f i+f i
theorem jz3{f g:Nat->Rat}:∀n,(∀i,i<n->f i<=g i)->bV f n<=bV g n
 |0,_=>vC
 |n+1,h=>kQs (Rat.add_le_add_right.2 (jz3 n (fun i hi=>h i qO))) (Rat.add_le_add_left.2 (h n qO))
theorem jzgj(f g:Nat->Rat):∀n,bV (fun i=>f i+g i) n=bV f n+bV g n
 |0=>by show(0:Rat)=0+0;rw[Rat.add_zero]
 |n+1=>by
  show bV _ n+(f n+g n)=(bV f n+f n)+(bV g n+g n);rw[jzgj f g n,Rat.add_assoc,Rat.add_assoc, <-Rat.add_assoc (bV g n),Rat.add_comm (bV g n) (f n),Rat.add_assoc (f n)]
theorem jzgk(f:Nat->Rat)(c:Rat):∀n,bV (fun i=>f i*c) n=bV f n*c
 |0=>by show(0:Rat)=0*c;rw[Rat.zero_mul]
 |n+1=>by
  show bV _ n+f n*c=(bV f n+f n)*c;rw[jzgk f c n,Rat.add_mul]
theorem sW(f:Nat->Nat):∀n,bV (fun i=>((f i:Int):Rat)) n=((bI f n:Int):Rat)
 |0=>rfl
 |n+1=>by
  show bV _ n+((f n:Int):Rat)=(((bI f n+f n:Nat):Int):Rat);rw[sW f n,kZv,Rat.intCast_add]
theorem jzgl{f g:Nat->Rat}:∀n,(∀i,i<n->f i=g i)->bV f n=bV g n
 |0,_=>rfl
 |n+1,h=>by
  show bV f n+f n=bV g n+g n;rw[jzgl n (fun i hi=>h i qO),h n qO]
theorem jzgm(qs:LQ):∀i,i<=qs.length->aZ (qs.take i)=bV (fun j=>qs[j]?.getD 0) i
 |0,_=>rfl
 |i+1,h=>by
  have hq:=nA (K:=qs) (i:=i) qO;have e:aZ (qs.take (i+1))=aZ (qs.take i)+qs[i]?.getD 0:=by
   have:∀(l m:LQ),aZ (l++m)=aZ l+aZ m:=fun l m=>by
    induction l with
    |nil=>show aZ m=0+aZ m;rw[Rat.zero_add]
    |cons a l ih=>show a+aZ (l++m)=a+aZ l+aZ m;rw[ih,Rat.add_assoc]
   rw[kQr,hq,this];show _+(_+0)=_;rw[Rat.add_zero];rfl
  rw[e,jzgm qs i qO];rfl
theorem jzqj(q:Rat):flQ q=((flN q:Int):Rat):=by
 unfold flQ mkQ;simp[Rat.mkRat_one]
theorem jzqk{q:Rat}(h:0<=q):q<((flN q:Int):Rat)+1:=by
 have hn:=Rat.num_nonneg.2 h;have hd:=q.den_pos;have e:((flN q:Int):Rat)+1=(((flN q+1:Nat):Int):Rat):=(by rw[kZv,Rat.intCast_add];rfl);rw[e,Rat.lt_iff];simp only[Rat.num_intCast,Rat.den_intCast];have h1:q.num.natAbs<(flN q+1)*q.den:=(by unfold flN;have:=kZj q.num.natAbs q.den;have h2:=xT q.num.natAbs hd;rw[xP,xQ,vE];omega);have h2:((q.num.natAbs:Nat):Int)<(((flN q+1)*q.den:Nat):Int):=(by exact_mod_cast h1);rw[kZk]at h2;have h3:((q.num.natAbs:Nat):Int)=q.num:=qO;rw[h3]at h2;simpa using h2
theorem jz4{qs:LQ}(h:bX qs=true)(T i:Nat):0<=fP qs T i/\fP qs T i<1/\aK qs T i=((flN (aK qs T i):Int):Rat)+fP qs T i:=by
 have h0:=uT h T i;have h1:=jzcf h0;have h2:=jzqk h0;unfold fP;rw[jzqj];generalize ((flN (aK qs T i):Int):Rat)=f at*;generalize aK qs T i=q at*;have e:f+(q-f)=q:=(by rw[Rat.sub_eq_add_neg,Rat.add_comm q, <-Rat.add_assoc,Rat.add_neg_cancel,Rat.zero_add]);refine⟨?_,?_,e.symm⟩;{have:=Rat.add_le_add_right (c:= -f) |>.2 h1;rw[Rat.add_neg_cancel]at this;rw[Rat.sub_eq_add_neg];exact this};apply Rat.not_le.1;intro h3;have h4:=Rat.add_le_add_left (c:=f) |>.2 h3;rw[e]at h4;exact absurd h2 (kQ4.2 h4)
theorem jzql{qs:LQ}(h:bX qs=true)(T:Nat):bV (fP qs T) qs.length=((fF qs T:Int):Rat):=by
 have hS:=(mA h).2;have qa:aZ qs≠0:=fun e=>(by rw[e]at hS;exact kZf hS);have e1:bV (aK qs T) qs.length=((T:Int):Rat):=(by have:bV (aK qs T) qs.length=bV (fun j=>qs[j]?.getD 0) qs.length*(((T:Int):Rat)/aZ qs):=jzgk _ _ _;rw[this, <-jzgm qs qs.length (yX _),yU (yX _),Rat.mul_comm,Rat.div_mul_cancel qa]);have e2:bV (aK qs T) qs.length=((bI (fun i=>flN (aK qs T i)) qs.length:Int):Rat)+bV (fP qs T) qs.length:=(by rw[<-sW, <-jzgj];exact jzgl _ (fun i _=>(jz4 h T i).2.2));rw[e1]at e2;unfold fF;rw[Rat.intCast_sub,e2];generalize ((bI (fun i=>flN (aK qs T i)) qs.length:Int):Rat)=a;rw[Rat.sub_eq_add_neg,Rat.add_comm a,Rat.add_assoc,Rat.add_neg_cancel,Rat.add_zero]
theorem jzqm{qs:LQ}(h:bX qs=true)(T:Nat):0<=fF qs T/\fF qs T<=qs.length:=by
 have e:=jzql h T;constructor;{have:bV (fun _=>((0:Nat):Int):Nat->Rat) qs.length<=bV (fP qs T) qs.length:=jz3 _ (fun i _=>(jz4 h T i).1);rw[e,sW (fun _=>0)]at this;have h1:=kQt.1 this;omega};have:bV (fP qs T) qs.length<=bV (fun _=>((1:Nat):Int):Nat->Rat) qs.length:=jz3 _ (fun i _=>vB (jz4 h T i).2.1);rw[e,sW (fun _=>1)]at this;have h1:=kQt.1 this;have h2:=uS (fun _=>1) 1 qs.length (fun _ _=>yX _);omega
theorem jzqn{qs:LQ}(h:bX qs=true)(T:Nat):((bI (iR qs T) qs.length:Nat):Int)=T:=by
 obtain⟨h0,h1⟩:=jzqm h T;have hl:(dR qs T).length=qs.length:=(by unfold dR;simp);have e1:bI (iR qs T) qs.length=bI (fun i=>flN (aK qs T i)) qs.length+bI (fun i=>if decide ((cF (dR qs T) i:Int)<fF qs T)then 1 else 0) qs.length:=(by rw[<-jzgh];refine jzgi _ (fun i _=>?_);unfold iR;by_cases c:(cF (dR qs T) i:Int)<fF qs T;{rw[qE c,qE (yO c)]};rw[qF c,qF (by simp;omega)];rfl);have e2:=jzgf (dR qs T) (fF qs T) h0 (by rw[hl];exact h1);rw[hl]at e2;rw[e1,jzgg,kZv,e2];unfold fF;omega
theorem jzqo(x:Nat){T:Nat}(hT:1<=T):ofQ (x:Int) (T:Int)=((x:Int):Rat)/((T:Int):Rat):=by
 unfold ofQ mkQ;rw[yP qO,yP qO,Int.natAbs_natCast,Int.natAbs_natCast];show mkRat (x:Int) T=_;rw[Rat.mkRat_eq_div];rfl
open Sx
theorem sX{x:Nat}:∀{l:LN},x∈l->x<=l.sum
 |y::l,h=>by
  show x<=y+l.sum;rcases xZ.1 h with e|e
  ·omega
  ·have:=sX e
   omega
theorem jzgn{α:Type}{f:α->Rat}:∀{l:List α},(∀x∈l,0<=f x)->∀{a:α},a∈l->f a<=ls f l
 |b::l,h,a,ha=>by
  show f a<=f b+ls f l;have hb:=h b List.mem_cons_self;have hl:=pC (f:=f) (l:=l) fun x hx=>h x (xO _ hx);rcases xZ.1 ha with e|e
  ·rw[e];grind
  ·have:=jzgn (fun x hx=>h x (xO _ hx)) e
   grind
abbrev SpL:=List (LN×Nat)
def bT(x:SpL):Nat:=(x.map (·.2)).sum
def cH(am:Int)(tot w:Nat):Rat:=ofQ (am*(w:Int)) (tot:Int)
def amI(l:List Dm)(k:Nat):Int:=(l[k]?.map (·.amount)).getD 0
def spA(ss:List SpL)(k:Nat):SpL:=ss[k]?.getD []
def fK(i:Nat)(am:Int)(tot:Nat)(x:SpL):List ((Nat×LN)×Rat):=x.map fun p=>((i,p.1),cH am tot p.2)
def bY(l:List Dm)(ss:List SpL):Nat->List ((Nat×LN)×Rat)
 |0=>[]
 |k+1=>bY l ss k++fK k (amI l k) (bT (spA ss k)) (spA ss k)
structure eP(t:Tp)(l:List Dm)(ss:List SpL):Prop where
 len:ss.length=l.length
 ne:∀i,i<l.length->spA ss i≠ []
 wt:∀i,i<l.length->∀p∈spA ss i,1<=p.2/\p.2<=65536
 lp:∀i,i<l.length->∀p∈spA ss i,Lpl t (bD l i) (bA l i) p.1
 dif:∀i,i<l.length->((spA ss i).map (·.1)).Nodup
 cnt:∀i,i<l.length->(spA ss i).length<=64
theorem sY{l:List Dm}{ss:List SpL}{z:(Nat×LN)×Rat}:∀{k:Nat},z∈bY l ss k->∃i p,i<k/\p∈spA ss i/\z=((i,p.1),cH (amI l i) (bT (spA ss i)) p.2)
 |k+1,h=>by
  rcases xY.1 h with h|h
  ·obtain⟨i,p,h1,h2⟩:=sY h
   exact⟨i,p,qO,h2⟩
  ·obtain⟨p,h1,h2⟩:=kQl.1 h
   exact⟨k,p,qO,h1,h2.symm⟩
theorem jzqp{x:SpL}{p:LN×Nat}(h:p∈x):p.2<=bT x:=by
 unfold bT;exact sX (kQl.2 ⟨p,h,rfl⟩)
section
variable {t:Tp} {l:List Dm} {ss:List SpL}
theorem jzgo(k:Nat):amQ l k=((amI l k:Int):Rat):=by unfold amQ amI;cases l[k]? <;> rfl
theorem Fit.amI(hf:Fit t l){i:Nat}(hi:i<l.length):1<=amI l i/\amI l i<=1048576:=by
 obtain⟨_,_,_,_,h1,h2⟩:=hf.am hi;unfold Go.Proofs.YtojpooidhilnfaaGreatDoor.amI;rw[yG hi];exact⟨h1,h2⟩
theorem jz5{am:Int}{tot w:Nat}(h0:1<=am)(h1:1<=tot):cH am tot w=(am:Rat)*((w:Int):Rat)/((tot:Int):Rat):=by
 unfold cH;obtain⟨k,rfl⟩:=kQj (show 0<=am by omega);rw[<-kZk,jzqo _ h1,kZk,kZu]
theorem mO{n:Nat}(h:1<=n):(0:Rat)<((n:Int):Rat):=Rat.intCast_lt_intCast.2 (show(0:Int)<n by omega)
theorem jzqq{am:Int}{tot w:Nat}(h0:1<=am)(h1:1<=tot)(h2:1<=w):0<cH am tot w:=by
 rw[jz5 h0 h1,Rat.div_def];exact Rat.mul_pos (Rat.mul_pos (Rat.intCast_lt_intCast.2 (show(0:Int)<am by omega)) (mO h2)) (Rat.inv_pos.2 (mO h1))
theorem eP.tot(h:eP t l ss){i:Nat}(hi:i<l.length):1<=bT (spA ss i):=by
 (have qa:=h.ne i hi;cases e:spA ss i with|nil=>exact absurd e qa|cons p x=>have h1:=(h.wt i hi p (by rw[e];exact List.mem_cons_self)).1;have h2:=jzqp (x:=p::x) List.mem_cons_self;omega)
theorem eP.pos(hf:Fit t l)(h:eP t l ss){z:(Nat×LN)×Rat}(hz:z∈bY l ss l.length):0<z.2/\z.1.1<l.length/\Lpl t (bD l z.1.1) (bA l z.1.1) z.1.2:=by
 obtain⟨i,p,h1,h2,rfl⟩:=sY hz;exact⟨jzqq (hf.amI h1).1 (h.tot h1) (h.wt i h1 p h2).1,h1,h.lp i h1 p h2⟩
theorem jz6(hf:Fit t l)(h:eP t l ss):∃ld,ldP (2*t.links.length) (List.replicate (2*t.links.length) 0) ((bY l ss l.length).map pzI)=some ld/\ld.length=2*t.links.length/\∀a,a<2*t.links.length->at_ ld a=ls (fun z=>if a∈z.1.2 then z.2 else 0) (bY l ss l.length):=by
 obtain⟨ld,h1,h2,h3⟩:=jz1 (L2:=2*t.links.length) (bY l ss l.length) (List.replicate (2*t.links.length) 0) xC fun z hz=>(by have:=(h.pos hf hz).2.2;exact⟨this.nodup,gG _ this.1⟩);exact⟨ld,h1,h2,fun a ha=>by rw[h3 a ha,pK];grind⟩
theorem jzgp(i d:Nat)(am:Int)(tot:Nat)(f:Rat):∀x:SpL,ls (fun z=>if z.1.1=d then z.2 else 0) ((fK i am tot x).map fun z=>(z.1,f*z.2))=if i=d then f*ls (fun p=>cH am tot p.2) x else 0
 | []=>by
   show(0:Rat)=if i=d then f*0 else 0
   split <;> grind
 |p::x=>by
  show(if i=d then f*cH am tot p.2 else 0)+ls _ ((fK i am tot x).map _)=_;rw[jzgp i d am tot f x];show _=if i=d then f*(cH am tot p.2+ls _ x)else 0
  split <;> grind
theorem jzgq{am:Int}{tot:Nat}(h0:1<=am)(h1:1<=tot):∀x:SpL,ls (fun p=>cH am tot p.2) x*((tot:Int):Rat)=(am:Rat)*(((bT x:Nat):Int):Rat)
 | []=>by
   show(0:Rat)*_=(am:Rat)*((0:Int):Rat);grind
 |p::x=>by
  have ht:=mO h1;have ih:=jzgq h0 h1 x;have e:bT (p::x)=p.2+bT x:=rfl;rw[e,kZv,Rat.intCast_add];show(cH am tot p.2+ls _ x)*_=_;rw[Rat.add_mul,ih,jz5 h0 h1,Rat.div_mul_cancel (fun e=>by rw[e]at ht;exact absurd ht kZf)];grind
theorem jzgr(hf:Fit t l)(h:eP t l ss)(f:Rat)(d:Nat):∀k,k<=l.length->ls (fun z=>if z.1.1=d then z.2 else 0) ((bY l ss k).map fun z=>(z.1,f*z.2))=if d<k then f*amQ l d else 0
 |0,_=>rfl
 |k+1,hk=>by
  show ls _ ((bY l ss k++fK k _ _ _).map _)=_;rw[List.map_append,ls_app,jzgr hf h f d k qO,jzgp];have h1:=(hf.amI (show k<l.length by omega)).1;have h2:=h.tot (show k<l.length by omega);have h3:=jzgq h1 h2 (spA ss k);have hp:=mO h2;have h4:ls (fun p=>cH (amI l k) (bT (spA ss k)) p.2) (spA ss k)=amQ l k:=by
   rw[jzgo];generalize ls _ (spA ss k)=x at*;generalize ((bT (spA ss k):Int):Rat)=y at*;have:(x-(amI l k:Rat))*y=0:=qG;rcases Rat.mul_eq_zero.1 this with e|e
   ·grind
   rw[e]at hp;exact absurd hp kZf
  rw[h4];by_cases e:k=d
  ·subst e
   rw[qF qO,qE rfl,qE qO];grind
  rw[qF e];by_cases e2:d<k
  ·rw[qE e2,qE qO];grind
  rw[qF e2,qF qO];grind
theorem jzgs(h:eP t l ss):∀k,k<=l.length->((bY l ss k).map (·.1)).Nodup
 |0,_=>List.nodup_nil
 |k+1,hk=>by
  show((bY l ss k++fK k _ _ _).map (·.1)).Nodup;rw[List.map_append];refine List.nodup_append.2 ⟨jzgs h k qO,?_,fun x hx y hy e=>?_⟩
  ·unfold fK
   rw[List.map_map];have:=h.dif k qO;rw[show(spA ss k).map ((fun z:(Nat×LN)×Rat=>z.1) ∘ fun p:LN×Nat=>((k,p.1),cH (amI l k) (bT (spA ss k)) p.2))=((spA ss k).map (·.1)).map fun x=>(k,x)from by rw[List.map_map];rfl];exact List.Pairwise.map (fun x=>(k,x)) (fun a b hab e=>hab (Prod.mk.inj e).2) this
  ·obtain⟨z,hz,rfl⟩:=kQl.1 hx
   obtain⟨i,p,h1,_,rfl⟩:=sY hz;obtain⟨z2,qa,rfl⟩:=kQl.1 hy;obtain⟨p2,_,rfl⟩:=kQl.1 qa;have:=(Prod.mk.inj e).1;omega
def bM(t:Tp)(ld:LQ):Nat->Option Rat
 |0=>none
 |k+1=>if at_ ld k=0 then bM t ld k else match bM t ld k with
  |none=>some (aJ t k/at_ ld k)
  |some q=>if aJ t k/at_ ld k<q then some (aJ t k/at_ ld k)else some q
theorem jzqr{a b:Rat}(h:0<b):b*(a/b)=a:=by
 rw[Rat.mul_comm,Rat.div_mul_cancel fun e=>by rw[e]at h;exact absurd h kZf]
theorem jzgt{ld:LQ}(hc:∀a,0<=aJ t a)(hn:∀a,0<=at_ ld a):∀n,match bM t ld n with
  |none=>∀k,k<n->at_ ld k=0
  |some q=>(∃k,k<n/\0<at_ ld k/\at_ ld k*q=aJ t k)/\∀k,k<n->at_ ld k*q<=aJ t k
 |0=>fun k hk=>by omega
 |n+1=>by
  have ih:=jzgt hc hn n;have qe:=hn n;have qa:=hc n;unfold bM;by_cases e:at_ ld n=0
  ·rw[qE e]
   cases hf:bM t ld n with
   |none=>
    rw[hf]at ih;intro k hk;by_cases ek:k=n
    ·rw[ek];exact e
    ·exact ih k qO
   |some q=>
    rw[hf]at ih;obtain⟨⟨k,h1,h2⟩,h3⟩:=ih;refine⟨⟨k,qO,h2⟩,fun j hj=>?_⟩;by_cases ek:j=n
    ·rw[ek,e];grind
    ·exact h3 j qO
  ·rw[qF e]
   have hp:0<at_ ld n:=qG;have hd:=jzqr (a:=aJ t n) hp;cases hf:bM t ld n with
   |none=>
    rw[hf]at ih;refine⟨⟨n,qO,hp,hd⟩,fun k hk=>?_⟩;by_cases ek:k=n
    ·rw[ek,hd];exact vC
    ·rw[ih k qO]
     have:=hc k;grind
   |some q=>
    rw[hf]at ih;obtain⟨⟨k,h1,h2,h4⟩,h3⟩:=ih;show match (if _ then some _ else some q)with|none=>_|some q=>_
    by_cases el:aJ t n/at_ ld n<q
    ·rw[qE el]
     refine⟨⟨n,qO,hp,hd⟩,fun j hj=>?_⟩;by_cases ek:j=n
     ·rw[ek,hd];exact vC
     ·have a1:=h3 j qO
      have a2:=yT (vB el) (hn j);exact kQs a2 a1
    ·rw[qF el]
     refine⟨⟨k,qO,h2,h4⟩,fun j hj=>?_⟩;by_cases ek:j=n
     ·rw[ek]
      have a2:=yT (kQ4.1 el) (vB hp);rw[hd]at a2;exact a2
     ·exact h3 j qO
theorem jzqs(hv:aI t=true)(a:Nat):0<=aJ t a:=by
 by_cases h:a<2*t.links.length;{obtain⟨_,h1,_⟩:=iF hv h;exact h1};unfold aJ;rw[yI qO];exact vC
theorem eP.nn(hf:Fit t l)(h:eP t l ss){ld:LQ}(hl:ld.length=2*t.links.length)(hat:∀a,a<2*t.links.length->at_ ld a=ls (fun z=>if a∈z.1.2 then z.2 else 0) (bY l ss l.length))(a:Nat):0<=at_ ld a:=by
 by_cases ha:a<2*t.links.length;{rw[hat a ha];exact pC fun z hz=>(by split;{exact vB (h.pos hf hz).1};exact vC)};unfold at_;rw[yI qO];exact vC
theorem jzgu{α:Type}(f:Rat)(c:Nat×LN->Prop)[DecidablePred c]:∀Z:List ((Nat×LN)×Rat),ls (fun z=>if c z.1 then z.2 else 0) (Z.map fun z=>(z.1,f*z.2))=f*ls (fun z=>if c z.1 then z.2 else 0) Z
 | []=>by show(0:Rat)=f*0;grind
 |z::Z=>by
  show(if c z.1 then f*z.2 else 0)+ls _ (Z.map _)=f*((if c z.1 then z.2 else 0)+ls _ Z);rw[jzgu (α:=α) f c Z]
  split <;> grind
theorem jz7(hf:Fit t l){v:Rat}{Z:List ((Nat×LN)×Rat)}{pr:LQ}(hp:dG t l v Z pr)(h:eP t l ss){ld:LQ}(hl:ld.length=2*t.links.length)
  (hat:∀a,a<2*t.links.length->at_ ld a=ls (fun z=>if a∈z.1.2 then z.2 else 0) (bY l ss l.length)):
  ∃q,bM t ld (2*t.links.length)=some q/\q<=v/\(∃k,k<2*t.links.length/\0<at_ ld k/\at_ ld k*q=aJ t k)/\∀k,k<2*t.links.length->at_ ld k*q<=aJ t k:=by
 (have qj:=h.nn hf hl hat;have h1:=jzgt (jzqs hf.v) qj (2*t.links.length);cases hq:bM t ld (2*t.links.length)with|none=>(rw[hq]at h1;exfalso;have hn:=hf.n;have qi:=h.ne 0 hn;cases e:spA ss 0 with|nil=>exact qi e|cons p x=>(have qg:p∈spA ss 0:=(by rw[e];exact List.mem_cons_self);have qa:=h.lp 0 hn p qg;have qf:=qa.ne (hf.nodes hn).2.2.1;cases ea:p.1 with|nil=>exact qf ea|cons a r=>have qh:a∈p.1:=(by rw[ea];exact List.mem_cons_self);have ha:=gG _ qa.1 a qh;have h2:=h1 a ha;rw[hat a ha]at h2;have hz:((0,p.1),cH (amI l 0) (bT (spA ss 0)) p.2)∈bY l ss l.length:=(by have:∀k,0<k->((0,p.1),cH (amI l 0) (bT (spA ss 0)) p.2)∈bY l ss k:=(by intro k hk;(induction k with|zero=>omega|succ k ih=>by_cases e0:k=0;{subst e0;exact xY.2 (.inr (kQl.2 ⟨p,qg,rfl⟩))};exact xY.2 (.inl (ih qO))));exact this _ hn);have h3:=jzgn (f:=fun z:(Nat×LN)×Rat=>if a∈z.1.2 then z.2 else 0) (fun z hz=>by (show(0:Rat)<=if a∈z.1.2 then z.2 else 0);split;{exact vB (h.pos hf hz).1};exact vC) hz;have h4:(if a∈p.1 then cH (amI l 0) (bT (spA ss 0)) p.2 else 0)=cH (amI l 0) (bT (spA ss 0)) p.2:=qE qh;have h3:(if a∈p.1 then cH (amI l 0) (bT (spA ss 0)) p.2 else 0)<=_:=h3;rw[h4,h2]at h3;have h5:=(h.pos hf hz).1;have h5:0<cH (amI l 0) (bT (spA ss 0)) p.2:=h5;grind))|some q=>rw[hq]at h1;refine⟨q,rfl,?_,h1.1,h1.2⟩;have hv:=hp.vnn hf;by_cases qe:q<=0;{exact kQs qe hv};have qe:0<q:=Rat.not_le.1 qe;have hA:Adm (2*t.links.length) l.length (amQ l) (aJ t) q ((bY l ss l.length).map fun z=>(z.1,q*z.2)):=(by refine⟨fun z hz=>?_,fun z hz=>?_,?_,fun d hd=>?_,fun a ha=>?_⟩;{obtain⟨y,hy,rfl⟩:=kQl.1 hz;exact(h.pos hf hy).2.1};{obtain⟨y,hy,rfl⟩:=kQl.1 hz;exact Rat.mul_pos qe (h.pos hf hy).1};{rw[List.map_map];exact jzgs h _ (yX _)};{rw[jzgr hf h q d _ (yX _),qE hd]};rw[jzgu (α:=Nat) q (fun k=>a∈k.2), <-hat a ha,Rat.mul_comm];exact h1.2 a ha);have h2:=hA.weak hf.n (fun d hd=>(hf.am hd).1) (ch:=fun d=>chQ t pr (bD l d) (bA l d)) (fun a _=>jzn hp.pnn a) (fun z hz=>by (obtain⟨y,hy,rfl⟩:=kQl.1 hz;obtain⟨_,hd,qa⟩:=h.pos hf hy;obtain⟨n1,n2,_⟩:=hf.nodes hd;show chQ t pr (bD l y.1.1) (bA l y.1.1)<=_;rcases pI hf.v (sE hp.plen hp.pnn) n1 n2 with⟨x,e,_,e2⟩|⟨_,e⟩);{unfold chQ;rw[e, <-qa.prQ_sm];exact e2 _ qa};exact absurd qa (e _)) hp.need;rw[hp.worth]at h2;exact h2)
end
def zOf(Z:List ((Nat×LN)×Rat))(i:Nat):List ((Nat×LN)×Rat):=Z.filter fun z=>z.1.1==i
def ofW(Z:List ((Nat×LN)×Rat))(k T:Int)(i:Nat):LN:=(gX (dI ((zOf Z i).map (·.2)) k).1 T).1
def ofS(Z:List ((Nat×LN)×Rat))(k T:Int)(i:Nat):SpL:=(((zOf Z i).map (·.1.2)).zip (ofW Z k T i)).filter fun p=>decide (0<p.2)
section
variable {t:Tp} {l:List Dm} {v:Rat} {Z:List ((Nat×List Nat)×Rat)} {pr:List Rat}
theorem jz8(hf:Fit t l)(h:dG t l v Z pr)(hv:v≠0)(h24:Z.length<=24){i:Nat}(hi:i<l.length):bX ((zOf Z i).map (·.2))=true:=by
 have qe:(zOf Z i).length<=Z.length:=List.length_filter_le _ _;have h0:∀q∈(zOf Z i).map (·.2),0<q:=fun q hq=>(by obtain⟨z,hz,rfl⟩:=kQl.1 hq;exact h.adm.pos z (List.mem_filter.1 hz).1);have qa:(zOf Z i).map (·.2)≠ []:=fun e=>(by have hs:=h.adm.sum i hi;have:ls (fun z:(Nat×LN)×Rat=>if z.1.1=i then z.2 else 0) Z=0:=jzdf fun z hz=>(by rw[qF];intro e2;have:z∈zOf Z i:=List.mem_filter.2 ⟨hz,by rw[beq_iff_eq];exact e2⟩;have:=List.mem_map_of_mem (f:=fun z:(Nat×LN)×Rat=>z.2) this;rw[e]at this;cases this);(rw[this]at hs;have ha:=(hf.am hi).1;rcases Rat.mul_eq_zero.1 hs.symm with e|e);{exact hv e};rw[e]at ha;exact absurd ha kZf);unfold bX;rw[vM,vM,decide_eq_true_eq,Bool.not_eq_true'];refine⟨by rw[xV];omega,?_,?_⟩;{rw[<-Bool.not_eq_true,List.any_eq_true];rintro ⟨q,hq,hb⟩;have:=h0 q hq;unfold lY at hb;have:=(oT q).1 (of_decide_eq_true hb);grind};(cases e:(zOf Z i).map (·.2)with|nil=>exact absurd e qa|cons q r=>rw[List.any_cons,Bool.or_eq_true];refine .inl ?_;unfold kS;exact yO ((oU q).2 (h0 q (by rw[e];exact List.mem_cons_self))))
theorem jzgv{qs:LQ}(h:bX qs=true)(hp:∀q∈qs,0<q){k:Int}(hk:1<=k):(dI qs k).2=0/\(dI qs k).1.length=qs.length/\bX (dI qs k).1=true:=by
 obtain⟨h1,h2⟩:=lZ h;have e:dI qs k=((List.range qs.length).map (fun i=>if(cF qs i:Int)<k then qs[i]?.getD 0 else 0),0):=(by unfold dI;rw[h,yO hk];rfl);rw[e];refine⟨rfl,qS,?_⟩;have hc:=jzgf qs 1 qD qO;obtain⟨i,hi,hr⟩:∃i,i<qs.length/\(cF qs i:Int)<1:=(by have:0<(List.range qs.length).countP (fun i=>decide ((cF qs i:Int)<1)):=qO;obtain⟨i,hi,hr⟩:=List.countP_pos_iff.1 this;exact⟨i,vX.1 hi,of_decide_eq_true hr⟩);unfold bX;rw[vM,vM,decide_eq_true_eq,Bool.not_eq_true'];refine⟨by simpa using h2,?_,?_⟩;{rw[<-Bool.not_eq_true,List.any_eq_true];rintro ⟨q,hq,hb⟩;obtain⟨j,hj,rfl⟩:=kQl.1 hq;have hj:=vX.1 hj;have hb:=(oT _).1 (of_decide_eq_true hb);have h3:=hp _ (xR hj);rw[yG hj]at hb;have hb:(if(cF qs j:Int)<k then qs[j]else 0)<0:=hb;split at hb <;> grind};rw[List.any_eq_true];refine⟨_,kQl.2 ⟨i,vX.2 hi,rfl⟩,yO ((oU _).2 ?_)⟩;rw[qE qO,yG hi];exact hp _ (xR hi)
theorem jz9{qs:LQ}(h:bX qs=true){T:Int}(h1:1<=T)(h2:T<=65536):gX qs T=((List.range qs.length).map (iR qs T.toNat),0):=by
 unfold gX;rw[h,yO h1,yO h2];rfl
theorem jzgw(f:Nat->Nat):∀n,((List.range n).map f).sum=bI f n
 |0=>rfl
 |n+1=>by
  rw[kZc,List.map_append,List.sum_append,jzgw f n];show bI f n+(f n+0)=bI f n+f n;omega
theorem sZ(hf:Fit t l)(h:dG t l v Z pr)(hv:v≠0)(h24:Z.length<=24){k T:Int}(hk:1<=k)(h1:1<=T)(h2:T<=65536){i:Nat}(hi:i<l.length):
  (ofW Z k T i).length=(zOf Z i).length/\((ofW Z k T i).sum:Int)=T:=by
 have hp:=jz8 hf h hv h24 hi;obtain⟨_,k2,k3⟩:=jzgv hp (fun q hq=>by obtain⟨z,hz,rfl⟩:=kQl.1 hq;exact h.adm.pos z (List.mem_filter.1 hz).1) hk;unfold ofW;rw[jz9 k3 h1 h2];refine⟨by simp only[xV,kZm];rw[k2,xV],?_⟩;rw[jzgw,jzqn k3];omega
theorem jzgx:∀{a:List (LN)} {b:LN},b.length=a.length->bT ((a.zip b).filter fun p=>decide (0<p.2))=b.sum
 | [],[],_=>rfl
 |x::a,y::b,h=>by
  have ih:=jzgx (a:=a) (b:=b) (by simpa using h);show bT (((x,y)::a.zip b).filter _)=y+b.sum;by_cases e:0<y
  ·rw[List.filter_cons_of_pos (by exact yO e)]
   show y+bT _=_;rw[ih]
  ·rw[List.filter_cons_of_neg (by simpa using e),ih]
   omega
theorem jzaa(hf:Fit t l)(h:dG t l v Z pr)(hv:v≠0)(h24:Z.length<=24){k T:Int}(hk:1<=k)(h1:1<=T)(h2:T<=65536):eP t l ((List.range l.length).map (ofS Z k T)):=by
 have hg:∀i,i<l.length->spA ((List.range l.length).map (ofS Z k T)) i=ofS Z k T i:=fun i hi=>(by unfold spA;rw[yW,xJ hi];rfl);have hz:∀i,∀p∈ofS Z k T i,p.1∈(zOf Z i).map (·.1.2)/\p.2∈ofW Z k T i/\0<p.2:=fun i p hp=>(by obtain⟨q1,q2⟩:=List.mem_filter.1 hp;exact⟨(List.of_mem_zip q1).1,(List.of_mem_zip q1).2,of_decide_eq_true q2⟩);refine⟨qS,fun i hi e=>?_,fun i hi p hp=>?_,fun i hi p hp=>?_,fun i hi=>?_,fun i hi=>?_⟩;{rw[hg i hi]at e;obtain⟨q1,q2⟩:=sZ hf h hv h24 hk h1 h2 hi;have:=jzgx (a:=(zOf Z i).map (·.1.2)) (b:=ofW Z k T i) (by rw[q1,xV]);have e:((((zOf Z i).map (·.1.2)).zip (ofW Z k T i)).filter fun p=>decide (0<p.2))=[]:=e;rw[e]at this;have:0=_:=this;omega};{rw[hg i hi]at hp;obtain⟨_,q2,q3⟩:=hz i p hp;have:=sX q2;obtain⟨_,q4⟩:=sZ hf h hv h24 hk h1 h2 hi;omega};{rw[hg i hi]at hp;obtain⟨q1,_⟩:=hz i p hp;obtain⟨z,hz,e⟩:=kQl.1 q1;obtain⟨z1,z2⟩:=List.mem_filter.1 hz;have:=h.loop z z1;rw[beq_iff_eq]at z2;rw[z2,e]at this;exact this};{rw[hg i hi];have s1:((ofS Z k T i).map (·.1)).Sublist ((zOf Z i).map (·.1.2)):=(by have a1:((ofS Z k T i).map (·.1)).Sublist ((((zOf Z i).map (·.1.2)).zip (ofW Z k T i)).map (·.1)):=List.Sublist.map _ List.filter_sublist;rw[List.map_fst_zip (by rw[(sZ hf h hv h24 hk h1 h2 hi).1,xV];exact yX _)]at a1;exact a1);refine s1.nodup ?_;have s2:((zOf Z i).map (·.1)).Nodup:=(List.Sublist.map _ List.filter_sublist).nodup h.adm.dif;have s3:(zOf Z i).map (·.1.2)=((zOf Z i).map (·.1)).map (·.2):=(by rw[List.map_map];rfl);rw[s3];refine List.Pairwise.map _ (R:=fun a b=>a∈(zOf Z i).map (·.1)/\b∈(zOf Z i).map (·.1)/\a≠b) (fun a b hab e=>hab.2.2 ?_) ?_;{obtain⟨x,hx,rfl⟩:=kQl.1 hab.1;obtain⟨y,hy,rfl⟩:=kQl.1 hab.2.1;have ex:=(List.mem_filter.1 hx).2;have ey:=(List.mem_filter.1 hy).2;rw[beq_iff_eq]at ex ey;exact Prod.ext (by rw[ex,ey]) e};exact List.Pairwise.imp_of_mem (fun {a b} ha hb hab=>⟨ha,hb,hab⟩) s2};rw[hg i hi];have a1:=List.length_filter_le (fun p:LN×Nat=>decide (0<p.2)) (((zOf Z i).map (·.1.2)).zip (ofW Z k T i));have a2:(((zOf Z i).map (·.1.2)).zip (ofW Z k T i)).length<=(zOf Z i).length:=(by rw[List.length_zip,xV];omega);have a3:(zOf Z i).length<=Z.length:=List.length_filter_le _ _;show(List.filter _ _).length<=64;omega
end
end Go.Proofs.YtojpooidhilnfaaGreatDoor
namespace Go.Proofs.YtojpooidhilnfaaGreatDoor
open Go.Proofs.Tryz
open Go.RowKit
theorem jzqt AX(n cx:Nat)(l:LN)(hn:l.length=n)w(hq:Rd w AX (ints l))(hl:n<=1000):
  Calls prog 70 #[.s AX n cx] w fun e w'=>∃v,e=.returned v/\w'.ownsRow w.heap.size 3 1 v n (ints l)/\Ext w w':=by
 (subst hn;obtain⟨ti,hi,qi,qg,qh⟩:=info_parts Tryz.info3;cases AX with|none=>have hn:l=[]:=(by (cases l with|nil=>rfl|cons a l=>obtain⟨_,_,e,_⟩:=hq (by simp[ints]);cases e));subst hn;refine(Tryz.slices_Clone_nil 0 cx w).mono ?_;rintro e w' ⟨rfl,rfl⟩;exact⟨_,rfl,World.ownsRow_nil _ _ _ _,eR _⟩|some ad=>by_cases qf:l=[];{subst qf;refine(Tryz.slices_Clone_int_zero ad cx w).mono ?_;rintro e w' ⟨v',rfl,qa,_,qe⟩;exact⟨v',rfl,qa,qe⟩};obtain⟨b,o,e,hb,hc⟩:=hq (by simpa [ints]using qf);injection e with e;subst e;refine(Tryz.slices_Clone ti (vI 0) 1 8 hi qi qg qh rfl qD (fun w=>by simp[Go.sizeOf,typeInfo,hi,qg]) b o l.length cx (ints l) w (by simp[ints]) (by unfold maxLen;omega) qO ?_ (tQ _)).mono ?_;{intro j u hj;have qj:=(yH.1 hj).1;rw[hc j qj];exact hj};rintro e w' ⟨v',rfl,qa,_,qe⟩;exact⟨v',rfl,qa,qe⟩)
def PaX(x:Option Nat)(w:World)(cs:List Value)(p:LN):Prop:=∃(A:OA) (c:Nat),cs=[.s A p.length c]/\p.length<=c/\RdT w 3 A (ints p)/\(p≠ []->∀ad,A=some ad->x≠some ad.block)
theorem PaX.fr{S:Nat->Prop}{x y:Option Nat}{w w'}{cs:List Value}{p:LN}(h:PaX x w cs p)(k:FrS S w w')(hS:∀b,S b->x=some b\/(∀c fr,w.heap[b]?≠some (.cells c 3 fr)))(hy:y=x\/y=none\/∃g,y=some g/\w.heap.size<=g):PaX y w' cs p:=by
 obtain⟨A,c,h1,h2,h3,h4⟩:=h;refine⟨A,c,h1,h2,jzez h3 k fun hx ad had hs=>?_,fun hx ad had e=>?_⟩;{(rcases hS _ hs with e|e);{exact h4 (fun h=>hx (by rw[h];rfl)) ad had e};obtain⟨b,o,cs,fr,e1,e2,_⟩:=h3 hx;rw[had]at e1;injection e1 with e1;subst e1;exact e _ _ e2};(rcases hy with rfl|rfl|⟨g,rfl,hg⟩);{exact h4 hx ad had e};{cases e}
 obtain⟨b,o,cs,fr,e1,e2,_⟩:=h3 (fun h=>hx (by cases p with
  |nil=>rfl
  |cons a l=>cases h))
 (rw[had]at e1;injection e1 with e1);(subst e1;have:=lA e2;injection e with e);simp only at e;omega
theorem PaX.K{x:Option Nat}{w w'}{cs:List Value}{p:LN}(h:PaX x w cs p)(hx:Ext w w'):PaX x w' cs p:=
 h.fr (S:=fun _=>False) (eE hx) (fun _ h=>h.elim) (.inl rfl)
def SpC(w:World)(cs:List Value)(x:SpL):Prop:=∃(P:OA) (c:Nat) (W:OA) (d:Nat) (css:List (List Value)),cs=[.s P x.length c,.s W x.length d]/\x.length<=c/\x.length<=d/\css.length=(x.map (·.1)).length/\(∀cs∈css,cs.length=1)/\RdT w 44 P css.flatten/\(∀(i:Nat) (p:LN),(x.map (·.1))[i]?=some p->∃cs,css[i]?=some cs/\PaX none w cs p)/\RdT w 3 W (ints (x.map (·.2)))
theorem SpC.fr{S:Nat->Prop}{w w'}{cs:List Value}{x:SpL}(h:SpC w cs x)(k:FrS S w w')(n1:NoT S w 3)(n2:NoT S w 44):SpC w' cs x:=by
 obtain⟨P,c,W,d,css,h1,h2,h3,h4,h5,h6,h7,h8⟩:=h;refine⟨P,c,W,d,css,h1,h2,h3,h4,h5,k.rdT n2 h6,fun i p hp=>?_,k.rdT n1 h8⟩;obtain⟨cs,k1,k2⟩:=h7 i p hp;exact⟨cs,k1,k2.fr k (fun b hb=>.inr (n1 b hb)) (.inl rfl)⟩
theorem SpC.K{w w'}{cs:List Value}{x:SpL}(h:SpC w cs x)(hx:Ext w w'):SpC w' cs x:=
 h.fr (S:=fun _=>False) (eE hx) (fun _ h=>h.elim) (fun _ h=>h.elim)
abbrev SpR(w:World)(A:OA)(ss:List SpL):Prop:=RdL SpC 2 w A ss
structure SpI(F:Nat->SpL)(D:Nat)(w:World)(cs:Array Value)(i:Nat):Prop where
 size:cs.size=D*2
 done:∀j,j<i->∃a b,cs[j*2]?=some a/\cs[j*2+1]?=some b/\SpC w [a,b] (F j)
 rest:∀j,i<=j->j<D->cs[j*2]?=some zN/\cs[j*2+1]?=some zN
section
variable {F:Nat->SpL} {D i:Nat} {w w':World} {cs:Array Value}
theorem SpI.fr{S:Nat->Prop}(h:SpI F D w cs i)(k:FrS S w w')(n1:NoT S w 3)(n2:NoT S w 44):SpI F D w' cs i:=
 ⟨h.size,fun j hj=>by
  obtain⟨a,b,h1,h2,h3⟩:=h.done j hj;exact⟨a,b,h1,h2,h3.fr k n1 n2⟩,h.rest⟩
theorem SpI.K(h:SpI F D w cs i)(hx:Ext w w'):SpI F D w' cs i:=
 h.fr (S:=fun _=>False) (eE hx) (fun _ h=>h.elim) (fun _ h=>h.elim)
theorem SpI.next(h:SpI F D w cs i)(hi:i<D){a b:Value}(hs:SpC w [a,b] (F i)):SpI F D w ((cs.setIfInBounds (i*2) a).setIfInBounds (i*2+1) b) (i+1):=by
 have qa:=h.size;refine⟨by simp[qa],fun j hj=>?_,fun j hj hjD=>?_⟩;{by_cases e:j=i;{subst e;refine⟨a,b,?_,?_,hs⟩;{rw[xH qO,kQ0 qO]};rw[kQ0 (by simp;omega)]};obtain⟨x,y,h1,h2,h3⟩:=h.done j qO;refine⟨x,y,?_,?_,h3⟩;{rw[xH qO,xH qO];exact h1};rw[xH qO,xH qO];exact h2};obtain⟨h1,h2⟩:=h.rest j qO hjD;refine⟨?_,?_⟩;{rw[xH qO,xH qO];exact h1};rw[xH qO,xH qO];exact h2
theorem SpI.read{g:Nat}(h:SpI F D w cs D)(hb:Blk w g 89 cs):SpR w (sA g) ((List.range D).map F):=by
 obtain⟨css,hc⟩:∃css:List (List Value),css=(List.range D).map fun j=>[cs[j*2]?.getD bF,cs[j*2+1]?.getD bF]:=⟨_,rfl⟩;have h2:∀c∈css,c.length=2:=fun c hc2=>(by rw[hc]at hc2;obtain⟨j,_,rfl⟩:=kQl.1 hc2;rfl);have hl:css.length=D:=(by rw[hc];simp);have qe:=h.size;have qa:css.flatten=cs.toList:=(by refine uK fun n=>?_;by_cases hn:n<D*2;{have h1:=dW css h2 (n/2) (n%2) qO qO;(rw[show n/2*2+n%2=n by omega]at h1;have h9:css[n/2]?=some [cs[n/2*2]?.getD bF,cs[n/2*2+1]?.getD bF]:=(by rw[hc,yW,xJ qO];rfl);have h8:cs.toList[n]?=cs[n]?:=kQw;rw[h1,h9,h8,kQ1];have hx:n%2=0\/n%2=1:=qO;rcases hx with e|e);{rw[e,show n/2*2=n by omega,Array.getElem?_eq_getElem qO];rfl};rw[e,show n/2*2+1=n by omega,Array.getElem?_eq_getElem (show n<cs.size by omega)];rfl};rw[yI (by rw[fY css h2,hl];omega),yI (by rw[Array.length_toList,qe];omega)]);(refine⟨css,by rw[hl];simp,h2,by rw[qa];exact(RdT.of_blk hb rfl).rd,fun j x hx=>?_⟩;have hj:=(yH.1 hx).1;simp at hj;rw[yW,xJ hj]at hx;injection hx with hx);subst hx;obtain⟨a,b,h3,h4,h5⟩:=h.done j hj;exact⟨[a,b],by rw[hc,yW,xJ hj];show some [_,_]=_;rw[h3,h4];rfl,h5⟩
end
theorem jzgy{cs:Array Value}{n:Nat}{v:Value}(h:cs[n]?=some v):cs.setIfInBounds n v=cs:=by
 apply Array.ext_getElem?;intro m;by_cases e:n=m;{subst e;have:=(kZn.1 h).1;rw[kQ0 this,h]};rw[xH e]
theorem jzqu:(prog.info? 89).map (fun i=>(i.zero,i.size,i.bytes))=some (some (.agg #[zN,zN]),2,48):=by kernel_rfl
theorem jzqv(n:Nat)(hn:n<=1000)w:
  (Instr.makeSlice 71 (vI (n:Int)) (vI (n:Int))).run prog w=.ok (.s (sA w.heap.size) n n) (w.alloc (.cells (madeCells #[zN,zN] (n*2)) 89)):=by
 obtain⟨i,hi,hz,hs,hb⟩:=info_parts jzqu;have qa:(i.bytes:Int)*(n:Int)<=281474976710656:=(by rw[hb];omega);have hr:=run_make (P:=prog) w 71 89 i _ underlying71 hi hz .i64 .i64 n n qO qO qa qO;simp only[xL]at hr;rw[hs]at hr;exact hr
theorem SpI.made(F:Nat->SpL)(D:Nat)w:SpI F D w (madeCells #[zN,zN] (D*2)) 0:=by
 have qa:∀n,n<D*2->(madeCells #[zN,zN] (D*2))[n]?=some zN:=fun n hn=>(by have:n%2=0\/n%2=1:=qO;unfold madeCells;simp[hn];rcases this with e|e <;> simp[e]);exact⟨by simp[madeCells],fun j hj=>qO,fun j _ hj=>⟨qa _ qO,qa _ qO⟩⟩
open Sx
theorem jzqw{w w':World}{b:Nat}(h:w'.heap[b]?=w.heap[b]?)(o:Nat):w'.cell? (aD b o)=w.cell? (aD b o):=by
 unfold World.cell?;simp only[h]
structure kH(w:World)(t:Tp)(l:List Dm)(neg:Bool)(A1:OA)(n1 c1:Nat)(A2:OA)(n2 c2:Nat)(AP:OA)(cp gp:Nat)(v:Rat)(Z:List ((Nat×LN)×Rat))(pr:LQ):Prop where
 ok:dG t l v Z pr
 sv:SzQ v 20
 sz:∀z∈Z,SzQ z.2 41
 sp:∀q∈pr,SzQ q 20
 len:Z.length<=24
 cap:Z.length<=cp
 val:aC w neg A1 n1 c1 A2 n2 c2 v
 pat:PLr w AP (Z.map pzI)
 prs:QL w (sA gp) pr
section
variable {w w':World} {t:Tp} {l:List Dm} {neg:Bool} {A1:Option Addr} {n1 c1:Nat} {A2:Option Addr} {n2 c2:Nat} {AP:Option Addr} {cp gp:Nat} {v:Rat} {Z:List ((Nat×List Nat)×Rat)} {pr:List Rat}
theorem kH.K(h:kH w t l neg A1 n1 c1 A2 n2 c2 AP cp gp v Z pr)(hx:Ext w w'):kH w' t l neg A1 n1 c1 A2 n2 c2 AP cp gp v Z pr:=
 ⟨h.ok,h.sv,h.sz,h.sp,h.len,h.cap,h.val.K hx,RdL.K h.pat hx fun cs x hq=>hq.K hx,h.prs.K hx⟩
end
theorem mK.cases{w}{t}{l:List Dm}{e:Ending}{w'}(hf:Fit t l)(hD:l.length<=4)(h:mK w t l e w'):
  (¬connL t l/\e=.returned (.tuple #[.agg #[bF,zN,zN,zN,zN],vI 11])/\Ext w w')\/
  ∃(neg:Bool) (A1:OA) (n1 c1:Nat) (A2:OA) (n2 c2:Nat) (AP:OA) (cp gp:Nat) (v:Rat) (Z:List ((Nat×LN)×Rat)) (pr:LQ),
   e=.returned (.tuple #[.agg #[.bool neg,.s A1 n1 c1,.s A2 n2 c2,.s AP Z.length cp,.s (sA gp) (2*t.links.length) (2*t.links.length)],vI 0])/\kH w' t l neg A1 n1 c1 A2 n2 c2 AP cp gp v Z pr/\Ext w w':=by
 (rcases h with⟨h1,_⟩|⟨_,⟨d,hd,h1⟩,h2,h3⟩|⟨_,v,Z,pr,neg,A1,n1,c1,A2,n2,c2,AP,cp,gp,h1,h2,s1,s2,s3,h3,h4,s4,s5,s6,h5⟩);{rw[(nT (show l.length<=64 by omega)).2 hf]at h1;cases h1};{exact .inl ⟨fun hc=>by obtain⟨y,hy⟩:=jzf4.1 hc d hd;exact h1 y hy,h2,h3⟩};exact .inr ⟨neg,A1,n1,c1,A2,n2,c2,AP,cp,gp,v,Z,pr,h3,⟨h1,h2,s1,s2,s3,s4,h4,s5,s6⟩,h5⟩
end Go.Proofs.YtojpooidhilnfaaGreatDoor
