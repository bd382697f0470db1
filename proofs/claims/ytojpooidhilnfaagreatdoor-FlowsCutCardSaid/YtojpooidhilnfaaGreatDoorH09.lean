/- Part 9 of 26 of what the Flows claims share (the white space is struck, the texts are joined). -/
import Derived.Lib.SliceRun
import Derived.Test.YtojpooidhilnfaaGreatDoorH08
set_option linter.unusedVariables false
set_option linter.unusedSimpArgs false
set_option maxRecDepth 100000
set_option maxHeartbeats 8000000
namespace Go.Proofs.YtojpooidhilnfaaGreatDoor
open Go.Proofs.Tryz
open Go.RowKit
def RQR(w:World)(neg:Bool)(A:OA)(n c:Nat)(A':OA)(n' c':Nat)(q:Rat):Prop:=
 neg=decide (q.num<0)/\aL w A n c q.num.natAbs/\aL w A' n' c' (dk q)
theorem aL.other{w w'}{A}{n c N g:Nat}{t':TypeId}{cs':Array Value}(h:aL w A n c N)(hg:w.grownBy w' (some g))(hb:Blk w g t' cs')(hne:3≠t'):aL w' A n c N:=by
 obtain⟨ds,h1,h2,h3,h4,h5⟩:=h;exact⟨ds,h1,h2,h3,h4,h5.other hg hb hne⟩
section
variable {w w':World} {neg:Bool} {A:Option Addr} {n c:Nat} {A':Option Addr} {n' c':Nat} {q:Rat}
theorem RQR.K(h:RQR w neg A n c A' n' c' q)(hb:Ext w w'):RQR w' neg A n c A' n' c' q:=⟨h.1,h.2.1.K hb,h.2.2.K hb⟩
theorem RQR.other(h:RQR w neg A n c A' n' c' q){g:Nat}{t':TypeId}{cs':Array Value}(hg:w.grownBy w' (some g))(hb:Blk w g t' cs')(hne:3≠t'):RQR w' neg A n c A' n' c' q:=
 ⟨h.1,h.2.1.other hg hb hne,h.2.2.other hg hb hne⟩
end
def lQ(w:World)(q:Rat)(e:Ending)(w':World):Prop:=
 ∃(neg:Bool) (A:OA) (n c:Nat) (A':OA) (n' c':Nat),e=.returned (.agg #[.bool neg,.s A n c,.s A' n' c'])/\RQR w' neg A n c A' n' c' q/\Ext w w'
theorem aL.one{w}{A}{n c:Nat}(h:aL w A n c 1):n=1/\∃b o:Nat,A=some (aD b o)/\b<w.heap.size/\w.cell? (aD b o)=some (vI 1):=by
 obtain⟨ds,hl,_,qa,hv,hr⟩:=h;have e:ds=[1]:=Dig.Canon.unique nZ qa ⟨by simp[G6],by simp⟩ (by rw[hv];simp[Dig.val]);subst e;obtain⟨b,o,e,hb,hc⟩:=hr.rd.ints (k:=0) (by simp);exact⟨by simpa using hl.symm,b,o,e,hb,(hc 0 (by simp)).trans (by simp)⟩
theorem aL.notone{w}{A}{c N:Nat}(h:aL w A 1 c N)(hN:N≠1):∃b o d:Nat,A=some (aD b o)/\b<w.heap.size/\w.cell? (aD b o)=some (vI (d:Int))/\((d:Int)==1)=false:=by
 obtain⟨ds,hl,_,qa,hv,hr⟩:=h;obtain⟨d,rfl⟩:∃d,ds=[d]:=(by (match ds,hl with| [d],_=>exact⟨d,rfl⟩));obtain⟨b,o,e,hb,hc⟩:=hr.rd.ints (k:=0) (by simp);refine⟨b,o,d,e,hb,(hc 0 (by simp)).trans (by simp),?_⟩;simp[Dig.val]at hv;exact yK.2 (by omega)
theorem jzjs(neg:Bool){n d:Nat}(hd:d≠0):dk (mkQ neg n d)=if d/n.gcd d=1 then 0 else d/n.gcd d:=by
 unfold dk;rw[nF neg hd]
theorem mP{w W:World}{neg:Bool}{N D:Nat}{A A'}{n c n' c' g:Nat}{cs:Array Value}(hD:D≠0)(nb:Bool)(hn:nb=(neg&&N !=0))(h1:aL W A n c (N/N.gcd D))(h2:aL W A' n' c' (if D/N.gcd D=1 then 0 else D/N.gcd D))
  (hb:Blk W g 47 cs) (hg:w.heap.size<=g) (hx:Ext w W):
  RQR (((W.setCell (aD g 0) (.bool nb)).setCell (aD g 1) (.s A n c)).setCell (aD g 2) (.s A' n' c')) nb A n c A' n' c' (mkQ neg N D)/\Ext w (((W.setCell (aD g 0) (.bool nb)).setCell (aD g 1) (.s A n c)).setCell (aD g 2) (.s A' n' c')):=by
 refine⟨RQR.other (w:=W) ⟨by rw[tB neg hD,hn],by rw[nE neg hD];exact h1,by rw[jzjs neg hD];exact h2⟩ (uG W g _ _ _) hb (by decide),?_⟩;exact((hx.sT (p:=(aD g 0)) hg _).sT (p:=(aD g 1)) hg _).sT (p:=(aD g 2)) hg _
def fX(w:World)(A A':OA):Prop:=(∀ad,A=some ad->w.heap.size<=ad.block)/\∀ad,A'=some ad->w.heap.size<=ad.block
theorem fX.le{w w':World}{A A'}(h:fX w' A A')(hx:w.heap.size<=w'.heap.size):fX w A A':=⟨fun ad e=>yY hx (h.1 ad e),fun ad e=>yY hx (h.2 ad e)⟩
theorem fX.zl{w}{A A'}(h:fX w A A'):fX w none A':=⟨fun _ e=>(by cases e),h.2⟩
theorem fX.zr{w}{A A'}(h:fX w A A'):fX w A none:=⟨h.1,fun _ e=>(by cases e)⟩
def oB(w:World)(q:Rat)(e:Ending)(w':World):Prop:=
 ∃(neg:Bool) (A:OA) (n c:Nat) (A':OA) (n' c':Nat),e=.returned (.agg #[.bool neg,.s A n c,.s A' n' c'])/\RQR w' neg A n c A' n' c' q/\Ext w w'/\fX w A A'
theorem oB.ok{w w'}{q:Rat}{e:Ending}(h:oB w q e w'):lQ w q e w':=by
 obtain⟨neg,A,n,c,A',n',c',k0,k1,k2,_⟩:=h;exact⟨neg,A,n,c,A',n',c',k0,k1,k2⟩
theorem jzbr(neg:Bool)A1 A2(n1 c1 n2 c2 N D:Nat)w(h1:aL w A1 n1 c1 N)(h2:aL w A2 n2 c2 D)(hn1:n1<=1000000)(hn2:n2<=1000000)(hD:0<D):
  Calls prog 106 #[.bool neg,.s A1 n1 c1,.s A2 n2 c2] w fun e w'=>∃(nb:Bool) (A:OA) (n c:Nat) (A':OA) (n' c':Nat),e=.returned (.tuple #[.agg #[.bool nb,.s A n c,.s A' n' c'],vI 0])/\RQR w' nb A n c A' n' c' (mkQ neg N D)/\Ext w w'/\fX w A A':=by
 obtain⟨b0,e0⟩:=aV w #[.bool false,zN,zN] 47;have z2:((n2:Int)==0)=false:=(by have:=h2.eq_zero;exact yK.2 (by omega));have H1:=Hx (h1.K e0);have H2:=Hx (h2.K e0);have qj:0<N.gcd D:=Nat.gcd_pos_of_pos_right N hD;have qh:N.gcd D<=D:=Nat.le_of_dvd hD (Nat.gcd_dvd_right N D);have G:=Hx (kQa qj qh);have B0:=Hx (b0);have E0:=Hx (e0);clear h1 h2 b0 e0 qj qh;go_enter func106,ntmps106;(go_wp2_with fail);refine(jzjr A1 A2 n1 c1 n2 c2 N D _ H1.o H2.o hn1 hn2).mono ?_;rintro e w1 ⟨A3,n3,c3,rfl,h3,x1⟩;have qz:n3<=n2:=h3.lenOf (kQ2 G.o.2 H2.o.lt_pow);have H3:=Hx (kQa h3 (kQa (H1.o.K x1) (H2.o.K x1)));have B1:=Hx (B0.o.K x1);have E1:=Hx (E0.o.tr x1);clear h3 x1 B0 E0 H1 H2;(go_wp2_with fail);refine(uE A1 A3 n1 c1 n3 c3 N _ _ H3.o.2.1 H3.o.1 (by omega) (by omega) G.o.1).mono ?_;rintro e w2 ⟨A4,n4,c4,A5,n5,c5,rfl,h4,h5,x2,qn⟩;have qk:Hid (∀ad,A4=some ad->w.heap.size<=ad.block):=Hx (fun ad h=>yY E1.o.size (qn ad h));clear qn;have H4:=Hx (kQa h4 (kQa (H3.o.1.K x2) (H3.o.2.2.K x2)));have B2:=Hx (B1.o.K x2);have E2:=Hx (E1.o.tr x2);clear h4 h5 x2 H3 B1 E1;(go_wp2_with fail);refine(uE A2 A3 n2 c2 n3 c3 D _ _ H4.o.2.2 H4.o.2.1 (by omega) (by omega) G.o.1).mono ?_;rintro e w3 ⟨A6,n6,c6,A7,n7,c7,rfl,h6,h7,x3,qm⟩;have FR:Hid (fX w A4 A6):=Hx (⟨qk.o,fun ad h=>yY E2.o.size (qm ad h)⟩);clear qm qk;have qo:=(H4.o.1.K x3).eq_zero;have H6:=Hx (kQa (H4.o.1.K x3) h6);have B3:=Hx (B2.o.K x3);have E3:=Hx (E2.o.tr x3);obtain⟨⟨i0,i1,i2⟩,f0,f1,f2⟩:=B3.o.t3;have qp:N/N.gcd D=0↔N=0:=(by constructor;{intro h;(rcases kQm N with h0|h0);{exact h0};have:=Nat.div_pos (Nat.le_of_dvd h0 (Nat.gcd_dvd_left N D)) G.o.1;omega};intro h;rw[h];simp);have qg:=Hx qo;have qe:=Hx qp;clear h6 h7 x3 H4 B2 E2 qo qp;by_cases qf:D/N.gcd D=1;{obtain⟨rfl,bb,oo,rfl,qw,qx⟩:n6=1/\∃b o:Nat,A6=some (aD b o)/\b<w3.heap.size/\w3.cell? (aD b o)=some (vI 1):=(by have h:=H6.o.2;rw[qf]at h;exact h.one);have DD:Hid (aL w3 none 0 0 (if D/N.gcd D=1 then 0 else D/N.gcd D)):=Hx (by rw[if_pos qf];exact aL.zero _ _ _);clear qf;by_cases qa:N=0;{obtain rfl:n4=0:=qg.o.2 (qe.o.2 qa);obtain⟨r1,r2⟩:=mP (w:=w) (neg:=neg) (N:=N) (D:=D) (g:=w.heap.size) (by omega) false (by rw[qa];simp) (by rw[qe.o.2 qa];exact aL.zero w3 none 0) DD.o B3.o (yX _) E3.o;have q3:=((B3.o.sT 0 (.bool false)).sT 1 zN).sT 2 zN;have RF:=Hx (kQa q3 (kQa r1 r2));clear q3 r1 r2 qa;go_wp2;exact bodyPost_ret (v:=.tuple #[.agg #[.bool false,zN,zN],vI 0]) (by simp[results,results106,go_sem,RF.o.1.cell]) rfl ⟨_,_,_,_,_,_,_,rfl,RF.o.2.1,RF.o.2.2,FR.o.zr.zl⟩};have zn:((n4:Int)==0)=false:=yK.2 (fun h=>qa (qe.o.1 (qg.o.1 (by omega))));obtain⟨r1,r2⟩:=mP (w:=w) (neg:=neg) (N:=N) (D:=D) (g:=w.heap.size) (by omega) neg (by simp[qa]) H6.o.1 DD.o B3.o (yX _) E3.o;have q3:=((B3.o.sT 0 (.bool neg)).sT 1 (.s A4 n4 c4)).sT 2 zN;have RF:=Hx (kQa q3 (kQa r1 r2));clear q3 r1 r2 qa;go_wp2;exact bodyPost_ret (v:=.tuple #[.agg #[.bool neg,.s A4 n4 c4,zN],vI 0]) (by simp[results,results106,go_sem,RF.o.1.cell]) rfl ⟨_,_,_,_,_,_,_,rfl,RF.o.2.1,RF.o.2.2,FR.o.zr⟩};have DD:Hid (aL w3 A6 n6 c6 (if D/N.gcd D=1 then 0 else D/N.gcd D)):=Hx (by rw[if_neg qf];exact H6.o.2);by_cases qi:n6=1;{subst qi;obtain⟨bb,oo,dd,rfl,qw,qx,qy⟩:=H6.o.2.notone qf;clear qf;by_cases qa:N=0;{obtain rfl:n4=0:=qg.o.2 (qe.o.2 qa);obtain⟨r1,r2⟩:=mP (w:=w) (neg:=neg) (N:=N) (D:=D) (g:=w.heap.size) (by omega) false (by rw[qa];simp) (by rw[qe.o.2 qa];exact aL.zero w3 none 0) DD.o B3.o (yX _) E3.o;have q3:=((B3.o.sT 0 (.bool false)).sT 1 zN).sT 2 (.s (some (aD bb oo)) 1 c6);have RF:=Hx (kQa q3 (kQa r1 r2));clear q3 r1 r2 qa;go_wp2;exact bodyPost_ret (v:=.tuple #[.agg #[.bool false,zN,.s (some (aD bb oo)) 1 c6],vI 0]) (by simp[results,results106,go_sem,RF.o.1.cell]) rfl ⟨_,_,_,_,_,_,_,rfl,RF.o.2.1,RF.o.2.2,FR.o.zl⟩};have zn:((n4:Int)==0)=false:=yK.2 (fun h=>qa (qe.o.1 (qg.o.1 (by omega))));obtain⟨r1,r2⟩:=mP (w:=w) (neg:=neg) (N:=N) (D:=D) (g:=w.heap.size) (by omega) neg (by simp[qa]) H6.o.1 DD.o B3.o (yX _) E3.o;have q3:=((B3.o.sT 0 (.bool neg)).sT 1 (.s A4 n4 c4)).sT 2 (.s (some (aD bb oo)) 1 c6);have RF:=Hx (kQa q3 (kQa r1 r2));clear q3 r1 r2 qa;go_wp2;exact bodyPost_ret (v:=.tuple #[.agg #[.bool neg,.s A4 n4 c4,.s (some (aD bb oo)) 1 c6],vI 0]) (by simp[results,results106,go_sem,RF.o.1.cell]) rfl ⟨_,_,_,_,_,_,_,rfl,RF.o.2.1,RF.o.2.2,FR.o⟩};have qt:((n6:Int)==1)=false:=yK.2 (by omega);clear qf qi;by_cases qa:N=0;{obtain rfl:n4=0:=qg.o.2 (qe.o.2 qa);obtain⟨r1,r2⟩:=mP (w:=w) (neg:=neg) (N:=N) (D:=D) (g:=w.heap.size) (by omega) false (by rw[qa];simp) (by rw[qe.o.2 qa];exact aL.zero w3 none 0) DD.o B3.o (yX _) E3.o;have q3:=((B3.o.sT 0 (.bool false)).sT 1 zN).sT 2 (.s A6 n6 c6);have RF:=Hx (kQa q3 (kQa r1 r2));clear q3 r1 r2 qa;go_wp2;exact bodyPost_ret (v:=.tuple #[.agg #[.bool false,zN,.s A6 n6 c6],vI 0]) (by simp[results,results106,go_sem,RF.o.1.cell]) rfl ⟨_,_,_,_,_,_,_,rfl,RF.o.2.1,RF.o.2.2,FR.o.zl⟩};have zn:((n4:Int)==0)=false:=yK.2 (fun h=>qa (qe.o.1 (qg.o.1 (by omega))));obtain⟨r1,r2⟩:=mP (w:=w) (neg:=neg) (N:=N) (D:=D) (g:=w.heap.size) (by omega) neg (by simp[qa]) H6.o.1 DD.o B3.o (yX _) E3.o;have q3:=((B3.o.sT 0 (.bool neg)).sT 1 (.s A4 n4 c4)).sT 2 (.s A6 n6 c6);have RF:=Hx (kQa q3 (kQa r1 r2));clear q3 r1 r2 qa;go_wp2;exact bodyPost_ret (v:=.tuple #[.agg #[.bool neg,.s A4 n4 c4,.s A6 n6 c6],vI 0]) (by simp[results,results106,go_sem,RF.o.1.cell]) rfl ⟨_,_,_,_,_,_,_,rfl,RF.o.2.1,RF.o.2.2,FR.o⟩
theorem jzbs(neg:Bool)A1 A2(n1 c1 n2 c2 N D:Nat)w(h1:aL w A1 n1 c1 N)(h2:aL w A2 n2 c2 D)(hn1:n1<=1000000)(hn2:n2<=1000000)(hD:0<D):
  Calls prog 106 #[.bool neg,.s A1 n1 c1,.s A2 n2 c2] w fun e w'=>∃(nb:Bool) (A:OA) (n c:Nat) (A':OA) (n' c':Nat),e=.returned (.tuple #[.agg #[.bool nb,.s A n c,.s A' n' c'],vI 0])/\RQR w' nb A n c A' n' c' (mkQ neg N D)/\Ext w w':=
 (jzbr neg A1 A2 n1 c1 n2 c2 N D w h1 h2 hn1 hn2 hD).mono fun e w' ⟨nb,A,n,c,A',n',c',k0,k1,k2,_⟩=>⟨nb,A,n,c,A',n',c',k0,k1,k2⟩
end Go.Proofs.YtojpooidhilnfaaGreatDoor
namespace Go.Proofs.YtojpooidhilnfaaGreatDoor
open Go.Proofs.Tryz
open Go.RowKit Go.Sort
theorem gJ{w W:World}{nb:Bool}{A A'}{n c n' c' g:Nat}{q:Rat}{cs:Array Value}(h:RQR W nb A n c A' n' c' q)(hb:Blk W g 47 cs)(hg:w.heap.size<=g)(hx:Ext w W):
  RQR (((W.setCell (aD g 0) (.bool nb)).setCell (aD g 1) (.s A n c)).setCell (aD g 2) (.s A' n' c')) nb A n c A' n' c' q/\Ext w (((W.setCell (aD g 0) (.bool nb)).setCell (aD g 1) (.s A n c)).setCell (aD g 2) (.s A' n' c')):=
 ⟨h.other (uG W g _ _ _) hb (by decide),((hx.sT (p:=(aD g 0)) hg _).sT (p:=(aD g 1)) hg _).sT (p:=(aD g 2)) hg _⟩
theorem rJ(neg:Bool)A1 A2(n1 c1 n2 c2 N D:Nat)w(h1:aL w A1 n1 c1 N)(h2:aL w A2 n2 c2 D)(hn1:n1<=1000000)(hn2:n2<=1000000)(hD:0<D):
  Calls prog 50 #[.bool neg,.s A1 n1 c1,.s A2 n2 c2] w (oB w (mkQ neg N D)):=by
 obtain⟨b0,e0⟩:=aV w #[.bool false,zN,zN] 47;have H1:=Hx (h1.K e0);have H2:=Hx (h2.K e0);have B0:=Hx (b0);have E0:=Hx (e0);clear h1 h2 b0 e0;go_enter func50,ntmps50;(go_wp2_with fail);refine(jzbr neg A1 A2 n1 c1 n2 c2 N D _ H1.o H2.o hn1 hn2 hD).mono ?_;rintro e w1 ⟨nb,A,n,c,A',n',c',rfl,hq,x1,qa⟩;have FR:=Hx (qa.le E0.o.size);clear qa;have X1:=Hx ((eR w1).alloc (.cells #[.bool nb,.s A n c,.s A' n' c'] 47));have B1:=Hx ((B0.o.K x1).K X1.o);have E1:=Hx ((E0.o.tr x1).tr X1.o);have Q1:=Hx (hq.K X1.o);obtain⟨⟨j0,j1,j2⟩,_⟩:=(eN w1 47 #[.bool nb,.s A n c,.s A' n' c']).t3;obtain⟨⟨i0,i1,i2⟩,f0,f1,f2⟩:=B1.o.t3;clear x1 hq B0 E0 X1;obtain⟨r1,r2⟩:=gJ (w:=w) Q1.o B1.o (yX _) E1.o;have q3:=((B1.o.sT 0 (.bool nb)).sT 1 (.s A n c)).sT 2 (.s A' n' c');have RF:=Hx (kQa q3 (kQa r1 r2));clear q3 r1 r2;go_wp2;exact bodyPost_ret (v:=.agg #[.bool nb,.s A n c,.s A' n' c']) (by simp[results,results50,go_sem,RF.o.1.cell]) rfl ⟨_,_,_,_,_,_,_,rfl,RF.o.2.1,RF.o.2.2,FR.o⟩
theorem jzbt(neg:Bool)A1 A2(n1 c1 n2 c2 N D:Nat)w(h1:aL w A1 n1 c1 N)(h2:aL w A2 n2 c2 D)(hn1:n1<=1000000)(hn2:n2<=1000000)(hD:0<D):
 Calls prog 50 #[.bool neg,.s A1 n1 c1,.s A2 n2 c2] w (lQ w (mkQ neg N D)):=(rJ neg A1 A2 n1 c1 n2 c2 N D w h1 h2 hn1 hn2 hD).mono fun e w' h=>h.ok
theorem jzbu(x:Int)w(hx: -2147483648<x)(hx2:x<2147483648):
  Calls prog 51 #[vI x] w (kH w x.natAbs):=by
 by_cases h0:x<0;{obtain⟨N,hN⟩:∃N:Nat,N=x.natAbs:=⟨_,rfl⟩;have qa:x= -(N:Int):=(by omega);have qe:1<=N:=(by omega);have qf:N<2147483648:=(by omega);rw[<-hN];subst qa;clear hN;have hd:decide (-(N:Int)<0)=true:=(by simp;omega);clear hx hx2 h0;go_enter func51,ntmps51;(go_wp2_with fail);rw[show-(-(N:Int)+1)+1=(N:Int) by omega];refine(lN N _ (by omega)).mono ?_;rintro e w1 ⟨A,n,c,rfl,h1,x1,fr⟩;have F:=Hx (kQa h1 (kQa x1 fr));clear h1 x1 fr;go_wp2;go_ret;exact⟨_,_,_,rfl,F.o.1,F.o.2.1,F.o.2.2⟩};(obtain⟨N,hN⟩:∃N:Nat,N=x.natAbs:=⟨_,rfl⟩;have qa:x=(N:Int):=(by omega);rw[<-hN];subst qa;clear hN;have hd:decide ((N:Int)<0)=false:=by simp);go_enter func51,ntmps51;(go_wp2_with fail);refine(lN N _ (by omega)).mono ?_;rintro e w1 ⟨A,n,c,rfl,h1,x1,fr⟩;have F:=Hx (kQa h1 (kQa x1 fr));clear h1 x1 fr;go_wp2;go_ret;exact⟨_,_,_,rfl,F.o.1,F.o.2.1,F.o.2.2⟩
theorem jzbv{w}{A}{n c:Nat}{x:Int}(h:aL w A n c x.natAbs)(hx: -2147483648<x)(hx2:x<2147483648):n<=2:=h.lenOf (by
 have:G6^2=1000000000000:=(by decide);omega)
theorem jzjt(x y:Int)w(hx: -2147483648<x)(hx2:x<2147483648)(hy: -2147483648<y)(hy2:y<2147483648)(hy0:y≠0):
  Calls prog 14 #[vI x,vI y] w (lQ w (ofQ x y)):=by
 obtain⟨b0,e0⟩:=aV w #[.bool false,zN,zN] 47;have B0:=Hx (b0);have E0:=Hx (e0);clear b0 e0;go_enter func14,ntmps14;(go_wp2_with fail);refine(jzbu x _ hx hx2).mono ?_;rintro e w1 ⟨A1,n1,c1,rfl,h1,x1,_⟩;have l1:=jzbv h1 hx hx2;have H1:=Hx h1;have B1:=Hx (B0.o.K x1);have E1:=Hx (E0.o.tr x1);clear h1 x1 B0 E0;(go_wp2_with fail);refine(jzbu y _ hy hy2).mono ?_;rintro e w2 ⟨A2,n2,c2,rfl,h2,x2,_⟩;have l2:=jzbv h2 hy hy2;have H2:=Hx (kQa (H1.o.K x2) h2);have B2:=Hx (B1.o.K x2);have E2:=Hx (E1.o.tr x2);clear h2 x2 B1 E1 H1;generalize hng:(decide (x<0) !=decide (y<0))=ng at*;(go_wp2_with fail);refine(jzbt _ A1 A2 n1 c1 n2 c2 _ _ _ H2.o.1 H2.o.2 (by omega) (by omega) (by omega)).mono ?_;rintro e w3 ⟨nb,A,n,c,A',n',c',rfl,hq,x3⟩;have B3:=Hx (B2.o.K x3);have E3:=Hx (E2.o.tr x3);obtain⟨⟨i0,i1,i2⟩,f0,f1,f2⟩:=B3.o.t3;obtain⟨r1,r2⟩:=gJ (w:=w) hq B3.o (yX _) E3.o;have q3:=((B3.o.sT 0 (.bool nb)).sT 1 (.s A n c)).sT 2 (.s A' n' c');have RF:=Hx (kQa q3 (kQa r1 r2));clear q3 r1 r2 hq x3;go_wp2;exact bodyPost_ret (v:=.agg #[.bool nb,.s A n c,.s A' n' c']) (by simp[results,results14,go_sem,RF.o.1.cell]) rfl ⟨_,_,_,_,_,_,_,rfl,RF.o.2.1,RF.o.2.2⟩
theorem jzju{w:World}{B n:Nat}{e:TypeId}{v:Value}{xs:List Value}(h:w.ownsRow B e 1 v n xs):∃(A:OA) (c:Nat),v=.s A n c/\n<=c/\RdT w e A xs:=by
 (obtain⟨h1,h2⟩:=h;rw[Nat.mul_one]at h1;rcases h2 with⟨h3,h4⟩|⟨g,cap,cur,h3,_,h5,h6,_,_,h9⟩);{subst h4;obtain rfl:xs=[]:=kQz h1;exact⟨none,0,h3,yX _,RdT.nil _ _ _⟩};refine⟨_,cap,h3,h6,fun _=>⟨g,0,cur,(0,0),rfl,h5,fun i hi=>?_⟩⟩;rw[Nat.mul_one]at h9;rw[kQu, <-h9,xG,if_pos (by omega)];simp
theorem jzbw{M i:Nat}(hi:i<Lib.nDigits M):(Lib.decDigits M)[i]?=some (UInt8.ofNat (48+M/10^(Lib.nDigits M-1-i)%10)):=by
 rw[Lib.decDigits_eq,yW,xJ hi];rfl
theorem oC(M i:Nat):(UInt8.ofNat (48+M/10^i%10)).toNat=48+M/10^i%10:=by
 have:M/10^i%10<10:=xT _ (by decide);rw[UInt8.toNat_ofNat'];omega
theorem jzjv{M:Nat}(h:1<Lib.nDigits M):M/10^(Lib.nDigits M-1)%10≠0:=by
 have qa:∀M,0<M->M/10^(Lib.nDigits M-1)%10≠0:=(by intro M;(induction M using Nat.strongRecOn with|ind M ih=>intro hM;by_cases h1:M<10;{rw[Lib.nDigits_small h1];simp;omega};rw[Lib.nDigits_big h1];have:=ih (M/10) (by omega) (by omega);have h2:=Lib.nDigits_pos (M/10);rw[show Lib.nDigits (M/10)+1-1=(Lib.nDigits (M/10)-1)+1 by omega,vD,vE, <-Nat.div_div_eq_div_mul];exact this));(refine qa M ?_;rcases kQm M with h0|h0);{subst h0;rw[Lib.nDigits_small (by decide)]at h;omega};exact h0
theorem jzbx(M:Nat):M<10^Lib.nDigits M:=by
 (induction M using Nat.strongRecOn with|ind M ih=>by_cases h1:M<10;{rw[Lib.nDigits_small h1];omega};rw[Lib.nDigits_big h1,vD];have:=ih (M/10) (by omega);omega)
theorem oD{S:ByteArray}{i:Nat}(h:i<S.size){x:UInt8}(hx:S.data.toList[i]?=some x):S[i]=x:=by
 have:S.data[i]?=some x:=(by simpa using hx);exact(kZn.1 this).2
theorem fB{w W:World}{nb:Bool}{A A'}{n c n' c' g:Nat}{q:Rat}{cs:Array Value}(h:aE W nb A n c A' n' c' q)(hb:Blk W g 35 cs)(hg:w.heap.size<=g)(hx:Ext w W):
  aE (((W.setCell (aD g 0) (.bool nb)).setCell (aD g 1) (.s A n c)).setCell (aD g 2) (.s A' n' c')) nb A n c A' n' c' q/\Ext w (((W.setCell (aD g 0) (.bool nb)).setCell (aD g 1) (.s A n c)).setCell (aD g 2) (.s A' n' c')):=
 ⟨h.other (uG W g _ _ _) hb (by decide),((hx.sT (p:=(aD g 0)) hg _).sT (p:=(aD g 1)) hg _).sT (p:=(aD g 2)) hg _⟩
theorem jzby(M:Nat)(c:UInt8)(hc:c.toNat<48):∀b∈Lib.decDigits M,(b==c)=false:=by
 intro b hb;obtain⟨i,hi,he⟩:=List.getElem_of_mem hb;have h1:=jzbw (M:=M) (i:=i) (by rw[<-Lib.decDigits_length];exact hi);rw[yG hi,he]at h1;injection h1 with h1
 have h2:=oC M (Lib.nDigits M-1-i);rw[<-h1]at h2;refine yK.2 (fun e=>?_);rw[e]at h2;omega
end Go.Proofs.YtojpooidhilnfaaGreatDoor
namespace Go.Proofs.YtojpooidhilnfaaGreatDoor
open Go.Proofs.Tryz
open Go.RowKit
theorem jzbz(a b:Rat)(h:b≠0):a/b=mkQ (decide (a.num<0) !=decide (b.num<0)) (a.num.natAbs*b.den) (b.num.natAbs*a.den):=by
 have hn:b.num≠0:=fun e=>h (Rat.num_eq_zero.1 e);have h1:(b⁻¹).num.natAbs=b.den:=(by rw[Rat.num_inv,Int.natAbs_mul,Int.natAbs_sign_of_ne_zero hn];simp);have h2:(b⁻¹).den=b.num.natAbs:=(by rw[Rat.den_inv,if_neg hn]);have h3:decide ((b⁻¹).num<0)=decide (b.num<0):=(by (rw[Rat.num_inv];have hd:=b.den_pos;rcases Int.lt_or_gt_of_ne hn with x|x);{rw[Int.sign_eq_neg_one_of_neg x];simp[x];omega};rw[Int.sign_eq_one_of_pos x];simp;omega);rw[Rat.div_def,rE,h1,h2,h3,vE a.den]
theorem jzjw(q:Rat)(h:q≠0):(!decide (q.num<0))=decide ((-q).num<0):=by
 have hn:q.num≠0:=fun e=>h (Rat.num_eq_zero.1 e);have:(-q).num= -q.num:=rfl;rw[this];rcases Int.lt_or_gt_of_ne hn with x|x
 ·rw[yO x,yP (by omega)];rfl
 rw[yP (by omega),yO (by omega)];rfl
theorem aE.neg{w}{neg:Bool}{A}{n c:Nat}{A'}{n' c':Nat}{q:Rat}(h:aE w neg A n c A' n' c' q)(h0:q≠0):aE w (!neg) A n c A' n' c' (-q):=by
 refine⟨?_,?_,h.2.2⟩;{rw[h.1];exact jzjw q h0};have:(-q).num.natAbs=q.num.natAbs:=(by show(-(q.num)).natAbs=_;omega);rw[this];exact h.2.1
theorem jzjx(na:Bool)A1(n1 c1:Nat)A1'(n1' c1':Nat)(a:Rat)w(ha:aE w na A1 n1 c1 A1' n1' c1' a):
  Calls prog 129 #[.agg #[.bool na,.s A1 n1 c1,.s A1' n1' c1']] w fun e w'=>∃nb,e=.returned (.agg #[.bool nb,.s A1 n1 c1,.s A1' n1' c1'])/\aE w' nb A1 n1 c1 A1' n1' c1' (-a)/\Ext w w':=by
 obtain⟨qf,qa,e0⟩:=dH w #[.bool na,.s A1 n1 c1,.s A1' n1' c1'] 35 #[.bool false,zN,zN] 35;have HA:=Hx ha;by_cases h0:a=0;{have hs:aC a=0:=kU.2 h0;have HN:=Hx (show-a=a by rw[h0];rfl);have HS:=Hx hs;clear ha h0 hs;go_enter func129,ntmps129;(go_wp2_with fail);refine(dA na A1 n1 c1 A1' n1' c1' a _ (HA.o.K e0)).mono ?_;rintro e w1 ⟨rfl,qe⟩;rw[HS.o];have qf:=qf.K qe;have qa:=qa.K qe;obtain⟨⟨i0,i1,i2⟩,h0,h1,h2⟩:=qf.t3;obtain⟨⟨k0,k1,k2⟩,f0,f1,f2⟩:=qa.t3;have E1:=Hx (e0.tr qe);clear qe e0;go_wp2;refine bodyPost_ret (v:=.agg #[.bool na,.s A1 n1 c1,.s A1' n1' c1']) (by simp[results,results129,go_sem,(((qa.sT 0 _).sT 1 _).sT 2 _).cell]) rfl ?_;obtain⟨q1,q2⟩:=fB (w:=w) (HA.o.K E1.o) qa (by omega) E1.o;exact⟨na,rfl,by rw[HN.o];exact q1,q2⟩};have hs:(aC a==0)=false:=yK.2 (fun h=>h0 (kU.1 h));have HN:=Hx (ha.neg h0);clear ha h0;go_enter func129,ntmps129;(go_wp2_with fail);refine(dA na A1 n1 c1 A1' n1' c1' a _ (HA.o.K e0)).mono ?_;rintro e w1 ⟨rfl,qe⟩;generalize aC a=sa at*;have qf:=qf.K qe;have qa:=qa.K qe;obtain⟨⟨i0,i1,i2⟩,h0,h1,h2⟩:=qf.t3;obtain⟨⟨k0,k1,k2⟩,f0,f1,f2⟩:=qa.t3;have E1:=Hx (e0.tr qe);clear qe e0;go_wp2;refine bodyPost_ret (v:=.agg #[.bool (!na),.s A1 n1 c1,.s A1' n1' c1']) (by simp[results,results129,go_sem,(((qa.sT 0 _).sT 1 _).sT 2 _).cell]) rfl ?_;obtain⟨q1,q2⟩:=fB (w:=w) (HN.o.K E1.o) qa (by omega) E1.o;exact⟨!na,rfl,q1,q2⟩
theorem rK(na nb:Bool)A1(n1 c1:Nat)A1'(n1' c1':Nat)A2(n2 c2:Nat)A2'(n2' c2':Nat)(a b:Rat)w
  (ha:aE w na A1 n1 c1 A1' n1' c1' a) (hb:aE w nb A2 n2 c2 A2' n2' c2' b) (l1:n1<=134217728) (l1':n1'<=134217728) (l2:n2<=134217728) (l2':n2'<=134217728):
  Calls prog 101 #[.agg #[.bool na,.s A1 n1 c1,.s A1' n1' c1'],.agg #[.bool nb,.s A2 n2 c2,.s A2' n2' c2']] w (eJ w (a-b)):=by
 obtain⟨b0,b1,b2,e0⟩:=gD w #[.bool na,.s A1 n1 c1,.s A1' n1' c1'] 35 #[.bool nb,.s A2 n2 c2,.s A2' n2' c2'] 35 #[.bool false,zN,zN] 35;have x1:Ext (((w.alloc (.cells #[.bool na,.s A1 n1 c1,.s A1' n1' c1'] 35)).alloc (.cells #[.bool nb,.s A2 n2 c2,.s A2' n2' c2'] 35)).alloc (.cells #[.bool false,zN,zN] 35)) (((w.alloc (.cells #[.bool na,.s A1 n1 c1,.s A1' n1' c1'] 35)).alloc (.cells #[.bool nb,.s A2 n2 c2,.s A2' n2' c2'] 35)).alloc (.cells #[.bool false,zN,zN] 35)).drew:=(eR _).drewN 1;have HA:=Hx (kQa ((ha.K e0).K x1) ((hb.K e0).K x1));have E0:=Hx (e0.tr x1);have BB:=Hx (kQa (b0.K x1) (kQa (b1.K x1) (b2.K x1)));obtain⟨⟨i0,i1,i2⟩,_⟩:=BB.o.1.t3;obtain⟨⟨j0,j1,j2⟩,_⟩:=BB.o.2.1.t3;clear ha hb b0 b1 b2 e0 x1;go_enter func101,ntmps101;go_wp2
 go_region_held3 (fun w'=>w'.cell? (aD w.heap.size 0)=some (.bool na)/\w'.cell? (aD w.heap.size 1)=some (.s A1 n1 c1)/\w'.cell? (aD w.heap.size 2)=some (.s A1' n1' c1')/\w'.cell? (aD (w.heap.size+1) 0)=some (.bool nb)/\w'.cell? (aD (w.heap.size+1) 1)=some (.s A2 n2 c2)/\w'.cell? (aD (w.heap.size+1) 2)=some (.s A2' n2' c2'))
  (first|with_reducible exact⟨i0,i1,i2,j0,j1,j2⟩|exact fj _ _ _|fail)
  (first
   |(go_at_call 129
     refine(jzjx nb A2 n2 c2 A2' n2' c2' b _ HA.o.2).mono ?_;rintro e w3 ⟨n3,rfl,h3,x3⟩;have G3:=Hx (kQa (BB.o.1.K x3) (kQa (BB.o.2.1.K x3) (BB.o.2.2.K x3)));have E3:=Hx (E0.o.tr x3);have R3:=Hx (kQa h3 (HA.o.1.K x3));obtain⟨⟨i0,i1,i2⟩,_⟩:=G3.o.1.t3;obtain⟨⟨j0,j1,j2⟩,_⟩:=G3.o.2.1.t3;clear x3 h3)
   |(go_at_call 58
     refine(gE na n3 A1 n1 c1 A1' n1' c1' A2 n2 c2 A2' n2' c2' a (-b) _ R3.o.2 R3.o.1 (by omega) (by omega) (by omega) (by omega) (fI (kQx (kQ7 _) (kQ7 _)))).mono ?_;rintro e w4 ⟨nq,B,m,d,B',m',d',rfl,h4,x4⟩;rw[<-Rat.sub_eq_add_neg]at h4;have G4:=Hx (kQa (G3.o.1.K x4) (kQa (G3.o.2.1.K x4) (G3.o.2.2.K x4)));have E4:=Hx (E3.o.tr x4);obtain⟨⟨i0,i1,i2⟩,_⟩:=G4.o.1.t3;obtain⟨⟨j0,j1,j2⟩,_⟩:=G4.o.2.1.t3;obtain⟨⟨p0,p1,p2⟩,f0,f1,f2⟩:=G4.o.2.2.t3;obtain⟨r1,r2⟩:=fB (w:=w) h4 G4.o.2.2 (by omega) E4.o;have q3:=((G4.o.2.2.sT 0 (.bool nq)).sT 1 (.s B m d)).sT 2 (.s B' m' d');have RF:=Hx (kQa q3 (kQa r1 r2));have hf:=fun u0 u1 u2=>((G4.o.1.far (p:=(aD (w.heap.size+1+1) 0)) (by simp;omega) u0).far (p:=(aD (w.heap.size+1+1) 1)) (by simp;omega) u1).far (p:=(aD (w.heap.size+1+1) 2)) (by simp;omega) u2;have hg:=fun u0 u1 u2=>((G4.o.2.1.far (p:=(aD (w.heap.size+1+1) 0)) (by simp) u0).far (p:=(aD (w.heap.size+1+1) 1)) (by simp) u1).far (p:=(aD (w.heap.size+1+1) 2)) (by simp) u2;have fj:=fun u0 u1 u2=>kQa ((hf u0 u1 u2).cell 0) (kQa ((hf u0 u1 u2).cell 1) (kQa ((hf u0 u1 u2).cell 2) (kQa ((hg u0 u1 u2).cell 0) (kQa ((hg u0 u1 u2).cell 1) ((hg u0 u1 u2).cell 2)))));clear x4 h4 q3 r1 r2)
   |fail)
 go_wp2;exact bodyPost_ret (v:=.agg #[.bool nq,.s B m d,.s B' m' d']) (by simp[results,results101,go_sem,RF.o.1.cell]) rfl ⟨_,_,_,_,_,_,_,rfl,RF.o.2.1,RF.o.2.2⟩
def jzjy(w:World)(q:Rat)(e:Ending)(w':World):Prop:=
 ∃(neg:Bool) (A:OA) (n c:Nat) (A':OA) (n' c':Nat),e=.returned (.tuple #[.agg #[.bool neg,.s A n c,.s A' n' c'],vI 0])/\aE w' neg A n c A' n' c' q/\Ext w w'
theorem rL(na nb:Bool)A1(n1 c1:Nat)A1'(n1' c1':Nat)A2(n2 c2:Nat)A2'(n2' c2':Nat)(a b:Rat)w
  (ha:aE w na A1 n1 c1 A1' n1' c1' a) (hb:aE w nb A2 n2 c2 A2' n2' c2' b) (hb0:b≠0) (l1:n1<=134217728) (l1':n1'<=134217728) (l2:n2<=134217728) (l2':n2'<=134217728):
  Calls prog 73 #[.agg #[.bool na,.s A1 n1 c1,.s A1' n1' c1'],.agg #[.bool nb,.s A2 n2 c2,.s A2' n2' c2']] w (jzjy w (a/b)):=by
 obtain⟨b0,b1,b2,e0⟩:=gD w #[.bool na,.s A1 n1 c1,.s A1' n1' c1'] 35 #[.bool nb,.s A2 n2 c2,.s A2' n2' c2'] 35 #[.bool false,zN,zN] 35;have hq:=jzbz a b hb0;rw[<-ha.1, <-hb.1]at hq;have qf:b.num≠0:=fun e=>hb0 (Rat.num_eq_zero.1 e);have qe:=Hx (fI (N:=a.num.natAbs*b.den) (D:=b.num.natAbs*a.den) (kQx (by omega) a.den_nz));have hs:(aC b==0)=false:=yK.2 (fun h=>hb0 (kU.1 h));have HQ:=Hx (hq);have HA:=Hx (ha);have HB:=Hx (hb);obtain⟨⟨j0,j1,j2⟩,_⟩:=b1.t3;clear ha hb hq qf hb0;go_enter func73,ntmps73;(go_wp2_with fail);refine(dA nb A2 n2 c2 A2' n2' c2' b _ (HB.o.K e0)).mono ?_;rintro e w1 ⟨rfl,x1⟩;generalize aC b=sb at*;have xd:Ext w1 w1.drew:=(eR w1).drewN 1;have BB:=Hx (kQa ((b0.K x1).K xd) (kQa ((b1.K x1).K xd) ((b2.K x1).K xd)));have E0:=Hx ((e0.tr x1).tr xd);clear b0 b1 b2 e0 x1 xd j0 j1 j2;obtain⟨⟨i0,i1,i2⟩,_⟩:=BB.o.1.t3;obtain⟨⟨j0,j1,j2⟩,_⟩:=BB.o.2.1.t3;have qa:True:=trivial;go_wp2
 go_region_held3 (fun w'=>w'.cell? (aD w.heap.size 0)=some (.bool na)/\w'.cell? (aD w.heap.size 1)=some (.s A1 n1 c1)/\w'.cell? (aD w.heap.size 2)=some (.s A1' n1' c1')/\w'.cell? (aD (w.heap.size+1) 0)=some (.bool nb)/\w'.cell? (aD (w.heap.size+1) 1)=some (.s A2 n2 c2)/\w'.cell? (aD (w.heap.size+1) 2)=some (.s A2' n2' c2'))
  (first|with_reducible exact⟨i0,i1,i2,j0,j1,j2⟩|exact fj _ _ _|fail)
  (first
   |(go_at_call 75
     have _t:=qa;refine(kT A1 A2' n1 c1 n2' c2' a.num.natAbs (dk b) _ (HA.o.2.1.K E0.o) (HB.o.2.2.K E0.o) (by omega) (by omega)).mono ?_;rintro e w3 ⟨A3,n3,c3,rfl,h3,x3⟩;clear qa;have L3:=kG h3 (HA.o.2.1.K E0.o) (HB.o.2.2.K E0.o);have h3:aF w3 A3 n3 c3 (a.num.natAbs*b.den):=(by rw[kF]at h3;exact h3);have G3:=Hx (kQa (BB.o.1.K x3) (kQa (BB.o.2.1.K x3) (BB.o.2.2.K x3)));have E3:=Hx (E0.o.tr x3);have R3:=Hx h3;obtain⟨⟨i0,i1,i2⟩,_⟩:=G3.o.1.t3;obtain⟨⟨j0,j1,j2⟩,_⟩:=G3.o.2.1.t3;clear x3 h3)
   |(go_at_call 75
     refine(kT A2 A1' n2 c2 n1' c1' b.num.natAbs (dk a) _ (HB.o.2.1.K E3.o) (HA.o.2.2.K E3.o) (by omega) (by omega)).mono ?_;rintro e w4 ⟨A4,n4,c4,rfl,h4,x4⟩;have L4:=kG h4 (HB.o.2.1.K E3.o) (HA.o.2.2.K E3.o);have h4:aF w4 A4 n4 c4 (b.num.natAbs*a.den):=(by rw[kF]at h4;exact h4);have G4:=Hx (kQa (G3.o.1.K x4) (kQa (G3.o.2.1.K x4) (G3.o.2.2.K x4)));have E4:=Hx (E3.o.tr x4);have R4:=Hx (kQa (R3.o.K x4) h4);obtain⟨⟨i0,i1,i2⟩,_⟩:=G4.o.1.t3;obtain⟨⟨j0,j1,j2⟩,_⟩:=G4.o.2.1.t3;clear x4 h4)
   |(go_at_call 78
     refine(qe.o (na !=nb) A3 A4 n3 c3 n4 c4 _ R4.o.1 R4.o.2 (by omega) (by omega)).mono ?_;rintro e w5 ⟨nq,B,m,d,B',m',d',rfl,h5,x5⟩;rw[<-HQ.o]at h5;have G5:=Hx (kQa (G4.o.1.K x5) (kQa (G4.o.2.1.K x5) (G4.o.2.2.K x5)));have E5:=Hx (E4.o.tr x5);obtain⟨⟨i0,i1,i2⟩,_⟩:=G5.o.1.t3;obtain⟨⟨j0,j1,j2⟩,_⟩:=G5.o.2.1.t3;obtain⟨⟨p0,p1,p2⟩,f0,f1,f2⟩:=G5.o.2.2.t3;obtain⟨r1,r2⟩:=fB (w:=w) h5 G5.o.2.2 (by omega) E5.o;have q3:=((G5.o.2.2.sT 0 (.bool nq)).sT 1 (.s B m d)).sT 2 (.s B' m' d');have RF:=Hx (kQa q3 (kQa r1 r2));have hf:=fun u0 u1 u2=>((G5.o.1.far (p:=(aD (w.heap.size+1+1) 0)) (by simp;omega) u0).far (p:=(aD (w.heap.size+1+1) 1)) (by simp;omega) u1).far (p:=(aD (w.heap.size+1+1) 2)) (by simp;omega) u2;have hg:=fun u0 u1 u2=>((G5.o.2.1.far (p:=(aD (w.heap.size+1+1) 0)) (by simp) u0).far (p:=(aD (w.heap.size+1+1) 1)) (by simp) u1).far (p:=(aD (w.heap.size+1+1) 2)) (by simp) u2;have fj:=fun u0 u1 u2=>kQa ((hf u0 u1 u2).cell 0) (kQa ((hf u0 u1 u2).cell 1) (kQa ((hf u0 u1 u2).cell 2) (kQa ((hg u0 u1 u2).cell 0) (kQa ((hg u0 u1 u2).cell 1) ((hg u0 u1 u2).cell 2)))));clear x5 h5 q3 r1 r2)
   |fail)
 go_wp2;exact bodyPost_ret (v:=.tuple #[.agg #[.bool nq,.s B m d,.s B' m' d'],vI 0]) (by simp[results,results73,go_sem,RF.o.1.cell]) rfl ⟨_,_,_,_,_,_,_,rfl,RF.o.2.1,RF.o.2.2⟩
def flN(q:Rat):Nat:=q.num.natAbs/q.den
def flQ(q:Rat):Rat:=mkQ false (flN q) 1
end Go.Proofs.YtojpooidhilnfaaGreatDoor
namespace Go.Proofs.YtojpooidhilnfaaGreatDoor
open Go.Proofs.Tryz
open Go.RowKit Go.Sort
def gK(q:Rat):List UInt8:=Lib.decDigits q.num.natAbs++(if q.den=1 then []else [47]++Lib.decDigits q.den)
theorem jzjz(q:Rat):eA q=(if q.num<0 then [45]else [])++gK q:=by unfold eA gK;rw[List.append_assoc]
theorem jzj0(M:Nat):∃b l,Lib.decDigits M=b::l/\(b==45)=false:=by
 have h1:=Lib.nDigits_pos M;have h2:=Lib.decDigits_length M;(match h:Lib.decDigits M,h2 with| [],h2=>simp at h2;omega|b::l,_=>exact⟨b,l,rfl,jzby M 45 (by decide) b (by rw[h];simp)⟩)
theorem jzj1(l r:List UInt8):(⟨(l++r).toArray⟩:ByteArray).extract 0 l.length=⟨l.toArray⟩:=by
 apply ByteArray.ext;rw[ByteArray.data_extract];apply Array.toList_inj.1;simp
theorem jzb0(l r:List UInt8)(c:UInt8):(⟨(l++c::r).toArray⟩:ByteArray).extract (l.length+1) (⟨(l++c::r).toArray⟩:ByteArray).size=⟨r.toArray⟩:=by
 apply ByteArray.ext;rw[ByteArray.data_extract];apply Array.toList_inj.1;rw[show(⟨(l++c::r).toArray⟩:ByteArray).size=(l++c::r).length from rfl];simp;exact yU (by omega)
end Go.Proofs.YtojpooidhilnfaaGreatDoor
namespace Go.Proofs.YtojpooidhilnfaaGreatDoor
open Go.Proofs.Tryz
open Go.RowKit
theorem Tryz.info44:(prog.info? 35).map (fun i=>(i.zero,i.size,i.bytes))=some (some (.agg #[.bool false,zN,zN]),3,56):=by kernel_rfl
section
variable (R:World->List Value->Rat->Prop) (t:TypeId)
def OQ(w:World)(B:Nat)(v:Value)(qs:LQ):Prop:=
 ∃css:List (List Value),css.length=qs.length/\(∀cs∈css,cs.length=3)/\w.ownsRow B t 3 v qs.length css.flatten/\∀(i:Nat) (q:Rat),qs[i]?=some q->∃cs,css[i]?=some cs/\R w cs q
end
section
variable {R:World->List Value->Rat->Prop} {t:TypeId} {w w':World} {B:Nat} {v v':Value} {qs:List Rat}
theorem OQ.nil:OQ R t w B zN []:=⟨[],rfl,(fun _ h=>by cases h),World.ownsRow_nil _ _ _ _,fun i q h=>by simp at h⟩
theorem OQ.K(hR:∀(w w':World) (cs:List Value) (q:Rat),R w cs q->Ext w w'->R w' cs q)(h:OQ R t w B v qs)(hx:Ext w w'):OQ R t w' B v qs:=by
 obtain⟨css,h1,h2,h3,h4⟩:=h;refine⟨css,h1,h2,h3.kept (bW hx) (bX _),fun i q hq=>?_⟩;obtain⟨cs,k1,k2⟩:=h4 i q hq;exact⟨cs,k1,hR _ _ _ _ k2 hx⟩
theorem OQ.push{css:List (List Value)}{cs:List Value}{q:Rat}(h1:css.length=qs.length)(h2:∀cs∈css,cs.length=3)(hl:cs.length=3)(h4:∀(i:Nat) (q:Rat),qs[i]?=some q->∃cs,css[i]?=some cs/\R w' cs q)
  (hq:R w' cs q) (hown:w'.ownsRow B t 3 v' (qs.length+1) (css.flatten++cs)):OQ R t w' B v' (qs++[q]):=by
 refine⟨css++[cs],by simp[h1],fun c hc=>?_,by rw[List.flatten_append,yQ];simpa using hown,fun i q' hq'=>?_⟩;{(rcases xY.1 hc with h|h);{exact h2 c h};simp at h;rw[h];exact hl};by_cases hi:i<qs.length;{rw[yR hi]at hq';obtain⟨c,k1,k2⟩:=h4 i q' hq';exact⟨c,by rw[yR (by omega)];exact k1,k2⟩};rw[yS (by omega)]at hq';have qa:i-qs.length=0:=(by (rcases kQm (i-qs.length)with h0|h0);{exact h0};rw[yI (by simp;omega)]at hq';cases hq');rw[qa]at hq';simp at hq';subst hq';exact⟨cs,by rw[yS (by omega),show i-css.length=0 by omega];rfl,hq⟩
end
def QP(w:World)(g:Nat)(qs:LQ):Prop:=
 ∃cur:Array Value,Blk w g 35 cur/\∀(i:Nat) (q:Rat),qs[i]?=some q->∃(neg:Bool) (A:OA) (n c:Nat) (A':OA) (n' c':Nat),
  (cur[i*3]?=some (.bool neg)/\cur[i*3+1]?=some (.s A n c)/\cur[i*3+2]?=some (.s A' n' c'))/\aE w neg A n c A' n' c' q
theorem QP.K{w w'}{g:Nat}{qs:LQ}(h:QP w g qs)(hx:Ext w w'):QP w' g qs:=by
 obtain⟨qa,h1,h2⟩:=h;refine⟨qa,h1.K hx,fun i q hq=>?_⟩;obtain⟨neg,A,n,c,A',n',c',h3,h4⟩:=h2 i q hq;exact⟨neg,A,n,c,A',n',c',h3,h4.K hx⟩
theorem QP.lt{w}{g:Nat}{qs:LQ}(h:QP w g qs):g<w.heap.size:=by
 obtain⟨qa,h1,_⟩:=h;exact h1.lt
theorem QP.at_{w}{g:Nat}{qs:LQ}(h:QP w g qs){i:Nat}{q:Rat}(hl:qs[i]?=some q):
  ∃(neg:Bool) (A:OA) (n c:Nat) (A':OA) (n' c':Nat),
   (w.cell? (aD g (i*3))=some (.bool neg)/\w.cell? (aD g (i*3+1))=some (.s A n c)/\w.cell? (aD g (i*3+2))=some (.s A' n' c'))/\
   (w.frozen? (aD g (i*3))=false/\w.frozen? (aD g (i*3+1))=false/\w.frozen? (aD g (i*3+2))=false)/\aE w neg A n c A' n' c' q:=by
 obtain⟨qa,h1,h2⟩:=h;obtain⟨neg,A,n,c,A',n',c',⟨e0,e1,e2⟩,h4⟩:=h2 i q hl;exact⟨neg,A,n,c,A',n',c',⟨by rw[h1.cell];exact e0,by rw[h1.cell];exact e1,by rw[h1.cell];exact e2⟩,⟨h1.frozen _,h1.frozen _,h1.frozen _⟩,h4⟩
theorem QP.take{w}{g:Nat}{qs:LQ}(h:QP w g qs)(m:Nat):QP w g (qs.take m):=by
 obtain⟨qa,h1,h2⟩:=h;refine⟨qa,h1,fun i q hq=>h2 i q ?_⟩;rw[xG]at hq;split at hq;{exact hq};cases hq
theorem mQ{cur:Array Value}{m j:Nat}{u0 u1 u2:Value}(hm:m*3+2<cur.size):(((cur.setIfInBounds (m*3) u0).setIfInBounds (m*3+1) u1).setIfInBounds (m*3+2) u2)[j]?=if j=m*3 then some u0 else if j=m*3+1 then some u1 else if j=m*3+2 then some u2 else cur[j]?:=by
 rw[Array.getElem?_setIfInBounds,Array.getElem?_setIfInBounds,Array.getElem?_setIfInBounds];simp only[Array.size_setIfInBounds]
 repeat' split
 all_goals first|rfl|omega
theorem QP.put{w}{g m:Nat}{qs:LQ}{q:Rat}{neg:Bool}{A}{n c:Nat}{A'}{n' c':Nat}(h:QP w g qs)(hm:m<qs.length)(hl:aE w neg A n c A' n' c' q):
  QP (((w.setCell (aD g (m*3)) (.bool neg)).setCell (aD g (m*3+1)) (.s A n c)).setCell (aD g (m*3+2)) (.s A' n' c')) g (qs.set m q):=by
 obtain⟨qf,h1,h2⟩:=h;have g2:=((aO w g (m*3) (.bool neg)).trans (aO _ g (m*3+1) (.s A n c))).trans (aO _ g (m*3+2) (.s A' n' c'));have b:=((h1.sT (m*3) (.bool neg)).sT (m*3+1) (.s A n c)).sT (m*3+2) (.s A' n' c');have qa:m*3+2<qf.size:=(by obtain⟨_,_,_,_,_,_,_,⟨_,_,e2⟩,_⟩:=h2 m _ (yG hm);exact(kZn.1 e2).1);refine⟨_,b,fun i p hi=>?_⟩;by_cases e:m=i;{subst e;(rw[yM hm]at hi;injection hi with hi);subst hi;refine⟨neg,A,n,c,A',n',c',⟨?_,?_,?_⟩,hl.other g2 h1 (by decide)⟩;{rw[mQ qa,if_pos rfl]};{rw[mQ qa,if_neg (by omega),if_pos rfl]};rw[mQ qa,if_neg (by omega),if_neg (by omega),if_pos rfl]};rw[vN e]at hi;obtain⟨qe,B,k,d,B',k',d',⟨e0,e1,e2⟩,h4⟩:=h2 i p hi;refine⟨qe,B,k,d,B',k',d',⟨?_,?_,?_⟩,h4.other g2 h1 (by decide)⟩;{rw[mQ qa,if_neg (by omega),if_neg (by omega),if_neg (by omega)];exact e0};{rw[mQ qa,if_neg (by omega),if_neg (by omega),if_neg (by omega)];exact e1};rw[mQ qa,if_neg (by omega),if_neg (by omega),if_neg (by omega)];exact e2
end Go.Proofs.YtojpooidhilnfaaGreatDoor
namespace Go.Proofs.YtojpooidhilnfaaGreatDoor
open Go.Proofs.Tryz
def atL(l:LN)(i:Nat):Nat:=l[i]?.getD 0
def jzj2(l:LN)(i j:Nat):LN:=(l.set i (atL l j)).set j (atL l i)
theorem jzb1{l:LN}{i:Nat}(h:i<l.length):l[i]?=some (atL l i):=by
 unfold atL;rw[yG h];rfl
theorem jzj3(l:LN)(i k v:Nat)(hi:i<l.length):atL (l.set i v) k=if k=i then v else atL l k:=by
 unfold atL;by_cases e:k=i;{subst e;rw[yM hi,if_pos rfl];rfl};rw[vN (fun h=>e h.symm),if_neg e]
open Go.RowKit
def dJ(w:World)(g:Nat)(l:LN):Prop:=∃cs:Array Value,Blk w g 3 cs/\∀i,i<l.length->cs[i]?=some (vI ((atL l i:Nat):Int))
theorem dJ.K{w w'}{g:Nat}{l:LN}(h:dJ w g l)(hx:Ext w w'):dJ w' g l:=by
 obtain⟨cs,h1,h2⟩:=h;exact⟨cs,h1.K hx,h2⟩
theorem dJ.cell{w}{g:Nat}{l:LN}(h:dJ w g l){i:Nat}(hi:i<l.length):w.cell? (aD g i)=some (vI ((atL l i:Nat):Int)):=by
 obtain⟨cs,h1,h2⟩:=h;rw[h1.cell];exact h2 i hi
theorem dJ.lt{w}{g:Nat}{l:LN}(h:dJ w g l):g<w.heap.size:=by
 obtain⟨cs,h1,_⟩:=h;exact h1.lt
theorem dJ.frozen{w}{g:Nat}{l:LN}(h:dJ w g l)(i:Nat):w.frozen? (aD g i)=false:=by
 obtain⟨cs,h1,_⟩:=h;exact h1.frozen i
theorem dJ.put{w}{g:Nat}{l:LN}(h:dJ w g l){i:Nat}(v:Nat)(hi:i<l.length):dJ (w.setCell (aD g i) (vI ((v:Nat):Int))) g (l.set i v):=by
 obtain⟨cs,h1,h2⟩:=h;refine⟨_,h1.sT i _,fun k hk=>?_⟩;rw[yV]at hk;rw[jzj3 _ _ _ _ hi,Array.getElem?_setIfInBounds];have hs:=(kZn.1 (h2 i hi)).1;by_cases e:i=k;{subst e;rw[if_pos rfl,if_pos hs,if_pos rfl]};rw[if_neg e,if_neg (fun h=>e h.symm)];exact h2 k hk
theorem dJ.swap{w}{g:Nat}{l:LN}(h:dJ w g l){i j:Nat}(hi:i<l.length)(hj:j<l.length):dJ ((w.setCell (aD g i) (vI ((atL l j:Nat):Int))).setCell (aD g j) (vI ((atL l i:Nat):Int))) g (jzj2 l i j):=
 (h.put (atL l j) hi).put (atL l i) (by rw[yV];exact hj)
theorem OI.row{w}{B:Nat}{A}{n c:Nat}{l:LN}(h:OI w B (.s A n c) l)(hl:l.length=n)(h0:0<n):∃g,A=(sA g)/\B<=g/\dJ w g l:=by
 obtain⟨h1,h2⟩:=h;rcases h2 with⟨h3,h4⟩|⟨g',cap,cur,h3,h4,h5,h6,h7,h8,h9⟩
 ·have:l=[]:=by simpa [ints]using h4
  subst this;simp at hl;omega
 injection h3 with e1 e2 e3
 refine⟨g',e1,h4,cur,h5,fun i hi=>?_⟩;have qa:(cur.toList.take l.length)[i]?=(ints l)[i]?:=by
  have:=h9;rw[<-this];simp
 rw[xG,if_pos hi]at qa;rw[<-kQw,qa];unfold ints;rw[yW,jzb1 hi];rfl
theorem QR.other{w w'}{cs:List Value}{q:Rat}{g:Nat}{t':TypeId}{cs':Array Value}(h:QR w cs q)(hg:w.grownBy w' (some g))(hb:Blk w g t' cs')(hne:188≠t'):QR w' cs q:=by
 obtain⟨neg,A,n,c,A',n',c',e,h1⟩:=h;exact⟨neg,A,n,c,A',n',c',e,h1.other hg hb hne⟩
def QB(w:World)(g:Nat)(qs:LQ):Prop:=
 ∃css:List (List Value),css.length=qs.length/\(∀cs∈css,cs.length=3)/\Blk w g 35 css.flatten.toArray/\∀(i:Nat) (q:Rat),qs[i]?=some q->∃cs,css[i]?=some cs/\QR w cs q
theorem QB.K{w w'}{g:Nat}{qs:LQ}(h:QB w g qs)(hx:Ext w w'):QB w' g qs:=by
 obtain⟨css,h1,h2,h3,h4⟩:=h;refine⟨css,h1,h2,h3.K hx,fun i q hl=>?_⟩;obtain⟨cs,k1,k2⟩:=h4 i q hl;exact⟨cs,k1,k2.K hx⟩
theorem QB.lt{w}{g:Nat}{qs:LQ}(h:QB w g qs):g<w.heap.size:=by
 obtain⟨css,_,_,h3,_⟩:=h;exact h3.lt
theorem QB.blk{w}{g:Nat}{qs:LQ}(h:QB w g qs):∃cs,Blk w g 35 cs:=by
 obtain⟨css,_,_,h3,_⟩:=h;exact⟨_,h3⟩
theorem QB.at_{w}{g:Nat}{qs:LQ}(h:QB w g qs){i:Nat}{q:Rat}(hl:qs[i]?=some q):
  ∃(neg:Bool) (A:OA) (n c:Nat) (A':OA) (n' c':Nat),
   (w.cell? (aD g (i*3))=some (.bool neg)/\w.cell? (aD g (i*3+1))=some (.s A n c)/\w.cell? (aD g (i*3+2))=some (.s A' n' c'))/\
   (w.frozen? (aD g (i*3))=false/\w.frozen? (aD g (i*3+1))=false/\w.frozen? (aD g (i*3+2))=false)/\aE w neg A n c A' n' c' q:=by
 obtain⟨css,h1,h2,h3,h4⟩:=h;obtain⟨cs,k1,neg,A,n,c,A',n',c',rfl,k2⟩:=h4 i q hl;have hi:=(yH.1 hl).1;have qa:∀k,k<3->w.cell? (aD g (i*3+k))=([.bool neg,.s A n c,.s A' n' c']:List Value)[k]?:=fun k hk=>(by rw[h3.cell,xI,eL css h2 i k (by omega) hk,k1];rfl);exact⟨neg,A,n,c,A',n',c',⟨qa 0 (by omega),qa 1 (by omega),qa 2 (by omega)⟩,⟨h3.frozen _,h3.frozen _,h3.frozen _⟩,k2⟩
theorem QB.other{w w'}{g g':Nat}{qs:LQ}{t':TypeId}{cs':Array Value}(h:QB w g qs)(hg:w.grownBy w' (some g'))(hb:Blk w g' t' cs')(hne:188≠t')(hgg:g≠g'):QB w' g qs:=by
 obtain⟨css,h1,h2,h3,h4⟩:=h;refine⟨css,h1,h2,(hg.block g h3.lt (fun e=>hgg (by injection e))).trans h3,fun i q hq=>?_⟩;obtain⟨cs,k1,k2⟩:=h4 i q hq;exact⟨cs,k1,k2.other hg hb hne⟩
theorem iJ{K:Nat}(css:List (List Value))(h2:∀cs∈css,cs.length=K)(m:Nat)(hml:m<css.length)(c1:List Value)(k:Nat)(v:Value)(hc:c1.length=K)(hk:k<K):((css.set m c1).flatten).set (m*K+k) v=(css.set m (c1.set k v)).flatten:=by
 have qa:∀c∈css.set m c1,c.length=K:=fun c hcc=>(by (rcases xE hcc with h|h);{exact h2 c h};rw[h];exact hc);have h:=nU (css.set m c1) qa m k v (by rw[yV];exact hml) hk;rw[yM hml,kQ1,List.set_set]at h;exact h
theorem QB.put{w}{g m:Nat}{qs:LQ}{q:Rat}{neg:Bool}{A}{n c:Nat}{A'}{n' c':Nat}(h:QB w g qs)(hm:m<qs.length)(hl:aE w neg A n c A' n' c' q):
  QB (((w.setCell (aD g (m*3)) (.bool neg)).setCell (aD g (m*3+1)) (.s A n c)).setCell (aD g (m*3+2)) (.s A' n' c')) g (qs.set m q):=by
 obtain⟨css,h1,h2,h3,h4⟩:=h;have g2:=((aO w g (m*3) (.bool neg)).trans (aO _ g (m*3+1) (.s A n c))).trans (aO _ g (m*3+2) (.s A' n' c'));have qa:m<css.length:=(by omega);obtain⟨cs,qf⟩:∃cs,css[m]?=some cs:=⟨_,yG qa⟩;have qe:cs.length=3:=h2 cs (yJ qf);have e0:css=css.set m cs:=(by apply uK;intro i;by_cases e:m=i;{subst e;rw[yM qa];exact qf};rw[vN e]);have b:=((h3.sT (m*3+0) (.bool neg)).sT (m*3+1) (.s A n c)).sT (m*3+2) (.s A' n' c');rw[yD,yD,yD,e0,iJ css h2 m qa cs 0 _ qe (by omega),iJ css h2 m qa _ 1 _ (by simp[qe]) (by omega),iJ css h2 m qa _ 2 _ (by simp[qe]) (by omega)]at b;have e3:((cs.set 0 (.bool neg)).set 1 (.s A n c)).set 2 (.s A' n' c')=[.bool neg,.s A n c,.s A' n' c']:=(by (rcases cs with _|⟨a0,_|⟨a1,_|⟨a2,_|⟨a3,r⟩⟩⟩⟩);all_goals first|(simp at qe;done)|rfl);rw[e3]at b;refine⟨css.set m [.bool neg,.s A n c,.s A' n' c'],by simp[h1],fun c hcc=>?_,b,fun i p hi=>?_⟩;{(rcases xE hcc with h|h);{exact h2 c h};rw[h];rfl};by_cases e:m=i;{subst e;(rw[yM hm]at hi;injection hi with hi);subst hi;exact⟨_,yM qa,neg,A,n,c,A',n',c',rfl,hl.other g2 h3 (by decide)⟩};rw[vN e]at hi;obtain⟨qg,k1,k2⟩:=h4 i p hi;exact⟨qg,by rw[vN e];exact k1,k2.other g2 h3 (by decide)⟩
theorem QB.ql{w}{g:Nat}{qs:LQ}(h:QB w g qs):QL w (sA g) qs:=by
 obtain⟨css,h1,h2,h3,h4⟩:=h;exact⟨css,h1,h2,(RdT.of_blk h3 rfl).rd,h4⟩
theorem jzj4(N:Nat):madeCells #[.bool false,zN,zN] (N*3)=(List.replicate N [Value.bool false,zN,zN]).flatten.toArray:=by
 apply Array.ext';apply uK;intro i;have qa:∀cs∈List.replicate N [Value.bool false,zN,zN],cs.length=3:=fun cs h=>(by rw[uF h];rfl);have hl:=gH _ qa;rw[xC]at hl;by_cases hi:i<N*3;{have h1:=eL _ qa (i/3) (i%3) (by rw[xC];omega) (by omega);rw[show i/3*3+i%3=i by omega,xB,if_pos (by omega),kQ1]at h1;simp only[];rw[h1];have h2:(madeCells #[.bool false,zN,zN] (N*3)).toList[i]?=some ((#[.bool false,zN,zN]:Array Value)[i%3]!):=(by simp[madeCells,hi]);rw[h2];have h6:i%3=0\/i%3=1\/i%3=2:=(by omega);rcases h6 with e|e|e <;> rw[e] <;> rfl};rw[yI (by simp[madeCells];omega),yI (by simp only[];omega)]
theorem QB.made(w:World)(N:Nat):QB (w.alloc (.cells (madeCells #[.bool false,zN,zN] (N*3)) 35)) w.heap.size (List.replicate N 0):=by
 refine⟨List.replicate N [.bool false,zN,zN],by simp,fun cs h=>by rw[uF h];rfl,?_,fun i q hq=>?_⟩;{rw[jzj4];exact eN _ _ _};rw[xB]at hq;split at hq;{rename_i hi;(injection hq with hq);subst hq;exact⟨_,by rw[xB,if_pos hi],false,none,0,0,none,0,0,rfl,fA _⟩};cases hq
theorem SzQ.mkQ_{s:Bool}{n d k:Nat}(hd:d≠0)(hn:n<B32^k)(hdd:d<B32^k):SzQ (mkQ s n d) k:=by
 refine⟨?_,?_⟩;{rw[nE _ hd];exact kQ2 (kZi _ _) hn};rw[nF _ hd];exact kQ2 (kZi _ _) hdd
theorem rM{a b k m:Nat}(ha:a<B32^k)(hb:b<B32^m):a*b<B32^(k+m):=by
 rw[Nat.pow_add];rcases kQm b with h0|h0
 ·rw[h0,kQ8];exact Nat.mul_pos (kQy aZ) (kQy aZ)
 exact kZb ha (kQe hb) (kQy aZ)
theorem SzQ.mul{a b:Rat}{k m:Nat}(ha:SzQ a k)(hb:SzQ b m):SzQ (a*b) (k+m):=by
 rw[rE];exact SzQ.mkQ_ (kQx a.den_nz b.den_nz) (rM ha.1 hb.1) (rM ha.2 hb.2)
theorem SzQ.div{a b:Rat}{k m:Nat}(ha:SzQ a k)(hb:SzQ b m)(h0:b≠0):SzQ (a/b) (k+m):=by
 have hn:b.num≠0:=fun e=>h0 (Rat.num_eq_zero.1 e);rw[jzbz a b h0];refine SzQ.mkQ_ (kQx (by omega) a.den_nz) (rM ha.1 hb.2) ?_;rw[kZl];exact rM hb.1 ha.2
theorem SzQ.fl{a:Rat}{k:Nat}(ha:SzQ a k)(hk:1<=k):SzQ (flQ a) k:=by
 unfold flQ flN;refine SzQ.mkQ_ (by decide) (kQ2 (kZi _ _) ha.1) ?_;have h1:=kQk aZ hk;have h2:1<B32^1:=(by decide);omega
theorem jzj5(q:Rat):aC q<0↔q<0:=by
 have h:q.num<0↔q<0:=(by rw[<-Int.not_le,Rat.num_nonneg,Rat.not_le]);unfold aC;split;{rename_i h0;rw[<-h,h0]};split;{rename_i h1;exact⟨fun _=>h.1 h1,fun _=>by decide⟩};rename_i h1;exact⟨fun x=>by omega,fun x=>absurd (h.2 x) h1⟩
theorem dJ.made(w:World)(n:Nat):dJ (w.alloc (.cells (madeCells #[vI 0] n) 3)) w.heap.size (List.replicate n 0):=by
 refine⟨_,eN _ _ _,fun i hi=>?_⟩;rw[xC]at hi;rw[<-kQw,toList_madeCells_one];unfold atL;rw[xB,if_pos hi,xB,if_pos hi];rfl
theorem dJ.rdT{w}{g:Nat}{l:LN}(h:dJ w g l):RdT w 3 (sA g) (ints l):=fun _=>by
 obtain⟨cs,h1,h2⟩:=h;refine⟨g,0,cs,(0,0),rfl,h1,fun i hi=>?_⟩;rw[bV]at hi;rw[kQu,h2 i hi];unfold ints;rw[yW,jzb1 hi];rfl
def eO(t:Tp)(a:Nat):Nat:=match t.links[a/2]? with
 |some l=>if a%2=0 then l.c0.toNat else l.c1.toNat
 |none=>0
def bF(t:Tp)(x:LN):Nat:=x.foldl (fun s a=>s+eO t a) 0
theorem jzj6 t(x:LN)(a:Nat):bF t (x++[a])=bF t x+eO t a:=by unfold bF;rw[kZt];rfl
def bL(t:Tp):LQ:=(List.range (2*t.links.length)).map fun a=>((eO t a:Int):Rat)
theorem jzj7(t:Tp)(a:Nat)(ha:a/2<t.links.length):(bL t)[a]?.getD 0=((eO t a:Int):Rat):=by
 unfold bL;rw[yW,xJ (by omega)];rfl
theorem jzb2 t(x:LN):prQ (bL t) x=((bF t x:Int):Rat):=by
 have qa:∀(y:LN) (s:Nat),y.foldl (fun s a=>s+(bL t)[a]?.getD 0) ((s:Int):Rat)=((y.foldl (fun s a=>s+eO t a) s:Nat):Int):=(by intro y;(induction y with|nil=>intro s;rfl|cons a y ih=>intro s;rw[List.foldl_cons,List.foldl_cons, <-ih (s+eO t a)];congr 1;rw[kZv,Rat.intCast_add];congr 1;by_cases ha:a/2<t.links.length;{exact jzj7 t a ha};have h1:eO t a=0:=(by unfold eO;rw[yI (by omega)]);have h2:(bL t)[a]?=none:=(by unfold bL;rw[yI (by simp;omega)]);rw[h1,h2];rfl));exact qa x 0
def dC(t:Tp)(x y:LN):Int:=or3 (aK (bF t x) (bF t y)) (aK x.length y.length) (bJ x y)
theorem jzj8(a b:Nat):aW ((a:Int):Rat) ((b:Int):Rat)=aK a b:=by
 unfold aW aK;by_cases h:a<b;{rw[if_pos (Rat.intCast_lt_intCast.2 (by omega)),if_pos h]};rw[if_neg (fun h2=>h (by have:=Rat.intCast_lt_intCast.1 h2;omega)),if_neg h];by_cases e:a=b;{subst e;rw[if_pos rfl,if_pos rfl]};rw[if_neg (fun h2=>e (by have:=Rat.intCast_inj.1 h2;omega)),if_neg e]
theorem jzj9 t(x y:LN):cI (bL t) x y=decide (dC t x y<0):=by
 unfold cI nP dC;rw[jzb2,jzb2,jzj8]
def RdF(B:Nat)(w:World)(A:OA)(xs:List Value):Prop:=RdT w 3 A xs/\∀p,A=some p->B<=p.block
theorem RdF.rd{B:Nat}{w}{A}{xs:List Value}(h:RdF B w A xs):Rd w A xs:=h.1.rd
theorem RdF.K{B:Nat}{w w'}{A}{xs:List Value}(h:RdF B w A xs)(hx:Ext w w'):RdF B w' A xs:=⟨h.1.K hx,h.2⟩
theorem RdF.other{B:Nat}{w w'}{A}{xs:List Value}{g:Nat}{t':TypeId}{cs':Array Value}(h:RdF B w A xs)(hg:w.grownBy w' (some g))(hb:Blk w g t' cs')(hne:3≠t'):RdF B w' A xs:=⟨h.1.other hg hb hne,h.2⟩
theorem RdF.gK{B:Nat}{w w'}{A}{xs:List Value}{t':TypeId}{row:Option Nat}(h:RdF B w A xs)(hg:w.grownBy w' row)(hr:∀k,row=some k->∃cs fr,w.heap[k]?=some (.cells cs t' fr))(hne:3≠t'):RdF B w' A xs:=⟨h.1.gK hg hr hne,h.2⟩
theorem RdF.below{B:Nat}{w w'}{A}{xs:List Value}{g:Nat}(h:RdF B w A xs)(hg:w.grownBy w' (some g))(hB:g<B):RdF B w' A xs:=by
 refine⟨fun hx=>?_,h.2⟩;obtain⟨b,o,cs,fr,e,hb,hc⟩:=h.1 hx;have:=h.2 _ e;refine⟨b,o,cs,fr,e,(hg.block b (iE hb) (fun e2=>?_)).trans hb,hc⟩;injection e2 with e2
 subst e2;simp at this;omega
def KLb(t:Tp)(B:Nat)(w:World)(cs:List Value)(z:Nat×LN):Prop:=
 ∃(A:OA) (c:Nat),cs=[vI (z.1:Int),vI (bF t z.2:Nat),vI 0,.s A z.2.length c]/\z.2.length<=c/\RdF B w A (ints z.2)
theorem KLb.K{t}{B:Nat}{w w'}{cs:List Value}{z:Nat×LN}(h:KLb t B w cs z)(hx:Ext w w'):KLb t B w' cs z:=by
 obtain⟨A,c,h1,h2,h3⟩:=h;exact⟨A,c,h1,h2,h3.K hx⟩
theorem KLb.other{t}{B:Nat}{w w'}{cs:List Value}{z:Nat×LN}{g:Nat}{t':TypeId}{cs':Array Value}(h:KLb t B w cs z)(hg:w.grownBy w' (some g))(hb:Blk w g t' cs')(hne:3≠t'):KLb t B w' cs z:=by
 obtain⟨A,c,h1,h2,h3⟩:=h;exact⟨A,c,h1,h2,h3.other hg hb hne⟩
theorem KLb.gK{t}{B:Nat}{w w'}{cs:List Value}{z:Nat×LN}{t':TypeId}{row:Option Nat}(h:KLb t B w cs z)(hg:w.grownBy w' row)(hr:∀k,row=some k->∃cs fr,w.heap[k]?=some (.cells cs t' fr))(hne:3≠t'):KLb t B w' cs z:=by
 obtain⟨A,c,h1,h2,h3⟩:=h;exact⟨A,c,h1,h2,h3.gK hg hr hne⟩
structure bS(t:Tp)(w:World)(B g n c:Nat)(hs:List (Nat×LN)):Prop where
 len:hs.length=n
 row:∃css:List (List Value),css.length=n/\(∀cs∈css,cs.length=4)/\w.ownsRow B 225 4 (.s (sA g) n c) n css.flatten/\∀(i:Nat) (z:Nat×LN),hs[i]?=some z->∃cs,css[i]?=some cs/\KLb t B w cs z
theorem bS.blk{t}{w}{B g n c:Nat}{hs:List (Nat×LN)}(h:bS t w B g n c hs):∃cs,Blk w g 225 cs:=by
 obtain⟨css,_,_,h3,_⟩:=h.row;rcases h3.2 with⟨e,_⟩|⟨g',cap,cur,e,_,h5,_⟩
 ·cases e
 injection e with e
 injection e with e
 injection e with e
 subst e;exact⟨cur,h5⟩
theorem bS.K{t}{w w'}{B g n c:Nat}{hs:List (Nat×LN)}(h:bS t w B g n c hs)(hx:Ext w w'):bS t w' B g n c hs:=by
 obtain⟨css,h1,h2,h3,h4⟩:=h.row;refine⟨h.len,css,h1,h2,h3.kept (bW hx) (bX _),fun i z hz=>?_⟩;obtain⟨cs,k1,k2⟩:=h4 i z hz;exact⟨cs,k1,k2.K hx⟩
theorem bS.at_{t}{w}{B g n c:Nat}{hs:List (Nat×LN)}(h:bS t w B g n c hs){i:Nat}{z:Nat×LN}(hz:hs[i]?=some z):
  ∃(A:OA) (k:Nat),(w.cell? (aD g (i*4))=some (vI (z.1:Int))/\w.cell? (aD g (i*4+1))=some (vI (bF t z.2:Nat))/\w.cell? (aD g (i*4+2))=some (vI 0)/\w.cell? (aD g (i*4+3))=some (.s A z.2.length k))/\
   (w.frozen? (aD g (i*4))=false/\w.frozen? (aD g (i*4+1))=false/\w.frozen? (aD g (i*4+2))=false/\w.frozen? (aD g (i*4+3))=false)/\z.2.length<=k/\RdF B w A (ints z.2):=by
 obtain⟨css,h1,h2,h3,h4⟩:=h.row;obtain⟨cs,k1,A,k,rfl,k2,k3⟩:=h4 i z hz;have hi:=(yH.1 hz).1;have qf:i<n:=(by have:=h.len;omega);obtain⟨cb,hb⟩:=h.blk;have qa:∀j,j<4->w.cell? (aD g (i*4+j))=([vI (z.1:Int),vI (bF t z.2:Nat),vI 0,.s A z.2.length k]:List Value)[j]?:=fun j hj=>(by (have hf:=eL css h2 i j (by omega) hj;rw[k1]at hf;rcases h3.2 with⟨e,_⟩|⟨g',cap,cur,e,_,h5,h6,h7,h8,h9⟩);{cases e};(injection e with e1 e2 e3);(injection e1 with e1);(injection e1 with e1);subst e1;have qe:Blk w g 225 cur:=h5;rw[qe.cell, <-kQw];rw[<-h9,xG,if_pos (by omega)]at hf;exact hf);exact⟨A,k,⟨qa 0 (by omega),qa 1 (by omega),qa 2 (by omega),qa 3 (by omega)⟩,⟨hb.frozen _,hb.frozen _,hb.frozen _,hb.frozen _⟩,k2,k3⟩
theorem rN{w:World}{B g n c s k:Nat}{e:TypeId}{xs:List Value}(h:w.ownsRow B e s (.s (sA g) n c) n xs)(u:Value):(w.setCell (aD g k) u).ownsRow B e s (.s (sA g) n c) n (xs.set k u):=by
 refine⟨by rw[yV];exact h.1,?_⟩;rcases h.2 with⟨h3,h4⟩|⟨g',cap,cur,h3,h4,h5,h6,h7,h8,h9⟩
 ·cases h3
 have qa:=h3;injection h3 with e1 e2 e3
 injection e1 with e1
 injection e1 with e1
 subst e1;refine .inr ⟨g,cap,cur.setIfInBounds k u,qa,h4,(show Blk w g e cur from h5).sT k u,h6,h7,by simpa using h8,?_⟩;rw[Array.toList_setIfInBounds, <-h9,List.take_set]
theorem jzka{w:World}{B g n c i:Nat}{e:TypeId}{css:List (List Value)}(h:w.ownsRow B e 4 (.s (sA g) n c) n css.flatten)(h1:css.length=n)(h2:∀cs∈css,cs.length=4)(hi:i<n)(v0 v1 v2 v3:Value):
  ((((w.setCell (aD g (i*4)) v0).setCell (aD g (i*4+1)) v1).setCell (aD g (i*4+2)) v2).setCell (aD g (i*4+3)) v3).ownsRow B e 4 (.s (sA g) n c) n (css.set i [v0,v1,v2,v3]).flatten:=by
 have qa:i<css.length:=(by omega);obtain⟨cs,qf⟩:∃cs,css[i]?=some cs:=⟨_,yG qa⟩;have qe:cs.length=4:=h2 cs (yJ qf);have e0:css=css.set i cs:=(by apply uK;intro j;by_cases e:i=j;{subst e;rw[yM qa];exact qf};rw[vN e]);have b:=rN (k:=i*4+3) (rN (k:=i*4+2) (rN (k:=i*4+1) (rN (k:=i*4+0) h v0) v1) v2) v3;rw[e0,iJ css h2 i qa cs 0 _ qe (by omega),iJ css h2 i qa _ 1 _ (by simp[qe]) (by omega),iJ css h2 i qa _ 2 _ (by simp[qe]) (by omega),iJ css h2 i qa _ 3 _ (by simp[qe]) (by omega)]at b;have e3:(((cs.set 0 v0).set 1 v1).set 2 v2).set 3 v3=[v0,v1,v2,v3]:=(by (rcases cs with _|⟨a0,_|⟨a1,_|⟨a2,_|⟨a3,_|⟨a4,r⟩⟩⟩⟩⟩);all_goals first|(simp at qe;done)|rfl);rw[e3]at b;exact b
theorem uH(w:World)(g i:Nat)(v0 v1 v2 v3:Value):w.grownBy ((((w.setCell (aD g (i*4)) v0).setCell (aD g (i*4+1)) v1).setCell (aD g (i*4+2)) v2).setCell (aD g (i*4+3)) v3) (some g):=
 (((aO w g (i*4) v0).trans (aO _ g (i*4+1) v1)).trans (aO _ g (i*4+2) v2)).trans (aO _ g (i*4+3) v3)
theorem bS.put{t}{w}{B g n c i:Nat}{hs:List (Nat×LN)}{z:Nat×LN}{A}{k:Nat}(h:bS t w B g n c hs)(hi:i<n)(hk:z.2.length<=k)(hA:RdF B w A (ints z.2)):
  bS t ((((w.setCell (aD g (i*4)) (vI (z.1:Int))).setCell (aD g (i*4+1)) (vI (bF t z.2:Nat))).setCell (aD g (i*4+2)) (vI 0)).setCell (aD g (i*4+3)) (.s A z.2.length k)) B g n c (hs.set i z):=by
 obtain⟨cb,hb⟩:=h.blk;obtain⟨css,h1,h2,h3,h4⟩:=h.row;have hg:=uH w g i (vI (z.1:Int)) (vI (bF t z.2:Nat)) (vI 0) (.s A z.2.length k);refine⟨by rw[yV];exact h.len,css.set i [vI (z.1:Int),vI (bF t z.2:Nat),vI 0,.s A z.2.length k],by rw[yV];exact h1,fun cs hc=>?_,jzka h3 h1 h2 hi _ _ _ _,fun j y hj=>?_⟩;{(rcases xE hc with hc|hc);{exact h2 cs hc};rw[hc];rfl};by_cases e:i=j;{subst e;(rw[yM (by have:=h.len;omega)]at hj;injection hj with hj);subst hj;exact⟨_,yM (by omega),A,k,rfl,hk,hA.other hg hb (by decide)⟩};rw[vN e]at hj;obtain⟨cs,k1,k2⟩:=h4 j y hj;exact⟨cs,by rw[vN e];exact k1,k2.other hg hb (by decide)⟩
structure KQu(t:Tp)(w:World)(B q g n c:Nat)(hs:List (Nat×LN)):Prop where
 box:Blk w q 227 #[.s (sA g) n c]
 row:bS t w B g n c hs
theorem KQu.K{t}{w w'}{B q g n c:Nat}{hs:List (Nat×LN)}(h:KQu t w B q g n c hs)(hx:Ext w w'):KQu t w' B q g n c hs:=⟨h.box.K hx,h.row.K hx⟩
theorem bS.below{t}{w w'}{B g n c b:Nat}{hs:List (Nat×LN)}(h:bS t w B g n c hs)(hg:w.grownBy w' (some b))(hB:b<B)(hgB:B<=g):bS t w' B g n c hs:=by
 obtain⟨css,h1,h2,h3,h4⟩:=h.row;refine⟨h.len,css,h1,h2,h3.kept hg (.inr (fun e=>?_)),fun i z hz=>?_⟩;{have e:some g=some b:=e;(injection e with e);omega};obtain⟨cs,k1,A,c',k2,k3,k4⟩:=h4 i z hz;exact⟨cs,k1,A,c',k2,k3,k4.below hg hB⟩
theorem bS.lo{t}{w}{B g n c:Nat}{hs:List (Nat×LN)}(h:bS t w B g n c hs):B<=g:=by
 obtain⟨css,h1,h2,h3,h4⟩:=h.row;exact(h3.lt g rfl).1
theorem KQu.below{t}{w w'}{B q g n c b:Nat}{hs:List (Nat×LN)}{cs:Array Value}(h:KQu t w B q g n c hs)(hg:w.grownBy w' (some b))(hb:Blk w b 3 cs)(hB:b<B):KQu t w' B q g n c hs:=
 ⟨(hg.block q h.box.lt (fun e=>by injection e with e;exact h.box.ne_ hb (by decide) e)).trans h.box,h.row.below hg hB h.row.lo⟩
end Go.Proofs.YtojpooidhilnfaaGreatDoor
