/- Walks, part 21. -/
import Derived.Test.YtfeeacaofjpkaaaGreatDoorK20
set_option linter.unusedVariables false
set_option linter.unusedSimpArgs false
set_option maxRecDepth 100000
set_option maxHeartbeats 8000000
namespace Go.Proofs.YtfeeacaofjpkaaaGreatDoor
open Go.Proofs.Tryz
open Go.RowKit
open Sx
theorem jzob(n m cc ca cb cx T:Nat)AC AA AB AX(C B X:LQ)(R:Nat->LQ)w(h:LpR w n m AC AA AB C B R)(hx:QL w AX X)(qj:X.length=n)(sx:∀q∈X,SzQ q T)(hT:T+1<=100000)(h0:∀q∈X,0<=q)(hr:∀i,i<m->(sm n fun k=>at_ (R i) k*at_ X k)<=at_ B i):
  Calls prog 131 #[.agg #[.s AC n cc,.s AA m ca,.s AB m cb],.s AX n cx] w fun e w'=>e=.returned (.bool true)/\Ext w w':=by
 obtain⟨b1,e0⟩:=bA w #[.s AC n cc,.s AA m ca,.s AB m cb] 56;have H:=Hx (kQa h (kQa hx (kQa qj (kQa sx (kQa h0 hr)))));have qt:=h.n2;have hm:=h.m1;have BX:=Hx b1;have EX:=Hx e0;obtain⟨⟨i0,i1,i2⟩,_⟩:=b1.t3;clear h hx qj sx h0 hr b1 e0;go_enter func131,ntmps131;(go_upto_region 1 with fail);generalize w.alloc (.cells #[.s AC n cc,.s AA m ca,.s AB m cb] 56)=W0 at*;generalize w.heap.size=g at*;go_cut [17] (fun s wx=>s=bF/\Ext W0 wx);(case first=>(go_wp2_with fail);refine(jzi n m cc ca cb AC AA AB C B R _ (H.o.1.K EX.o)).mono ?_;rintro e w1 ⟨rfl,x1⟩;have X1:=Hx x1;clear x1 i0 i1 i2;obtain⟨⟨i0,i1,i2⟩,_⟩:=(BX.o.K X1.o).t3;go_wp2_with fail;refine(jzep X AX n cx H.o.2.2.1 _ (H.o.2.1.K (EX.o.tr X1.o)) H.o.2.2.2.2.1 qO).mono ?_;rintro e w2 ⟨rfl,x2⟩;have X2:=Hx (X1.o.tr x2);clear x2;go_wp2;go_meet;exact⟨rfl,X2.o⟩);obtain⟨rfl,x1⟩:=hcut;generalize wc=W1 at*;have X1:=Hx x1;clear x1 i0 i1 i2;obtain⟨⟨i0,i1,i2⟩,_⟩:=(BX.o.K X1.o).t3;go_wp2;go_loopg [5,6,21] m (fun q _ _ it wx=>∃(i:Nat),m-i=q/\i<=m/\it=vI (i:Int)/\Hid (Ext W0 wx));exact⟨0,rfl,yZ _,rfl,X1⟩;obtain⟨i,rfl,hi,rfl,XE⟩:=hrel;clear i0 i1 i2;have XW:=Hx (EX.o.tr XE.o);by_cases qe:i<m;{obtain⟨b,o,Ai,ci,rfl,_,a0,qh,qk⟩:=(H.o.1.a.K XW.o) i qe;have qg:i<B.length:=(by have:=H.o.1.bn;omega);obtain⟨pb,ob,n2,A2,m2,c2,qf,qm,qi,rfl,_,b0,b1,b2,h2⟩:=(H.o.1.b.K XW.o).at_ (aO qg);obtain⟨l2,qz⟩:=h2.lens (H.o.1.sb _ (yJ (aO qg)));have qa:Hid (∀wx,Ext wr wx->(wx.cell? (aD g 2)=some (.s (some (aD pb ob)) m cb))/\(wx.cell? (aD pb (ob+i*3))=some (.bool n2)/\wx.cell? (aD pb (ob+i*3+1))=some (.s A2 m2 c2)/\wx.cell? (aD pb (ob+i*3+2))=some (.s qf qm qi))):=Hx (fun wx hx=>⟨((BX.o.K XE.o).K hx).cell 2,aA hx b0,aA hx b1,aA hx b2⟩);have RR:=Hx (kQa qh (kQa qk h2));have XD:Hid (Ext wr wr.drew):=Hx ((eR wr).drewN 1);have HSW:=Hx (qa.o _ XD.o);have nN:(i:Int)<(m:Int):=qO;have n0:(0:Int)<=(i:Int):=qO;have qx:decide (bG (sm n fun k=>at_ (R i) k*at_ X k) (at_ B i)>0)=false:=yP (fun hh=>absurd ((rP _ _).1 hh) (kQ4.2 (H.o.2.2.2.2.2 i qe)));have SZ:Hid (SzQ (sm n fun k=>at_ (R i) k*at_ X k) 10100000):=Hx ((mV (P:=1+T) n fun k hk=>(H.o.1.sr i qe _ (yJ (aO qO))).mul (H.o.2.2.2.1 _ (yJ (aO (by have:=H.o.2.2.1;omega))))).mono (by have:n*(1+T+1)<=100*100001:=kQq qt qO;omega));clear qh qk h2 b0 b1 b2;(go_upto_region 6 with fail);(clear a0;refine wX qa 9 ?_;refine wP 0 rfl HSW.o ?_;try simp only[qP]);refine wP 1 rfl HSW.o ?_;refine wP 3 rfl HSW.o ?_;refine wU [9,8,7,6] 4 rfl HSW.o ?_;refine wP 5 rfl HSW.o ?_;refine wP 6 rfl HSW.o ?_;(refine wU [9,8] 7 rfl HSW.o ?_;try simp only[qP]);(refine wC 2 rfl (fun KK hK=>?_);go_simp;refine(jzf (R i) X Ai n ci AX n cx 1 T _ (RR.o.1.K XD.o) (H.o.2.1.K (XW.o.tr XD.o)) RR.o.2.1 H.o.2.2.1 (yX _) qO (H.o.1.sr i qe) H.o.2.2.2.1 qO).mono ?_;rintro e w6 ⟨n6,A6,l6,c6,qo,qn,qp,rfl,h6,x6⟩;have E6:=Hx (XD.o.tr x6);have HSW:=Hx (qa.o _ E6.o);obtain⟨l3,qy⟩:=h6.lens SZ.o;have R6:=Hx h6;refine hK.o _ _ HSW.o ?_;clear hK KK x6 h6;try simp only[qP]);(refine wC 8 rfl (fun KK hK=>?_);go_simp;refine(fE n6 n2 A6 l6 c6 qo qn qp A2 m2 c2 qf qm qi (sm n fun k=>at_ (R i) k*at_ X k) (at_ B i) _ R6.o (RR.o.2.2.K E6.o) qO qO qO qO).mono ?_;rintro e w7 ⟨rfl,x7⟩;have E7:=Hx (E6.o.tr x7);have HSW:=Hx (qa.o _ E7.o);refine hK.o _ _ HSW.o ?_;clear hK KK x7;try simp only[qP]);refine aY qK rfl qR (fun KK hK=>?_);go_simp;refine hK.o _ _ ?_;clear hK KK;refine wpAny_done qK ?_ _;have qw:=Hx (XE.o.tr E7.o);clear HSW qa XD RR E6 E7 R6 XE XW SZ;go_wp2;go_roundg (m-(i+1));exact⟨i+1,rfl,qO,by go_num,qw⟩;omega};obtain rfl:i=m:=qO;go_wp2;go_ret;exact⟨rfl,XW.o⟩
theorem jzoc(n m cc ca cb cy T:Nat)AC AA AB AY(C B Y:LQ)(R:Nat->LQ)w(h:LpR w n m AC AA AB C B R)(hy:QL w AY Y)(qh:Y.length=m)(sy:∀q∈Y,SzQ q T)(hT:T+1<=100000)(h0:∀q∈Y,0<=q)(hr:∀k,k<n->at_ C k<=sm m fun i=>at_ Y i*at_ (R i) k):
  Calls prog 174 #[.agg #[.s AC n cc,.s AA m ca,.s AB m cb],.s AY m cy] w fun e w'=>e=.returned (.bool true)/\Ext w w':=by
 obtain⟨b1,e0⟩:=bA w #[.s AC n cc,.s AA m ca,.s AB m cb] 56;have H:=Hx (kQa h (kQa hy (kQa qh (kQa sy (kQa h0 hr)))));have qw:=h.n2;have hm:=h.m1;have BX:=Hx b1;have EX:=Hx e0;obtain⟨⟨i0,i1,i2⟩,_⟩:=b1.t3;clear h hy qh sy h0 hr b1 e0;go_enter func174,ntmps174;(go_upto_region 1 with fail);generalize w.alloc (.cells #[.s AC n cc,.s AA m ca,.s AB m cb] 56)=W0 at*;generalize w.heap.size=g at*;go_cut [17] (fun s wx=>s=bF/\Ext W0 wx);(case first=>(go_wp2_with fail);refine(jzi n m cc ca cb AC AA AB C B R _ (H.o.1.K EX.o)).mono ?_;rintro e w1 ⟨rfl,x1⟩;have X1:=Hx x1;clear x1 i0 i1 i2;obtain⟨⟨i0,i1,i2⟩,_⟩:=(BX.o.K X1.o).t3;go_wp2_with fail;refine(jzep Y AY m cy H.o.2.2.1 _ (H.o.2.1.K (EX.o.tr X1.o)) H.o.2.2.2.2.1 qO).mono ?_;rintro e w2 ⟨rfl,x2⟩;have X2:=Hx (X1.o.tr x2);clear x2;go_wp2;go_meet;exact⟨rfl,X2.o⟩);obtain⟨rfl,x1⟩:=hcut;generalize wc=W1 at*;have X1:=Hx x1;clear x1 i0 i1 i2;obtain⟨⟨i0,i1,i2⟩,_⟩:=(BX.o.K X1.o).t3;go_wp2;go_loopg [5,6,21] n (fun q _ _ it wx=>∃(k:Nat),n-k=q/\k<=n/\it=vI (k:Int)/\Hid (Ext W0 wx));exact⟨0,rfl,yZ _,rfl,X1⟩;obtain⟨k,rfl,hk,rfl,X⟩:=hrel;clear i0 i1 i2;have XW:=Hx (EX.o.tr X.o);by_cases qi:k<n
 ·have qj:k<C.length:=by have:=H.o.1.cn;omega
  obtain⟨pb,ob,n2,A2,m2,c2,qe,qg,qf,rfl,_,b0,b1,b2,h2⟩:=(H.o.1.c.K XW.o).at_ (aO qj);obtain⟨l2,qx⟩:=h2.lens (H.o.1.sc _ (yJ (aO qj)));obtain⟨b8,x8⟩:=bA wr #[.bool n2,.s A2 m2 c2,.s qe qg qf] 33;have B8:=Hx b8;have X8:=Hx x8;have RR:=Hx h2;have nN:(k:Int)<(n:Int):=qO;have n0:(0:Int)<=(k:Int):=qO;have qp:decide (bG (sm m fun i=>at_ Y i*at_ (R i) k) (at_ C k)<0)=false:=yP (fun hh=>absurd ((oH _ _).1 hh) (kQ4.2 (H.o.2.2.2.2.2 k qi)));have SZ:=Hx (show SzQ (sm m fun i=>at_ Y i*at_ (R i) k) 10100000 from(mV (P:=T+1) m fun i hi=>(H.o.2.2.2.1 _ (yJ (aO (by have:=H.o.2.2.1;omega)))).mul (H.o.1.sr i hi _ (yJ (aO (by
   obtain⟨_,_,_,_,_,_,_,_,h9⟩:=H.o.1.a i hi;omega))))).mono (by
   have:m*(T+1+1)<=100*100001:=kQq hm qO;omega))
  clear h2 b8 x8;(go_upto_region 6 with fail);(clear b0 b1 b2;generalize wr.alloc (.cells #[.bool n2,.s A2 m2 c2,.s qe qg qf] 33)=W8 at*;generalize wr.heap.size=bd at*;have qa:Hid (∀wx,Ext W8 wx->(wx.cell? (aD g 0)=some (.s (some (aD pb ob)) n cc)/\wx.cell? (aD g 1)=some (.s AA m ca)/\wx.cell? (aD g 2)=some (.s AB m cb))/\(wx.cell? (aD bd 0)=some (.bool n2)/\wx.cell? (aD bd 1)=some (.s A2 m2 c2)/\wx.cell? (aD bd 2)=some (.s qe qg qf))):=Hx (fun wx hx=>⟨⟨(BX.o.K (X.o.tr (X8.o.tr hx))).cell 0,(BX.o.K (X.o.tr (X8.o.tr hx))).cell 1,(BX.o.K (X.o.tr (X8.o.tr hx))).cell 2⟩,(B8.o.K hx).cell 0,(B8.o.K hx).cell 1,(B8.o.K hx).cell 2⟩);have XD:Hid (Ext W8 W8.drew):=Hx ((eR W8).drewN 1);have HSW:=Hx (qa.o _ XD.o);refine wX qa 6 ?_;refine wU [6,5,3] 0 rfl HSW.o ?_;try simp only[qP]);refine wP 1 rfl HSW.o ?_;refine wP 2 rfl HSW.o ?_;(refine wU [6,5] 4 rfl HSW.o ?_;try simp only[qP]);(refine wC 3 rfl (fun KK hK=>?_);go_simp;refine(jzoa n m k cc ca cb cy T _ AA AB AY C B Y R _ (H.o.1.K (XW.o.tr (X8.o.tr XD.o))) (H.o.2.1.K (XW.o.tr (X8.o.tr XD.o))) H.o.2.2.1 qi H.o.2.2.2.1 hT).mono ?_;rintro e w6 ⟨n6,A6,l6,c6,qm,qk,qn,rfl,h6,x6⟩;have E6:=Hx (XD.o.tr x6);have HSW:=Hx (qa.o _ E6.o);obtain⟨l3,qt⟩:=h6.lens SZ.o;have R6:=Hx h6;refine hK.o _ _ HSW.o ?_;clear hK KK x6 h6;try simp only[qP]);(refine wC 5 rfl (fun KK hK=>?_);go_simp;refine(fE n6 n2 A6 l6 c6 qm qk qn A2 m2 c2 qe qg qf (sm m fun i=>at_ Y i*at_ (R i) k) (at_ C k) _ R6.o (RR.o.K (X8.o.tr E6.o)) qO qO qO qO).mono ?_;rintro e w7 ⟨rfl,x7⟩;have E7:=Hx (E6.o.tr x7);have HSW:=Hx (qa.o _ E7.o);refine hK.o _ _ HSW.o ?_;clear hK KK x7;try simp only[qP]);refine aY qK rfl qR (fun KK hK=>?_);go_simp;refine hK.o _ _ ?_;clear hK KK;refine wpAny_done qK ?_ _;have qo:=Hx (X.o.tr (X8.o.tr E7.o));clear HSW qa XD RR E6 E7 R6 X XW SZ X8 B8;go_wp2;go_roundg (n-(k+1));exact⟨k+1,rfl,qO,by go_num,qo⟩;omega
 obtain rfl:k=n:=qO;go_wp2;go_ret;exact⟨rfl,XW.o⟩
structure LpX(w:World)(n m T:Nat)(AC AA AB AX AY:OA)(C B X Y:LQ)(R:Nat->LQ)(v:Rat):Prop where
 p:LpR w n m AC AA AB C B R
 x:QL w AX X
 xn:X.length=n
 sx:∀q∈X,SzQ q T
 y:QL w AY Y
 ym:Y.length=m
 sy:∀q∈Y,SzQ q T
 tT:T+1<=90000
 ok:LpOK C R B X Y v
theorem LpX.K{w w'}{n m T:Nat}{AC AA AB AX AY}{C B X Y:LQ}{R:Nat->LQ}{v:Rat}(h:LpX w n m T AC AA AB AX AY C B X Y R v)(hx:Ext w w'):LpX w' n m T AC AA AB AX AY C B X Y R v:=
 ⟨h.p.K hx,h.x.K hx,h.xn,h.sx,h.y.K hx,h.ym,h.sy,h.tT,h.ok⟩
section
variable {w:World} {n m T cc ca cb cx cy:Nat} {AC AA AB AX AY:Option Addr} {C B X Y:List Rat} {R:Nat->List Rat} {v:Rat}
theorem LpX.valid(h:LpX w n m T AC AA AB AX AY C B X Y R v):Calls prog 66 #[.agg #[.s AC n cc,.s AA m ca,.s AB m cb]] w fun e w'=>e=.returned (.bool true)/\Ext w w':=jzi n m cc ca cb AC AA AB C B R w h.p
theorem LpX.feas(h:LpX w n m T AC AA AB AX AY C B X Y R v):Calls prog 131 #[.agg #[.s AC n cc,.s AA m ca,.s AB m cb],.s AX n cx] w fun e w'=>e=.returned (.bool true)/\Ext w w':=
 jzob n m cc ca cb cx T AC AA AB AX C B X R w h.p h.x h.xn h.sx (by have:=h.tT;omega) h.ok.xn fun i hi=>by
 have:=h.ok.rows i (by rw[h.p.bn];exact hi);rw[h.p.cn]at this;exact this
theorem LpX.suff(h:LpX w n m T AC AA AB AX AY C B X Y R v):Calls prog 174 #[.agg #[.s AC n cc,.s AA m ca,.s AB m cb],.s AY m cy] w fun e w'=>e=.returned (.bool true)/\Ext w w':=
 jzoc n m cc ca cb cy T AC AA AB AY C B Y R w h.p h.y h.ym h.sy (by have:=h.tT;omega) h.ok.yn fun k hk=>by
 have:=h.ok.cols k (by rw[h.p.cn];exact hk);rw[h.p.bn]at this;exact this
theorem LpX.yb(h:LpX w n m T AC AA AB AX AY C B X Y R v):Calls prog 128 #[.s AY m cy,.s AB m cb] w (cO w v):=by
 have e:=h.ok.gap;rw[h.ym]at e;rw[<-e];have:=h.p.m1;have:=h.tT;exact jzf Y B AY m cy AB m cb T 1 w h.y h.p.b h.ym h.p.bn (yX _) qO h.sy h.p.sb qO
theorem LpX.cx_(h:LpX w n m T AC AA AB AX AY C B X Y R v):Calls prog 128 #[.s AC n cc,.s AX n cx] w (cO w v):=by
 have e:=h.ok.val;rw[h.p.cn]at e;rw[<-e];have:=h.p.n2;have:=h.tT;exact jzf C X AC n cc AX n cx 1 T w h.p.c h.x h.p.cn h.xn (yX _) qO h.p.sc h.sx qO
theorem LpX.sv(h:LpX w n m T AC AA AB AX AY C B X Y R v):SzQ v 10000000:=by
 have e:=h.ok.val;rw[h.p.cn]at e;rw[<-e];have h2:=h.p.n2;have h3:=h.tT;refine(mV (P:=1+T) n fun k hk=>(h.p.sc _ (yJ (aO (by rw[h.p.cn];exact hk)))).mul (h.sx _ (yJ (aO (by rw[h.xn];exact hk))))).mono ?_;have:n*(1+T+1)<=100*90001:=kQq h2 qO;omega
end
theorem jzod(n m T cc ca cb cx cy:Nat)AC AA AB AX AY(C B X Y:LQ)(R:Nat->LQ)(v:Rat)w(h:LpX w n m T AC AA AB AX AY C B X Y R v):
  Calls prog 127 #[.agg #[.s AC n cc,.s AA m ca,.s AB m cb],.s AX n cx,.s AY m cy] w (jza6 w (v-v)):=by
 obtain⟨b3,b6,e0⟩:=dK w #[.s AC n cc,.s AA m ca,.s AB m cb] 56 rV 33;have H:=Hx (fun wx (hx:Ext w wx)=>h.K hx);have SV:=Hx h.sv;have BX:=Hx (kQa b3 b6);have EX:=Hx e0;obtain⟨⟨i0,i1,i2⟩,_⟩:=b3.t3;clear h b3 b6 e0
 go_enter func127,ntmps127
 go_upto_region 1 with fail
 generalize (w.alloc (.cells #[.s AC n cc,.s AA m ca,.s AB m cb] 56)).alloc (.cells rV 33)=W0 at*;generalize hg:w.heap.size=g at*
 go_wp2_with fail
 refine((H.o _ EX.o).valid).mono ?_;rintro e w1 ⟨rfl,x1⟩;have X1:=Hx x1;clear x1 i0 i1 i2;obtain⟨⟨i0,i1,i2⟩,_⟩:=(BX.o.1.K X1.o).t3
 go_wp2_with fail
 refine((H.o _ (EX.o.tr X1.o)).feas).mono ?_;rintro e w2 ⟨rfl,x2⟩;have X2:=Hx (X1.o.tr x2);clear x2 i0 i1 i2 X1;obtain⟨⟨i0,i1,i2⟩,_⟩:=(BX.o.1.K X2.o).t3
 go_wp2_with fail
 refine((H.o _ (EX.o.tr X2.o)).suff).mono ?_;rintro e w3 ⟨rfl,x3⟩;have X3:=Hx (X2.o.tr x3);clear x3 i0 i1 i2 X2
 go_upto_region 7 with fail
 have qa:Hid (∀wx,Ext W0 wx->wx.cell? (aD g 0)=some (.s AC n cc)/\wx.cell? (aD g 2)=some (.s AB m cb)):=Hx (fun wx hx=>⟨(BX.o.1.K hx).cell 0,(BX.o.1.K hx).cell 2⟩);have XD:Hid (Ext W0 w3.drew):=Hx (X3.o.drewN 1);have HSW:=Hx (qa.o _ XD.o);refine wX qa 9 ?_;refine wP 0 rfl HSW.o ?_;try simp only[qP]
 refine wP 1 rfl HSW.o ?_;try simp only[qP]
 refine wV 2 rfl HSW.o ?_;try simp only[qP]
 refine wP 4 rfl HSW.o ?_;try simp only[qP]
 refine wV 5 rfl HSW.o ?_;try simp only[qP]
 refine wP 6 rfl HSW.o ?_;try simp only[qP]
 refine wC 3 rfl (fun KK hK=>?_);go_simp;refine((H.o _ (EX.o.tr XD.o)).yb).mono ?_;rintro e w6 ⟨n6,A6,l6,c6,qn,qm,qo,rfl,h6,x6⟩;have E6:=Hx (XD.o.tr x6);have HSW:=Hx (qa.o _ E6.o);obtain⟨qt,qx⟩:=h6.lens SV.o;have R6:=Hx h6;refine hK.o _ _ HSW.o ?_;clear hK KK x6 h6;try simp only[qP]
 refine wC 7 rfl (fun KK hK=>?_);go_simp;refine((H.o _ (EX.o.tr E6.o)).cx_).mono ?_;rintro e w7 ⟨n7,A7,l7,c7,qh,qi,qk,rfl,h7,x7⟩;have K6:=Hx x7;have E7:=Hx (E6.o.tr x7);have HSW:=Hx (qa.o _ E7.o);obtain⟨qw,qp⟩:=h7.lens SV.o;have R7:=Hx h7;refine hK.o _ _ HSW.o ?_;clear hK KK x7 h7;try simp only[qP]
 refine wC 8 rfl (fun KK hK=>?_);go_simp;refine(nP n6 n7 A6 l6 c6 qn qm qo A7 l7 c7 qh qi qk v v _ (R6.o.K K6.o) R7.o qO qO qO qO).mono ?_;rintro e w9 ⟨n9,A9,l9,c9,qg,qf,qe,rfl,h9,x9⟩;have E9:=Hx (E7.o.tr x9);have HSW:=Hx (qa.o _ E9.o);have B9:=Hx (BX.o.2.K E9.o);have F:=Hx (dH (w:=w) h9 B9.o qO (EX.o.tr E9.o));have HB:=Hx (((B9.o.sT 0 (.bool n9)).sT 1 (.s A9 l9 c9)).sT 2 (.s qg qf qe));obtain⟨⟨p0,p1,p2⟩,z0,z1,z2⟩:=B9.o.t3;refine hK.o _ _ HSW.o ?_;clear hK KK x9 h9;try simp only[qP]
 refine aY qK rfl qR (fun KK hK=>?_);go_simp;refine hK.o _ _ ?_;clear hK KK;refine kX (i:=10) qK rfl qR (fun KK hK=>?_);go_simp;refine hK.o _ _ ?_;clear hK KK p0 p1 p2 z0 z1 z2 HSW;refine wpAny_done qK ?_ _;go_wp2;have qj:=HB.o;exact bodyPost_ret (v:=.tuple #[.agg #[.bool n9,.s A9 l9 c9,.s qg qf qe],vI 0]) (by simp[results,results127,go_sem,qj.cell]) rfl ⟨n9,A9,l9,c9,qg,qf,qe,rfl,F.o⟩
theorem jzoe(n m T cc ca cb cx cy:Nat)AC AA AB AX AY(C B X Y:LQ)(R:Nat->LQ)(v:Rat)(neg:Bool)A1(n1 c1:Nat)A2(n2 c2:Nat)w(h:LpX w n m T AC AA AB AX AY C B X Y R v)(hv:aB w neg A1 n1 c1 A2 n2 c2 v):
  Calls prog 63 #[.agg #[.s AC n cc,.s AA m ca,.s AB m cb],.agg #[vI 1,.s AX n cx,.s AY m cy,zN,.bool neg,.s A1 n1 c1,.s A2 n2 c2]] w fun e w'=>e=.returned (.bool true)/\Ext w w':=by
 obtain⟨b2,b3,e0⟩:=dK w #[.s AC n cc,.s AA m ca,.s AB m cb] 56 #[vI 1,.s AX n cx,.s AY m cy,zN,.bool neg,.s A1 n1 c1,.s A2 n2 c2] 58;have H:=Hx (fun wx (hx:Ext w wx)=>kQa (h.K hx) (hv.K hx));have SV:=Hx h.sv;have BX:=Hx (kQa b2 b3);have EX:=Hx e0;obtain⟨⟨i0,i1,i2⟩,_⟩:=b2.t3;have j1:=b3.cell 1;have j2:=b3.cell 2;clear h hv b2 b3 e0
 go_enter func63,ntmps63
 go_upto_region 1 with fail
 generalize (w.alloc (.cells #[.s AC n cc,.s AA m ca,.s AB m cb] 56)).alloc (.cells #[vI 1,.s AX n cx,.s AY m cy,zN,.bool neg,.s A1 n1 c1,.s A2 n2 c2] 58)=W0 at*;generalize hg:w.heap.size=g at*
 go_wp2_with fail
 refine(jzod n m T cc ca cb cx cy AC AA AB AX AY C B X Y R v _ (H.o _ EX.o).1).mono ?_;rintro e w1 ⟨n6,A6,l6,c6,qf,qe,qg,rfl,h6,x1⟩;have R6:Hid (aB w1 n6 A6 l6 c6 qf qe qg 0):=Hx (by rw[<-Rat.sub_self (a:=v)];exact h6);have X1:=Hx x1;obtain⟨b8,x8⟩:=bA w1 #[.bool n6,.s A6 l6 c6,.s qf qe qg] 33;have B8:=Hx b8;have X8:=Hx (X1.o.tr x8);have K8:=Hx x8;clear x1 h6 b8 x8 i0 i1 i2 j1 j2
 go_upto_region 2 with fail
 generalize w1.alloc (.cells #[.bool n6,.s A6 l6 c6,.s qf qe qg] 33)=W8 at*;generalize w1.heap.size=bd at*
 go_cut [28] (fun s wx=>s=bF/\Ext W0 wx)
 case first=>
  obtain⟨⟨b0,b1,b2⟩,_⟩:=B8.o.t3
  go_wp2_with fail
  refine(cV n6 A6 l6 c6 qf qe qg 0 _ (R6.o.K K8.o)).mono ?_;rintro e w5 ⟨rfl,x5⟩;have qh:aC 0=0:=kT.2 rfl;rw[qh];have X5:=Hx (X8.o.tr x5);have j3:=(BX.o.2.K X5.o).cell 3;clear x5 b0 b1 b2 qh;go_wp2;go_meet;exact⟨rfl,X5.o⟩
 obtain⟨rfl,x9⟩:=hcut;generalize wc=W9 at*;have X9:=Hx x9;clear x9
 go_upto_region 4 with fail
 have qa:Hid (∀wx,Ext W0 wx->wx.cell? (aD g 0)=some (.s AC n cc)/\wx.cell? (aD (g+1) 1)=some (.s AX n cx)/\wx.cell? (aD (g+1) 4)=some (.bool neg)/\wx.cell? (aD (g+1) 5)=some (.s A1 n1 c1)/\wx.cell? (aD (g+1) 6)=some (.s A2 n2 c2)):=Hx (fun wx hx=>⟨(BX.o.1.K hx).cell 0,(BX.o.2.K hx).cell 1,(BX.o.2.K hx).cell 4,(BX.o.2.K hx).cell 5,(BX.o.2.K hx).cell 6⟩);have XD:Hid (Ext W0 W9.drew):=Hx (X9.o.drewN 1);have HSW:=Hx (qa.o _ XD.o);have RV:=Hx (H.o _ (EX.o.tr XD.o)).2;obtain⟨lv,qp⟩:=RV.o.lens SV.o;refine wX qa 9 ?_;refine wP 0 rfl HSW.o ?_;try simp only[qP]
 refine wV 1 rfl HSW.o ?_;try simp only[qP]
 refine wP 2 rfl HSW.o ?_;try simp only[qP]
 refine wV 3 rfl HSW.o ?_;try simp only[qP]
 refine wP 5 rfl HSW.o ?_;try simp only[qP]
 refine wV 6 rfl HSW.o ?_;try simp only[qP]
 refine wC 4 rfl (fun KK hK=>?_);go_simp;refine((H.o _ (EX.o.tr XD.o)).1.cx_).mono ?_;rintro e w7 ⟨n7,A7,l7,c7,qi,qj,qk,rfl,h7,x7⟩;have E7:=Hx (XD.o.tr x7);have HSW:=Hx (qa.o _ E7.o);obtain⟨qt,qo⟩:=h7.lens SV.o;have R7:=Hx h7;refine hK.o _ _ HSW.o ?_;clear hK KK x7 h7;try simp only[qP]
 refine wC 7 rfl (fun KK hK=>?_);go_simp;refine(fE n7 neg A7 l7 c7 qi qj qk A1 n1 c1 A2 n2 c2 v v _ R7.o (H.o _ (EX.o.tr E7.o)).2 qO qO qO qO).mono ?_;rintro e w9 ⟨rfl,x9⟩;have E9:=Hx (E7.o.tr x9);have HSW:=Hx (qa.o _ E9.o);have qn:(bG v v==0)=true:=(by rw[(rQ v v).2 rfl];rfl);refine hK.o _ _ HSW.o ?_;clear hK KK x9;try simp only[qP]
 refine wP 8 rfl HSW.o ?_;try simp only[qP]
 refine aY qK rfl qR (fun KK hK=>?_);go_simp;refine hK.o _ _ ?_;clear hK KK HSW;refine wpAny_done qK ?_ _;have qm:=Hx (EX.o.tr E9.o);clear qa XD RV E7 E9 R7;go_wp2;go_ret;exact⟨by simp[(rQ v v).2 rfl],qm.o⟩
theorem jzof(n m T cc ca cb cx cy:Nat)AC AA AB AX AY(C B X Y:LQ)(R:Nat->LQ)(v:Rat)(neg:Bool)A1(n1 c1:Nat)A2(n2 c2:Nat)w(h:LpX w n m T AC AA AB AX AY C B X Y R v)(hv:aB w neg A1 n1 c1 A2 n2 c2 v):
  Calls prog 21 #[.agg #[.s AC n cc,.s AA m ca,.s AB m cb],.agg #[vI 1,.s AX n cx,.s AY m cy,zN,.bool neg,.s A1 n1 c1,.s A2 n2 c2]] w fun e w'=>e=.returned (.bool true)/\Ext w w':=by
 obtain⟨b2,b3,e0⟩:=dK w #[.s AC n cc,.s AA m ca,.s AB m cb] 56 #[vI 1,.s AX n cx,.s AY m cy,zN,.bool neg,.s A1 n1 c1,.s A2 n2 c2] 58;have H:=Hx (fun wx (hx:Ext w wx)=>kQa (h.K hx) (hv.K hx));have BX:=Hx (kQa b2 b3);have EX:=Hx e0;clear h hv b2 b3 e0;go_enter func21,ntmps21;(go_upto_region 1 with fail);generalize (w.alloc (.cells #[.s AC n cc,.s AA m ca,.s AB m cb] 56)).alloc (.cells #[vI 1,.s AX n cx,.s AY m cy,zN,.bool neg,.s A1 n1 c1,.s A2 n2 c2] 58)=W0 at*;generalize hg:w.heap.size=g at*;(go_upto_region 2 with fail);obtain⟨b5,e5⟩:=bA W0 #[.nilFunc,.func (.func 63) #[] #[],.func (.func 64) #[] #[],.func (.func 65) #[] #[]] 121;have B5:=Hx b5;have E5:=Hx e5;clear b5 e5;generalize W0.alloc (.cells #[.nilFunc,.func (.func 63) #[] #[],.func (.func 64) #[] #[],.func (.func 65) #[] #[]] 121)=W5 at*;generalize W0.heap.size=g5 at*;go_cut [19] (fun s wx=>s=bF/\Ext W5 wx);(case first=>obtain⟨⟨i0,i1,i2⟩,_⟩:=(BX.o.1.K E5.o).t3;go_wp2_with fail;refine((H.o _ (EX.o.tr E5.o)).1.valid).mono ?_;rintro e w5 ⟨rfl,x5⟩;have X5:=Hx x5;have j0:=(BX.o.2.K (E5.o.tr X5.o)).cell 0;clear x5 i0 i1 i2;go_wp2;go_meet;exact⟨rfl,X5.o⟩);obtain⟨rfl,x9⟩:=hcut;generalize wc=W9 at*;have X9:=Hx (E5.o.tr x9);have B9:=Hx (B5.o.K x9);clear x9;go_upto_region 4 with fail
 have qa:=Hx (show∀wx,Ext W9 wx->(wx.cell? (aD g 0)=some (.s AC n cc)/\wx.cell? (aD g 1)=some (.s AA m ca)/\wx.cell? (aD g 2)=some (.s AB m cb))/\(wx.cell? (aD (g+1) 0)=some (vI 1)/\wx.cell? (aD (g+1) 1)=some (.s AX n cx)/\wx.cell? (aD (g+1) 2)=some (.s AY m cy)/\wx.cell? (aD (g+1) 3)=some zN/\wx.cell? (aD (g+1) 4)=some (.bool neg)/\wx.cell? (aD (g+1) 5)=some (.s A1 n1 c1)/\wx.cell? (aD (g+1) 6)=some (.s A2 n2 c2))/\wx.cell? (aD g5 1)=some (.func (.func 63) #[] #[])from fun wx hx=>
  ⟨⟨(BX.o.1.K (X9.o.tr hx)).cell 0,(BX.o.1.K (X9.o.tr hx)).cell 1,(BX.o.1.K (X9.o.tr hx)).cell 2⟩,⟨(BX.o.2.K (X9.o.tr hx)).cell 0,(BX.o.2.K (X9.o.tr hx)).cell 1,(BX.o.2.K (X9.o.tr hx)).cell 2,(BX.o.2.K (X9.o.tr hx)).cell 3,(BX.o.2.K (X9.o.tr hx)).cell 4,(BX.o.2.K (X9.o.tr hx)).cell 5,(BX.o.2.K (X9.o.tr hx)).cell 6⟩,(B9.o.K hx).cell 1⟩)
 (have XD:Hid (Ext W9 W9.drew):=Hx ((eR W9).drewN 1);have HSW:=Hx (qa.o _ XD.o);refine wX qa 7 ?_;refine wP 0 rfl HSW.o ?_;try simp only[qP]);refine wV 1 rfl HSW.o ?_;refine wP 2 rfl HSW.o ?_;refine wV 3 rfl HSW.o ?_;refine wV 4 rfl HSW.o ?_;(refine wV 5 rfl HSW.o ?_;try simp only[qP]);(refine wC 6 rfl (fun KK hK=>?_);go_simp;refine(jzoe n m T cc ca cb cx cy AC AA AB AX AY C B X Y R v neg A1 n1 c1 A2 n2 c2 _ (H.o _ (EX.o.tr (X9.o.tr XD.o))).1 (H.o _ (EX.o.tr (X9.o.tr XD.o))).2).mono ?_;rintro e w9 ⟨rfl,x9⟩;have E9:=Hx (XD.o.tr x9);have HSW:=Hx (qa.o _ E9.o);refine hK.o _ _ HSW.o ?_;clear hK KK x9;try simp only[qP]);refine aY qK rfl qR (fun KK hK=>?_);go_simp;refine hK.o _ _ ?_;clear hK KK HSW;refine wpAny_done qK ?_ _;have qe:=Hx (EX.o.tr (X9.o.tr E9.o));clear qa XD E9;go_wp2;go_ret;exact⟨rfl,qe.o⟩
theorem Sx.Adm.weakv{L2 D:Nat}{am cap:Nat->Rat}{v:Rat}{Z:List ((Nat×LN)×Rat)}(h:Sx.Adm L2 D am cap v Z){pr ch:Nat->Rat}(hp:∀a,a<L2->0<=pr a)
  (hch:∀z∈Z,ch z.1.1<=sm L2 fun a=>if a∈z.1.2 then pr a else 0):v*(sm D fun d=>am d*ch d)<=sm L2 fun a=>pr a*cap a:=by
 have e1:v*(sm D fun d=>am d*ch d)=ls (fun z=>z.2*ch z.1.1) Z:=(by rw[<-eO];have:(sm D fun d=>v*(am d*ch d))=sm D fun d=>ls (fun z=>(if z.1.1=d then z.2 else 0)*ch d) Z:=sm_congr D fun d hd=>(by have e:=mM (ch d) (fun z:(Nat×LN)×Rat=>if z.1.1=d then z.2 else 0) Z;rw[h.sum d hd]at e;have e2:ls (fun z:(Nat×LN)×Rat=>(if z.1.1=d then z.2 else 0)*ch d) Z=ls (fun z=>ch d*(if z.1.1=d then z.2 else 0)) Z:=gV fun z _=>qG;rw[e2,e];grind);rw[this, <-mN];exact gV fun z hz=>(by rw[sm_one D (h.dem z hz) fun d _ hd=>by rw[qF (fun e=>hd e.symm)];grind,qE rfl]));have e2:ls (fun z=>z.2*ch z.1.1) Z<=ls (fun z=>sm L2 fun a=>pr a*(if a∈z.1.2 then z.2 else 0)) Z:=rB fun z hz=>(by have h1:=yT (hch z hz) (vB (h.pos z hz));rw[<-eO]at h1;have:(sm L2 fun a=>z.2*(if a∈z.1.2 then pr a else 0))=sm L2 fun a=>pr a*(if a∈z.1.2 then z.2 else 0):=sm_congr L2 fun a _=>(by split <;> grind);rw[this]at h1;exact h1);have e3:ls (fun z=>sm L2 fun a=>pr a*(if a∈z.1.2 then z.2 else 0)) Z<=sm L2 fun a=>pr a*cap a:=(by rw[mN];refine sm_le L2 fun a ha=>?_;rw[mM];exact yT (h.cap a ha) (hp a ha));grind
theorem jze4{α:Type}(f:α->Rat):∀(l:List α) (g:Nat->Rat),(∀d (h:d<l.length),g d=f l[d])->sm l.length g=ls f l
 | [],_,_=>rfl
 |a::l,g,h=>by
  show sm (l.length+1) g=f a+ls f l;rw[nY,jze4 f l _ fun d hd=>h (d+1) (Nat.succ_lt_succ hd),h 0 (Nat.zero_lt_succ _)];rfl
def dchQ(t:Tp)(pr:LQ)(x:Dm):Rat:=(x.amount:Rat)*chQ t pr x.src.toNat x.dst.toNat
def kA(t:Tp)(l:List Dm)(pr:LQ):Rat:=ls (dchQ t pr) l
def sB(t:Tp)(pr:LQ):Rat:=sm (2*t.links.length) fun a=>at_ pr a*aP t a
theorem jze5 t(l:List Dm)(pr:LQ):(sm l.length fun d=>amQ l d*chQ t pr (bE l d) (bC l d))=kA t l pr:=
 jze4 _ _ _ fun d hd=>by
  unfold amQ bE bC dchQ;rw[yG hd]
section
variable {t t':Tp} {l l':List Dm} {v v':Rat} {Z Z':List ((Nat×List Nat)×Rat)} {pr pr':List Rat}
theorem cN.cheap(hf:Fit t l)(h:cN t l v Z pr)(hl:pr'.length=2*t.links.length)(hn:∀q∈pr',0<=q):∀z∈Z,chQ t pr' (bE l z.1.1) (bC l z.1.1)<=sm (2*t.links.length) fun a=>if a∈z.1.2 then at_ pr' a else 0:=fun z hz=>by
 (have hd:=h.adm.dem z hz;obtain⟨n1,n2,_⟩:=hf.nodes hd;have qa:=h.loop z hz;rcases kJ hf.v (kK hl hn) n1 n2 with⟨x,e,_,e2⟩|⟨_,e⟩);{unfold chQ;rw[e, <-qa.prQ_sm];exact e2 _ qa};{exact absurd qa (e _)}
theorem cN.weak(hf:Fit t l)(h:cN t l v Z pr)(hl:pr'.length=2*t.links.length)(hn:∀q∈pr',0<=q):v*kA t l pr'<=sB t pr':=by
 rw[<-jze5];exact h.adm.weakv (ch:=fun d=>chQ t pr' (bE l d) (bC l d)) (fun a _=>oE hn a) (h.cheap hf hl hn)
theorem cN.vnn(hf:Fit t l)(h:cN t l v Z pr):0<=v:=by
 rw[<-h.worth];refine kG _ fun a ha=>?_;obtain⟨_,h2,_⟩:=lB hf.v ha;exact vA (oE h.pnn a) h2
theorem cN.le(hf:Fit t l)(h:cN t l v Z pr)(h':cN t' l' v' Z' pr')(hL:t'.links.length=t.links.length){α β γ:Rat}(hα:0<=α)(hγ:0<=γ)(hn:γ*kA t l pr'=α*kA t' l' pr')(hw:γ*sB t pr'<=β*sB t' pr'):α*v<=β*v':=by
 have h1:=yT (h.weak hf (pr':=pr') (by rw[h'.plen,hL]) h'.pnn) hγ;have h2:1<=kA t' l' pr':=(by rw[<-jze5];exact h'.need);have h3:sB t' pr'=v':=h'.worth;have h4:=h.vnn hf;have h5:α*v*1<=α*v*kA t' l' pr':=yT h2 (vA hα h4);have h6:γ*(v*kA t l pr')=α*v*kA t' l' pr':=(by have:γ*(v*kA t l pr')=v*(γ*kA t l pr'):=qG;rw[this,hn];grind);rw[h3]at hw;grind
end
section
variable {t t':Tp}
end
def connL(t:Tp)(l:List Dm):Prop:=∀x∈l,∃y,Lpl t x.src.toNat x.dst.toNat y
theorem jze6{t}{l:List Dm}:connL t l↔∀d,d<l.length->∃y,Lpl t (bE l d) (bC l d) y:=by
 constructor;{intro h d hd;have:=h _ (xR hd);unfold bE bC;rw[yG hd];exact this};intro h x hx;obtain⟨d,hd,rfl⟩:=List.mem_iff_getElem.1 hx;have:=h d hd;unfold bE bC at this;rw[yG hd]at this;exact this
theorem cN.connL{t}{l:List Dm}{v:Rat}{Z:List ((Nat×LN)×Rat)}{pr:LQ}(h:cN t l v Z pr):connL t l:=jze6.2 h.conn
theorem jze7{L2:Nat}{f:Rat}:∀(x:LN) (ld:LQ),ld.length=L2->x.Nodup->(∀a∈x,a<L2)->∃qa,ldA L2 f ld (x.map fun a:Nat=>(a:Int))=some qa/\qa.length=L2/\∀a,a<L2->at_ qa a=at_ ld a+if a∈x then f else 0
 | [],ld,hl,_,_=>⟨ld,rfl,hl,fun a _=>by simp;grind⟩
 |b::x,ld,hl,hn,hx=>by
  rw[kZo]at hn;have hb:=hx b qS;obtain⟨qa,e1,e2,e3⟩:=jze7 x (ld.set b (at_ ld b+f)) (by rw[yV];exact hl) hn.2 (fun a ha=>hx a (xO _ ha));refine⟨qa,?_,e2,fun a ha=>?_⟩
  ·show(if 0<=(b:Int)/\(b:Int)<(L2:Int)then _ else none)=_
   rw[qE ⟨Int.natCast_nonneg _,by exact_mod_cast hb⟩];exact e1
  ·rw[e3 a ha,rF _ _ _ _ qO]
   by_cases e:b=a
   ·subst e
    rw[qE rfl,qF hn.1,qE qS];grind
   ·rw[qF e]
    by_cases e4:a∈x
    ·rw[qE e4,qE (xO _ e4)]
    ·rw[qF e4,qF (fun hm=>(xZ.1 hm).elim (fun e5=>e e5.symm) e4)]
theorem jze8{L2:Nat}:∀(Z:List ((Nat×LN)×Rat)) (ld:LQ),ld.length=L2->(∀z∈Z,z.1.2.Nodup/\∀a∈z.1.2,a<L2)->∃ld',ldP L2 ld (Z.map pzI)=some ld'/\ld'.length=L2/\∀a,a<L2->at_ ld' a=at_ ld a+ls (fun z=>if a∈z.1.2 then z.2 else 0) Z
 | [],ld,hl,_=>⟨ld,rfl,hl,fun a _=>by show _=_+(0:Rat);grind⟩
 |z::Z,ld,hl,h=>by
  obtain⟨h1,h2⟩:=h z qS;obtain⟨l1,e1,e2,e3⟩:=jze7 (f:=z.2) z.1.2 ld hl h1 h2;obtain⟨l2,k1,k2,k3⟩:=jze8 Z l1 e2 fun y hy=>h y (xO _ hy);refine⟨l2,?_,k2,fun a ha=>?_⟩
  ·show(match ldA L2 z.2 ld (z.1.2.map fun a:Nat=>(a:Int))with|none=>none|some ld'=>ldP L2 ld' (Z.map pzI))=_
   rw[e1];exact k1
  ·rw[k3 a ha,e3 a ha]
   show _=at_ ld a+((if a∈z.1.2 then z.2 else 0)+ls _ Z);grind
section
variable {t:Tp} {l:List Dm} {v:Rat} {Z:List ((Nat×List Nat)×Rat)} {pr:List Rat}
theorem jze9(hv:aH t=true)(h:∀z∈Z,∃s d,Lpl t s d z.1.2):∃ld,cU t (Z.map pzI)=(ld,0)/\ld.length=2*t.links.length/\∀a,a<2*t.links.length->at_ ld a=ls (fun z=>if a∈z.1.2 then z.2 else 0) Z:=by
 obtain⟨ld,h1,h2,h3⟩:=jze8 (L2:=2*t.links.length) Z (List.replicate (2*t.links.length) 0) (xC) fun z hz=>(by obtain⟨s,d,hl⟩:=h z hz;exact⟨hl.nodup,iV _ hl.1⟩);refine⟨ld,?_,h2,fun a ha=>by rw[h3 a ha,wB];grind⟩;unfold cU;rw[qE hv,h1]
theorem jzfa(hf:Fit t l){d:Nat}(hd:d<l.length):chZ t l pr d=chP t [] pr (bE l d:Int) (bC l d:Int):=by
 obtain⟨h1,h2⟩:=jzen hf hd;unfold chZ;rw[h1,h2]
end
theorem jzog{w w':World}{b:Nat}(h:w'.heap[b]?=w.heap[b]?)(o:Nat):w'.cell? (aD b o)=w.cell? (aD b o):=by
 unfold World.cell?;simp only[h]
theorem Rd.frN{S:Nat->Prop}{w w'}{A}{xs:List Value}(h:Rd w A xs)(k:FrS S w w')(hn:∀b o:Nat,A=some (aD b o)->(∀i,i<xs.length->w.cell? (aD b (o+i))=xs[i]?)->xs≠ []->¬S b):Rd w' A xs:=fun hx=>by
 obtain⟨b,o,e,hb,hc⟩:=h hx;refine⟨b,o,e,yL hb k.size,fun i hi=>?_⟩;rw[<-hc i hi];exact jzog (k.block b hb (hn b o e hc hx)) _
structure dW(w:World)(t:Tp)(l:List Dm)(neg:Bool)(A1:OA)(n1 c1:Nat)(A2:OA)(n2 c2:Nat)(AP:OA)(cp gp:Nat)(v:Rat)(Z:List ((Nat×LN)×Rat))(pr:LQ):Prop where
 ok:cN t l v Z pr
 sv:SzQ v 20
 sz:∀z∈Z,SzQ z.2 41
 sp:∀q∈pr,SzQ q 20
 len:Z.length<=24
 cap:Z.length<=cp
 val:aB w neg A1 n1 c1 A2 n2 c2 v
 pat:PLr w AP (Z.map pzI)
 prs:QL w (sA gp) pr
section
variable {w w':World} {t:Tp} {l:List Dm} {neg:Bool} {A1:Option Addr} {n1 c1:Nat} {A2:Option Addr} {n2 c2:Nat} {AP:Option Addr} {cp gp:Nat} {v:Rat} {Z:List ((Nat×List Nat)×Rat)} {pr:List Rat}
theorem dW.K(h:dW w t l neg A1 n1 c1 A2 n2 c2 AP cp gp v Z pr)(hx:Ext w w'):dW w' t l neg A1 n1 c1 A2 n2 c2 AP cp gp v Z pr:=
 ⟨h.ok,h.sv,h.sz,h.sp,h.len,h.cap,h.val.K hx,RdL.K h.pat hx fun cs x hq=>hq.K hx,h.prs.K hx⟩
theorem jzfb{b o:Nat}(hb:Blk w b 37 #[bF,zN,zN,zN,zN]){k:IntKind}{x:Int}(h:w.cell? (aD b o)=some (.int k x)):False:=by
 rw[hb.cell]at h;(match o,h with|0,h=>cases h|1,h=>cases h|2,h=>cases h|3,h=>cases h|4,h=>cases h|o+5,h=>simp at h)
theorem jzoh{b:Nat}(hb:Blk w b 37 #[bF,zN,zN,zN,zN]):w.cell? (aD b 5)=none:=by
 rw[hb.cell];rfl
theorem dW.fill{b:Nat}(h:dW w t l neg A1 n1 c1 A2 n2 c2 AP cp gp v Z pr)(hb:Blk w b 37 #[bF,zN,zN,zN,zN])(k:FrS (fun x=>x=b) w w'):dW w' t l neg A1 n1 c1 A2 n2 c2 AP cp gp v Z pr:=by
 have hn:NoT (fun x=>x=b) w 196:=NoT.one hb qD;refine⟨h.ok,h.sv,h.sz,h.sp,h.len,h.cap,k.ratR hn h.val,?_,?_⟩;{obtain⟨css,h1,h2,h3,h4⟩:=h.pat;refine⟨css,h1,h2,h3.frN k fun g o e hc hx hg=>?_,fun i p hp=>?_⟩;{subst hg;(cases css with|nil=>exact hx rfl|cons c1 css=>have hp:∃p,(Z.map pzI)[0]?=some p:=(by (cases hz:Z.map pzI with|nil=>rw[hz]at h1;simp at h1|cons p r=>exact⟨p,rfl⟩));obtain⟨p,hp⟩:=hp;obtain⟨cs,k1,A,c,ng,B1,m1,d1,B2,m2,d2,rfl,_⟩:=h4 0 p hp;have k1:some c1=some _:=k1;injection k1 with k1;subst k1;have:=hc 0 qS;exact jzfb hb this)};(obtain⟨cs,k1,A,c,ng,B1,m1,d1,B2,m2,d2,k2,k3,k4,k5⟩:=h4 i p hp;refine⟨cs,k1,A,c,ng,B1,m1,d1,B2,m2,d2,k2,k3,k4.frN k fun g o e hc hx hg=>?_,k.ratR hn k5⟩;subst hg;cases ha:p.arcs with|nil=>rw[ha]at hx;exact hx rfl|cons a r=>rw[ha]at hc;exact jzfb hb (hc 0 (by simp[fB])))};obtain⟨css,h1,h2,h3,h4⟩:=h.prs;refine⟨css,h1,h2,h3.frN k fun g o e hc hx hg=>?_,fun i q hq=>?_⟩;{subst hg;(injection e with e);(injection e with _ e2);subst e2;have hl:=fZ css h2;have h6:6<=css.flatten.length:=(by have h7:=h.ok.plen;have h8:css.flatten.length≠0:=fun h9=>hx (kQz h9);omega);have h5:=hc 5 qO;rw[kQu,jzoh hb,yG qO]at h5;cases h5};obtain⟨cs,k1,k2⟩:=h4 i q hq;exact⟨cs,k1,k.qr hn k2⟩
end
theorem rT.cases{w}{t}{l:List Dm}{e:Ending}{w'}(hf:Fit t l)(hD:l.length<=4)(h:rT w t l e w'):
  (¬connL t l/\e=.returned (.tuple #[.agg #[bF,zN,zN,zN,zN],vI 11])/\Ext w w')\/
  ∃(neg:Bool) (A1:OA) (n1 c1:Nat) (A2:OA) (n2 c2:Nat) (AP:OA) (cp gp:Nat) (v:Rat) (Z:List ((Nat×LN)×Rat)) (pr:LQ),
   e=.returned (.tuple #[.agg #[.bool neg,.s A1 n1 c1,.s A2 n2 c2,.s AP Z.length cp,.s (sA gp) (2*t.links.length) (2*t.links.length)],vI 0])/\dW w' t l neg A1 n1 c1 A2 n2 c2 AP cp gp v Z pr/\Ext w w':=by
 (rcases h with⟨h1,_⟩|⟨_,⟨d,hd,h1⟩,h2,h3⟩|⟨_,v,Z,pr,neg,A1,n1,c1,A2,n2,c2,AP,cp,gp,h1,h2,s1,s2,s3,h3,h4,s4,s5,s6,h5⟩);{rw[(rM (show l.length<=64 by omega)).2 hf]at h1;cases h1};{exact .inl ⟨fun hc=>by obtain⟨y,hy⟩:=jze6.1 hc d hd;exact h1 y hy,h2,h3⟩};exact .inr ⟨neg,A1,n1,c1,A2,n2,c2,AP,cp,gp,v,Z,pr,h3,⟨h1,h2,s1,s2,s3,s4,h4,s5,s6⟩,h5⟩
end Go.Proofs.YtfeeacaofjpkaaaGreatDoor
namespace Go.Proofs.YtfeeacaofjpkaaaGreatDoor
open Go.Proofs.Tryz
open Go.RowKit
theorem jzoi{Z:List ((Nat×LN)×Rat)}{n:Nat}{z:(Nat×LN)×Rat}(hz:Z[n]?=some z)(p:Nat×LN):plP (Z.drop n) p=if z.1=p then z.2 else plP (Z.drop (n+1)) p:=by
 obtain⟨hn,e⟩:=yH.1 hz;rw[kQ6 hn,e];rfl
theorem jzoj(d:Nat)(x:LN)AX(nx cx:Nat)(neg:Bool)A1(n1 c1:Nat)A2(n2 c2:Nat)AP(np cp:Nat)PR(nr cr:Nat)(Z:List ((Nat×LN)×Rat))(qx:Z.length=np)w(hp:PLr w AP (Z.map pzI))(hx:Rd w AX (ints x))(qe:x.length=nx)(hcx:nx<=cx)(hnl:np<=1000)(hxl:nx<=1000)(qt:∀z∈Z,z.1.2.length<=1000):
  Calls prog 20 #[.agg #[.bool neg,.s A1 n1 c1,.s A2 n2 c2,.s AP np cp,.s PR nr cr],vI (d:Int),.s AX nx cx] w (cO w (plP Z (d,x))):=by
 obtain⟨b3,b6,e0⟩:=dK w #[.bool neg,.s A1 n1 c1,.s A2 n2 c2,.s AP np cp,.s PR nr cr] 37 rV 33;have HZ:=Hx (kQa hp (kQa hx (kQa qx (kQa qt qe))));have BX:=Hx (kQa b3 b6);have EX:=Hx e0;clear hp hx qx qt qe b3 b6 e0;go_enter func20,ntmps20;(go_upto_region 1 with fail);generalize (w.alloc (.cells #[.bool neg,.s A1 n1 c1,.s A2 n2 c2,.s AP np cp,.s PR nr cr] 37)).alloc (.cells rV 33)=W0 at*;generalize hg:w.heap.size=g at*;go_wp2;go_loopg [7] np (fun q it wx=>∃(n:Nat),np-n=q/\n<=np/\it=vI (n:Int)/\Hid (Ext W0 wx/\plP Z (d,x)=plP (Z.drop n) (d,x)));exact⟨0,rfl,yZ _,rfl,Hx ⟨eR W0,rfl⟩⟩;obtain⟨n,rfl,hn,rfl,I⟩:=hrel;have XW:=Hx (EX.o.tr I.o.1);have y3:=(BX.o.1.K I.o.1).cell 3;by_cases qi:n<np;{obtain⟨z,hz⟩:∃z,Z[n]?=some z:=⟨_,yG (by rw[HZ.o.2.2.1];exact qi)⟩;have qw:=yJ hz;obtain⟨b,o,AA,ca,ng,F1,m1,f1,F2,m2,f2,rfl,hb,⟨a0,a1,a2,a3,a4⟩,qn,qo,qp⟩:=PLr.at5 HZ.o.1 (i:=n) (p:=pzI z) (by rw[yW,hz];rfl);have qa:(pzI z).arcs.length=z.1.2.length:=(by show(z.1.2.map _).length=_;rw[xV]);have qf:Rd w AA (ints z.1.2):=(by have e:ints z.1.2=fB (pzI z).arcs:=(by unfold ints fB pzI;rw[List.map_map];rfl);rw[e];exact qo);have RA:=Hx (kQa qf qp);have qk:z.1.2.length<=ca:=(by rw[<-qa];exact qn);have qy:=HZ.o.2.2.2.1 z qw;rw[qa]at a1;have ND:=Hx (jzoi hz (d,x));have a0:w.cell? (aD b (o+n*5))=some (vI (z.1.1:Int)):=a0;have a0:=aA XW.o a0;have a1:=aA XW.o a1;have a2:=aA XW.o a2;have a3:=aA XW.o a3;have a4:=aA XW.o a4;have nN:(n:Int)<(np:Int):=qO;have n0:(0:Int)<=(n:Int):=qO;have qe:=HZ.o.2.2.2.2;clear hz qo qp qw qf qn qa hb;by_cases hd:z.1.1=d;{(have qh:((z.1.1:Int)==(d:Int))=true:=by rw[hd];simp);have SM:Hid (Calls prog 62 #[.s AA z.1.2.length ca,.s AX nx cx] wr fun e w'=>e=.returned (.bool (decide (z.1.2=x)))/\Ext wr w'):=Hx (by rw[<-qe];exact jzhl AA AX ca cx z.1.2 x wr (RA.o.1.K XW.o) (HZ.o.2.1.K XW.o) qk qO qO qO);clear qe;go_wp2_with fail;refine(SM.o).mono ?_;rintro e w5 ⟨rfl,x5⟩;have X5:=Hx (I.o.1.tr x5);have K5:=Hx x5;have y3:=(BX.o.1.K X5.o).cell 3;have a2:=aA K5.o a2;have a3:=aA K5.o a3;have a4:=aA K5.o a4;clear x5 a0 a1 SM;by_cases hx:z.1.2=x;{have qg:decide (z.1.2=x)=true:=yO hx;rw[qg];have E9:=Hx (EX.o.tr X5.o);have B9:=Hx (BX.o.2.K X5.o);have HQ:Hid (plP Z (d,x)=z.2):=Hx (by rw[I.o.2,ND.o,qE (by rw[<-hd, <-hx])]);have R9:Hid (aB w5 ng F1 m1 f1 F2 m2 f2 (plP Z (d,x))):=Hx (by rw[HQ.o];exact RA.o.2.K E9.o);have F:=Hx (dH (w:=w) R9.o B9.o qO E9.o);have HB:=Hx (((B9.o.sT 0 (.bool ng)).sT 1 (.s F1 m1 f1)).sT 2 (.s F2 m2 f2));obtain⟨⟨p0,p1,p2⟩,z0,z1,z2⟩:=B9.o.t3;clear hx qg hd qh;go_wp2;have qj:=HB.o;exact bodyPost_ret (v:=.agg #[.bool ng,.s F1 m1 f1,.s F2 m2 f2]) (by simp[results,results20,go_sem,qj.cell]) rfl ⟨ng,F1,m1,f1,F2,m2,f2,rfl,F.o⟩};have qg:decide (z.1.2=x)=false:=yP hx;rw[qg];have qm:Hid (Ext W0 w5/\plP Z (d,x)=plP (Z.drop (n+1)) (d,x)):=Hx (⟨X5.o,by rw[I.o.2,ND.o,qF (fun e=>hx (by rw[e]))]⟩);clear hx qg hd qh;go_wp2;go_roundg (np-(n+1));exact⟨n+1,rfl,qO,by go_num,qm⟩;omega};have qh:((z.1.1:Int)==(d:Int))=false:=(by rw[yK];omega);have qm:Hid (Ext W0 wr/\plP Z (d,x)=plP (Z.drop (n+1)) (d,x)):=Hx (⟨I.o.1,by rw[I.o.2,ND.o,qF (fun e=>hd (by rw[e]))]⟩);clear hd qe;go_wp2;go_roundg (np-(n+1));exact⟨n+1,rfl,qO,by go_num,qm⟩;omega};obtain rfl:n=np:=qO;have HQ:Hid (plP Z (d,x)=0):=Hx (by rw[I.o.2,kQf (by rw[HZ.o.2.2.1];exact yX _)];rfl);have B9:=Hx (BX.o.2.K I.o.1);have R9:Hid (aB wr false none 0 0 none 0 0 (plP Z (d,x))):=Hx (by rw[HQ.o];exact eJ _);have F:=Hx (dH (w:=w) R9.o B9.o qO XW.o);have HB:=Hx (((B9.o.sT 0 bF).sT 1 zN).sT 2 zN);obtain⟨⟨p0,p1,p2⟩,z0,z1,z2⟩:=B9.o.t3;go_wp2;have qj:=HB.o;exact bodyPost_ret (v:=.agg rV) (by simp[results,results20,go_sem,qj.cell]) rfl ⟨false,none,0,0,none,0,0,rfl,F.o⟩
def cL{α:Type}(V:Nat->α)(k:Nat)(v:α):Nat->α:=fun i=>if i=k then v else V i
theorem fD{α:Type}(V:Nat->α)(k:Nat)(v:α):cL V k v k=v:=qE rfl
theorem bU{α:Type}(V:Nat->α){i k:Nat}(v:α)(h:i≠k):cL V k v i=V i:=qF h
def eY(V:Nat->Value)(m:Nat):Array Value:=((List.range m).map V).toArray
theorem fW{V:Nat->Value}{m k:Nat}(hk:k<m):(eY V m)[k]?=some (V k):=by
 unfold eY;rw[xI,yW,xJ hk];rfl
theorem jzok{V:Nat->Value}{m k:Nat}(v:Value):(eY V m).setIfInBounds k v=eY (cL V k v) m:=by
 unfold eY;rw[yD];congr 1;apply uK;intro i;by_cases hi:i<m;{by_cases e:k=i;{subst e;rw[yM (by simp;exact hi),yW,xJ hi,kQ9,fD]};rw[vN e,yW,yW,xJ hi,kQ9,kQ9,bU _ _ (fun h=>e h.symm)]};rw[yI (by simp;omega),yI (by simp;omega)]
theorem sC{V:Nat->Value}{m k:Nat}(v:Value)(hk:m<=k):eY (cL V k v) m=eY V m:=by
 unfold eY;congr 1;refine List.map_congr_left fun i hi=>bU V v ?_;have:=vX.1 hi;omega
structure PgI(w0 w:World)(bq br ga m:Nat)(neg:Bool)(A1:OA)(n1 c1:Nat)(A2:OA)(n2 c2:Nat)(V:Nat->Value)(Q:Nat->LQ):Prop where
 ext:Ext w0 w
 q0:w0.heap.size<=bq
 r0:w0.heap.size<=br
 a0:w0.heap.size<=ga
 qb:Blk w bq 56 #[V m,.s (sA ga) m m,V (m+1)]
 rb:Blk w br 58 #[vI 1,V (m+2),zN,zN,.bool neg,.s A1 n1 c1,.s A2 n2 c2]
 ab:Blk w ga 35 (eY V m)
 own:∀i,i<=m+3->OQ QR 33 w w0.heap.size (V i) (Q i)
 sep:∀i j,i<=m+3->j<=m+3->i≠j->(V i).ownBlock=none\/(V i).ownBlock≠(V j).ownBlock
structure PgJ(w0 w:World)(bq br ga m:Nat)(neg:Bool)(A1:OA)(n1 c1:Nat)(A2:OA)(n2 c2:Nat)(V:Nat->Value)(Q:Nat->LQ)(k:Nat)(v:Value)(X:LQ):Prop where
 ext:Ext w0 w
 q0:w0.heap.size<=bq
 r0:w0.heap.size<=br
 a0:w0.heap.size<=ga
 qb:Blk w bq 56 #[V m,.s (sA ga) m m,V (m+1)]
 rb:Blk w br 58 #[vI 1,V (m+2),zN,zN,.bool neg,.s A1 n1 c1,.s A2 n2 c2]
 ab:Blk w ga 35 (eY V m)
 own:∀i,i<=m+3->OQ QR 33 w w0.heap.size (cL V k v i) (cL Q k X i)
 sep:∀i j,i<=m+3->j<=m+3->i≠j->(cL V k v i).ownBlock=none\/(cL V k v i).ownBlock≠(cL V k v j).ownBlock
section
variable {w0 w w':World} {bq br ga m k:Nat} {neg:Bool} {A1:Option Addr} {n1 c1:Nat} {A2:Option Addr} {n2 c2:Nat} {V:Nat->Value} {Q:Nat->List Rat} {v:Value} {X:List Rat}
theorem PgI.K(h:PgI w0 w bq br ga m neg A1 n1 c1 A2 n2 c2 V Q)(hx:Ext w w'):PgI w0 w' bq br ga m neg A1 n1 c1 A2 n2 c2 V Q:=
 ⟨h.ext.tr hx,h.q0,h.r0,h.a0,h.qb.K hx,h.rb.K hx,h.ab.K hx,fun i hi=>(h.own i hi).K QR.keep_ hx,h.sep⟩
theorem PgI.pushed(h:PgI w0 w bq br ga m neg A1 n1 c1 A2 n2 c2 V Q)(hk:k<=m+3){nk:Nat}(hnk:(Q k).length=nk){css:List (List Value)}(h1:css.length=(Q k).length)(h2:∀cs∈css,cs.length=3)(hown:w.ownsRow w0.heap.size 33 3 (V k) nk css.flatten)
  (h4:∀(i:Nat) (q:Rat),(Q k)[i]?=some q->∃cs,css[i]?=some cs/\QR w cs q) {ng:Bool} {F} {n c:Nat} {F'} {n' c':Nat} {q:Rat} (hq:aB w ng F n c F' n' c' q) {g7 c7:Nat}
  (own':w'.ownsRow w0.heap.size 33 3 (.s (sA g7) (nk+1) c7) (nk+1) (css.flatten++[.bool ng,.s F n c,.s F' n' c'])) (grow:w.grownBy w' (V k).ownBlock) (new:some g7=(V k).ownBlock\/g7=w.heap.size):
  PgJ w0 w' bq br ga m neg A1 n1 c1 A2 n2 c2 V Q k (.s (sA g7) (nk+1) c7) (Q k++[q]):=by
 subst hnk;have kf:FrS (fun b=>(V k).ownBlock=some b) w w':=eG grow fun g e=>e;have qf:NoT (fun b=>(V k).ownBlock=some b) w 196:=fun _ hb=>bK hown hb qD;have far:∀{b:Nat} {t:TypeId} {cs:Array Value},Blk w b t cs->33≠t->¬(V k).ownBlock=some b:=fun hb ht e=>bK hown e ht _ _ hb;have qe:Ext w0 w':=kf.ext h.ext fun b hb=>(hown.lt b hb).1;have qa:∀j,j<=m+3->j≠k->some g7≠(V j).ownBlock:=fun j hj hne e=>(by (rcases new with h5|h5);{(rcases h.sep j k hj hk hne with h6|h6);{rw[h6]at e;cases e};exact h6 (e.symm.trans h5)};obtain⟨xs,h6⟩:=(h.own j hj).own;have:=(h6.lt g7 e.symm).2;omega);refine⟨qe,h.q0,h.r0,h.a0,kf.blk h.qb (far h.qb qD),kf.blk h.rb (far h.rb qD),kf.blk h.ab (far h.ab qD),fun i hi=>?_,fun i j hi hj hij=>?_⟩;{by_cases e:i=k;{subst e;rw[fD,fD];exact OQ.pushed h1 h2 hown h4 hq own' grow};(rw[bU _ _ e,bU _ _ e];refine kf.oq qf (h.own i hi) fun g hg hs=>?_;rcases h.sep i k hi hk e with h5|h5);{rw[h5]at hg;cases hg};exact h5 (hg.trans hs.symm)};by_cases e1:i=k;{subst e1;rw[fD,bU _ _ (fun e=>hij e.symm)];exact .inr (qa j hj fun e=>hij e.symm)};rw[bU _ _ e1];by_cases e2:j=k;{subst e2;rw[fD];exact .inr fun e=>qa i hi e1 e.symm};rw[bU _ _ e2];exact h.sep i j hi hj hij
theorem PgJ.far(h:PgJ w0 w bq br ga m neg A1 n1 c1 A2 n2 c2 V Q k v X){b:Nat}{t:TypeId}{cs:Array Value}(hb:Blk w b t cs)(ht:33≠t):∀i,i<=m+3->∀g,(cL V k v i).ownBlock=some g->¬g=b:=fun i hi g hg e=>by
 obtain⟨xs,h1⟩:=(h.own i hi).own;exact bK h1 hg ht _ _ (e▸hb)
theorem PgJ.row(h:PgJ w0 w bq br ga m neg A1 n1 c1 A2 n2 c2 V Q k v X)(hk:k<m):PgI w0 (w.setCell (aD ga k) v) bq br ga m neg A1 n1 c1 A2 n2 c2 (cL V k v) (cL Q k X):=by
 have kf:FrS (fun x=>x=ga) w (w.setCell (aD ga k) v):=eG (aM w ga k _) fun g e=>(by injection e with e;exact e.symm);refine⟨kf.ext h.ext fun b hb=>by rw[hb];exact h.a0,h.q0,h.r0,h.a0,?_,?_,?_,fun i hi=>kf.oq (NoT.one h.ab qD) (h.own i hi) fun g hg=>h.far h.ab qD i hi g hg,h.sep⟩;{rw[bU _ _ qO,bU _ _ qO];exact kf.blk h.qb fun e=>absurd (aZ (e▸h.qb) h.ab).2 qD};{rw[bU _ _ qO];exact kf.blk h.rb fun e=>absurd (aZ (e▸h.rb) h.ab).2 qD};rw[<-jzok];exact h.ab.sT k v
theorem PgJ.c(h:PgJ w0 w bq br ga m neg A1 n1 c1 A2 n2 c2 V Q m v X):PgI w0 (w.setCell (aD bq 0) v) bq br ga m neg A1 n1 c1 A2 n2 c2 (cL V m v) (cL Q m X):=by
 have kf:FrS (fun x=>x=bq) w (w.setCell (aD bq 0) v):=eG (aM w bq 0 _) fun g e=>(by injection e with e;exact e.symm);refine⟨kf.ext h.ext fun b hb=>by rw[hb];exact h.q0,h.q0,h.r0,h.a0,?_,?_,?_,fun i hi=>kf.oq (NoT.one h.qb qD) (h.own i hi) fun g hg=>h.far h.qb qD i hi g hg,h.sep⟩;{rw[fD,bU _ _ qO];exact h.qb.sT 0 v};{rw[bU _ _ qO];exact kf.blk h.rb fun e=>absurd (aZ (e▸h.rb) h.qb).2 qD};rw[sC _ (yX _)];exact kf.blk h.ab fun e=>absurd (aZ (e▸h.ab) h.qb).2 qD
theorem PgJ.b(h:PgJ w0 w bq br ga m neg A1 n1 c1 A2 n2 c2 V Q (m+1) v X):PgI w0 (w.setCell (aD bq 2) v) bq br ga m neg A1 n1 c1 A2 n2 c2 (cL V (m+1) v) (cL Q (m+1) X):=by
 have kf:FrS (fun x=>x=bq) w (w.setCell (aD bq 2) v):=eG (aM w bq 2 _) fun g e=>(by injection e with e;exact e.symm);refine⟨kf.ext h.ext fun b hb=>by rw[hb];exact h.q0,h.q0,h.r0,h.a0,?_,?_,?_,fun i hi=>kf.oq (NoT.one h.qb qD) (h.own i hi) fun g hg=>h.far h.qb qD i hi g hg,h.sep⟩;{rw[fD,bU _ _ qO];exact h.qb.sT 2 v};{rw[bU _ _ qO];exact kf.blk h.rb fun e=>absurd (aZ (e▸h.rb) h.qb).2 qD};rw[sC _ qO];exact kf.blk h.ab fun e=>absurd (aZ (e▸h.ab) h.qb).2 qD
theorem PgJ.x(h:PgJ w0 w bq br ga m neg A1 n1 c1 A2 n2 c2 V Q (m+2) v X):PgI w0 (w.setCell (aD br 1) v) bq br ga m neg A1 n1 c1 A2 n2 c2 (cL V (m+2) v) (cL Q (m+2) X):=by
 have kf:FrS (fun x=>x=br) w (w.setCell (aD br 1) v):=eG (aM w br 1 _) fun g e=>(by injection e with e;exact e.symm);refine⟨kf.ext h.ext fun b hb=>by rw[hb];exact h.r0,h.q0,h.r0,h.a0,?_,?_,?_,fun i hi=>kf.oq (NoT.one h.rb qD) (h.own i hi) fun g hg=>h.far h.rb qD i hi g hg,h.sep⟩;{rw[bU _ _ qO,bU _ _ qO];exact kf.blk h.qb fun e=>absurd (aZ (e▸h.qb) h.rb).2 qD};{rw[fD];exact h.rb.sT 1 v};rw[sC _ qO];exact kf.blk h.ab fun e=>absurd (aZ (e▸h.ab) h.rb).2 qD
theorem PgJ.slot(h:PgJ w0 w bq br ga m neg A1 n1 c1 A2 n2 c2 V Q (m+3) v X):PgI w0 w bq br ga m neg A1 n1 c1 A2 n2 c2 (cL V (m+3) v) (cL Q (m+3) X):=by
 refine⟨h.ext,h.q0,h.r0,h.a0,?_,?_,?_,h.own,h.sep⟩;{rw[bU _ _ qO,bU _ _ qO];exact h.qb};{rw[bU _ _ qO];exact h.rb};rw[sC _ qO];exact h.ab
theorem PgI.fr{S:Nat->Prop}(h:PgI w0 w bq br ga m neg A1 n1 c1 A2 n2 c2 V Q)(k:FrS S w w')(n32:NoT S w 196)(nr:∀b cs,S b->¬Blk w b 33 cs\/∀i,i<=m+3->(V i).ownBlock≠some b)(hS:∀b,S b->w0.heap.size<=b/\b≠bq/\b≠br/\b≠ga):PgI w0 w' bq br ga m neg A1 n1 c1 A2 n2 c2 V Q:=
 ⟨k.ext h.ext fun b hb=>(hS b hb).1,h.q0,h.r0,h.a0,k.blk h.qb fun e=>(hS _ e).2.1 rfl,k.blk h.rb fun e=>(hS _ e).2.2.1 rfl,k.blk h.ab fun e=>(hS _ e).2.2.2 rfl,fun i hi=>k.oq n32 (h.own i hi) fun g hg hs=>by
  obtain⟨xs,h1⟩:=(h.own i hi).own;obtain⟨cs,h2⟩:=aW h1 hg;rcases nr g cs hs with h3|h3
  ·exact h3 h2
  ·exact h3 i hi hg,h.sep⟩
end
def qSt(m c:Nat)(R R':Nat->LQ)(C B X Y:LQ):Nat->LQ:=fun i=>if i<m then(if i<c then R' i else R i)else if i=m then C else if i=m+1 then B else if i=m+2 then X else if i=m+3 then Y else []
section
variable {m c:Nat} {R R':Nat->List Rat} {C B X Y:List Rat}
theorem lT{i:Nat}(h:i<m):qSt m c R R' C B X Y i=if i<c then R' i else R i:=qE h
theorem lU:qSt m c R R' C B X Y m=C:=by unfold qSt;rw[qF (kZr _),qE rfl]
theorem mW:qSt m c R R' C B X Y (m+1)=B:=by unfold qSt;rw[qF qO,qF qO,qE rfl]
theorem oS:qSt m c R R' C B X Y (m+2)=X:=by unfold qSt;rw[qF qO,qF qO,qF qO,qE rfl]
theorem oT:qSt m c R R' C B X Y (m+3)=Y:=by unfold qSt;rw[qF qO,qF qO,qF qO,qF qO,qE rfl]
theorem sD(h:c<m){q:Rat}(hq:R' c=R c++[q]):cL (qSt m c R R' C B X Y) c (qSt m c R R' C B X Y c++[q])=qSt m (c+1) R R' C B X Y:=by
 funext i;rw[lT h,qF (kZr c), <-hq];by_cases e:i=c;{subst e;rw[fD,lT h,qE qO]};rw[bU _ _ e];unfold qSt;by_cases h1:i<m;{rw[qE h1,qE h1];by_cases h2:i<c;{rw[qE h2,qE qO]};rw[qF h2,qF qO]};rw[qF h1,qF h1]
theorem jzol(x:LQ):cL (qSt m c R R' C B X Y) m x=qSt m c R R' x B X Y:=by
 funext i;by_cases e:i=m;{subst e;rw[fD,lU]};rw[bU _ _ e];unfold qSt;rw[qF e,qF e]
theorem jzfc(x:LQ):cL (qSt m c R R' C B X Y) (m+1) x=qSt m c R R' C x X Y:=by
 funext i;by_cases e:i=m+1;{subst e;rw[fD,mW]};rw[bU _ _ e];unfold qSt;rw[qF e,qF e]
theorem jzom(x:LQ):cL (qSt m c R R' C B X Y) (m+2) x=qSt m c R R' C B x Y:=by
 funext i;by_cases e:i=m+2;{subst e;rw[fD,oS]};rw[bU _ _ e];unfold qSt;rw[qF e,qF e]
theorem jzon(x:LQ):cL (qSt m c R R' C B X Y) (m+3) x=qSt m c R R' C B X x:=by
 funext i;by_cases e:i=m+3;{subst e;rw[fD,oT]};rw[bU _ _ e];unfold qSt;rw[qF e,qF e]
theorem jzfd(h:m<=c):qSt m c R R' C B X Y=qSt m 0 R' R C B X Y:=by
 funext i;unfold qSt;by_cases h1:i<m;{rw[qE h1,qE h1,qE qO,qF qO]};rw[qF h1,qF h1]
theorem jzj(S:Nat->LQ):qSt m 0 R R' C B X Y=qSt m 0 R S C B X Y:=by
 funext i;unfold qSt;by_cases h1:i<m;{rw[qE h1,qE h1,qF (Nat.not_lt_zero i),qF (Nat.not_lt_zero i)]};rw[qF h1,qF h1]
end
open Sx
def PgB(w0 w:World)(m:Nat)(V:Nat->Value)(bx:List (Nat×Rat)):Prop:=∀g q,(g,q)∈bx->RB w g q/\w0.heap.size<=g/\∀i,i<=m+3->(V i).ownBlock≠some g
section
variable {w0 w w':World} {m k:Nat} {V:Nat->Value} {bx:List (Nat×Rat)}
theorem PgB.K(h:PgB w0 w m V bx)(hx:Ext w w'):PgB w0 w' m V bx:=fun g q hg=>by
 obtain⟨h1,h2,h3⟩:=h g q hg;exact⟨h1.K hx,h2,h3⟩
theorem PgB.pushed(h:PgB w0 w m V bx)(hk:k<=m+3){n n' c7 g7:Nat}{xs:List Value}(hown:w.ownsRow w0.heap.size 33 3 (V k) n xs)(grow:w.grownBy w' (V k).ownBlock)(new:some g7=(V k).ownBlock\/g7=w.heap.size):PgB w0 w' m (cL V k (.s (sA g7) n' c7)) bx:=fun g q hg=>by
 obtain⟨h1,h2,h3⟩:=h g q hg;have kf:FrS (fun b=>(V k).ownBlock=some b) w w':=eG grow fun g e=>e;refine⟨QB.fr h1 kf (fun _ hb=>bK hown hb qD) (h3 k hk),h2,fun i hi=>?_⟩;by_cases e:i=k;{subst e;(rw[fD];show some g7≠some g;rcases new with h4|h4);{rw[h4];exact h3 i hi};{have:=h1.lt;(intro e;injection e with e);omega}};{rw[bU _ _ e];exact h3 i hi}
theorem PgB.store(h:PgB w0 w m V bx){b o:Nat}{t:TypeId}{cs:Array Value}(hb:Blk w b t cs)(h1:t≠33)(h2:t≠196)(u:Value):PgB w0 (w.setCell (aD b o) u) m V bx:=fun g q hg=>by
 obtain⟨k1,k2,k3⟩:=h g q hg;have kf:FrS (fun x=>x=b) w (w.setCell (aD b o) u):=eG (aM w b o _) fun g e=>(by injection e with e;exact e.symm);refine⟨QB.fr k1 kf (NoT.one hb h2) (fun e=>?_),k2,k3⟩;obtain⟨qa,h4⟩:=QB.blk k1;exact h1 (aZ (e▸hb) h4).2
theorem PgB.more(h:PgB w0 w m V bx){g:Nat}{q:Rat}(hb:RB w g q)(hg:w0.heap.size<=g)(hV:∀i,i<=m+3->(V i).ownBlock≠some g):PgB w0 w m V ((g,q)::bx):=fun g' q' hm=>by
 rcases xZ.1 hm with e|e
 ·injection e with e1 e2
  rw[e1,e2];exact⟨hb,hg,hV⟩
 ·exact h g' q' e
theorem PgB.less{g:Nat}{q:Rat}(h:PgB w0 w m V ((g,q)::bx)):PgB w0 w m V bx:=fun g' q' hm=>h g' q' (xO _ hm)
theorem PgB.swap{a b:Nat×Rat}(h:PgB w0 w m V [a,b]):PgB w0 w m V [b,a]:=fun g' q' hm=>h g' q' (by
 rcases xZ.1 hm with e|e
 ·rw[e];exact xO _ List.mem_cons_self
 ·rw[xD.1 e];exact List.mem_cons_self)
theorem PgB.nil:PgB w0 w m V []:=fun _ _ h=>by cases h
theorem PgB.put{g:Nat}{q q':Rat}(h:PgB w0 w m V ((g,q)::bx))(hne:∀y∈bx,y.1≠g){neg:Bool}{A}{n c:Nat}{A'}{n' c':Nat}(hr:aB w neg A n c A' n' c' q'):
  PgB w0 (((w.setCell (aD g 0) (.bool neg)).setCell (aD g 1) (.s A n c)).setCell (aD g 2) (.s A' n' c')) m V ((g,q')::bx):=by
 obtain⟨h1,h2,h3⟩:=h g q List.mem_cons_self;obtain⟨cs,hb⟩:=QB.blk h1;have kf:FrS (fun x=>x=g) w (((w.setCell (aD g 0) (.bool neg)).setCell (aD g 1) (.s A n c)).setCell (aD g 2) (.s A' n' c')):=eG (dU w g 0 (.bool neg) (.s A n c) (.s A' n' c')) fun y e=>(by injection e with e;exact e.symm);refine PgB.more (fun g' q2 hm=>?_) (h1.put3 hr) h2 h3;obtain⟨k1,k2,k3⟩:=h g' q2 (xO _ hm);exact⟨QB.fr k1 kf (NoT.one hb qD) (hne _ hm),k2,k3⟩
theorem PgI.put{bq br ga:Nat}{neg:Bool}{A1}{n1 c1:Nat}{A2}{n2 c2:Nat}{Q:Nat->LQ}(h:PgI w0 w bq br ga m neg A1 n1 c1 A2 n2 c2 V Q){g:Nat}{q:Rat}(hg:RB w g q/\w0.heap.size<=g/\∀i,i<=m+3->(V i).ownBlock≠some g)(u0 u1 u2:Value):
  PgI w0 (((w.setCell (aD g 0) u0).setCell (aD g 1) u1).setCell (aD g 2) u2) bq br ga m neg A1 n1 c1 A2 n2 c2 V Q:=by
 obtain⟨h1,h2,h3⟩:=hg;obtain⟨cs,hb⟩:=QB.blk h1;have kf:FrS (fun x=>x=g) w (((w.setCell (aD g 0) u0).setCell (aD g 1) u1).setCell (aD g 2) u2):=eG (dU w g 0 u0 u1 u2) fun y e=>(by injection e with e;exact e.symm);refine h.fr kf (NoT.one hb qD) (fun b cs e=>.inr (by rw[e];exact h3)) fun b e=>?_;rw[e];exact⟨h2,fun e=>absurd (aZ hb (e▸h.qb)).2 qD,fun e=>absurd (aZ hb (e▸h.rb)).2 qD,fun e=>absurd (aZ hb (e▸h.ab)).2 qD⟩
theorem PgI.new{bq br ga:Nat}{neg:Bool}{A1}{n1 c1:Nat}{A2}{n2 c2:Nat}{Q:Nat->LQ}(h:PgI w0 w bq br ga m neg A1 n1 c1 A2 n2 c2 V Q):∀i,i<=m+3->(V i).ownBlock≠some w.heap.size:=fun i hi e=>by
 obtain⟨xs,h1⟩:=(h.own i hi).own;have:=(h1.lt _ e).2;omega
end
structure aX(w w':World):Prop where
 size:w.heap.size<=w'.heap.size
 blk:∀(b:Nat) (cs:Array Value) (t:TypeId) (fr:Nat×Nat),(t=3\/t=42)->w.heap[b]?=some (.cells cs t fr)->w'.heap[b]?=some (.cells cs t fr)
section
variable {w w' w2:World}
theorem aX.refl w:aX w w:=⟨yX _,fun _ _ _ _ _ h=>h⟩
theorem aX.tr(h:aX w w')(k:aX w' w2):aX w w2:=⟨yY h.size k.size,fun b cs t fr ht hb=>k.blk b cs t fr ht (h.blk b cs t fr ht hb)⟩
theorem aX.of_fr{S:Nat->Prop}(k:FrS S w w')(h1:NoT S w 3)(h2:NoT S w 42):aX w w':=⟨k.size,fun b cs t fr ht hb=>by
 have hn:¬S b:=fun hs=>by
  rcases ht with rfl|rfl
  ·exact h1 b hs cs fr hb
  ·exact h2 b hs cs fr hb
 rw[k.block b (iF hb) hn];exact hb⟩
theorem aX.of_ext(h:Ext w w'):aX w w':=aX.of_fr (S:=fun _=>False) (eE h) (fun _ h=>h.elim) (fun _ h=>h.elim)
theorem aX.own{B n s:Nat}{v:Value}{xs:List Value}(hown:w.ownsRow B 33 s v n xs)(grow:w.grownBy w' v.ownBlock):aX w w':=
 aX.of_fr (S:=fun b=>v.ownBlock=some b) (eG grow fun g e=>e) (fun _ hb=>bK hown hb qD) (fun _ hb=>bK hown hb qD)
theorem aX.store{b o:Nat}{t:TypeId}{cs:Array Value}(hb:Blk w b t cs)(h1:t≠3)(h2:t≠42)(u:Value):aX w (w.setCell (aD b o) u):=
 aX.of_fr (S:=fun x=>x=b) (eG (aM w b o _) fun g e=>by injection e with e;exact e.symm) (NoT.one hb h1) (NoT.one hb h2)
theorem aX.rdT{t:TypeId}{A}{xs:List Value}(h:aX w w')(ht:t=3\/t=42)(hr:RdT w t A xs):RdT w' t A xs:=fun hne=>by
 obtain⟨b,o,cs,fr,e,h1,h2⟩:=hr hne;exact⟨b,o,cs,fr,e,h.blk b cs t fr ht h1,h2⟩
end
def iB(w:World)(A:OA)(ps:List (LN)):Prop:=∃cells:List Value,cells.length=ps.length/\RdT w 42 A cells/\∀(i:Nat) (p:LN),ps[i]?=some p->∃(A:OA) (c:Nat),cells[i]?=some (.s A p.length c)/\p.length<=c/\RdT w 3 A (ints p)
theorem iB.K{w w'}{A}{ps:List (LN)}(h:iB w A ps)(k:aX w w'):iB w' A ps:=by
 obtain⟨cells,h1,h2,h3⟩:=h;refine⟨cells,h1,k.rdT (.inr rfl) h2,fun i p hp=>?_⟩;obtain⟨A',c',k1,k2,k3⟩:=h3 i p hp;exact⟨A',c',k1,k2,k.rdT (.inl rfl) k3⟩
theorem iB.of{w}{B n c:Nat}{A}{ps:List (LN)}(h:cJ w B (.s A n c) ps)(hn:ps.length=n):iB w A ps:=by
 obtain⟨cells,h1,h2,h3⟩:=h.ex;rw[hn]at h2;refine⟨cells,h1,mT h2,fun i p hp=>?_⟩;obtain⟨A',c',k1,k2,k3⟩:=h3 i p hp;exact⟨A',c',k1,k2,k3⟩
theorem iB.at_{w}{A}{ps:List (LN)}(h:iB w A ps){i:Nat}{p:LN}(hp:ps[i]?=some p):
  ∃(b o:Nat) (A':OA) (c':Nat),A=some (aD b o)/\b<w.heap.size/\w.cell? (aD b (o+i))=some (.s A' p.length c')/\p.length<=c'/\RdT w 3 A' (ints p):=by
 obtain⟨cells,h1,h2,h3⟩:=h;have qa:=(yH.1 hp).1;obtain⟨b,o,e,hb,hc⟩:=h2.rd.at_ (i:=i) qO;obtain⟨A',c',k1,k2,k3⟩:=h3 i p hp;exact⟨b,o,A',c',e,hb,(hc i qO).trans k1,k2,k3⟩
theorem iB.atK{w}{A}{ps:List (LN)}(h:iB w A ps){i:Nat}{p:LN}(hp:ps[i]?=some p):
  ∃(b o:Nat) (A':OA) (c':Nat),A=some (aD b o)/\p.length<=c'/\RdT w 3 A' (ints p)/\∀w',aX w w'->w'.cell? (aD b (o+i))=some (.s A' p.length c'):=by
 obtain⟨cells,h1,h2,h3⟩:=h;have qa:=(yH.1 hp).1;obtain⟨A',c',k1,k2,k3⟩:=h3 i p hp;obtain⟨b,o,cs,fr,e,h4,h5⟩:=h2 (fun e=>by rw[e]at h1;have h1:0=ps.length:=h1;omega);refine⟨b,o,A',c',e,k2,k3,fun w' k=>?_⟩;have h6:=k.blk b cs _ fr (.inr rfl) h4;have h7:w'.cell? (aD b (o+i))=cs[o+i]?:=(by unfold World.cell?;simp[h6]);rw[h7,h5 i qO,k1]
def bX(pr:LQ)(x:LN)(n:Nat):Rat:=sm n fun a=>if a∈x then at_ pr a else 0
theorem jzoo{pr:LQ}{x:LN}{n:Nat}(h:n∈x):bX pr x (n+1)=bX pr x n+at_ pr n:=by
 show bX pr x n+(if n∈x then at_ pr n else 0)=_;rw[qE h]
theorem jzop{pr:LQ}{x:LN}{n:Nat}(h:n∉x):bX pr x (n+1)=bX pr x n:=by
 show bX pr x n+(if n∈x then at_ pr n else 0)=_;rw[qF h,Rat.add_zero]
theorem jzk{pr:LQ}{x:LN}{P:Nat}(h:∀q∈pr,SzQ q P)(hP:1<=P)(n:Nat):SzQ (bX pr x n) (1+n*(P+1)):=mV n fun a _=>by
 split;{unfold at_;by_cases ha:a<pr.length;{rw[yG ha];exact h _ (xR ha)};{rw[yI qO];exact SzQ.zero.mono hP}};{exact SzQ.zero.mono hP}
theorem jzoq(pr:LQ)(L2:Nat)(xs:List (LN))(x:LN):aJ pr L2 (xs++[x])=if xs=[]\/bX pr x L2<aJ pr L2 xs then bX pr x L2 else aJ pr L2 xs:=by
 (cases xs with|nil=>rw[qE (.inl rfl)];rfl|cons y ys=>show(ys++[x]).foldl _ _=_;rw[kZt];show(if bX pr x L2<aJ pr L2 (y::ys)then bX pr x L2 else aJ pr L2 (y::ys))=_;by_cases h:bX pr x L2<aJ pr L2 (y::ys);{rw[qE h,qE (.inr h)]};rw[qF h,qF (fun e=>e.elim (fun e=>by cases e) h)])
theorem jzor{pr:LQ}{L2 n:Nat}{xs:List (LN)}{x:LN}(h:xs[n]?=some x):aJ pr L2 (xs.take (n+1))=if n=0\/bX pr x L2<aJ pr L2 (xs.take n)then bX pr x L2 else aJ pr L2 (xs.take n):=by
 obtain⟨hn,e⟩:=yH.1 h;rw[kQr,h];show aJ pr L2 (xs.take n++[x])=_;rw[jzoq];have e2:(xs.take n=[])↔n=0:=(by rw[<-kQp,xF];omega);simp only[e2]
theorem jzfe{pr:LQ}{P:Nat}(h:∀q∈pr,SzQ q P)(hP:1<=P)(L2:Nat)(xs:List (LN)):SzQ (aJ pr L2 xs) (1+L2*(P+1)):=by
 by_cases e:xs=[];{rw[e];exact SzQ.zero.mono qO};obtain⟨x,_,e2⟩:=(jzh pr L2 (xs:=xs)).2 e;rw[e2];exact jzk h hP L2
end Go.Proofs.YtfeeacaofjpkaaaGreatDoor
namespace Go.Proofs.YtfeeacaofjpkaaaGreatDoor
open Go.Proofs.Tryz
open Go.RowKit
theorem aE.gK{w w'}{A}{n c N:Nat}{t':TypeId}{row:Option Nat}(h:aE w A n c N)(hg:w.grownBy w' row)(hr:∀k,row=some k->∃cs fr,w.heap[k]?=some (.cells cs t' fr))(hne:196≠t'):aE w' A n c N:=by
 obtain⟨ds,h1,h2,h3,h4,h5⟩:=h;exact⟨ds,h1,h2,h3,h4,h5.gK hg hr hne⟩
theorem QR.gK{w w'}{cs:List Value}{q:Rat}{t':TypeId}{row:Option Nat}(h:QR w cs q)(hg:w.grownBy w' row)(hr:∀k,row=some k->∃cs fr,w.heap[k]?=some (.cells cs t' fr))(hne:196≠t'):QR w' cs q:=by
 obtain⟨neg,A,n,c,A',n',c',e,h1⟩:=h;exact⟨neg,A,n,c,A',n',c',e,h1.1,h1.2.1.gK hg hr hne,h1.2.2.gK hg hr hne⟩
section
variable {P:Program} (w:World)
theorem jzos(base:Nat)(t ty e:TypeId)(i:TypeInfo)(z:Value)(sz bytes:Nat)(ht:P.underlying t=some (.slice e))(hi:P.info? e=some i)(hz:i.zero=some z)
  (hsize:i.size=sz) (hby:i.bytes=bytes) (hzs:z.cells.size=sz) (hsz:0<sz)
  (v:Value) (n:Nat) (xs:List Value) (hown:w.ownsRow base e sz v n xs)
  A (m c:Nat) (news:List Value) (hm:news.length=m*sz) (hr:Rd w A news) (hA:A=none->m=0) (h1:∀u∈news,u.oneCell'=true)
  (h63:n+m<=maxLen) (hbytes:(n+m)*bytes<=140737488355328) (hbase:base<=w.heap.size):
  ∃v' w',(Builtin.append_ #[t,t] ty #[v,.s A m c]).run P w=.ok v' w'/\w'.ownsRow base e sz v' (n+m) (xs++news)/\w.grownBy w' v.ownBlock/\
   (v'.ownBlock=v.ownBlock\/v'.ownBlock=some w.heap.size):=by
 (rcases A with _|ad);{have qf:m=0:=hA rfl;(subst qf;have hn:news=[]:=kQz qO;subst hn;refine⟨v,w,?_,by simpa using hown,World.grownBy.refl w _,.inl rfl⟩;rcases hown.2 with⟨rfl,rfl⟩|⟨g,cap,cur,rfl,_,_,hnc,_⟩);{simp[Builtin.append_,run_underlying ht,sizeOf,typeInfo,hi,Builtin.lenOf,Builtin.firstCells]};simp[Builtin.append_,run_underlying ht,sizeOf,typeInfo,hi,Builtin.lenOf,Builtin.firstCells,hnc,storeCells]};have qa:∀j u,news[j]?=some u->w.cell? (ad.add j)=some u:=(by (intro j u hu;have hj:j<news.length:=(yH.1 hu).1;obtain⟨b,o,he,_,hc⟩:=hr.at_ hj;injection he with he);subst he;rw[mC,hc j hj,hu]);obtain⟨v',w',qe,h2,h3,_,h5⟩:=run_append_own_at (P:=P) w base t ty e i z sz bytes ht hi hz hsize hby hzs hsz v n xs hown ad m c news hm qa h1 h63 hbytes hbase;exact⟨v',w',qe,h2,h3,h5⟩
theorem jzot{ops:Array Oper}{rest:List Oper}{o:Oper}{a:Act}{Q:Exit->Act->World->Prop}(t e:TypeId)(z:Value)(sz bytes:Nat)(hgd:o.guard=none)(s x:Operand)
  (ho:o.op=.call {callee:=.builtin .append,args:=#[s,x],argTypes:=#[t,t]})
  (ht:P.underlying t=some (.slice e)) (hinfo:(P.info? e).map (fun i=>(i.zero,i.size,i.bytes))=some (some z,sz,bytes)) (hzs:z.cells.size=sz) (hsz:0<sz)
  (base:Nat) (v:Value) (n:Nat) (xs:List Value) (hs:a.eval s=v) (hown:w.ownsRow base e sz v n xs)
  A (m c:Nat) (news:List Value) (hx:a.eval x=.s A m c) (hm:news.length=m*sz) (hr:Rd w A news) (hA:A=none->m=0) (h1:∀u∈news,u.oneCell'=true)
  (h63:n+m<=maxLen) (hbytes:(n+m)*bytes<=140737488355328) (hbase:base<=w.heap.size)
  (h:∀v' w',w'.ownsRow base e sz v' (n+m) (xs++news)->w.grownBy w' v.ownBlock->(v'.ownBlock=v.ownBlock\/v'.ownBlock=some w.heap.size)->wpList P ops Q rest (a.put o.dst v') w'):wpList P ops Q (o::rest) a w:=
 wpList_plain hgd fun _ hK=>by
  obtain⟨ti,hi,qf,qg,qe⟩:=info_parts hinfo;obtain⟨v',w',qa,h2,h3,h4⟩:=jzos (P:=P) w base t o.type e ti z sz bytes ht hi qf qg qe hzs hsz v n xs hown A m c news hm hr hA h1 h63 hbytes hbase;unfold Oper.wp execOp;simp only[ho,resolve,invoke,builtin,Sem.run_bind,Sem.run_pure,Result.andThen_ok,List.map_toArray,kZa,List.map_nil,hs,hx,qa];exact hK _ _ (h v' w' h2 h3 h4)
end
theorem jzff{w:World}{B n s:Nat}{e:TypeId}{v:Value}{xs:List Value}(h:w.ownsRow B e s v n xs):∃A c,v=.s A n c/\n<=c:=by
 rcases h.2 with⟨h3,h4⟩|⟨g',cap,cur,h3,h4,h5,h6,_⟩
 ·subst h4;exact⟨none,0,by first|exact h3|exact h3.1,yX _⟩
 exact⟨_,cap,h3,h6⟩
open Sx
theorem OQ.ql{w}{B n c:Nat}{A}{qs:LQ}(h:OQ QR 33 w B (.s A n c) qs)(hn:qs.length=n):QL w A qs:=by
 obtain⟨css,h1,h2,h3,h4⟩:=h;rw[hn]at h3;exact⟨css,h1,h2,(mT h3).rd,h4⟩
theorem OQ.form1{w}{B:Nat}{v:Value}{qs:LQ}(h:OQ QR 33 w B v qs):∃A c,v=.s A qs.length c/\qs.length<=c:=by
 obtain⟨xs,h1⟩:=h.own;exact jzff h1
theorem jzou{w}{css:List (List Value)}{qs:LQ}(hl:css.length=qs.length)(h:∀(i:Nat) (q:Rat),qs[i]?=some q->∃cs,css[i]?=some cs/\QR w cs q):∀u∈css.flatten,u.oneCell'=true:=fun u hu=>by
 obtain⟨cs,qa,hu⟩:=List.mem_flatten.1 hu;obtain⟨i,hi,e⟩:=List.mem_iff_getElem.1 qa;obtain⟨qe,k1,neg,A,n,c,A',n',c',rfl,_⟩:=h i qs[i] (yG qO);rw[yG hi,e]at k1;injection k1 with k1;subst k1;simp at hu;rcases hu with rfl|rfl|rfl <;> rfl
theorem QL.joined{w':World}{B n k c:Nat}{A}{css css2:List (List Value)}{qs ps:LQ}(h1:css.length=qs.length)(h2:∀cs∈css,cs.length=3)(h3:css2.length=ps.length)(h4:∀cs∈css2,cs.length=3)
  (own':w'.ownsRow B 33 3 (.s A (n+k) c) (n+k) (css.flatten++css2.flatten)) (q1:∀(i:Nat) (q:Rat),qs[i]?=some q->∃cs,css[i]?=some cs/\QR w' cs q) (q2:∀(i:Nat) (q:Rat),ps[i]?=some q->∃cs,css2[i]?=some cs/\QR w' cs q):QL w' A (qs++ps):=by
 refine⟨css++css2,by rw[yQ,yQ,h1,h3],fun cs hc=>?_,by rw[List.flatten_append];exact(mT own').rd,fun i q hi=>?_⟩;{(rcases xY.1 hc with hc|hc);{exact h2 cs hc};exact h4 cs hc};by_cases e:i<qs.length;{rw[yR e]at hi;obtain⟨cs,k1,k2⟩:=q1 i q hi;exact⟨cs,by rw[yR qO];exact k1,k2⟩};rw[yS qO]at hi;obtain⟨cs,k1,k2⟩:=q2 _ q hi;exact⟨cs,by rw[yS qO,h1];exact k1,k2⟩
structure PgF(w0 w:World)(bq br ga m:Nat)(neg:Bool)(A1:OA)(n1 c1:Nat)(A2:OA)(n2 c2:Nat)(V:Nat->Value)(Q:Nat->LQ)(vY:Value):Prop where
 ext:Ext w0 w
 qb:Blk w bq 56 #[V m,.s (sA ga) m m,V (m+1)]
 rb:Blk w br 58 #[vI 1,V (m+2),vY,zN,.bool neg,.s A1 n1 c1,.s A2 n2 c2]
 ab:Blk w ga 35 (eY V m)
 own:∀i,i<=m+2->OQ QR 33 w w0.heap.size (V i) (Q i)
theorem PgI.final{w0 w w':World}{bq br ga m:Nat}{neg:Bool}{A1}{n1 c1:Nat}{A2}{n2 c2:Nat}{V:Nat->Value}{Q:Nat->LQ}(h:PgI w0 w bq br ga m neg A1 n1 c1 A2 n2 c2 V Q){n k c:Nat}{A}{css css2:List (List Value)}{qs ps:LQ}(h1:css.length=qs.length)(h2:∀cs∈css,cs.length=3)(h3:css2.length=ps.length)(h4:∀cs∈css2,cs.length=3)
  (q1:∀(i:Nat) (q:Rat),qs[i]?=some q->∃cs,css[i]?=some cs/\QR w cs q) (q2:∀(i:Nat) (q:Rat),ps[i]?=some q->∃cs,css2[i]?=some cs/\QR w cs q) (hown:w.ownsRow w0.heap.size 33 3 (V (m+3)) n css.flatten)
  (own':w'.ownsRow w0.heap.size 33 3 (.s A (n+k) c) (n+k) (css.flatten++css2.flatten)) (grow:w.grownBy w' (V (m+3)).ownBlock):
  Blk w' br 58 #[vI 1,V (m+2),zN,zN,.bool neg,.s A1 n1 c1,.s A2 n2 c2]/\PgF w0 (w'.setCell (aD br 2) (.s A (n+k) c)) bq br ga m neg A1 n1 c1 A2 n2 c2 V Q (.s A (n+k) c)/\QL (w'.setCell (aD br 2) (.s A (n+k) c)) A (qs++ps):=by
 have kf:FrS (fun b=>(V (m+3)).ownBlock=some b) w w':=eG grow fun g e=>e;have qf:NoT (fun b=>(V (m+3)).ownBlock=some b) w 196:=fun _ hb=>bK hown hb qD;have far:∀{b:Nat} {t:TypeId} {cs:Array Value},Blk w b t cs->33≠t->¬(V (m+3)).ownBlock=some b:=fun hb ht e=>bK hown e ht _ _ hb;have qa:=kf.blk h.rb (far h.rb qD);have qg:=kf.blk h.qb (far h.qb qD);have qh:=kf.blk h.ab (far h.ab qD);have qi:Ext w0 w':=kf.ext h.ext fun b hb=>(hown.lt b hb).1;have k2:FrS (fun x=>x=br) w' (w'.setCell (aD br 2) (.s A (n+k) c)):=eG (aM w' br 2 _) fun g e=>(by injection e with e;exact e.symm);have qe:NoT (fun x=>x=br) w' 196:=NoT.one qa qD;refine⟨qa,⟨k2.ext qi fun b hb=>by rw[hb];exact h.r0,k2.blk qg fun e=>absurd (aZ (e▸qg) qa).2 qD,qa.sT 2 _,k2.blk qh fun e=>absurd (aZ (e▸qh) qa).2 qD,fun i hi=>?_⟩,?_⟩;{have o1:=kf.oq qf (h.own i qO) fun g hg hs=>(by (rcases h.sep i (m+3) qO (yX _) qO with h5|h5);{rw[h5]at hg;cases hg};exact h5 (hg.trans hs.symm));refine k2.oq qe o1 fun g hg e=>?_;obtain⟨xs,h6⟩:=o1.own;exact bK h6 hg qD _ _ (e▸qa)};refine QL.joined h1 h2 h3 h4 (own'.kept (aM w' br 2 _) (.inr fun e=>bK own' e qD _ _ qa)) (fun i q hi=>?_) (fun i q hi=>?_);{obtain⟨cs,e1,e2⟩:=q1 i q hi;exact⟨cs,e1,k2.qr qe (kf.qr qf e2)⟩};obtain⟨cs,e1,e2⟩:=q2 i q hi;exact⟨cs,e1,k2.qr qe (kf.qr qf e2)⟩
section
variable {w0 w:World} {bq br ga m:Nat} {neg:Bool} {A1:Option Addr} {n1 c1:Nat} {A2:Option Addr} {n2 c2:Nat} {V:Nat->Value} {R:Nat->List Rat} {C B X Y:List Rat}
theorem PgF.lpr{vY:Value}(h:PgF w0 w bq br ga m neg A1 n1 c1 A2 n2 c2 V (qSt m 0 R R C B X Y) vY){n:Nat}(hn:C.length=n)(hn1:1<=n)(hn2:n<=100)(hm:m<=100)(hB:B.length=m)(hR:∀i,i<m->(R i).length=n)(sc:∀q∈C,SzQ q 1)(sr:∀i,i<m->∀q∈R i,SzQ q 1)(sb:∀q∈B,SzQ q 1):
  ∃(AC:OA) (cc:Nat) (AB:OA) (cb:Nat),V m=.s AC n cc/\V (m+1)=.s AB m cb/\LpR w n m AC (sA ga) AB C B R:=by
 have hc:=h.own m qO;have hb:=h.own (m+1) qO;rw[lU]at hc;rw[mW]at hb;obtain⟨AC,cc,e1,_⟩:=hc.form1;obtain⟨AB,cb,e2,_⟩:=hb.form1;rw[hn]at e1;rw[hB]at e2;rw[e1]at hc;rw[e2]at hb;refine⟨AC,cc,AB,cb,e1,e2,hc.ql hn,fun i hi=>?_,hb.ql hB,hn,hB,hn1,hn2,hm,sc,sr,sb⟩;have hr:=h.own i qO;rw[lT hi,qF (Nat.not_lt_zero i)]at hr;obtain⟨A,c,e,_⟩:=hr.form1;rw[hR i hi]at e;rw[e]at hr;refine⟨ga,0,A,c,rfl,h.ab.lt,?_,hr.ql (hR i hi),hR i hi⟩;rw[kQu,h.ab.cell,fW hi,e]
end
end Go.Proofs.YtfeeacaofjpkaaaGreatDoor
namespace Go.Proofs.YtfeeacaofjpkaaaGreatDoor
open Go.Proofs.Tryz
open Go Go.RowKit
variable {P:Program} {md:Region.Mode} {ops:Array Oper} {Q:Exit->Act->World->Prop} {S:World->Prop} {L:Nat}
theorem lV{i j:Nat}{o o':Oper}{fuel:Nat}{listed:Array Bool}{a:Act}{w}(hiL:i≠L)(hjL:j≠L)(hr:Region.ready md ops listed=[i,j])(ho:ops[i]?=some o)(ho':ops[j]?=some o')(hw:Region.wanted o (yielded ops a.tmps)=true)(hw':Region.wanted o' (yielded ops a.tmps)=true)
  (h:∀K':Act->World->Prop,Hid (∀a w,S w->wpAnyL P md ops Q S L fuel (listed.setIfInBounds i true) a w->K' a w)->Oper.wp P o a w K' Q)
  (h':∀K':Act->World->Prop,Hid (∀a w,S w->wpAnyL P md ops Q S L fuel (listed.setIfInBounds j true) a w->K' a w)->Oper.wp P o' a w K' Q):wpAnyL P md ops Q S L (fuel+1) listed a w:=
 ⟨fun h0=>(by rw[hr]at h0;cases h0),fun k hk=>(by
  rw[hr]at hk;rcases xZ.1 hk with rfl|hk
  ·exact wpOp_step ho fun K' hK=>by rw[qE hw];exact h K' (Hx fun a w h1 h2=>hK a w ⟨fun e=>absurd e hiL,fun _=>⟨h1,h2⟩⟩)
  ·obtain rfl:=xD.1 hk
   exact wpOp_step ho' fun K' hK=>by rw[qE hw'];exact h' K' (Hx fun a w h1 h2=>hK a w ⟨fun e=>absurd e hjL,fun _=>⟨h1,h2⟩⟩))⟩
end Go.Proofs.YtfeeacaofjpkaaaGreatDoor
namespace Go.Proofs.YtfeeacaofjpkaaaGreatDoor
open Go.Proofs.Tryz
open Go Go.RowKit
theorem jzov(x:LN)(a:Nat)A(n c:Nat)(hn:x.length=n)w(hx:Rd w A (ints x))(hl:n<=1000000):
  Calls prog 17 #[.s A n c,vI (a:Int)] w fun e w'=>e=.returned (.bool (decide (a∈x)))/\Ext w w':=by
 have HX:=Hx (kQa hx hn);clear hx hn;go_enter func17,ntmps17;go_wp2;go_loopg [5] n (fun q it wx=>∃(i:Nat),n-i=q/\i<=n/\it=vI (i:Int)/\Hid (Ext w wx/\a∉x.take i));exact⟨0,rfl,yZ _,rfl,Hx ⟨eR w,qS⟩⟩;obtain⟨i,rfl,hi,rfl,I⟩:=hrel;by_cases qf:i<n;{(have qa:i<x.length:=by have:=HX.o.2;omega);obtain⟨y,hy⟩:∃y,x[i]?=some y:=⟨_,yG qa⟩;obtain⟨b,o,rfl,_,c0⟩:=(HX.o.1.K I.o.1).ints_ qa;rw[hy,kQ1]at c0;have nN:(i:Int)<(n:Int):=qO;have n0:(0:Int)<=(i:Int):=qO;by_cases e:y=a;{(have e2:((y:Int)==(a:Int))=true:=by rw[e];simp);have qe:Hid (decide (a∈x)=true):=Hx (yO (by rw[<-e];exact yJ hy));clear e hy qa;go_wp2;go_ret;exact⟨by simpa using qe.o,I.o.1⟩};have e2:((y:Int)==(a:Int))=false:=(by rw[yK];omega);have J:Hid (Ext w wr/\a∉x.take (i+1)):=Hx (⟨I.o.1,by rw[kQr,hy];simp only[Option.toList_some,xY,xD,not_or];exact⟨I.o.2,fun h=>e h.symm⟩⟩);clear e hy qa;go_wp2;go_roundg (n-(i+1));exact⟨i+1,rfl,qO,by go_num,J⟩;omega};obtain rfl:i=n:=qO;have qe:Hid (decide (a∈x)=false):=Hx (yP (by have:=I.o.2;rw[yU (by rw[HX.o.2];exact yX _)]at this;exact this));go_wp2;go_ret;exact⟨by simpa using qe.o,I.o.1⟩
section
variable {P:Program} {md:Region.Mode} {ops:Array Oper} {Q:Exit->Act->World->Prop} {S:World->Prop} {L:Nat}
theorem jzfg{i j l:Nat}{o o' o2:Oper}{fuel:Nat}{listed:Array Bool}{a:Act}{w}(hiL:i≠L)(hjL:j≠L)(hlL:l≠L)(hr:Region.ready md ops listed=[i,j,l])(ho:ops[i]?=some o)(ho':ops[j]?=some o')(ho2:ops[l]?=some o2)(hw:Region.wanted o (yielded ops a.tmps)=true)(hw':Region.wanted o' (yielded ops a.tmps)=true)(hw2:Region.wanted o2 (yielded ops a.tmps)=true)
  (h:∀K':Act->World->Prop,Hid (∀a w,S w->wpAnyL P md ops Q S L fuel (listed.setIfInBounds i true) a w->K' a w)->Oper.wp P o a w K' Q)
  (h':∀K':Act->World->Prop,Hid (∀a w,S w->wpAnyL P md ops Q S L fuel (listed.setIfInBounds j true) a w->K' a w)->Oper.wp P o' a w K' Q)
  (h2:∀K':Act->World->Prop,Hid (∀a w,S w->wpAnyL P md ops Q S L fuel (listed.setIfInBounds l true) a w->K' a w)->Oper.wp P o2 a w K' Q):wpAnyL P md ops Q S L (fuel+1) listed a w:=
 ⟨fun h0=>(by rw[hr]at h0;cases h0),fun k hk=>(by
  rw[hr]at hk;rcases xZ.1 hk with rfl|hk
  ·exact wpOp_step ho fun K' hK=>by rw[qE hw];exact h K' (Hx fun a w h1 h2=>hK a w ⟨fun e=>absurd e hiL,fun _=>⟨h1,h2⟩⟩)
  ·rcases xZ.1 hk with rfl|hk
   ·exact wpOp_step ho' fun K' hK=>by rw[qE hw'];exact h' K' (Hx fun a w h1 h2=>hK a w ⟨fun e=>absurd e hjL,fun _=>⟨h1,h2⟩⟩)
   ·obtain rfl:=xD.1 hk
    exact wpOp_step ho2 fun K' hK=>by rw[qE hw2];exact h2 K' (Hx fun a w h1 h2=>hK a w ⟨fun e=>absurd e hlL,fun _=>⟨h1,h2⟩⟩))⟩
end
end Go.Proofs.YtfeeacaofjpkaaaGreatDoor
