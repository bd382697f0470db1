/- Part 19 of 24 of what the Flows claims share (the white space is struck, the texts are joined). -/
import Derived.Lib.AppendZerosOnto
import Derived.Test.YthbmikapohlikaaGreatDoorZ18
set_option linter.unusedVariables false
set_option linter.unusedSimpArgs false
set_option maxRecDepth 100000
set_option maxHeartbeats 8000000
namespace Go.Proofs.YthbmikapohlikaaGreatDoor
open Go.RowKit
theorem isI_abs{q:Rat}{D:Int}(h:Sx.isI (q*(D:Rat))):Sx.isI (q*((D.natAbs:Int):Rat)):=by
 obtain⟨n,hn⟩:=h;rcases Int.natAbs_eq D with e|e
 ·exact⟨n,by rw [<-e];exact hn⟩
 ·refine⟨-n,?_⟩
  have e2:((D.natAbs:Int):Rat)= -(D:Rat):=(by rw [<-Rat.intCast_neg];congr 1;omega);rw [e2,Rat.intCast_neg, <-hn];grind
theorem le_num{v:Rat}(h:0<=v):v<=((v.num.natAbs:Int):Rat):=by
 have h1:0<=v.num:=Rat.num_nonneg.2 h;have h2:((v.num.natAbs:Int))=v.num:=(by omega);rw [h2];have h4:v*((v.den:Int):Rat)=(v.num:Rat):=by
  have h:=Rat.num_divInt_den v;rw [Rat.divInt_eq_div]at h;have hd:((v.den:Int):Rat)≠0:=fun e=>v.den_nz (by have:=Rat.intCast_inj.1 (e.trans Rat.intCast_zero.symm);omega);rw [Rat.div_def]at h;have h9:(v.num:Rat)*((v.den:Int):Rat)⁻¹*((v.den:Int):Rat)=v*((v.den:Int):Rat):=(by rw [h]);rw [Rat.mul_assoc,Rat.inv_mul_cancel _ hd,Rat.mul_one]at h9;exact h9.symm
 have h5:(1:Rat)<=((v.den:Int):Rat):=by
  have:(1:Int)<=(v.den:Int):=by have:=v.den_pos;omega
  exact_mod_cast (Rat.intCast_le_intCast.2 this)
 rw [<-h4];have h6:=yT h5 h;rw [Rat.mul_one]at h6;exact h6
theorem zb_pos:1<=ZB:=by unfold ZB;decide
theorem rest_szC{r v am:Rat}{Dn:Int}(C:Nat)(hD:Dn≠0)(hDs:Dn.natAbs<=C)(hv:Sx.SzZ v ZB)(hv0:0<=v)(ham:am<=((1048576:Int):Rat))(ham0:0<=am)(h0:0<=r)(h1:r<=v*am)(hI:Sx.isI (r*(Dn:Rat))):Sx.SzZ r (ZB*1048576*C):=by
 obtain⟨N,hN⟩:=isI_abs hI;have qa:(0:Rat)<=((Dn.natAbs:Int):Rat):=Rat.intCast_nonneg.2 (by omega);have qe:0<=(N:Rat):=(by rw [<-hN];exact vA h0 qa);have qf:0<=N:=Rat.intCast_nonneg.1 qe;have k1:v<=((ZB:Int):Rat):=Rat.le_trans (le_num hv0) (Rat.intCast_le_intCast.2 (by have:=hv.1;omega));have k2:v*am<=((ZB:Int):Rat)*((1048576:Int):Rat):=by
  have a1:=Rat.mul_le_mul_of_nonneg_right k1 ham0;have a2:=yT ham (Rat.intCast_nonneg.2 (show(0:Int)<=(ZB:Int) by omega));exact Rat.le_trans a1 a2
 have k3:(N:Rat)<=((ZB:Int):Rat)*((1048576:Int):Rat)*((C:Int):Rat):=by
  rw [<-hN];have a1:=Rat.mul_le_mul_of_nonneg_right (Rat.le_trans h1 k2) qa;have a2:((Dn.natAbs:Int):Rat)<=((C:Int):Rat):=Rat.intCast_le_intCast.2 (by omega);have a3:=yT a2 (show(0:Rat)<=((ZB:Int):Rat)*((1048576:Int):Rat)from vA (Rat.intCast_nonneg.2 (by omega)) (Rat.intCast_nonneg.2 (by omega)));exact Rat.le_trans a1 a3
 rw [<-Rat.intCast_mul, <-Rat.intCast_mul]at k3;have k4:N<=(ZB:Int)*1048576*(C:Int):=Rat.intCast_le_intCast.1 k3;have k5:((ZB*1048576*C:Nat):Int)=(ZB:Int)*1048576*(C:Int):=(by rw [Int.natCast_mul,Int.natCast_mul];rfl);have k6:C<=ZB*1048576*C:=Nat.le_mul_of_pos_left C (Nat.mul_pos zb_pos (by decide));have k7:N.natAbs<=ZB*1048576*C:=(by omega);exact Sx.size_of (D:=(Dn.natAbs:Int)) (N:=N) (by omega) hN (by rw [Int.natAbs_natCast];exact yY hDs k6) k7
theorem rest_sz{r v am:Rat}{Dn:Int}(hD:Dn≠0)(hDs:Dn.natAbs<=33554432^24)(hv:Sx.SzZ v ZB)(hv0:0<=v)(ham:am<=((1048576:Int):Rat))(ham0:0<=am)(h0:0<=r)(h1:r<=v*am)(hI:Sx.isI (r*(Dn:Rat))):SzQ r 41:=by
 have hz:=rest_szC _ hD hDs hv hv0 ham ham0 h0 h1 hI;have hb:ZB*1048576*33554432^24<B32^41:=(by unfold ZB B32;decide);exact⟨Nat.lt_of_le_of_lt hz.1 hb,Nat.lt_of_le_of_lt hz.2 hb⟩
def pzI(z:(Nat×List Nat)×Rat):PthI:=⟨(z.1.1:Int),z.1.2.map fun a:Nat=>(a:Int),z.2⟩
def PzQ(w:World)(cs:List Value)(z:(Nat×List Nat)×Rat):Prop:=
 ∃(A:Option Addr) (c:Nat) (neg:Bool) (A1:Option Addr) (n1 c1:Nat) (A2:Option Addr) (n2 c2:Nat),cs=[.int .i64 (z.1.1:Int),.slice A z.1.2.length c,.bool neg,.slice A1 n1 c1,.slice A2 n2 c2]/\z.1.2.length<=c/\RdT w 3 A (ints z.1.2)/\RatR w neg A1 n1 c1 A2 n2 c2 z.2
theorem PzQ.keep{w w':World}{cs:List Value}{z:(Nat×List Nat)×Rat}(h:PzQ w cs z)(hx:Ext w w'):PzQ w' cs z:=by
 obtain⟨A,c,neg,A1,n1,c1,A2,n2,c2,h1,h2,h3,h4⟩:=h;exact⟨A,c,neg,A1,n1,c1,A2,n2,c2,h1,h2,h3.keep hx,h4.keep hx⟩
theorem PzQ.fr{X:Nat->Prop}{w w':World}{cs:List Value}{z:(Nat×List Nat)×Rat}(h:PzQ w cs z)(k:FrS X w w')(n1:NoT X w 3)(n2:NoT X w 167):PzQ w' cs z:=by
 obtain⟨A,c,neg,A1,m1,c1,A2,m2,c2,h1,h2,h3,h4⟩:=h;exact⟨A,c,neg,A1,m1,c1,A2,m2,c2,h1,h2,k.rdT n1 h3,k.ratR n2 h4⟩
theorem PzQ.pzc{w:World}{cs:List Value}{z:(Nat×List Nat)×Rat}(h:PzQ w cs z):PzC w cs (pzI z):=by
 obtain⟨A,c,neg,A1,m1,c1,A2,m2,c2,h1,h2,h3,h4⟩:=h;refine⟨A,c,neg,A1,m1,c1,A2,m2,c2,?_,?_,?_,h4⟩
 ·rw [h1]
  simp [pzI]
 ·simp [pzI];exact h2
 ·show Rd w A (iints (z.1.2.map fun a:Nat=>(a:Int)))
  rw [jzh0];exact h3.rd
theorem OwL.plr{w:World}{B c:Nat}{A:Option Addr}{Z:List ((Nat×List Nat)×Rat)}(h:OwL PzQ 70 5 w B (.slice A Z.length c) Z):PLr w A (Z.map pzI):=by
 obtain⟨css,h1,h2,h3,h4⟩:=h;refine⟨css,by rw [h1,xV],h2,(jzbb h3).rd,fun i p hp=>?_⟩;rw [yW]at hp;cases hz:Z[i]? with
 |none=>rw [hz]at hp;cases hp
 |some z=>
  rw [hz]at hp;injection hp with hp
  subst hp;obtain⟨cs,k1,k2⟩:=h4 i z hz;exact⟨cs,k1,k2.pzc⟩
theorem grown5(w:World)(g:Nat)(v0 v1 v2 v3 v4:Value):w.grownBy (((((w.setCell ⟨g,0,none⟩ v0).setCell ⟨g,1,none⟩ v1).setCell ⟨g,2,none⟩ v2).setCell ⟨g,3,none⟩ v3).setCell ⟨g,4,none⟩ v4) (some g):=
 ((((jze w g 0 v0).trans (jze _ g 1 v1)).trans (jze _ g 2 v2)).trans (jze _ g 3 v3)).trans (jze _ g 4 v4)
theorem jzh1{w1 w6:World}{b gl m:Nat}{neg:Bool}{A1:Option Addr}{n1 d1:Nat}{A2:Option Addr}{n2 d2:Nat}{v:Rat}{qs:List Rat}(hb:w1.heap.size<=b)(hB:Blk w6 b 39 #[.bool false,.slice none 0 0,.slice none 0 0,.slice none 0 0,.slice none 0 0])(hR:RatR w6 neg A1 n1 d1 A2 n2 d2 v)(hQ:QB w6 gl qs)(hE:Ext w1 w6):
  Blk (((((w6.setCell ⟨b,0,none⟩ (.bool neg)).setCell ⟨b,1,none⟩ (.slice A1 n1 d1)).setCell ⟨b,2,none⟩ (.slice A2 n2 d2)).setCell ⟨b,3,none⟩ (.slice none 0 0)).setCell ⟨b,4,none⟩ (.slice (some ⟨gl,0,none⟩) m m)) b 39 #[.bool neg,.slice A1 n1 d1,.slice A2 n2 d2,.slice none 0 0,.slice (some ⟨gl,0,none⟩) m m]/\RatR (((((w6.setCell ⟨b,0,none⟩ (.bool neg)).setCell ⟨b,1,none⟩ (.slice A1 n1 d1)).setCell ⟨b,2,none⟩ (.slice A2 n2 d2)).setCell ⟨b,3,none⟩ (.slice none 0 0)).setCell ⟨b,4,none⟩ (.slice (some ⟨gl,0,none⟩) m m)) neg A1 n1 d1 A2 n2 d2 v/\QB (((((w6.setCell ⟨b,0,none⟩ (.bool neg)).setCell ⟨b,1,none⟩ (.slice A1 n1 d1)).setCell ⟨b,2,none⟩ (.slice A2 n2 d2)).setCell ⟨b,3,none⟩ (.slice none 0 0)).setCell ⟨b,4,none⟩ (.slice (some ⟨gl,0,none⟩) m m)) gl qs/\w1.heap.size<=b/\Ext w1 (((((w6.setCell ⟨b,0,none⟩ (.bool neg)).setCell ⟨b,1,none⟩ (.slice A1 n1 d1)).setCell ⟨b,2,none⟩ (.slice A2 n2 d2)).setCell ⟨b,3,none⟩ (.slice none 0 0)).setCell ⟨b,4,none⟩ (.slice (some ⟨gl,0,none⟩) m m)):=by
 have k5:FrS (fun b'=>b'=b) w6 (((((w6.setCell ⟨b,0,none⟩ (.bool neg)).setCell ⟨b,1,none⟩ (.slice A1 n1 d1)).setCell ⟨b,2,none⟩ (.slice A2 n2 d2)).setCell ⟨b,3,none⟩ (.slice none 0 0)).setCell ⟨b,4,none⟩ (.slice (some ⟨gl,0,none⟩) m m)):=FrS.of_grown (grown5 w6 b _ _ _ _ _) fun g e=>(by injection e with e;exact e.symm);have hn:NoT (fun b'=>b'=b) w6 167:=NoT.one hB (by decide);have s0:=hB.set_ 0 (.bool neg);have s1:=s0.set_ 1 (.slice A1 n1 d1);have s2:=s1.set_ 2 (.slice A2 n2 d2);have s3:=s2.set_ 3 (.slice none 0 0);have s4:=s3.set_ 4 (.slice (some ⟨gl,0,none⟩) m m);refine⟨s4,k5.ratR hn hR,hQ.fr k5 hn fun e=>?_,hb,k5.ext hE fun b' e=>by rw [e];exact hb⟩;obtain⟨cs,hq⟩:=hQ.blk;rw [e]at hq;exact absurd (jzq hq hB).2 (by decide)
def PlanPost(w:World)(L2:Nat)(v:Rat)(Z:List ((Nat×List Nat)×Rat))(pr:List Rat)(e:Ending)(w':World):Prop:=
 ∃(neg:Bool) (A1:Option Addr) (n1 c1:Nat) (A2:Option Addr) (n2 c2:Nat) (AP:Option Addr) (cp gp:Nat),e=.returned (.agg #[.bool neg,.slice A1 n1 c1,.slice A2 n2 c2,.slice AP Z.length cp,.slice (some ⟨gp,0,none⟩) L2 L2])/\
  RatR w' neg A1 n1 c1 A2 n2 c2 v/\Z.length<=cp/\(∃B,OwL PzQ 70 5 w' B (.slice AP Z.length cp) Z)/\(∃qs,QB w' gp qs/\qs.take L2=pr)/\Ext w w'
structure PlI(W4 wx:World)(bp gl m:Nat)(neg:Bool)(A1:Option Addr)(n1 c1:Nat)(A2:Option Addr)(n2 c2:Nat)(vQ:Value)(out:List ((Nat×List Nat)×Rat)):Prop where
 box:Blk wx bp 39 #[.bool neg,.slice A1 n1 c1,.slice A2 n2 c2,vQ,.slice (some ⟨gl,0,none⟩) m m]
 own:OwL PzQ 70 5 wx W4.heap.size vQ out
 fr:FrS (fun b=>b=bp) W4 wx
theorem PlI.keep{W4 wx wy:World}{bp gl m:Nat}{neg:Bool}{A1:Option Addr}{n1 c1:Nat}{A2:Option Addr}{n2 c2:Nat}{vQ:Value}{out:List ((Nat×List Nat)×Rat)}(h:PlI W4 wx bp gl m neg A1 n1 c1 A2 n2 c2 vQ out)(hx:Ext wx wy):PlI W4 wy bp gl m neg A1 n1 c1 A2 n2 c2 vQ out:=
 ⟨h.box.keep hx,h.own.keep hx fun cs y hy=>hy.keep hx,h.fr.tr (FrS.of_ext (S:=fun b=>b=bp) hx) fun b hb=>.inl hb⟩
def outN(am:Nat->Rat)(v:Rat)(Zs:List ((Nat×List Nat)×Rat))(n:Nat):List ((Nat×List Nat)×Rat):=(List.range n).flatMap fun d=>Sx.cut d (v*am d) Zs
theorem jzh2(am:Nat->Rat)(v:Rat)(Zs:List ((Nat×List Nat)×Rat))(n:Nat):outN am v Zs (n+1)=outN am v Zs n++Sx.cut n (v*am n) Zs:=by unfold outN;rw [List.range_succ,List.flatMap_append];simp
theorem ptZ_get{T:Sx.Tb}{P:List (Nat×List Nat)}{L2 D:Nat}{am cap:Nat->Rat}(h:Sx.FLP L2 D am cap T P){k:Nat}{p:Nat×List Nat}(hp:P[k]?=some p):(Sx.ptZ T P)[k]?=some (p,Sx.at_ (Sx.ptT T) (k+1)):=by
 have hl:=h.drop_len;have hk:=(yH.1 hp).1;have qa:=Sx.zipF_keys P ((Sx.ptT T).drop 1) hl;have qe:(Sx.ptZ T P).length=P.length:=by
  have:=congrArg List.length qa;rw [xV]at this;exact this
 obtain⟨z,hz⟩:∃z,(Sx.ptZ T P)[k]?=some z:=⟨_,yG (by omega)⟩;obtain⟨zp,zf⟩:=z;have h1:=Sx.zipF_flow P ((Sx.ptT T).drop 1) hl k hz;rw [Sx.at_drop,Nat.add_comm]at h1;have h2:(Sx.ptZ T P)[k]?.map (·.1)=some p:=by
  rw [<-yW];show(List.map (·.1) (Sx.zipF P ((Sx.ptT T).drop 1)))[k]?=some p;rw [qa];exact hp
 rw [hz]at h2;injection h2 with h2
 have h2:zp=p:=h2;rw [hz,h1,h2]
theorem jzh3(q:Rat):0<sgnI q↔0<q:=by
 constructor
 ·intro h
  have h1:¬q=0:=fun e=>(by have:=(sgn0 q).2 e;omega);have h2:¬q<0:=fun e=>(by have:=(jzdr q).2 e;omega);grind
 ·intro h
  have h1:¬sgnI q=0:=fun e=>(by have:=(sgn0 q).1 e;grind);have h2:¬sgnI q<0:=fun e=>(by have:=(jzdr q).1 e;grind);omega
theorem ptZ_len{T:Sx.Tb}{P:List (Nat×List Nat)}{L2 D:Nat}{am cap:Nat->Rat}(h:Sx.FLP L2 D am cap T P):(Sx.ptZ T P).length=P.length:=by
 have qa:=Sx.zipF_keys P ((Sx.ptT T).drop 1) h.drop_len;have:=congrArg List.length qa;rw [xV]at this;exact this
theorem jzlr(am:Nat->Rat)(v:Rat)(Zs:List ((Nat×List Nat)×Rat)):∀n,(outN am v Zs n).length<=n*Zs.length
 |0=>yZ _
 |n+1=>by
  rw [jzh2,yQ,xP,xQ];have h1:=jzlr am v Zs n;have h2:=(Sx.cut_keys n (v*am n) Zs).length_le;rw [xV,xV]at h2;omega
theorem fold_len(n:Nat)(r:Rat)(o Zs:List ((Nat×List Nat)×Rat)):(Zs.foldl (Sx.cutSt n) (r,o)).2.length<=o.length+Zs.length:=by
 rw [Sx.cutSt_all,yQ];have h2:=(Sx.cut_keys n r Zs).length_le;rw [xV,xV]at h2;omega
theorem jzf7{n:Nat}{s0:Rat×List ((Nat×List Nat)×Rat)}{Zs:List ((Nat×List Nat)×Rat)}{k:Nat}{z:(Nat×List Nat)×Rat}(hz:Zs[k]?=some z):(Zs.take (k+1)).foldl (Sx.cutSt n) s0=Sx.cutSt n ((Zs.take k).foldl (Sx.cutSt n) s0) z:=by
 rw [List.take_add_one,hz,List.foldl_append];rfl
theorem plan_ok{w0 w:World}{x mb:Nat}{t:Tp}{AO:Option Addr}{co:Nat}{AL:Option Addr}{cl:Nat}{l:List Dm}{AD:Option Addr}{cd:Nat}{L:TLoc}{T:Sx.Tb}{vP:Value}{P:List (Nat×List Nat)}(F:FlR w0 w x mb t AO co AL cl l AD cd L T vP P P)
  (hf:Fit t l) (hl:t.links.length<=10) (hD:l.length<=4) (qm:Sx.FLP (2*t.links.length) l.length (amQ l) (capQ t) T P) (q9:0<=T.goal.re) (q7:∀z∈Sx.ptZ T P,0<=z.2) (hPl:P.length+4<=10000000000) (ve:∀p∈P,p.1<l.length) (hP0:P≠ []):
  Calls Tryz.prog 45 #[.pointer (some ⟨x,0,none⟩)] w (PlanPost w (2*t.links.length) T.goal.re (Sx.planZ l.length (amQ l) T.goal.re (Sx.ptZ T P)) ((Sx.prT T).take (2*t.links.length))):=by
 have HF:=Hx (And.intro F (And.intro hf qm));have HN:=Hx (And.intro q9 (And.intro q7 ve));have v7:=F.dem.len;have za:=F.top.ll;have SZ:=Hx (jzld hf hl hD qm);have SH:=Hx qm.shape;have CO:=Hx qm.cols;obtain⟨b0,e0⟩:=boxes1 w #[.bool false,.slice none 0 0,.slice none 0 0,.slice none 0 0,.slice none 0 0] 39;have RB:=Hx (And.intro b0 e0);have q0:w.cell? ⟨x,0,none⟩=some (.int .i64 t.nodes):=F.box.cell 0;have q1:w.cell? ⟨x,1,none⟩=some (.slice AO t.over.length co):=F.box.cell 1;have q2:w.cell? ⟨x,2,none⟩=some (.slice AL t.links.length cl):=F.box.cell 2;have q0:=cellK e0 q0;have q1:=cellK e0 q1;have q2:=cellK e0 q2;clear F hf qm q9 q7 ve b0 e0
 go_enter Tryz.func45,Tryz.ntmps45
 go_wp2_with fail
 refine(jzac t AO co AL cl _ (HF.out.1.top.keep (HF.out.1.ext.tr RB.out.2))).mono ?_;rintro e w1 ⟨rfl,x1⟩;have E1:=Hx (And.intro (RB.out.1.keep x1) (RB.out.2.tr x1));clear x1 q0 q1 q2 RB;have F1:=Hx (HF.out.1.keep E1.out.2);have XD:=Hx (show Ext w1 w1.drew from(Ext.refl w1).drewN 1);have XA:=Hx (show Ext w1 (w1.alloc (.cells #[.bool false,.slice none 0 0,.slice none 0 0,.slice none 0 0,.slice none 0 0] 39)).drew from((Ext.refl w1).alloc _).drewN 1);have BA:=Hx (show Blk (w1.alloc (.cells #[.bool false,.slice none 0 0,.slice none 0 0,.slice none 0 0,.slice none 0 0] 39)).drew w1.heap.size 39 #[.bool false,.slice none 0 0,.slice none 0 0,.slice none 0 0,.slice none 0 0]from Blk.new w1 _ _);have qe:=Hx (show∀wx,Ext w1 wx->wx.cell? ⟨x,4,none⟩=some (.pointer (some ⟨L.p,0,none⟩))from fun wx hx=>(F1.out.box.keep hx).cell 4);have vG:L.m=2*t.links.length+l.length:=F1.out.m;have qO:=Hx (show∀wx,Ext w1 wx->Calls Tryz.prog 92 #[.pointer (some ⟨L.p,0,none⟩)] wx (RatPost wx T.goal.re)from fun wx hx=>value_ok w0.heap.size L T wx (F1.out.tab.keep hx));have qR:=Hx (show∀wx,Ext w1 wx->Calls Tryz.prog 44 #[.pointer (some ⟨L.p,0,none⟩)] wx (fun e w'=>∃gl,e=.returned (.slice (some ⟨gl,0,none⟩) (2*t.links.length+l.length) (2*t.links.length+l.length))/\QB w' gl (Sx.prT T)/\wx.heap.size<=gl/\Ext wx w')from fun wx hx=>by
  obtain⟨y1,y2,y3,y4,y5,y6,y7,y8⟩:=SH.out;have h1:=jzf0 w0.heap.size L T wx (F1.out.tab.keep hx) y2 (by have:=HF.out.2.1.n;omega) (by omega) (by omega) (by omega) y5 (fun j hj=>by have:=y6 j hj;omega);rw [vG]at h1;exact h1)
 go_upto_region 2 with fail
 go_cut [4] (fun s wx=>∃(bp gl:Nat) (neg:Bool) (A1:Option Addr) (n1 c1:Nat) (A2:Option Addr) (n2 c2:Nat),s=.pointer (some ⟨bp,0,none⟩)/\Hid (Blk wx bp 39 #[.bool neg,.slice A1 n1 c1,.slice A2 n2 c2,.slice none 0 0,.slice (some ⟨gl,0,none⟩) (2*t.links.length) (2*t.links.length)]/\RatR wx neg A1 n1 c1 A2 n2 c2 T.goal.re/\QB wx gl (Sx.prT T)/\w1.heap.size<=bp/\Ext w1 wx))
 case first=>
  have zb:(0:Int)<=2*(t.links.length:Int):=(by omega);have zm:2*(t.links.length:Int)<=2*(t.links.length:Int)+(l.length:Int):=(by omega);have zh:2*(t.links.length:Int)<=2*(t.links.length:Int):=Int.le_refl _;have zj:(2*(t.links.length:Int)).toNat=2*t.links.length:=(by omega);have xN:x≠w1.heap.size:=(by have:=F1.out.box.lt;omega);have c0:=qe.out _ XD.out;have y0:=qe.out _ XA.out
  go_region_held3 (fun w'=>w'.cell? ⟨x,4,none⟩=some (.pointer (some ⟨L.p,0,none⟩)))
   (first|with_reducible exact c0|with_reducible exact y0|with_reducible exact jzc c0 _|exact jzb (jzb (jzb (jzb (jzb c0 xN) xN) xN) xN) xN|fail)
   (first
    |(go_at_call 92
      first
      |(with_reducible refine(qO.out _ (by with_reducible exact XD.out)).mono ?_
        rintro e w5 ⟨neg,A1,n1,d1,A2,n2,d2,rfl,hR,qk⟩;have E5:=Hx (XD.out.tr qk))
      |(with_reducible refine(qO.out _ (by with_reducible exact XA.out)).mono ?_
        rintro e w5 ⟨neg,A1,n1,d1,A2,n2,d2,rfl,hR,qk⟩;have E5:=Hx (XA.out.tr qk);have B5:=Hx (BA.out.keep qk))
      have R5:=Hx hR;have c0:=qe.out _ E5.out;clear hR qk)
    |(go_at_call 44
      first
      |(with_reducible refine(qR.out _ (by with_reducible exact E5.out)).mono ?_
        rintro e w6 ⟨gl,rfl,hQ,hg,qj⟩;have E6:=Hx (E5.out.tr qj);have R6:=Hx (R5.out.keep qj)
        first
        |(have B6:=Hx (B5.out.keep qj)
          have m0:=B6.out.cell 0;have m1:=B6.out.cell 1;have m2:=B6.out.cell 2;have m3:=B6.out.cell 3;have m4:=B6.out.cell 4;have r0:=B6.out.frozen 0;have r1:=B6.out.frozen 1;have r2:=B6.out.frozen 2;have r3:=B6.out.frozen 3;have r4:=B6.out.frozen 4)
        |skip)
      |(with_reducible refine(qR.out _ (by with_reducible exact(E5.out.alloc _))).mono ?_
        rintro e w6 ⟨gl,rfl,hQ,hg,qj⟩;have E6:=Hx (((E5.out.alloc (.cells #[.bool false,.slice none 0 0,.slice none 0 0,.slice none 0 0,.slice none 0 0] 39))).tr qj);have R6:=Hx ((R5.out.keep ((Ext.refl w5).alloc (.cells #[.bool false,.slice none 0 0,.slice none 0 0,.slice none 0 0,.slice none 0 0] 39))).keep qj);have B6:=Hx (Blk.keep (show Blk (w5.alloc (.cells #[.bool false,.slice none 0 0,.slice none 0 0,.slice none 0 0,.slice none 0 0] 39)) w5.heap.size 39 #[.bool false,.slice none 0 0,.slice none 0 0,.slice none 0 0,.slice none 0 0]from Blk.new w5 _ _) qj);have xN:x≠w5.heap.size:=(by have h1:=F1.out.box.lt;have h2:=E5.out.size;omega);have m0:=B6.out.cell 0;have m1:=B6.out.cell 1;have m2:=B6.out.cell 2;have m3:=B6.out.cell 3;have m4:=B6.out.cell 4;have r0:=B6.out.frozen 0;have r1:=B6.out.frozen 1;have r2:=B6.out.frozen 2;have r3:=B6.out.frozen 3;have r4:=B6.out.frozen 4)
      have Q6:=Hx hQ;have c0:=qe.out _ E6.out;clear hQ hg qj)
    |fail)
  all_goals
   go_wp2;go_meet
   first
   |(have h5:=B5.out
     have h6:=jzh1 (gl:=gl) (m:=2*t.links.length) (yX _) B6.out R6.out Q6.out E6.out;exact⟨w1.heap.size,gl,neg,A1,n1,d1,A2,n2,d2,rfl,Hx h6⟩)
   |(have h6:=jzh1 (gl:=gl) (m:=2*t.links.length) E5.out.size B6.out R6.out Q6.out E6.out
     exact⟨w5.heap.size,gl,neg,A1,n1,d1,A2,n2,d2,rfl,Hx h6⟩)
   |exact⟨w6.heap.size,gl,neg,A1,n1,d1,A2,n2,d2,rfl,Hx ⟨Blk.new w6 _ _,R6.out.keep ((Ext.refl w6).alloc _),Q6.out.keep ((Ext.refl w6).alloc _),E6.out.size,E6.out.alloc _⟩⟩
 case rest=>
  obtain⟨bp,gl,neg,A1,n1,c1,A2,n2,c2,rfl,I4⟩:=hcut;clear XD XA BA qe qO qR;have q4:wc.cell? ⟨x,4,none⟩=some (.pointer (some ⟨L.p,0,none⟩)):=(F1.out.box.keep I4.out.2.2.2.2).cell 4
  go_wp2_with fail
  refine(point_ok w0.heap.size L T wc (F1.out.tab.keep I4.out.2.2.2.2) (by have:=HF.out.2.1.n;omega) (by omega) (by have:=CO.out.1;omega) (fun j k hj hk e=>SH.out.2.2.2.2.2.2.1 j k (by have:=SH.out.2.2.2.1;omega) (by have:=SH.out.2.2.2.1;omega) e) (fun j hj=>by have h1:=SH.out.2.2.2.2.2.2.2 j (by have:=SH.out.2.2.2.1;omega);have h2:=CO.out.1;omega) (fun i hi=>by rw [SH.out.1 i (by have:=CO.out.2;omega)];have:=SH.out.2.2.1;omega)).mono ?_;rintro e w5 ⟨gq,rfl,hQ,hg,qk⟩;have qH:T.cols=P.length+1:=CO.out.1;rw [qH];have I5:=Hx (show Blk w5 bp 39 #[.bool neg,.slice A1 n1 c1,.slice A2 n2 c2,.slice none 0 0,.slice (some ⟨gl,0,none⟩) (2*t.links.length) (2*t.links.length)]/\RatR w5 neg A1 n1 c1 A2 n2 c2 T.goal.re/\QB w5 gl (Sx.prT T)/\QB w5 gq (Sx.ptT T)/\Ext w1 w5 from⟨I4.out.1.keep qk,I4.out.2.1.keep qk,I4.out.2.2.1.keep qk,hQ,I4.out.2.2.2.2.tr qk⟩);have vW:w1.heap.size<=bp:=I4.out.2.2.2.1;have q3:w5.cell? ⟨x,3,none⟩=some (.slice AD l.length cd):=(F1.out.box.keep I5.out.2.2.2.2).cell 3;clear hQ hg qk q4 I4 qH
  go_upto_region 4 with fail
  have J0:=Hx (show PlI w5 w5 bp gl (2*t.links.length) neg A1 n1 c1 A2 n2 c2 (.slice none 0 0) (outN (amQ l) T.goal.re (Sx.ptZ T P) 0)from⟨I5.out.1,OwL.nil _ _ _ _ _,FrS.refl _ _⟩);have v9:w.heap.size<=bp:=yY E1.out.2.size vW;have E5:=Hx (show Ext w w5 from E1.out.2.tr I5.out.2.2.2.2);have vz:bp<w5.heap.size:=I5.out.1.lt;go_wp2;clear q3
  go_loopg [6,7,8,41] l.length (fun q _ _ _ it wx=>∃(n:Nat) (vQ:Value),l.length-n=q/\n<=l.length/\it=.int .i64 (n:Int)/\Hid (PlI w5 wx bp gl (2*t.links.length) neg A1 n1 c1 A2 n2 c2 vQ (outN (amQ l) T.goal.re (Sx.ptZ T P) n)))
  case atStart=>exact⟨0,_,rfl,yZ _,rfl,J0⟩
  case round=>
   obtain⟨n,vQ,rfl,hn,rfl,J⟩:=hrel;clear J0;have EW:=Hx (show Ext w wr from J.out.fr.ext E5.out fun b hb=>by omega);by_cases qQ:n<l.length
   ·obtain⟨d,hd⟩:∃d,l[n]?=some d:=⟨_,yG qQ⟩
    have vp:=Hx (show((d.amount:Int):Rat)=amQ l n by unfold amQ;rw [hd]);have vt:i64 d.amount:=(HF.out.1.dem.wf d (yJ hd)).2.2.1;obtain⟨b,o,rfl,hb,a0,a1,a2,a3⟩:=HF.out.1.dem.at_ hd;have X0:=Hx (show Ext w0 wr from HF.out.1.ext.tr EW.out);have a0:=cellK X0.out a0;have a1:=cellK X0.out a1;have a2:=cellK X0.out a2;have a3:=cellK X0.out a3;have hb:b<wr.heap.size:=yL hb X0.out.size;have nN:(n:Int)<(l.length:Int):=(by omega);have n0:(0:Int)<=(n:Int):=(by omega);have X8:=Hx (show Ext wr (wr.alloc (.cells #[.int .i64 d.src,.int .i64 d.dst,.int .i64 d.amount,.int .i64 d.prio] 27))from(Ext.refl wr).alloc _);have B8:=Hx (Blk.new wr 27 #[.int .i64 d.src,.int .i64 d.dst,.int .i64 d.amount,.int .i64 d.prio]);clear hd
    go_upto_region 7 with fail
    clear a0 a1 a2 a3;generalize wr.alloc (.cells #[.int .i64 d.src,.int .i64 d.dst,.int .i64 d.amount,.int .i64 d.prio] 27)=W8 at*;generalize hbd:wr.heap.size=bd at*;have J8:=Hx (J.out.keep X8.out);have RV:=Hx (show∀wx,Ext W8 wx->RatR wx neg A1 n1 c1 A2 n2 c2 T.goal.re from fun wx hx=>(J8.out.fr.ratR (NoT.one I5.out.1 (by decide)) I5.out.2.1).keep hx);have XD:=Hx (show Ext W8 W8.drew from(Ext.refl W8).drewN 1);have XA:=Hx (show Ext W8 (W8.alloc (.cells #[.bool false,.slice none 0 0,.slice none 0 0] 35)).drew from((Ext.refl W8).alloc _).drewN 1);have BA:=Hx (show Blk (W8.alloc (.cells #[.bool false,.slice none 0 0,.slice none 0 0] 35)).drew W8.heap.size 35 #[.bool false,.slice none 0 0,.slice none 0 0]from Blk.new W8 _ _);have qe:=Hx (show∀wx,Ext W8 wx->(wx.cell? ⟨bp,0,none⟩=some (.bool neg)/\wx.cell? ⟨bp,1,none⟩=some (.slice A1 n1 c1)/\wx.cell? ⟨bp,2,none⟩=some (.slice A2 n2 c2)/\wx.cell? ⟨bd,2,none⟩=some (.int .i64 d.amount))from fun wx hx=>
     ⟨(J8.out.box.keep hx).cell 0,(J8.out.box.keep hx).cell 1,(J8.out.box.keep hx).cell 2,(B8.out.keep hx).cell 2⟩)
    obtain⟨zd,zg⟩:=(RV.out _ XD.out).lens SZ.out.2.1.gr;have vw:=Hx (show SzQ (amQ l n) 20 from by
     obtain⟨_,_,_,h4,h5,h6⟩:=HF.out.2.1.am qQ;rw [h4];exact(SzQ.int (by unfold B32;omega)).mono (by decide))
    go_cut [8] (fun s wx=>∃(br:Nat) (ng:Bool) (R1:Option Addr) (m1 d1:Nat) (R2:Option Addr) (m2 d2:Nat),s=.pointer (some ⟨br,0,none⟩)/\Hid (Blk wx br 35 #[.bool ng,.slice R1 m1 d1,.slice R2 m2 d2]/\RatR wx ng R1 m1 d1 R2 m2 d2 (T.goal.re*amQ l n)/\W8.heap.size<=br/\Ext W8 wx))
    case first=>
     have bN:bd≠W8.heap.size:=(by have:=B8.out.lt;omega);have xN:bp≠W8.heap.size:=(by have:=J8.out.box.lt;omega);obtain⟨c0,qG,qI,c3⟩:=qe.out _ XD.out;obtain⟨y0,y1,y2,y3⟩:=qe.out _ XA.out
     go_region_held3 (fun w'=>w'.cell? ⟨bp,0,none⟩=some (.bool neg)/\w'.cell? ⟨bp,1,none⟩=some (.slice A1 n1 c1)/\w'.cell? ⟨bp,2,none⟩=some (.slice A2 n2 c2)/\w'.cell? ⟨bd,2,none⟩=some (.int .i64 d.amount))
      (first|with_reducible exact⟨c0,qG,qI,c3⟩|with_reducible exact⟨y0,y1,y2,y3⟩|with_reducible exact⟨jzc c0 _,jzc qG _,jzc qI _,jzc c3 _⟩|exact⟨jzb (jzb (jzb c0 xN) xN) xN,jzb (jzb (jzb qG xN) xN) xN,jzb (jzb (jzb qI xN) xN) xN,jzb (jzb (jzb c3 bN) bN) bN⟩|fail)
      (first
       |(go_at_call 22
         first
         |(with_reducible refine(jzar d.amount _ vt).mono ?_
           rintro e w6 ⟨ng,R1,m1,d1,R2,m2,d2,rfl,hR,qj⟩
           first
           |(have E6:=Hx (show Ext W8 w6 by with_reducible exact XD.out.tr qj))
           |(have E6:=Hx (show Ext W8 w6 by with_reducible exact XA.out.tr qj)
             have B6:=Hx (BA.out.keep qj)))
         have R6:=Hx (show RatR w6 ng R1 m1 d1 R2 m2 d2 (amQ l n)from vp.out▸hR);obtain⟨zc,v5⟩:=R6.out.lens vw.out;obtain⟨c0,qG,qI,c3⟩:=qe.out _ E6.out;clear hR qj)
       |(go_at_call 21
         first
         |(with_reducible refine(jz1 neg ng A1 n1 c1 A2 n2 c2 R1 m1 d1 R2 m2 d2 T.goal.re (amQ l n) _ (RV.out _ (by with_reducible exact E6.out)) (by with_reducible exact R6.out) (by omega) (by omega) (by omega) (by omega)).mono ?_
           rintro e w7 ⟨nh,S1,k1,e1,S2,k2,e2,rfl,hR,qA⟩;have E7:=Hx (E6.out.tr qA)
           first
           |(have B7:=Hx (B6.out.keep qA)
             obtain⟨⟨u0,u1,u2⟩,r0,r1,r2⟩:=B7.out.three)
           |skip)
         |(with_reducible refine(jz1 neg ng A1 n1 c1 A2 n2 c2 R1 m1 d1 R2 m2 d2 T.goal.re (amQ l n) _ (RV.out _ (by with_reducible exact(E6.out.alloc _))) (R6.out.keep ((Ext.refl w6).alloc _)) (by omega) (by omega) (by omega) (by omega)).mono ?_
           rintro e w7 ⟨nh,S1,k1,e1,S2,k2,e2,rfl,hR,qA⟩;have E7:=Hx ((E6.out.alloc (.cells #[.bool false,.slice none 0 0,.slice none 0 0] 35)).tr qA);have B7:=Hx (Blk.keep (show Blk (w6.alloc (.cells #[.bool false,.slice none 0 0,.slice none 0 0] 35)) w6.heap.size 35 #[.bool false,.slice none 0 0,.slice none 0 0]from Blk.new w6 _ _) qA);have bN:bd≠w6.heap.size:=(by have:=B8.out.lt;have:=E6.out.size;omega);have xN:bp≠w6.heap.size:=(by have:=J8.out.box.lt;have:=E6.out.size;omega);obtain⟨⟨u0,u1,u2⟩,r0,r1,r2⟩:=B7.out.three)
         have R7:=Hx hR;obtain⟨c0,qG,qI,c3⟩:=qe.out _ E7.out;clear hR qA)
       |fail)
     all_goals
      go_wp2;go_meet
      first
      |(have h5:=B6.out
        have h6:=jzae (w:=W8) R7.out B7.out (yX _) E7.out;have b0:=B7.out.set_ 0 (.bool nh);have b1:=b0.set_ 1 (.slice S1 k1 e1);exact⟨W8.heap.size,nh,S1,k1,e1,S2,k2,e2,rfl,Hx ⟨b1.set_ 2 (.slice S2 k2 e2),h6.1,yX _,h6.2⟩⟩)
      |(have h6:=jzae (w:=W8) R7.out B7.out E6.out.size E7.out
        have b0:=B7.out.set_ 0 (.bool nh);have b1:=b0.set_ 1 (.slice S1 k1 e1);exact⟨w6.heap.size,nh,S1,k1,e1,S2,k2,e2,rfl,Hx ⟨b1.set_ 2 (.slice S2 k2 e2),h6.1,E6.out.size,h6.2⟩⟩)
      |exact⟨w7.heap.size,nh,S1,k1,e1,S2,k2,e2,rfl,Hx ⟨Blk.new w7 _ _,R7.out.keep ((Ext.refl w7).alloc _),E7.out.size,E7.out.alloc _⟩⟩
    case rest=>
     obtain⟨br,ng,R1,m1,d1,R2,m2,d2,rfl,C⟩:=hcut;clear XD XA BA qe RV B8;have J9:=Hx (J8.out.keep C.out.2.2.2);have F5:=Hx (HF.out.1.keep E5.out);obtain⟨vc,cP,vk,zi⟩:=HF.out.1.pat.form;have qZ:=Hx vk;clear vk;have vx:x≠bp:=fun e=>by
      have h1:=F5.out.box;rw [e]at h1;exact absurd (jzq h1 I5.out.1).2 (by decide)
     have vF:=Hx (show∀wx,FrS (fun b=>b=bp) w5 wx->OwL (PaC L.S) 70 5 wx w0.heap.size (.slice vc P.length cP) P from fun wx k=>by
      rw [<-qZ.out];refine F5.out.pat.fr k (fun g hg e=>?_) fun cs y _ hy=>hy.fr k (NoT.one I5.out.1 (by decide));obtain⟨xs,ho⟩:=F5.out.pat.own;obtain⟨cs,qa⟩:=jzl ho hg;rw [e]at qa;exact absurd (jzq qa I5.out.1).2 (by decide))
     have q5:wc.cell? ⟨x,5,none⟩=some (.slice vc P.length cP):=by
      have h1:=(J9.out.fr.blk F5.out.box vx).cell 5;rw [qZ.out]at h1;exact h1
     have GQ:=Hx (show∀wx,FrS (fun b=>b=bp) w5 wx->QB wx gq (Sx.ptT T)from fun wx k=>I5.out.2.2.2.1.fr k (NoT.one I5.out.1 (by decide)) fun e=>by
      obtain⟨cs,qa⟩:=I5.out.2.2.2.1.blk;rw [e]at qa;exact absurd (jzq qa I5.out.1).2 (by decide))
     have vH:=Hx (show(Sx.ptT T).length=P.length+1 from by
      have h1:=HF.out.2.2.drop_len;rw [List.length_drop]at h1;have h2:(Sx.ptT T).length=T.cols:=Sx.ptTo_len _ _;rw [h2];exact CO.out.1)
     have vh:=Hx (HF.out.2.1.am qQ);have RS:=Hx (show∀k,SzQ (((Sx.ptZ T P).take k).foldl (Sx.cutSt n) (T.goal.re*amQ l n,outN (amQ l) T.goal.re (Sx.ptZ T P) n)).1 41 from fun k=>by
      obtain⟨_,_,_,_,Dn,d1,d2,d3,d4⟩:=SZ.out;obtain⟨h1,h2,_,_,_,_⟩:=vh.out;have h3:((amQ l n:Rat))<=((1048576:Int):Rat):=vh.out.2.2.1;have h0:0<=T.goal.re*amQ l n:=vA HN.out.1 (by grind);have hI:Sx.isI (T.goal.re*amQ l n*(Dn:Rat)):=by
       obtain⟨a,ha⟩:=d3.1;obtain⟨b9,qa⟩:=h2;exact⟨a*b9,by rw [Rat.intCast_mul, <-ha, <-qa];grind⟩
      obtain⟨g1,g2,g3⟩:=Sx.cutSt_rest n Dn (T.goal.re*amQ l n) ((Sx.ptZ T P).take k) (T.goal.re*amQ l n) (outN (amQ l) T.goal.re (Sx.ptZ T P) n) (fun z hz=>⟨HN.out.2.1 z (xM hz),(d4 z.2 (by
       have h9:=(Sx.zipF_mem P ((Sx.ptT T).drop 1) (xM hz)).2;exact List.mem_of_mem_drop h9)).1⟩) h0 vC hI
      exact rest_sz d1 d2 d3.2 HN.out.1 h3 (by grind) g1 g2 g3)
     have vV:w5.heap.size<=br:=(by have:=C.out.2.2.1;have:=J8.out.fr.size;omega);have K0:=Hx (show(T.goal.re*amQ l n,outN (amQ l) T.goal.re (Sx.ptZ T P) n)=((Sx.ptZ T P).take 0).foldl (Sx.cutSt n) (T.goal.re*amQ l n,outN (amQ l) T.goal.re (Sx.ptZ T P) n)/\Blk wc br 35 #[.bool ng,.slice R1 m1 d1,.slice R2 m2 d2]/\RatR wc ng R1 m1 d1 R2 m2 d2 (T.goal.re*amQ l n)/\PlI w5 wc bp gl (2*t.links.length) neg A1 n1 c1 A2 n2 c2 vQ (outN (amQ l) T.goal.re (Sx.ptZ T P) n)from⟨rfl,C.out.1,C.out.2.1,J9.out⟩);go_wp2;clear q5
     go_loopg [9,10,57] P.length (fun q _ _ it wx=>∃(k:Nat) (vQ:Value) (r:Rat) (out:List ((Nat×List Nat)×Rat)) (ng:Bool) (R1:Option Addr) (m1 d1:Nat) (R2:Option Addr) (m2 d2:Nat),P.length-k=q/\k<=P.length/\it=.int .i64 (k:Int)/\
      Hid ((r,out)=((Sx.ptZ T P).take k).foldl (Sx.cutSt n) (T.goal.re*amQ l n,outN (amQ l) T.goal.re (Sx.ptZ T P) n)/\Blk wx br 35 #[.bool ng,.slice R1 m1 d1,.slice R2 m2 d2]/\RatR wx ng R1 m1 d1 R2 m2 d2 r/\PlI w5 wx bp gl (2*t.links.length) neg A1 n1 c1 A2 n2 c2 vQ out))
     case atStart=>exact⟨0,vQ,_,_,ng,R1,m1,d1,R2,m2,d2,rfl,yZ _,rfl,K0⟩
     case round=>
      obtain⟨k,vK,r,out,nr,S1,e1,f1,S2,e2,f2,rfl,hk,rfl,K⟩:=hrel;clear K0 J9 C;by_cases vo:k<P.length
      ·obtain⟨p,hp⟩:∃p,P[k]?=some p:=⟨_,yG vo⟩
       have ZK:=Hx (ptZ_get HF.out.2.2 hp);obtain⟨gP,cap,cs,vm,v8,_,qE,A,c,rfl,vj,q8,vq⟩:=(vF.out _ K.out.2.2.2.fr).at_ hp;injection vm with e9 _ e10
       subst e9;subst e10;have a0:wr.cell? ⟨gP,k*5,none⟩=some (.int .i64 (p.1:Int)):=qE 0 (by decide);have a1:wr.cell? ⟨gP,k*5+1,none⟩=some (.slice A p.2.length c):=qE 1 (by decide);have a2:wr.cell? ⟨gP,k*5+2,none⟩=some (.bool false):=qE 2 (by decide);have a3:wr.cell? ⟨gP,k*5+3,none⟩=some (.slice none 0 0):=qE 3 (by decide);have a4:wr.cell? ⟨gP,k*5+4,none⟩=some (.slice none 0 0):=qE 4 (by decide);have kN:(k:Int)<(P.length:Int):=(by omega);have k0:(0:Int)<=(k:Int):=(by omega);have PR:=Hx (And.intro q8 vj);have v3:p.1<l.length:=HN.out.2.2 p (yJ hp);clear qE q8 vj vq hp;by_cases qL:p.1=n
       ·obtain⟨pd,pa⟩:=p
        have qL:n=pd:=qL.symm;subst qL
        dsimp only at a0 a1
        have PR:=Hx (show RdT wr 3 A (ints pa)/\pa.length<=c from PR.out);have ZK:=Hx (show(Sx.ptZ T P)[k]?=some ((n,pa),Sx.at_ (Sx.ptT T) (k+1))from ZK.out);have vJ:((n:Int) !=(n:Int))=false:=(by simp);have va:k+1<(Sx.ptT T).length:=(by rw [vH.out];omega);obtain⟨nf,qw,g1,h1,qx,g2,h2,⟨s0,s1,s2⟩,_,hy⟩:=(GQ.out _ K.out.2.2.2.fr).at_ (jzv va);rw [show(k+1)*3=3+k*3 by omega]at s0 s1 s2;have s0:=jzc s0 (.cells #[.int .i64 (n:Int),.slice A pa.length c,.bool false,.slice none 0 0,.slice none 0 0] 70);have s1:=jzc s1 (.cells #[.int .i64 (n:Int),.slice A pa.length c,.bool false,.slice none 0 0,.slice none 0 0] 70);have s2:=jzc s2 (.cells #[.int .i64 (n:Int),.slice A pa.length c,.bool false,.slice none 0 0,.slice none 0 0] 70);have RY:=Hx hy;have BY:=Hx (Blk.new wr 70 #[.int .i64 (n:Int),.slice A pa.length c,.bool nf,.slice qw g1 h1,.slice qx g2 h2]);have XY:=Hx (show Ext wr (wr.alloc (.cells #[.int .i64 (n:Int),.slice A pa.length c,.bool nf,.slice qw g1 h1,.slice qx g2 h2] 70))from(Ext.refl wr).alloc _);obtain⟨⟨v0,v1,v2⟩,_⟩:=K.out.2.1.three;have v0:=jzc v0 (.cells #[.int .i64 (n:Int),.slice A pa.length c,.bool nf,.slice qw g1 h1,.slice qx g2 h2] 70);have v1:=jzc v1 (.cells #[.int .i64 (n:Int),.slice A pa.length c,.bool nf,.slice qw g1 h1,.slice qx g2 h2] 70);have v2:=jzc v2 (.cells #[.int .i64 (n:Int),.slice A pa.length c,.bool nf,.slice qw g1 h1,.slice qx g2 h2] 70);have vi:=Hx (show SzQ (Sx.at_ (Sx.ptT T) (k+1)) 20 from SZ.out.2.2.2.1 _ (yJ (jzv va)));have qY:=Hx (show SzQ r 41 from by
         have h9:=RS.out k;rw [<-K.out.1]at h9;exact h9)
        generalize Sx.at_ (Sx.ptT T) (k+1)=f at*;obtain⟨zf,zn⟩:=hy.lens vi.out;obtain⟨v6,vY⟩:=K.out.2.2.1.lens qY.out;clear hy
        go_wp2_with fail
        refine(jz4 nf nr qw g1 h1 qx g2 h2 S1 e1 f1 S2 e2 f2 f r _ (RY.out.keep XY.out) (K.out.2.2.1.keep XY.out) (by omega) (by omega) (by omega) (by omega)).mono ?_;rintro e w6 ⟨rfl,x6⟩;have qo:=Hx (BY.out.keep x6);have K6:=Hx (show Blk w6 br 35 #[.bool nr,.slice S1 e1 f1,.slice S2 e2 f2]/\RatR w6 nr S1 e1 f1 S2 e2 f2 r/\PlI w5 w6 bp gl (2*t.links.length) neg A1 n1 c1 A2 n2 c2 vK out/\RdT w6 3 A (ints pa)/\RatR w6 nf qw g1 h1 qx g2 h2 f/\RatR w6 neg A1 n1 c1 A2 n2 c2 T.goal.re from
         ⟨K.out.2.1.keep (XY.out.tr x6),K.out.2.2.1.keep (XY.out.tr x6),K.out.2.2.2.keep (XY.out.tr x6),PR.out.1.keep (XY.out.tr x6),RY.out.keep (XY.out.tr x6),((K.out.2.2.2.keep (XY.out.tr x6)).fr.ratR (NoT.one I5.out.1 (by decide)) I5.out.2.1)⟩)
        have qJ:=Hx K.out.1;have qW:=Hx (show br<wr.heap.size from K.out.2.1.lt);have vu:=Hx (show∀g,vK.ownBlock=some g->g<wr.heap.size from fun g hg=>by
         obtain⟨xs,ho⟩:=K.out.2.2.2.own.own;exact(ho.lt g hg).2)
        clear v0 v1 v2 s0 s1 s2 x6 BY XY RY K;generalize hby:wr.heap.size=yb at*;obtain⟨⟨v0,v1,v2⟩,_⟩:=K6.out.1.three;have y2:=qo.out.cell 2;have y3:=qo.out.cell 3;have y4:=qo.out.cell 4;have z2:=qo.out.frozen 2;have z3:=qo.out.frozen 3;have z4:=qo.out.frozen 4
        go_upto_if 75 with fail
        go_cut [] (fun wx=>∃(nh:Bool) (H1:Option Addr) (i1 j1:Nat) (H2:Option Addr) (i2 j2:Nat),Hid (Blk wx yb 70 #[.int .i64 (n:Int),.slice A pa.length c,.bool nh,.slice H1 i1 j1,.slice H2 i2 j2]/\RatR wx nh H1 i1 j1 H2 i2 j2 (if r<f then r else f)/\
         Blk wx br 35 #[.bool nr,.slice S1 e1 f1,.slice S2 e2 f2]/\RatR wx nr S1 e1 f1 S2 e2 f2 r/\PlI w5 wx bp gl (2*t.links.length) neg A1 n1 c1 A2 n2 c2 vK out/\RdT wx 3 A (ints pa)))
        case first=>
         by_cases qB:r<f
         ·have qU:0<cmpQ f r:=(jze8 f r).2 qB
          have vL:decide (0<cmpQ f r)=true:=yO qU;have qS:=Hx qB;clear qB;go_wp2;go_meet;have b0:=qo.out.set_ 2 (.bool nr);have b1:=b0.set_ 3 (.slice S1 e1 f1);have b2:=b1.set_ 4 (.slice S2 e2 f2);have k3:FrS (fun b'=>b'=yb) w6 (((w6.setCell ⟨yb,2,none⟩ (.bool nr)).setCell ⟨yb,3,none⟩ (.slice S1 e1 f1)).setCell ⟨yb,4,none⟩ (.slice S2 e2 f2)):=FrS.of_grown (((jze w6 yb 2 _).trans (jze _ yb 3 _)).trans (jze _ yb 4 _)) fun g e=>(by injection e with e;exact e.symm);have hn:=fun tt (ht:70≠tt)=>NoT.one qo.out ht;refine⟨nr,S1,e1,f1,S2,e2,f2,Hx ⟨b2,?_,k3.blk K6.out.1 (by have:=qW.out;omega),k3.ratR (hn _ (by decide)) K6.out.2.1,?_,k3.rdT (hn _ (by decide)) K6.out.2.2.2.1⟩⟩
          ·rw [if_pos qS.out]
           exact k3.ratR (hn _ (by decide)) K6.out.2.1
          ·have qp:=K6.out.2.2.1
           have vO:w5.heap.size<=yb:=(by have:=qp.fr.size;have:=qW.out;omega);refine⟨k3.blk qp.box (by omega),qp.own.fr k3 (fun g hg e=>by have:=vu.out g hg;omega) (fun cs y _ hy=>hy.fr k3 (hn _ (by decide)) (hn _ (by decide))),qp.fr.tr k3 fun b hb=>.inr (by rw [hb];exact vO)⟩
         ·have qU:¬0<cmpQ f r:=fun h=>qB ((jze8 f r).1 h)
          have vL:decide (0<cmpQ f r)=false:=yP qU;have qS:=Hx qB;clear qB;go_wp2;go_meet;exact⟨nf,qw,g1,h1,qx,g2,h2,Hx ⟨qo.out,by rw [if_neg qS.out];exact K6.out.2.2.2.2.1,K6.out.1,K6.out.2.1,K6.out.2.2.1,K6.out.2.2.2.1⟩⟩
        case rest=>
         obtain⟨nh,H1,i1,j1,H2,i2,j2,I9⟩:=hcut;clear qo K6 v0 v1 v2 y2 y3 y4 z2 z3 z4;have vI:=Hx (show SzQ (if r<f then r else f) 41 from by
          split
          ·exact qY.out
          ·exact vi.out.mono (by decide))
         have qK:=Hx (show(r-(if r<f then r else f),if 0<(if r<f then r else f)then out++[((n,pa),(if r<f then r else f))]else out)=((Sx.ptZ T P).take (k+1)).foldl (Sx.cutSt n) (T.goal.re*amQ l n,outN (amQ l) T.goal.re (Sx.ptZ T P) n)from by
          rw [jzf7 ZK.out, <-qJ.out];unfold Sx.cutSt;rw [if_pos rfl])
         generalize hff:(if r<f then r else f)=ff at*;obtain⟨⟨v0,v1,v2⟩,r0,r1,r2⟩:=I9.out.2.2.1.three;have y2:=I9.out.1.cell 2;have y3:=I9.out.1.cell 3;have y4:=I9.out.1.cell 4;obtain⟨v4,zk⟩:=I9.out.2.1.lens vI.out;clear hff
         go_wp2_with fail
         refine(jzca nr nh S1 e1 f1 S2 e2 f2 H1 i1 j1 H2 i2 j2 r ff _ I9.out.2.2.2.1 I9.out.2.1 (by omega) (by omega) (by omega) (by omega)).mono ?_;rintro e w7 ⟨qf,T1,t1,u1,T2,t2,u2,rfl,vg,x7⟩;have B7:=I9.out.2.2.1.keep x7;have k7:FrS (fun b'=>b'=br) w7 (((w7.setCell ⟨br,0,none⟩ (.bool qf)).setCell ⟨br,1,none⟩ (.slice T1 t1 u1)).setCell ⟨br,2,none⟩ (.slice T2 t2 u2)):=FrS.of_grown (((jze w7 br 0 _).trans (jze _ br 1 _)).trans (jze _ br 2 _)) fun g e=>(by injection e with e;exact e.symm);have qD:=fun tt (ht:35≠tt)=>NoT.one B7 ht;have qF:yb≠br:=(by have:=qW.out;omega);have qn:=Hx (show Blk (((w7.setCell ⟨br,0,none⟩ (.bool qf)).setCell ⟨br,1,none⟩ (.slice T1 t1 u1)).setCell ⟨br,2,none⟩ (.slice T2 t2 u2)) yb 70 #[.int .i64 (n:Int),.slice A pa.length c,.bool nh,.slice H1 i1 j1,.slice H2 i2 j2]/\RatR (((w7.setCell ⟨br,0,none⟩ (.bool qf)).setCell ⟨br,1,none⟩ (.slice T1 t1 u1)).setCell ⟨br,2,none⟩ (.slice T2 t2 u2)) nh H1 i1 j1 H2 i2 j2 ff/\
           Blk (((w7.setCell ⟨br,0,none⟩ (.bool qf)).setCell ⟨br,1,none⟩ (.slice T1 t1 u1)).setCell ⟨br,2,none⟩ (.slice T2 t2 u2)) br 35 #[.bool qf,.slice T1 t1 u1,.slice T2 t2 u2]/\RatR (((w7.setCell ⟨br,0,none⟩ (.bool qf)).setCell ⟨br,1,none⟩ (.slice T1 t1 u1)).setCell ⟨br,2,none⟩ (.slice T2 t2 u2)) qf T1 t1 u1 T2 t2 u2 (r-ff)/\
           PlI w5 (((w7.setCell ⟨br,0,none⟩ (.bool qf)).setCell ⟨br,1,none⟩ (.slice T1 t1 u1)).setCell ⟨br,2,none⟩ (.slice T2 t2 u2)) bp gl (2*t.links.length) neg A1 n1 c1 A2 n2 c2 vK out/\RdT (((w7.setCell ⟨br,0,none⟩ (.bool qf)).setCell ⟨br,1,none⟩ (.slice T1 t1 u1)).setCell ⟨br,2,none⟩ (.slice T2 t2 u2)) 3 A (ints pa)from by
          have qp:=I9.out.2.2.2.2.1.keep x7;refine⟨k7.blk (I9.out.1.keep x7) qF,k7.ratR (qD _ (by decide)) (I9.out.2.1.keep x7),((B7.set_ 0 _).set_ 1 _).set_ 2 _,k7.ratR (qD _ (by decide)) vg,⟨k7.blk qp.box (by omega),qp.own.fr k7 (fun g hg e=>?_) (fun cs y _ hy=>hy.fr k7 (qD _ (by decide)) (qD _ (by decide))),qp.fr.tr k7 fun b hb=>.inr (by rw [hb];exact vV)⟩,k7.rdT (qD _ (by decide)) (I9.out.2.2.2.2.2.keep x7)⟩;obtain⟨xs,ho⟩:=qp.own.own;obtain⟨cs,qa⟩:=jzl ho hg;rw [e]at qa;exact absurd (jzq qa B7).2 (by decide))
         obtain⟨⟨v0,v1,v2⟩,r0,r1,r2⟩:=B7.three;clear k7 qD B7 vg x7 I9 y2 y3 y4 qF
         go_upto_region 16 with fail
         generalize ((w7.setCell ⟨br,0,none⟩ (.bool qf)).setCell ⟨br,1,none⟩ (.slice T1 t1 u1)).setCell ⟨br,2,none⟩ (.slice T2 t2 u2)=W8' at*;clear v0 v1 v2 r0 r1 r2;have y2:=qn.out.1.cell 2;have y3:=qn.out.1.cell 3;have y4:=qn.out.1.cell 4
         go_wp2_with fail
         refine(jzz nh H1 i1 j1 H2 i2 j2 ff _ qn.out.2.1).mono ?_;rintro e w9 ⟨rfl,x9⟩;have qg:=Hx (show Blk w9 yb 70 #[.int .i64 (n:Int),.slice A pa.length c,.bool nh,.slice H1 i1 j1,.slice H2 i2 j2]/\RatR w9 nh H1 i1 j1 H2 i2 j2 ff/\Blk w9 br 35 #[.bool qf,.slice T1 t1 u1,.slice T2 t2 u2]/\RatR w9 qf T1 t1 u1 T2 t2 u2 (r-ff)/\PlI w5 w9 bp gl (2*t.links.length) neg A1 n1 c1 A2 n2 c2 vK out/\RdT w9 3 A (ints pa)from
          ⟨qn.out.1.keep x9,qn.out.2.1.keep x9,qn.out.2.2.1.keep x9,qn.out.2.2.2.1.keep x9,qn.out.2.2.2.2.1.keep x9,qn.out.2.2.2.2.2.keep x9⟩)
         clear x9 qn y2 y3 y4;by_cases qh:0<ff
         ·have qP:0<sgnI ff:=(jzh3 ff).2 qh
          have vl:decide (0<sgnI ff)=true:=yO qP;have ze:out.length<=50000000000:=by
           have h1:=congrArg (fun s=>s.2.length) qJ.out;have h1:out.length=(((Sx.ptZ T P).take k).foldl (Sx.cutSt n) (T.goal.re*amQ l n,outN (amQ l) T.goal.re (Sx.ptZ T P) n)).2.length:=h1;have h2:=fold_len n (T.goal.re*amQ l n) (outN (amQ l) T.goal.re (Sx.ptZ T P) n) ((Sx.ptZ T P).take k);have h3:=jzlr (amQ l) T.goal.re (Sx.ptZ T P) n;have h4:=ptZ_len HF.out.2.2;rw [h4]at h3;have h5:n*P.length<=3*P.length:=xS _ (by omega);rw [xF]at h2;omega
          have qM:=Hx qh;have y0:=qg.out.1.cell 0;have y1:=qg.out.1.cell 1;have y2:=qg.out.1.cell 2;have y3:=qg.out.1.cell 3;have y4:=qg.out.1.cell 4;have p3:=qg.out.2.2.2.2.1.box.cell 3;have XB:=Hx (show Ext w9 (w9.alloc (.cells #[.int .i64 (n:Int),.slice A pa.length c,.bool nh,.slice H1 i1 j1,.slice H2 i2 j2] 70))from(Ext.refl w9).alloc _);have BW:=Hx (Blk.new w9 70 #[.int .i64 (n:Int),.slice A pa.length c,.bool nh,.slice H1 i1 j1,.slice H2 i2 j2]);have PB:=Hx (qg.out.2.2.2.2.1.keep XB.out);obtain⟨css,h1,h2,qi,h4⟩:=PB.out.own;have vR:w5.heap.size<=(w9.alloc (.cells #[.int .i64 (n:Int),.slice A pa.length c,.bool nh,.slice H1 i1 j1,.slice H2 i2 j2] 70)).heap.size:=PB.out.fr.size;clear qh
          go_wp2_with (at_builtin;refine jz2 _ 36 70 _ 5 88 rfl _ _ rfl Tryz.underlying36 jze7 rfl (by decide) w5.heap.size vK out.length css.flatten rfl qi [.int .i64 (n:Int),.slice A pa.length c,.bool nh,.slice H1 i1 j1,.slice H2 i2 j2] rfl (by simp [Value.oneCell']) w9.heap.size rfl BW.out (by unfold maxLen;omega) (by omega) vR ?_)
          intro g7 c7 qt qz qy qV;have k7:=FrS.of_grown (S:=fun b=>vK.ownBlock=some b) qy fun g e=>e;have n7:=fun tt (ht:70≠tt) (b:Nat) (hb:vK.ownBlock=some b)=>jz3 qi hb ht;have qC:=Hx (k7.blk PB.out.box fun e=>jz3 qi e (by decide) _ _ PB.out.box);have k8:FrS (fun b=>b=bp) qt (qt.setCell ⟨bp,3,none⟩ (.slice (some ⟨g7,0,none⟩) (out.length+1) c7)):=FrS.of_grown (jze qt bp 3 _) fun g e=>(by injection e with e;exact e.symm);have n8:=fun tt (ht:39≠tt)=>NoT.one qC.out ht;have z3:qt.frozen? ⟨bp,3,none⟩=false:=qC.out.frozen _;have vZ:qt.cell? ⟨bp,3,none⟩=some vK:=qC.out.cell 3;have K9:=Hx (show(r-ff,out++[((n,pa),ff)])=((Sx.ptZ T P).take (k+1)).foldl (Sx.cutSt n) (T.goal.re*amQ l n,outN (amQ l) T.goal.re (Sx.ptZ T P) n)/\Blk (qt.setCell ⟨bp,3,none⟩ (.slice (some ⟨g7,0,none⟩) (out.length+1) c7)) br 35 #[.bool qf,.slice T1 t1 u1,.slice T2 t2 u2]/\RatR (qt.setCell ⟨bp,3,none⟩ (.slice (some ⟨g7,0,none⟩) (out.length+1) c7)) qf T1 t1 u1 T2 t2 u2 (r-ff)/\PlI w5 (qt.setCell ⟨bp,3,none⟩ (.slice (some ⟨g7,0,none⟩) (out.length+1) c7)) bp gl (2*t.links.length) neg A1 n1 c1 A2 n2 c2 (.slice (some ⟨g7,0,none⟩) (out.length+1) c7) (out++[((n,pa),ff)])from by
           have hq:=qK.out;rw [if_pos qM.out]at hq;have vd:=qg.out.2.2.1.keep XB.out;refine⟨hq,k8.blk (k7.blk vd fun e=>jz3 qi e (by decide) _ _ vd) (by omega),k8.ratR (n8 _ (by decide)) (k7.ratR (n7 _ (by decide)) (qg.out.2.2.2.1.keep XB.out)),qC.out.set_ 3 _,?_,((PB.out.fr.tr k7 fun b hb=>.inr (qi.lt b hb).1).tr k8 fun b hb=>.inl hb)⟩;have qT:OwL PzQ 70 5 qt w5.heap.size (.slice (some ⟨g7,0,none⟩) (out.length+1) c7) (out++[((n,pa),ff)]):=
            OwL.pushed h1 h2 h4 (us:=[.int .i64 (n:Int),.slice A pa.length c,.bool nh,.slice H1 i1 j1,.slice H2 i2 j2]) rfl (fun cs y _ hy=>hy.fr k7 (n7 _ (by decide)) (n7 _ (by decide))) ⟨A,c,nh,H1,i1,j1,H2,i2,j2,rfl,PR.out.2,k7.rdT (n7 _ (by decide)) (qg.out.2.2.2.2.2.keep XB.out),k7.ratR (n7 _ (by decide)) (qg.out.2.1.keep XB.out)⟩ qz
           refine qT.fr k8 (fun g hg e=>?_) fun cs y _ hy=>hy.fr k8 (n8 _ (by decide)) (n8 _ (by decide));obtain⟨cs,qa⟩:=jzl qz hg;rw [e]at qa;exact absurd (jzq qa qC.out).2 (by decide))
          clear qz qy qV qi h1 h2 h4 css k7 n7 k8 n8 PB BW XB qC qg qK qJ y0 y1 y2 y3 y4 p3;go_wp2
          go_roundg (P.length-(k+1))
          case measure=>omega
          case rel=>exact⟨k+1,_,r-ff,_,qf,T1,t1,u1,T2,t2,u2,rfl,by omega,by go_num,K9⟩
         ·have qP:¬0<sgnI ff:=fun h=>qh ((jzh3 ff).1 h)
          have vl:decide (0<sgnI ff)=false:=yP qP;have K9:=Hx (show(r-ff,out)=((Sx.ptZ T P).take (k+1)).foldl (Sx.cutSt n) (T.goal.re*amQ l n,outN (amQ l) T.goal.re (Sx.ptZ T P) n)/\Blk w9 br 35 #[.bool qf,.slice T1 t1 u1,.slice T2 t2 u2]/\RatR w9 qf T1 t1 u1 T2 t2 u2 (r-ff)/\PlI w5 w9 bp gl (2*t.links.length) neg A1 n1 c1 A2 n2 c2 vK out from by
           have h9:=qK.out;rw [if_neg qh]at h9;exact⟨h9,qg.out.2.2.1,qg.out.2.2.2.1,qg.out.2.2.2.2.1⟩)
          clear qh qg qK qJ;go_wp2
          go_roundg (P.length-(k+1))
          case measure=>omega
          case rel=>exact⟨k+1,vK,r-ff,out,qf,T1,t1,u1,T2,t2,u2,rfl,by omega,by go_num,K9⟩
       ·have vJ:((p.1:Int) !=(n:Int))=true:=bne_iff_ne.2 (by omega)
        have vy:¬((p.1:Int)=(n:Int)):=(by omega);have K9:=Hx (show(r,out)=((Sx.ptZ T P).take (k+1)).foldl (Sx.cutSt n) (T.goal.re*amQ l n,outN (amQ l) T.goal.re (Sx.ptZ T P) n)/\Blk (wr.alloc (.cells #[.int .i64 (p.1:Int),.slice A p.2.length c,.bool false,.slice none 0 0,.slice none 0 0] 70)) br 35 #[.bool nr,.slice S1 e1 f1,.slice S2 e2 f2]/\RatR (wr.alloc (.cells #[.int .i64 (p.1:Int),.slice A p.2.length c,.bool false,.slice none 0 0,.slice none 0 0] 70)) nr S1 e1 f1 S2 e2 f2 r/\PlI w5 (wr.alloc (.cells #[.int .i64 (p.1:Int),.slice A p.2.length c,.bool false,.slice none 0 0,.slice none 0 0] 70)) bp gl (2*t.links.length) neg A1 n1 c1 A2 n2 c2 vK out from by
         refine⟨?_,K.out.2.1.keep ((Ext.refl wr).alloc _),K.out.2.2.1.keep ((Ext.refl wr).alloc _),K.out.2.2.2.keep ((Ext.refl wr).alloc _)⟩;rw [jzf7 ZK.out, <-K.out.1];unfold Sx.cutSt;rw [if_neg qL])
        clear K;go_wp2
        go_roundg (P.length-(k+1))
        case measure=>omega
        case rel=>exact⟨k+1,vK,r,out,nr,S1,e1,f1,S2,e2,f2,rfl,by omega,by go_num,K9⟩
      ·obtain rfl:k=P.length:=by omega
       have L9:=Hx (show PlI w5 wr bp gl (2*t.links.length) neg A1 n1 c1 A2 n2 c2 vK (outN (amQ l) T.goal.re (Sx.ptZ T P) (n+1))from by
        have h1:=congrArg (fun s=>s.2) K.out.1;have h1:out=(((Sx.ptZ T P).take P.length).foldl (Sx.cutSt n) (T.goal.re*amQ l n,outN (amQ l) T.goal.re (Sx.ptZ T P) n)).2:=h1;rw [yU (Nat.le_of_eq (ptZ_len HF.out.2.2)),Sx.cutSt_all, <-jzh2]at h1;rw [<-h1];exact K.out.2.2.2)
       clear K;go_wp2
       go_roundg (l.length-(n+1))
       case measure=>omega
       case rel=>exact⟨n+1,vK,rfl,by omega,by go_num,L9⟩
   ·obtain rfl:n=l.length:=by omega
    obtain⟨AQ,cQ,vn,vU⟩:=J.out.own.form;subst vn;have RB:=Hx (J.out.fr.blk (E1.out.1.keep I5.out.2.2.2.2) (by have:=E1.out.1.lt;omega));have p0:=J.out.box.cell 0;have p1:=J.out.box.cell 1;have p2:=J.out.box.cell 2;have p3:=J.out.box.cell 3;have p4:=J.out.box.cell 4;have m0:=RB.out.cell 0;have m1:=RB.out.cell 1;have m2:=RB.out.cell 2;have m3:=RB.out.cell 3;have m4:=RB.out.cell 4;have r0:=RB.out.frozen 0;have r1:=RB.out.frozen 1;have r2:=RB.out.frozen 2;have r3:=RB.out.frozen 3;have r4:=RB.out.frozen 4;have qX:=Hx (show∀W,FrS (fun b=>b=w.heap.size) wr W->PlanPost w (2*t.links.length) T.goal.re (Sx.planZ l.length (amQ l) T.goal.re (Sx.ptZ T P)) ((Sx.prT T).take (2*t.links.length)) (.returned (.agg #[.bool neg,.slice A1 n1 c1,.slice A2 n2 c2,.slice AQ (outN (amQ l) T.goal.re (Sx.ptZ T P) l.length).length cQ,.slice (some ⟨gl,0,none⟩) (2*t.links.length) (2*t.links.length)])) W from fun W k9=>by
     have hn:=fun tt (ht:39≠tt)=>NoT.one RB.out ht;have q6:=fun tt (ht:39≠tt)=>NoT.one I5.out.1 ht;refine⟨neg,A1,n1,c1,A2,n2,c2,AQ,cQ,gl,rfl,k9.ratR (hn _ (by decide)) (J.out.fr.ratR (q6 _ (by decide)) I5.out.2.1),vU,?_,?_,k9.ext EW.out fun b hb=>by rw [hb];exact yX _⟩
     ·refine⟨_,J.out.own.fr k9 (fun g hg e=>?_) fun cs y _ hy=>hy.fr k9 (hn _ (by decide)) (hn _ (by decide))⟩
      obtain⟨xs,ho⟩:=J.out.own.own;obtain⟨cs,qa⟩:=jzl ho hg;rw [e]at qa;exact absurd (jzq qa RB.out).2 (by decide)
     ·have hq:QB wr gl (Sx.prT T):=I5.out.2.2.1.fr J.out.fr (q6 _ (by decide)) fun e=>by
       obtain⟨cs,qa⟩:=I5.out.2.2.1.blk;rw [e]at qa;exact absurd (jzq qa I5.out.1).2 (by decide)
      have vT:QB W gl (Sx.prT T):=hq.fr k9 (hn _ (by decide)) fun e=>by
       obtain⟨cs,qa⟩:=hq.blk;rw [e]at qa;exact absurd (jzq qa RB.out).2 (by decide)
      exact⟨_,vT,rfl⟩)
    have qa:=((((RB.out.set_ 0 (.bool neg)).set_ 1 (.slice A1 n1 c1)).set_ 2 (.slice A2 n2 c2)).set_ 3 (.slice AQ (outN (amQ l) T.goal.re (Sx.ptZ T P) l.length).length cQ)).set_ 4 (.slice (some ⟨gl,0,none⟩) (2*t.links.length) (2*t.links.length));have HB:=Hx qa;have qN:=Hx (qX.out _ (FrS.of_grown (grown5 wr w.heap.size (.bool neg) (.slice A1 n1 c1) (.slice A2 n2 c2) (.slice AQ (outN (amQ l) T.goal.re (Sx.ptZ T P) l.length).length cQ) (.slice (some ⟨gl,0,none⟩) (2*t.links.length) (2*t.links.length))) fun g e=>by injection e with e;exact e.symm));clear qa qX J;go_wp2;have qa:=HB.out;exact bodyPost_ret (v:=.agg #[.bool neg,.slice A1 n1 c1,.slice A2 n2 c2,.slice AQ (outN (amQ l) T.goal.re (Sx.ptZ T P) l.length).length cQ,.slice (some ⟨gl,0,none⟩) (2*t.links.length) (2*t.links.length)]) (by simp [results,Tryz.results45,go_sem,qa.cell]) rfl qN.out
theorem costP_at{t:Tp}{a:Nat}{l:Lk}(hl:t.links[a/2]?=some l)(h0:0<=l.c0/\0<=l.c1):((costP t a:Nat):Int)=if a%2=0 then l.c0 else l.c1:=by
 unfold costP;rw [hl];simp only []
 split <;> omega
theorem cost_nn{t:Tp}(hv:validP t=true){i:Nat}{l:Lk}(hl:t.links[i]?=some l):0<=l.c0/\0<=l.c1:=by
 unfold validP at hv;rw [vM,xW]at hv;have qa:=hv.2 l (yJ hl);unfold Lk.ok inB at qa;simp at qa;omega
theorem gCost_any(t:Tp)(AO:Option Addr)(co:Nat)(AL:Option Addr)(cl:Nat)(a:Nat)(w:World)(ht:TopR w t AO co AL cl)(hv:validP t=true)(ha:a/2<t.links.length):
  Calls Tryz.prog 136 #[.agg #[.int .i64 t.nodes,.slice AO t.over.length co,.slice AL t.links.length cl],.int .i64 a] w fun e w'=>e=.returned (.int .i64 (costP t a:Nat))/\Ext w w':=by
 have hl:=ht.ll;have qe:=ht.cl;obtain⟨l,qa⟩:∃l,t.links[a/2]?=some l:=⟨_,yG ha⟩;obtain⟨b,o,rfl,hb,c0,c1,c2,c3,_⟩:=ht.link qa;rw [costP_at qa (cost_nn hv qa)];clear ht qa hv;by_cases h:a%2=0
 ·rw [if_pos h]
  have h':((a:Int)%2)=0:=(by omega);clear h
  go_enter Tryz.func136,Tryz.ntmps136
  go_wp2;go_ret;exact⟨rfl,(Ext.refl w).alloc _⟩
 ·rw [if_neg h]
  have h':((a:Int)%2)=1:=(by omega);clear h
  go_enter Tryz.func136,Tryz.ntmps136
  go_wp2;go_ret;exact⟨rfl,(Ext.refl w).alloc _⟩
theorem jzls(n:Nat)(w:World)(hn:n<=2000000):
  Calls Tryz.prog 178 #[.slice none 0 0,.int .i64 (n:Int)] w fun e w'=>∃v,e=.returned v/\w'.ownsRow w.heap.size 3 1 v 0 []/\Ext w w':=by
 have h1:¬((n:Int)<0):=(by omega);by_cases hz:n=0
 ·subst hz
  go_enter Tryz.func178,Tryz.ntmps178
  go_wp2;go_ret;exact⟨_,rfl,⟨rfl,.inl ⟨rfl,rfl⟩⟩,Ext.refl _⟩
 ·obtain⟨ti,hi,qi,qj,qf⟩:=info_parts Tryz.info3
  have h4:(n:Int)>0:=(by omega);have qg:∀ty,(Builtin.append_ #[44,3] ty #[.slice none 0 0,.int .i64 (n:Int)]).run Tryz.prog w=.ok (.slice (some ⟨w.heap.size,0,none⟩) n (grownCap w n 0 3)) (w.drew.alloc (.cells (([]:List Value).toArray++Builtin.zeroCells (Value.int .i64 0).cells n++Builtin.zeroCells (Value.int .i64 0).cells (grownCap w n 0 3-n)) 3)):=fun ty=>by
   have h:=Lib.run_append_grow_zeros (P:=Tryz.prog) w 44 3 ty 3 ti (.int .i64 0) .i64 .i64 Tryz.underlying44 Tryz.underlying3 hi qi none 0 0 [] (run_firstCells_none _ _ 0 0 0) n (by omega) (by omega) (by omega) (by omega) (by rw [qf];omega) (by rw [qf,Nat.zero_add];exact growslice_fits (by omega) (by omega));rw [Nat.zero_add]at h;exact h
  have qm:n<=grownCap w n 0 3:=grownCap_ge w _ _ _;have qa:=grownCap_le_maxLen w n 0 3 (by unfold maxLen;omega);have qe:=Hx (show(w.drew.alloc (.cells (([]:List Value).toArray++Builtin.zeroCells (Value.int .i64 0).cells n++Builtin.zeroCells (Value.int .i64 0).cells (grownCap w n 0 3-n)) 3)).ownsRow w.heap.size 3 1 (.slice (some ⟨w.heap.size,0,none⟩) 0 (grownCap w n 0 3)) 0 []/\Ext w (w.drew.alloc (.cells (([]:List Value).toArray++Builtin.zeroCells (Value.int .i64 0).cells n++Builtin.zeroCells (Value.int .i64 0).cells (grownCap w n 0 3-n)) 3))from
   ⟨World.ownsRow_made w.drew _ _ (yX _) qa (by simp [Builtin.zeroCells,Value.cells];omega),((Ext.refl w).drewN 1).alloc _⟩)
  obtain⟨G,hG⟩:∃G,G=grownCap w n 0 3:=⟨_,rfl⟩;rw [<-hG]at qg qm qa qe;obtain⟨W',qh⟩:∃W',W'=w.drew.alloc (.cells (([]:List Value).toArray++Builtin.zeroCells (Value.int .i64 0).cells n++Builtin.zeroCells (Value.int .i64 0).cells (G-n)) 3):=⟨_,rfl⟩;rw [<-qh]at qg qe;clear qh;have qk:G<=9223372036854775807:=(by unfold maxLen at qa;omega);clear hG hi qi qj qf qa
  go_enter Tryz.func178,Tryz.ntmps178
  go_wp2_with (at_builtin;refine Lib.wpList_append_run _ rfl _ _ _ _ rfl _ _ rfl rfl _ _ (qg _) ?_)
  all_goals
   go_ret;exact⟨_,rfl,qe.out.1,qe.out.2⟩
def rowV(r:Option Addr×List Nat×Nat):Value:=.slice r.1 r.2.1.length r.2.2
def catS(rs:List (Option Addr×List Nat×Nat)):Nat:=(rs.map fun r=>r.2.1.length).sum
def catL(rs:List (Option Addr×List Nat×Nat)):List Nat:=(rs.map fun r=>r.2.1).flatten
theorem jzh4{rs:List (Option Addr×List Nat×Nat)}{k:Nat}{r:Option Addr×List Nat×Nat}(h:rs[k]?=some r):catS (rs.take (k+1))=catS (rs.take k)+r.2.1.length:=by
 unfold catS;rw [List.take_add_one,h];simp
theorem catL_step{rs:List (Option Addr×List Nat×Nat)}{k:Nat}{r:Option Addr×List Nat×Nat}(h:rs[k]?=some r):catL (rs.take (k+1))=catL (rs.take k)++r.2.1:=by
 unfold catL;rw [List.take_add_one,h];simp
theorem catL_len(rs:List (Option Addr×List Nat×Nat)):(catL rs).length=catS rs:=by
 unfold catL catS;rw [List.length_flatten,List.map_map];rfl
theorem catS_le(rs:List (Option Addr×List Nat×Nat))(k:Nat):catS (rs.take k)<=catS rs:=by
 have h:catS rs=catS (rs.take k)+catS (rs.drop k):=by
  unfold catS
  conv=>lhs;rw [<-List.take_append_drop k rs]
  rw [List.map_append,List.sum_append]
 omega
theorem jzlt(a b:List Nat):ints (a++b)=ints a++ints b:=by unfold ints;rw [List.map_append]
theorem concat_ok(rs:List (Option Addr×List Nat×Nat))(m b:Nat)(w:World)(hm:rs.length=m)(hb:Blk w b 44 (rs.map rowV).toArray)(hr:∀r∈rs,RdT w 3 r.1 (ints r.2.1))(hn:m<=1000)(hs:catS rs<=1000000):
  Calls Tryz.prog 134 #[.slice (some ⟨b,0,none⟩) m m] w fun e w'=>∃v,e=.returned v/\w'.ownsRow w.heap.size 3 1 v (catL rs).length (ints (catL rs))/\Ext w w':=by
 obtain⟨ti,hi,qA,qx,qm⟩:=info_parts Tryz.info3;have HB:=Hx hb;have HR:=Hx hr;have HM:=Hx hm;have HS:=Hx hs;have qz:=hb.lt;clear hb hr hm hs
 go_enter Tryz.func134,Tryz.ntmps134
 go_wp2
 go_loopg [3,5,11] m (fun j st _ it wr=>∃(k:Nat),m-k=j/\k<=m/\it=.int .i64 (k:Int)/\st=.int .i64 (catS (rs.take k):Nat)/\w=wr)
 case atStart=>exact⟨0,rfl,yZ _,rfl,rfl,rfl⟩
 case round=>
  obtain⟨k,rfl,hk,rfl,rfl,rfl⟩:=hrel;by_cases qo:k<m
  ·obtain⟨r,hr⟩:∃r,rs[k]?=some r:=⟨_,yG (by rw [HM.out];exact qo)⟩
   have qj:=jzh4 hr;have h1:=catS_le rs (k+1);have h2:=HS.out;have iN:(k:Int)<(m:Int):=(by omega);have c0:w.cell? ⟨b,k,none⟩=some (.slice r.1 r.2.1.length r.2.2):=by
    rw [HB.out.cell];simp [hr,rowV]
   rw [qj]at h1;have qf:=Hx qj;generalize catS (rs.take k)=S at*;clear qj hr;go_wp2
   go_roundg (m-(k+1))
   case measure=>omega
   case rel=>exact⟨k+1,rfl,by omega,by go_num,by rw [qf.out];go_num,rfl⟩
  ·obtain rfl:k=m:=by omega
   have qt:¬(k:Int)<(k:Int):=(by omega);have qg:rs.take k=rs:=yU (by rw [HM.out];exact yX _);rw [qg];obtain⟨S,hS⟩:∃S,S=catS rs:=⟨_,rfl⟩;have qp:=Hx hS;have qy:=Hx qg;rw [<-hS];clear hS qg
   go_wp2_with fail
   refine(jzls S _ (by rw [qp.out];have:=HS.out;omega)).mono ?_;rintro e w1 ⟨v1,rfl,o1,x1⟩;have O1:=Hx o1;have X1:=Hx x1;clear o1 x1;go_wp2
   go_loopg [6,8,27] k (fun j ot _ it wx=>∃(i:Nat) (v:Value),k-i=j/\i<=k/\it=.int .i64 (i:Int)/\v=ot/\Hid (wx.ownsRow w.heap.size 3 1 v (catL (rs.take i)).length (ints (catL (rs.take i))))/\Hid (Ext w wx))
   case atStart=>exact⟨0,v1,rfl,yZ _,rfl,rfl,O1,X1⟩
   case round=>
    obtain⟨i,v,rfl,qD,rfl,rfl,OI,XI⟩:=hrel;by_cases qw:i<k
    ·obtain⟨r,hr⟩:∃r,rs[i]?=some r:=⟨_,yG (by rw [HM.out];exact qw)⟩
     have qf:=Hx (catL_step hr);have qi:(catL (rs.take i)).length+r.2.1.length<=1000000:=by
      have h1:=catS_le rs (i+1);have h2:=HS.out;have h3:=jzh4 hr;rw [catL_len];omega
     have iN:(i:Int)<(k:Int):=(by omega);have c0:wr.cell? ⟨b,i,none⟩=some (.slice r.1 r.2.1.length r.2.2):=by
      rw [XI.out.cell (p:=⟨b,i,none⟩) qz,HB.out.cell];simp [hr,rowV]
     have qh:=(HR.out r (yJ hr)).keep XI.out;obtain⟨A,x,c⟩:=r;simp only at qi c0 qh qf;have qk:=Hx qh;clear hr qh
     go_wp2_with (at_builtin;go_must (refine jzbg _ rfl (.tmp 31) (.tmp 32) 44 rfl w.heap.size 3 ti (.int .i64 0) 8 Tryz.underlying44 hi qA qx qm rfl v (catL (rs.take i)).length (ints (catL (rs.take i))) rfl ?c0 A x.length c (ints x) rfl ?c1 ?c2 ?c3 (jzj1 _) ?c4 ?c5 ?c6 ?_))
     case c0=>exact OI.out
     case c1=>exact(jzx _).symm
     case c2=>exact qk.out.rd
     case c3=>
      intro hA;by_cases hx:x.length=0
      ·exact .inr hx
      ·exfalso
       obtain⟨b9,o9,qB,qC,e9,_⟩:=qk.out (fun e=>hx (by have:=congrArg List.length e;simpa [ints]using this));rw [hA]at e9;cases e9
     case c4=>unfold maxLen;omega
     case c5=>omega
     case c6=>exact XI.out.size
     intro v2 w2 qe qa _;have X2:=Hx (show Ext w w2 from Below.grown XI.out qa XI.out.size (fun q hq=>(OI.out.lt q hq).1));have O2:=Hx (show w2.ownsRow w.heap.size 3 1 v2 (catL (rs.take (i+1))).length (ints (catL (rs.take (i+1))))from by
      rw [qf.out,jzlt,yQ];exact qe)
     clear qe qa;go_wp2
     go_roundg (k-(i+1))
     case measure=>omega
     case rel=>exact⟨i+1,v2,rfl,by omega,by go_num,rfl,O2,X2⟩
    ·obtain rfl:i=k:=by omega
     have qt:¬(i:Int)<(i:Int):=(by omega);have O3:=OI.out;rw [qy.out]at O3;have qn:=Hx O3;clear O3;go_wp2;go_ret;exact⟨v,rfl,qn.out,XI.out⟩
theorem cell_lt{w:World}{p:Addr}{v:Value}(h:w.cell? p=some v):p.block<w.heap.size:=by
 unfold World.cell? at h;rcases Nat.lt_or_ge p.block w.heap.size with hlt|hge
 ·exact hlt
 ·rw [Array.getElem?_eq_none hge]at h;simp at h
theorem Ext.cell_{w w':World}(hx:Ext w w'){p:Addr}{v:Value}(h:w.cell? p=some v):w'.cell? p=some v:=(hx.cell (cell_lt h)).trans h
def leK(t:Tp)(x y:Nat×List Nat):Prop:=¬ordK t y.2 x.2<0
structure KF(w w':World)(q g g':Nat):Prop where
 os:w'.os=w.os
 tape:w'.tape=w.tape
 output:w'.output=w.output
 size:w.heap.size<=w'.heap.size
 block:∀b,b<w.heap.size->b≠q->b≠g->w'.heap[b]?=w.heap[b]?
 row:g'=g\/w.heap.size<=g'
theorem KF.of_ext{w w':World}(q g:Nat)(h:Ext w w'):KF w w' q g g:=⟨h.os,h.tape,h.output,h.size,fun b hb _ _=>h.block b hb,.inl rfl⟩
theorem KF.of_row{w w':World}(q:Nat){g:Nat}(h:w.grownBy w' (some g)):KF w w' q g g:=⟨h.os,h.tape,h.output,h.size,fun b hb _ hg=>h.block b hb (fun e=>hg (by injection e)),.inl rfl⟩
theorem KF.of_box{w w':World}{q:Nat}(g:Nat)(h:w.grownBy w' (some q)):KF w w' q g g:=⟨h.os,h.tape,h.output,h.size,fun b hb hq _=>h.block b hb (fun e=>hq (by injection e)),.inl rfl⟩
theorem KF.tr{w w1 w2:World}{q g g1 g2:Nat}(h:KF w w1 q g g1)(k:KF w1 w2 q g1 g2):KF w w2 q g g2:=by
 refine⟨k.os.trans h.os,k.tape.trans h.tape,k.output.trans h.output,yY h.size k.size,fun b hb hq hg=>?_,?_⟩
 ·have h1:=h.size
  rw [k.block b (by omega) hq (fun e=>by
   rcases h.row with h2|h2
   ·exact hg (e.trans h2)
   ·omega)]
  exact h.block b hb hq hg
 ·have h1:=h.size
  rcases k.row with h2|h2
  ·rw [h2];exact h.row
  ·exact .inr (by omega)
theorem KF.ext{w0 w w':World}{q g g':Nat}(k:KF w w' q g g')(h:Ext w0 w)(hq:w0.heap.size<=q)(hg:w0.heap.size<=g):Ext w0 w':=by
 have h1:=h.size;exact⟨k.os.trans h.os,k.tape.trans h.tape,k.output.trans h.output,yY h.size k.size,fun b hb=>(k.block b (by omega) (by omega) (by omega)).trans (h.block b hb)⟩
theorem KF.blk{w w':World}{q g g' b:Nat}{t:TypeId}{cs:Array Value}(k:KF w w' q g g')(h:Blk w b t cs)(hq:b≠q)(hg:b≠g):Blk w' b t cs:=(k.block b h.lt hq hg).trans h
theorem KF.rdT{w w':World}{q g g':Nat}{A:Option Addr}{xs:List Value}{csq csg:Array Value}(k:KF w w' q g g')(hq:Blk w q 212 csq)(hg:Blk w g 210 csg)(h:RdT w 3 A xs):RdT w' 3 A xs:=fun hx=>by
 obtain⟨b,o,cs,fr,e,hb,hc⟩:=h hx;refine⟨b,o,cs,fr,e,(k.block b (jza8 hb) (fun e=>?_) (fun e=>?_)).trans hb,hc⟩
 ·subst e
  unfold Blk at hq;rw [hq]at hb;injection hb with hb
  injection hb with _ hb
  exact absurd hb (by decide)
 ·subst e
  unfold Blk at hg;rw [hg]at hb;injection hb with hb
  injection hb with _ hb
  exact absurd hb (by decide)
theorem KF.rdF{B:Nat}{w w':World}{q g g':Nat}{A:Option Addr}{xs:List Value}{csq csg:Array Value}(k:KF w w' q g g')(hq:Blk w q 212 csq)(hg:Blk w g 210 csg)(h:RdF B w A xs):RdF B w' A xs:=⟨k.rdT hq hg h.1,h.2⟩
theorem kOrder_ok(ca cb:Nat)(AX AY:Option Addr)(cx cy:Nat)(x y:List Nat)(w:World)(hx:Rd w AX (ints x))(hy:Rd w AY (ints y))(hxl:x.length<=1000000)(hyl:y.length<=1000000):
  Calls Tryz.prog 144 #[.int .i64 (ca:Nat),.int .i64 (cb:Nat),.slice AX x.length cx,.slice AY y.length cy] w fun e w'=>e=.returned (.int .i64 (or3 (cmpI ca cb) (cmpI x.length y.length) (lexI x y)))/\Ext w w':=by
 have HX:=Hx hx;have HY:=Hx hy;obtain⟨R,hR⟩:∃R,R=or3 (cmpI ca cb) (cmpI x.length y.length) (lexI x y):=⟨_,rfl⟩;have HR:=Hx hR;rw [<-hR];clear hx hy hR
 go_enter Tryz.func144,Tryz.ntmps144
 go_wp2_with fail
 refine(jzb9 ca cb _).mono ?_;rintro e w1 ⟨rfl,rfl⟩
 go_wp2_with fail
 refine(jzb9 x.length y.length _).mono ?_;rintro e w1 ⟨rfl,rfl⟩
 go_wp2_with fail
 refine(jzcy AX AY cx cy x y _ HX.out HY.out hxl hyl).mono ?_;rintro e w1 ⟨rfl,rfl⟩
 go_wp2_with fail
 refine(jzhd w.heap.size (cmpI ca cb) (cmpI x.length y.length) (lexI x y) _ (Blk.new _ _ _)).mono ?_;rintro e w7 ⟨rfl,rfl⟩;have qa:=Hx ((Ext.refl w).alloc (.cells #[.int .i64 (cmpI ca cb),.int .i64 (cmpI x.length y.length),.int .i64 (lexI x y)] 3));go_wp2;go_ret;exact⟨by rw [HR.out];rfl,qa.out⟩
theorem jzdt(t:Tp)(B g n c i j:Nat)(hs:List (Nat×List Nat))(x y:Nat×List Nat)(w:World)(h:KRow t w B g n c hs)(hx:hs[i]?=some x)(hy:hs[j]?=some y)(hxl:x.2.length<=1000000)(hyl:y.2.length<=1000000)(hn:n<=1000000):
  Calls Tryz.prog 253 #[.slice (some ⟨g,0,none⟩) n c,.int .i64 (i:Int),.int .i64 (j:Int)] w fun e w'=>e=.returned (.bool (decide (ordK t x.2 y.2<0)))/\Ext w w':=by
 obtain⟨AX,kx,⟨x0,x1,x2,x3⟩,_,qe,rx⟩:=h.at_ hx;obtain⟨AY,ky,⟨y0,y1,y2,y3⟩,_,qa,ry⟩:=h.at_ hy;have hi:i<n:=(by have:=(yH.1 hx).1;have:=h.len;omega);have hj:j<n:=(by have:=(yH.1 hy).1;have:=h.len;omega);have iN:(i:Int)<(n:Int):=(by omega);have jN:(j:Int)<(n:Int):=(by omega);have XD:=Hx (show Ext w w.drew from(Ext.refl w).drewN 1);have RR:=Hx (And.intro (rx.keep XD.out) (ry.keep XD.out));obtain⟨px,x⟩:=x;obtain⟨py,y⟩:=y;simp only at x1 x3 y1 y3 hxl hyl RR⊢;have HR:=Hx (show ordK t x y=or3 (cmpI (kcost t x) (kcost t y)) (cmpI x.length y.length) (lexI x y)from rfl);have CC:=Hx (And.intro x1 (And.intro x3 (And.intro y1 y3)));generalize kcost t x=ca at*;generalize kcost t y=cb at*;have i0:w.drew.cell? ⟨g,i*4+1,none⟩=some (.int .i64 (ca:Int)):=x1;have i1:w.drew.cell? ⟨g,i*4+3,none⟩=some (.slice AX x.length kx):=x3;have j0:w.drew.cell? ⟨g,j*4+1,none⟩=some (.int .i64 (cb:Int)):=y1;have j1:w.drew.cell? ⟨g,j*4+3,none⟩=some (.slice AY y.length ky):=y3;rw [HR.out];generalize hO:or3 (cmpI ca cb) (cmpI x.length y.length) (lexI x y)=O at*;have HO:=Hx hO;clear x0 x1 x2 x3 y0 y1 y2 y3 rx ry hx hy h hO
 go_enter Tryz.func253,Tryz.ntmps253
 go_wp2
 go_region_held3 (fun w'=>w'.cell? ⟨g,i*4+1,none⟩=some (.int .i64 (ca:Int))/\w'.cell? ⟨g,i*4+3,none⟩=some (.slice AX x.length kx)/\w'.cell? ⟨g,j*4+1,none⟩=some (.int .i64 (cb:Int))/\w'.cell? ⟨g,j*4+3,none⟩=some (.slice AY y.length ky))
  (first|with_reducible exact⟨i0,i1,j0,j1⟩|fail)
  (first
  |(go_at_call 144
    with_reducible refine(kOrder_ok ca cb AX AY kx ky x y _ RR.out.1.rd RR.out.2.rd hxl hyl).mono ?_
    rintro e w5 ⟨rfl,x5⟩;rw [HO.out];have E5:=Hx (XD.out.tr x5);have i0:=x5.cell_ i0;have i1:=x5.cell_ i1;have j0:=x5.cell_ j0;have j1:=x5.cell_ j1;clear x5)
  |fail)
 go_wp2;go_ret;exact⟨rfl,E5.out⟩
theorem jzh5(A:Option Addr)(n c:Nat)(w:World):Calls Tryz.prog 132 #[.slice A n c] w fun e w'=>e=.returned (.int .i64 (n:Int))/\w=w':=by
 go_enter Tryz.func132,Tryz.ntmps132
 go_wp2;go_ret;exact⟨rfl,rfl⟩
theorem own_short{w:World}{B g n c s m:Nat}{e:TypeId}{xs:List Value}(h:w.ownsRow B e s (.slice (some ⟨g,0,none⟩) n c) n xs)(hm:m<=n):w.ownsRow B e s (.slice (some ⟨g,0,none⟩) m c) m (xs.take (m*s)):=by
 have hl:=h.1;have qa:m*s<=n*s:=xS s hm;refine⟨by rw [xF];omega,?_⟩;rcases h.2 with⟨h3,h4⟩|⟨g',cap,cur,h3,h4,h5,h6,h7,h8,h9⟩
 ·cases h3
 ·injection h3 with e1 e2 e3
  injection e1 with e1
  injection e1 with e1
  subst e1 e3;exact .inr ⟨g,c,cur,rfl,h4,h5,by omega,h7,h8,by rw [<-h9,List.take_take,Nat.min_eq_left qa]⟩
theorem KRow.short{t:Tp}{w:World}{B g n c m:Nat}{hs:List (Nat×List Nat)}(h:KRow t w B g n c hs)(hm:m<=n):KRow t w B g m c (hs.take m):=by
 obtain⟨css,h1,h2,h3,h4⟩:=h.row;have hf:(css.take m).flatten=css.flatten.take (m*4):=by
  clear h3 h4 h
  induction css generalizing m n with
  |nil=>simp
  |cons a l ih=>
   cases m with
   |zero=>simp
   |succ m=>
    have ha:=h2 a (by simp);rw [List.take_succ_cons,List.flatten_cons,List.flatten_cons,List.take_append,yU (by omega:a.length<=(m+1)*4),ha,show(m+1)*4-4=m*4 by omega,ih (n:=l.length) (m:=m) (by simp at h1;omega) rfl (fun cs hc=>h2 cs (by simp [hc]))]
 refine⟨by rw [xF,h.len];omega,css.take m,by rw [xF];omega,fun cs hc=>h2 cs (xM hc),by rw [hf];exact own_short h3 hm,fun i z hz=>?_⟩;rw [xG]at hz
 split at hz
 ·rename_i him
  obtain⟨cs,k1,k2⟩:=h4 i z hz;exact⟨cs,by rw [xG,if_pos him];exact k1,k2⟩
 ·cases hz
theorem KRow.grown{t:Tp}{w w':World}{B g n c q:Nat}{hs:List (Nat×List Nat)}{t':TypeId}{cs':Array Value}(h:KRow t w B g n c hs)(hg:w.grownBy w' (some q))(hb:Blk w q t' cs')(h1:3≠t')(h2:210≠t'):KRow t w' B g n c hs:=by
 obtain⟨cg,qa⟩:=h.blk;obtain⟨css,q1,q2,q3,q4⟩:=h.row;refine⟨h.len,css,q1,q2,q3.kept hg (.inr (fun e=>?_)),fun i z hz=>?_⟩
 ·have e:g=q:=by
   have:(Value.slice (some ⟨g,0,none⟩) n c).ownBlock=some g:=rfl;rw [this]at e;injection e
  exact qa.ne_ hb h2 e
 ·obtain⟨cs,k1,k2⟩:=q4 i z hz
  exact⟨cs,k1,k2.other hg hb h1⟩
def kAgg(t:Tp)(z:Nat×List Nat)(A:Option Addr)(k:Nat):Value:=.agg #[.int .i64 (z.1:Int),.int .i64 (kcost t z.2:Nat),.int .i64 0,.slice A z.2.length k]
def KPopPost(t:Tp)(w:World)(B q g n c:Nat)(z:Nat×List Nat)(hs:List (Nat×List Nat))(e:Ending)(w':World):Prop:=
 ∃(A:Option Addr) (k:Nat),e=.returned (.iface 210 (kAgg t z A k))/\z.2.length<=k/\RdF B w' A (ints z.2)/\KQu t w' B q g n c hs/\KF w w' q g g
theorem kPop_ok(t:Tp)(B q g n c:Nat)(hs:List (Nat×List Nat))(z:Nat×List Nat)(w:World)(h:KQu t w B q g (n+1) c hs)(hz:hs[n]?=some z)(hn:n<=1000000)(hc:n+1<=c):
  Calls Tryz.prog 254 #[.pointer (some ⟨q,0,none⟩)] w (KPopPost t w B q g n c z (hs.take n)):=by
 obtain⟨A,k,⟨x0,x1,x2,x3⟩,_,hk,rx⟩:=h.row.at_ hz;obtain⟨c0,f0⟩:=h.box.one;obtain⟨z1,z2⟩:=z;simp only at x0 x1 x3 hk rx;have hg:=jze w q 0 (.slice (some ⟨g,0,none⟩) n c);have K1:=show KQu t (w.setCell ⟨q,0,none⟩ (.slice (some ⟨g,0,none⟩) n c)) B q g n c (hs.take n)from⟨by have:=h.box.set_ 0 (.slice (some ⟨g,0,none⟩) n c);simpa using this,(h.row.short (Nat.le_succ n)).grown hg h.box (by decide) (by decide)⟩;have XB:=(Ext.refl (w.setCell ⟨q,0,none⟩ (.slice (some ⟨g,0,none⟩) n c))).alloc (.cells #[.int .i64 (z1:Int),.int .i64 (kcost t z2:Nat),.int .i64 0,.slice A z2.length k] 210);have qa:=Hx (And.intro (K1.keep XB) (And.intro ((rx.other hg h.box (by decide)).keep XB) ((KF.of_box g hg).tr (KF.of_ext q g XB))));have qe:q<w.heap.size:=h.box.lt;unfold KPopPost kAgg;simp only;generalize kcost t z2=kc at*;have qf:((n+1:Nat):Int)-1=(n:Int):=(by omega);clear h hz rx hg K1 XB
 go_enter Tryz.func254,Tryz.ntmps254
 go_wp2;go_ret;exact⟨A,k,rfl,hk,qa.out.2.1,qa.out.1,qa.out.2.2⟩
end Go.Proofs.YthbmikapohlikaaGreatDoor
