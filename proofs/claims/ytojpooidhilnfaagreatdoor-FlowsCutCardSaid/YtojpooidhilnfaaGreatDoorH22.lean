/- Part 22 of 26 of what the Flows claims share (the white space is struck, the texts are joined). -/
import Derived.WalkMore
import Derived.Test.YtojpooidhilnfaaGreatDoorH19
import Derived.Test.YtojpooidhilnfaaGreatDoorH21
set_option linter.unusedVariables false
set_option linter.unusedSimpArgs false
set_option maxRecDepth 100000
set_option maxHeartbeats 8000000
namespace Go.Proofs.YtojpooidhilnfaaGreatDoor
open Go.Proofs.Tryz
open Go.RowKit
theorem FlR.base{w0 w1 w}{x mb:Nat}{t}{AO}{co:Nat}{AL}{cl:Nat}{l:List Dm}{AD}{cd:Nat}{L:aS}{T:Sx.Tb}{vP:Value}{P Q:List (Nat×LN)}(h:FlR w1 w x mb t AO co AL cl l AD cd L T vP P Q)(hx:Ext w0 w1)(ht:aX w0 t AO co AL cl)(hd:DmR w0 l AD cd):FlR w0 w x mb t AO co AL cl l AD cd L T vP P Q:=by
 obtain⟨css,h1,h2,h3,h4⟩:=h.pat;exact⟨hx.tr h.ext,ht,hd,h.box,yY hx.size h.xlo,h.tab.mono hx.size,h.m,⟨css,h1,h2,h3.mono hx.size,h4⟩,h.map,yY hx.size h.mlo⟩
structure fQ(w wx:World)(x mb:Nat)(t:Tp)(AO:OA)(co:Nat)(AL:OA)(cl:Nat)(l:List Dm)(AD:OA)(cd:Nat)(L:aS)(T:Sx.Tb)(vP:Value)(P:List (Nat×LN)):Prop where
 fl:FlR w wx x mb t AO co AL cl l AD cd L T vP P P
 lp:Sx.FLP (2*t.links.length) l.length (amQ l) (aR t) T P
 dif:P.Nodup
 loop:∀p∈P,p.1<l.length/\Lpl t (bE l p.1) (bC l p.1) p.2
section
variable {w wx wy:World} {x mb:Nat} {t:Tp} {AO:Option Addr} {co:Nat} {AL:Option Addr} {cl:Nat} {l:List Dm} {AD:Option Addr} {cd:Nat} {L:aS} {T:Sx.Tb} {vP:Value} {P:List (Nat×List Nat)}
theorem fQ.K(h:fQ w wx x mb t AO co AL cl l AD cd L T vP P)(hx:Ext wx wy):fQ w wy x mb t AO co AL cl l AD cd L T vP P:=⟨h.fl.K hx,h.lp,h.dif,h.loop⟩
theorem fQ.few(h:fQ w wx x mb t AO co AL cl l AD cd L T vP P)(hf:Fit t l)(hl:t.links.length<=10)(hN:t.nodes<=7):P.length<=(Sx.cands l.length 21 6).length:=
 Sx.paths_few h.dif fun p hp=>by
  obtain⟨h1,h2⟩:=h.loop p hp;obtain⟨h3,_⟩:=hf.nodes h1;have h4:=h2.len hf.v h3;refine⟨h1,fun a ha=>?_,by omega⟩;have:=gT _ h2.1 a ha;omega
theorem jzon(D:Nat)(hD:D<=4):(Sx.cands D 21 6).length<=3000000000:=by
 have h1:=Sx.cands_len D 21 6 (by decide);have h2:D*((6+1)*21^6)<=4*((6+1)*21^6):=xS _ hD;have h3:4*((6+1)*21^6)<=3000000000:=(by decide);omega
end
theorem jzp(d:Nat)(Dn:Int):∀(Zs:List ((Nat×LN)×Rat)) (r:Rat),(∀z∈Zs,Sx.isI (z.2*(Dn:Rat)))->Sx.isI (r*(Dn:Rat))->∀z∈Sx.cut d r Zs,Sx.isI (z.2*(Dn:Rat))
 | [],r,_,_,z,hz=>by cases hz
 |y::Zs,r,h,hr,z,hz=>by
  have h1:=h y (by simp);have h2:∀z∈Zs,Sx.isI (z.2*(Dn:Rat)):=fun z hz=>h z (xO _ hz);have hm:Sx.isI ((if r<y.2 then r else y.2)*(Dn:Rat)):=(by split <;> assumption);unfold Sx.cut at hz;by_cases hd:y.1.1=d
  ·rw[if_pos hd]at hz
   generalize (if r<y.2 then r else y.2)=m at hz hm;rcases xY.1 hz with hz|hz
   ·split at hz
    ·rw[xD.1 hz];exact hm
    ·cases hz
   ·refine jzp d Dn Zs _ h2 ?_ z hz
    obtain⟨a,ha⟩:=hr;obtain⟨b,hb⟩:=hm;exact⟨a-b,by rw[Rat.intCast_sub, <-ha, <-hb];grind⟩
  ·rw[if_neg hd]at hz
   exact jzp d Dn Zs r h2 hr z hz
theorem jzoo{t}{l:List Dm}{T:Sx.Tb}{P:List (Nat×LN)}(hf:Fit t l)(hl:t.links.length<=10)(hD:l.length<=4)(h:Sx.FLP (2*t.links.length) l.length (amQ l) (aR t) T P)(hz:∀z∈Sx.ptZ T P,0<=z.2):∀z∈Sx.planZ l.length (amQ l) T.goal.re (Sx.ptZ T P),SzQ z.2 41:=fun z hzm=>by
 obtain⟨_,_,_,_,Dn,d1,d2,d3,d4⟩:=oW hf hl hD h;have hm:∀z∈Sx.ptZ T P,Sx.Qn Dn ZB z.2:=fun z hz=>d4 z.2 (List.mem_of_mem_drop (Sx.zipF_mem P ((Sx.ptT T).drop 1) hz).2);unfold Sx.planZ at hzm;obtain⟨d,hd,qa⟩:=kZx.1 hzm;have hd:=vX.1 hd;obtain⟨e1,e2,f,e3,e4⟩:=Sx.cut_mem qa;have hI:=jzp d Dn (Sx.ptZ T P) (T.goal.re*amQ l d) (fun z hz=>(hm z hz).1) (by obtain⟨a,ha⟩:=d3.1;obtain⟨b,hb⟩:=(hf.am hd).2.1;exact⟨a*b,by rw[kZu, <-ha, <-hb];grind⟩) z qa;have hq:=hm _ e3;have h0:=hz _ e3;exact jze0 (v:=f) (am:=1) d1 d2 hq.2 h0 (show((1:Int):Rat)<=((1048576:Int):Rat)from kQt.2 (by decide)) (by grind) (by grind) (by rw[Rat.mul_one];exact e4) hI
def mD(w:World)(t:Tp)(l:List Dm)(e:Ending)(w':World):Prop:=
 (cY t l=false/\e=.returned (.tuple #[.agg #[.bool false,zN,zN,zN,zN],vI 1])/\Ext w w')\/
 (Fit t l/\(∃d,d<l.length/\∀y,¬Lpl t (bE l d) (bC l d) y)/\e=.returned (.tuple #[.agg #[.bool false,zN,zN,zN,zN],vI 11])/\Ext w w')\/
 (Fit t l/\∃(v:Rat) (Z:List ((Nat×LN)×Rat)) (pr:LQ) (neg:Bool) (A1:OA) (n1 c1:Nat) (A2:OA) (n2 c2:Nat) (AP:OA) (cp gp:Nat),
  bP t l v Z pr/\SzQ v 20/\(∀z∈Z,SzQ z.2 41)/\(∀q∈pr,SzQ q 20)/\Z.length<=24/\
  e=.returned (.tuple #[.agg #[.bool neg,.s A1 n1 c1,.s A2 n2 c2,.s AP Z.length cp,.s (sA gp) (2*t.links.length) (2*t.links.length)],vI 0])/\
  aE w' neg A1 n1 c1 A2 n2 c2 v/\Z.length<=cp/\PLr w' AP (Z.map pzI)/\QL w' (sA gp) pr/\Ext w w')
theorem jzfi t AO(co:Nat)AL(cl:Nat)(l:List Dm)AD(cd:Nat)w(ht:aX w t AO co AL cl)(hd:DmR w l AD cd)(hl:t.links.length<=10)(hD:l.length<=4)(hN:aI t=true->t.nodes<=7)(qT:Tab w):
  Calls prog 10 #[.agg #[vI t.nodes,.s AO t.over.length co,.s AL t.links.length cl],.s AD l.length cd] w (mD w t l):=by
 have HT:=Hx (kQa ht (kQa hd (kQa hN qT)));have vd:=hd.len;have vh:=ht.ll;obtain⟨qH,qR,e0⟩:=dH w #[vI t.nodes,.s AO t.over.length co,.s AL t.links.length cl] 25 #[.bool false,zN,zN,zN,zN] 39;obtain⟨⟨i0,i1,i2⟩,_⟩:=qH.t3;have E0:=Hx (kQa qH (kQa qR e0));clear ht hd hN qT qH qR e0;go_enter func10,ntmps10;(go_upto_region 1 with fail);go_step3
 have vc:((w.alloc (.cells #[vI t.nodes,.s AO t.over.length co,.s AL t.links.length cl] 25)).alloc (.cells #[.bool false,zN,zN,zN,zN] 39)).heap.size=w.heap.size+2:=(by simp);generalize (w.alloc (.cells #[vI t.nodes,.s AO t.over.length co,.s AL t.links.length cl] 25)).alloc (.cells #[.bool false,zN,zN,zN,zN] 39)=W0 at*;have H0:Hid (aX W0 t AO co AL cl/\DmR W0 l AD cd/\Tab W0):=Hx (⟨HT.o.1.K E0.o.2.2,HT.o.2.1.K E0.o.2.2,HT.o.2.2.2.K E0.o.2.2⟩);have qk:=Hx (show∀wx,Ext W0 wx->((wx.cell? (aD (w.heap.size+1) 0)=some (.bool false)/\wx.cell? (aD (w.heap.size+1) 1)=some zN/\wx.cell? (aD (w.heap.size+1) 2)=some zN/\wx.cell? (aD (w.heap.size+1) 3)=some zN/\wx.cell? (aD (w.heap.size+1) 4)=some zN)/\
   (wx.frozen? (aD (w.heap.size+1) 0)=false/\wx.frozen? (aD (w.heap.size+1) 1)=false/\wx.frozen? (aD (w.heap.size+1) 2)=false/\wx.frozen? (aD (w.heap.size+1) 3)=false/\wx.frozen? (aD (w.heap.size+1) 4)=false))from fun wx hx=>
  ⟨⟨(E0.o.2.1.K hx).cell 0,(E0.o.2.1.K hx).cell 1,(E0.o.2.1.K hx).cell 2,(E0.o.2.1.K hx).cell 3,(E0.o.2.1.K hx).cell 4⟩,(E0.o.2.1.K hx).frozen 0,(E0.o.2.1.K hx).frozen 1,(E0.o.2.1.K hx).frozen 2,(E0.o.2.1.K hx).frozen 3,(E0.o.2.1.K hx).frozen 4⟩)
 have qp:=Hx (show∀wx,Ext W0 wx->(Blk (((((wx.setCell (aD (w.heap.size+1) 0) (.bool false)).setCell (aD (w.heap.size+1) 1) zN).setCell (aD (w.heap.size+1) 2) zN).setCell (aD (w.heap.size+1) 3) zN).setCell (aD (w.heap.size+1) 4) zN) (w.heap.size+1) 39 #[.bool false,zN,zN,zN,zN]/\
   Ext w (((((wx.setCell (aD (w.heap.size+1) 0) (.bool false)).setCell (aD (w.heap.size+1) 1) zN).setCell (aD (w.heap.size+1) 2) zN).setCell (aD (w.heap.size+1) 3) zN).setCell (aD (w.heap.size+1) 4) zN))from fun wx hx=>by
  have hB:=E0.o.2.1.K hx;have s0:=hB.sT 0 (.bool false);have s1:=s0.sT 1 zN;have s2:=s1.sT 2 zN;have s3:=s2.sT 3 zN;have s4:=s3.sT 4 zN;refine⟨s4,(eG (S:=fun b=>b=w.heap.size+1) (oY wx (w.heap.size+1) _ _ _ _ _) fun g e=>by injection e with e;exact e.symm).ext (E0.o.2.2.tr hx) fun b hb=>by rw[hb];omega⟩)
 (go_wp2_with fail);refine(jzdl t AO co AL cl l AD cd _ H0.o.1 H0.o.2.1).mono ?_;rintro e w1 ⟨rfl,q0⟩;have X1:=Hx q0;clear q0;cases hv:cY t l;{have qw:=Hx (qp.o _ X1.o);have HV:=Hx hv;obtain⟨⟨v0,v1,v2,v3,v4⟩,r0,r1,r2,r3,r4⟩:=qk.o _ X1.o;clear qp qk hv i0 i1 i2;go_wp2;have qe:=qw.o.1;exact bodyPost_ret (v:=.tuple #[.agg #[.bool false,zN,zN,zN,zN],vI 1]) (by simp[results,results10,go_sem,qe.cell]) rfl (.inl ⟨HV.o,rfl,qw.o.2⟩)};have qa:=Hx ((lZ (by omega)).1 hv);have qW:t.nodes<=7:=HT.o.2.2.1 qa.o.v;clear hv i0 i1 i2;obtain⟨⟨i0,i1,i2⟩,_⟩:=(E0.o.1.K X1.o).t3;(go_wp2_with fail);refine(jzm0 t AO co AL cl l AD cd _ (H0.o.1.K X1.o) (H0.o.2.1.K X1.o) qa.o hl hD).mono ?_;rintro e w2 ⟨x,mb,L0,T0,rfl,F0,P0⟩;have S0:Hid (fQ W0 w2 x mb t AO co AL cl l AD cd L0 T0 zN []):=Hx (⟨F0.base X1.o H0.o.1 H0.o.2.1,P0,List.nodup_nil,fun p hp=>by cases hp⟩);clear F0 P0 i0 i1 i2;go_wp2
 go_loopg [7,8,9,10,21] l.length (fun q _ _ _ _ it wx=>∃(n:Nat) (L:aS) (T:Sx.Tb) (vP:Value) (P:List (Nat×LN)),l.length-n=q/\n<=l.length/\it=vI (n:Int)/\
  Hid (fQ W0 wx x mb t AO co AL cl l AD cd L T vP P/\P.length<=n/\(∀p∈P,p.1<n)/\(∀d,d<n->∃y,Lpl t (bE l d) (bC l d) y)/\(0<n->P≠ [])))
 (case atStart=>exact⟨0,L0,T0,_,[],rfl,yZ _,rfl,Hx ⟨S0.o,yX _,(fun p hp=>by cases hp),(fun d hd=>by omega),fun h=>by omega⟩⟩);obtain⟨n,L,T,vP,P,rfl,hn,rfl,I⟩:=hrel;clear S0;by_cases qy:n<l.length
 ·obtain⟨d,hd⟩:∃d,l[n]?=some d:=⟨_,yG qy⟩;obtain⟨b,o,rfl,hb,a0,a1,a2,a3⟩:=H0.o.2.1.at_ hd;have a0:=aB I.o.1.fl.ext a0;have a1:=aB I.o.1.fl.ext a1;have a2:=aB I.o.1.fl.ext a2;have a3:=aB I.o.1.fl.ext a3;have hb:b<wr.heap.size:=yL hb I.o.1.fl.ext.size;have HN:Hid (bE l n<t.nodes.toNat/\bC l n<t.nodes.toNat/\d.src=(bE l n:Int)/\d.dst=(bC l n:Int)):=Hx (by obtain⟨h1,h2,h3,h4,h5⟩:=qa.o.nodes qy;have e:l[n]=d:=(yH.1 hd).2;rw[e]at h4 h5;exact⟨h1,h2,h4,h5⟩);have nN:(n:Int)<(l.length:Int):=(by omega);have n0:(0:Int)<=(n:Int):=(by omega);have X8:Hid (Ext wr (wr.alloc (.cells #[vI d.src,vI d.dst,vI d.amount,vI d.prio] 27))):=Hx ((eR wr).alloc _);have B8:=Hx (eN wr 27 #[vI d.src,vI d.dst,vI d.amount,vI d.prio]);clear hd;(go_upto_region 7 with fail);clear a0 a1 a2 a3;generalize wr.alloc (.cells #[vI d.src,vI d.dst,vI d.amount,vI d.prio] 27)=W8 at*;have X0:Hid (Ext W0 W8):=Hx (I.o.1.fl.ext.tr X8.o);generalize hbd:wr.heap.size=bd at*;generalize hR:chP t [] (bL t) d.src d.dst=R;have HR:=Hx hR;clear hR;have y0:=B8.o.cell 0;have y1:=B8.o.cell 1;obtain⟨⟨z0,z1,z2⟩,_⟩:=(E0.o.1.K X0.o).t3;have SH:=Hx (jzoh t AO co AL cl none 0 [] d.src d.dst _ (H0.o.1.K X0.o) (by omega) (Rd.nil _ _) (by decide) (by decide));rw[HR.o]at SH;(go_wp2_with fail);refine SH.o.mono ?_;rintro e w5 qf;clear SH;have qC:=Hx (iR (d:=bC l n) qa.o.v (jzce t) HN.o.1 HN.o.2.1);rw[<-HN.o.2.2.1, <-HN.o.2.2.2,HR.o]at qC;rcases qf with⟨hr2,g,A,k,rfl,hg,hk,hrd,hx5⟩|⟨hr2,rfl,hx5⟩
  ·obtain⟨qz,q6⟩:Lpl t (bE l n) (bC l n) R.1/\R.1.length<=64:=(by (rcases qC.o with⟨y,h1,h2,_⟩|⟨h1,_⟩);{rw[h1];have:=h2.len qa.o.v HN.o.1;refine⟨h2,?_⟩;simp only;omega};rw[h1]at hr2;exact absurd hr2 (by decide));have qh:=Hx qz;have E5:Hid (Ext W0 w5):=Hx (X0.o.tr hx5);have I5:=Hx (I.o.1.K (X8.o.tr hx5));have qQ:=Hx (jzew I5.o.fl qa.o hl hD I5.o.lp (by have:=I.o.2.1;omega) n qy A R.1.length k R.1 rfl hrd.1 (fun hx ad had hs=>by have h1:=hrd.2 ad had;have h2:=(I.o.1.fl.tab.ty hs).2.1;have h3:=X8.o.size;omega) hk (fun a ha=>gT _ qh.o.1 a ha) q6 (H0.o.2.2.K E5.o));clear y0 y1 z0 z1 z2 qz hrd hk hx5;(go_wp2_with fail);(refine qQ.o.mono ?_;rintro e wA qf;clear qQ;rcases qf with⟨hin,_,_⟩|⟨hnin,rfl,L2,vP2,F2,k2,far2⟩);{exact absurd (I.o.2.2.1 _ hin) (kZr n)}
   have q5:L.m=2*t.links.length+l.length:=I.o.1.fl.m;have GG:=Hx (show fQ W0 wA x mb t AO co AL cl l (some (aD b o)) cd L2 (Sx.addT T 0 (aP L.m (pTs (2*t.links.length) (n,R.1)))) vP2 (P++[(n,R.1)])/\(P++[(n,R.1)]).length<=n+1/\(∀p∈P++[(n,R.1)],p.1<n+1)/\(∀d,d<n+1->∃y,Lpl t (bE l d) (bC l d) y)/\(0<n+1->P++[(n,R.1)]≠ [])from
    ⟨⟨F2,by
      rw[q5];exact I5.o.lp.add (kJ _ _) fun i hi=>jzea _ _ (n,R.1) (fun a ha=>gT _ qh.o.1 a ha) i hi,by
      rw[List.nodup_append];exact⟨I5.o.dif,by simp,fun p hp q hq e=>hnin (by rw[xD.1 hq]at e;rw[<-e];exact hp)⟩,fun p hp=>by
      rcases xY.1 hp with hp|hp
      ·
       exact I5.o.loop p hp
      ·
       rw[xD.1 hp]
       exact⟨qy,qh.o⟩⟩,by
      rw[yQ,kZd];have:=I.o.2.1;omega,fun p hp=>by
      rcases xY.1 hp with hp|hp
      ·
       have:=I.o.2.2.1 p hp
       omega
      ·
       rw[xD.1 hp]
       exact Nat.lt_succ_self n,fun d' hd'=>by
      by_cases e:d'=n
      ·
       subst e
       exact⟨_,qh.o⟩
      exact I.o.2.2.2.1 d' (by omega),fun _ e=>by simp at e⟩)
   clear F2 k2 far2 hnin I I5 qC;go_wp2;go_roundg (l.length-(n+1));(case measure=>omega);exact⟨n+1,L2,_,vP2,_,rfl,by omega,by go_num,GG⟩
  have qZ:R.2=11/\∀y,¬Lpl t (bE l n) (bC l n) y:=(by (rcases qC.o with⟨y,h1,h2,_⟩|⟨h1,h2⟩);{rw[h1]at hr2;exact absurd rfl hr2};rw[h1];exact⟨rfl,h2⟩);have q1:=Hx qZ.2;rw[qZ.1];have E5:Hid (Ext W0 w5):=Hx (X0.o.tr hx5);have qw:=Hx (qp.o _ E5.o);obtain⟨⟨v0,v1,v2,v3,v4⟩,r0,r1,r2,r3,r4⟩:=qk.o _ E5.o;clear qp qk y0 y1 z0 z1 z2 hx5 I;go_wp2;have qe:=qw.o.1;exact bodyPost_ret (v:=.tuple #[.agg #[.bool false,zN,zN,zN,zN],vI 11]) (by simp[results,results10,go_sem,qe.cell]) rfl (.inr (.inl ⟨qa.o,⟨n,qy,q1.o⟩,rfl,qw.o.2⟩))
 obtain rfl:n=l.length:=(by omega);have qD:=Hx I.o.2.2.2.1;have S1:Hid (fQ W0 wr x mb t AO co AL cl l AD cd L T vP P/\P≠ []):=Hx (⟨I.o.1,I.o.2.2.2.2 qa.o.n⟩);clear I;go_wp2;go_step3;go_wp2;go_loopg [] ((Sx.cands l.length 21 6).length-P.length) (fun q wx=>∃(L:aS) (T:Sx.Tb) (vP:Value) (P:List (Nat×LN)),(Sx.cands l.length 21 6).length-P.length=q/\Hid (fQ W0 wx x mb t AO co AL cl l AD cd L T vP P/\P≠ []));(case atStart=>exact⟨L,T,vP,P,rfl,S1⟩);clear S1;obtain⟨L,T,vP,P,rfl,I⟩:=hrel;have va:=I.o.1.few qa.o hl qW;have vg:=jzon l.length hD;have qm:=I.o.1.lp.shape;obtain⟨N,he,hs⟩:=I.o.1.lp.max qa.o.n (fun d hd=>(qa.o.am hd).1) fun p hp=>(by (obtain⟨h1,h2⟩:=I.o.1.loop p hp;have h3:=h2.ne (qa.o.nodes h1).2.2.1;cases hx:p.2 with|nil=>exact absurd hx h3|cons a rs=>exact⟨a,by simp,gT _ h2.1 a (by rw[hx];simp)⟩));have q2:L.m=2*t.links.length+l.length:=I.o.1.fl.m;have ve:=qa.o.n;have MX:=Hx (jzom W0.heap.size 20 N L T wr I.o.1.fl.tab he hs (fun n _=>by have h9:=oW qa.o hl hD (I.o.1.lp.iter n);exact⟨h9.1,h9.2.1⟩) (by decide) (by omega) (by omega) (by omega) (by omega));have HE:=Hx he;have q4:wr.cell? (aD x 4)=some (.pointer (sA L.p)):=I.o.1.fl.box.cell 4;clear qm he hs;(go_wp2_with fail);refine MX.o.mono ?_;rintro e w3 ⟨rfl,qY,k3⟩;have S3:Hid (fQ W0 w3 x mb t AO co AL cl l AD cd L (Sx.iterT N T) vP P):=Hx (⟨I.o.1.fl.tabbed qY k3 rfl rfl fun b h=>.inl h,I.o.1.lp.iter N,I.o.1.dif,I.o.1.loop⟩);have q3:=Hx I.o.2;have qA:∃T3,T3=Sx.iterT N T:=⟨_,rfl⟩;obtain⟨T3,qA⟩:=qA;rw[<-qA]at S3 HE;clear MX q4 I qY k3 qA;have qm:=S3.o.lp.shape;have q4:w3.cell? (aD x 4)=some (.pointer (sA L.p)):=S3.o.fl.box.cell 4;have PR:=jzd0 W0.heap.size L T3 w3 S3.o.fl.tab qm.2.1 (by omega) (by omega) (by omega) (by omega) qm.2.2.2.2.1 (fun j hj=>by have:=qm.2.2.2.2.2.1 j hj;omega);rw[q2]at PR;have qK:=Hx PR;clear PR qm;go_wp2_with fail
 refine qK.o.mono ?_;rintro e w4 ⟨gl,rfl,qN,q7,x4⟩;have S4:=Hx (S3.o.K x4);have qi:=Hx (S3.o.lp.best HE.o qa.o.n (fun d hd=>(qa.o.am hd).1) S3.o.dif fun p hp=>(S3.o.loop p hp).1);have qS:T3.rows.length=2*t.links.length+l.length:=S3.o.lp.cols.2;have qt:(Sx.prT T3).length=2*t.links.length+l.length:=(by unfold Sx.prT;rw[Sx.prTo_len,qS]);have qB:=Hx (oW qa.o hl hD S3.o.lp);have qL:=Hx (jzm4 S4.o.fl qa.o hl hD S4.o.lp S4.o.dif S4.o.loop (by omega) gl (Sx.prT T3) qN qt qB.o.2.2.1 (fun q hq=>by
  obtain⟨i,hi,e⟩:=List.mem_iff_getElem.1 hq;have h9:=qi.o.pos i (by omega);unfold Sx.at_ at h9;rw[yG hi]at h9;rw[<-e];exact h9) (fun hb=>by
  have:=(S3.o.fl.lo.1 gl hb).2;omega) H0.o.2.2)
 clear qK q4 qN x4;(go_wp2_with fail);refine qL.o.mono ?_;rintro e w5 ⟨more,L5,T5,qF,P5,rfl,G5⟩;clear qL;cases more
 ·obtain⟨rfl,rfl,qx⟩:=G5.non rfl;have qn:=Hx qx;have S5:Hid (fQ W0 w5 x mb t AO co AL cl l AD cd L5 T5 qF P5):=Hx (⟨G5.fl,G5.lp,G5.dif,G5.loop⟩);have qP:=Hx (jznh S5.o.fl qa.o hl hD S5.o.lp qi.o.vnn qi.o.fnn (by omega) (fun p hp=>(S5.o.loop p hp).1) q3.o)
  have qU:=Hx (show bP t l T5.goal.re (Sx.planZ l.length (amQ l) T5.goal.re (Sx.ptZ T5 P5)) ((Sx.prT T5).take (2*t.links.length))from
   jzlj qa.o qi.o qS (fun p hp=>(S5.o.loop p hp).2) (xW.2 fun p hp=>by
    obtain⟨z,hz,rfl⟩:=kQl.1 hp;exact yO (Sx.zipF_mem P5 _ hz).1) (fun d hd=>by
    have qE:((Sx.prT T5).take (2*t.links.length)).length=2*t.links.length:=(by rw[xF,qt];omega);have qg:eM t ((Sx.prT T5).take (2*t.links.length))=true:=iT qE fun q hq=>by
     obtain⟨i,hi,e⟩:=List.mem_iff_getElem.1 (xM hq);have h9:=qi.o.pos i (by omega);unfold Sx.at_ at h9;rw[yG hi]at h9;rw[<-e];exact h9
    obtain⟨n1,n2,_⟩:=qa.o.nodes hd;have hn:=qn.o d hd;unfold chQ;rcases iR qa.o.v qg n1 n2 with⟨y,h1,h2,_⟩|⟨_,h2⟩
    ·
     rw[h1]at hn⊢
     by_cases qO:prQ ((Sx.prT T5).take (2*t.links.length)) y<Sx.at_ (Sx.prT T5) (2*t.links.length+d)
     ·
      have h4:=qi.o.path _ (hn rfl qO)
      have h5:=h2.prQ_sm ((Sx.prT T5).take (2*t.links.length));have h6:(Sx.sm (2*t.links.length) fun a=>if a∈y then Sx.at_ (Sx.prT T5) a else 0)=Sx.sm (2*t.links.length) fun a=>if a∈y then Sx.at_ ((Sx.prT T5).take (2*t.links.length)) a else 0:=Sx.sm_congr _ fun a ha=>by
       unfold Sx.at_;rw[xG,if_pos ha]
      show _<=prQ _ y;rw[h5, <-h6];exact h4
     show _<=prQ _ y;exact kQ4.1 qO
    obtain⟨y,hy⟩:=qD.o d hd;exact absurd hy (h2 y)) qD.o)
  clear qx G5;go_wp2_with fail
  refine qP.o.mono ?_;rintro e w6 ⟨neg,A1,n1,c1,A2,n2,c2,AP,cp,gp,rfl,qJ,qI,⟨B9,qj⟩,⟨qs,qG,qX⟩,qV⟩;have E6:Hid (Ext W0 w6):=Hx (S5.o.fl.ext.tr qV);have k5:FrS (fun b=>b=w.heap.size+1) w6 (((((w6.setCell (aD (w.heap.size+1) 0) (.bool neg)).setCell (aD (w.heap.size+1) 1) (.s A1 n1 c1)).setCell (aD (w.heap.size+1) 2) (.s A2 n2 c2)).setCell (aD (w.heap.size+1) 3) (.s AP (Sx.planZ l.length (amQ l) T5.goal.re (Sx.ptZ T5 P5)).length cp)).setCell (aD (w.heap.size+1) 4) (.s (sA gp) (2*t.links.length) (2*t.links.length))):=
   eG (oY w6 (w.heap.size+1) _ _ _ _ _) fun g e=>by injection e with e;exact e.symm
  have RB:=E0.o.2.1.K E6.o;have hn:=fun tt (ht:39≠tt)=>NoT.one RB ht;have HB:=Hx (((((RB.sT 0 (.bool neg)).sT 1 (.s A1 n1 c1)).sT 2 (.s A2 n2 c2)).sT 3 (.s AP (Sx.planZ l.length (amQ l) T5.goal.re (Sx.ptZ T5 P5)).length cp)).sT 4 (.s (sA gp) (2*t.links.length) (2*t.links.length)));have q9:Hid (mD w t l (.returned (.tuple #[.agg #[.bool neg,.s A1 n1 c1,.s A2 n2 c2,.s AP (Sx.planZ l.length (amQ l) T5.goal.re (Sx.ptZ T5 P5)).length cp,.s (sA gp) (2*t.links.length) (2*t.links.length)],vI 0])) (((((w6.setCell (aD (w.heap.size+1) 0) (.bool neg)).setCell (aD (w.heap.size+1) 1) (.s A1 n1 c1)).setCell (aD (w.heap.size+1) 2) (.s A2 n2 c2)).setCell (aD (w.heap.size+1) 3) (.s AP (Sx.planZ l.length (amQ l) T5.goal.re (Sx.ptZ T5 P5)).length cp)).setCell (aD (w.heap.size+1) 4) (.s (sA gp) (2*t.links.length) (2*t.links.length)))):=Hx (by refine .inr (.inr ⟨qa.o,_,_,_,neg,A1,n1,c1,A2,n2,c2,AP,cp,gp,qU.o,qB.o.2.1.gr,jzoo qa.o hl hD S5.o.lp qi.o.fnn,fun q hq=>qB.o.2.2.1 q (xM hq),?_,rfl,k5.ratR (hn _ (by decide)) qJ,qI,?_,?_,k5.ext (E0.o.2.2.tr E6.o) fun b hb=>by rw[hb];omega⟩);{have:=S5.o.lp.few S5.o.dif;omega};{refine OwL.plr (qj.fr k5 (fun g hg e=>?_) fun cs y _ hy=>hy.fr k5 (hn _ (by decide)) (hn _ (by decide)));obtain⟨xs,ho⟩:=qj.own;obtain⟨cs,qe⟩:=aT ho hg;rw[e]at qe;exact absurd (bG qe RB).2 (by decide)};have q8:=qG.fr k5 (hn _ (by decide)) fun e=>(by obtain⟨cs,qe⟩:=qG.blk;rw[e]at qe;exact absurd (bG qe RB).2 (by decide));rw[<-qX];exact q8.ql.take _);obtain⟨⟨v0,v1,v2,v3,v4⟩,r0,r1,r2,r3,r4⟩:=qk.o _ E6.o;clear qp qk qJ qI qj qG qX qV k5 RB hn qP qU S5 S4 S3 qi qB qn qD;generalize Sx.planZ l.length (amQ l) T5.goal.re (Sx.ptZ T5 P5)=ZZ at*;go_wp2;have qe:=HB.o;exact bodyPost_ret (v:=.tuple #[.agg #[.bool neg,.s A1 n1 c1,.s A2 n2 c2,.s AP ZZ.length cp,.s (sA gp) (2*t.links.length) (2*t.links.length)],vI 0]) (by simp[results,results10,go_sem,qe.cell]) rfl q9.o
 have qo:=G5.mor rfl;have S5:Hid (fQ W0 w5 x mb t AO co AL cl l AD cd L5 T5 qF P5/\P5≠ []):=Hx (⟨⟨G5.fl,G5.lp,G5.dif,G5.loop⟩,fun e=>by rw[e]at qo;exact absurd qo (Nat.not_lt_zero _)⟩);have qM:=S5.o.1.few qa.o hl qW;clear G5;go_wp2;go_roundg ((Sx.cands l.length 21 6).length-P5.length);(case measure=>omega);exact⟨L5,T5,qF,P5,rfl,S5⟩
def dV(t:Tp)(ps:List bA)(n:Nat):LN:=(List.range n).filter fun a=>decide (aR t a<=Sx.at_ (bM t ps).1 a)
def kD(t:Tp)(ps:List bA):LN:=if(bM t ps).2=0 then dV t ps (bM t ps).1.length else []
theorem jzop t(ps:List bA)(n:Nat):(dV t ps n).length<=n:=by
 unfold dV;have:=List.length_filter_le (fun a=>decide (aR t a<=Sx.at_ (bM t ps).1 a)) (List.range n);rw[kZm]at this;exact this
theorem jzoq t(ps:List bA)(n:Nat):dV t ps (n+1)=if aR t n<=Sx.at_ (bM t ps).1 n then dV t ps n++[n]else dV t ps n:=by
 unfold dV;rw[kZc,List.filter_append];by_cases h:aR t n<=Sx.at_ (bM t ps).1 n;{rw[if_pos h];simp[h]};rw[if_neg h];simp[h]
theorem jzfj{t}{Ps:List bA}{P:Nat}(hsz:∀p∈Ps,SzQ p.flow P):∀q∈(bM t Ps).1,SzQ q (1+cK Ps*(P+1)):=fun q hq=>by
 unfold bM at hq;split at hq;{(cases hl:ldP (2*t.links.length) (List.replicate (2*t.links.length) 0) Ps with|none=>rw[hl]at hq;cases hq|some ld=>rw[hl]at hq;exact jzj (P:=P) Ps (k:=1) (ld:=List.replicate (2*t.links.length) 0) hsz (fun q hq=>by rw[uF hq];exact SzQ.zero) SzQ.zero hl q hq)};{cases hq}
theorem jzfk{t}{Ps:List bA}(h:(bM t Ps).2=0):aI t=true/\(bM t Ps).1.length=2*t.links.length/\ldP (2*t.links.length) (List.replicate (2*t.links.length) 0) Ps=some (bM t Ps).1:=by
 unfold bM at h⊢;split at h;{rename_i hv;(rw[if_pos hv];cases hl:ldP (2*t.links.length) (List.replicate (2*t.links.length) 0) Ps with|none=>rw[hl]at h;exact absurd h (by decide)|some ld=>exact⟨hv,by rw[jzh _ hl,xC],rfl⟩)};exact absurd h (by decide)
theorem jzq(x y:Rat):0<=aW x y↔y<=x:=by
 have h:=jzd x y;constructor;{intro h1;exact kQ4.1 fun h2=>by have:=h.2 h2;omega};intro h1;have h2:¬aW x y<0:=fun h3=>kQ4.2 h1 (h.1 h3);omega
theorem pF{t}(hv:aI t=true){a:Nat}(ha:a<2*t.links.length):SzQ (aR t a) 1:=by
 obtain⟨h,_,_,_,h5,h6,h7⟩:=iS hv ha;rw[h5];exact SzQ.int (by unfold B32;omega)
theorem jzor t AO(co:Nat)AL(cl:Nat)(Ps:List bA)PA(np cp P:Nat)(hnp:Ps.length=np)w(ht:aX w t AO co AL cl)(hp:PLr w PA Ps)(hnl:np<=1000000)(hsz:∀p∈Ps,SzQ p.flow P)(hP1:1<=P)(hal:∀p∈Ps,p.arcs.length<=1000000)(hK:1+cK Ps*(P+1)<=50000000)(hPb:P<=100000000):
  Calls prog 21 #[.agg #[vI t.nodes,.s AO t.over.length co,.s AL t.links.length cl],.s PA np cp] w fun e w'=>∃(A:OA) (c:Nat),e=.returned (.s A (kD t Ps).length c)/\(kD t Ps).length<=c/\RdT w' 3 A (ints (kD t Ps))/\Ext w w':=by
 have HT:=Hx ht;have SZ:=Hx (jzfj (t:=t) hsz);have qF:=ht.ll;obtain⟨qm,e0⟩:=aV w #[vI t.nodes,.s AO t.over.length co,.s AL t.links.length cl] 25;obtain⟨⟨i0,i1,i2⟩,_⟩:=qm.t3;have E0:=Hx (kQa qm e0);have LD:=Hx (fun wx (hx:Ext w wx)=>jzez t AO co AL cl Ps PA np cp P hnp wx (ht.K hx) (hp.K hx fun cs x h=>h.K hx) hnl hsz hP1 hal hK hPb);clear ht hp hsz hal qm e0;go_enter func21,ntmps21;(go_wp2_with fail);refine(LD.o _ E0.o.2).mono ?_;rintro e w1 ⟨A,rfl,qw,qn⟩;have E1:=Hx (kQa (E0.o.1.K qn) (E0.o.2.tr qn));clear qn i0 i1 i2 E0 LD;by_cases he:(bM t Ps).2=0
 ·obtain⟨hv,qg,_⟩:=jzfk he;have qy:t.links.length<=256:=(by have:=hv;unfold aI cG at this;simp at this;exact this.1.1.2);have HR:=Hx (show kD t Ps=dV t Ps (2*t.links.length) by unfold kD;rw[if_pos he,qg]);generalize hld:(bM t Ps).1=ld at*;generalize (bM t Ps).2=e9 at*;subst he;have I0:Hid (QL w1 A ld/\Ext w1 w1/\w1.ownsRow w1.heap.size 3 1 zN 0 []):=Hx (⟨qw,eR _,World.ownsRow_nil _ _ _ _⟩);clear qw;go_wp2;go_loopg [7,8,9,20] ld.length (fun q vF _ _ it wx=>∃(n:Nat) (vG:Value),ld.length-n=q/\n<=ld.length/\it=vI (n:Int)/\vG=vF/\Hid (Ext w1 wx/\wx.ownsRow w1.heap.size 3 1 vF (dV t Ps n).length (ints (dV t Ps n))));(case atStart=>exact⟨0,_,rfl,yZ _,rfl,rfl,Hx ⟨I0.o.2.1,I0.o.2.2⟩⟩);obtain⟨n,vF,rfl,hn,rfl,rfl,I⟩:=hrel;by_cases qf:n<ld.length
  ·obtain⟨b,o,neg,A1,n1,c1,A2,n2,c2,rfl,hb,a0,a1,a2,qp⟩:=I0.o.1.at_ (aY qf);have a0:=aB I.o.1 a0;have a1:=aB I.o.1 a1;have a2:=aB I.o.1 a2;have hb:b<wr.heap.size:=yL hb I.o.1.size;have RA:=Hx (qp.K I.o.1);have qA:=(SZ.o _ (yJ (aY qf))).mono hK;have nN:(n:Int)<(ld.length:Int):=(by omega);have n0:(0:Int)<=(n:Int):=(by omega);have X8:Hid (Ext wr (wr.alloc (.cells #[.bool neg,.s A1 n1 c1,.s A2 n2 c2] 35))):=Hx ((eR wr).alloc _);have B8:=Hx (eN wr 35 #[.bool neg,.s A1 n1 c1,.s A2 n2 c2]);clear qp;go_upto_region 8 with fail
   clear a0 a1 a2;generalize wr.alloc (.cells #[.bool neg,.s A1 n1 c1,.s A2 n2 c2] 35)=W8 at*;generalize hbd:wr.heap.size=bd at*;have XW:Hid (Ext w1 W8):=Hx (I.o.1.tr X8.o);have qt:=Hx ((eE (S:=fun _=>False) X8.o).own I.o.2 (fun _ _ h=>h));obtain⟨l1,qG⟩:=RA.o.lens qA;have qa:=Hx (show∀wx,Ext W8 wx->(wx.cell? (aD bd 0)=some (.bool neg)/\wx.cell? (aD bd 1)=some (.s A1 n1 c1)/\wx.cell? (aD bd 2)=some (.s A2 n2 c2))/\(wx.cell? (aD w.heap.size 0)=some (vI t.nodes)/\wx.cell? (aD w.heap.size 1)=some (.s AO t.over.length co)/\wx.cell? (aD w.heap.size 2)=some (.s AL t.links.length cl))from fun wx hx=>
    ⟨⟨(B8.o.K hx).cell 0,(B8.o.K hx).cell 1,(B8.o.K hx).cell 2⟩,(E1.o.1.K (XW.o.tr hx)).cell 0,(E1.o.1.K (XW.o.tr hx)).cell 1,(E1.o.1.K (XW.o.tr hx)).cell 2⟩)
   (have XD:Hid (Ext W8 W8.drew):=Hx ((eR W8).drewN 1);have HSW:=Hx (qa.o _ XD.o);have NX:=Hx (jzoq t Ps n);rw[hld]at NX;refine wX qa 4 ?_;refine wV 0 rfl HSW.o ?_;try simp only[Act.put,yA,yB,yC,yD,yE,yF]);refine wU [4,3] 1 rfl HSW.o ?_;(refine wP 2 rfl HSW.o ?_;try simp only[Act.put,yA,yB,yC,yD,yE,yF]);(refine wC 3 rfl (fun KK hK=>?_);go_simp;refine(sH t AO co AL cl n _ (HT.o.K (E1.o.2.tr (XW.o.tr XD.o))) hv (by omega)).mono ?_;rintro e w5 ⟨n5,A5,l5,c5,qz,qD,qC,rfl,h5,x5⟩;have E5:=Hx (XD.o.tr x5);have HSW:=Hx (qa.o _ E5.o);have R5:=Hx h5;obtain⟨l2,qJ⟩:=h5.lens (pF hv (show n<2*t.links.length by omega));refine hK.o _ _ HSW.o ?_;clear hK KK x5 h5;try simp only[Act.put,yA,yB,yC,yD,yE,yF]);(refine bY (by kernel_rfl) rfl (by rfl) (fun KK hK=>?_);go_simp;refine(iB neg n5 A1 n1 c1 A2 n2 c2 A5 l5 c5 qz qD qC (Sx.at_ ld n) (aR t n) _ (RA.o.K (X8.o.tr E5.o)) R5.o (by omega) (by omega) (by omega) (by omega)).mono ?_;rintro e w6 ⟨rfl,x6⟩;have E6:=Hx (E5.o.tr x6);have qi:=Hx ((eE (S:=fun _=>False) E6.o).own qt.o (fun _ _ h=>h));have X6:=Hx (XW.o.tr E6.o);refine hK.o _ _ ?_;clear hK KK x6 HSW qa XD E5 R5 E6 qt XW I;try simp only[Act.put,yA,yB,yC,yD,yE,yF]);refine mA (i:=5) (by kernel_rfl) rfl (by rfl) (fun KK hK=>?_);go_simp;refine hK.o _ _ ?_;clear hK KK;refine wpAny_done (by kernel_rfl) ?_ _;by_cases qj:aR t n<=Sx.at_ ld n;{have h9:=(jzq _ _).2 qj;rw[if_pos qj]at NX;have d9:decide (0<=aW (Sx.at_ ld n) (aR t n))=true:=yO h9;have qH:=jzop t Ps n;have BC:=Hx (eN w6 3 #[vI (n:Int)]);have XC:=Hx ((eR w6).alloc (.cells #[vI (n:Int)] 3));have VB:=Hx ((eE (S:=fun _=>False) XC.o).own qi.o (fun _ _ h=>h));have qx:=Hx XC.o.size;clear qi;(go_wp2_with (at_builtin;refine kY _ 44 3 _ 1 8 rfl _ _ rfl underlying44 Tryz.infoInt rfl (by decide) w1.heap.size vF (dV t Ps n).length (ints (dV t Ps n)) rfl VB.o [vI (n:Int)] rfl (by simp[Value.oneCell']) w6.heap.size rfl BC.o (by unfold maxLen;omega) (by omega) (by have:=X6.o.size;have:=qx.o;omega) ?_));intro g9 c9 w9 qh qe qo;have k9:=eG (S:=fun b=>vF.ownBlock=some b) qe fun g e=>e;have J:Hid (Ext w1 w9/\w9.ownsRow w1.heap.size 3 1 (.s (sA g9) ((dV t Ps n).length+1) c9) (dV t Ps (n+1)).length (ints (dV t Ps (n+1)))):=Hx (⟨k9.ext (X6.o.tr XC.o) fun b hb=>(VB.o.lt b hb).1,by rw[NX.o,yQ,kZd,iC];exact qh⟩);clear k9 qh qe qo VB XC BC X6 qx;go_wp2;go_roundg (ld.length-(n+1));(case measure=>omega);exact⟨n+1,_,rfl,by omega,by go_num,rfl,J⟩};have h9:¬0<=aW (Sx.at_ ld n) (aR t n):=fun h=>qj ((jzq _ _).1 h);rw[if_neg qj]at NX;have d9:decide (0<=aW (Sx.at_ ld n) (aR t n))=false:=yP h9;have J:Hid (Ext w1 w6/\w6.ownsRow w1.heap.size 3 1 vF (dV t Ps (n+1)).length (ints (dV t Ps (n+1)))):=Hx (⟨X6.o,by rw[NX.o];exact qi.o⟩);clear qi X6;go_wp2;go_roundg (ld.length-(n+1));(case measure=>omega);exact⟨n+1,vF,rfl,by omega,by go_num,rfl,J⟩
  obtain rfl:n=ld.length:=(by omega);obtain⟨A',c',rfl,qB,qk⟩:=fF I.o.2 rfl;go_wp2;go_ret;rw[HR.o, <-qg];exact⟨A',c',rfl,qB,qk,E1.o.2.tr I.o.1⟩
 have HR:=Hx (show kD t Ps=[] by unfold kD;rw[if_neg he]);generalize (bM t Ps).2=e9 at*;have qE:(e9==0)=false:=yK.2 he;have qI:decide (e9=0)=false:=yP he;go_wp2;go_ret;rw[HR.o];exact⟨none,0,rfl,yX _,fun h=>absurd rfl h,E1.o.2⟩
theorem jzos(l:List Bool)(k:Nat)(b:Bool):(bD l).toArray.setIfInBounds k (.bool b)=(bD (l.set k b)).toArray:=by
 rw[yD];unfold bD;rw[List.map_set]
theorem jzfl(l:List Bool)(k:Nat)(b:Bool)(h:l[k]?=some b):(bD l).toArray[k]?=some (.bool b):=by
 unfold bD;simp[h]
def llC(t:Tp)(V:List Bool)(u:Nat)(first:Bool)(a:Int):Prop:=(0<=a/\a<((2*t.links.length:Nat):Int))/\aU t a.toNat=(u:Int)/\(first=true\/bH t (u:Int)=false)/\V[(aH t a.toNat).toNat]?.getD false=false
instance(t:Tp)(V:List Bool)(u:Nat)(first:Bool)(a:Int):Decidable (llC t V u first a):=by unfold llC;infer_instance
def llB(t:Tp):List Bool->Nat->Bool->List Int->Option Nat
 |_,u,_,[]=>some u
 |V,u,first,a::x=>if llC t V u first a then llB t (V.set (aH t a.toNat).toNat true) (aH t a.toNat).toNat false x else none
def fD(t:Tp)(x:List Int)(s d:Int):Bool:=decide (0<=s/\s<t.nodes)&&match llB t ((List.replicate t.nodes.toNat false).set s.toNat true) s.toNat true x with
 |none=>false
 |some u=>decide ((u:Int)=d)
section
variable {t:Tp}
theorem sK{u a:Nat}:a∈aM t u↔a<2*t.links.length/\aU t a=(u:Int):=by
 unfold aM cA;rw[List.mem_filter,vX,beq_iff_eq]
theorem jzot{V:List Bool}{k:Nat}(hk:k<V.length):V[k]?.getD false=false↔V[k]?=some false:=by
 rw[yG hk];simp
theorem jzfm(hv:aI t=true):∀(x:List Int) (V:List Bool) (u:Nat) (first:Bool) (e:Nat),V.length=t.nodes.toNat->(llB t V u first x=some e↔∃y:LN,x=y.map (fun a:Nat=>(a:Int))/\PO t u first y e/\(∀m∈y.map (fun a=>(aH t a).toNat),V[m]?=some false)/\(y.map fun a=>(aH t a).toNat).Nodup)
 | [],V,u,first,e,hV=>by
   constructor
   ·intro h
    injection h with h
    exact⟨[],rfl,h,(fun m hm=>by cases hm),List.nodup_nil⟩
   ·rintro ⟨y,h1,h2,_⟩
    cases y with
    |nil=>exact congrArg some h2
    |cons b y=>cases h1
 |a::x,V,u,first,e,hV=>by
  show(if llC t V u first a then llB t (V.set (aH t a.toNat).toNat true) (aH t a.toNat).toNat false x else none)=some e↔_;by_cases hc:llC t V u first a
  ·rw[if_pos hc]
   obtain⟨h1,h2,h3,h4⟩:=hc;have hl:a.toNat∈aM t u:=sK.2 ⟨by omega,h2⟩;obtain⟨_,_,hh,_⟩:=eD hv hl;have h5:=(jzot (by omega)).1 h4;rw[jzfm hv x (V.set (aH t a.toNat).toNat true) _ false e (by rw[yV];exact hV)];constructor
   ·rintro ⟨y,k1,k2,k3,k4⟩
    have k5:∀m∈y.map (fun a=>(aH t a).toNat),m≠(aH t a.toNat).toNat/\V[m]?=some false:=fun m hm=>by
     have:=k3 m hm;rw[kZs]at this;by_cases e:(aH t a.toNat).toNat=m
     ·rw[if_pos e]at this
      split at this <;> simp at this
     ·rw[if_neg e]at this
      exact⟨fun h=>e h.symm,this⟩
    refine⟨a.toNat::y,by rw[kZa, <-k1];congr 1;omega,⟨hl,h3,k2⟩,fun m hm=>?_,?_⟩
    ·rw[kZa]at hm
     rcases xZ.1 hm with e|e
     ·rw[e];exact h5
     ·exact(k5 m e).2
    ·rw[kZa,kZo]
     exact⟨fun h=>(k5 _ h).1 rfl,k4⟩
   ·rintro ⟨y,k1,k2,k3,k4⟩
    cases y with
    |nil=>cases k1
    |cons b y=>
     rw[kZa]at k1 k3 k4;injection k1 with k5 k6
     subst k5;rw[xL]at*;rw[kZo]at k4;refine⟨y,k6,k2.2.2,fun m hm=>?_,k4.2⟩;rw[kZs,if_neg (fun e=>k4.1 (by rw[e];exact hm))];exact k3 m (xO _ hm)
  ·rw[if_neg hc]
   constructor
   ·intro h;cases h
   ·rintro ⟨y,k1,k2,k3,k4⟩
    cases y with
    |nil=>cases k1
    |cons b y=>
     rw[kZa]at k1 k3;injection k1 with k5 k6
     subst k5;obtain⟨h1,h2⟩:=sK.1 k2.1;refine absurd ⟨⟨by omega,by omega⟩,?_,k2.2.1,?_⟩ hc
     ·rw[xL];exact h2
     ·rw[xL,k3 _ (List.mem_cons_self ..)];rfl
theorem jzou(hv:aI t=true)(x:List Int){s d:Nat}(hs:s<t.nodes.toNat):fD t x (s:Int) (d:Int)=true↔∃y:LN,x=y.map (fun a:Nat=>(a:Int))/\Lpl t s d y:=by
 have h0:decide (0<=(s:Int)/\(s:Int)<t.nodes)=true:=yO ⟨by omega,by omega⟩;unfold fD;rw[h0,kZg,xL];have qa:(match llB t ((List.replicate t.nodes.toNat false).set s true) s true x with
   |none=>false
   |some u=>decide ((u:Int)=(d:Int)))=true↔llB t ((List.replicate t.nodes.toNat false).set s true) s true x=some d:=by
  cases llB t ((List.replicate t.nodes.toNat false).set s true) s true x with
  |none=>simp
  |some u=>simp;omega
 rw[qa,jzfm hv x _ s true d (by simp)];have hV:∀m,((List.replicate t.nodes.toNat false).set s true)[m]?=some false↔m<t.nodes.toNat/\m≠s:=fun m=>(by rw[kZs];by_cases e:s=m;{rw[if_pos e];constructor;{intro h;split at h <;> simp at h};intro h;exact absurd e.symm h.2};rw[if_neg e,xB];constructor;{intro h;split at h;{rename_i h1;exact⟨h1,fun h=>e h.symm⟩};cases h};intro h;rw[if_pos h.1]);constructor;{rintro ⟨y,k1,k2,k3,k4⟩;refine⟨y,k1,k2,?_⟩;rw[lX,kZo];exact⟨fun h=>((hV s).1 (k3 s h)).2 rfl,k4⟩};(rintro ⟨y,k1,k2,k3⟩;rw[lX,kZo]at k3;refine⟨y,k1,k2,fun m hm=>(hV m).2 ⟨?_,fun e=>k3.1 (by rw[<-e];exact hm)⟩,k3.2⟩;have:∀(y:LN) (u:Nat) (first:Bool),PO t u first y d->∀m∈y.map (fun a=>(aH t a).toNat),m<t.nodes.toNat:=fun y=>(by (induction y with|nil=>intro _ _ _ m hm;cases hm|cons b y ih=>(intro u first h m hm);(rw[kZa]at hm;rcases xZ.1 hm with e|e);{rw[e];exact(eD hv h.1).2.2.1};exact ih _ _ h.2.2 m e)));exact this y s true k2 m hm
theorem jzov{x:List Int}{n:Nat}{a:Int}(ha:x[n]?=some a)(V:List Bool)(u:Nat)(first:Bool):llB t V u first (x.drop n)=if llC t V u first a then llB t (V.set (aH t a.toNat).toNat true) (aH t a.toNat).toNat false (x.drop (n+1))else none:=by
 obtain⟨hn,e⟩:=yH.1 ha;rw[kQ6 hn,e];rfl
end
theorem jzow t AO(co:Nat)AL(cl:Nat)PX(cx:Nat)(x:List Int)(s d:Int)w(ht:aX w t AO co AL cl)(hv:aI t=true)(hx:Rd w PX (gA x))(hxl:x.length<=1000000)(hxc:x.length<=cx):
  Calls prog 130 #[.agg #[vI t.nodes,.s AO t.over.length co,.s AL t.links.length cl],.s PX x.length cx,vI s,vI d] w fun e w'=>e=.returned (.bool (fD t x s d))/\Ext w w':=by
 have hN:∃N:Nat,t.nodes=(N:Int)/\N<=64/\t.links.length<=256/\(t.over=[]\/t.over.length=N):=(by have h:=hv;unfold aI cG inB at h;simp at h;exact⟨t.nodes.toNat,by omega,by omega,by omega,h.1.2.elim (fun h1=>.inl h1) fun h1=>.inr (by omega)⟩);obtain⟨N,qt,qR,qD,qI⟩:=hN;have HT:=Hx ht;have HX:=Hx hx;have HV:=Hx hv;have qS:=ht.ll;have qW:=ht.cl;have qe:(Value.agg #[vI t.nodes,.s AO t.over.length co,.s AL t.links.length cl])=.agg #[vI (N:Int),.s AO t.over.length co,.s AL t.links.length cl]:=(by rw[qt]);have ND:=Hx (fun wx=>jzap t AO co AL cl s wx);rw[qe]at ND;rw[qt]at ND;have AR:=Hx (fun(a:Int) wx (hx:Ext w wx)=>jzey t AO co AL cl a wx (HT.o.K hx));have TL:=Hx (fun(a:Nat) (ha:a/2<t.links.length) wx (hx:Ext w wx)=>tE t AO co AL cl a wx (HT.o.K hx) ha);have HD:=Hx (fun(a:Nat) (ha:a/2<t.links.length) wx (hx:Ext w wx)=>mI t AO co AL cl a wx (HT.o.K hx) ha);have OV:=Hx (fun(n:Int) (h0:0<=n) (hn:t.over=[]\/n<t.over.length) wx (hx:Ext w wx)=>tG t AO co AL cl n wx (HT.o.K hx) h0 hn);rw[qe]at AR TL HD OV⊢;have qp:=Hx qt;obtain⟨qy,e0⟩:=aV w #[vI (N:Int),.s AO t.over.length co,.s AL t.links.length cl] 25;obtain⟨⟨i0,i1,i2⟩,_⟩:=qy.t3;have E0:=Hx (kQa qy e0);clear ht hv hx qy e0 qt qe;go_enter func130,ntmps130;(go_wp2_with fail);refine(ND.o _).mono ?_;rintro e w1 ⟨rfl,qz⟩;have E1:=Hx (kQa (E0.o.1.K qz) (E0.o.2.tr qz));clear qz i0 i1 i2 E0;obtain⟨⟨i0,i1,i2⟩,_⟩:=E1.o.1.t3;by_cases hs:0<=s/\s<(N:Int)
 ·rw[yO hs]
  obtain⟨S,rfl⟩:=kQj hs.1;have qB:S<N:=(by omega);have sN:(S:Int)<(N:Int):=(by omega);have s0:(0:Int)<=(S:Int):=(by omega);have HR:=Hx (show fD t x (S:Int) d=match llB t ((List.replicate N false).set S true) S true x with
   |none=>false
   |some u=>decide ((u:Int)=d) by
   unfold fD;rw[qp.o,yO hs,kZg,xL,xL])
  have qL:=run_make_row' (P:=prog) 22 4 (.bool false) 1 underlying22 Tryz.info4 rfl .i64 .i64 N (by omega) (by omega);have qM:(madeCells #[.bool false] N)[S]?=some (.bool false):=(by rw[<-kQw,toList_madeCells_one];simp[qB]);have qm:=Hx (show(madeCells #[.bool false] N).setIfInBounds S (.bool true)=(bD ((List.replicate N false).set S true)).toArray by apply Array.ext';rw[Array.toList_setIfInBounds,toList_madeCells_one];simp[bD,List.map_set]);(go_upto_region 6 with fail);have B3:Hid (Blk (w1.alloc (.cells ((madeCells #[.bool false] N).setIfInBounds S (.bool true)) 4)) w1.heap.size 4 (bD ((List.replicate N false).set S true)).toArray):=Hx (by rw[qm.o];exact eN w1 _ _);have X3:Hid (Blk (w1.alloc (.cells ((madeCells #[.bool false] N).setIfInBounds S (.bool true)) 4)) w.heap.size 25 #[vI (N:Int),.s AO t.over.length co,.s AL t.links.length cl]/\Ext w (w1.alloc (.cells ((madeCells #[.bool false] N).setIfInBounds S (.bool true)) 4))):=Hx (⟨E1.o.1.K ((eR w1).alloc _),E1.o.2.alloc _⟩);have hg:w.heap.size<w1.heap.size:=E1.o.1.lt;clear qL qM i0 i1 i2 E1 qm;generalize w1.alloc (.cells ((madeCells #[.bool false] N).setIfInBounds S (.bool true)) 4)=W3 at*;generalize w1.heap.size=g at*;have qN:((List.replicate N false).set S true).length=N:=(by simp);generalize (List.replicate N false).set S true=V0 at*;have I0:Hid (Blk W3 g 4 (bD V0).toArray/\FrS (fun b=>b=g) W3 W3/\llB t V0 S true x=llB t V0 S true x):=Hx (⟨B3.o,FrS.refl _ _,rfl⟩);have qT:g<W3.heap.size:=B3.o.lt;clear B3;go_wp2;go_loopg [10,11,12,26] x.length (fun q s10 _ _ it wx=>∃(n u:Nat) (V:List Bool),x.length-n=q/\n<=x.length/\s10=vI (u:Int)/\it=vI (n:Int)/\u<N/\V.length=N/\Hid (Blk wx g 4 (bD V).toArray/\FrS (fun b=>b=g) W3 wx/\llB t V0 S true x=llB t V u (decide (n=0)) (x.drop n)));(case atStart=>exact⟨0,S,V0,rfl,yZ _,rfl,rfl,qB,qN,Hx ⟨I0.o.1,I0.o.2.1,rfl⟩⟩);obtain⟨n,u,V,rfl,hn,rfl,rfl,qQ,qP,J⟩:=hrel;clear I0;have XR:Hid (Ext w wr):=Hx (J.o.2.1.ext X3.o.2 fun b hb=>by omega);have qi:Hid (∀wx,Ext wr wx->Blk wx w.heap.size 25 #[vI (N:Int),.s AO t.over.length co,.s AL t.links.length cl]):=Hx (fun wx hx=>(J.o.2.1.blk X3.o.1 (by omega)).K hx);have qV:g<wr.heap.size:=J.o.1.lt;by_cases qK:n<x.length
  ·obtain⟨a,ha⟩:∃a,x[n]?=some a:=⟨_,yG qK⟩;obtain⟨b9,o9,rfl,qU,ca⟩:=(HX.o.K XR.o).iint ha;have NX:=Hx (jzov (t:=t) ha V u (decide (n=0)));have nN:(n:Int)<(x.length:Int):=(by omega);have n0:(0:Int)<=(n:Int):=(by omega);clear ha;(go_upto_region 9 with fail);clear ca;go_cut [58] (fun s wx=>s=.bool (!decide (llC t V u (decide (n=0)) a))/\Ext wr wx);(case first=>obtain⟨⟨i0,i1,i2⟩,_⟩:=(qi.o _ (eR wr)).t3;(go_wp2_with fail);refine(AR.o a _ XR.o).mono ?_;rintro e w4 ⟨rfl,x4⟩;have X4:=Hx x4;obtain⟨⟨i0,i1,i2⟩,_⟩:=(qi.o _ x4).t3;clear x4;by_cases qj:0<=a/\a<((2*t.links.length:Nat):Int);{rw[yO qj];(obtain⟨a',rfl⟩:=kQj qj.1;have qg:a'<2*t.links.length:=by omega);(go_wp2_with fail);refine(TL.o a' (by omega) _ (XR.o.tr X4.o)).mono ?_;rintro e w5 ⟨rfl,x5⟩;have X5:=Hx (X4.o.tr x5);obtain⟨⟨i0,i1,i2⟩,_⟩:=(qi.o _ X5.o).t3;clear x5 X4;by_cases qh:aU t a'=(u:Int);{rw[qh];obtain⟨qn,qk,qw,_⟩:=eD HV.o (sK.2 ⟨qg,qh⟩);obtain⟨h,qf⟩:=kQj qn;have HH:=Hx qf;have qF:h<N:=(by rw[qf,qp.o]at qk;omega);have qJ:(h:Int)<(N:Int):=(by omega);have qn:(0:Int)<=(h:Int):=(by omega);obtain⟨vb,qa⟩:∃vb,V[h]?=some vb:=⟨_,yG (by omega)⟩;have qo:=Hx qa;have VH:Hid (wr.cell? (aD g h)=some (.bool vb)):=Hx ((J.o.1.cell h).trans (jzfl V h _ qa));clear qa;clear qf qk qw;by_cases qE:n=0;{subst qE;have qx:decide (0=0)=true\/bH t (u:Int)=false:=.inl rfl;have XX:=X5;(go_wp2_with fail);refine(HD.o a' (by omega) _ (XR.o.tr XX.o)).mono ?_;rintro e w7 ⟨rfl,x7⟩;have X7:=Hx (XX.o.tr x7);have vh:=aB X7.o VH.o;rw[HH.o];clear x7;go_wp2;go_meet;refine⟨?_,X7.o⟩;cases vb;{show _=Value.bool (!decide (llC t V u (decide (0=0)) (a':Int)));rw[yO (show llC t V u (decide (0=0)) (a':Int)from⟨qj,qh,qx,by rw[xL,HH.o,xL,qo.o];rfl⟩)];rfl};show _=Value.bool (!decide (llC t V u (decide (0=0)) (a':Int)));rw[yP (fun hc:llC t V u (decide (0=0)) (a':Int)=>by have h4:=hc.2.2.2;rw[xL,HH.o,xL,qo.o]at h4;cases h4)];rfl};have qO:(0:Int)<(n:Int):=(by omega);have qG:decide ((0:Int)<(n:Int))=true:=yO qO;(go_wp2_with fail);refine(OV.o (u:Int) (by omega) (qI.elim (fun h1=>.inl h1) fun h1=>.inr (by omega)) _ (XR.o.tr X5.o)).mono ?_;rintro e w6 ⟨rfl,x6⟩;have XX:=Hx (X5.o.tr x6);obtain⟨⟨i0,i1,i2⟩,_⟩:=(qi.o _ XX.o).t3;clear x6 X5;cases hov2:bH t (u:Int);{have qx:decide (n=0)=true\/bH t (u:Int)=false:=.inr hov2;(go_wp2_with fail);refine(HD.o a' (by omega) _ (XR.o.tr XX.o)).mono ?_;rintro e w7 ⟨rfl,x7⟩;have X7:=Hx (XX.o.tr x7);have vh:=aB X7.o VH.o;rw[HH.o];clear x7;go_wp2;go_meet;refine⟨?_,X7.o⟩;cases vb;{rw[yO (show llC t V u (decide (n=0)) (a':Int)from⟨qj,qh,qx,by rw[xL,HH.o,xL,qo.o];rfl⟩)];rfl};rw[yP (fun hc:llC t V u (decide (n=0)) (a':Int)=>by have h4:=hc.2.2.2;rw[xL,HH.o,xL,qo.o]at h4;cases h4)];rfl};have FA:=Hx (yP (fun hc:llC t V u (decide (n=0)) (a':Int)=>by (rcases hc.2.2.1 with h9|h9);{exact qE (of_decide_eq_true h9)};rw[hov2]at h9;cases h9));go_wp2;go_meet;rw[FA.o];exact⟨rfl,XX.o⟩};have qH:decide (aU t a'=(u:Int))=false:=yP qh;have FA:=Hx (yP (fun hc:llC t V u (decide (n=0)) (a':Int)=>qh (by have h9:=hc.2.1;rw[xL]at h9;exact h9)));go_wp2;go_meet;rw[FA.o];exact⟨rfl,X5.o⟩};have FA:=Hx (yP (fun hc:llC t V u (decide (n=0)) a=>qj hc.1));rw[yP qj];go_wp2;go_meet;rw[FA.o];exact⟨rfl,X4.o⟩);obtain⟨rfl,qC⟩:=hcut;have X9:=Hx qC;clear qC;obtain⟨⟨i0,i1,i2⟩,_⟩:=(qi.o _ X9.o).t3;by_cases hc:llC t V u (decide (n=0)) a
   ·rw[yO hc];rw[if_pos hc]at NX;obtain⟨a',rfl⟩:=kQj hc.1.1;have qg:a'<2*t.links.length:=(by have:=hc.1.2;omega);obtain⟨qn,qk,qw,_⟩:=eD HV.o (sK.2 ⟨qg,by have h9:=hc.2.1;rw[xL]at h9;exact h9⟩);rw[xL]at NX;clear hc;obtain⟨h,qf⟩:=kQj qn;have HH:=Hx qf;have qF:h<N:=(by rw[qf,qp.o]at qk;omega);have qJ:(h:Int)<(N:Int):=(by omega);have qn:(0:Int)<=(h:Int):=(by omega);rw[qf,xL]at NX;clear qf qk qw;go_wp2_with fail
    refine(HD.o a' (by omega) _ (XR.o.tr X9.o)).mono ?_;rintro e w7 ⟨rfl,x7⟩;have X7:=Hx (X9.o.tr x7);obtain⟨vb,qa⟩:∃vb,V[h]?=some vb:=⟨_,yG (by omega)⟩;have vh:=aB X7.o (show wr.cell? (aD g h)=some (.bool vb)from(J.o.1.cell h).trans (jzfl V h _ qa));have B7:=J.o.1.K X7.o;have vf:=B7.frozen h;have B9:=B7.sT h (.bool true);rw[jzos]at B9;have J9:=Hx (show Blk (w7.setCell (aD g h) (.bool true)) g 4 (bD (V.set h true)).toArray/\FrS (fun b=>b=g) W3 (w7.setCell (aD g h) (.bool true))/\llB t V0 S true x=llB t (V.set h true) h (decide (n+1=0)) (x.drop (n+1))from
     ⟨B9,(J.o.2.1.tr (eE (S:=fun b=>b=g) X7.o) fun b hb=>.inl hb).tr (eG (S:=fun b=>b=g) (aO w7 g h _) fun g e=>by injection e with e;exact e.symm) fun b hb=>.inl hb,by rw[J.o.2.2,NX.o];rfl⟩)
    rw[HH.o];clear x7 B7 B9 qa J qi NX;go_wp2;go_roundg (x.length-(n+1));(case measure=>omega);exact⟨n+1,h,V.set h true,rfl,by omega,rfl,by go_num,qF,by rw[yV];exact qP,J9⟩
   rw[yP hc];rw[if_neg hc]at NX;have qA:=Hx (show fD t x (S:Int) d=false by rw[HR.o,J.o.2.2,NX.o]);clear hc;go_wp2;go_ret;rw[qA.o];exact⟨rfl,XR.o.tr X9.o⟩
  obtain rfl:n=x.length:=(by omega);have hl:=J.o.2.2;rw[List.drop_length]at hl;have qA:=Hx (show fD t x (S:Int) d=decide ((u:Int)=d) by rw[HR.o,hl];rfl);go_wp2;go_ret;rw[qA.o];exact⟨rfl,XR.o⟩
 rw[yP hs];have HR:=Hx (show fD t x s d=false by unfold fD;rw[qp.o,yP hs];rfl);go_wp2;go_ret;rw[HR.o];exact⟨rfl,E1.o.2⟩
open Sx
def dW(p:bA):List UInt8:=nameL p.dem p.arcs
def kL(l:List Dm)(d:Nat):Int:=match l[d]? with
 |some x=>x.src
 |none=>0
def kM(l:List Dm)(d:Nat):Int:=match l[d]? with
 |some x=>x.dst
 |none=>0
def rtA(l:List Dm)(ks:List (List UInt8))(p:bA):Prop:=(0<=p.dem/\p.dem<(l.length:Int))/\dW p∉ks/\0<p.flow
instance(l:List Dm)(ks:List (List UInt8))(p:bA):Decidable (rtA l ks p):=by unfold rtA;infer_instance
def rtC(t:Tp)(l:List Dm)(ks:List (List UInt8))(p:bA):Prop:=rtA l ks p/\fD t p.arcs (kL l p.dem.toNat) (kM l p.dem.toNat)=true
instance(t:Tp)(l:List Dm)(ks:List (List UInt8))(p:bA):Decidable (rtC t l ks p):=by unfold rtC;infer_instance
def rtB(t:Tp)(l:List Dm):List (List UInt8)->LQ->List bA->Option (LQ)
 |_,sm,[]=>some sm
 |ks,sm,p::ps=>if rtC t l ks p then rtB t l (dW p::ks) (sm.set p.dem.toNat (at_ sm p.dem.toNat+p.flow)) ps else none
def gB(l:List Dm)(v:Rat)(sm:LQ)(n:Nat):Bool:=(List.range n).all fun d=>decide (at_ sm d=v*amQ l d)
def fR(t:Tp)(ld:LQ)(n:Nat):Bool:=(List.range n).all fun a=>decide (at_ ld a<=aR t a)
def cS(t:Tp)(l:List Dm)(v:Rat)(Z:List bA):Bool:=cY t l&&match rtB t l [] (List.replicate l.length 0) Z with
 |none=>false
 |some sm=>gB l v sm l.length&&fR t (bM t Z).1 (bM t Z).1.length
theorem jzox{t}{l:List Dm}{Z:List bA}{n:Nat}{p:bA}(hp:Z[n]?=some p)(ks:List (List UInt8))(sm:LQ):rtB t l ks sm (Z.drop n)=if rtC t l ks p then rtB t l (dW p::ks) (sm.set p.dem.toNat (at_ sm p.dem.toNat+p.flow)) (Z.drop (n+1))else none:=by
 obtain⟨hn,e⟩:=yH.1 hp;rw[kQ6 hn,e];rfl
theorem jzoy(l:List Dm)(v:Rat)(sm:LQ)(n:Nat):gB l v sm (n+1)=(gB l v sm n&&decide (at_ sm n=v*amQ l n)):=by
 unfold gB;rw[kZc,List.all_append];simp
theorem jzoz t(ld:LQ)(n:Nat):fR t ld (n+1)=(fR t ld n&&decide (at_ ld n<=aR t n)):=by
 unfold fR;rw[kZc,List.all_append];simp
theorem sL{f:Nat->Bool}{n m:Nat}(h:f n=false)(hm:n<m):(List.range m).all f=false:=by
 rw[List.all_eq_false];exact⟨n,vX.2 hm,by rw[h];decide⟩
theorem jzo0{l:List Dm}{v:Rat}{sm:LQ}{n m:Nat}(h:¬at_ sm n=v*amQ l n)(hm:n<m):gB l v sm m=false:=sL (yP h) hm
theorem jzo1{t}{ld:LQ}{n m:Nat}(h:¬at_ ld n<=aR t n)(hm:n<m):fR t ld m=false:=sL (yP h) hm
theorem jzo2{t}(hv:aI t=true){x:List Int}{s d:Int}(h:fD t x s d=true):∀a∈x,0<=a/\a<((2*t.links.length:Nat):Int):=by
 (have qa:∀(x:List Int) (V:List Bool) (u:Nat) (first:Bool) (e:Nat),llB t V u first x=some e->∀a∈x,0<=a/\a<((2*t.links.length:Nat):Int):=fun x=>(by (induction x with|nil=>intro _ _ _ _ _ a ha;cases ha|cons b x ih=>(intro V u first e h a ha);(have h:(if llC t V u first b then llB t (V.set (aH t b.toNat).toNat true) (aH t b.toNat).toNat false x else none)=some e:=h;by_cases hc:llC t V u first b);{rw[if_pos hc]at h;(rcases xZ.1 ha with e1|e1);{rw[e1];exact hc.1};exact ih _ _ _ _ h a e1};rw[if_neg hc]at h;cases h)));(unfold fD at h;rw[vM]at h;cases hl:llB t ((List.replicate t.nodes.toNat false).set s.toNat true) s.toNat true x with|none=>rw[hl]at h;cases h.2|some e=>exact qa x _ _ _ _ hl)
theorem jzfn{t}{l:List Dm}:∀(Z:List bA) (ks:List (List UInt8)) (sm sm':LQ),rtB t l ks sm Z=some sm'->∀p∈Z,(0<=p.dem/\p.dem<(l.length:Int))/\0<p.flow/\fD t p.arcs (kL l p.dem.toNat) (kM l p.dem.toNat)=true
 | [],_,_,_,_,p,hp=>by cases hp
 |q::Z,ks,sm,sm',h,p,hp=>by
  have h:(if rtC t l ks q then rtB t l (dW q::ks) (sm.set q.dem.toNat (at_ sm q.dem.toNat+q.flow)) Z else none)=some sm':=h;by_cases hc:rtC t l ks q
  ·rw[if_pos hc]at h
   rcases xZ.1 hp with e|e
   ·subst e;exact⟨hc.1.1,hc.1.2.2,hc.2⟩
   ·exact jzfn Z _ _ _ h p e
  ·rw[if_neg hc]at h;cases h
theorem jzo3{t}(hv:aI t=true){Z:List bA}(h:∀p∈Z,∀a∈p.arcs,0<=a/\a<((2*t.links.length:Nat):Int)):(bM t Z).2=0:=by
 have kA:∀(f:Rat) (x:List Int) (ld:LQ),(∀a∈x,0<=a/\a<((2*t.links.length:Nat):Int))->∃qa,ldA (2*t.links.length) f ld x=some qa:=fun f x=>(by (induction x with|nil=>intro ld _;exact⟨ld,rfl⟩|cons a x ih=>intro ld h;obtain⟨qa,h'⟩:=ih (ld.set a.toNat (at_ ld a.toNat+f)) fun b hb=>h b (xO _ hb);refine⟨qa,?_⟩;show(if 0<=a/\a<((2*t.links.length:Nat):Int)then _ else none)=_;rw[if_pos (h a (by simp))];exact h'));have kP:∀(Z:List bA) (ld:LQ),(∀p∈Z,∀a∈p.arcs,0<=a/\a<((2*t.links.length:Nat):Int))->∃qa,ldP (2*t.links.length) ld Z=some qa:=fun Z=>(by (induction Z with|nil=>intro ld _;exact⟨ld,rfl⟩|cons p Z ih=>intro ld h;obtain⟨l1,h1⟩:=kA p.flow p.arcs ld (h p (by simp));obtain⟨l2,h2⟩:=ih l1 fun q hq=>h q (xO _ hq);refine⟨l2,?_⟩;show(match ldA (2*t.links.length) p.flow ld p.arcs with|none=>none|some qa=>ldP (2*t.links.length) qa Z)=_;rw[h1];exact h2));obtain⟨ld,h1⟩:=kP Z (List.replicate (2*t.links.length) 0) h;unfold bM;rw[if_pos hv,h1]
theorem jzfo(q:Rat):0<aC q↔0<q:=by
 have h:q.num=0↔q=0:=Rat.num_eq_zero;have h2:q.num<0↔q<0:=(by rw[<-Int.not_le,Rat.num_nonneg,Rat.not_le]);unfold aC;constructor;{intro h3;split at h3;{exact absurd h3 (by decide)};split at h3;{exact absurd h3 (by decide)};rename_i h4 h5;have h6:¬q<0:=fun h=>h5 (h2.2 h);have h7:¬q=0:=fun h'=>h4 (h.2 h');grind};intro h3;have h4:¬q.num=0:=fun h'=>(by rw[h.1 h']at h3;exact absurd h3 (by decide));have h5:¬q.num<0:=fun h'=>(by have:=h2.1 h';grind);rw[if_neg h4,if_neg h5];decide
end Go.Proofs.YtojpooidhilnfaaGreatDoor
