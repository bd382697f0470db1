/- Walks, part 21. -/
import Derived.WalkMore
import Derived.Test.YtojpooidhilnfaaGreatDoorT20
set_option linter.unusedVariables false
set_option linter.unusedSimpArgs false
set_option maxRecDepth 100000
set_option maxHeartbeats 8000000
namespace Go.Proofs.YtojpooidhilnfaaGreatDoor
open Go.Proofs.Tryz
open Go.RowKit
theorem FlR.base{w0 w1 w}{x mb:Nat}{t}{AO}{co:Nat}{AL}{cl:Nat}{l:List Dm}{AD}{cd:Nat}{L:aR}{T:Sx.Tb}{vP:Value}{P Q:List (Nat×LN)}(h:FlR w1 w x mb t AO co AL cl l AD cd L T vP P Q)(hx:Ext w0 w1)(ht:bH w0 t AO co AL cl)(hd:DmR w0 l AD cd):FlR w0 w x mb t AO co AL cl l AD cd L T vP P Q:=by
 obtain⟨css,h1,h2,h3,h4⟩:=h.pat;exact⟨hx.tr h.ext,ht,hd,h.box,yY hx.size h.xlo,h.tab.mono hx.size,h.m,⟨css,h1,h2,h3.mono hx.size,h4⟩,h.map,yY hx.size h.mlo⟩
structure gI(w wx:World)(x mb:Nat)(t:Tp)(AO:OA)(co:Nat)(AL:OA)(cl:Nat)(l:List Dm)(AD:OA)(cd:Nat)(L:aR)(T:Sx.Tb)(vP:Value)(P:List (Nat×LN)):Prop where
 fl:FlR w wx x mb t AO co AL cl l AD cd L T vP P P
 lp:Sx.FLP (2*t.links.length) l.length (amQ l) (aJ t) T P
 dif:P.Nodup
 loop:∀p∈P,p.1<l.length/\Lpl t (bD l p.1) (bA l p.1) p.2
section
variable {w wx wy:World} {x mb:Nat} {t:Tp} {AO:Option Addr} {co:Nat} {AL:Option Addr} {cl:Nat} {l:List Dm} {AD:Option Addr} {cd:Nat} {L:aR} {T:Sx.Tb} {vP:Value} {P:List (Nat×List Nat)}
theorem gI.K(h:gI w wx x mb t AO co AL cl l AD cd L T vP P)(hx:Ext wx wy):gI w wy x mb t AO co AL cl l AD cd L T vP P:=⟨h.fl.K hx,h.lp,h.dif,h.loop⟩
theorem gI.few(h:gI w wx x mb t AO co AL cl l AD cd L T vP P)(hf:Fit t l)(hl:t.links.length<=10)(hN:t.nodes<=7):P.length<=(Sx.cands l.length 21 6).length:=
 Sx.paths_few h.dif fun p hp=>by
  obtain⟨h1,h2⟩:=h.loop p hp;obtain⟨h3,_⟩:=hf.nodes h1;have h4:=h2.len hf.v h3;refine⟨h1,fun a ha=>?_,qO⟩;have:=gG _ h2.1 a ha;omega
theorem jzpt(D:Nat)(hD:D<=4):(Sx.cands D 21 6).length<=3000000000:=by
 have h1:=Sx.cands_len D 21 6 qD;have h2:D*((6+1)*21^6)<=4*((6+1)*21^6):=xS _ hD;have h3:4*((6+1)*21^6)<=3000000000:=qD;omega
end
theorem jz0(d:Nat)(Dn:Int):∀(Zs:List ((Nat×LN)×Rat)) (r:Rat),(∀z∈Zs,Sx.isI (z.2*(Dn:Rat)))->Sx.isI (r*(Dn:Rat))->∀z∈Sx.cut d r Zs,Sx.isI (z.2*(Dn:Rat))
 | [],r,_,_,z,hz=>by cases hz
 |y::Zs,r,h,hr,z,hz=>by
  have h1:=h y qS;have h2:∀z∈Zs,Sx.isI (z.2*(Dn:Rat)):=fun z hz=>h z (xO _ hz);have hm:Sx.isI ((if r<y.2 then r else y.2)*(Dn:Rat)):=(by split <;> assumption);unfold Sx.cut at hz;by_cases hd:y.1.1=d
  ·rw[qE hd]at hz
   generalize (if r<y.2 then r else y.2)=m at hz hm;rcases xY.1 hz with hz|hz
   ·split at hz
    ·rw[xD.1 hz];exact hm
    ·cases hz
   ·refine jz0 d Dn Zs _ h2 ?_ z hz
    obtain⟨a,ha⟩:=hr;obtain⟨b,hb⟩:=hm;exact⟨a-b,by rw[Rat.intCast_sub, <-ha, <-hb];grind⟩
  ·rw[qF hd]at hz
   exact jz0 d Dn Zs r h2 hr z hz
theorem jzpu{t}{l:List Dm}{T:Sx.Tb}{P:List (Nat×LN)}(hf:Fit t l)(hl:t.links.length<=10)(hD:l.length<=4)(h:Sx.FLP (2*t.links.length) l.length (amQ l) (aJ t) T P)(hz:∀z∈Sx.ptZ T P,0<=z.2):∀z∈Sx.planZ l.length (amQ l) T.goal.re (Sx.ptZ T P),SzQ z.2 41:=fun z hzm=>by
 obtain⟨_,_,_,_,Dn,d1,d2,d3,d4⟩:=pL hf hl hD h;have hm:∀z∈Sx.ptZ T P,Sx.Qn Dn ZB z.2:=fun z hz=>d4 z.2 (List.mem_of_mem_drop (Sx.zipF_mem P ((Sx.ptT T).drop 1) hz).2);unfold Sx.planZ at hzm;obtain⟨d,hd,qa⟩:=kZx.1 hzm;have hd:=vX.1 hd;obtain⟨e1,e2,f,e3,e4⟩:=Sx.cut_mem qa;have hI:=jz0 d Dn (Sx.ptZ T P) (T.goal.re*amQ l d) (fun z hz=>(hm z hz).1) (by obtain⟨a,ha⟩:=d3.1;obtain⟨b,hb⟩:=(hf.am hd).2.1;exact⟨a*b,by rw[kZu, <-ha, <-hb];grind⟩) z qa;have hq:=hm _ e3;have h0:=hz _ e3;exact jzfb (v:=f) (am:=1) d1 d2 hq.2 h0 (show((1:Int):Rat)<=((1048576:Int):Rat)from kQt.2 qD) qG qG (by rw[Rat.mul_one];exact e4) hI
def mK(w:World)(t:Tp)(l:List Dm)(e:Ending)(w':World):Prop:=
 (dA t l=false/\e=.returned (.tuple #[.agg #[bF,zN,zN,zN,zN],vI 1])/\Ext w w')\/
 (Fit t l/\(∃d,d<l.length/\∀y,¬Lpl t (bD l d) (bA l d) y)/\e=.returned (.tuple #[.agg #[bF,zN,zN,zN,zN],vI 11])/\Ext w w')\/
 (Fit t l/\∃(v:Rat) (Z:List ((Nat×LN)×Rat)) (pr:LQ) (neg:Bool) (A1:OA) (n1 c1:Nat) (A2:OA) (n2 c2:Nat) (AP:OA) (cp gp:Nat),
  dG t l v Z pr/\SzQ v 20/\(∀z∈Z,SzQ z.2 41)/\(∀q∈pr,SzQ q 20)/\Z.length<=24/\
  e=.returned (.tuple #[.agg #[.bool neg,.s A1 n1 c1,.s A2 n2 c2,.s AP Z.length cp,.s (sA gp) (2*t.links.length) (2*t.links.length)],vI 0])/\
  aC w' neg A1 n1 c1 A2 n2 c2 v/\Z.length<=cp/\PLr w' AP (Z.map pzI)/\QL w' (sA gp) pr/\Ext w w')
theorem jzft t AO(co:Nat)AL(cl:Nat)(l:List Dm)AD(cd:Nat)w(ht:bH w t AO co AL cl)(hd:DmR w l AD cd)(hl:t.links.length<=10)(hD:l.length<=4)(hN:aI t=true->t.nodes<=7)(q5:Tab w):
  Calls prog 10 #[.agg #[vI t.nodes,.s AO t.over.length co,.s AL t.links.length cl],.s AD l.length cd] w (mK w t l):=by
 have HT:=Hx (kQa ht (kQa hd (kQa hN q5)));have vp:=hd.len;have vu:=ht.ll;obtain⟨qQ,q2,e0⟩:=dU w #[vI t.nodes,.s AO t.over.length co,.s AL t.links.length cl] 25 #[bF,zN,zN,zN,zN] 39;obtain⟨⟨i0,i1,i2⟩,_⟩:=qQ.t3;have E0:=Hx (kQa qQ (kQa q2 e0));clear ht hd hN q5 qQ q2 e0;go_enter func10,ntmps10;(go_upto_region 1 with fail);go_step3
 have vo:((w.alloc (.cells #[vI t.nodes,.s AO t.over.length co,.s AL t.links.length cl] 25)).alloc (.cells #[bF,zN,zN,zN,zN] 39)).heap.size=w.heap.size+2:=qS;generalize (w.alloc (.cells #[vI t.nodes,.s AO t.over.length co,.s AL t.links.length cl] 25)).alloc (.cells #[bF,zN,zN,zN,zN] 39)=W0 at*;have H0:Hid (bH W0 t AO co AL cl/\DmR W0 l AD cd/\Tab W0):=Hx (⟨HT.o.1.K E0.o.2.2,HT.o.2.1.K E0.o.2.2,HT.o.2.2.2.K E0.o.2.2⟩);have qk:=Hx (show∀wx,Ext W0 wx->((wx.cell? (aD (w.heap.size+1) 0)=some bF/\wx.cell? (aD (w.heap.size+1) 1)=some zN/\wx.cell? (aD (w.heap.size+1) 2)=some zN/\wx.cell? (aD (w.heap.size+1) 3)=some zN/\wx.cell? (aD (w.heap.size+1) 4)=some zN)/\
   (wx.frozen? (aD (w.heap.size+1) 0)=false/\wx.frozen? (aD (w.heap.size+1) 1)=false/\wx.frozen? (aD (w.heap.size+1) 2)=false/\wx.frozen? (aD (w.heap.size+1) 3)=false/\wx.frozen? (aD (w.heap.size+1) 4)=false))from fun wx hx=>
  ⟨⟨(E0.o.2.1.K hx).cell 0,(E0.o.2.1.K hx).cell 1,(E0.o.2.1.K hx).cell 2,(E0.o.2.1.K hx).cell 3,(E0.o.2.1.K hx).cell 4⟩,(E0.o.2.1.K hx).frozen 0,(E0.o.2.1.K hx).frozen 1,(E0.o.2.1.K hx).frozen 2,(E0.o.2.1.K hx).frozen 3,(E0.o.2.1.K hx).frozen 4⟩)
 have qp:=Hx (show∀wx,Ext W0 wx->(Blk (((((wx.setCell (aD (w.heap.size+1) 0) bF).setCell (aD (w.heap.size+1) 1) zN).setCell (aD (w.heap.size+1) 2) zN).setCell (aD (w.heap.size+1) 3) zN).setCell (aD (w.heap.size+1) 4) zN) (w.heap.size+1) 39 #[bF,zN,zN,zN,zN]/\
   Ext w (((((wx.setCell (aD (w.heap.size+1) 0) bF).setCell (aD (w.heap.size+1) 1) zN).setCell (aD (w.heap.size+1) 2) zN).setCell (aD (w.heap.size+1) 3) zN).setCell (aD (w.heap.size+1) 4) zN))from fun wx hx=>by
  have hB:=E0.o.2.1.K hx;have s0:=hB.sT 0 bF;have s1:=s0.sT 1 zN;have s2:=s1.sT 2 zN;have s3:=s2.sT 3 zN;have s4:=s3.sT 4 zN;refine⟨s4,(eG (S:=fun b=>b=w.heap.size+1) (sR wx (w.heap.size+1) _ _ _ _ _) fun g e=>by injection e with e;exact e.symm).ext (E0.o.2.2.tr hx) fun b hb=>by rw[hb];omega⟩)
 (go_wp2_with fail);refine(jzet t AO co AL cl l AD cd _ H0.o.1 H0.o.2.1).mono ?_;rintro e w1 ⟨rfl,vd⟩;have X1:=Hx vd;clear vd;cases hv:dA t l;{have qw:=Hx (qp.o _ X1.o);have HV:=Hx hv;obtain⟨⟨v0,v1,v2,v3,v4⟩,r0,r1,r2,r3,r4⟩:=qk.o _ X1.o;clear qp qk hv i0 i1 i2;go_wp2;have qe:=qw.o.1;exact bodyPost_ret (v:=.tuple #[.agg #[bF,zN,zN,zN,zN],vI 1]) (by simp[results,results10,go_sem,qe.cell]) rfl (.inl ⟨HV.o,rfl,qw.o.2⟩)};have qa:=Hx ((nT qO).1 hv);have q8:t.nodes<=7:=HT.o.2.2.1 qa.o.v;clear hv i0 i1 i2;obtain⟨⟨i0,i1,i2⟩,_⟩:=(E0.o.1.K X1.o).t3;go_wp2_with fail;refine(jzn5 t AO co AL cl l AD cd _ (H0.o.1.K X1.o) (H0.o.2.1.K X1.o) qa.o hl hD).mono ?_;rintro e w2 ⟨x,mb,L0,T0,rfl,F0,P0⟩;have S0:Hid (gI W0 w2 x mb t AO co AL cl l AD cd L0 T0 zN []):=Hx (⟨F0.base X1.o H0.o.1 H0.o.2.1,P0,List.nodup_nil,fun p hp=>by cases hp⟩);clear F0 P0 i0 i1 i2;go_wp2
 go_loopg [7,8,9,10,21] l.length (fun q _ _ _ _ it wx=>∃(n:Nat) (L:aR) (T:Sx.Tb) (vP:Value) (P:List (Nat×LN)),l.length-n=q/\n<=l.length/\it=vI (n:Int)/\
  Hid (gI W0 wx x mb t AO co AL cl l AD cd L T vP P/\P.length<=n/\(∀p∈P,p.1<n)/\(∀d,d<n->∃y,Lpl t (bD l d) (bA l d) y)/\(0<n->P≠ [])))
 (case atStart=>exact⟨0,L0,T0,_,[],rfl,yZ _,rfl,Hx ⟨S0.o,yX _,(fun p hp=>by cases hp),(fun d hd=>qO),fun h=>qO⟩⟩);obtain⟨n,L,T,vP,P,rfl,hn,rfl,I⟩:=hrel;clear S0;by_cases qy:n<l.length
 ·obtain⟨d,hd⟩:∃d,l[n]?=some d:=⟨_,yG qy⟩;obtain⟨b,o,rfl,hb,a0,a1,a2,a3⟩:=H0.o.2.1.at_ hd;have a0:=aB I.o.1.fl.ext a0;have a1:=aB I.o.1.fl.ext a1;have a2:=aB I.o.1.fl.ext a2;have a3:=aB I.o.1.fl.ext a3;have hb:b<wr.heap.size:=yL hb I.o.1.fl.ext.size;have HN:Hid (bD l n<t.nodes.toNat/\bA l n<t.nodes.toNat/\d.src=(bD l n:Int)/\d.dst=(bA l n:Int)):=Hx (by obtain⟨h1,h2,h3,h4,h5⟩:=qa.o.nodes qy;have e:l[n]=d:=(yH.1 hd).2;rw[e]at h4 h5;exact⟨h1,h2,h4,h5⟩);have nN:(n:Int)<(l.length:Int):=qO;have n0:(0:Int)<=(n:Int):=qO;have X8:Hid (Ext wr (wr.alloc (.cells #[vI d.src,vI d.dst,vI d.amount,vI d.prio] 27))):=Hx ((eR wr).alloc _);have B8:=Hx (eN wr 27 #[vI d.src,vI d.dst,vI d.amount,vI d.prio]);clear hd;(go_upto_region 7 with fail);clear a0 a1 a2 a3;generalize wr.alloc (.cells #[vI d.src,vI d.dst,vI d.amount,vI d.prio] 27)=W8 at*;have X0:Hid (Ext W0 W8):=Hx (I.o.1.fl.ext.tr X8.o);generalize hbd:wr.heap.size=bd at*;generalize hR:chP t [] (bQ t) d.src d.dst=R;have HR:=Hx hR;clear hR;have y0:=B8.o.cell 0;have y1:=B8.o.cell 1;obtain⟨⟨z0,z1,z2⟩,_⟩:=(E0.o.1.K X0.o).t3;have SH:=Hx (jzpn t AO co AL cl none 0 [] d.src d.dst _ (H0.o.1.K X0.o) qO (Rd.nil _ _) qD qD);rw[HR.o]at SH;go_wp2_with fail;refine SH.o.mono ?_;rintro e w5 qf;clear SH;have qC:=Hx (pI (d:=bA l n) qa.o.v (jzd3 t) HN.o.1 HN.o.2.1);rw[<-HN.o.2.2.1, <-HN.o.2.2.2,HR.o]at qC;rcases qf with⟨hr2,g,A,k,rfl,hg,hk,hrd,hx5⟩|⟨hr2,rfl,hx5⟩
  ·obtain⟨qz,vj⟩:Lpl t (bD l n) (bA l n) R.1/\R.1.length<=64:=(by (rcases qC.o with⟨y,h1,h2,_⟩|⟨h1,_⟩);{rw[h1];have:=h2.len qa.o.v HN.o.1;refine⟨h2,?_⟩;simp only;omega};rw[h1]at hr2;exact absurd hr2 qD);have qh:=Hx qz;have E5:Hid (Ext W0 w5):=Hx (X0.o.tr hx5);have I5:=Hx (I.o.1.K (X8.o.tr hx5));have q1:=Hx (jze8 I5.o.fl qa.o hl hD I5.o.lp (by have:=I.o.2.1;omega) n qy A R.1.length k R.1 rfl hrd.1 (fun hx ad had hs=>by have h1:=hrd.2 ad had;have h2:=(I.o.1.fl.tab.ty hs).2.1;have h3:=X8.o.size;omega) hk (fun a ha=>gG _ qh.o.1 a ha) vj (H0.o.2.2.K E5.o));clear y0 y1 z0 z1 z2 qz hrd hk hx5;go_wp2_with fail;(refine q1.o.mono ?_;rintro e wA qf;clear q1;rcases qf with⟨hin,_,_⟩|⟨hnin,rfl,L2,vP2,F2,k2,far2⟩);{exact absurd (I.o.2.2.1 _ hin) (kZr n)}
   have vi:L.m=2*t.links.length+l.length:=I.o.1.fl.m;have GG:=Hx (show gI W0 wA x mb t AO co AL cl l (some (aD b o)) cd L2 (Sx.addT T 0 (aP L.m (pTs (2*t.links.length) (n,R.1)))) vP2 (P++[(n,R.1)])/\(P++[(n,R.1)]).length<=n+1/\(∀p∈P++[(n,R.1)],p.1<n+1)/\(∀d,d<n+1->∃y,Lpl t (bD l d) (bA l d) y)/\(0<n+1->P++[(n,R.1)]≠ [])from
    ⟨⟨F2,by
      rw[vi];exact I5.o.lp.add (kU _ _) fun i hi=>jzef _ _ (n,R.1) (fun a ha=>gG _ qh.o.1 a ha) i hi,by
      rw[List.nodup_append];exact⟨I5.o.dif,qS,fun p hp q hq e=>hnin (by rw[xD.1 hq]at e;rw[<-e];exact hp)⟩,fun p hp=>by
      rcases xY.1 hp with hp|hp
      ·
       exact I5.o.loop p hp
      ·
       rw[xD.1 hp]
       exact⟨qy,qh.o⟩⟩,by
      rw[yQ,kZd];have:=I.o.2.1;omega,fun p hp=>by
      rcases xY.1 hp with hp|hp
      ·
       have:=I.o.2.2.1 p hp
       omega
      ·
       rw[xD.1 hp]
       exact Nat.lt_succ_self n,fun d' hd'=>by
      by_cases e:d'=n
      ·
       subst e
       exact⟨_,qh.o⟩
      exact I.o.2.2.2.1 d' qO,fun _ e=>by simp at e⟩)
   clear F2 k2 far2 hnin I I5 qC;go_wp2;go_roundg (l.length-(n+1));exact⟨n+1,L2,_,vP2,_,rfl,qO,by go_num,GG⟩;omega
  have vc:R.2=11/\∀y,¬Lpl t (bD l n) (bA l n) y:=(by (rcases qC.o with⟨y,h1,h2,_⟩|⟨h1,h2⟩);{rw[h1]at hr2;exact absurd rfl hr2};rw[h1];exact⟨rfl,h2⟩);have ve:=Hx vc.2;rw[vc.1];have E5:Hid (Ext W0 w5):=Hx (X0.o.tr hx5);have qw:=Hx (qp.o _ E5.o);obtain⟨⟨v0,v1,v2,v3,v4⟩,r0,r1,r2,r3,r4⟩:=qk.o _ E5.o;clear qp qk y0 y1 z0 z1 z2 hx5 I;go_wp2;have qe:=qw.o.1;exact bodyPost_ret (v:=.tuple #[.agg #[bF,zN,zN,zN,zN],vI 11]) (by simp[results,results10,go_sem,qe.cell]) rfl (.inr (.inl ⟨qa.o,⟨n,qy,ve.o⟩,rfl,qw.o.2⟩))
 obtain rfl:n=l.length:=qO;have qH:=Hx I.o.2.2.2.1;have S1:Hid (gI W0 wr x mb t AO co AL cl l AD cd L T vP P/\P≠ []):=Hx (⟨I.o.1,I.o.2.2.2.2 qa.o.n⟩);clear I;go_wp2;go_step3;go_wp2;go_loopg [] ((Sx.cands l.length 21 6).length-P.length) (fun q wx=>∃(L:aR) (T:Sx.Tb) (vP:Value) (P:List (Nat×LN)),(Sx.cands l.length 21 6).length-P.length=q/\Hid (gI W0 wx x mb t AO co AL cl l AD cd L T vP P/\P≠ []));exact⟨L,T,vP,P,rfl,S1⟩;clear S1;obtain⟨L,T,vP,P,rfl,I⟩:=hrel;have vn:=I.o.1.few qa.o hl q8;have vt:=jzpt l.length hD;have qm:=I.o.1.lp.shape;obtain⟨N,he,hs⟩:=I.o.1.lp.max qa.o.n (fun d hd=>(qa.o.am hd).1) fun p hp=>(by (obtain⟨h1,h2⟩:=I.o.1.loop p hp;have h3:=h2.ne (qa.o.nodes h1).2.2.1;cases hx:p.2 with|nil=>exact absurd hx h3|cons a rs=>exact⟨a,qS,gG _ h2.1 a (by rw[hx];simp)⟩));have vg:L.m=2*t.links.length+l.length:=I.o.1.fl.m;have vq:=qa.o.n;have MX:=Hx (jzps W0.heap.size 20 N L T wr I.o.1.fl.tab he hs (fun n _=>by have h9:=pL qa.o hl hD (I.o.1.lp.iter n);exact⟨h9.1,h9.2.1⟩) qD qO qO qO qO);have HE:=Hx he;have q4:wr.cell? (aD x 4)=some (.pointer (sA L.p)):=I.o.1.fl.box.cell 4;clear qm he hs;go_wp2_with fail;refine MX.o.mono ?_;rintro e w3 ⟨rfl,va,k3⟩;have S3:Hid (gI W0 w3 x mb t AO co AL cl l AD cd L (Sx.iterT N T) vP P):=Hx (⟨I.o.1.fl.tabbed va k3 rfl rfl fun b h=>.inl h,I.o.1.lp.iter N,I.o.1.dif,I.o.1.loop⟩);have vh:=Hx I.o.2;have qA:∃T3,T3=Sx.iterT N T:=⟨_,rfl⟩;obtain⟨T3,qA⟩:=qA;rw[<-qA]at S3 HE;clear MX q4 I va k3 qA;have qm:=S3.o.lp.shape;have q4:w3.cell? (aD x 4)=some (.pointer (sA L.p)):=S3.o.fl.box.cell 4;have PR:=jzdj W0.heap.size L T3 w3 S3.o.fl.tab qm.2.1 qO qO qO qO qm.2.2.2.2.1 (fun j hj=>by have:=qm.2.2.2.2.2.1 j hj;omega);rw[vg]at PR;have qV:=Hx PR;clear PR qm;go_wp2_with fail
 refine qV.o.mono ?_;rintro e w4 ⟨gl,rfl,qY,vk,x4⟩;have S4:=Hx (S3.o.K x4);have qi:=Hx (S3.o.lp.best HE.o qa.o.n (fun d hd=>(qa.o.am hd).1) S3.o.dif fun p hp=>(S3.o.loop p hp).1);have q3:T3.rows.length=2*t.links.length+l.length:=S3.o.lp.cols.2;have qt:(Sx.prT T3).length=2*t.links.length+l.length:=(by unfold Sx.prT;rw[Sx.prTo_len,q3]);have qB:=Hx (pL qa.o hl hD S3.o.lp);have qW:=Hx (jzoa S4.o.fl qa.o hl hD S4.o.lp S4.o.dif S4.o.loop qO gl (Sx.prT T3) qY qt qB.o.2.2.1 (fun q hq=>by
  obtain⟨i,hi,e⟩:=List.mem_iff_getElem.1 hq;have h9:=qi.o.pos i qO;unfold Sx.at_ at h9;rw[yG hi]at h9;rw[<-e];exact h9) (fun hb=>by
  have:=(S3.o.fl.lo.1 gl hb).2;omega) H0.o.2.2)
 clear qV q4 qY x4;go_wp2_with fail;refine qW.o.mono ?_;rintro e w5 ⟨more,L5,T5,qJ,P5,rfl,G5⟩;clear qW;cases more
 ·obtain⟨rfl,rfl,qx⟩:=G5.non rfl;have qn:=Hx qx;have S5:Hid (gI W0 w5 x mb t AO co AL cl l AD cd L5 T5 qJ P5):=Hx (⟨G5.fl,G5.lp,G5.dif,G5.loop⟩);have q0:=Hx (jzon S5.o.fl qa.o hl hD S5.o.lp qi.o.vnn qi.o.fnn qO (fun p hp=>(S5.o.loop p hp).1) vh.o)
  have q6:=Hx (show dG t l T5.goal.re (Sx.planZ l.length (amQ l) T5.goal.re (Sx.ptZ T5 P5)) ((Sx.prT T5).take (2*t.links.length))from
   jznk qa.o qi.o q3 (fun p hp=>(S5.o.loop p hp).2) (xW.2 fun p hp=>by
    obtain⟨z,hz,rfl⟩:=kQl.1 hp;exact yO (Sx.zipF_mem P5 _ hz).1) (fun d hd=>by
    have qI:((Sx.prT T5).take (2*t.links.length)).length=2*t.links.length:=(by rw[xF,qt];omega);have qg:eS t ((Sx.prT T5).take (2*t.links.length))=true:=sE qI fun q hq=>by
     obtain⟨i,hi,e⟩:=List.mem_iff_getElem.1 (xM hq);have h9:=qi.o.pos i qO;unfold Sx.at_ at h9;rw[yG hi]at h9;rw[<-e];exact h9
    obtain⟨n1,n2,_⟩:=qa.o.nodes hd;have hn:=qn.o d hd;unfold chQ;rcases pI qa.o.v qg n1 n2 with⟨y,h1,h2,_⟩|⟨_,h2⟩
    ·
     rw[h1]at hn⊢
     by_cases qZ:prQ ((Sx.prT T5).take (2*t.links.length)) y<Sx.at_ (Sx.prT T5) (2*t.links.length+d)
     ·
      have h4:=qi.o.path _ (hn rfl qZ)
      have h5:=h2.prQ_sm ((Sx.prT T5).take (2*t.links.length));have h6:(Sx.sm (2*t.links.length) fun a=>if a∈y then Sx.at_ (Sx.prT T5) a else 0)=Sx.sm (2*t.links.length) fun a=>if a∈y then Sx.at_ ((Sx.prT T5).take (2*t.links.length)) a else 0:=Sx.sm_congr _ fun a ha=>by
       unfold Sx.at_;rw[xG,qE ha]
      show _<=prQ _ y;rw[h5, <-h6];exact h4
     show _<=prQ _ y;exact kQ4.1 qZ
    obtain⟨y,hy⟩:=qH.o d hd;exact absurd hy (h2 y)) qH.o)
  clear qx G5;go_wp2_with fail
  refine q0.o.mono ?_;rintro e w6 ⟨neg,A1,n1,c1,A2,n2,c2,AP,cp,gp,rfl,qU,qT,⟨B9,qj⟩,⟨qs,qM,q9⟩,q7⟩;have E6:Hid (Ext W0 w6):=Hx (S5.o.fl.ext.tr q7);have k5:FrS (fun b=>b=w.heap.size+1) w6 (((((w6.setCell (aD (w.heap.size+1) 0) (.bool neg)).setCell (aD (w.heap.size+1) 1) (.s A1 n1 c1)).setCell (aD (w.heap.size+1) 2) (.s A2 n2 c2)).setCell (aD (w.heap.size+1) 3) (.s AP (Sx.planZ l.length (amQ l) T5.goal.re (Sx.ptZ T5 P5)).length cp)).setCell (aD (w.heap.size+1) 4) (.s (sA gp) (2*t.links.length) (2*t.links.length))):=
   eG (sR w6 (w.heap.size+1) _ _ _ _ _) fun g e=>by injection e with e;exact e.symm
  have RB:=E0.o.2.1.K E6.o;have hn:=fun tt (ht:39≠tt)=>NoT.one RB ht;have HB:=Hx (((((RB.sT 0 (.bool neg)).sT 1 (.s A1 n1 c1)).sT 2 (.s A2 n2 c2)).sT 3 (.s AP (Sx.planZ l.length (amQ l) T5.goal.re (Sx.ptZ T5 P5)).length cp)).sT 4 (.s (sA gp) (2*t.links.length) (2*t.links.length)));have vm:Hid (mK w t l (.returned (.tuple #[.agg #[.bool neg,.s A1 n1 c1,.s A2 n2 c2,.s AP (Sx.planZ l.length (amQ l) T5.goal.re (Sx.ptZ T5 P5)).length cp,.s (sA gp) (2*t.links.length) (2*t.links.length)],vI 0])) (((((w6.setCell (aD (w.heap.size+1) 0) (.bool neg)).setCell (aD (w.heap.size+1) 1) (.s A1 n1 c1)).setCell (aD (w.heap.size+1) 2) (.s A2 n2 c2)).setCell (aD (w.heap.size+1) 3) (.s AP (Sx.planZ l.length (amQ l) T5.goal.re (Sx.ptZ T5 P5)).length cp)).setCell (aD (w.heap.size+1) 4) (.s (sA gp) (2*t.links.length) (2*t.links.length)))):=Hx (by refine .inr (.inr ⟨qa.o,_,_,_,neg,A1,n1,c1,A2,n2,c2,AP,cp,gp,q6.o,qB.o.2.1.gr,jzpu qa.o hl hD S5.o.lp qi.o.fnn,fun q hq=>qB.o.2.2.1 q (xM hq),?_,rfl,k5.ratR (hn _ qD) qU,qT,?_,?_,k5.ext (E0.o.2.2.tr E6.o) fun b hb=>by rw[hb];omega⟩);{have:=S5.o.lp.few S5.o.dif;omega};{refine OwL.plr (qj.fr k5 (fun g hg e=>?_) fun cs y _ hy=>hy.fr k5 (hn _ qD) (hn _ qD));obtain⟨xs,ho⟩:=qj.own;obtain⟨cs,qe⟩:=aS ho hg;rw[e]at qe;exact absurd (bJ qe RB).2 qD};have vl:=qM.fr k5 (hn _ qD) fun e=>(by obtain⟨cs,qe⟩:=qM.blk;rw[e]at qe;exact absurd (bJ qe RB).2 qD);rw[<-q9];exact vl.ql.take _);obtain⟨⟨v0,v1,v2,v3,v4⟩,r0,r1,r2,r3,r4⟩:=qk.o _ E6.o;clear qp qk qU qT qj qM q9 q7 k5 RB hn q0 q6 S5 S4 S3 qi qB qn qH;generalize Sx.planZ l.length (amQ l) T5.goal.re (Sx.ptZ T5 P5)=ZZ at*;go_wp2;have qe:=HB.o;exact bodyPost_ret (v:=.tuple #[.agg #[.bool neg,.s A1 n1 c1,.s A2 n2 c2,.s AP ZZ.length cp,.s (sA gp) (2*t.links.length) (2*t.links.length)],vI 0]) (by simp[results,results10,go_sem,qe.cell]) rfl vm.o
 have qo:=G5.mor rfl;have S5:Hid (gI W0 w5 x mb t AO co AL cl l AD cd L5 T5 qJ P5/\P5≠ []):=Hx (⟨⟨G5.fl,G5.lp,G5.dif,G5.loop⟩,fun e=>by rw[e]at qo;exact absurd qo (Nat.not_lt_zero _)⟩);have qX:=S5.o.1.few qa.o hl q8;clear G5;go_wp2;go_roundg ((Sx.cands l.length 21 6).length-P5.length);exact⟨L5,T5,qJ,P5,rfl,S5⟩;omega
theorem jzpv{t}{Ps:List bG}{P:Nat}(hsz:∀p∈Ps,SzQ p.flow P):∀q∈(cT t Ps).1,SzQ q (1+cX Ps*(P+1)):=fun q hq=>by
 unfold cT at hq;split at hq;{(cases hl:ldP (2*t.links.length) (List.replicate (2*t.links.length) 0) Ps with|none=>rw[hl]at hq;cases hq|some ld=>rw[hl]at hq;exact sQ (P:=P) Ps (k:=1) (ld:=List.replicate (2*t.links.length) 0) hsz (fun q hq=>by rw[uF hq];exact SzQ.zero) SzQ.zero hl q hq)};{cases hq}
theorem jzpw{t}{Ps:List bG}(h:(cT t Ps).2=0):aI t=true/\(cT t Ps).1.length=2*t.links.length/\ldP (2*t.links.length) (List.replicate (2*t.links.length) 0) Ps=some (cT t Ps).1:=by
 unfold cT at h⊢;split at h;{rename_i hv;(rw[qE hv];cases hl:ldP (2*t.links.length) (List.replicate (2*t.links.length) 0) Ps with|none=>rw[hl]at h;exact absurd h qD|some ld=>exact⟨hv,by rw[nY _ hl,xC],rfl⟩)};exact absurd h qD
theorem jzpx{t}(hv:aI t=true){a:Nat}(ha:a<2*t.links.length):SzQ (aJ t a) 1:=by
 obtain⟨h,_,_,_,h5,h6,h7⟩:=iF hv ha;rw[h5];exact SzQ.int (by unfold B32;omega)
theorem jzpy(l:List Bool)(k:Nat)(b:Bool):(cV l).toArray.setIfInBounds k (.bool b)=(cV (l.set k b)).toArray:=by
 rw[yD];unfold cV;rw[List.map_set]
theorem jzfu(l:List Bool)(k:Nat)(b:Bool)(h:l[k]?=some b):(cV l).toArray[k]?=some (.bool b):=by
 unfold cV;simp[h]
def llC(t:Tp)(V:List Bool)(u:Nat)(first:Bool)(a:Int):Prop:=(0<=a/\a<((2*t.links.length:Nat):Int))/\dV t a.toNat=(u:Int)/\(first=true\/dD t (u:Int)=false)/\V[(aT t a.toNat).toNat]?.getD false=false
instance(t:Tp)(V:List Bool)(u:Nat)(first:Bool)(a:Int):Decidable (llC t V u first a):=by unfold llC;infer_instance
def llB(t:Tp):List Bool->Nat->Bool->List Int->Option Nat
 |_,u,_,[]=>some u
 |V,u,first,a::x=>if llC t V u first a then llB t (V.set (aT t a.toNat).toNat true) (aT t a.toNat).toNat false x else none
def fS(t:Tp)(x:List Int)(s d:Int):Bool:=decide (0<=s/\s<t.nodes)&&match llB t ((List.replicate t.nodes.toNat false).set s.toNat true) s.toNat true x with
 |none=>false
 |some u=>decide ((u:Int)=d)
section
variable {t:Tp}
theorem sT{u a:Nat}:a∈aY t u↔a<2*t.links.length/\dV t a=(u:Int):=by
 unfold aY eJ;rw[List.mem_filter,vX,beq_iff_eq]
theorem jzpz{V:List Bool}{k:Nat}(hk:k<V.length):V[k]?.getD false=false↔V[k]?=some false:=by
 rw[yG hk];simp
theorem jzfv(hv:aI t=true):∀(x:List Int) (V:List Bool) (u:Nat) (first:Bool) (e:Nat),V.length=t.nodes.toNat->(llB t V u first x=some e↔∃y:LN,x=y.map (fun a:Nat=>(a:Int))/\PO t u first y e/\(∀m∈y.map (fun a=>(aT t a).toNat),V[m]?=some false)/\(y.map fun a=>(aT t a).toNat).Nodup)
 | [],V,u,first,e,hV=>by
   constructor
   ·intro h
    injection h with h
    exact⟨[],rfl,h,(fun m hm=>by cases hm),List.nodup_nil⟩
   ·rintro ⟨y,h1,h2,_⟩
    cases y with
    |nil=>exact congrArg some h2
    |cons b y=>cases h1
 |a::x,V,u,first,e,hV=>by
  show(if llC t V u first a then llB t (V.set (aT t a.toNat).toNat true) (aT t a.toNat).toNat false x else none)=some e↔_;by_cases hc:llC t V u first a
  ·rw[qE hc]
   obtain⟨h1,h2,h3,h4⟩:=hc;have hl:a.toNat∈aY t u:=sT.2 ⟨qO,h2⟩;obtain⟨_,_,hh,_⟩:=iE hv hl;have h5:=(jzpz qO).1 h4;rw[jzfv hv x (V.set (aT t a.toNat).toNat true) _ false e (by rw[yV];exact hV)];constructor
   ·rintro ⟨y,k1,k2,k3,k4⟩
    have k5:∀m∈y.map (fun a=>(aT t a).toNat),m≠(aT t a.toNat).toNat/\V[m]?=some false:=fun m hm=>by
     have:=k3 m hm;rw[kZs]at this;by_cases e:(aT t a.toNat).toNat=m
     ·rw[qE e]at this
      split at this <;> simp at this
     ·rw[qF e]at this
      exact⟨fun h=>e h.symm,this⟩
    refine⟨a.toNat::y,by rw[kZa, <-k1];congr 1;omega,⟨hl,h3,k2⟩,fun m hm=>?_,?_⟩
    ·rw[kZa]at hm
     rcases xZ.1 hm with e|e
     ·rw[e];exact h5
     ·exact(k5 m e).2
    ·rw[kZa,kZo]
     exact⟨fun h=>(k5 _ h).1 rfl,k4⟩
   ·rintro ⟨y,k1,k2,k3,k4⟩
    cases y with
    |nil=>cases k1
    |cons b y=>
     rw[kZa]at k1 k3 k4;injection k1 with k5 k6
     subst k5;rw[xL]at*;rw[kZo]at k4;refine⟨y,k6,k2.2.2,fun m hm=>?_,k4.2⟩;rw[kZs,qF (fun e=>k4.1 (by rw[e];exact hm))];exact k3 m (xO _ hm)
  ·rw[qF hc]
   constructor
   ·intro h;cases h
   ·rintro ⟨y,k1,k2,k3,k4⟩
    cases y with
    |nil=>cases k1
    |cons b y=>
     rw[kZa]at k1 k3;injection k1 with k5 k6
     subst k5;obtain⟨h1,h2⟩:=sT.1 k2.1;refine absurd ⟨⟨qO,qO⟩,?_,k2.2.1,?_⟩ hc
     ·rw[xL];exact h2
     ·rw[xL,k3 _ (List.mem_cons_self ..)];rfl
theorem jzfw(hv:aI t=true)(x:List Int){s d:Nat}(hs:s<t.nodes.toNat):fS t x (s:Int) (d:Int)=true↔∃y:LN,x=y.map (fun a:Nat=>(a:Int))/\Lpl t s d y:=by
 have h0:decide (0<=(s:Int)/\(s:Int)<t.nodes)=true:=yO ⟨qO,qO⟩;unfold fS;rw[h0,kZg,xL];have qa:(match llB t ((List.replicate t.nodes.toNat false).set s true) s true x with
   |none=>false
   |some u=>decide ((u:Int)=(d:Int)))=true↔llB t ((List.replicate t.nodes.toNat false).set s true) s true x=some d:=by
  cases llB t ((List.replicate t.nodes.toNat false).set s true) s true x with
  |none=>simp
  |some u=>simp;omega
 rw[qa,jzfv hv x _ s true d qS];have hV:∀m,((List.replicate t.nodes.toNat false).set s true)[m]?=some false↔m<t.nodes.toNat/\m≠s:=fun m=>(by rw[kZs];by_cases e:s=m;{rw[qE e];constructor;{intro h;split at h <;> simp at h};intro h;exact absurd e.symm h.2};rw[qF e,xB];constructor;{intro h;split at h;{rename_i h1;exact⟨h1,fun h=>e h.symm⟩};cases h};intro h;rw[qE h.1]);constructor;{rintro ⟨y,k1,k2,k3,k4⟩;refine⟨y,k1,k2,?_⟩;rw[pH,kZo];exact⟨fun h=>((hV s).1 (k3 s h)).2 rfl,k4⟩};(rintro ⟨y,k1,k2,k3⟩;rw[pH,kZo]at k3;refine⟨y,k1,k2,fun m hm=>(hV m).2 ⟨?_,fun e=>k3.1 (by rw[<-e];exact hm)⟩,k3.2⟩;have:∀(y:LN) (u:Nat) (first:Bool),PO t u first y d->∀m∈y.map (fun a=>(aT t a).toNat),m<t.nodes.toNat:=fun y=>(by (induction y with|nil=>intro _ _ _ m hm;cases hm|cons b y ih=>(intro u first h m hm);(rw[kZa]at hm;rcases xZ.1 hm with e|e);{rw[e];exact(iE hv h.1).2.2.1};exact ih _ _ h.2.2 m e)));exact this y s true k2 m hm
theorem jzp0{x:List Int}{n:Nat}{a:Int}(ha:x[n]?=some a)(V:List Bool)(u:Nat)(first:Bool):llB t V u first (x.drop n)=if llC t V u first a then llB t (V.set (aT t a.toNat).toNat true) (aT t a.toNat).toNat false (x.drop (n+1))else none:=by
 obtain⟨hn,e⟩:=yH.1 ha;rw[kQ6 hn,e];rfl
end
theorem jzfx t AO(co:Nat)AL(cl:Nat)PX(cx:Nat)(x:List Int)(s d:Int)w(ht:bH w t AO co AL cl)(hv:aI t=true)(hx:Rd w PX (fR x))(hxl:x.length<=1000000)(hxc:x.length<=cx):
  Calls prog 130 #[.agg #[vI t.nodes,.s AO t.over.length co,.s AL t.links.length cl],.s PX x.length cx,vI s,vI d] w fun e w'=>e=.returned (.bool (fS t x s d))/\Ext w w':=by
 have hN:∃N:Nat,t.nodes=(N:Int)/\N<=64/\t.links.length<=256/\(t.over=[]\/t.over.length=N):=(by have h:=hv;unfold aI cN inB at h;simp at h;exact⟨t.nodes.toNat,qO,qO,qO,h.1.2.elim (fun h1=>.inl h1) fun h1=>.inr qO⟩);obtain⟨N,qt,q2,qH,qT⟩:=hN;have HT:=Hx ht;have HX:=Hx hx;have HV:=Hx hv;have q3:=ht.ll;have q7:=ht.cl;have qe:(Value.agg #[vI t.nodes,.s AO t.over.length co,.s AL t.links.length cl])=.agg #[vI (N:Int),.s AO t.over.length co,.s AL t.links.length cl]:=(by rw[qt]);have ND:=Hx (fun wx=>jzax t AO co AL cl s wx);rw[qe]at ND;rw[qt]at ND;have AR:=Hx (fun(a:Int) wx (hx:Ext w wx)=>jzfa t AO co AL cl a wx (HT.o.K hx));have TL:=Hx (fun(a:Nat) (ha:a/2<t.links.length) wx (hx:Ext w wx)=>tJ t AO co AL cl a wx (HT.o.K hx) ha);have HD:=Hx (fun(a:Nat) (ha:a/2<t.links.length) wx (hx:Ext w wx)=>mQ t AO co AL cl a wx (HT.o.K hx) ha);have OV:=Hx (fun(n:Int) (h0:0<=n) (hn:t.over=[]\/n<t.over.length) wx (hx:Ext w wx)=>tL t AO co AL cl n wx (HT.o.K hx) h0 hn);rw[qe]at AR TL HD OV⊢;have qp:=Hx qt;obtain⟨qy,e0⟩:=bB w #[vI (N:Int),.s AO t.over.length co,.s AL t.links.length cl] 25;obtain⟨⟨i0,i1,i2⟩,_⟩:=qy.t3;have E0:=Hx (kQa qy e0);clear ht hv hx qy e0 qt qe;go_enter func130,ntmps130;go_wp2_with fail;refine(ND.o _).mono ?_;rintro e w1 ⟨rfl,qz⟩;have E1:=Hx (kQa (E0.o.1.K qz) (E0.o.2.tr qz));clear qz i0 i1 i2 E0;obtain⟨⟨i0,i1,i2⟩,_⟩:=E1.o.1.t3;by_cases hs:0<=s/\s<(N:Int)
 ·rw[yO hs]
  obtain⟨S,rfl⟩:=kQj hs.1;have qB:S<N:=qO;have sN:(S:Int)<(N:Int):=qO;have s0:(0:Int)<=(S:Int):=qO;have HR:=Hx (show fS t x (S:Int) d=match llB t ((List.replicate N false).set S true) S true x with
   |none=>false
   |some u=>decide ((u:Int)=d) by
   unfold fS;rw[qp.o,yO hs,kZg,xL,xL])
  have qW:=run_make_row' (P:=prog) 22 4 bF 1 underlying22 Tryz.info4 rfl .i64 .i64 N qO qO;have qX:(madeCells #[bF] N)[S]?=some bF:=(by rw[<-kQw,toList_madeCells_one];simp[qB]);have qm:=Hx (show(madeCells #[bF] N).setIfInBounds S (.bool true)=(cV ((List.replicate N false).set S true)).toArray by apply Array.ext';rw[Array.toList_setIfInBounds,toList_madeCells_one];simp[cV,List.map_set]);(go_upto_region 6 with fail);have B3:Hid (Blk (w1.alloc (.cells ((madeCells #[bF] N).setIfInBounds S (.bool true)) 4)) w1.heap.size 4 (cV ((List.replicate N false).set S true)).toArray):=Hx (by rw[qm.o];exact eN w1 _ _);have X3:Hid (Blk (w1.alloc (.cells ((madeCells #[bF] N).setIfInBounds S (.bool true)) 4)) w.heap.size 25 #[vI (N:Int),.s AO t.over.length co,.s AL t.links.length cl]/\Ext w (w1.alloc (.cells ((madeCells #[bF] N).setIfInBounds S (.bool true)) 4))):=Hx (⟨E1.o.1.K ((eR w1).alloc _),E1.o.2.alloc _⟩);have hg:w.heap.size<w1.heap.size:=E1.o.1.lt;clear qW qX i0 i1 i2 E1 qm;generalize w1.alloc (.cells ((madeCells #[bF] N).setIfInBounds S (.bool true)) 4)=W3 at*;generalize w1.heap.size=g at*;have qY:((List.replicate N false).set S true).length=N:=qS;generalize (List.replicate N false).set S true=V0 at*;have I0:Hid (Blk W3 g 4 (cV V0).toArray/\FrS (fun b=>b=g) W3 W3/\llB t V0 S true x=llB t V0 S true x):=Hx (⟨B3.o,FrS.refl _ _,rfl⟩);have q4:g<W3.heap.size:=B3.o.lt;clear B3;go_wp2;go_loopg [10,11,12,26] x.length (fun q s10 _ _ it wx=>∃(n u:Nat) (V:List Bool),x.length-n=q/\n<=x.length/\s10=vI (u:Int)/\it=vI (n:Int)/\u<N/\V.length=N/\Hid (Blk wx g 4 (cV V).toArray/\FrS (fun b=>b=g) W3 wx/\llB t V0 S true x=llB t V u (decide (n=0)) (x.drop n)));exact⟨0,S,V0,rfl,yZ _,rfl,rfl,qB,qY,Hx ⟨I0.o.1,I0.o.2.1,rfl⟩⟩;obtain⟨n,u,V,rfl,hn,rfl,rfl,q1,q0,J⟩:=hrel;clear I0;have XR:Hid (Ext w wr):=Hx (J.o.2.1.ext X3.o.2 fun b hb=>qO);have qi:Hid (∀wx,Ext wr wx->Blk wx w.heap.size 25 #[vI (N:Int),.s AO t.over.length co,.s AL t.links.length cl]):=Hx (fun wx hx=>(J.o.2.1.blk X3.o.1 qO).K hx);have q6:g<wr.heap.size:=J.o.1.lt;by_cases qV:n<x.length
  ·obtain⟨a,ha⟩:∃a,x[n]?=some a:=⟨_,yG qV⟩;obtain⟨b9,o9,rfl,q5,ca⟩:=(HX.o.K XR.o).iint ha;have NX:=Hx (jzp0 (t:=t) ha V u (decide (n=0)));have nN:(n:Int)<(x.length:Int):=qO;have n0:(0:Int)<=(n:Int):=qO;clear ha;(go_upto_region 9 with fail);clear ca;go_cut [58] (fun s wx=>s=.bool (!decide (llC t V u (decide (n=0)) a))/\Ext wr wx);(case first=>obtain⟨⟨i0,i1,i2⟩,_⟩:=(qi.o _ (eR wr)).t3;go_wp2_with fail;refine(AR.o a _ XR.o).mono ?_;rintro e w4 ⟨rfl,x4⟩;have X4:=Hx x4;obtain⟨⟨i0,i1,i2⟩,_⟩:=(qi.o _ x4).t3;clear x4;by_cases qj:0<=a/\a<((2*t.links.length:Nat):Int);{rw[yO qj];(obtain⟨a',rfl⟩:=kQj qj.1;have qg:a'<2*t.links.length:=by omega);go_wp2_with fail;refine(TL.o a' qO _ (XR.o.tr X4.o)).mono ?_;rintro e w5 ⟨rfl,x5⟩;have X5:=Hx (X4.o.tr x5);obtain⟨⟨i0,i1,i2⟩,_⟩:=(qi.o _ X5.o).t3;clear x5 X4;by_cases qh:dV t a'=(u:Int);{rw[qh];obtain⟨qn,qk,qw,_⟩:=iE HV.o (sT.2 ⟨qg,qh⟩);obtain⟨h,qf⟩:=kQj qn;have HH:=Hx qf;have qJ:h<N:=(by rw[qf,qp.o]at qk;omega);have qU:(h:Int)<(N:Int):=qO;have qn:(0:Int)<=(h:Int):=qO;obtain⟨vb,qa⟩:∃vb,V[h]?=some vb:=⟨_,yG qO⟩;have qo:=Hx qa;have VH:Hid (wr.cell? (aD g h)=some (.bool vb)):=Hx ((J.o.1.cell h).trans (jzfu V h _ qa));clear qa;clear qf qk qw;by_cases qI:n=0;{subst qI;have qx:decide (0=0)=true\/dD t (u:Int)=false:=.inl rfl;have XX:=X5;go_wp2_with fail;refine(HD.o a' qO _ (XR.o.tr XX.o)).mono ?_;rintro e w7 ⟨rfl,x7⟩;have X7:=Hx (XX.o.tr x7);have vh:=aB X7.o VH.o;rw[HH.o];clear x7;go_wp2;go_meet;refine⟨?_,X7.o⟩;cases vb;{show _=Value.bool (!decide (llC t V u (decide (0=0)) (a':Int)));rw[yO (show llC t V u (decide (0=0)) (a':Int)from⟨qj,qh,qx,by rw[xL,HH.o,xL,qo.o];rfl⟩)];rfl};show _=Value.bool (!decide (llC t V u (decide (0=0)) (a':Int)));rw[yP (fun hc:llC t V u (decide (0=0)) (a':Int)=>by have h4:=hc.2.2.2;rw[xL,HH.o,xL,qo.o]at h4;cases h4)];rfl};have qZ:(0:Int)<(n:Int):=qO;have qM:decide ((0:Int)<(n:Int))=true:=yO qZ;go_wp2_with fail;refine(OV.o (u:Int) qO (qT.elim (fun h1=>.inl h1) fun h1=>.inr qO) _ (XR.o.tr X5.o)).mono ?_;rintro e w6 ⟨rfl,x6⟩;have XX:=Hx (X5.o.tr x6);obtain⟨⟨i0,i1,i2⟩,_⟩:=(qi.o _ XX.o).t3;clear x6 X5;cases hov2:dD t (u:Int);{have qx:decide (n=0)=true\/dD t (u:Int)=false:=.inr hov2;go_wp2_with fail;refine(HD.o a' qO _ (XR.o.tr XX.o)).mono ?_;rintro e w7 ⟨rfl,x7⟩;have X7:=Hx (XX.o.tr x7);have vh:=aB X7.o VH.o;rw[HH.o];clear x7;go_wp2;go_meet;refine⟨?_,X7.o⟩;cases vb;{rw[yO (show llC t V u (decide (n=0)) (a':Int)from⟨qj,qh,qx,by rw[xL,HH.o,xL,qo.o];rfl⟩)];rfl};rw[yP (fun hc:llC t V u (decide (n=0)) (a':Int)=>by have h4:=hc.2.2.2;rw[xL,HH.o,xL,qo.o]at h4;cases h4)];rfl};have FA:=Hx (yP (fun hc:llC t V u (decide (n=0)) (a':Int)=>by (rcases hc.2.2.1 with h9|h9);{exact qI (of_decide_eq_true h9)};rw[hov2]at h9;cases h9));go_wp2;go_meet;rw[FA.o];exact⟨rfl,XX.o⟩};have qQ:decide (dV t a'=(u:Int))=false:=yP qh;have FA:=Hx (yP (fun hc:llC t V u (decide (n=0)) (a':Int)=>qh (by have h9:=hc.2.1;rw[xL]at h9;exact h9)));go_wp2;go_meet;rw[FA.o];exact⟨rfl,X5.o⟩};have FA:=Hx (yP (fun hc:llC t V u (decide (n=0)) a=>qj hc.1));rw[yP qj];go_wp2;go_meet;rw[FA.o];exact⟨rfl,X4.o⟩);obtain⟨rfl,qC⟩:=hcut;have X9:=Hx qC;clear qC;obtain⟨⟨i0,i1,i2⟩,_⟩:=(qi.o _ X9.o).t3;by_cases hc:llC t V u (decide (n=0)) a
   ·rw[yO hc];rw[qE hc]at NX;obtain⟨a',rfl⟩:=kQj hc.1.1;have qg:a'<2*t.links.length:=(by have:=hc.1.2;omega);obtain⟨qn,qk,qw,_⟩:=iE HV.o (sT.2 ⟨qg,by have h9:=hc.2.1;rw[xL]at h9;exact h9⟩);rw[xL]at NX;clear hc;obtain⟨h,qf⟩:=kQj qn;have HH:=Hx qf;have qJ:h<N:=(by rw[qf,qp.o]at qk;omega);have qU:(h:Int)<(N:Int):=qO;have qn:(0:Int)<=(h:Int):=qO;rw[qf,xL]at NX;clear qf qk qw;go_wp2_with fail
    refine(HD.o a' qO _ (XR.o.tr X9.o)).mono ?_;rintro e w7 ⟨rfl,x7⟩;have X7:=Hx (X9.o.tr x7);obtain⟨vb,qa⟩:∃vb,V[h]?=some vb:=⟨_,yG qO⟩;have vh:=aB X7.o (show wr.cell? (aD g h)=some (.bool vb)from(J.o.1.cell h).trans (jzfu V h _ qa));have B7:=J.o.1.K X7.o;have vf:=B7.frozen h;have B9:=B7.sT h (.bool true);rw[jzpy]at B9;have J9:=Hx (show Blk (w7.setCell (aD g h) (.bool true)) g 4 (cV (V.set h true)).toArray/\FrS (fun b=>b=g) W3 (w7.setCell (aD g h) (.bool true))/\llB t V0 S true x=llB t (V.set h true) h (decide (n+1=0)) (x.drop (n+1))from
     ⟨B9,(J.o.2.1.tr (eE (S:=fun b=>b=g) X7.o) fun b hb=>.inl hb).tr (eG (S:=fun b=>b=g) (aM w7 g h _) fun g e=>by injection e with e;exact e.symm) fun b hb=>.inl hb,by rw[J.o.2.2,NX.o];rfl⟩)
    rw[HH.o];clear x7 B7 B9 qa J qi NX;go_wp2;go_roundg (x.length-(n+1));exact⟨n+1,h,V.set h true,rfl,qO,rfl,by go_num,qJ,by rw[yV];exact q0,J9⟩;omega
   rw[yP hc];rw[qF hc]at NX;have qA:=Hx (show fS t x (S:Int) d=false by rw[HR.o,J.o.2.2,NX.o]);clear hc;go_wp2;go_ret;rw[qA.o];exact⟨rfl,XR.o.tr X9.o⟩
  obtain rfl:n=x.length:=qO;have hl:=J.o.2.2;rw[List.drop_length]at hl;have qA:=Hx (show fS t x (S:Int) d=decide ((u:Int)=d) by rw[HR.o,hl];rfl);go_wp2;go_ret;rw[qA.o];exact⟨rfl,XR.o⟩
 rw[yP hs];have HR:=Hx (show fS t x s d=false by unfold fS;rw[qp.o,yP hs];rfl);go_wp2;go_ret;rw[HR.o];exact⟨rfl,E1.o.2⟩
open Sx
def eH(p:bG):List UInt8:=nameL p.dem p.arcs
def mL(l:List Dm)(d:Nat):Int:=match l[d]? with
 |some x=>x.src
 |none=>0
def mM(l:List Dm)(d:Nat):Int:=match l[d]? with
 |some x=>x.dst
 |none=>0
def rtA(l:List Dm)(ks:List (List UInt8))(p:bG):Prop:=(0<=p.dem/\p.dem<(l.length:Int))/\eH p∉ks/\0<p.flow
instance(l:List Dm)(ks:List (List UInt8))(p:bG):Decidable (rtA l ks p):=by unfold rtA;infer_instance
def rtC(t:Tp)(l:List Dm)(ks:List (List UInt8))(p:bG):Prop:=rtA l ks p/\fS t p.arcs (mL l p.dem.toNat) (mM l p.dem.toNat)=true
instance(t:Tp)(l:List Dm)(ks:List (List UInt8))(p:bG):Decidable (rtC t l ks p):=by unfold rtC;infer_instance
def rtB(t:Tp)(l:List Dm):List (List UInt8)->LQ->List bG->Option (LQ)
 |_,sm,[]=>some sm
 |ks,sm,p::ps=>if rtC t l ks p then rtB t l (eH p::ks) (sm.set p.dem.toNat (at_ sm p.dem.toNat+p.flow)) ps else none
def gS(l:List Dm)(v:Rat)(sm:LQ)(n:Nat):Bool:=(List.range n).all fun d=>decide (at_ sm d=v*amQ l d)
def gJ(t:Tp)(ld:LQ)(n:Nat):Bool:=(List.range n).all fun a=>decide (at_ ld a<=aJ t a)
def fB(t:Tp)(l:List Dm)(v:Rat)(Z:List bG):Bool:=dA t l&&match rtB t l [] (List.replicate l.length 0) Z with
 |none=>false
 |some sm=>gS l v sm l.length&&gJ t (cT t Z).1 (cT t Z).1.length
theorem jzp1{t}{l:List Dm}{Z:List bG}{n:Nat}{p:bG}(hp:Z[n]?=some p)(ks:List (List UInt8))(sm:LQ):rtB t l ks sm (Z.drop n)=if rtC t l ks p then rtB t l (eH p::ks) (sm.set p.dem.toNat (at_ sm p.dem.toNat+p.flow)) (Z.drop (n+1))else none:=by
 obtain⟨hn,e⟩:=yH.1 hp;rw[kQ6 hn,e];rfl
theorem jzp2(l:List Dm)(v:Rat)(sm:LQ)(n:Nat):gS l v sm (n+1)=(gS l v sm n&&decide (at_ sm n=v*amQ l n)):=by
 unfold gS;rw[kZc,List.all_append];simp
theorem jzp3 t(ld:LQ)(n:Nat):gJ t ld (n+1)=(gJ t ld n&&decide (at_ ld n<=aJ t n)):=by
 unfold gJ;rw[kZc,List.all_append];simp
theorem jzfy{f:Nat->Bool}{n m:Nat}(h:f n=false)(hm:n<m):(List.range m).all f=false:=by
 rw[List.all_eq_false];exact⟨n,vX.2 hm,by rw[h];decide⟩
theorem jzp4{l:List Dm}{v:Rat}{sm:LQ}{n m:Nat}(h:¬at_ sm n=v*amQ l n)(hm:n<m):gS l v sm m=false:=jzfy (yP h) hm
theorem jzp5{t}{ld:LQ}{n m:Nat}(h:¬at_ ld n<=aJ t n)(hm:n<m):gJ t ld m=false:=jzfy (yP h) hm
theorem jzp6{t}(hv:aI t=true){x:List Int}{s d:Int}(h:fS t x s d=true):∀a∈x,0<=a/\a<((2*t.links.length:Nat):Int):=by
 (have qa:∀(x:List Int) (V:List Bool) (u:Nat) (first:Bool) (e:Nat),llB t V u first x=some e->∀a∈x,0<=a/\a<((2*t.links.length:Nat):Int):=fun x=>(by (induction x with|nil=>intro _ _ _ _ _ a ha;cases ha|cons b x ih=>(intro V u first e h a ha);(have h:(if llC t V u first b then llB t (V.set (aT t b.toNat).toNat true) (aT t b.toNat).toNat false x else none)=some e:=h;by_cases hc:llC t V u first b);{rw[qE hc]at h;(rcases xZ.1 ha with e1|e1);{rw[e1];exact hc.1};exact ih _ _ _ _ h a e1};rw[qF hc]at h;cases h)));(unfold fS at h;rw[vM]at h;cases hl:llB t ((List.replicate t.nodes.toNat false).set s.toNat true) s.toNat true x with|none=>rw[hl]at h;cases h.2|some e=>exact qa x _ _ _ _ hl)
theorem jzfz{t}{l:List Dm}:∀(Z:List bG) (ks:List (List UInt8)) (sm sm':LQ),rtB t l ks sm Z=some sm'->∀p∈Z,(0<=p.dem/\p.dem<(l.length:Int))/\0<p.flow/\fS t p.arcs (mL l p.dem.toNat) (mM l p.dem.toNat)=true
 | [],_,_,_,_,p,hp=>by cases hp
 |q::Z,ks,sm,sm',h,p,hp=>by
  have h:(if rtC t l ks q then rtB t l (eH q::ks) (sm.set q.dem.toNat (at_ sm q.dem.toNat+q.flow)) Z else none)=some sm':=h;by_cases hc:rtC t l ks q
  ·rw[qE hc]at h
   rcases xZ.1 hp with e|e
   ·subst e;exact⟨hc.1.1,hc.1.2.2,hc.2⟩
   ·exact jzfz Z _ _ _ h p e
  ·rw[qF hc]at h;cases h
theorem jzp7{t}(hv:aI t=true){Z:List bG}(h:∀p∈Z,∀a∈p.arcs,0<=a/\a<((2*t.links.length:Nat):Int)):(cT t Z).2=0:=by
 have kA:∀(f:Rat) (x:List Int) (ld:LQ),(∀a∈x,0<=a/\a<((2*t.links.length:Nat):Int))->∃qa,ldA (2*t.links.length) f ld x=some qa:=fun f x=>(by (induction x with|nil=>intro ld _;exact⟨ld,rfl⟩|cons a x ih=>intro ld h;obtain⟨qa,h'⟩:=ih (ld.set a.toNat (at_ ld a.toNat+f)) fun b hb=>h b (xO _ hb);refine⟨qa,?_⟩;show(if 0<=a/\a<((2*t.links.length:Nat):Int)then _ else none)=_;rw[qE (h a qS)];exact h'));have kP:∀(Z:List bG) (ld:LQ),(∀p∈Z,∀a∈p.arcs,0<=a/\a<((2*t.links.length:Nat):Int))->∃qa,ldP (2*t.links.length) ld Z=some qa:=fun Z=>(by (induction Z with|nil=>intro ld _;exact⟨ld,rfl⟩|cons p Z ih=>intro ld h;obtain⟨l1,h1⟩:=kA p.flow p.arcs ld (h p qS);obtain⟨l2,h2⟩:=ih l1 fun q hq=>h q (xO _ hq);refine⟨l2,?_⟩;show(match ldA (2*t.links.length) p.flow ld p.arcs with|none=>none|some qa=>ldP (2*t.links.length) qa Z)=_;rw[h1];exact h2));obtain⟨ld,h1⟩:=kP Z (List.replicate (2*t.links.length) 0) h;unfold cT;rw[qE hv,h1]
theorem jzf0(q:Rat):0<aE q↔0<q:=by
 have h:q.num=0↔q=0:=Rat.num_eq_zero;have h2:q.num<0↔q<0:=(by rw[<-Int.not_le,Rat.num_nonneg,Rat.not_le]);unfold aE;constructor;{intro h3;split at h3;{exact absurd h3 qD};split at h3;{exact absurd h3 qD};rename_i h4 h5;have h6:¬q<0:=fun h=>h5 (h2.2 h);have h7:¬q=0:=fun h'=>h4 (h.2 h');grind};intro h3;have h4:¬q.num=0:=fun h'=>(by rw[h.1 h']at h3;exact absurd h3 qD);have h5:¬q.num<0:=fun h'=>(by have:=h2.1 h';grind);rw[qF h4,qF h5];decide
end Go.Proofs.YtojpooidhilnfaaGreatDoor
namespace Go.Proofs.YtojpooidhilnfaaGreatDoor
open Go.Proofs.Tryz
open Go.RowKit
structure AdI(W3 wx:World)(t:Tp)(l:List Dm)(Z:List bG)(mb g P n:Nat)(ks:List (List UInt8))(sm:LQ):Prop where
 map:MpS wx mb n ks
 qb:QB wx g sm
 fr:FrS (fun b=>b=mb\/b=g) W3 wx
 eq:rtB t l [] (List.replicate l.length 0) Z=rtB t l ks sm (Z.drop n)
 len:sm.length=l.length
 sz:∀q∈sm,SzQ q (1+n*(P+1))
theorem AdI.K{W3 wx wy}{t}{l:List Dm}{Z:List bG}{mb g P n:Nat}{ks:List (List UInt8)}{sm:LQ}(h:AdI W3 wx t l Z mb g P n ks sm)(hx:Ext wx wy):AdI W3 wy t l Z mb g P n ks sm:=
 ⟨h.map.K hx,h.qb.K hx,h.fr.tr (eE (S:=fun b=>b=mb\/b=g) hx) fun b hb=>.inl hb,h.eq,h.len,h.sz⟩
theorem jzp8(l:List UInt8):(⟨l.toArray⟩:ByteArray).size=l.length:=by show l.toArray.size=_;simp
theorem jzf1 t AO(co:Nat)AL(cl:Nat)(l:List Dm)AD(cd:Nat)(v:Rat)(nv:Bool)V1(nv1 cv1:Nat)V2(nv2 cv2:Nat)(Z:List bG)PA(np cp:Nat)(hnp:Z.length=np)PR(nr cr P:Nat)w(ht:bH w t AO co AL cl)(hd:DmR w l AD cd)(hlD:l.length<=64)(vo:aC w nv V1 nv1 cv1 V2 nv2 cv2 v)(vh:SzQ v 1000000)(hp:PLr w PA Z)
  (hnl:np<=1000) (ve:∀p∈Z,SzQ p.flow P) (hP1:1<=P) (vi:∀p∈Z,p.arcs.length<=1000) (qI:∀p∈Z,i64 p.dem/\∀a∈p.arcs,i64 a) (hPb:P<=10000) (hK:1+cX Z*(P+1)<=50000000) (hta:Tab w):
  Calls prog 69 #[.agg #[vI t.nodes,.s AO t.over.length co,.s AL t.links.length cl],.s AD l.length cd,.agg #[.bool nv,.s V1 nv1 cv1,.s V2 nv2 cv2,.s PA np cp,.s PR nr cr]] w fun e w'=>e=.returned (.bool (fB t l v Z))/\Ext w w':=by
 have HT:=Hx (kQa ht hd);have HZ:=Hx (kQa hp (kQa ve (kQa vi qI)));have HV:=Hx (kQa vo vh);have vL:=Hx hta;have za:=hd.len;have zb:=ht.ll;have ze:=ht.cl;obtain⟨vc,vw,e0⟩:=dU w #[vI t.nodes,.s AO t.over.length co,.s AL t.links.length cl] 25 #[.bool nv,.s V1 nv1 cv1,.s V2 nv2 cv2,.s PA np cp,.s PR nr cr] 39;obtain⟨⟨i0,i1,i2⟩,_⟩:=vc.t3;have E0:=Hx (kQa vc (kQa vw e0));clear ht hd vo vh hp ve vi qI hta vc vw e0;go_enter func69,ntmps69;go_wp2_with fail;refine(jzet t AO co AL cl l AD cd _ (HT.o.1.K E0.o.2.2) (HT.o.2.K E0.o.2.2)).mono ?_;rintro e w1 ⟨rfl,q3⟩;have E1:Hid (Blk w1 w.heap.size 25 #[vI t.nodes,.s AO t.over.length co,.s AL t.links.length cl]/\Blk w1 (w.heap.size+1) 39 #[.bool nv,.s V1 nv1 cv1,.s V2 nv2 cv2,.s PA np cp,.s PR nr cr]/\Ext w w1):=Hx (⟨E0.o.1.K q3,E0.o.2.1.K q3,E0.o.2.2.tr q3⟩);clear q3 i0 i1 i2 E0;cases hf:dA t l;{have qh:=Hx (show fB t l v Z=false by unfold fB;rw[hf];rfl);go_wp2;go_ret;rw[qh.o];exact⟨rfl,E1.o.2.2⟩}
 have qm:=Hx ((nT hlD).1 hf);have HR:=Hx (show fB t l v Z=match rtB t l [] (List.replicate l.length 0) Z with
  |none=>false
  |some sm=>gS l v sm l.length&&gJ t (cT t Z).1 (cT t Z).1.length by unfold fB;rw[hf];rfl)
 clear hf;have v5:=mG l.length qO;have vY:∀W:World,(Instr.makeMap 101 none).run prog W=.ok (.map (some W.heap.size)) (W.alloc (.map #[] 0)):=fun W=>rfl;have c3:w1.cell? (aD (w.heap.size+1) 3)=some (.s PA np cp):=E1.o.2.1.cell 3;(go_upto_region 5 with fail);have vg:(w1.alloc (.map #[] 0)).heap.size=w1.heap.size+1:=qS;have M3:Hid (MpS ((w1.alloc (.map #[] 0)).alloc (.cells (madeCells rV (l.length*3)) 35)) w1.heap.size 0 []):=Hx ((MpS.made w1).K ((eR _).alloc _));have Q3:Hid (QB ((w1.alloc (.map #[] 0)).alloc (.cells (madeCells rV (l.length*3)) 35)) (w1.heap.size+1) (List.replicate l.length 0)):=Hx (by have:=QB.made (w1.alloc (.map #[] 0)) l.length;rw[vg]at this;exact this);have X3:Hid (Ext w1 ((w1.alloc (.map #[] 0)).alloc (.cells (madeCells rV (l.length*3)) 35))):=Hx (((eR w1).alloc _).alloc _);have v8:w.heap.size+1<w1.heap.size:=E1.o.2.1.lt;clear vY v5 vg c3;generalize (w1.alloc (.map #[] 0)).alloc (.cells (madeCells rV (l.length*3)) 35)=W3 at*;generalize hmb:w1.heap.size=mb at*;have E3:Hid (Blk W3 w.heap.size 25 #[vI t.nodes,.s AO t.over.length co,.s AL t.links.length cl]/\Blk W3 (w.heap.size+1) 39 #[.bool nv,.s V1 nv1 cv1,.s V2 nv2 cv2,.s PA np cp,.s PR nr cr]/\Ext w W3):=Hx (⟨E1.o.1.K X3.o,E1.o.2.1.K X3.o,E1.o.2.2.tr X3.o⟩);have I0:Hid (AdI W3 W3 t l Z mb (mb+1) P 0 [] (List.replicate l.length 0)):=Hx (⟨M3.o,Q3.o,FrS.refl _ _,rfl,xC,fun q hq=>by rw[uF hq];exact SzQ.zero.mono qO⟩);have c3:W3.cell? (aD (w.heap.size+1) 3)=some (.s PA np cp):=E3.o.2.1.cell 3;clear M3 Q3 E1 X3;go_wp2;clear c3;go_loopg [10,11,29] np (fun q _ _ it wx=>∃(n:Nat) (ks:List (List UInt8)) (sm:LQ),np-n=q/\n<=np/\it=vI (n:Int)/\Hid (AdI W3 wx t l Z mb (mb+1) P n ks sm));exact⟨0,[],_,rfl,yZ _,rfl,I0⟩;obtain⟨n,ks,sm,rfl,hn,rfl,I⟩:=hrel;clear I0;have XW:Hid (Ext w wr):=Hx (I.o.fr.ext E3.o.2.2 fun b hb=>qO);by_cases vH:n<np
 ·obtain⟨p,hp⟩:∃p,Z[n]?=some p:=⟨_,yG qO⟩;obtain⟨b,o,AA,ca,neg,A1,n1,c1,A2,n2,c2,rfl,hb,⟨a0,a1,a2,a3,a4⟩,vJ,qB,vp⟩:=PLr.at5 HZ.o.1 hp;have a0:=aB XW.o a0;have a1:=aB XW.o a1;have a2:=aB XW.o a2;have a3:=aB XW.o a3;have a4:=aB XW.o a4;have hb:b<wr.heap.size:=yL hb XW.o.size;have q6:=yJ hp;have zd:p.arcs.length<=1000:=HZ.o.2.2.1 p q6;have qw:=Hx q6;have nN:(n:Int)<(np:Int):=qO;have n0:(0:Int)<=(n:Int):=qO;have RA:=Hx (kQa qB vp);have X8:Hid (Ext wr (wr.alloc (.cells #[vI p.dem,.s AA p.arcs.length ca,.bool neg,.s A1 n1 c1,.s A2 n2 c2] 87))):=Hx ((eR wr).alloc _);have B8:=Hx (eN wr 87 #[vI p.dem,.s AA p.arcs.length ca,.bool neg,.s A1 n1 c1,.s A2 n2 c2]);have NX:=Hx (jzp1 (t:=t) (l:=l) hp ks sm);clear hp qB vp q6;go_upto_region 8 with fail
  clear a0 a1 a2 a3 a4;generalize wr.alloc (.cells #[vI p.dem,.s AA p.arcs.length ca,.bool neg,.s A1 n1 c1,.s A2 n2 c2] 87)=W8 at*;generalize hbd:wr.heap.size=bd at*;have qz:Hid (Ext w W8):=Hx (XW.o.tr X8.o);have I8:=Hx (I.o.K X8.o);have qY:=Hx (show∀wx,Ext W8 wx->Calls prog 94 #[.agg #[vI p.dem,.s AA p.arcs.length ca,.bool neg,.s A1 n1 c1,.s A2 n2 c2]] wx fun e w'=>e=.returned (.string ⟨(eH p).toArray⟩)/\Ext wx w' from fun wx hx=>
   jzen p.dem p.arcs AA p.arcs.length ca rfl neg A1 n1 c1 A2 n2 c2 wx (vL.o.K (qz.o.tr hx)) (RA.o.1.K (qz.o.tr hx)) qO (HZ.o.2.2.2 p qw.o).1 (HZ.o.2.2.2 p qw.o).2)
  have vq:Hid ((⟨(eH p).toArray⟩:ByteArray).size<=maxLen):=Hx (by rw[jzp8];have h1:=jzq p.dem p.arcs (HZ.o.2.2.2 p qw.o).1 (HZ.o.2.2.2 p qw.o).2;have h2:(eH p).length<=20+21*p.arcs.length:=h1;unfold maxLen;omega);have LK:Hid (∀wx,Ext W8 wx->(Instr.lookup 101 (.map (some mb)) (.string ⟨(eH p).toArray⟩) false).run prog wx=.ok (.bool (decide (eH p∈ks))) wx):=Hx (fun wx hx=>(I8.o.map.K hx).look ⟨(eH p).toArray⟩ vq.o);have C8:Hid (∀wx,Ext W8 wx->wx.cell? (aD bd 0)=some (vI p.dem)/\wx.cell? (aD bd 1)=some (.s AA p.arcs.length ca)/\wx.cell? (aD bd 2)=some (.bool neg)/\wx.cell? (aD bd 3)=some (.s A1 n1 c1)/\wx.cell? (aD bd 4)=some (.s A2 n2 c2)):=Hx (fun wx hx=>⟨(B8.o.K hx).cell 0,(B8.o.K hx).cell 1,(B8.o.K hx).cell 2,(B8.o.K hx).cell 3,(B8.o.K hx).cell 4⟩);obtain⟨b0,b1,b2,b3,b4⟩:=C8.o _ (eR W8);go_cut [54] (fun s wx=>s=.bool (!decide (rtA l ks p))/\Ext W8 wx);(case first=>by_cases h1:p.dem<0;{have FA:=Hx (yP (fun h:rtA l ks p=>by have:=h.1.1;omega));have v7:decide (p.dem<0)=true:=yO h1;go_wp2;go_meet;rw[FA.o];exact⟨rfl,eR _⟩};by_cases h2:(l.length:Int)<=p.dem;{have FA:=Hx (yP (fun h:rtA l ks p=>by have:=h.1.2;omega));go_wp2;go_meet;rw[FA.o];exact⟨rfl,eR _⟩};have v2:Hid (0<=p.dem/\p.dem<(l.length:Int)):=Hx (⟨qO,qO⟩);go_wp2_with fail;refine(qY.o _ (eR _)).mono ?_;rintro e w4 ⟨rfl,x4⟩;have X4:=Hx x4;obtain⟨b0,b1,b2,b3,b4⟩:=C8.o _ x4;clear x4;by_cases h3:eH p∈ks;{have q5:decide (eH p∈ks)=true:=yO h3;have FA:=Hx (yP (fun h:rtA l ks p=>h.2.1 h3));have q7:=LK.o _ X4.o;rw[q5]at q7;go_wp2;go_meet;rw[FA.o];exact⟨rfl,X4.o⟩};have q5:decide (eH p∈ks)=false:=yP h3;have q7:=LK.o _ X4.o;rw[q5]at q7;go_wp2_with fail;refine(bW neg A1 n1 c1 A2 n2 c2 p.flow _ (RA.o.2.K (qz.o.tr X4.o))).mono ?_;rintro e w5 ⟨rfl,x5⟩;have X5:=Hx (X4.o.tr x5);clear x5;by_cases h5:0<p.flow;{have h6:=(jzf0 p.flow).2 h5;have FA:=Hx (yO (show rtA l ks p from⟨v2.o,h3,h5⟩));have h7:decide (aE p.flow<=0)=false:=yP qO;go_wp2;go_meet;rw[FA.o];exact⟨rfl,X5.o⟩};have h6:aE p.flow<=0:=Int.not_lt.1 fun h=>h5 ((jzf0 p.flow).1 h);have FA:=Hx (yP (fun h:rtA l ks p=>h5 h.2.2));have h7:decide (aE p.flow<=0)=true:=yO h6;go_wp2;go_meet;rw[FA.o];exact⟨rfl,X5.o⟩);obtain⟨rfl,vu⟩:=hcut;have X9:=Hx vu;clear vu;by_cases hc:rtA l ks p
  ·rw[yO hc];have HC:=Hx hc;obtain⟨d,hd⟩:=kQj hc.1.1;have qo:d<l.length:=(by have:=hc.1.2;omega);have HD:=Hx hd;obtain⟨b0,b1,b2,b3,b4⟩:=C8.o _ X9.o;clear hc hd;go_wp2_with fail;refine(qY.o _ X9.o).mono ?_;rintro e v1 ⟨rfl,vl⟩;have qX:=Hx (X9.o.tr vl);clear vl b0 b1 b2 b3 b4;go_wp2_with (at_mapUpdate;refine jzno rfl _ _ _ rfl mb n ks rfl (I8.o.map.K qX.o) (by unfold maxLen;omega) ⟨(eH p).toArray⟩ rfl vq.o rfl ?_)
   intro qg qQ qT;have q1:FrS (fun b=>b=mb) v1 qg:=eG qT fun g e=>(by injection e with e;exact e.symm);have vO:=I8.o.map.lt;have vd:=Hx (q1.blk (B8.o.K qX.o) (by have:=I.o.map.lt;omega));have qW:=Hx (show MpS qg mb (n+1) (eH p::ks)/\QB qg (mb+1) sm/\FrS (fun b=>b=mb\/b=mb+1) W3 qg from
    ⟨qQ,(I8.o.qb.K qX.o).fr q1 ((I8.o.map.K qX.o).noT _) qO,(I8.o.K qX.o).fr.tr q1 fun b hb=>.inl (.inl hb)⟩)
   have qe:Hid (Ext w qg):=Hx (qW.o.2.2.ext E3.o.2.2 fun b hb=>qO);have v4:Hid (Blk qg w.heap.size 25 #[vI t.nodes,.s AO t.over.length co,.s AL t.links.length cl]):=Hx (qW.o.2.2.blk E3.o.1 qO);obtain⟨dm,q8⟩:∃dm,l[d]?=some dm:=⟨_,yG qo⟩;obtain⟨b',o',rfl,qM,a0,a1,a2,a3⟩:=HT.o.2.at_ q8;have a0:=aB qe.o a0;have a1:=aB qe.o a1;have a2:=aB qe.o a2;have a3:=aB qe.o a3;have qM:b'<qg.heap.size:=yL qM qe.o.size;have qZ:Hid (mL l p.dem.toNat=dm.src/\mM l p.dem.toNat=dm.dst):=Hx (by rw[HD.o,xL];unfold mL mM;rw[q8];exact⟨rfl,rfl⟩);have d0:(0:Int)<=(d:Int):=qO;have dN:(d:Int)<(l.length:Int):=qO;have b0:qg.cell? (aD bd 0)=some (vI (d:Int)):=(by have h9:=vd.o.cell 0;rw[<-HD.o];exact h9);have q0:Hid (Ext qg (qg.alloc (.cells #[vI dm.src,vI dm.dst,vI dm.amount,vI dm.prio] 27))):=Hx ((eR qg).alloc _);have vG:=Hx (eN qg 27 #[vI dm.src,vI dm.dst,vI dm.amount,vI dm.prio]);clear qQ qT q1 q8;(go_upto_region 12 with fail);clear a0 a1 a2 a3 b0;generalize qg.alloc (.cells #[vI dm.src,vI dm.dst,vI dm.amount,vI dm.prio] 27)=W12 at*;generalize hbe:qg.heap.size=be at*;have c0:=vG.o.cell 0;have v3:=vG.o.cell 1;have b1:=(vd.o.K q0.o).cell 1;obtain⟨⟨i0,i1,i2⟩,_⟩:=(v4.o.K q0.o).t3;have qU:=Hx (qe.o.tr q0.o);go_wp2_with fail;refine(jzfx t AO co AL cl AA ca p.arcs dm.src dm.dst _ (HT.o.1.K qU.o) qm.o.v (RA.o.1.K qU.o) qO vJ).mono ?_;rintro e qk ⟨rfl,vt⟩;have qp:=Hx (q0.o.tr vt);clear vt c0 v3 b1 i0 i1 i2;cases hlb:fS t p.arcs dm.src dm.dst;{have qh:=Hx (show fB t l v Z=false by rw[HR.o,I.o.eq,NX.o,qF (fun h:rtC t l ks p=>by have h9:=h.2;rw[qZ.o.1,qZ.o.2,hlb]at h9;cases h9)]);go_wp2;go_ret;rw[qh.o];exact⟨rfl,qe.o.tr qp.o⟩};have vR:Hid (rtB t l ks sm (Z.drop n)=rtB t l (eH p::ks) (sm.set d (Sx.at_ sm d+p.flow)) (Z.drop (n+1))):=Hx (by rw[NX.o,qE (show rtC t l ks p from⟨HC.o,by rw[qZ.o.1,qZ.o.2];exact hlb⟩),HD.o,xL])
   have qx:=Hx (show MpS qk mb (n+1) (eH p::ks)/\QB qk (mb+1) sm/\FrS (fun b=>b=mb\/b=mb+1) W3 qk from
    ⟨qW.o.1.K qp.o,qW.o.2.1.K qp.o,qW.o.2.2.tr (eE (S:=fun b=>b=mb\/b=mb+1) qp.o) fun b hb=>.inl hb⟩)
   have qH:=Hx (vd.o.K qp.o);obtain⟨ny,Y1,my,fy,qV,qJ,qC,⟨s0,s1,s2⟩,_,hy⟩:=qx.o.2.1.at_ (aV (show d<sm.length by rw[I.o.len];exact qo));have qj:=(I.o.sz _ (yJ (aV (show d<sm.length by rw[I.o.len];exact qo))));have qf:1+n*(P+1)<=100000000:=(by have h1:n*(P+1)<=1000*(10000+1):=kQq qO qO;omega)
   obtain⟨l1,vy⟩:=hy.lens (qj.mono qf);obtain⟨l2,vF⟩:=RA.o.2.lens (HZ.o.2.1 p qw.o);have RF:=Hx (kQa hy (RA.o.2.K (qe.o.tr qp.o)));have qa:=Hx (show∀wx,Ext qk wx->(wx.cell? (aD bd 0)=some (vI (d:Int))/\wx.cell? (aD bd 2)=some (.bool neg)/\wx.cell? (aD bd 3)=some (.s A1 n1 c1)/\wx.cell? (aD bd 4)=some (.s A2 n2 c2))/\(wx.cell? (aD (mb+1) (d*3))=some (.bool ny)/\wx.cell? (aD (mb+1) (d*3+1))=some (.s Y1 my fy)/\wx.cell? (aD (mb+1) (d*3+2))=some (.s qV qJ qC))from fun wx hx=>
    ⟨⟨by
      have h9:=(qH.o.K hx).cell 0;rw[<-HD.o];exact h9,(qH.o.K hx).cell 2,(qH.o.K hx).cell 3,(qH.o.K hx).cell 4⟩,aB hx s0,aB hx s1,aB hx s2⟩)
   have XD:Hid (Ext qk qk.drew):=Hx ((eR qk).drewN 1);have HSW:=Hx (qa.o _ XD.o);clear hy s0 s1 s2 hlb qj;(go_upto_region 14 with fail);(refine wX qa 12 ?_;refine wP 0 rfl HSW.o ?_;try simp only[qP]);refine wP 1 rfl HSW.o ?_;refine wP 3 rfl HSW.o ?_;refine wP 4 rfl HSW.o ?_;refine wP 8 rfl HSW.o ?_;refine wV 2 rfl HSW.o ?_;refine wV 5 rfl HSW.o ?_;refine wP 6 rfl HSW.o ?_;refine wV 7 rfl HSW.o ?_;(refine wV 9 rfl HSW.o ?_;try simp only[qP]);refine wC 10 rfl (fun KK hK=>?_);go_simp;refine(gT ny neg Y1 my fy qV qJ qC A1 n1 c1 A2 n2 c2 (Sx.at_ sm d) p.flow _ (RF.o.1.K XD.o) (RF.o.2.K XD.o) qO qO qO qO (fW (kQx (kQ7 _) (kQ7 _)))).mono ?_;rintro e w5 ⟨n5,A5,l5,c5,qt,qy,qn,rfl,h5,x5⟩;have E5:=Hx (XD.o.tr x5);have HSW:=Hx (qa.o _ E5.o);have Q5:=Hx (qx.o.2.1.K E5.o);have k9:FrS (fun b=>b=mb+1) w5 (((w5.setCell (aD (mb+1) (d*3)) (.bool n5)).setCell (aD (mb+1) (d*3+1)) (.s A5 l5 c5)).setCell (aD (mb+1) (d*3+2)) (.s qt qy qn)):=eG (S:=fun b=>b=mb+1) (fH w5 (mb+1) (d*3) _ _ _) fun g e=>(by injection e with e;exact e.symm);have QP:Hid (AdI W3 (((w5.setCell (aD (mb+1) (d*3)) (.bool n5)).setCell (aD (mb+1) (d*3+1)) (.s A5 l5 c5)).setCell (aD (mb+1) (d*3+2)) (.s qt qy qn)) t l Z mb (mb+1) P (n+1) (eH p::ks) (sm.set d (Sx.at_ sm d+p.flow))):=Hx (by (have vW:=(qx.o.1.K E5.o).lt;refine⟨(qx.o.1.K E5.o).same (k9.block mb vW qO),Q5.o.put (by rw[I.o.len];exact qo) h5,(qx.o.2.2.tr (eE (S:=fun b=>b=mb\/b=mb+1) E5.o) fun b hb=>.inl hb).tr k9 fun b hb=>.inl (.inr hb),by rw[I.o.eq,vR.o],by rw[yV];exact I.o.len,fun q hq=>?_⟩;have e9:1+(n+1)*(P+1)=1+n*(P+1)+(P+1):=(by rw[xP,xQ,kZw]);rcases xE hq with h1|h1);{exact(I.o.sz q h1).mono qO};rw[h1,e9];exact((I.o.sz _ (yJ (aV (show d<sm.length by rw[I.o.len];exact qo)))).add (HZ.o.2.1 p qw.o)).mono qO);(obtain⟨_,_,_,_,_,_,_,_,⟨z0,z1,z2⟩,_⟩:=Q5.o.at_ (aV (show d<sm.length by rw[I.o.len];exact qo));refine hK.o _ _ HSW.o ?_;clear hK KK x5 h5;try simp only[qP]);(refine wP 11 rfl HSW.o ?_;try simp only[qP]);obtain⟨⟨s0,s1,s2,s3⟩,t0,t1,t2⟩:=HSW.o;refine cY qK rfl qR (fun KK hK=>?_);go_simp;refine hK.o _ _ ?_;clear hK KK;refine wpAny_done qK ?_ _;clear s0 s1 s2 s3 t0 t1 t2 z0 z1 z2 HSW qa XD RF qH Q5 E5 qx k9 I;go_wp2;go_roundg (np-(n+1));exact⟨n+1,_,_,rfl,qO,by go_num,QP⟩;omega
  rw[yP hc];have qh:=Hx (show fB t l v Z=false by rw[HR.o,I.o.eq,NX.o,qF (fun h:rtC t l ks p=>hc h.1)]);clear hc;go_wp2;go_ret;rw[qh.o];exact⟨rfl,qz.o.tr X9.o⟩
 obtain rfl:n=np:=qO;have vj:Hid (rtB t l [] (List.replicate l.length 0) Z=some sm):=Hx (by rw[I.o.eq,kQf qO];rfl);have vk:Hid (fB t l v Z=(gS l v sm l.length&&gJ t (cT t Z).1 (cT t Z).1.length)):=Hx (by rw[HR.o,vj.o]);obtain⟨W9,rfl⟩:∃W,W=wr:=⟨_,rfl⟩;have S0:Hid (Ext W9 W9/\gS l v sm 0=true):=Hx (⟨eR _,rfl⟩);go_wp2;go_loopg [12,13,87] l.length (fun q _ _ it wx=>∃(k:Nat),l.length-k=q/\k<=l.length/\it=vI (k:Int)/\Hid (Ext W9 wx/\gS l v sm k=true));exact⟨0,rfl,yZ _,rfl,S0⟩;obtain⟨k,rfl,hk,rfl,S⟩:=hrel;clear S0;by_cases qi:k<l.length
 ·obtain⟨d,hd⟩:∃d,l[k]?=some d:=⟨_,yG qi⟩;have XS:=Hx (XW.o.tr S.o.1);obtain⟨b',o',rfl,qM,a0,a1,a2,a3⟩:=HT.o.2.at_ hd;have a0:=aB XS.o a0;have a1:=aB XS.o a1;have a2:=aB XS.o a2;have a3:=aB XS.o a3;have qM:b'<wr.heap.size:=yL qM XS.o.size;have AM:Hid (amQ l k=(d.amount:Rat)/\i64 d.amount/\SzQ (d.amount:Rat) 1):=Hx (by obtain⟨_,_,_,h4,h5,h6⟩:=qm.o.am qi;have e:l[k]=d:=(yH.1 hd).2;rw[e]at h4 h5 h6;exact⟨h4,by unfold i64;omega,SzQ.int (by unfold B32;omega)⟩);have nN:(k:Int)<(l.length:Int):=qO;have n0:(0:Int)<=(k:Int):=qO;have X8:Hid (Ext wr (wr.alloc (.cells #[vI d.src,vI d.dst,vI d.amount,vI d.prio] 27))):=Hx ((eR wr).alloc _);have B8:=Hx (eN wr 27 #[vI d.src,vI d.dst,vI d.amount,vI d.prio]);clear hd;(go_upto_region 19 with fail);clear a0 a1 a2 a3;generalize wr.alloc (.cells #[vI d.src,vI d.dst,vI d.amount,vI d.prio] 27)=W8 at*;generalize hbd:wr.heap.size=bd at*;have q9:=Hx (S.o.1.tr X8.o);have qz:=Hx (XS.o.tr X8.o);have Q8:=Hx (I.o.qb.K q9.o);have P8:=Hx ((I.o.fr.blk E3.o.2.1 qO).K q9.o);obtain⟨ny,Y1,my,fy,qV,qJ,qC,⟨s0,s1,s2⟩,_,hy⟩:=Q8.o.at_ (aV (show k<sm.length by rw[I.o.len];exact qi));have qj:=I.o.sz _ (yJ (aV (show k<sm.length by rw[I.o.len];exact qi)));have qf:1+n*(P+1)<=100000000:=(by have h1:n*(P+1)<=1000*(10000+1):=kQq qO qO;omega)
  obtain⟨l1,vy⟩:=hy.lens (qj.mono qf);obtain⟨l2,vF⟩:=HV.o.1.lens HV.o.2;have RY:=Hx hy;have qa:=Hx (show∀wx,Ext W8 wx->(wx.cell? (aD (mb+1) (k*3))=some (.bool ny)/\wx.cell? (aD (mb+1) (k*3+1))=some (.s Y1 my fy)/\wx.cell? (aD (mb+1) (k*3+2))=some (.s qV qJ qC))/\(wx.cell? (aD (w.heap.size+1) 0)=some (.bool nv)/\wx.cell? (aD (w.heap.size+1) 1)=some (.s V1 nv1 cv1)/\wx.cell? (aD (w.heap.size+1) 2)=some (.s V2 nv2 cv2))/\wx.cell? (aD bd 2)=some (vI d.amount)from fun wx hx=>
   ⟨⟨aB hx s0,aB hx s1,aB hx s2⟩,⟨(P8.o.K hx).cell 0,(P8.o.K hx).cell 1,(P8.o.K hx).cell 2⟩,(B8.o.K hx).cell 2⟩)
  (have XD:Hid (Ext W8 W8.drew):=Hx ((eR W8).drewN 1);have HSW:=Hx (qa.o _ XD.o);clear hy s0 s1 s2 qj;refine wX qa 10 ?_;refine wP 0 rfl HSW.o ?_;try simp only[qP]);refine wP 1 rfl HSW.o ?_;refine wP 2 rfl HSW.o ?_;refine wV 3 rfl HSW.o ?_;refine wP 4 rfl HSW.o ?_;refine wU [10,9] 5 rfl HSW.o ?_;refine wP 6 rfl HSW.o ?_;(refine wU [10,9,8] 7 rfl HSW.o ?_;try simp only[qP]);(refine wC 8 rfl (fun KK hK=>?_);go_simp;refine(kV d.amount _ AM.o.2.1).mono ?_;rintro e w4 ⟨n4,A4,l4,c4,vU,v0,vT,rfl,h4,x4⟩;have E4:=Hx (XD.o.tr x4);have HSW:=Hx (qa.o _ E4.o);have R4:=Hx h4;obtain⟨l3,zc⟩:=h4.lens AM.o.2.2;refine hK.o _ _ HSW.o ?_;clear hK KK x4 h4;try simp only[qP]);(refine wC 9 rfl (fun KK hK=>?_);go_simp;refine(iL nv n4 V1 nv1 cv1 V2 nv2 cv2 A4 l4 c4 vU v0 vT v (d.amount:Rat) _ (HV.o.1.K (qz.o.tr E4.o)) R4.o qO qO qO qO).mono ?_;rintro e w5 ⟨n5,A5,l5,c5,qt,qy,qn,rfl,h5,x5⟩;have E5:=Hx (E4.o.tr x5);have HSW:=Hx (qa.o _ E5.o);have R5:=Hx h5;obtain⟨l6,v6⟩:=h5.lens (HV.o.2.mul AM.o.2.2);refine hK.o _ _ HSW.o ?_;clear hK KK x5 h5;try simp only[qP]);(refine cY qK rfl qR (fun KK hK=>?_);go_simp;refine(fM ny n5 Y1 my fy qV qJ qC A5 l5 c5 qt qy qn (Sx.at_ sm k) (v*(d.amount:Rat)) _ (RY.o.K E5.o) R5.o qO qO qO qO).mono ?_;rintro e w6 ⟨rfl,x6⟩;have X6:=Hx (q9.o.tr (E5.o.tr x6));refine hK.o _ _ ?_;have SK:=Hx S.o.2;clear hK KK x6 HSW qa XD E5 R5 E4 R4 S;try simp only[qP]);refine mU (i:=11) qK rfl qR (fun KK hK=>?_);go_simp;refine hK.o _ _ ?_;clear hK KK;refine wpAny_done qK ?_ _;by_cases he:Sx.at_ sm k=v*(d.amount:Rat);{have hz:=(pM _ _).2 he;have va:Hid (Ext W9 w6/\gS l v sm (k+1)=true):=Hx (⟨X6.o,by rw[jzp2,SK.o,AM.o.1,yO he];rfl⟩);generalize aU (Sx.at_ sm k) (v*(d.amount:Rat))=z at*;subst hz;clear he SK;go_wp2;go_roundg (l.length-(k+1));exact⟨k+1,rfl,qO,by go_num,va⟩;omega};have hz:¬aU (Sx.at_ sm k) (v*(d.amount:Rat))=0:=fun h=>he ((pM _ _).1 h);have qh:=Hx (show fB t l v Z=false by rw[vk.o,jzp4 (n:=k) (by rw[AM.o.1];exact he) qi];rfl);have XF:=Hx (XW.o.tr X6.o);generalize aU (Sx.at_ sm k) (v*(d.amount:Rat))=z at*;have z1:(z !=0)=true:=(by simpa using hz);have z2:(z==0)=false:=yK.2 hz;have z3:decide (z=0)=false:=yP hz;clear he SK;go_wp2;go_ret;rw[qh.o];exact⟨rfl,XF.o⟩
 obtain rfl:k=l.length:=qO;have XS:=Hx (XW.o.tr S.o.1);have T9:=Hx ((I.o.fr.blk E3.o.1 qO).K S.o.1);have c3:=((I.o.fr.blk E3.o.2.1 qO).K S.o.1).cell 3;obtain⟨⟨i0,i1,i2⟩,_⟩:=T9.o.t3;have vn:Hid (fB t l v Z=gJ t (cT t Z).1 (cT t Z).1.length):=Hx (by rw[vk.o,S.o.2];rfl);have vm:=Hx (jzp7 qm.o.v fun p hp=>jzp6 qm.o.v (jzfz Z _ _ _ vj.o p hp).2.2);have vZ:=Hx (jzpv (t:=t) HZ.o.2.1);have v9:=(jzpw vm.o).2.1;have vz:t.links.length<=256:=(by have:=qm.o.v;unfold aI cN at this;simp at this;exact this.1.1.2);go_wp2_with fail;refine(jzog t AO co AL cl Z PA n cp P hnp _ (HT.o.1.K XS.o) (HZ.o.1.K XS.o fun cs x h=>h.K XS.o) qO HZ.o.2.1 hP1 (fun p hp=>by have:=HZ.o.2.2.1 p hp;omega) hK qO).mono ?_;rintro e w2 ⟨A,rfl,vx,q4⟩;have X2:=Hx (XS.o.tr q4);have T2:=Hx (T9.o.K q4);have vK:=Hx vx;rw[vm.o];generalize hld:(cT t Z).1=ld at*;have L0:Hid (Ext w2 w2/\gJ t ld 0=true):=Hx (⟨eR _,rfl⟩);clear vx q4 i0 i1 i2 c3 T9 XS S I;go_wp2;go_loopg [16,17,114] ld.length (fun q _ _ it wx=>∃(k:Nat),ld.length-k=q/\k<=ld.length/\it=vI (k:Int)/\Hid (Ext w2 wx/\gJ t ld k=true));exact⟨0,rfl,yZ _,rfl,L0⟩;obtain⟨k,rfl,hk,rfl,S⟩:=hrel;clear L0;by_cases qi:k<ld.length
 ·obtain⟨b,o,neg,A1,n1,c1,A2,n2,c2,rfl,hb,a0,a1,a2,qB⟩:=vK.o.at_ (aV qi);have a0:=aB S.o.1 a0;have a1:=aB S.o.1 a1;have a2:=aB S.o.1 a2;have hb:b<wr.heap.size:=yL hb S.o.1.size;have RA:=Hx (qB.K S.o.1);have qj:=(vZ.o _ (yJ (aV qi))).mono hK;have nN:(k:Int)<(ld.length:Int):=qO;have n0:(0:Int)<=(k:Int):=qO;have X8:Hid (Ext wr (wr.alloc (.cells #[.bool neg,.s A1 n1 c1,.s A2 n2 c2] 35))):=Hx ((eR wr).alloc _);have B8:=Hx (eN wr 35 #[.bool neg,.s A1 n1 c1,.s A2 n2 c2]);clear qB;go_upto_region 26 with fail
  clear a0 a1 a2;generalize wr.alloc (.cells #[.bool neg,.s A1 n1 c1,.s A2 n2 c2] 35)=W8 at*;generalize hbd:wr.heap.size=bd at*;have qA:=Hx (S.o.1.tr X8.o);obtain⟨l1,vy⟩:=RA.o.lens qj;have qa:=Hx (show∀wx,Ext W8 wx->(wx.cell? (aD bd 0)=some (.bool neg)/\wx.cell? (aD bd 1)=some (.s A1 n1 c1)/\wx.cell? (aD bd 2)=some (.s A2 n2 c2))/\(wx.cell? (aD w.heap.size 0)=some (vI t.nodes)/\wx.cell? (aD w.heap.size 1)=some (.s AO t.over.length co)/\wx.cell? (aD w.heap.size 2)=some (.s AL t.links.length cl))from fun wx hx=>
   ⟨⟨(B8.o.K hx).cell 0,(B8.o.K hx).cell 1,(B8.o.K hx).cell 2⟩,(T2.o.K (qA.o.tr hx)).cell 0,(T2.o.K (qA.o.tr hx)).cell 1,(T2.o.K (qA.o.tr hx)).cell 2⟩)
  (have XD:Hid (Ext W8 W8.drew):=Hx ((eR W8).drewN 1);have HSW:=Hx (qa.o _ XD.o);refine wX qa 4 ?_;refine wV 0 rfl HSW.o ?_;try simp only[qP]);refine wU [4,3] 1 rfl HSW.o ?_;(refine wP 2 rfl HSW.o ?_;try simp only[qP]);(refine wC 3 rfl (fun KK hK=>?_);go_simp;refine(jze4 t AO co AL cl k _ (HT.o.1.K (X2.o.tr (qA.o.tr XD.o))) qm.o.v qO).mono ?_;rintro e w5 ⟨n5,A5,l5,c5,qt,qy,qn,rfl,h5,x5⟩;have E5:=Hx (XD.o.tr x5);have HSW:=Hx (qa.o _ E5.o);have R5:=Hx h5;obtain⟨l2,vF⟩:=h5.lens (jzpx qm.o.v (show k<2*t.links.length by omega));refine hK.o _ _ HSW.o ?_;clear hK KK x5 h5;try simp only[qP]);(refine cY qK rfl qR (fun KK hK=>?_);go_simp;refine(fM neg n5 A1 n1 c1 A2 n2 c2 A5 l5 c5 qt qy qn (Sx.at_ ld k) (aJ t k) _ (RA.o.K (X8.o.tr E5.o)) R5.o qO qO qO qO).mono ?_;rintro e w6 ⟨rfl,x6⟩;have X6:=Hx (qA.o.tr (E5.o.tr x6));have SK:=Hx S.o.2;refine hK.o _ _ ?_;clear hK KK x6 HSW qa XD E5 R5 S;try simp only[qP]);refine mU (i:=5) qK rfl qR (fun KK hK=>?_);go_simp;refine hK.o _ _ ?_;clear hK KK;refine wpAny_done qK ?_ _;by_cases q2:aJ t k<Sx.at_ ld k;{have h9:=(nX _ _).2 q2;have d9:decide (0<aU (Sx.at_ ld k) (aJ t k))=true:=yO h9;have qh:=Hx (show fB t l v Z=false by rw[vn.o];exact jzp5 (n:=k) (Rat.not_le.2 q2) qi);have XF:=Hx (X2.o.tr X6.o);go_wp2;go_ret;rw[qh.o];exact⟨rfl,XF.o⟩};have h9:¬0<aU (Sx.at_ ld k) (aJ t k):=fun h=>q2 ((nX _ _).1 h);have d9:decide (0<aU (Sx.at_ ld k) (aJ t k))=false:=yP h9;have va:Hid (Ext w2 w6/\gJ t ld (k+1)=true):=Hx (⟨X6.o,by rw[jzp3,SK.o,yO (kQ4.1 q2)];rfl⟩);clear SK X6;go_wp2;go_roundg (ld.length-(k+1));exact⟨k+1,rfl,qO,by go_num,va⟩;omega
 obtain rfl:k=ld.length:=qO;have qh:=Hx (show fB t l v Z=true by rw[vn.o];exact S.o.2);have XF:=Hx (X2.o.tr S.o.1);go_wp2;go_ret;rw[qh.o];exact⟨rfl,XF.o⟩
open Sx
theorem jzp9{t}{l:List Dm}(hf:Fit t l){d:Nat}(hd:d<l.length):mL l d=(bD l d:Int)/\mM l d=(bA l d:Int):=by
 obtain⟨_,_,_,h4,h5⟩:=hf.nodes hd;unfold mL mM;rw[yG hd];exact⟨h4,h5⟩
theorem Sx.Adm.weakv{L2 D:Nat}{am cap:Nat->Rat}{v:Rat}{Z:List ((Nat×LN)×Rat)}(h:Sx.Adm L2 D am cap v Z){pr ch:Nat->Rat}(hp:∀a,a<L2->0<=pr a)
  (hch:∀z∈Z,ch z.1.1<=sm L2 fun a=>if a∈z.1.2 then pr a else 0):v*(sm D fun d=>am d*ch d)<=sm L2 fun a=>pr a*cap a:=by
 have e1:v*(sm D fun d=>am d*ch d)=ls (fun z=>z.2*ch z.1.1) Z:=(by rw[<-eT];have:(sm D fun d=>v*(am d*ch d))=sm D fun d=>ls (fun z=>(if z.1.1=d then z.2 else 0)*ch d) Z:=sm_congr D fun d hd=>(by have e:=pD (ch d) (fun z:(Nat×LN)×Rat=>if z.1.1=d then z.2 else 0) Z;rw[h.sum d hd]at e;have e2:ls (fun z:(Nat×LN)×Rat=>(if z.1.1=d then z.2 else 0)*ch d) Z=ls (fun z=>ch d*(if z.1.1=d then z.2 else 0)) Z:=nO fun z _=>qG;rw[e2,e];grind);rw[this, <-nQ];exact nO fun z hz=>(by rw[sm_one D (h.dem z hz) fun d _ hd=>by rw[qF (fun e=>hd e.symm)];grind,qE rfl]));have e2:ls (fun z=>z.2*ch z.1.1) Z<=ls (fun z=>sm L2 fun a=>pr a*(if a∈z.1.2 then z.2 else 0)) Z:=sB fun z hz=>(by have h1:=yT (hch z hz) (vB (h.pos z hz));rw[<-eT]at h1;have:(sm L2 fun a=>z.2*(if a∈z.1.2 then pr a else 0))=sm L2 fun a=>pr a*(if a∈z.1.2 then z.2 else 0):=sm_congr L2 fun a _=>(by split <;> grind);rw[this]at h1;exact h1);have e3:ls (fun z=>sm L2 fun a=>pr a*(if a∈z.1.2 then z.2 else 0)) Z<=sm L2 fun a=>pr a*cap a:=(by rw[nQ];refine sm_le L2 fun a ha=>?_;rw[pD];exact yT (h.cap a ha) (hp a ha));grind
theorem jzf2{α:Type}(f:α->Rat):∀(l:List α) (g:Nat->Rat),(∀d (h:d<l.length),g d=f l[d])->sm l.length g=ls f l
 | [],_,_=>rfl
 |a::l,g,h=>by
  show sm (l.length+1) g=f a+ls f l;rw[wS,jzf2 f l _ fun d hd=>h (d+1) (Nat.succ_lt_succ hd),h 0 (Nat.zero_lt_succ _)];rfl
def dchQ(t:Tp)(pr:LQ)(x:Dm):Rat:=(x.amount:Rat)*chQ t pr x.src.toNat x.dst.toNat
def kF(t:Tp)(l:List Dm)(pr:LQ):Rat:=ls (dchQ t pr) l
def sU(t:Tp)(pr:LQ):Rat:=sm (2*t.links.length) fun a=>at_ pr a*aJ t a
theorem jzf3 t(l:List Dm)(pr:LQ):(sm l.length fun d=>amQ l d*chQ t pr (bD l d) (bA l d))=kF t l pr:=
 jzf2 _ _ _ fun d hd=>by
  unfold amQ bD bA dchQ;rw[yG hd]
section
variable {t t':Tp} {l l':List Dm} {v v':Rat} {Z Z':List ((Nat×List Nat)×Rat)} {pr pr':List Rat}
theorem dG.cheap(hf:Fit t l)(h:dG t l v Z pr)(hl:pr'.length=2*t.links.length)(hn:∀q∈pr',0<=q):∀z∈Z,chQ t pr' (bD l z.1.1) (bA l z.1.1)<=sm (2*t.links.length) fun a=>if a∈z.1.2 then at_ pr' a else 0:=fun z hz=>by
 (have hd:=h.adm.dem z hz;obtain⟨n1,n2,_⟩:=hf.nodes hd;have qa:=h.loop z hz;rcases pI hf.v (sE hl hn) n1 n2 with⟨x,e,_,e2⟩|⟨_,e⟩);{unfold chQ;rw[e, <-qa.prQ_sm];exact e2 _ qa};{exact absurd qa (e _)}
theorem dG.weak(hf:Fit t l)(h:dG t l v Z pr)(hl:pr'.length=2*t.links.length)(hn:∀q∈pr',0<=q):v*kF t l pr'<=sU t pr':=by
 rw[<-jzf3];exact h.adm.weakv (ch:=fun d=>chQ t pr' (bD l d) (bA l d)) (fun a _=>jzn hn a) (h.cheap hf hl hn)
theorem dG.vnn(hf:Fit t l)(h:dG t l v Z pr):0<=v:=by
 rw[<-h.worth];refine lG _ fun a ha=>?_;obtain⟨_,h2,_⟩:=iF hf.v ha;exact vA (jzn h.pnn a) h2
theorem dG.le(hf:Fit t l)(h:dG t l v Z pr)(h':dG t' l' v' Z' pr')(hL:t'.links.length=t.links.length){α β γ:Rat}(hα:0<=α)(hγ:0<=γ)(hn:γ*kF t l pr'=α*kF t' l' pr')(hw:γ*sU t pr'<=β*sU t' pr'):α*v<=β*v':=by
 have h1:=yT (h.weak hf (pr':=pr') (by rw[h'.plen,hL]) h'.pnn) hγ;have h2:1<=kF t' l' pr':=(by rw[<-jzf3];exact h'.need);have h3:sU t' pr'=v':=h'.worth;have h4:=h.vnn hf;have h5:α*v*1<=α*v*kF t' l' pr':=yT h2 (vA hα h4);have h6:γ*(v*kF t l pr')=α*v*kF t' l' pr':=(by have:γ*(v*kF t l pr')=v*(γ*kF t l pr'):=qG;rw[this,hn];grind);rw[h3]at hw;grind
end
section
variable {t t':Tp}
theorem Fit.mem{l:List Dm}(hf:Fit t l){x:Dm}(hx:x∈l):x.src.toNat<t.nodes.toNat/\x.dst.toNat<t.nodes.toNat:=by
 obtain⟨d,hd,rfl⟩:=List.mem_iff_getElem.1 hx;obtain⟨h1,h2,_,h3,h4⟩:=hf.nodes hd;rw[h3,h4];exact⟨by simpa using h1,by simpa using h2⟩
end
def connL(t:Tp)(l:List Dm):Prop:=∀x∈l,∃y,Lpl t x.src.toNat x.dst.toNat y
theorem jzf4{t}{l:List Dm}:connL t l↔∀d,d<l.length->∃y,Lpl t (bD l d) (bA l d) y:=by
 constructor;{intro h d hd;have:=h _ (xR hd);unfold bD bA;rw[yG hd];exact this};intro h x hx;obtain⟨d,hd,rfl⟩:=List.mem_iff_getElem.1 hx;have:=h d hd;unfold bD bA at this;rw[yG hd]at this;exact this
theorem dG.connL{t}{l:List Dm}{v:Rat}{Z:List ((Nat×LN)×Rat)}{pr:LQ}(h:dG t l v Z pr):connL t l:=jzf4.2 h.conn
end Go.Proofs.YtojpooidhilnfaaGreatDoor
