/- Walks, part 20. -/
import Derived.WalkMore
import Derived.Test.YtfeeacaofjpkaaaGreatDoorK19
set_option linter.unusedVariables false
set_option linter.unusedSimpArgs false
set_option maxRecDepth 100000
set_option maxHeartbeats 8000000
namespace Go.Proofs.YtfeeacaofjpkaaaGreatDoor
open Go.Proofs.Tryz
open Go.RowKit
theorem FlR.base{w0 w1 w}{x mb:Nat}{t}{AO}{co:Nat}{AL}{cl:Nat}{l:List Dm}{AD}{cd:Nat}{L:aT}{T:Sx.Tb}{vP:Value}{P Q:List (Nat×LN)}(h:FlR w1 w x mb t AO co AL cl l AD cd L T vP P Q)(hx:Ext w0 w1)(ht:bD w0 t AO co AL cl)(hd:DmR w0 l AD cd):FlR w0 w x mb t AO co AL cl l AD cd L T vP P Q:=by
 obtain⟨css,h1,h2,h3,h4⟩:=h.pat;exact⟨hx.tr h.ext,ht,hd,h.box,yY hx.size h.xlo,h.tab.mono hx.size,h.m,⟨css,h1,h2,h3.mono hx.size,h4⟩,h.map,yY hx.size h.mlo⟩
structure fU(w wx:World)(x mb:Nat)(t:Tp)(AO:OA)(co:Nat)(AL:OA)(cl:Nat)(l:List Dm)(AD:OA)(cd:Nat)(L:aT)(T:Sx.Tb)(vP:Value)(P:List (Nat×LN)):Prop where
 fl:FlR w wx x mb t AO co AL cl l AD cd L T vP P P
 lp:Sx.FLP (2*t.links.length) l.length (amQ l) (aP t) T P
 dif:P.Nodup
 loop:∀p∈P,p.1<l.length/\Lpl t (bE l p.1) (bC l p.1) p.2
section
variable {w wx wy:World} {x mb:Nat} {t:Tp} {AO:Option Addr} {co:Nat} {AL:Option Addr} {cl:Nat} {l:List Dm} {AD:Option Addr} {cd:Nat} {L:aT} {T:Sx.Tb} {vP:Value} {P:List (Nat×List Nat)}
theorem fU.K(h:fU w wx x mb t AO co AL cl l AD cd L T vP P)(hx:Ext wx wy):fU w wy x mb t AO co AL cl l AD cd L T vP P:=⟨h.fl.K hx,h.lp,h.dif,h.loop⟩
theorem fU.few(h:fU w wx x mb t AO co AL cl l AD cd L T vP P)(hf:Fit t l)(hl:t.links.length<=10)(hN:t.nodes<=7):P.length<=(Sx.cands l.length 21 6).length:=
 Sx.paths_few h.dif fun p hp=>by
  obtain⟨h1,h2⟩:=h.loop p hp;obtain⟨h3,_⟩:=hf.nodes h1;have h4:=h2.len hf.v h3;refine⟨h1,fun a ha=>?_,qO⟩;have:=iV _ h2.1 a ha;omega
theorem jzno(D:Nat)(hD:D<=4):(Sx.cands D 21 6).length<=3000000000:=by
 have h1:=Sx.cands_len D 21 6 qD;have h2:D*((6+1)*21^6)<=4*((6+1)*21^6):=xS _ hD;have h3:4*((6+1)*21^6)<=3000000000:=qD;omega
end
theorem jzb(d:Nat)(Dn:Int):∀(Zs:List ((Nat×LN)×Rat)) (r:Rat),(∀z∈Zs,Sx.isI (z.2*(Dn:Rat)))->Sx.isI (r*(Dn:Rat))->∀z∈Sx.cut d r Zs,Sx.isI (z.2*(Dn:Rat))
 | [],r,_,_,z,hz=>by cases hz
 |y::Zs,r,h,hr,z,hz=>by
  have h1:=h y qS;have h2:∀z∈Zs,Sx.isI (z.2*(Dn:Rat)):=fun z hz=>h z (xO _ hz);have hm:Sx.isI ((if r<y.2 then r else y.2)*(Dn:Rat)):=(by split <;> assumption);unfold Sx.cut at hz;by_cases hd:y.1.1=d
  ·rw[qE hd]at hz
   generalize (if r<y.2 then r else y.2)=m at hz hm;rcases xY.1 hz with hz|hz
   ·split at hz
    ·rw[xD.1 hz];exact hm
    ·cases hz
   ·refine jzb d Dn Zs _ h2 ?_ z hz
    obtain⟨a,ha⟩:=hr;obtain⟨b,hb⟩:=hm;exact⟨a-b,by rw[Rat.intCast_sub, <-ha, <-hb];grind⟩
  ·rw[qF hd]at hz
   exact jzb d Dn Zs r h2 hr z hz
theorem jznp{t}{l:List Dm}{T:Sx.Tb}{P:List (Nat×LN)}(hf:Fit t l)(hl:t.links.length<=10)(hD:l.length<=4)(h:Sx.FLP (2*t.links.length) l.length (amQ l) (aP t) T P)(hz:∀z∈Sx.ptZ T P,0<=z.2):∀z∈Sx.planZ l.length (amQ l) T.goal.re (Sx.ptZ T P),SzQ z.2 41:=fun z hzm=>by
 obtain⟨_,_,_,_,Dn,d1,d2,d3,d4⟩:=oF hf hl hD h;have hm:∀z∈Sx.ptZ T P,Sx.Qn Dn ZB z.2:=fun z hz=>d4 z.2 (List.mem_of_mem_drop (Sx.zipF_mem P ((Sx.ptT T).drop 1) hz).2);unfold Sx.planZ at hzm;obtain⟨d,hd,qa⟩:=kZx.1 hzm;have hd:=vX.1 hd;obtain⟨e1,e2,f,e3,e4⟩:=Sx.cut_mem qa;have hI:=jzb d Dn (Sx.ptZ T P) (T.goal.re*amQ l d) (fun z hz=>(hm z hz).1) (by obtain⟨a,ha⟩:=d3.1;obtain⟨b,hb⟩:=(hf.am hd).2.1;exact⟨a*b,by rw[kZu, <-ha, <-hb];grind⟩) z qa;have hq:=hm _ e3;have h0:=hz _ e3;exact jzd2 (v:=f) (am:=1) d1 d2 hq.2 h0 (show((1:Int):Rat)<=((1048576:Int):Rat)from kQt.2 qD) qG qG (by rw[Rat.mul_one];exact e4) hI
def rT(w:World)(t:Tp)(l:List Dm)(e:Ending)(w':World):Prop:=
 (dT t l=false/\e=.returned (.tuple #[.agg #[bF,zN,zN,zN,zN],vI 1])/\Ext w w')\/
 (Fit t l/\(∃d,d<l.length/\∀y,¬Lpl t (bE l d) (bC l d) y)/\e=.returned (.tuple #[.agg #[bF,zN,zN,zN,zN],vI 11])/\Ext w w')\/
 (Fit t l/\∃(v:Rat) (Z:List ((Nat×LN)×Rat)) (pr:LQ) (neg:Bool) (A1:OA) (n1 c1:Nat) (A2:OA) (n2 c2:Nat) (AP:OA) (cp gp:Nat),
  cN t l v Z pr/\SzQ v 20/\(∀z∈Z,SzQ z.2 41)/\(∀q∈pr,SzQ q 20)/\Z.length<=24/\
  e=.returned (.tuple #[.agg #[.bool neg,.s A1 n1 c1,.s A2 n2 c2,.s AP Z.length cp,.s (sA gp) (2*t.links.length) (2*t.links.length)],vI 0])/\
  aB w' neg A1 n1 c1 A2 n2 c2 v/\Z.length<=cp/\PLr w' AP (Z.map pzI)/\QL w' (sA gp) pr/\Ext w w')
theorem jzej t AO(co:Nat)AL(cl:Nat)(l:List Dm)AD(cd:Nat)w(ht:bD w t AO co AL cl)(hd:DmR w l AD cd)(hl:t.links.length<=10)(hD:l.length<=4)(hN:aH t=true->t.nodes<=7)(q6:Tab w):
  Calls prog 7 #[.agg #[vI t.nodes,.s AO t.over.length co,.s AL t.links.length cl],.s AD l.length cd] w (rT w t l):=by
 have HT:=Hx (kQa ht (kQa hd (kQa hN q6)));have vq:=hd.len;have vw:=ht.ll;obtain⟨qQ,q3,e0⟩:=dK w #[vI t.nodes,.s AO t.over.length co,.s AL t.links.length cl] 25 #[bF,zN,zN,zN,zN] 37;obtain⟨⟨i0,i1,i2⟩,_⟩:=qQ.t3;have E0:=Hx (kQa qQ (kQa q3 e0));clear ht hd hN q6 qQ q3 e0;go_enter func7,ntmps7;(go_upto_region 1 with fail);go_step3
 have vp:((w.alloc (.cells #[vI t.nodes,.s AO t.over.length co,.s AL t.links.length cl] 25)).alloc (.cells #[bF,zN,zN,zN,zN] 37)).heap.size=w.heap.size+2:=qS;generalize (w.alloc (.cells #[vI t.nodes,.s AO t.over.length co,.s AL t.links.length cl] 25)).alloc (.cells #[bF,zN,zN,zN,zN] 37)=W0 at*;have H0:Hid (bD W0 t AO co AL cl/\DmR W0 l AD cd/\Tab W0):=Hx (⟨HT.o.1.K E0.o.2.2,HT.o.2.1.K E0.o.2.2,HT.o.2.2.2.K E0.o.2.2⟩);have qk:=Hx (show∀wx,Ext W0 wx->((wx.cell? (aD (w.heap.size+1) 0)=some bF/\wx.cell? (aD (w.heap.size+1) 1)=some zN/\wx.cell? (aD (w.heap.size+1) 2)=some zN/\wx.cell? (aD (w.heap.size+1) 3)=some zN/\wx.cell? (aD (w.heap.size+1) 4)=some zN)/\
   (wx.frozen? (aD (w.heap.size+1) 0)=false/\wx.frozen? (aD (w.heap.size+1) 1)=false/\wx.frozen? (aD (w.heap.size+1) 2)=false/\wx.frozen? (aD (w.heap.size+1) 3)=false/\wx.frozen? (aD (w.heap.size+1) 4)=false))from fun wx hx=>
  ⟨⟨(E0.o.2.1.K hx).cell 0,(E0.o.2.1.K hx).cell 1,(E0.o.2.1.K hx).cell 2,(E0.o.2.1.K hx).cell 3,(E0.o.2.1.K hx).cell 4⟩,(E0.o.2.1.K hx).frozen 0,(E0.o.2.1.K hx).frozen 1,(E0.o.2.1.K hx).frozen 2,(E0.o.2.1.K hx).frozen 3,(E0.o.2.1.K hx).frozen 4⟩)
 have qp:=Hx (show∀wx,Ext W0 wx->(Blk (((((wx.setCell (aD (w.heap.size+1) 0) bF).setCell (aD (w.heap.size+1) 1) zN).setCell (aD (w.heap.size+1) 2) zN).setCell (aD (w.heap.size+1) 3) zN).setCell (aD (w.heap.size+1) 4) zN) (w.heap.size+1) 37 #[bF,zN,zN,zN,zN]/\
   Ext w (((((wx.setCell (aD (w.heap.size+1) 0) bF).setCell (aD (w.heap.size+1) 1) zN).setCell (aD (w.heap.size+1) 2) zN).setCell (aD (w.heap.size+1) 3) zN).setCell (aD (w.heap.size+1) 4) zN))from fun wx hx=>by
  have hB:=E0.o.2.1.K hx;have s0:=hB.sT 0 bF;have s1:=s0.sT 1 zN;have s2:=s1.sT 2 zN;have s3:=s2.sT 3 zN;have s4:=s3.sT 4 zN;refine⟨s4,(eG (S:=fun b=>b=w.heap.size+1) (oI wx (w.heap.size+1) _ _ _ _ _) fun g e=>by injection e with e;exact e.symm).ext (E0.o.2.2.tr hx) fun b hb=>by rw[hb];omega⟩)
 (go_wp2_with fail);refine(jzdl t AO co AL cl l AD cd _ H0.o.1 H0.o.2.1).mono ?_;rintro e w1 ⟨rfl,ve⟩;have X1:=Hx ve;clear ve;cases hv:dT t l;{have qw:=Hx (qp.o _ X1.o);have HV:=Hx hv;obtain⟨⟨v0,v1,v2,v3,v4⟩,r0,r1,r2,r3,r4⟩:=qk.o _ X1.o;clear qp qk hv i0 i1 i2;go_wp2;have qe:=qw.o.1;exact bodyPost_ret (v:=.tuple #[.agg #[bF,zN,zN,zN,zN],vI 1]) (by simp[results,results7,go_sem,qe.cell]) rfl (.inl ⟨HV.o,rfl,qw.o.2⟩)};have qa:=Hx ((rM qO).1 hv);have q9:t.nodes<=7:=HT.o.2.2.1 qa.o.v;clear hv i0 i1 i2;obtain⟨⟨i0,i1,i2⟩,_⟩:=(E0.o.1.K X1.o).t3;go_wp2_with fail;refine(jzl1 t AO co AL cl l AD cd _ (H0.o.1.K X1.o) (H0.o.2.1.K X1.o) qa.o hl hD).mono ?_;rintro e w2 ⟨x,mb,L0,T0,rfl,F0,P0⟩;have S0:Hid (fU W0 w2 x mb t AO co AL cl l AD cd L0 T0 zN []):=Hx (⟨F0.base X1.o H0.o.1 H0.o.2.1,P0,List.nodup_nil,fun p hp=>by cases hp⟩);clear F0 P0 i0 i1 i2;go_wp2
 go_loopg [7,8,9,10,21] l.length (fun q _ _ _ _ it wx=>∃(n:Nat) (L:aT) (T:Sx.Tb) (vP:Value) (P:List (Nat×LN)),l.length-n=q/\n<=l.length/\it=vI (n:Int)/\
  Hid (fU W0 wx x mb t AO co AL cl l AD cd L T vP P/\P.length<=n/\(∀p∈P,p.1<n)/\(∀d,d<n->∃y,Lpl t (bE l d) (bC l d) y)/\(0<n->P≠ [])))
 (case atStart=>exact⟨0,L0,T0,_,[],rfl,yZ _,rfl,Hx ⟨S0.o,yX _,(fun p hp=>by cases hp),(fun d hd=>qO),fun h=>qO⟩⟩);obtain⟨n,L,T,vP,P,rfl,hn,rfl,I⟩:=hrel;clear S0;by_cases qy:n<l.length
 ·obtain⟨d,hd⟩:∃d,l[n]?=some d:=⟨_,yG qy⟩;obtain⟨b,o,rfl,hb,a0,a1,a2,a3⟩:=H0.o.2.1.at_ hd;have a0:=aA I.o.1.fl.ext a0;have a1:=aA I.o.1.fl.ext a1;have a2:=aA I.o.1.fl.ext a2;have a3:=aA I.o.1.fl.ext a3;have hb:b<wr.heap.size:=yL hb I.o.1.fl.ext.size;have HN:Hid (bE l n<t.nodes.toNat/\bC l n<t.nodes.toNat/\d.src=(bE l n:Int)/\d.dst=(bC l n:Int)):=Hx (by obtain⟨h1,h2,h3,h4,h5⟩:=qa.o.nodes qy;have e:l[n]=d:=(yH.1 hd).2;rw[e]at h4 h5;exact⟨h1,h2,h4,h5⟩);have nN:(n:Int)<(l.length:Int):=qO;have n0:(0:Int)<=(n:Int):=qO;have X8:Hid (Ext wr (wr.alloc (.cells #[vI d.src,vI d.dst,vI d.amount,vI d.prio] 60))):=Hx ((eR wr).alloc _);have B8:=Hx (eN wr 60 #[vI d.src,vI d.dst,vI d.amount,vI d.prio]);clear hd;(go_upto_region 7 with fail);clear a0 a1 a2 a3;generalize wr.alloc (.cells #[vI d.src,vI d.dst,vI d.amount,vI d.prio] 60)=W8 at*;have X0:Hid (Ext W0 W8):=Hx (I.o.1.fl.ext.tr X8.o);generalize hbd:wr.heap.size=bd at*;generalize hR:chP t [] (bS t) d.src d.dst=R;have HR:=Hx hR;clear hR;have y0:=B8.o.cell 0;have y1:=B8.o.cell 1;obtain⟨⟨z0,z1,z2⟩,_⟩:=(E0.o.1.K X0.o).t3;have SH:=Hx (jzni t AO co AL cl none 0 [] d.src d.dst _ (H0.o.1.K X0.o) qO (Rd.nil _ _) qD qD);rw[HR.o]at SH;go_wp2_with fail;refine SH.o.mono ?_;rintro e w5 qf;clear SH;have qC:=Hx (kJ (d:=bC l n) qa.o.v (jzcw t) HN.o.1 HN.o.2.1);rw[<-HN.o.2.2.1, <-HN.o.2.2.2,HR.o]at qC;rcases qf with⟨hr2,g,A,k,rfl,hg,hk,hrd,hx5⟩|⟨hr2,rfl,hx5⟩
  ·obtain⟨qz,vk⟩:Lpl t (bE l n) (bC l n) R.1/\R.1.length<=64:=(by (rcases qC.o with⟨y,h1,h2,_⟩|⟨h1,_⟩);{rw[h1];have:=h2.len qa.o.v HN.o.1;refine⟨h2,?_⟩;simp only;omega};rw[h1]at hr2;exact absurd hr2 qD);have qh:=Hx qz;have E5:Hid (Ext W0 w5):=Hx (X0.o.tr hx5);have I5:=Hx (I.o.1.K (X8.o.tr hx5));have q2:=Hx (jzdy I5.o.fl qa.o hl hD I5.o.lp (by have:=I.o.2.1;omega) n qy A R.1.length k R.1 rfl hrd.1 (fun hx ad had hs=>by have h1:=hrd.2 ad had;have h2:=(I.o.1.fl.tab.ty hs).2.1;have h3:=X8.o.size;omega) hk (fun a ha=>iV _ qh.o.1 a ha) vk (H0.o.2.2.K E5.o));clear y0 y1 z0 z1 z2 qz hrd hk hx5;go_wp2_with fail;(refine q2.o.mono ?_;rintro e wA qf;clear q2;rcases qf with⟨hin,_,_⟩|⟨hnin,rfl,L2,vP2,F2,k2,far2⟩);{exact absurd (I.o.2.2.1 _ hin) (kZr n)}
   have vj:L.m=2*t.links.length+l.length:=I.o.1.fl.m;have GG:=Hx (show fU W0 wA x mb t AO co AL cl l (some (aD b o)) cd L2 (Sx.addT T 0 (aQ L.m (pTs (2*t.links.length) (n,R.1)))) vP2 (P++[(n,R.1)])/\(P++[(n,R.1)]).length<=n+1/\(∀p∈P++[(n,R.1)],p.1<n+1)/\(∀d,d<n+1->∃y,Lpl t (bE l d) (bC l d) y)/\(0<n+1->P++[(n,R.1)]≠ [])from
    ⟨⟨F2,by
      rw[vj];exact I5.o.lp.add (kI _ _) fun i hi=>jzc8 _ _ (n,R.1) (fun a ha=>iV _ qh.o.1 a ha) i hi,by
      rw[List.nodup_append];exact⟨I5.o.dif,qS,fun p hp q hq e=>hnin (by rw[xD.1 hq]at e;rw[<-e];exact hp)⟩,fun p hp=>by
      rcases xY.1 hp with hp|hp
      ·
       exact I5.o.loop p hp
      ·
       rw[xD.1 hp]
       exact⟨qy,qh.o⟩⟩,by
      rw[yQ,kZd];have:=I.o.2.1;omega,fun p hp=>by
      rcases xY.1 hp with hp|hp
      ·
       have:=I.o.2.2.1 p hp
       omega
      ·
       rw[xD.1 hp]
       exact Nat.lt_succ_self n,fun d' hd'=>by
      by_cases e:d'=n
      ·
       subst e
       exact⟨_,qh.o⟩
      exact I.o.2.2.2.1 d' qO,fun _ e=>by simp at e⟩)
   clear F2 k2 far2 hnin I I5 qC;go_wp2;go_roundg (l.length-(n+1));exact⟨n+1,L2,_,vP2,_,rfl,qO,by go_num,GG⟩;omega
  have vd:R.2=11/\∀y,¬Lpl t (bE l n) (bC l n) y:=(by (rcases qC.o with⟨y,h1,h2,_⟩|⟨h1,h2⟩);{rw[h1]at hr2;exact absurd rfl hr2};rw[h1];exact⟨rfl,h2⟩);have vg:=Hx vd.2;rw[vd.1];have E5:Hid (Ext W0 w5):=Hx (X0.o.tr hx5);have qw:=Hx (qp.o _ E5.o);obtain⟨⟨v0,v1,v2,v3,v4⟩,r0,r1,r2,r3,r4⟩:=qk.o _ E5.o;clear qp qk y0 y1 z0 z1 z2 hx5 I;go_wp2;have qe:=qw.o.1;exact bodyPost_ret (v:=.tuple #[.agg #[bF,zN,zN,zN,zN],vI 11]) (by simp[results,results7,go_sem,qe.cell]) rfl (.inr (.inl ⟨qa.o,⟨n,qy,vg.o⟩,rfl,qw.o.2⟩))
 obtain rfl:n=l.length:=qO;have qH:=Hx I.o.2.2.2.1;have S1:Hid (fU W0 wr x mb t AO co AL cl l AD cd L T vP P/\P≠ []):=Hx (⟨I.o.1,I.o.2.2.2.2 qa.o.n⟩);clear I;go_wp2;go_step3;go_wp2;go_loopg [] ((Sx.cands l.length 21 6).length-P.length) (fun q wx=>∃(L:aT) (T:Sx.Tb) (vP:Value) (P:List (Nat×LN)),(Sx.cands l.length 21 6).length-P.length=q/\Hid (fU W0 wx x mb t AO co AL cl l AD cd L T vP P/\P≠ []));exact⟨L,T,vP,P,rfl,S1⟩;clear S1;obtain⟨L,T,vP,P,rfl,I⟩:=hrel;have vo:=I.o.1.few qa.o hl q9;have vu:=jzno l.length hD;have qm:=I.o.1.lp.shape;obtain⟨N,he,hs⟩:=I.o.1.lp.max qa.o.n (fun d hd=>(qa.o.am hd).1) fun p hp=>(by (obtain⟨h1,h2⟩:=I.o.1.loop p hp;have h3:=h2.ne (qa.o.nodes h1).2.2.1;cases hx:p.2 with|nil=>exact absurd hx h3|cons a rs=>exact⟨a,qS,iV _ h2.1 a (by rw[hx];simp)⟩));have vh:L.m=2*t.links.length+l.length:=I.o.1.fl.m;have vt:=qa.o.n;have MX:=Hx (jznn W0.heap.size 20 N L T wr I.o.1.fl.tab he hs (fun n _=>by have h9:=oF qa.o hl hD (I.o.1.lp.iter n);exact⟨h9.1,h9.2.1⟩) qD qO qO qO qO);have HE:=Hx he;have q4:wr.cell? (aD x 4)=some (.pointer (sA L.p)):=I.o.1.fl.box.cell 4;clear qm he hs;go_wp2_with fail;refine MX.o.mono ?_;rintro e w3 ⟨rfl,vc,k3⟩;have S3:Hid (fU W0 w3 x mb t AO co AL cl l AD cd L (Sx.iterT N T) vP P):=Hx (⟨I.o.1.fl.tabbed vc k3 rfl rfl fun b h=>.inl h,I.o.1.lp.iter N,I.o.1.dif,I.o.1.loop⟩);have vi:=Hx I.o.2;have qA:∃T3,T3=Sx.iterT N T:=⟨_,rfl⟩;obtain⟨T3,qA⟩:=qA;rw[<-qA]at S3 HE;clear MX q4 I vc k3 qA;have qm:=S3.o.lp.shape;have q4:w3.cell? (aD x 4)=some (.pointer (sA L.p)):=S3.o.fl.box.cell 4;have PR:=jzca W0.heap.size L T3 w3 S3.o.fl.tab qm.2.1 qO qO qO qO qm.2.2.2.2.1 (fun j hj=>by have:=qm.2.2.2.2.2.1 j hj;omega);rw[vh]at PR;have qV:=Hx PR;clear PR qm;go_wp2_with fail
 refine qV.o.mono ?_;rintro e w4 ⟨gl,rfl,qY,vl,x4⟩;have S4:=Hx (S3.o.K x4);have qi:=Hx (S3.o.lp.best HE.o qa.o.n (fun d hd=>(qa.o.am hd).1) S3.o.dif fun p hp=>(S3.o.loop p hp).1);have q5:T3.rows.length=2*t.links.length+l.length:=S3.o.lp.cols.2;have qt:(Sx.prT T3).length=2*t.links.length+l.length:=(by unfold Sx.prT;rw[Sx.prTo_len,q5]);have qB:=Hx (oF qa.o hl hD S3.o.lp);have qW:=Hx (jzl5 S4.o.fl qa.o hl hD S4.o.lp S4.o.dif S4.o.loop qO gl (Sx.prT T3) qY qt qB.o.2.2.1 (fun q hq=>by
  obtain⟨i,hi,e⟩:=List.mem_iff_getElem.1 hq;have h9:=qi.o.pos i qO;unfold Sx.at_ at h9;rw[yG hi]at h9;rw[<-e];exact h9) (fun hb=>by
  have:=(S3.o.fl.lo.1 gl hb).2;omega) H0.o.2.2)
 clear qV q4 qY x4;go_wp2_with fail;refine qW.o.mono ?_;rintro e w5 ⟨more,L5,T5,qJ,P5,rfl,G5⟩;clear qW;cases more
 ·obtain⟨rfl,rfl,qx⟩:=G5.non rfl;have qn:=Hx qx;have S5:Hid (fU W0 w5 x mb t AO co AL cl l AD cd L5 T5 qJ P5):=Hx (⟨G5.fl,G5.lp,G5.dif,G5.loop⟩);have q1:=Hx (jzmi S5.o.fl qa.o hl hD S5.o.lp qi.o.vnn qi.o.fnn qO (fun p hp=>(S5.o.loop p hp).1) vi.o)
  have q7:=Hx (show cN t l T5.goal.re (Sx.planZ l.length (amQ l) T5.goal.re (Sx.ptZ T5 P5)) ((Sx.prT T5).take (2*t.links.length))from
   jzle qa.o qi.o q5 (fun p hp=>(S5.o.loop p hp).2) (xW.2 fun p hp=>by
    obtain⟨z,hz,rfl⟩:=kQl.1 hp;exact yO (Sx.zipF_mem P5 _ hz).1) (fun d hd=>by
    have qI:((Sx.prT T5).take (2*t.links.length)).length=2*t.links.length:=(by rw[xF,qt];omega);have qg:eM t ((Sx.prT T5).take (2*t.links.length))=true:=kK qI fun q hq=>by
     obtain⟨i,hi,e⟩:=List.mem_iff_getElem.1 (xM hq);have h9:=qi.o.pos i qO;unfold Sx.at_ at h9;rw[yG hi]at h9;rw[<-e];exact h9
    obtain⟨n1,n2,_⟩:=qa.o.nodes hd;have hn:=qn.o d hd;unfold chQ;rcases kJ qa.o.v qg n1 n2 with⟨y,h1,h2,_⟩|⟨_,h2⟩
    ·
     rw[h1]at hn⊢
     by_cases qZ:prQ ((Sx.prT T5).take (2*t.links.length)) y<Sx.at_ (Sx.prT T5) (2*t.links.length+d)
     ·
      have h4:=qi.o.path _ (hn rfl qZ)
      have h5:=h2.prQ_sm ((Sx.prT T5).take (2*t.links.length));have h6:(Sx.sm (2*t.links.length) fun a=>if a∈y then Sx.at_ (Sx.prT T5) a else 0)=Sx.sm (2*t.links.length) fun a=>if a∈y then Sx.at_ ((Sx.prT T5).take (2*t.links.length)) a else 0:=Sx.sm_congr _ fun a ha=>by
       unfold Sx.at_;rw[xG,qE ha]
      show _<=prQ _ y;rw[h5, <-h6];exact h4
     show _<=prQ _ y;exact kQ4.1 qZ
    obtain⟨y,hy⟩:=qH.o d hd;exact absurd hy (h2 y)) qH.o)
  clear qx G5;go_wp2_with fail
  refine q1.o.mono ?_;rintro e w6 ⟨neg,A1,n1,c1,A2,n2,c2,AP,cp,gp,rfl,qU,qT,⟨B9,qj⟩,⟨qs,qM,va⟩,q8⟩;have E6:Hid (Ext W0 w6):=Hx (S5.o.fl.ext.tr q8);have k5:FrS (fun b=>b=w.heap.size+1) w6 (((((w6.setCell (aD (w.heap.size+1) 0) (.bool neg)).setCell (aD (w.heap.size+1) 1) (.s A1 n1 c1)).setCell (aD (w.heap.size+1) 2) (.s A2 n2 c2)).setCell (aD (w.heap.size+1) 3) (.s AP (Sx.planZ l.length (amQ l) T5.goal.re (Sx.ptZ T5 P5)).length cp)).setCell (aD (w.heap.size+1) 4) (.s (sA gp) (2*t.links.length) (2*t.links.length))):=
   eG (oI w6 (w.heap.size+1) _ _ _ _ _) fun g e=>by injection e with e;exact e.symm
  have RB:=E0.o.2.1.K E6.o;have hn:=fun tt (ht:37≠tt)=>NoT.one RB ht;have HB:=Hx (((((RB.sT 0 (.bool neg)).sT 1 (.s A1 n1 c1)).sT 2 (.s A2 n2 c2)).sT 3 (.s AP (Sx.planZ l.length (amQ l) T5.goal.re (Sx.ptZ T5 P5)).length cp)).sT 4 (.s (sA gp) (2*t.links.length) (2*t.links.length)));have vn:Hid (rT w t l (.returned (.tuple #[.agg #[.bool neg,.s A1 n1 c1,.s A2 n2 c2,.s AP (Sx.planZ l.length (amQ l) T5.goal.re (Sx.ptZ T5 P5)).length cp,.s (sA gp) (2*t.links.length) (2*t.links.length)],vI 0])) (((((w6.setCell (aD (w.heap.size+1) 0) (.bool neg)).setCell (aD (w.heap.size+1) 1) (.s A1 n1 c1)).setCell (aD (w.heap.size+1) 2) (.s A2 n2 c2)).setCell (aD (w.heap.size+1) 3) (.s AP (Sx.planZ l.length (amQ l) T5.goal.re (Sx.ptZ T5 P5)).length cp)).setCell (aD (w.heap.size+1) 4) (.s (sA gp) (2*t.links.length) (2*t.links.length)))):=Hx (by refine .inr (.inr ⟨qa.o,_,_,_,neg,A1,n1,c1,A2,n2,c2,AP,cp,gp,q7.o,qB.o.2.1.gr,jznp qa.o hl hD S5.o.lp qi.o.fnn,fun q hq=>qB.o.2.2.1 q (xM hq),?_,rfl,k5.ratR (hn _ qD) qU,qT,?_,?_,k5.ext (E0.o.2.2.tr E6.o) fun b hb=>by rw[hb];omega⟩);{have:=S5.o.lp.few S5.o.dif;omega};{refine OwL.plr (qj.fr k5 (fun g hg e=>?_) fun cs y _ hy=>hy.fr k5 (hn _ qD) (hn _ qD));obtain⟨xs,ho⟩:=qj.own;obtain⟨cs,qe⟩:=aW ho hg;rw[e]at qe;exact absurd (aZ qe RB).2 qD};have vm:=qM.fr k5 (hn _ qD) fun e=>(by obtain⟨cs,qe⟩:=qM.blk;rw[e]at qe;exact absurd (aZ qe RB).2 qD);rw[<-va];exact vm.ql.take _);obtain⟨⟨v0,v1,v2,v3,v4⟩,r0,r1,r2,r3,r4⟩:=qk.o _ E6.o;clear qp qk qU qT qj qM va q8 k5 RB hn q1 q7 S5 S4 S3 qi qB qn qH;generalize Sx.planZ l.length (amQ l) T5.goal.re (Sx.ptZ T5 P5)=ZZ at*;go_wp2;have qe:=HB.o;exact bodyPost_ret (v:=.tuple #[.agg #[.bool neg,.s A1 n1 c1,.s A2 n2 c2,.s AP ZZ.length cp,.s (sA gp) (2*t.links.length) (2*t.links.length)],vI 0]) (by simp[results,results7,go_sem,qe.cell]) rfl vn.o
 have qo:=G5.mor rfl;have S5:Hid (fU W0 w5 x mb t AO co AL cl l AD cd L5 T5 qJ P5/\P5≠ []):=Hx (⟨⟨G5.fl,G5.lp,G5.dif,G5.loop⟩,fun e=>by rw[e]at qo;exact absurd qo (Nat.not_lt_zero _)⟩);have qX:=S5.o.1.few qa.o hl q9;clear G5;go_wp2;go_roundg ((Sx.cands l.length 21 6).length-P5.length);exact⟨L5,T5,qJ,P5,rfl,S5⟩;omega
def eF(t:Tp)(ps:List cI)(n:Nat):LN:=(List.range n).filter fun a=>decide (aP t a<=Sx.at_ (cU t ps).1 a)
def iZ(t:Tp)(ps:List cI):LN:=if(cU t ps).2=0 then eF t ps (cU t ps).1.length else []
theorem jznq t(ps:List cI)(n:Nat):(eF t ps n).length<=n:=by
 unfold eF;have:=List.length_filter_le (fun a=>decide (aP t a<=Sx.at_ (cU t ps).1 a)) (List.range n);rw[kZm]at this;exact this
theorem jznr t(ps:List cI)(n:Nat):eF t ps (n+1)=if aP t n<=Sx.at_ (cU t ps).1 n then eF t ps n++[n]else eF t ps n:=by
 unfold eF;rw[kZc,List.filter_append];by_cases h:aP t n<=Sx.at_ (cU t ps).1 n;{rw[qE h];simp[h]};rw[qF h];simp[h]
theorem jzek{t}{Ps:List cI}{P:Nat}(hsz:∀p∈Ps,SzQ p.flow P):∀q∈(cU t Ps).1,SzQ q (1+dA Ps*(P+1)):=fun q hq=>by
 unfold cU at hq;split at hq;{(cases hl:ldP (2*t.links.length) (List.replicate (2*t.links.length) 0) Ps with|none=>rw[hl]at hq;cases hq|some ld=>rw[hl]at hq;exact wN (P:=P) Ps (k:=1) (ld:=List.replicate (2*t.links.length) 0) hsz (fun q hq=>by rw[uF hq];exact SzQ.zero) SzQ.zero hl q hq)};{cases hq}
theorem jzns{t}{Ps:List cI}(h:(cU t Ps).2=0):aH t=true/\(cU t Ps).1.length=2*t.links.length/\ldP (2*t.links.length) (List.replicate (2*t.links.length) 0) Ps=some (cU t Ps).1:=by
 unfold cU at h⊢;split at h;{rename_i hv;(rw[qE hv];cases hl:ldP (2*t.links.length) (List.replicate (2*t.links.length) 0) Ps with|none=>rw[hl]at h;exact absurd h qD|some ld=>exact⟨hv,by rw[wL _ hl,xC],rfl⟩)};exact absurd h qD
theorem jzc(x y:Rat):0<=bG x y↔y<=x:=by
 have h:=oH x y;constructor;{intro h1;exact kQ4.1 fun h2=>by have:=h.2 h2;omega};intro h1;have h2:¬bG x y<0:=fun h3=>kQ4.2 h1 (h.1 h3);omega
theorem mU{t}(hv:aH t=true){a:Nat}(ha:a<2*t.links.length):SzQ (aP t a) 1:=by
 obtain⟨h,_,_,_,h5,h6,h7⟩:=lB hv ha;rw[h5];exact SzQ.int (by unfold B32;omega)
theorem jznt t AO(co:Nat)AL(cl:Nat)(Ps:List cI)PA(np cp P:Nat)(hnp:Ps.length=np)w(ht:bD w t AO co AL cl)(hp:PLr w PA Ps)(hnl:np<=1000000)(hsz:∀p∈Ps,SzQ p.flow P)(hP1:1<=P)(hal:∀p∈Ps,p.arcs.length<=1000000)(hK:1+dA Ps*(P+1)<=50000000)(hPb:P<=100000000):
  Calls prog 24 #[.agg #[vI t.nodes,.s AO t.over.length co,.s AL t.links.length cl],.s PA np cp] w fun e w'=>∃(A:OA) (c:Nat),e=.returned (.s A (iZ t Ps).length c)/\(iZ t Ps).length<=c/\RdT w' 3 A (ints (iZ t Ps))/\Ext w w':=by
 have HT:=Hx ht;have SZ:=Hx (jzek (t:=t) hsz);have qJ:=ht.ll;obtain⟨qm,e0⟩:=bA w #[vI t.nodes,.s AO t.over.length co,.s AL t.links.length cl] 25;obtain⟨⟨i0,i1,i2⟩,_⟩:=qm.t3;have E0:=Hx (kQa qm e0);have LD:=Hx (fun wx (hx:Ext w wx)=>jzd1 t AO co AL cl Ps PA np cp P hnp wx (ht.K hx) (hp.K hx fun cs x h=>h.K hx) hnl hsz hP1 hal hK hPb);clear ht hp hsz hal qm e0;go_enter func24,ntmps24;go_wp2_with fail;refine(LD.o _ E0.o.2).mono ?_;rintro e w1 ⟨A,rfl,qw,qn⟩;have E1:=Hx (kQa (E0.o.1.K qn) (E0.o.2.tr qn));clear qn i0 i1 i2 E0 LD;by_cases he:(cU t Ps).2=0
 ·obtain⟨hv,qg,_⟩:=jzns he;have qy:t.links.length<=256:=(by have:=hv;unfold aH cS at this;simp at this;exact this.1.1.2);have HR:=Hx (show iZ t Ps=eF t Ps (2*t.links.length) by unfold iZ;rw[qE he,qg]);generalize hld:(cU t Ps).1=ld at*;generalize (cU t Ps).2=e9 at*;subst he;have I0:Hid (QL w1 A ld/\Ext w1 w1/\w1.ownsRow w1.heap.size 3 1 zN 0 []):=Hx (⟨qw,eR _,World.ownsRow_nil _ _ _ _⟩);clear qw;go_wp2;go_loopg [7,8,9,20] ld.length (fun q vF _ _ it wx=>∃(n:Nat) (vG:Value),ld.length-n=q/\n<=ld.length/\it=vI (n:Int)/\vG=vF/\Hid (Ext w1 wx/\wx.ownsRow w1.heap.size 3 1 vF (eF t Ps n).length (ints (eF t Ps n))));exact⟨0,_,rfl,yZ _,rfl,rfl,Hx ⟨I0.o.2.1,I0.o.2.2⟩⟩;obtain⟨n,vF,rfl,hn,rfl,rfl,I⟩:=hrel;by_cases qf:n<ld.length
  ·obtain⟨b,o,neg,A1,n1,c1,A2,n2,c2,rfl,hb,a0,a1,a2,qp⟩:=I0.o.1.at_ (aO qf);have a0:=aA I.o.1 a0;have a1:=aA I.o.1 a1;have a2:=aA I.o.1 a2;have hb:b<wr.heap.size:=yL hb I.o.1.size;have RA:=Hx (qp.K I.o.1);have qA:=(SZ.o _ (yJ (aO qf))).mono hK;have nN:(n:Int)<(ld.length:Int):=qO;have n0:(0:Int)<=(n:Int):=qO;have X8:Hid (Ext wr (wr.alloc (.cells #[.bool neg,.s A1 n1 c1,.s A2 n2 c2] 33))):=Hx ((eR wr).alloc _);have B8:=Hx (eN wr 33 #[.bool neg,.s A1 n1 c1,.s A2 n2 c2]);clear qp;go_upto_region 8 with fail
   clear a0 a1 a2;generalize wr.alloc (.cells #[.bool neg,.s A1 n1 c1,.s A2 n2 c2] 33)=W8 at*;generalize hbd:wr.heap.size=bd at*;have XW:Hid (Ext w1 W8):=Hx (I.o.1.tr X8.o);have qt:=Hx ((eE (S:=fun _=>False) X8.o).own I.o.2 (fun _ _ h=>h));obtain⟨l1,qM⟩:=RA.o.lens qA;have qa:=Hx (show∀wx,Ext W8 wx->(wx.cell? (aD bd 0)=some (.bool neg)/\wx.cell? (aD bd 1)=some (.s A1 n1 c1)/\wx.cell? (aD bd 2)=some (.s A2 n2 c2))/\(wx.cell? (aD w.heap.size 0)=some (vI t.nodes)/\wx.cell? (aD w.heap.size 1)=some (.s AO t.over.length co)/\wx.cell? (aD w.heap.size 2)=some (.s AL t.links.length cl))from fun wx hx=>
    ⟨⟨(B8.o.K hx).cell 0,(B8.o.K hx).cell 1,(B8.o.K hx).cell 2⟩,(E1.o.1.K (XW.o.tr hx)).cell 0,(E1.o.1.K (XW.o.tr hx)).cell 1,(E1.o.1.K (XW.o.tr hx)).cell 2⟩)
   (have XD:Hid (Ext W8 W8.drew):=Hx ((eR W8).drewN 1);have HSW:=Hx (qa.o _ XD.o);have NX:=Hx (jznr t Ps n);rw[hld]at NX;refine wX qa 4 ?_;refine wV 0 rfl HSW.o ?_;try simp only[qP]);refine wU [4,3] 1 rfl HSW.o ?_;(refine wP 2 rfl HSW.o ?_;try simp only[qP]);(refine wC 3 rfl (fun KK hK=>?_);go_simp;refine(rO t AO co AL cl n _ (HT.o.K (E1.o.2.tr (XW.o.tr XD.o))) hv qO).mono ?_;rintro e w5 ⟨n5,A5,l5,c5,qz,qH,qC,rfl,h5,x5⟩;have E5:=Hx (XD.o.tr x5);have HSW:=Hx (qa.o _ E5.o);have R5:=Hx h5;obtain⟨l2,qU⟩:=h5.lens (mU hv (show n<2*t.links.length by omega));refine hK.o _ _ HSW.o ?_;clear hK KK x5 h5;try simp only[qP]);(refine aY qK rfl qR (fun KK hK=>?_);go_simp;refine(fE neg n5 A1 n1 c1 A2 n2 c2 A5 l5 c5 qz qH qC (Sx.at_ ld n) (aP t n) _ (RA.o.K (X8.o.tr E5.o)) R5.o qO qO qO qO).mono ?_;rintro e w6 ⟨rfl,x6⟩;have E6:=Hx (E5.o.tr x6);have qi:=Hx ((eE (S:=fun _=>False) E6.o).own qt.o (fun _ _ h=>h));have X6:=Hx (XW.o.tr E6.o);refine hK.o _ _ ?_;clear hK KK x6 HSW qa XD E5 R5 E6 qt XW I;try simp only[qP]);refine kX (i:=5) qK rfl qR (fun KK hK=>?_);go_simp;refine hK.o _ _ ?_;clear hK KK;refine wpAny_done qK ?_ _;by_cases qj:aP t n<=Sx.at_ ld n;{have h9:=(jzc _ _).2 qj;rw[qE qj]at NX;have d9:decide (0<=bG (Sx.at_ ld n) (aP t n))=true:=yO h9;have qQ:=jznq t Ps n;have BC:=Hx (eN w6 3 #[vI (n:Int)]);have XC:=Hx ((eR w6).alloc (.cells #[vI (n:Int)] 3));have VB:=Hx ((eE (S:=fun _=>False) XC.o).own qi.o (fun _ _ h=>h));have qx:=Hx XC.o.size;clear qi;(go_wp2_with (at_builtin;refine kZ _ 42 3 _ 1 8 rfl _ _ rfl underlying42 Tryz.infoInt rfl qD w1.heap.size vF (eF t Ps n).length (ints (eF t Ps n)) rfl VB.o [vI (n:Int)] rfl (by simp[Value.oneCell']) w6.heap.size rfl BC.o (by unfold maxLen;omega) qO (by have:=X6.o.size;have:=qx.o;omega) ?_));intro g9 c9 w9 qh qe qo;have k9:=eG (S:=fun b=>vF.ownBlock=some b) qe fun g e=>e;have J:Hid (Ext w1 w9/\w9.ownsRow w1.heap.size 3 1 (.s (sA g9) ((eF t Ps n).length+1) c9) (eF t Ps (n+1)).length (ints (eF t Ps (n+1)))):=Hx (⟨k9.ext (X6.o.tr XC.o) fun b hb=>(VB.o.lt b hb).1,by rw[NX.o,yQ,kZd,kU];exact qh⟩);clear k9 qh qe qo VB XC BC X6 qx;go_wp2;go_roundg (ld.length-(n+1));exact⟨n+1,_,rfl,qO,by go_num,rfl,J⟩;omega};have h9:¬0<=bG (Sx.at_ ld n) (aP t n):=fun h=>qj ((jzc _ _).1 h);rw[qF qj]at NX;have d9:decide (0<=bG (Sx.at_ ld n) (aP t n))=false:=yP h9;have J:Hid (Ext w1 w6/\w6.ownsRow w1.heap.size 3 1 vF (eF t Ps (n+1)).length (ints (eF t Ps (n+1)))):=Hx (⟨X6.o,by rw[NX.o];exact qi.o⟩);clear qi X6;go_wp2;go_roundg (ld.length-(n+1));exact⟨n+1,vF,rfl,qO,by go_num,rfl,J⟩;omega
  obtain rfl:n=ld.length:=qO;obtain⟨A',c',rfl,qB,qk⟩:=iE I.o.2 rfl;go_wp2;go_ret;rw[HR.o, <-qg];exact⟨A',c',rfl,qB,qk,E1.o.2.tr I.o.1⟩
 have HR:=Hx (show iZ t Ps=[] by unfold iZ;rw[qF he]);generalize (cU t Ps).2=e9 at*;have qI:(e9==0)=false:=yK.2 he;have qT:decide (e9=0)=false:=yP he;go_wp2;go_ret;rw[HR.o];exact⟨none,0,rfl,yX _,fun h=>absurd rfl h,E1.o.2⟩
theorem jznu(l:List Bool)(k:Nat)(b:Bool):(bH l).toArray.setIfInBounds k (.bool b)=(bH (l.set k b)).toArray:=by
 rw[yD];unfold bH;rw[List.map_set]
theorem jznv(l:List Bool)(k:Nat)(b:Bool)(h:l[k]?=some b):(bH l).toArray[k]?=some (.bool b):=by
 unfold bH;simp[h]
section
variable {t:Tp}
theorem jzel{u a:Nat}:a∈aL t u↔a<2*t.links.length/\dQ t a=(u:Int):=by
 unfold aL cE;rw[List.mem_filter,vX,beq_iff_eq]
end
open Sx
def rU(l:List Dm)(d:Nat):Int:=match l[d]? with
 |some x=>x.src
 |none=>0
def rX(l:List Dm)(d:Nat):Int:=match l[d]? with
 |some x=>x.dst
 |none=>0
theorem jzem{f:Nat->Bool}{n m:Nat}(h:f n=false)(hm:n<m):(List.range m).all f=false:=by
 rw[List.all_eq_false];exact⟨n,vX.2 hm,by rw[h];decide⟩
def fV(pr:LQ)(n:Nat):Bool:=(List.range n).all fun a=>decide (0<=at_ pr a)
def fH(t:Tp)(pr:LQ)(n:Nat):Rat:=sm n fun a=>at_ pr a*aP t a
def chZ(t:Tp)(l:List Dm)(pr:LQ)(d:Nat):LN×Int:=chP t [] pr (rU l d) (rX l d)
def gG(t:Tp)(l:List Dm)(pr:LQ)(n:Nat):Bool:=(List.range n).all fun d=>decide ((chZ t l pr d).2=0)
def eK(t:Tp)(l:List Dm)(pr:LQ)(n:Nat):Rat:=sm n fun d=>amQ l d*prQ pr (chZ t l pr d).1
theorem jznw(pr:LQ)(n:Nat):fV pr (n+1)=(fV pr n&&decide (0<=at_ pr n)):=by
 unfold fV;rw[kZc,List.all_append];simp
theorem jznx t(l:List Dm)(pr:LQ)(n:Nat):gG t l pr (n+1)=(gG t l pr n&&decide ((chZ t l pr n).2=0)):=by
 unfold gG;rw[kZc,List.all_append];simp
theorem jzny{pr:LQ}{n m:Nat}(h:¬0<=at_ pr n)(hm:n<m):fV pr m=false:=jzem (yP h) hm
theorem jznz{t}{l:List Dm}{pr:LQ}{n m:Nat}(h:¬(chZ t l pr n).2=0)(hm:n<m):gG t l pr m=false:=jzem (yP h) hm
theorem jzn0{pr:LQ}(h:fV pr pr.length=true):∀q∈pr,0<=q:=fun q hq=>by
 obtain⟨i,hi,e⟩:=List.mem_iff_getElem.1 hq;unfold fV at h;rw[xW]at h;have h1:=of_decide_eq_true (h i (vX.2 hi));unfold at_ at h1;rw[yG hi]at h1;rw[<-e];exact h1
theorem jzd{t}(hv:aH t=true){pr:LQ}{P:Nat}(hs:∀q∈pr,SzQ q P)(hl:pr.length=2*t.links.length):∀n,n<=pr.length->SzQ (fH t pr n) (1+n*(P+2))
 |0,_=>SzQ.zero.mono qO
 |n+1,hn=>by
  have h1:=jzd hv hs hl n qO;have h2:=(hs _ (yJ (aO (show n<pr.length by omega)))).mul (mU hv (show n<2*t.links.length by omega));have e9:1+(n+1)*(P+2)=1+n*(P+2)+(P+1)+1:=(by rw[xP,xQ];omega);rw[e9];exact h1.add h2
theorem rY{t}{l:List Dm}(hf:Fit t l){d:Nat}(hd:d<l.length):SzQ (amQ l d) 1:=by
 obtain⟨_,_,_,h4,h5,h6⟩:=hf.am hd;rw[h4];exact SzQ.int (by unfold B32;omega)
theorem jzen{t}{l:List Dm}(hf:Fit t l){d:Nat}(hd:d<l.length):rU l d=(bE l d:Int)/\rX l d=(bC l d:Int):=by
 obtain⟨_,_,_,h4,h5⟩:=hf.nodes hd;unfold rU rX;rw[yG hd];exact⟨h4,h5⟩
theorem jzn1{t}{l:List Dm}(hf:Fit t l){pr:LQ}(hl:pr.length=2*t.links.length)(hn:∀q∈pr,0<=q){d:Nat}(hd:d<l.length):(chZ t l pr d).1.length<=64:=by
 obtain⟨h1,h2⟩:=jzen hf hd;obtain⟨n1,n2,_⟩:=hf.nodes hd;have hv:=hf.v;have qa:t.nodes<=64:=(by have:=hv;unfold aH cS inB at this;simp at this;exact this.1.1.1.2);(unfold chZ;rw[h1,h2];rcases kJ hv (kK hl hn) n1 n2 with⟨y,k1,k2,_⟩|⟨k1,_⟩);{rw[k1];have:=k2.len hv n1;simp only;omega};rw[k1];exact yZ _
theorem jzeo{t}{l:List Dm}(hf:Fit t l){pr:LQ}{P:Nat}(hP:1<=P)(hs:∀q∈pr,SzQ q P)(hl:pr.length=2*t.links.length)(hn:∀q∈pr,0<=q){d:Nat}(hd:d<l.length):SzQ (prQ pr (chZ t l pr d).1) (1+64*(P+1)):=by
 refine(SzQ.pr hP hs _).mono ?_;have:=xS (P+1) (jzn1 hf hl hn hd);omega
theorem jze{t}{l:List Dm}(hf:Fit t l){pr:LQ}{P:Nat}(hP:1<=P)(hs:∀q∈pr,SzQ q P)(hl:pr.length=2*t.links.length)(hn:∀q∈pr,0<=q):∀n,n<=l.length->SzQ (eK t l pr n) (1+n*(3+64*(P+1)))
 |0,_=>SzQ.zero.mono qO
 |n+1,hn2=>by
  have h1:=jze hf hP hs hl hn n qO;have h2:=(rY hf (show n<l.length by omega)).mul (jzeo hf hP hs hl hn (show n<l.length by omega));have e9:1+(n+1)*(3+64*(P+1))=1+n*(3+64*(P+1))+(1+(1+64*(P+1)))+1:=(by rw[xP,xQ];omega);rw[e9];exact h1.add h2
end Go.Proofs.YtfeeacaofjpkaaaGreatDoor
namespace Go.Proofs.YtfeeacaofjpkaaaGreatDoor
open Go.Proofs.Tryz
open Go.RowKit
def RB(w:World)(g:Nat)(q:Rat):Prop:=QB w g [q]
section
variable {w w':World} {g:Nat} {q q':Rat} {neg:Bool} {A:Option Addr} {n c:Nat} {A':Option Addr} {n' c':Nat}
theorem RB.of(hb:Blk w g 33 #[.bool neg,.s A n c,.s A' n' c'])(hr:aB w neg A n c A' n' c' q):RB w g q:=by
 (refine⟨[[.bool neg,.s A n c,.s A' n' c']],rfl,fun cs h=>by rw[xD.1 h];rfl,hb,fun i p h=>?_⟩;cases i with|zero=>(injection h with h);subst h;exact⟨_,rfl,neg,A,n,c,A',n',c',rfl,hr⟩|succ i=>simp at h)
theorem RB.K(h:RB w g q)(hx:Ext w w'):RB w' g q:=QB.K h hx
theorem RB.lt(h:RB w g q):g<w.heap.size:=QB.lt h
theorem RB.at3(h:RB w g q):∃(neg:Bool) (A:OA) (n c:Nat) (A':OA) (n' c':Nat),
  (w.cell? (aD g 0)=some (.bool neg)/\w.cell? (aD g 1)=some (.s A n c)/\w.cell? (aD g 2)=some (.s A' n' c'))/\
  (w.frozen? (aD g 0)=false/\w.frozen? (aD g 1)=false/\w.frozen? (aD g 2)=false)/\aB w neg A n c A' n' c' q:=by
 obtain⟨neg,A,n,c,A',n',c',⟨h0,h1,h2⟩,⟨f0,f1,f2⟩,hr⟩:=QB.at_ h (i:=0) (q:=q) rfl;exact⟨neg,A,n,c,A',n',c',⟨h0,h1,h2⟩,⟨f0,f1,f2⟩,hr⟩
theorem RB.put3(h:RB w g q)(hr:aB w neg A n c A' n' c' q'):RB (((w.setCell (aD g 0) (.bool neg)).setCell (aD g 1) (.s A n c)).setCell (aD g 2) (.s A' n' c')) g q':=QB.put h (m:=0) qS hr
end
structure ChI(W3 w:World)(g7 g8:Nat)(a b:Rat):Prop where
 r7:RB w g7 a
 r8:RB w g8 b
 fr:FrS (fun x=>x=g7\/x=g8) W3 w
section
variable {W3 w w':World} {g7 g8:Nat} {a b q:Rat} {neg:Bool} {A:Option Addr} {n c:Nat} {A':Option Addr} {n' c':Nat}
theorem ChI.K(h:ChI W3 w g7 g8 a b)(hx:Ext w w'):ChI W3 w' g7 g8 a b:=⟨h.r7.K hx,h.r8.K hx,h.fr.tr (eE (S:=fun x=>x=g7\/x=g8) hx) fun b hb=>.inl hb⟩
theorem ChI.put7(h:ChI W3 w g7 g8 a b)(hne:g8≠g7)(hr:aB w neg A n c A' n' c' q):ChI W3 (((w.setCell (aD g7 0) (.bool neg)).setCell (aD g7 1) (.s A n c)).setCell (aD g7 2) (.s A' n' c')) g7 g8 q b:=by
 have hg:=dU w g7 0 (.bool neg) (.s A n c) (.s A' n' c');obtain⟨cs,hb⟩:=QB.blk h.r7;exact⟨h.r7.put3 hr,QB.other h.r8 hg hb qD hne,h.fr.tr (eG (S:=fun x=>x=g7\/x=g8) hg fun g e=>by injection e with e;exact .inl e.symm) fun b hb=>.inl hb⟩
theorem ChI.put8(h:ChI W3 w g7 g8 a b)(hne:g8≠g7)(hr:aB w neg A n c A' n' c' q):ChI W3 (((w.setCell (aD g8 0) (.bool neg)).setCell (aD g8 1) (.s A n c)).setCell (aD g8 2) (.s A' n' c')) g7 g8 a q:=by
 have hg:=dU w g8 0 (.bool neg) (.s A n c) (.s A' n' c');obtain⟨cs,hb⟩:=QB.blk h.r8;exact⟨QB.other h.r7 hg hb qD (fun e=>hne e.symm),h.r8.put3 hr,h.fr.tr (eG (S:=fun x=>x=g7\/x=g8) hg fun g e=>by injection e with e;exact .inr e.symm) fun b hb=>.inl hb⟩
end
open Sx
theorem jzep(qs:LQ)A(n c:Nat)(hn:qs.length=n)w(hq:QL w A qs)(h0:∀q∈qs,0<=q)(hl:n<=1000000):
  Calls prog 129 #[.s A n c,vI (n:Int)] w fun e w'=>e=.returned (.bool true)/\Ext w w':=by
 have HQ:=Hx (kQa hq (kQa h0 hn));clear hq h0 hn;go_enter func129,ntmps129;go_wp2;go_loopg [6,9] n (fun q _ it wx=>∃(i:Nat),n-i=q/\i<=n/\it=vI (i:Int)/\Hid (Ext w wx));exact⟨0,rfl,yZ _,rfl,Hx (eR w)⟩;obtain⟨i,rfl,hi,rfl,X⟩:=hrel;by_cases qg:i<n;{(have qe:i<qs.length:=by have:=HQ.o.2.2;omega);obtain⟨b,o,neg,A1,n1,c1,A2,n2,c2,rfl,hb,a0,a1,a2,qa⟩:=(HQ.o.1.K X.o).at_ (aO qe);have nN:(i:Int)<(n:Int):=qO;have n0:(0:Int)<=(i:Int):=qO;have qf:=HQ.o.2.1 _ (yJ (aO qe));have hd:decide (aC (Sx.at_ qs i)<0)=false:=yP (fun h=>absurd ((oD _).1 h) (kQ4.2 qf));have RA:=Hx qa;obtain⟨b8,x8⟩:=bA wr #[.bool neg,.s A1 n1 c1,.s A2 n2 c2] 33;have B8:=Hx b8;have X8:=Hx x8;clear qa qf b8 x8;(go_upto_region 4 with fail);clear a0 a1 a2;generalize wr.alloc (.cells #[.bool neg,.s A1 n1 c1,.s A2 n2 c2] 33)=W8 at*;generalize wr.heap.size=bd at*;obtain⟨⟨b0,b1,b2⟩,_⟩:=B8.o.t3;go_wp2_with fail;refine(cV neg A1 n1 c1 A2 n2 c2 (Sx.at_ qs i) _ (RA.o.K X8.o)).mono ?_;rintro e w5 ⟨rfl,x5⟩;have X5:=Hx (X.o.tr (X8.o.tr x5));clear x5 b0 b1 b2;go_wp2;go_roundg (n-(i+1));exact⟨i+1,rfl,qO,by go_num,X5⟩;omega};obtain rfl:i=n:=qO;go_wp2;go_ret;exact⟨qS,X.o⟩
theorem mV{f:Nat->Rat}{P:Nat}:∀n,(∀k,k<n->SzQ (f k) P)->SzQ (sm n f) (1+n*(P+1))
 |0,_=>SzQ.zero.mono qO
 |n+1,h=>by
  have h1:=(mV n fun k hk=>h k qO).add (h n qO);refine h1.mono ?_;rw[xP,xQ];omega
theorem jzeq(n:Nat)(fid:FuncId)(caps:List Value)(f:Nat->Rat)(P:Nat)w(hc:∀(args:Array Value) (wx:World),(callFunc fid args).run prog wx=.ok (.enter fid args) wx)(hF:∀(wx:World) (k:Nat),k<n->Ext w wx->Calls prog fid (vI (k:Int)::caps).toArray wx (cO wx (f k)))(hs:∀k,k<n->SzQ (f k) P)(hn:n<=1000)(hP:P<=100000):
  Calls prog 175 #[vI (n:Int),.func (.func fid) #[] caps.toArray] w (cO w (sm n f)):=by
 have HF:=Hx (kQa hF hs);have HZ:Hid (∀k,k<=n->SzQ (sm k f) 100002000):=Hx (fun k hk=>(mV k fun j hj=>hs j qO).mono (by have:k*(P+1)<=1000*100001:=kQq qO qO;omega));obtain⟨b4,b5,e0⟩:=dK w rV 33 rV 33;have I0:=Hx (kQa (RB.of b5 (eJ _)) (FrS.refl (fun x=>x=w.heap.size+1) ((w.alloc (.cells rV 33)).alloc (.cells rV 33))));have B4:=Hx b4;have E0:=Hx e0;clear hF hs b4 b5 e0;go_enter func175,ntmps175;(go_upto_region 2 with fail);generalize (w.alloc (.cells rV 33)).alloc (.cells rV 33)=W0 at*;generalize hg:w.heap.size=g at*;go_wp2;go_loopg [6,8] n (fun q _ it wx=>∃(k:Nat),n-k=q/\k<=n/\it=vI (k:Int)/\Hid (RB wx (g+1) (sm k f)/\FrS (fun x=>x=g+1) W0 wx));exact⟨0,rfl,yZ _,rfl,I0⟩;obtain⟨k,rfl,hk,rfl,I⟩:=hrel;clear I0;have XI:Hid (Ext w wr):=Hx (I.o.2.ext E0.o fun b hb=>qO);obtain⟨ny,Y1,my,fy,qf,qg,qe,⟨s0,s1,s2⟩,_,hy⟩:=I.o.1.at3;have RY:=Hx hy;by_cases qh:k<n
 ·obtain⟨l2,qz⟩:=hy.lens (HZ.o k hk);have qa:Hid (∀wx,Ext wr wx->wx.cell? (aD (g+1) 0)=some (.bool ny)/\wx.cell? (aD (g+1) 1)=some (.s Y1 my fy)/\wx.cell? (aD (g+1) 2)=some (.s qf qg qe)):=Hx (fun wx hx=>⟨aA hx s0,aA hx s1,aA hx s2⟩);have XD:Hid (Ext wr wr.drew):=Hx ((eR wr).drewN 1);have HSW:=Hx (qa.o _ XD.o);clear hy;(go_upto_region 5 with fail);(clear s0 s1 s2;refine wX qa 5 ?_;refine wV 0 rfl HSW.o ?_;try simp only[qP]);refine wP 1 rfl HSW.o ?_;(refine wP 2 rfl HSW.o ?_;try simp only[qP]);refine wC 3 rfl (fun KK hK=>?_);go_simp;refine(HF.o.1 _ k qh (XI.o.tr XD.o)).mono ?_;rintro e w6 ⟨n6,A6,l6,c6,qp,qo,qt,rfl,h6,x6⟩;have E6:=Hx (XD.o.tr x6);have HSW:=Hx (qa.o _ E6.o);obtain⟨l3,qy⟩:=h6.lens (HF.o.2 k qh);have R6:=Hx h6;refine hK.o _ _ HSW.o ?_;clear hK KK x6 h6;try simp only[qP]
  refine wC 4 rfl (fun KK hK=>?_);go_simp;refine(kF ny n6 Y1 my fy qf qg qe A6 l6 c6 qp qo qt (sm k f) (f k) _ (RY.o.K E6.o) R6.o qO qO qO qO (gI (kQx (kQ7 _) (kQ7 _)))).mono ?_;rintro e w9 ⟨n9,A9,l9,c9,qm,qj,qi,rfl,h9,x9⟩;have E9:=Hx (E6.o.tr x9);have HSW:=Hx (qa.o _ E9.o);have Q9:=Hx (I.o.1.K E9.o);have qn:=dU w9 (g+1) 0 (.bool n9) (.s A9 l9 c9) (.s qm qj qi);have qx:=Hx (show RB (((w9.setCell (aD (g+1) 0) (.bool n9)).setCell (aD (g+1) 1) (.s A9 l9 c9)).setCell (aD (g+1) 2) (.s qm qj qi)) (g+1) (sm (k+1) f)/\FrS (fun x=>x=g+1) W0 (((w9.setCell (aD (g+1) 0) (.bool n9)).setCell (aD (g+1) 1) (.s A9 l9 c9)).setCell (aD (g+1) 2) (.s qm qj qi))from
   ⟨Q9.o.put3 h9,(I.o.2.tr (eE (S:=fun x=>x=g+1) E9.o) fun b hb=>.inl hb).tr (eG (S:=fun x=>x=g+1) qn fun y e=>by injection e with e;exact e.symm) fun b hb=>.inl hb⟩)
  (obtain⟨_,_,_,_,_,_,_,_,⟨z0,z1,z2⟩,_⟩:=Q9.o.at3;refine hK.o _ _ HSW.o ?_;clear hK KK x9 h9 qn;try simp only[qP]);obtain⟨s0,s1,s2⟩:=HSW.o;refine aY qK rfl qR (fun KK hK=>?_);go_simp;refine hK.o _ _ ?_;clear hK KK;refine wpAny_done qK ?_ _;clear s0 s1 s2 z0 z1 z2 HSW qa XD RY Q9 E9 E6 R6 I;go_wp2;go_roundg (n-(k+1));exact⟨k+1,rfl,qO,by go_num,qx⟩;omega
 obtain rfl:k=n:=qO;have qk:=Hx (I.o.2.blk B4.o qO);have F:=Hx (dH (w:=w) hy qk.o qO XI.o);have HB:=Hx (((qk.o.sT 0 (.bool ny)).sT 1 (.s Y1 my fy)).sT 2 (.s qf qg qe));obtain⟨⟨p0,p1,p2⟩,z0,z1,z2⟩:=qk.o.t3;clear hy hk qh;go_wp2;have qw:=HB.o;exact bodyPost_ret (v:=.agg #[.bool ny,.s Y1 my fy,.s qf qg qe]) (by simp[results,results175,go_sem,qw.cell]) rfl ⟨ny,Y1,my,fy,qf,qg,qe,rfl,F.o⟩
theorem jzn2(a b:LQ)AA(na ca:Nat)AB(nb cb k gA gB P R:Nat)w(hA:Blk w gA 35 #[.s AA na ca])(hB:Blk w gB 35 #[.s AB nb cb])(ha:QL w AA a)(hb:QL w AB b)(hna:a.length=na)(hnb:b.length=nb)(hk:k<na)(hk2:k<nb)(hl:na<=1000/\nb<=1000)(sa:∀q∈a,SzQ q P)(sb:∀q∈b,SzQ q R)(hP:P<=100000)(hR:R<=100000):
  Calls prog 176 #[vI (k:Int),.pointer (sA gA),.pointer (sA gB)] w (cO w (at_ a k*at_ b k)):=by
 obtain⟨qB,qy⟩:=hl;have qi:k<a.length:=qO;have qh:k<b.length:=qO;obtain⟨pa,oa,n1,A1,m1,c1,qt,qj,qm,rfl,_,a0,a1,a2,h1⟩:=ha.at_ (aO qi);obtain⟨pb,ob,n2,A2,m2,c2,qk,qp,qn,rfl,_,b0,b1,b2,h2⟩:=hb.at_ (aO qh);obtain⟨l1,qx⟩:=h1.lens (sa _ (yJ (aO qi)));obtain⟨l2,qA⟩:=h2.lens (sb _ (yJ (aO qh)));obtain⟨b4,e0⟩:=bA w rV 33;have qa:=Hx (show∀wx,Ext w wx->(wx.cell? (aD gA 0)=some (.s (some (aD pa oa)) na ca)/\wx.cell? (aD gB 0)=some (.s (some (aD pb ob)) nb cb))/\(wx.cell? (aD pa (oa+k*3))=some (.bool n1)/\wx.cell? (aD pa (oa+k*3+1))=some (.s A1 m1 c1)/\wx.cell? (aD pa (oa+k*3+2))=some (.s qt qj qm))/\(wx.cell? (aD pb (ob+k*3))=some (.bool n2)/\wx.cell? (aD pb (ob+k*3+1))=some (.s A2 m2 c2)/\wx.cell? (aD pb (ob+k*3+2))=some (.s qk qp qn))from fun wx hx=>
  ⟨⟨(hA.K hx).cell 0,(hB.K hx).cell 0⟩,⟨aA hx a0,aA hx a1,aA hx a2⟩,⟨aA hx b0,aA hx b1,aA hx b2⟩⟩)
 have qo:=Hx (kQa h1 h2);have B4:=Hx b4;have E0:=Hx e0;have kN:(k:Int)<(na:Int):=qO;have kM:(k:Int)<(nb:Int):=qO;have k0:(0:Int)<=(k:Int):=qO;clear ha hb hA hB sa sb a0 a1 a2 b0 b1 b2 h1 h2 b4 e0 hna hnb qi qh
 go_enter func176,ntmps176
 go_upto_region 1 with fail
 generalize w.alloc (.cells rV 33)=W0 at*;have qz:w.heap.size<W0.heap.size:=B4.o.lt;generalize hg:w.heap.size=g at*;have XD:Hid (Ext w W0.drew):=Hx (E0.o.drewN 1);have HSW:=Hx (qa.o _ XD.o);refine wX qa 9 ?_;refine wV 0 rfl HSW.o ?_;try simp only[qP]
 refine wP 1 rfl HSW.o ?_;try simp only[qP]
 refine wP 2 rfl HSW.o ?_;try simp only[qP]
 refine wV 3 rfl HSW.o ?_;try simp only[qP]
 refine wV 4 rfl HSW.o ?_;try simp only[qP]
 refine wP 5 rfl HSW.o ?_;try simp only[qP]
 refine wP 6 rfl HSW.o ?_;try simp only[qP]
 refine wV 7 rfl HSW.o ?_;try simp only[qP]
 refine wC 8 rfl (fun KK hK=>?_);go_simp;refine(fY n1 n2 A1 m1 c1 qt qj qm A2 m2 c2 qk qp qn (at_ a k) (at_ b k) _ (qo.o.1.K XD.o) (qo.o.2.K XD.o) qO qO qO qO).mono ?_;rintro e w9 ⟨n9,A9,l9,c9,qg,qf,qe,rfl,h9,x9⟩;have E9:=Hx (XD.o.tr x9);have HSW:=Hx (qa.o _ E9.o);have B9:=Hx ((B4.o.K ((eR W0).drewN 1)).K x9);have F:=Hx (dH (w:=w) h9 B9.o qO E9.o);have HB:=Hx (((B9.o.sT 0 (.bool n9)).sT 1 (.s A9 l9 c9)).sT 2 (.s qg qf qe));obtain⟨⟨p0,p1,p2⟩,z0,z1,z2⟩:=B9.o.t3;refine hK.o _ _ HSW.o ?_;clear hK KK x9 h9;try simp only[qP]
 refine aY qK rfl qR (fun KK hK=>?_);go_simp;refine hK.o _ _ ?_;clear hK KK;refine wpAny_done qK ?_ _;clear p0 p1 p2 z0 z1 z2 HSW;go_wp2;have qw:=HB.o;exact bodyPost_ret (v:=.agg #[.bool n9,.s A9 l9 c9,.s qg qf qe]) (by simp[results,results176,go_sem,qw.cell]) rfl ⟨n9,A9,l9,c9,qg,qf,qe,rfl,F.o⟩
theorem jzf(a b:LQ)AA(na ca:Nat)AB(nb cb P R:Nat)w(ha:QL w AA a)(hb:QL w AB b)(hna:a.length=na)(hnb:b.length=nb)(hab:na<=nb)(hl:nb<=1000)(sa:∀q∈a,SzQ q P)(sb:∀q∈b,SzQ q R)(hPR:P+R<=100000):
  Calls prog 128 #[.s AA na ca,.s AB nb cb] w (cO w (sm na fun k=>at_ a k*at_ b k)):=by
 obtain⟨b2,b3,b4,e0⟩:=iD w #[.s AA na ca] 35 #[.s AB nb cb] 35 rV 33;have S:=Hx (fun W (hx:Ext (((w.alloc (.cells #[.s AA na ca] 35)).alloc (.cells #[.s AB nb cb] 35)).alloc (.cells rV 33)) W)=>jzeq na 176 [.pointer (sA w.heap.size),.pointer (sA (w.heap.size+1))] (fun k=>at_ a k*at_ b k) (P+R) W (fun args wx=>qR)
  (fun wx k hk hx2=>jzn2 a b AA na ca AB nb cb k w.heap.size (w.heap.size+1) P R wx (b2.K (hx.tr hx2)) (b3.K (hx.tr hx2)) (ha.K (e0.tr (hx.tr hx2))) (hb.K (e0.tr (hx.tr hx2))) hna hnb hk qO ⟨qO,qO⟩ sa sb qO qO)
  (fun k hk=>(sa _ (yJ (aO qO))).mul (sb _ (yJ (aO qO)))) qO hPR)
 have i0:=b2.cell 0;have B4:=Hx b4;have E0:=Hx e0;clear ha hb hna hnb sa sb b2 b3 b4 e0;go_enter func128,ntmps128;(go_upto_region 1 with fail);generalize ((w.alloc (.cells #[.s AA na ca] 35)).alloc (.cells #[.s AB nb cb] 35)).alloc (.cells rV 33)=W0 at*;generalize hg:w.heap.size=g at*;go_wp2_with fail;refine(S.o _ (eR _)).mono ?_;rintro e w9 ⟨n9,A9,l9,c9,qf,qe,qa,rfl,h9,x9⟩;have E9:=Hx (E0.o.tr x9);have B9:=Hx (B4.o.K x9);have F:=Hx (dH (w:=w) h9 B9.o qO E9.o);have HB:=Hx (((B9.o.sT 0 (.bool n9)).sT 1 (.s A9 l9 c9)).sT 2 (.s qf qe qa));obtain⟨⟨p0,p1,p2⟩,z0,z1,z2⟩:=B9.o.t3;clear x9 h9 i0 S;go_wp2;have qg:=HB.o;exact bodyPost_ret (v:=.agg #[.bool n9,.s A9 l9 c9,.s qf qe qa]) (by simp[results,results128,go_sem,qg.cell]) rfl ⟨n9,A9,l9,c9,qf,qe,qa,rfl,F.o⟩
def oQ(w:World)(AA:OA)(m n:Nat)(R:Nat->LQ):Prop:=∀i,i<m->∃(b o:Nat) (A:OA) (c:Nat),AA=some (aD b o)/\b<w.heap.size/\w.cell? (aD b (o+i))=some (.s A n c)/\QL w A (R i)/\(R i).length=n
theorem oQ.K{w w'}{AA}{m n:Nat}{R:Nat->LQ}(h:oQ w AA m n R)(hx:Ext w w'):oQ w' AA m n R:=fun i hi=>by
 obtain⟨b,o,A,c,e,h1,h2,h3,h4⟩:=h i hi;exact⟨b,o,A,c,e,yL h1 hx.size,aA hx h2,h3.K hx,h4⟩
theorem jzer{t}:∀(x:LN) {u v:Nat} {first:Bool},PO t u first x v->v∈nds t u x
 | [],u,v,_,h=>by
   have h:u=v:=h;rw[h];exact xD.2 rfl
 |_::x,_,_,_,h=>xO _ (jzer x h.2.2)
theorem jzes{t}{d:Nat}:∀(y x:LN) (u f:Nat) (seen:List Bool) (first:Bool),(first=false\/x=[])->(hv:aH t=true)->PO t u first y d->(nds t u y).Nodup->(∀n∈nds t u y,n≠u->seen[n]?.getD false=false)->(x≠ []->u=d\/bT t (u:Int)=false)->y.length<f->x++y∈bM t [] d f x u seen
 | [],x,u,f+1,seen,_,_,_,h,_,_,_,_=>by
   have h:u=d:=h;unfold bM;rw[qE h,List.append_nil];exact xD.2 rfl
 |a::y,x,u,f+1,seen,first,hx,hv,h,hn,hs,ho,hl=>by
  obtain⟨h1,h2,h3⟩:=h;have qe:=kZo.1 hn;have qf:u≠d:=fun e=>qe.1 (by rw[e];exact jzer y h3);have qi:¬(0<x.length/\bT t (u:Int)=true):=fun⟨g1,g2⟩=>by
   rcases ho (List.length_pos_iff.1 g1)with e|e
   ·exact qf e
   rw[e]at g2;cases g2
  have qa:∀n∈nds t (aK t a).toNat y,n∈nds t u (a::y)/\n≠u:=fun n hm=>⟨xO _ hm,fun e=>qe.1 (by rw[<-e];exact hm)⟩;have hh:(aK t a).toNat∈nds t (aK t a).toNat y:=by
   cases y <;> exact List.mem_cons_self
  unfold bM;rw[qF qf,qF qi,kZx];refine⟨a,h1,?_⟩;have qh:=hs _ (qa _ hh).1 (qa _ hh).2;have qg:bZ [] a=false:=rfl;rw[qg,qh];simp only[Bool.or_self,kZq,if_false];rw[show x++a::y=(x++[a])++y by simp];refine jzes y (x++[a]) _ f _ false (.inl rfl) hv h3 qe.2 (fun n hm he=>?_) (fun _=>?_) (by simp at hl;omega)
  ·rw[vN (fun e=>he e.symm)]
   exact hs n (qa n hm).1 (qa n hm).2
  cases y with
  |nil=>exact .inl h3
  |cons b y=>
   rcases h3.2.1 with e|e
   ·cases e
   exact .inr e
theorem jzet{t}{d:Nat}(hv:aH t=true):∀(f:Nat) (x:LN) (u:Nat) (seen:List Bool) (q:LN),q∈bM t [] d f x u seen->seen.length=t.nodes.toNat->seen[u]?.getD false=true->∃y,q=x++y/\PO t u x.isEmpty y d/\(nds t u y).Nodup/\∀n∈nds t u y,n≠u->seen[n]?.getD false=false
 |0,_,_,_,_,h,_,_=>by simp[bM]at h
 |f+1,x,u,seen,q,h,hl,hu=>by
  unfold bM at h;by_cases h1:u=d
  ·rw[qE h1]at h
   refine⟨[],by rw[List.append_nil];exact xD.1 h,h1,by show [u].Nodup;simp,fun n hn hne=>absurd (xD.1 hn) hne⟩
  ·rw[qF h1]at h
   by_cases h2:0<x.length/\bT t u=true
   ·rw[qE h2]at h;cases h
   ·rw[qF h2,kZx]at h
    obtain⟨a,ha,hq⟩:=h;by_cases h3:(bZ [] a||seen[(aK t a).toNat]?.getD false)=true
    ·rw[qE h3]at hq;cases hq
    ·rw[qF h3]at hq
     simp only[Bool.or_eq_true,not_or,Bool.not_eq_true]at h3;obtain⟨_,_,g3,_⟩:=gW hv ha;obtain⟨y,e,k1,k2,k3⟩:=jzet hv f _ _ _ q hq (by rw[yV];exact hl) (by rw[yM qO];rfl);have k4:∀n∈nds t (aK t a).toNat y,seen[n]?.getD false=false:=fun n hn=>by
      by_cases e2:n=(aK t a).toNat
      ·rw[e2];exact h3.2
      ·have:=k3 n hn e2
       rw[vN (fun e=>e2 e.symm)]at this;exact this
     refine⟨a::y,by rw[e];simp,⟨ha,?_,?_⟩,kZo.2 ⟨fun hm=>?_,k2⟩,fun n hn hne=>?_⟩
     ·cases x with
      |nil=>exact .inl rfl
      |cons b x=>
       refine .inr ?_;rw[<-Bool.not_eq_true];exact fun h=>h2 ⟨qS,h⟩
     ·have e3:(x++[a]).isEmpty=false:=by cases x <;> rfl
      rw[e3]at k1;exact k1
     ·rw[k4 u hm]at hu;cases hu
     ·rcases xZ.1 hn with e2|e2
      ·exact absurd e2 hne
      ·exact k4 n e2
theorem jzg{t}{down:List Bool}{d:Nat}:∀(f:Nat) (x:LN) (u:Nat) (seen:List Bool) (q:LN),q∈bM t down d f x u seen->∃r,q=x++r
 |0,_,_,_,_,h=>by simp[bM]at h
 |f+1,x,u,seen,q,h=>by
  unfold bM at h;by_cases h1:u=d
  ·rw[qE h1]at h
   exact⟨[],by rw[List.append_nil];exact xD.1 h⟩
  ·rw[qF h1]at h
   by_cases h2:0<x.length/\bT t u=true
   ·rw[qE h2]at h;cases h
   ·rw[qF h2,kZx]at h
    obtain⟨a,_,hq⟩:=h;by_cases h3:(bZ down a||seen[(aK t a).toNat]?.getD false)=true
    ·rw[qE h3]at hq;cases hq
    ·rw[qF h3]at hq
     obtain⟨r,e⟩:=jzg f _ _ _ q hq;exact⟨a::r,by rw[e];simp⟩
theorem jzn3 t(u:Nat):(aL t u).Nodup:=by
 unfold aL cE;exact List.Pairwise.filter _ List.nodup_range
theorem jzeu{t}{down:List Bool}{d:Nat}:∀(f:Nat) (x:LN) (u:Nat) (seen:List Bool),(bM t down d f x u seen).Nodup
 |0,_,_,_=>List.nodup_nil
 |f+1,x,u,seen=>by
  unfold bM;by_cases h1:u=d
  ·rw[qE h1];simp
  ·rw[qF h1]
   by_cases h2:0<x.length/\bT t u=true
   ·rw[qE h2];exact List.nodup_nil
   ·rw[qF h2]
    refine List.pairwise_flatMap.2 ⟨fun a _=>?_,List.Pairwise.imp (fun {a b} hab p hp q hq e=>?_) (jzn3 t u)⟩
    ·split
     ·exact List.nodup_nil
     ·exact jzeu f _ _ _
    ·split at hp
     ·cases hp
     ·split at hq
      ·cases hq
      ·obtain⟨r,e1⟩:=jzg f _ _ _ p hp
       obtain⟨r2,e2⟩:=jzg f _ _ _ q hq;rw[e1,e2]at e;simp at e;exact hab e.1
def jsP(t:Tp)(l:List Dm)(d:Nat):List (LN):=kV t [] (bE l d) (bC l d)
theorem jzev{t}(hv:aH t=true){s d:Nat}{x:LN}(hs:s<t.nodes.toNat)(h:Lpl t s d x):x∈kV t [] s d:=by
 have:=jzes x [] s t.nodes.toNat ((List.replicate t.nodes.toNat false).set s true) true (.inr rfl) hv h.1 h.2 (fun n hn he=>by rw[vN (fun e=>he e.symm),xB];split <;> rfl) (fun h=>absurd rfl h) (by have:=h.len hv hs;omega);exact this
theorem jzn4{t}(hv:aH t=true){s d:Nat}{x:LN}(hs:s<t.nodes.toNat)(h:x∈kV t [] s d):Lpl t s d x:=by
 obtain⟨y,e,k1,k2,_⟩:=jzet hv t.nodes.toNat [] s ((List.replicate t.nodes.toNat false).set s true) x h qS (by rw[yM (by simp;omega)];rfl);have e:x=y:=e;rw[e];exact⟨k1,k2⟩
def plP:List ((Nat×LN)×Rat)->Nat×LN->Rat
 | [],_=>0
 |z::Z,p=>if z.1=p then z.2 else plP Z p
theorem jzew{p:Nat×LN}:∀{Z:List ((Nat×LN)×Rat)},p∉Z.map (·.1)->plP Z p=0
 | [],_=>rfl
 |z::Z,h=>by
  rw[kZa,xZ,not_or]at h;unfold plP;rw[qF (fun e=>h.1 e.symm)];exact jzew h.2
theorem jzex(p:Nat×LN):∀{Z:List ((Nat×LN)×Rat)},(∀z∈Z,0<z.2)->0<=plP Z p
 | [],_=>vC
 |z::Z,h=>by
  unfold plP
  split
  ·exact vB (h z List.mem_cons_self)
  ·exact jzex p fun y hy=>h y (xO _ hy)
theorem jzey{α:Type}[DecidableEq α](f:α->Rat)(x:α)(c:Rat):∀{J:List α},J.Nodup->x∈J->ls (fun p=>f p*(if x=p then c else 0)) J=f x*c
 |a::J,hn,hx=>by
  have h:=kZo.1 hn;show f a*(if x=a then c else 0)+ls (fun p=>f p*(if x=p then c else 0)) J=_;by_cases e:x=a
  ·rw[qE e,e,nX (fun p hp=>by rw[qF (fun e2=>h.1 (by rw[e2];exact hp)),Rat.mul_zero])]
   grind
  ·rw[qF e,jzey f x c h.2 ((xZ.1 hx).resolve_left e)]
   grind
theorem jzez(f:Nat×LN->Rat){J:List (Nat×LN)}(hJ:J.Nodup):∀{Z:List ((Nat×LN)×Rat)},(Z.map (·.1)).Nodup->(∀z∈Z,z.1∈J)->ls (fun p=>f p*plP Z p) J=ls (fun z=>f z.1*z.2) Z
 | [],_,_=>nX fun p _=>by show f p*0=0;rw[Rat.mul_zero]
 |z::Z,hn,hz=>by
  have h:=kZo.1 hn;have e:ls (fun p=>f p*plP (z::Z) p) J=ls (fun p=>f p*(if z.1=p then z.2 else 0)+f p*plP Z p) J:=gV fun p _=>by
   show f p*(if z.1=p then z.2 else plP Z p)=_;by_cases e:z.1=p
   ·rw[qE e,qE e, <-e,jzew h.1];grind
   ·rw[qF e,qF e];grind
  rw[e,uI,jzey f z.1 z.2 hJ (hz z List.mem_cons_self),jzez f hJ h.2 fun y hy=>hz y (xO _ hy)];rfl
def aV(t:Tp)(l:List Dm)(n:Nat):List (Nat×LN):=(List.range n).flatMap fun d=>(jsP t l d).map fun x=>(d,x)
theorem jzn5 t(l:List Dm)(n:Nat):aV t l (n+1)=aV t l n++(jsP t l n).map fun x=>(n,x):=by
 unfold aV;rw[kZc,List.flatMap_append];simp
theorem jze0{t}{l:List Dm}{n:Nat}{p:Nat×LN}:p∈aV t l n↔p.1<n/\p.2∈jsP t l p.1:=by
 unfold aV;rw[kZx];constructor;{rintro ⟨d,hd,hp⟩;obtain⟨x,hx,rfl⟩:=kQl.1 hp;exact⟨vX.1 hd,hx⟩};rintro ⟨h1,h2⟩;exact⟨p.1,vX.2 h1,kQl.2 ⟨p.2,h2,rfl⟩⟩
theorem jzn6 t(l:List Dm)(n:Nat):(aV t l n).Nodup:=by
 unfold aV;refine List.pairwise_flatMap.2 ⟨fun d _=>?_,List.Pairwise.imp (fun {a b} hab p hp q hq e=>?_) List.nodup_range⟩;{exact List.pairwise_map.2 (List.Pairwise.imp (fun {a b} hab e=>hab (by injection e)) (jzeu _ _ _ _))};obtain⟨x,_,rfl⟩:=kQl.1 hp;obtain⟨y,_,rfl⟩:=kQl.1 hq;injection e with e1;exact hab e1
def cD(d:Nat)(p:Nat×LN):Rat:=if d=p.1 then-1 else 0
def cA(a:Nat)(p:Nat×LN):Rat:=if a∈p.2 then 1 else 0
def aI(l:List Dm)(J:List (Nat×LN))(i:Nat):LQ:=if i<l.length then amQ l i::J.map (cD i)else 0::J.map (cA (i-l.length))
def bJ(t:Tp)(l:List Dm):LQ:=List.replicate l.length 0++(List.range (2*t.links.length)).map (aP t)
def aJ(pr:LQ)(L2:Nat):List (LN)->Rat
 | []=>0
 |x::xs=>xs.foldl (fun m y=>if(sm L2 fun a=>if a∈y then at_ pr a else 0)<m then(sm L2 fun a=>if a∈y then at_ pr a else 0)else m) (sm L2 fun a=>if a∈x then at_ pr a else 0)
theorem jze1{α:Type}(f:α->Rat):∀(xs:List α) (m:Rat),(xs.foldl (fun m y=>if f y<m then f y else m) m=m\/∃y∈xs,xs.foldl (fun m y=>if f y<m then f y else m) m=f y)/\xs.foldl (fun m y=>if f y<m then f y else m) m<=m/\∀y∈xs,xs.foldl (fun m y=>if f y<m then f y else m) m<=f y
 | [],m=>⟨.inl rfl,vC,fun _ h=>by cases h⟩
 |x::xs,m=>by
  rw[List.foldl_cons];obtain⟨h1,h2,h3⟩:=jze1 f xs (if f x<m then f x else m);have h4:(if f x<m then f x else m)<=m/\(if f x<m then f x else m)<=f x:=(by split <;> grind);refine⟨?_,kQs h2 h4.1,fun y hy=>?_⟩
  ·rcases h1 with h1|⟨y,hy,h1⟩
   ·rw[h1]
    split
    ·exact .inr ⟨x,List.mem_cons_self,rfl⟩
    ·exact .inl rfl
   ·exact .inr ⟨y,xO _ hy,h1⟩
  ·rcases xZ.1 hy with rfl|hy
   ·exact kQs h2 h4.2
   ·exact h3 y hy
theorem jzh(pr:LQ)(L2:Nat){xs:List (LN)}:(∀x∈xs,aJ pr L2 xs<=sm L2 fun a=>if a∈x then at_ pr a else 0)/\(xs≠ []->∃x∈xs,aJ pr L2 xs=sm L2 fun a=>if a∈x then at_ pr a else 0):=by
 (cases xs with|nil=>exact⟨fun _ h=>by(cases h),fun h=>absurd rfl h⟩|cons x xs=>obtain⟨h1,h2,h3⟩:=jze1 (fun y=>sm L2 fun a=>if a∈y then at_ pr a else 0) xs (sm L2 fun a=>if a∈x then at_ pr a else 0);refine⟨fun y hy=>?_,fun _=>?_⟩;{(rcases xZ.1 hy with rfl|hy);{exact h2};exact h3 y hy};(rcases h1 with h1|⟨y,hy,h1⟩);{exact⟨x,List.mem_cons_self,h1⟩};exact⟨y,xO _ hy,h1⟩)
structure LpOK(C:LQ)(A:Nat->LQ)(B X Y:LQ)(v:Rat):Prop where
 xn:∀q∈X,0<=q
 yn:∀q∈Y,0<=q
 rows:∀i,i<B.length->(sm C.length fun k=>at_ (A i) k*at_ X k)<=at_ B i
 cols:∀k,k<C.length->at_ C k<=sm B.length fun i=>at_ Y i*at_ (A i) k
 gap:(sm Y.length fun i=>at_ Y i*at_ B i)=v
 val:(sm C.length fun k=>at_ C k*at_ X k)=v
theorem jze2(q:Rat)(l:LQ)(k:Nat):at_ (q::l) 0=q/\at_ (q::l) (k+1)=at_ l k:=⟨rfl,rfl⟩
theorem gR{α:Type}(f:α->Rat)(l:List α){k:Nat}{x:α}(h:l[k]?=some x):at_ (l.map f) k=f x:=by
 unfold at_;rw[yW,h];rfl
theorem jze3{α:Type}(f:α->Rat):∀(l:List α) (g:Nat->Rat),(∀k x,l[k]?=some x->g k=f x)->sm l.length g=ls f l
 | [],_,_=>rfl
 |a::l,g,h=>by
  show sm (l.length+1) g=f a+ls f l;rw[nY,h 0 a rfl,jze3 f l (fun k=>g (k+1)) fun k x e=>h (k+1) x e]
theorem gS(n:Nat)(f:Nat->Rat):∀m,sm (n+m) f=sm n f+sm m fun k=>f (n+k)
 |0=>by show sm n f=sm n f+0;rw[Rat.add_zero]
 |m+1=>by
  show sm (n+m) f+f (n+m)=sm n f+((sm m fun k=>f (n+k))+f (n+m));rw[gS n f m,Rat.add_assoc]
theorem rZ(a b:LQ){k:Nat}:(k<a.length->at_ (a++b) k=at_ a k)/\at_ (a++b) (a.length+k)=at_ b k:=by
 unfold at_;refine⟨fun h=>by rw[yR h],?_⟩;rw[yS qO,show a.length+k-a.length=k by omega]
theorem pX(n:Nat)(f:Nat->Rat){k:Nat}(h:k<n):at_ ((List.range n).map f) k=f k:=gR f _ (by rw[xJ h])
theorem jzn7(n:Nat)(k:Nat):at_ (List.replicate n (0:Rat)) k=0:=by
 unfold at_;rw[xB];split <;> rfl
theorem jzn8{t}{l:List Dm}{v:Rat}{Z:List ((Nat×LN)×Rat)}{pr:LQ}(hf:Fit t l)(h:cN t l v Z pr)(hv:0<=v):
  LpOK (1::(aV t l l.length).map fun _=>0) (aI l (aV t l l.length)) (bJ t l) (v::(aV t l l.length).map (plP Z)) ((List.range l.length).map (fun d=>aJ pr (2*t.links.length) (jsP t l d))++pr) v:=by
 have hJ:=jzn6 t l l.length;have hm:∀z∈Z,z.1∈aV t l l.length:=fun z hz=>jze0.2 ⟨h.adm.dem z hz,jzev hf.v (hf.nodes (h.adm.dem z hz)).1 (h.loop z hz)⟩;have hB:(bJ t l).length=l.length+2*t.links.length:=(by unfold bJ;simp);have qk:∀d,d<l.length->chQ t pr (bE l d) (bC l d)<=aJ pr (2*t.links.length) (jsP t l d)/\0<=aJ pr (2*t.links.length) (jsP t l d):=fun d hd=>(by obtain⟨x,hx⟩:=h.conn d hd;obtain⟨n1,n2,_⟩:=hf.nodes hd;have qe:=jzev hf.v n1 hx;obtain⟨y,hy,e⟩:=(jzh pr (2*t.links.length) (xs:=jsP t l d)).2 (fun e=>by have qe:x∈jsP t l d:=qe;rw[e]at qe;cases qe);(have hy:=jzn4 hf.v n1 hy;rw[e];refine⟨?_,kG _ fun a _=>by split <;> first|exact oE h.pnn a|exact vC⟩;rw[<-hy.prQ_sm];rcases kJ hf.v (kK h.plen h.pnn) n1 n2 with⟨z,e,_,e2⟩|⟨_,e⟩);{unfold chQ;rw[e];exact e2 _ hy};exact absurd hy (e _));have qm:∀d,d<l.length->at_ ((List.range l.length).map (fun d=>aJ pr (2*t.links.length) (jsP t l d))++pr) d=aJ pr (2*t.links.length) (jsP t l d):=fun d hd=>(by rw[(rZ _ _).1 (by simpa using hd),pX _ _ hd]);have qj:∀a,at_ ((List.range l.length).map (fun d=>aJ pr (2*t.links.length) (jsP t l d))++pr) (l.length+a)=at_ pr a:=fun a=>(by have:=(rZ ((List.range l.length).map fun d=>aJ pr (2*t.links.length) (jsP t l d)) pr (k:=a)).2;rw[xV,kZm]at this;exact this);have qi:∀d,d<l.length->at_ (bJ t l) d=0:=fun d hd=>(by unfold bJ;rw[(rZ _ _).1 (by simpa using hd),jzn7]);have qh:∀a,a<2*t.links.length->at_ (bJ t l) (l.length+a)=aP t a:=fun a ha=>(by have:=(rZ (List.replicate l.length (0:Rat)) ((List.range (2*t.links.length)).map (aP t)) (k:=a)).2;rw[xC,pX _ _ ha]at this;exact this);have qa:∀(c0:Rat) (f:Nat×LN->Rat),(sm ((1:Rat)::(aV t l l.length).map fun _=>(0:Rat)).length fun k=>at_ (c0::(aV t l l.length).map f) k*at_ (v::(aV t l l.length).map (plP Z)) k)=c0*v+ls (fun z=>f z.1*z.2) Z:=fun c0 f=>(by rw[kQo,xV,nY];rw[jze3 (fun p=>f p*plP Z p) (aV t l l.length) _ fun k x e=>by rw[(jze2 _ _ k).2,(jze2 _ _ k).2,gR f _ e,gR (plP Z) _ e],jzez f hJ h.adm.dif hm];rfl);have qg:∀i,i<l.length->aI l (aV t l l.length) i=amQ l i::(aV t l l.length).map (cD i):=fun i hi=>qE hi;have qf:∀a,aI l (aV t l l.length) (l.length+a)=0::(aV t l l.length).map (cA a):=fun a=>(by unfold aI;rw[qF qO,show l.length+a-l.length=a by omega]);refine⟨fun q hq=>?_,fun q hq=>?_,fun i hi=>?_,fun k hk=>?_,?_,?_⟩;{(rcases xZ.1 hq with rfl|hq);{exact hv};obtain⟨p,_,rfl⟩:=kQl.1 hq;exact jzex p h.adm.pos};{(rcases xY.1 hq with hq|hq);{obtain⟨d,hd,rfl⟩:=kQl.1 hq;exact(qk d (vX.1 hd)).2};exact h.pnn q hq};{rw[hB]at hi;by_cases hd:i<l.length;{rw[qg i hd,qa,qi i hd];have e:ls (fun z:(Nat×LN)×Rat=>cD i z.1*z.2) Z=(-1)*(v*amQ l i):=(by rw[<-h.adm.sum i hd, <-mM];exact gV fun z _=>(by unfold cD;by_cases e:z.1.1=i;{rw[qE e,qE e.symm]};rw[qF e,qF (fun x=>e x.symm)];grind));rw[e];grind};obtain⟨a,rfl⟩:∃a,i=l.length+a:=⟨i-l.length,qO⟩;rw[qf a,qa,qh a qO];have e:ls (fun z:(Nat×LN)×Rat=>cA a z.1*z.2) Z=ls (fun z=>if a∈z.1.2 then z.2 else 0) Z:=gV fun z _=>(by unfold cA;split <;> grind);rw[e];have:=h.adm.cap a qO;grind};{rw[hB,gS];(have e1:∀{q:Nat->Rat},(∀i,i<l.length->at_ (aI l (aV t l l.length) i) k=q i)->(sm l.length fun i=>at_ ((List.range l.length).map (fun d=>aJ pr (2*t.links.length) (jsP t l d))++pr) i*at_ (aI l (aV t l l.length) i) k)=sm l.length fun i=>aJ pr (2*t.links.length) (jsP t l i)*q i:=fun {q} hq=>sm_congr _ fun i hi=>(by rw[qm i hi,hq i hi]);have e2:∀{q:Nat->Rat},(∀a,a<2*t.links.length->at_ (aI l (aV t l l.length) (l.length+a)) k=q a)->(sm (2*t.links.length) fun a=>at_ ((List.range l.length).map (fun d=>aJ pr (2*t.links.length) (jsP t l d))++pr) (l.length+a)*at_ (aI l (aV t l l.length) (l.length+a)) k)=sm (2*t.links.length) fun a=>at_ pr a*q a:=fun {q} hq=>sm_congr _ fun a ha=>(by rw[qj a,hq a ha]);cases k with|zero=>rw[e1 (q:=amQ l) fun i hi=>by rw[qg i hi];rfl,e2 (q:=fun _=>0) fun a _=>by rw[qf a];rfl,sm_zero (2*t.links.length) fun a _=>Rat.mul_zero _];have h1:=h.need;have h2:(sm l.length fun d=>amQ l d*chQ t pr (bE l d) (bC l d))<=sm l.length fun i=>aJ pr (2*t.links.length) (jsP t l i)*amQ l i:=sm_le _ fun d hd=>(by have:=yT (qk d hd).1 (vB (hf.am hd).1);rw[Rat.mul_comm (aJ _ _ _)];exact this);show(1:Rat)<=_;grind|succ k=>(rw[kQo,xV]at hk;obtain⟨p,hp⟩:∃p,(aV t l l.length)[k]?=some p:=⟨_,yG qO⟩;obtain⟨m1,m2⟩:=jze0.1 (yJ hp);rw[e1 (q:=fun i=>cD i p) fun i hi=>by rw[qg i hi];exact gR _ _ hp,e2 (q:=fun a=>cA a p) fun a _=>by rw[qf a];exact gR _ _ hp];rw[sm_one l.length m1 fun i _ hi=>by unfold cD;rw[qF hi,Rat.mul_zero]];have h1:=(jzh pr (2*t.links.length) (xs:=jsP t l p.1)).1 _ m2;have h2:(sm (2*t.links.length) fun a=>at_ pr a*cA a p)=sm (2*t.links.length) fun a=>if a∈p.2 then at_ pr a else 0:=sm_congr _ fun a _=>(by unfold cA;split <;> grind));rw[h2];have h3:at_ (1::(aV t l l.length).map fun _=>(0:Rat)) (k+1)=0:=gR (fun _=>(0:Rat)) _ hp;rw[h3];unfold cD;rw[qE rfl];grind)};{rw[yQ,xV,kZm,h.plen,gS,sm_zero l.length fun i hi=>by rw[qi i hi,Rat.mul_zero]];have e:(sm (2*t.links.length) fun a=>at_ ((List.range l.length).map (fun d=>aJ pr (2*t.links.length) (jsP t l d))++pr) (l.length+a)*at_ (bJ t l) (l.length+a))=sm (2*t.links.length) fun a=>at_ pr a*aP t a:=sm_congr _ fun a ha=>(by rw[qj a,qh a ha]);rw[e,h.worth,Rat.zero_add]};rw[qa 1 fun _=>0,nX fun z _=>Rat.zero_mul _];grind
structure LpR(w:World)(n m:Nat)(AC:OA)(AA:OA)(AB:OA)(C B:LQ)(R:Nat->LQ):Prop where
 c:QL w AC C
 a:oQ w AA m n R
 b:QL w AB B
 cn:C.length=n
 bn:B.length=m
 n1:1<=n
 n2:n<=100
 m1:m<=100
 sc:∀q∈C,SzQ q 1
 sr:∀i,i<m->∀q∈R i,SzQ q 1
 sb:∀q∈B,SzQ q 1
theorem LpR.K{w w'}{n m:Nat}{AC AA AB}{C B:LQ}{R:Nat->LQ}(h:LpR w n m AC AA AB C B R)(hx:Ext w w'):LpR w' n m AC AA AB C B R:=
 ⟨h.c.K hx,h.a.K hx,h.b.K hx,h.cn,h.bn,h.n1,h.n2,h.m1,h.sc,h.sr,h.sb⟩
theorem jzi(n m cc ca cb:Nat)AC AA AB(C B:LQ)(R:Nat->LQ)w(h:LpR w n m AC AA AB C B R):
  Calls prog 66 #[.agg #[.s AC n cc,.s AA m ca,.s AB m cb]] w fun e w'=>e=.returned (.bool true)/\Ext w w':=by
 obtain⟨b1,e0⟩:=bA w #[.s AC n cc,.s AA m ca,.s AB m cb] 56;have H:=Hx h;have qe:=h.n1;have qf:=h.n2;have hm:=h.m1;have BX:=Hx b1;have EX:=Hx e0;obtain⟨⟨i0,i1,i2⟩,_⟩:=b1.t3;have g1:decide ((n:Int)<1)=false:=yP qO;have g2:decide ((1024:Int)<(n:Int))=false:=yP qO;have g3:decide ((1024:Int)<(m:Int))=false:=yP qO;clear h b1 e0;go_enter func66,ntmps66;(go_upto_region 3 with fail);generalize w.alloc (.cells #[.s AC n cc,.s AA m ca,.s AB m cb] 56)=W0 at*;generalize w.heap.size=g at*;go_wp2;go_loopg [4,33] m (fun q _ it wx=>∃(i:Nat),m-i=q/\i<=m/\it=vI (i:Int)/\Hid (Ext W0 wx));exact⟨0,rfl,yZ _,rfl,Hx (eR W0)⟩;obtain⟨i,rfl,hi,rfl,X⟩:=hrel;have XW:=Hx (EX.o.tr X.o);obtain⟨⟨i0,i1,i2⟩,_⟩:=(BX.o.K X.o).t3;by_cases qa:i<m;{obtain⟨b,o,Ai,ci,rfl,_,a0,_,_⟩:=(H.o.a.K XW.o) i qa;have nN:(i:Int)<(m:Int):=qO;have n0:(0:Int)<=(i:Int):=qO;go_wp2;go_roundg (m-(i+1));exact⟨i+1,rfl,qO,by go_num,X⟩;omega};obtain rfl:i=m:=qO;go_wp2;go_ret;exact⟨rfl,XW.o⟩
theorem jzn9(n m k i ca cy gY gP gK T:Nat)(VC VB:Value)AA AY(Y:LQ)(R:Nat->LQ)w(hP:Blk w gP 56 #[VC,.s AA m ca,VB])(hY:Blk w gY 35 #[.s AY m cy])(hK:Blk w gK 3 #[vI (k:Int)])(hA:oQ w AA m n R)(hy:QL w AY Y)(hym:Y.length=m)(hk:k<n)(hi:i<m)(hl:n<=1000/\m<=1000)(sa:∀q∈R i,SzQ q 1)(sy:∀q∈Y,SzQ q T)(hT:T<=100000):
  Calls prog 177 #[vI (i:Int),.pointer (sA gY),.pointer (sA gP),.pointer (sA gK)] w (cO w (at_ Y i*at_ (R i) k)):=by
 obtain⟨qB,qz⟩:=hl;have qh:i<Y.length:=qO;obtain⟨pr,qw,Ar,cr,rfl,_,r0,hr,qx⟩:=hA i hi;have qf:k<(R i).length:=qO;obtain⟨pa,oa,n1,A1,m1,c1,qk,qm,qn,rfl,_,a0,a1,a2,h1⟩:=hy.at_ (aO qh);obtain⟨pb,ob,n2,A2,m2,c2,qj,qt,qo,rfl,_,b0,b1,b2,h2⟩:=hr.at_ (aO qf);obtain⟨l1,qC⟩:=h1.lens (sy _ (yJ (aO qh)));obtain⟨l2,qH⟩:=h2.lens (sa _ (yJ (aO qf)));obtain⟨b4,e0⟩:=bA w rV 33;have qa:=Hx (show∀wx,Ext w wx->(wx.cell? (aD gY 0)=some (.s (some (aD pa oa)) m cy)/\wx.cell? (aD gP 1)=some (.s (some (aD pr qw)) m ca)/\wx.cell? (aD gK 0)=some (vI (k:Int))/\wx.cell? (aD pr (qw+i))=some (.s (some (aD pb ob)) n cr))/\(wx.cell? (aD pa (oa+i*3))=some (.bool n1)/\wx.cell? (aD pa (oa+i*3+1))=some (.s A1 m1 c1)/\wx.cell? (aD pa (oa+i*3+2))=some (.s qk qm qn))/\(wx.cell? (aD pb (ob+k*3))=some (.bool n2)/\wx.cell? (aD pb (ob+k*3+1))=some (.s A2 m2 c2)/\wx.cell? (aD pb (ob+k*3+2))=some (.s qj qt qo))from fun wx hx=>
  ⟨⟨(hY.K hx).cell 0,(hP.K hx).cell 1,(hK.K hx).cell 0,aA hx r0⟩,⟨aA hx a0,aA hx a1,aA hx a2⟩,⟨aA hx b0,aA hx b1,aA hx b2⟩⟩)
 have qp:=Hx (kQa h1 h2);have B4:=Hx b4;have E0:=Hx e0;have iN:(i:Int)<(m:Int):=qO;have kN:(k:Int)<(n:Int):=qO;have i0:(0:Int)<=(i:Int):=qO;have k0:(0:Int)<=(k:Int):=qO;clear hA hy hr qx hP hY hK sa sy r0 a0 a1 a2 b0 b1 b2 h1 h2 b4 e0 hym qh qf
 go_enter func177,ntmps177
 go_upto_region 1 with fail
 generalize w.alloc (.cells rV 33)=W0 at*;have qA:w.heap.size<W0.heap.size:=B4.o.lt;generalize hg:w.heap.size=g at*;have XD:Hid (Ext w W0.drew):=Hx (E0.o.drewN 1);have HSW:=Hx (qa.o _ XD.o);refine wX qa 13 ?_;refine wV 0 rfl HSW.o ?_;try simp only[qP]
 refine wP 1 rfl HSW.o ?_;try simp only[qP]
 refine wP 2 rfl HSW.o ?_;try simp only[qP]
 refine wV 3 rfl HSW.o ?_;try simp only[qP]
 refine wP 4 rfl HSW.o ?_;try simp only[qP]
 refine wV 5 rfl HSW.o ?_;try simp only[qP]
 refine wP 6 rfl HSW.o ?_;try simp only[qP]
 refine wP 7 rfl HSW.o ?_;try simp only[qP]
 refine wV 8 rfl HSW.o ?_;try simp only[qP]
 refine wV 9 rfl HSW.o ?_;try simp only[qP]
 refine wP 10 rfl HSW.o ?_;try simp only[qP]
 refine wV 11 rfl HSW.o ?_;try simp only[qP]
 refine wC 12 rfl (fun KK hK=>?_);go_simp;refine(fY n1 n2 A1 m1 c1 qk qm qn A2 m2 c2 qj qt qo (at_ Y i) (at_ (R i) k) _ (qp.o.1.K XD.o) (qp.o.2.K XD.o) qO qO qO qO).mono ?_;rintro e w9 ⟨n9,A9,l9,c9,qi,qg,qe,rfl,h9,x9⟩;have E9:=Hx (XD.o.tr x9);have HSW:=Hx (qa.o _ E9.o);have B9:=Hx ((B4.o.K ((eR W0).drewN 1)).K x9);have F:=Hx (dH (w:=w) h9 B9.o qO E9.o);have HB:=Hx (((B9.o.sT 0 (.bool n9)).sT 1 (.s A9 l9 c9)).sT 2 (.s qi qg qe));obtain⟨⟨p0,p1,p2⟩,z0,z1,z2⟩:=B9.o.t3;refine hK.o _ _ HSW.o ?_;clear hK KK x9 h9;try simp only[qP]
 refine aY qK rfl qR (fun KK hK=>?_);go_simp;refine hK.o _ _ ?_;clear hK KK;refine wpAny_done qK ?_ _;clear p0 p1 p2 z0 z1 z2 HSW;go_wp2;have qy:=HB.o;exact bodyPost_ret (v:=.agg #[.bool n9,.s A9 l9 c9,.s qi qg qe]) (by simp[results,results177,go_sem,qy.cell]) rfl ⟨n9,A9,l9,c9,qi,qg,qe,rfl,F.o⟩
theorem jzoa(n m k cc ca cb cy T:Nat)AC AA AB AY(C B Y:LQ)(R:Nat->LQ)w(h:LpR w n m AC AA AB C B R)(hy:QL w AY Y)(hym:Y.length=m)(hk:k<n)(sy:∀q∈Y,SzQ q T)(hT:T+1<=100000):
  Calls prog 130 #[.agg #[.s AC n cc,.s AA m ca,.s AB m cb],.s AY m cy,vI (k:Int)] w (cO w (sm m fun i=>at_ Y i*at_ (R i) k)):=by
 have qh:=h.n2;have qi:=h.m1;obtain⟨b3,b4,b5,b6,e0⟩:=pC w #[.s AC n cc,.s AA m ca,.s AB m cb] 56 #[.s AY m cy] 35 #[vI (k:Int)] 3 rV 33;have S:=Hx (fun W (hx:Ext ((((w.alloc (.cells #[.s AC n cc,.s AA m ca,.s AB m cb] 56)).alloc (.cells #[.s AY m cy] 35)).alloc (.cells #[vI (k:Int)] 3)).alloc (.cells rV 33)) W)=>jzeq m 177 [.pointer (sA (w.heap.size+1)),.pointer (sA w.heap.size),.pointer (sA (w.heap.size+2))] (fun i=>at_ Y i*at_ (R i) k) (T+1) W (fun args wx=>qR)
  (fun wx i hi hx2=>jzn9 n m k i ca cy (w.heap.size+1) w.heap.size (w.heap.size+2) T (.s AC n cc) (.s AB m cb) AA AY Y R wx (b3.K (hx.tr hx2)) (b4.K (hx.tr hx2)) (b5.K (hx.tr hx2)) (h.a.K (e0.tr (hx.tr hx2))) (hy.K (e0.tr (hx.tr hx2))) hym hk hi ⟨qO,qO⟩ (h.sr i hi) sy qO)
  (fun i hi=>(sy _ (yJ (aO qO))).mul (h.sr i hi _ (yJ (aO (by
   obtain⟨_,_,_,_,_,_,_,_,h9⟩:=h.a i hi;omega))))) qO hT)
 have i1:=b3.cell 1;have B6:=Hx b6;have E0:=Hx e0;clear h hy hym hk sy b3 b4 b5 b6 e0;go_enter func130,ntmps130;(go_upto_region 1 with fail);generalize (((w.alloc (.cells #[.s AC n cc,.s AA m ca,.s AB m cb] 56)).alloc (.cells #[.s AY m cy] 35)).alloc (.cells #[vI (k:Int)] 3)).alloc (.cells rV 33)=W0 at*;generalize hg:w.heap.size=g at*;go_wp2_with fail;refine(S.o _ (eR _)).mono ?_;rintro e w9 ⟨n9,A9,l9,c9,qf,qe,qa,rfl,h9,x9⟩;have E9:=Hx (E0.o.tr x9);have B9:=Hx (B6.o.K x9);have F:=Hx (dH (w:=w) h9 B9.o qO E9.o);have HB:=Hx (((B9.o.sT 0 (.bool n9)).sT 1 (.s A9 l9 c9)).sT 2 (.s qf qe qa));obtain⟨⟨p0,p1,p2⟩,z0,z1,z2⟩:=B9.o.t3;clear x9 h9 i1 S;go_wp2;have qg:=HB.o;exact bodyPost_ret (v:=.agg #[.bool n9,.s A9 l9 c9,.s qf qe qa]) (by simp[results,results130,go_sem,qg.cell]) rfl ⟨n9,A9,l9,c9,qf,qe,qa,rfl,F.o⟩
end Go.Proofs.YtfeeacaofjpkaaaGreatDoor
