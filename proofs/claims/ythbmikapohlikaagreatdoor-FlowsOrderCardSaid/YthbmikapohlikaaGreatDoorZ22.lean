/- Part 22 of 24 of what the Flows claims share (the white space is struck, the texts are joined). -/
import Derived.WalkMore
import Derived.Test.YthbmikapohlikaaGreatDoorZ21
set_option linter.unusedVariables false
set_option linter.unusedSimpArgs false
set_option maxRecDepth 100000
set_option maxHeartbeats 8000000
namespace Go.Proofs.YthbmikapohlikaaGreatDoor
open Go.RowKit
theorem pivT_fre(T:Sx.Tb)(i j:Nat):(Sx.pivT T i j).fre.length=T.fre.length:=by
 show(T.fre.set j _).length=_;rw [yV]
theorem jzay(T:Sx.Tb):∀n,(Sx.iterT n T).fre.length=T.fre.length
 |0=>rfl
 |n+1=>by
  have ih:=jzay T n;show((Sx.stepT (Sx.iterT n T)).getD (Sx.iterT n T)).fre.length=_;cases h:Sx.stepT (Sx.iterT n T)with
  |none=>exact ih
  |some T'=>
   obtain⟨i,j,_,_,e⟩:=Sx.stepT_some h;show T'.fre.length=_;rw [e,pivT_fre,ih]
theorem jzlx(T:Sx.Tb){n i j:Nat}(h1:Sx.entT (Sx.iterT n T)=some j)(h2:Sx.levT (Sx.iterT n T) j=some i):Sx.iterT (n+1) T=Sx.pivT (Sx.iterT n T) i j:=by
 show(Sx.stepT (Sx.iterT n T)).getD (Sx.iterT n T)=_;unfold Sx.stepT;rw [h1];simp only [];rw [h2];rfl
theorem jzi5(B P N:Nat)(L:TLoc)(T:Sx.Tb)(w:World)(h:TabR w B L T)(he:Sx.entT (Sx.iterT N T)=none)(hs:∀n,n<N->∃j i,Sx.entT (Sx.iterT n T)=some j/\Sx.levT (Sx.iterT n T) j=some i)
  (qi:∀n,n<=N->OkT (Sx.iterT n T)/\SzT (Sx.iterT n T) P) (hP:P<=100000) (hm0:0<L.m) (hm:L.m<=1000000) (hK0:0<T.fre.length) (hK:T.fre.length<=1000000000000):
  Calls Tryz.prog 42 #[.pointer (some ⟨L.p,0,none⟩)] w fun e w'=>e=.returned (.bool true)/\TabR w' B L (Sx.iterT N T)/\FrS L.S w w':=by
 have H0:=Hx (show TabR w B L (Sx.iterT 0 T)/\FrS L.S w w from⟨h,FrS.refl _ _⟩);have HH:=Hx (And.intro he (And.intro hs qi));clear h he hs qi
 go_enter Tryz.func42,Tryz.ntmps42
 go_wp2
 go_loopg [3,4] N (fun q _ _ wr=>∃n:Nat,N-n=q/\n<=N/\Hid (TabR wr B L (Sx.iterT n T)/\FrS L.S w wr))
 case atStart=>exact⟨0,rfl,yZ _,H0⟩
 case round=>
  obtain⟨n,rfl,hn,I⟩:=hrel;clear H0;have qh:=Hx (jziy B L (Sx.iterT n T) wr I.out.1 (HH.out.2.2 n hn).1.gl (by rw [jzay];exact hK0) (by rw [jzay];exact hK))
  go_wp2_with fail
  refine qh.out.mono ?_;rintro e w2 ⟨rfl,x2⟩;have I2:=Hx (show TabR w2 B L (Sx.iterT n T)/\FrS L.S w w2 from⟨I.out.1.keep x2,I.out.2.tr (FrS.of_ext (S:=L.S) x2) fun b hb=>.inl hb⟩);clear qh I x2;by_cases qp:n<N
  ·obtain⟨j,i,hj,hi⟩:=HH.out.2.1 n qp
   rw [hj];have qj:j<T.fre.length:=by
    have:=(Sx.entN_some _ _ hj).1;rw [(HH.out.2.2 n hn).1.gl,jzay]at this;exact this
   have qk:i<L.m:=by
    have:=(Sx.levN_some _ _ _ hi).1;rw [I2.out.1.rl]at this;exact this
   have qe:Sx.at_ ((Sx.iterT n T).row i).co j≠0:=fun e=>by
    have:=(Sx.levN_some _ _ _ hi).2.1;rw [e]at this;exact absurd this Rat.lt_irrefl
   have qf:=Hx (jzlw B j P L (Sx.iterT n T) w2 I2.out.1 (HH.out.2.2 n hn).1 (HH.out.2.2 n hn).2 hP (by rw [jzay];exact qj) hm0 hm (by rw [jzay];exact hK));have qo:optN (some j)=(j:Int):=rfl;rw [qo];have qn:decide ((j:Int)<0)=false:=yP (by omega)
   go_wp2_with fail
   refine qf.out.mono ?_;rintro e w3 ⟨rfl,x3⟩;rw [hi];have qa:optN (some i)=(i:Int):=rfl;rw [qa];have qt:decide ((i:Int)<0)=false:=yP (by omega);have I3:=Hx (show TabR w3 B L (Sx.iterT n T)/\FrS L.S w w3 from⟨I2.out.1.keep x3,I2.out.2.tr (FrS.of_ext (S:=L.S) x3) fun b hb=>.inl hb⟩);have BG:=Hx (Blk.new w3 150 #[.pointer (some ⟨L.p,3,none⟩)]);have XB:=Hx ((Ext.refl w3).alloc (.cells #[.pointer (some ⟨L.p,3,none⟩)] 150));have qg:=Hx (pivot_ok B i j w3.heap.size P L (Sx.iterT n T) _ (I3.out.1.keep XB.out) (HH.out.2.2 n hn).1 (HH.out.2.2 n hn).2 hP qk (by rw [jzay];exact qj) qe hm (by rw [jzay];exact hK) BG.out);have ST:=Hx (jzlx T hj hi);clear qf I2 x3 hj hi qe
   go_wp2_with fail
   refine qg.out.mono ?_;rintro e w4 ⟨rfl,h4,k4⟩;have I4:=Hx (show TabR w4 B L (Sx.iterT (n+1) T)/\FrS L.S w w4 from⟨by rw [ST.out];exact h4,(I3.out.2.tr (FrS.of_ext (S:=L.S) XB.out) fun b hb=>.inl hb).tr k4 fun b hb=>.inl hb⟩);clear h4 k4 qg BG XB I3;go_wp2
   go_roundg (N-(n+1))
   case measure=>omega
   case rel=>exact⟨n+1,rfl,by omega,I4⟩
  ·obtain rfl:n=N:=by omega
   rw [HH.out.1];have qm:optN none= -1:=rfl;rw [qm];have qn:decide ((-1:Int)<0)=true:=rfl;go_wp2;go_ret;exact⟨rfl,I2.out⟩
theorem FlR.base{w0 w1 w:World}{x mb:Nat}{t:Tp}{AO:Option Addr}{co:Nat}{AL:Option Addr}{cl:Nat}{l:List Dm}{AD:Option Addr}{cd:Nat}{L:TLoc}{T:Sx.Tb}{vP:Value}{P Q:List (Nat×List Nat)}(h:FlR w1 w x mb t AO co AL cl l AD cd L T vP P Q)(hx:Ext w0 w1)(ht:TopR w0 t AO co AL cl)(hd:DmR w0 l AD cd):FlR w0 w x mb t AO co AL cl l AD cd L T vP P Q:=by
 obtain⟨css,h1,h2,h3,h4⟩:=h.pat;exact⟨hx.tr h.ext,ht,hd,h.box,yY hx.size h.xlo,h.tab.mono hx.size,h.m,⟨css,h1,h2,h3.mono hx.size,h4⟩,h.map,yY hx.size h.mlo⟩
structure SolI(w wx:World)(x mb:Nat)(t:Tp)(AO:Option Addr)(co:Nat)(AL:Option Addr)(cl:Nat)(l:List Dm)(AD:Option Addr)(cd:Nat)(L:TLoc)(T:Sx.Tb)(vP:Value)(P:List (Nat×List Nat)):Prop where
 fl:FlR w wx x mb t AO co AL cl l AD cd L T vP P P
 lp:Sx.FLP (2*t.links.length) l.length (amQ l) (capQ t) T P
 dif:P.Nodup
 loop:∀p∈P,p.1<l.length/\Lpl t (srcN l p.1) (dstN l p.1) p.2
section
variable {w wx wy:World} {x mb:Nat} {t:Tp} {AO:Option Addr} {co:Nat} {AL:Option Addr} {cl:Nat} {l:List Dm} {AD:Option Addr} {cd:Nat} {L:TLoc} {T:Sx.Tb} {vP:Value} {P:List (Nat×List Nat)}
theorem SolI.keep(h:SolI w wx x mb t AO co AL cl l AD cd L T vP P)(hx:Ext wx wy):SolI w wy x mb t AO co AL cl l AD cd L T vP P:=⟨h.fl.keep hx,h.lp,h.dif,h.loop⟩
theorem SolI.few(h:SolI w wx x mb t AO co AL cl l AD cd L T vP P)(hf:Fit t l)(hl:t.links.length<=10)(hN:t.nodes<=7):P.length<=(Sx.cands l.length 21 6).length:=
 Sx.paths_few h.dif fun p hp=>by
  obtain⟨h1,h2⟩:=h.loop p hp;obtain⟨h3,_⟩:=hf.nodes h1;have h4:=h2.len hf.v h3;refine⟨h1,fun a ha=>?_,by omega⟩;have:=jzd0 _ h2.1 a ha;omega
theorem cands_21(D:Nat)(hD:D<=4):(Sx.cands D 21 6).length<=3000000000:=by
 have h1:=Sx.cands_len D 21 6 (by decide);have h2:D*((6+1)*21^6)<=4*((6+1)*21^6):=xS _ hD;have h3:4*((6+1)*21^6)<=3000000000:=(by decide);omega
end
theorem jzly(d:Nat)(Dn:Int):∀(Zs:List ((Nat×List Nat)×Rat)) (r:Rat),(∀z∈Zs,Sx.isI (z.2*(Dn:Rat)))->Sx.isI (r*(Dn:Rat))->∀z∈Sx.cut d r Zs,Sx.isI (z.2*(Dn:Rat))
 | [],r,_,_,z,hz=>by cases hz
 |y::Zs,r,h,hr,z,hz=>by
  have h1:=h y (by simp);have h2:∀z∈Zs,Sx.isI (z.2*(Dn:Rat)):=fun z hz=>h z (xO _ hz);have hm:Sx.isI ((if r<y.2 then r else y.2)*(Dn:Rat)):=(by split <;> assumption);unfold Sx.cut at hz;by_cases hd:y.1.1=d
  ·rw [if_pos hd]at hz
   generalize (if r<y.2 then r else y.2)=m at hz hm;rcases xY.1 hz with hz|hz
   ·split at hz
    ·rw [xD.1 hz];exact hm
    ·cases hz
   ·refine jzly d Dn Zs _ h2 ?_ z hz
    obtain⟨a,ha⟩:=hr;obtain⟨b,hb⟩:=hm;exact⟨a-b,by rw [Rat.intCast_sub, <-ha, <-hb];grind⟩
  ·rw [if_neg hd]at hz
   exact jzly d Dn Zs r h2 hr z hz
theorem planZ_sz{t:Tp}{l:List Dm}{T:Sx.Tb}{P:List (Nat×List Nat)}(hf:Fit t l)(hl:t.links.length<=10)(hD:l.length<=4)(h:Sx.FLP (2*t.links.length) l.length (amQ l) (capQ t) T P)(hz:∀z∈Sx.ptZ T P,0<=z.2):∀z∈Sx.planZ l.length (amQ l) T.goal.re (Sx.ptZ T P),SzQ z.2 41:=fun z hzm=>by
 obtain⟨_,_,_,_,Dn,d1,d2,d3,d4⟩:=jzld hf hl hD h;have hm:∀z∈Sx.ptZ T P,Sx.Qn Dn ZB z.2:=fun z hz=>d4 z.2 (List.mem_of_mem_drop (Sx.zipF_mem P ((Sx.ptT T).drop 1) hz).2);unfold Sx.planZ at hzm;obtain⟨d,hd,qa⟩:=List.mem_flatMap.1 hzm;have hd:=vX.1 hd;obtain⟨e1,e2,f,e3,e4⟩:=Sx.cut_mem qa;have hI:=jzly d Dn (Sx.ptZ T P) (T.goal.re*amQ l d) (fun z hz=>(hm z hz).1) (by
  obtain⟨a,ha⟩:=d3.1;obtain⟨b,hb⟩:=(hf.am hd).2.1;exact⟨a*b,by rw [Rat.intCast_mul, <-ha, <-hb];grind⟩) z qa
 have hq:=hm _ e3;have h0:=hz _ e3;exact rest_sz (v:=f) (am:=1) d1 d2 hq.2 h0 (show((1:Int):Rat)<=((1048576:Int):Rat)from Rat.intCast_le_intCast.2 (by decide)) (by grind) (by grind) (by rw [Rat.mul_one];exact e4) hI
def SolvePost(w:World)(t:Tp)(l:List Dm)(e:Ending)(w':World):Prop:=
 (fitP t l=false/\e=.returned (.tuple #[.agg #[.bool false,.slice none 0 0,.slice none 0 0,.slice none 0 0,.slice none 0 0],.int .i64 1])/\Ext w w')\/
 (Fit t l/\(∃d,d<l.length/\∀y,¬Lpl t (srcN l d) (dstN l d) y)/\e=.returned (.tuple #[.agg #[.bool false,.slice none 0 0,.slice none 0 0,.slice none 0 0,.slice none 0 0],.int .i64 11])/\Ext w w')\/
 (Fit t l/\∃(v:Rat) (Z:List ((Nat×List Nat)×Rat)) (pr:List Rat) (neg:Bool) (A1:Option Addr) (n1 c1:Nat) (A2:Option Addr) (n2 c2:Nat) (AP:Option Addr) (cp gp:Nat),
  PlanOK t l v Z pr/\SzQ v 20/\(∀z∈Z,SzQ z.2 41)/\(∀q∈pr,SzQ q 20)/\Z.length<=24/\
  e=.returned (.tuple #[.agg #[.bool neg,.slice A1 n1 c1,.slice A2 n2 c2,.slice AP Z.length cp,.slice (some ⟨gp,0,none⟩) (2*t.links.length) (2*t.links.length)],.int .i64 0])/\
  RatR w' neg A1 n1 c1 A2 n2 c2 v/\Z.length<=cp/\PLr w' AP (Z.map pzI)/\QL w' (some ⟨gp,0,none⟩) pr/\Ext w w')
theorem jze9(t:Tp)(AO:Option Addr)(co:Nat)(AL:Option Addr)(cl:Nat)(l:List Dm)(AD:Option Addr)(cd:Nat)(w:World)(ht:TopR w t AO co AL cl)(hd:DmR w l AD cd)(hl:t.links.length<=10)(hD:l.length<=4)(hN:validP t=true->t.nodes<=7)(qW:Tab w):
  Calls Tryz.prog 12 #[.agg #[.int .i64 t.nodes,.slice AO t.over.length co,.slice AL t.links.length cl],.slice AD l.length cd] w (SolvePost w t l):=by
 have HT:=Hx (And.intro ht (And.intro hd (And.intro hN qW)));have vc:=hd.len;have vg:=ht.ll;obtain⟨qG,qZ,e0⟩:=boxes2 w #[.int .i64 t.nodes,.slice AO t.over.length co,.slice AL t.links.length cl] 25 #[.bool false,.slice none 0 0,.slice none 0 0,.slice none 0 0,.slice none 0 0] 39;obtain⟨⟨i0,i1,i2⟩,_⟩:=qG.three;have E0:=Hx (And.intro qG (And.intro qZ e0));clear ht hd hN qW qG qZ e0
 go_enter Tryz.func12,Tryz.ntmps12
 go_upto_region 1 with fail
 go_step3
 have vd:((w.alloc (.cells #[.int .i64 t.nodes,.slice AO t.over.length co,.slice AL t.links.length cl] 25)).alloc (.cells #[.bool false,.slice none 0 0,.slice none 0 0,.slice none 0 0,.slice none 0 0] 39)).heap.size=w.heap.size+2:=(by simp);generalize (w.alloc (.cells #[.int .i64 t.nodes,.slice AO t.over.length co,.slice AL t.links.length cl] 25)).alloc (.cells #[.bool false,.slice none 0 0,.slice none 0 0,.slice none 0 0,.slice none 0 0] 39)=W0 at*;have H0:=Hx (show TopR W0 t AO co AL cl/\DmR W0 l AD cd/\Tab W0 from⟨HT.out.1.keep E0.out.2.2,HT.out.2.1.keep E0.out.2.2,HT.out.2.2.2.keep E0.out.2.2⟩);have qm:=Hx (show∀wx,Ext W0 wx->((wx.cell? ⟨w.heap.size+1,0,none⟩=some (.bool false)/\wx.cell? ⟨w.heap.size+1,1,none⟩=some (.slice none 0 0)/\wx.cell? ⟨w.heap.size+1,2,none⟩=some (.slice none 0 0)/\wx.cell? ⟨w.heap.size+1,3,none⟩=some (.slice none 0 0)/\wx.cell? ⟨w.heap.size+1,4,none⟩=some (.slice none 0 0))/\
   (wx.frozen? ⟨w.heap.size+1,0,none⟩=false/\wx.frozen? ⟨w.heap.size+1,1,none⟩=false/\wx.frozen? ⟨w.heap.size+1,2,none⟩=false/\wx.frozen? ⟨w.heap.size+1,3,none⟩=false/\wx.frozen? ⟨w.heap.size+1,4,none⟩=false))from fun wx hx=>
  ⟨⟨(E0.out.2.1.keep hx).cell 0,(E0.out.2.1.keep hx).cell 1,(E0.out.2.1.keep hx).cell 2,(E0.out.2.1.keep hx).cell 3,(E0.out.2.1.keep hx).cell 4⟩,(E0.out.2.1.keep hx).frozen 0,(E0.out.2.1.keep hx).frozen 1,(E0.out.2.1.keep hx).frozen 2,(E0.out.2.1.keep hx).frozen 3,(E0.out.2.1.keep hx).frozen 4⟩)
 have qp:=Hx (show∀wx,Ext W0 wx->(Blk (((((wx.setCell ⟨w.heap.size+1,0,none⟩ (.bool false)).setCell ⟨w.heap.size+1,1,none⟩ (.slice none 0 0)).setCell ⟨w.heap.size+1,2,none⟩ (.slice none 0 0)).setCell ⟨w.heap.size+1,3,none⟩ (.slice none 0 0)).setCell ⟨w.heap.size+1,4,none⟩ (.slice none 0 0)) (w.heap.size+1) 39 #[.bool false,.slice none 0 0,.slice none 0 0,.slice none 0 0,.slice none 0 0]/\
   Ext w (((((wx.setCell ⟨w.heap.size+1,0,none⟩ (.bool false)).setCell ⟨w.heap.size+1,1,none⟩ (.slice none 0 0)).setCell ⟨w.heap.size+1,2,none⟩ (.slice none 0 0)).setCell ⟨w.heap.size+1,3,none⟩ (.slice none 0 0)).setCell ⟨w.heap.size+1,4,none⟩ (.slice none 0 0)))from fun wx hx=>by
  have hB:=E0.out.2.1.keep hx;have s0:=hB.set_ 0 (.bool false);have s1:=s0.set_ 1 (.slice none 0 0);have s2:=s1.set_ 2 (.slice none 0 0);have s3:=s2.set_ 3 (.slice none 0 0);have s4:=s3.set_ 4 (.slice none 0 0);refine⟨s4,(FrS.of_grown (S:=fun b=>b=w.heap.size+1) (grown5 wx (w.heap.size+1) _ _ _ _ _) fun g e=>by injection e with e;exact e.symm).ext (E0.out.2.2.tr hx) fun b hb=>by rw [hb];omega⟩)
 go_wp2_with fail
 refine(jzf5 t AO co AL cl l AD cd _ H0.out.1 H0.out.2.1).mono ?_;rintro e w1 ⟨rfl,qK⟩;have X1:=Hx qK;clear qK;cases hv:fitP t l
 ·have qn:=Hx (qp.out _ X1.out)
  have HV:=Hx hv;obtain⟨⟨v0,v1,v2,v3,v4⟩,r0,r1,r2,r3,r4⟩:=qm.out _ X1.out;clear qp qm hv i0 i1 i2;go_wp2;have qf:=qn.out.1;exact bodyPost_ret (v:=.tuple #[.agg #[.bool false,.slice none 0 0,.slice none 0 0,.slice none 0 0,.slice none 0 0],.int .i64 1]) (by simp [results,Tryz.results12,go_sem,qf.cell]) rfl (.inl ⟨HV.out,rfl,qn.out.2⟩)
 ·have qa:=Hx ((jza0 (by omega)).1 hv)
  have qO:t.nodes<=7:=HT.out.2.2.1 qa.out.v;clear hv i0 i1 i2;obtain⟨⟨i0,i1,i2⟩,_⟩:=(E0.out.1.keep X1.out).three
  go_wp2_with fail
  refine(build_ok t AO co AL cl l AD cd _ (H0.out.1.keep X1.out) (H0.out.2.1.keep X1.out) qa.out hl hD).mono ?_;rintro e w2 ⟨x,mb,L0,T0,rfl,F0,P0⟩;have S0:=Hx (show SolI W0 w2 x mb t AO co AL cl l AD cd L0 T0 (.slice none 0 0) []from⟨F0.base X1.out H0.out.1 H0.out.2.1,P0,List.nodup_nil,fun p hp=>by cases hp⟩);clear F0 P0 i0 i1 i2;go_wp2
  go_loopg [7,8,9,10,21] l.length (fun q _ _ _ _ it wx=>∃(n:Nat) (L:TLoc) (T:Sx.Tb) (vP:Value) (P:List (Nat×List Nat)),l.length-n=q/\n<=l.length/\it=.int .i64 (n:Int)/\
   Hid (SolI W0 wx x mb t AO co AL cl l AD cd L T vP P/\P.length<=n/\(∀p∈P,p.1<n)/\(∀d,d<n->∃y,Lpl t (srcN l d) (dstN l d) y)/\(0<n->P≠ [])))
  case atStart=>exact⟨0,L0,T0,_,[],rfl,yZ _,rfl,Hx ⟨S0.out,yX _,(fun p hp=>by cases hp),(fun d hd=>by omega),fun h=>by omega⟩⟩
  case round=>
   obtain⟨n,L,T,vP,P,rfl,hn,rfl,I⟩:=hrel;clear S0;by_cases qo:n<l.length
   ·obtain⟨d,hd⟩:∃d,l[n]?=some d:=⟨_,yG qo⟩
    obtain⟨b,o,rfl,hb,a0,a1,a2,a3⟩:=H0.out.2.1.at_ hd;have a0:=cellK I.out.1.fl.ext a0;have a1:=cellK I.out.1.fl.ext a1;have a2:=cellK I.out.1.fl.ext a2;have a3:=cellK I.out.1.fl.ext a3;have hb:b<wr.heap.size:=yL hb I.out.1.fl.ext.size;have HN:=Hx (show srcN l n<t.nodes.toNat/\dstN l n<t.nodes.toNat/\d.src=(srcN l n:Int)/\d.dst=(dstN l n:Int)from by
     obtain⟨h1,h2,h3,h4,h5⟩:=qa.out.nodes qo;have e:l[n]=d:=(yH.1 hd).2;rw [e]at h4 h5;exact⟨h1,h2,h4,h5⟩)
    have nN:(n:Int)<(l.length:Int):=(by omega);have n0:(0:Int)<=(n:Int):=(by omega);have X8:=Hx (show Ext wr (wr.alloc (.cells #[.int .i64 d.src,.int .i64 d.dst,.int .i64 d.amount,.int .i64 d.prio] 27))from(Ext.refl wr).alloc _);have B8:=Hx (Blk.new wr 27 #[.int .i64 d.src,.int .i64 d.dst,.int .i64 d.amount,.int .i64 d.prio]);clear hd
    go_upto_region 7 with fail
    clear a0 a1 a2 a3;generalize wr.alloc (.cells #[.int .i64 d.src,.int .i64 d.dst,.int .i64 d.amount,.int .i64 d.prio] 27)=W8 at*;have X0:=Hx (show Ext W0 W8 from I.out.1.fl.ext.tr X8.out);generalize hbd:wr.heap.size=bd at*;generalize hR:chP t [] (costL t) d.src d.dst=R;have HR:=Hx hR;clear hR;have y0:=B8.out.cell 0;have y1:=B8.out.cell 1;obtain⟨⟨z0,z1,z2⟩,_⟩:=(E0.out.1.keep X0.out).three;have SH:=Hx (jzgx t AO co AL cl none 0 [] d.src d.dst _ (H0.out.1.keep X0.out) (by omega) (Rd.nil _ _) (by decide) (by decide));rw [HR.out]at SH
    go_wp2_with fail
    refine SH.out.mono ?_;rintro e w5 qe;clear SH;have qA:=Hx (jzdq (d:=dstN l n) qa.out.v (jzdp t) HN.out.1 HN.out.2.1);rw [<-HN.out.2.2.1, <-HN.out.2.2.2,HR.out]at qA;rcases qe with⟨hr2,g,A,k,rfl,hg,hk,hrd,hx5⟩|⟨hr2,rfl,hx5⟩
    ·obtain⟨qw,q2⟩:Lpl t (srcN l n) (dstN l n) R.1/\R.1.length<=64:=by
      rcases qA.out with⟨y,h1,h2,_⟩|⟨h1,_⟩
      ·rw [h1]
       have:=h2.len qa.out.v HN.out.1;refine⟨h2,?_⟩;simp only;omega
      ·rw [h1]at hr2
       exact absurd hr2 (by decide)
     have qg:=Hx qw;have E5:=Hx (show Ext W0 w5 from X0.out.tr hx5);have I5:=Hx (I.out.1.keep (X8.out.tr hx5));have qS:=Hx (jzll I5.out.fl qa.out hl hD I5.out.lp (by have:=I.out.2.1;omega) n qo A R.1.length k R.1 rfl hrd.1 (fun hx ad had hs=>by
      have h1:=hrd.2 ad had;have h2:=(I.out.1.fl.tab.ty hs).2.1;have h3:=X8.out.size;omega) hk (fun a ha=>jzd0 _ qg.out.1 a ha) q2 (H0.out.2.2.keep E5.out))
     clear y0 y1 z0 z1 z2 qw hrd hk hx5
     go_wp2_with fail
     refine qS.out.mono ?_;rintro e wA qe;clear qS;rcases qe with⟨hin,_,_⟩|⟨hnin,rfl,L2,vP2,F2,k2,far2⟩
     ·exact absurd (I.out.2.2.1 _ hin) (Nat.lt_irrefl n)
     ·have q8:L.m=2*t.links.length+l.length:=I.out.1.fl.m
      have GG:=Hx (show SolI W0 wA x mb t AO co AL cl l (some ⟨b,o,none⟩) cd L2 (Sx.addT T 0 (valsOf L.m (pTs (2*t.links.length) (n,R.1)))) vP2 (P++[(n,R.1)])/\(P++[(n,R.1)]).length<=n+1/\(∀p∈P++[(n,R.1)],p.1<n+1)/\(∀d,d<n+1->∃y,Lpl t (srcN l d) (dstN l d) y)/\(0<n+1->P++[(n,R.1)]≠ [])from
       ⟨⟨F2,by
         rw [q8];exact I5.out.lp.add (jzaf _ _) fun i hi=>jzlb _ _ (n,R.1) (fun a ha=>jzd0 _ qg.out.1 a ha) i hi,by
         rw [List.nodup_append];exact⟨I5.out.dif,by simp,fun p hp q hq e=>hnin (by rw [xD.1 hq]at e;rw [<-e];exact hp)⟩,fun p hp=>by
         rcases xY.1 hp with hp|hp
         ·exact I5.out.loop p hp
         ·rw [xD.1 hp]
          exact⟨qo,qg.out⟩⟩,by
         rw [yQ,List.length_singleton];have:=I.out.2.1;omega,fun p hp=>by
         rcases xY.1 hp with hp|hp
         ·have:=I.out.2.2.1 p hp
          omega
         ·rw [xD.1 hp]
          exact Nat.lt_succ_self n,fun d' hd'=>by
         by_cases e:d'=n
         ·subst e
          exact⟨_,qg.out⟩
         ·exact I.out.2.2.2.1 d' (by omega),fun _ e=>by simp at e⟩)
      clear F2 k2 far2 hnin I I5 qA;go_wp2
      go_roundg (l.length-(n+1))
      case measure=>omega
      case rel=>exact⟨n+1,L2,_,vP2,_,rfl,by omega,by go_num,GG⟩
    ·have qR:R.2=11/\∀y,¬Lpl t (srcN l n) (dstN l n) y:=by
      rcases qA.out with⟨y,h1,h2,_⟩|⟨h1,h2⟩
      ·rw [h1]at hr2
       exact absurd rfl hr2
      ·rw [h1];exact⟨rfl,h2⟩
     have q3:=Hx qR.2;rw [qR.1];have E5:=Hx (show Ext W0 w5 from X0.out.tr hx5);have qn:=Hx (qp.out _ E5.out);obtain⟨⟨v0,v1,v2,v3,v4⟩,r0,r1,r2,r3,r4⟩:=qm.out _ E5.out;clear qp qm y0 y1 z0 z1 z2 hx5 I;go_wp2;have qf:=qn.out.1;exact bodyPost_ret (v:=.tuple #[.agg #[.bool false,.slice none 0 0,.slice none 0 0,.slice none 0 0,.slice none 0 0],.int .i64 11]) (by simp [results,Tryz.results12,go_sem,qf.cell]) rfl (.inr (.inl ⟨qa.out,⟨n,qo,q3.out⟩,rfl,qn.out.2⟩))
   ·obtain rfl:n=l.length:=by omega
    have qF:=Hx I.out.2.2.2.1;have S1:=Hx (show SolI W0 wr x mb t AO co AL cl l AD cd L T vP P/\P≠ []from⟨I.out.1,I.out.2.2.2.2 qa.out.n⟩);clear I;go_wp2
    go_step3
    go_wp2
    go_loopg [] ((Sx.cands l.length 21 6).length-P.length) (fun q wx=>∃(L:TLoc) (T:Sx.Tb) (vP:Value) (P:List (Nat×List Nat)),(Sx.cands l.length 21 6).length-P.length=q/\Hid (SolI W0 wx x mb t AO co AL cl l AD cd L T vP P/\P≠ []))
    case atStart=>exact⟨L,T,vP,P,rfl,S1⟩
    case round=>
     clear S1;obtain⟨L,T,vP,P,rfl,I⟩:=hrel;have q7:=I.out.1.few qa.out hl qO;have vh:=cands_21 l.length hD;have qk:=I.out.1.lp.shape;obtain⟨N,he,hs⟩:=I.out.1.lp.max qa.out.n (fun d hd=>(qa.out.am hd).1) fun p hp=>by
      obtain⟨h1,h2⟩:=I.out.1.loop p hp;have h3:=h2.ne (qa.out.nodes h1).2.2.1;cases hx:p.2 with
      |nil=>exact absurd hx h3
      |cons a rs=>exact⟨a,by simp,jzd0 _ h2.1 a (by rw [hx];simp)⟩
     have va:L.m=2*t.links.length+l.length:=I.out.1.fl.m;have ve:=qa.out.n;have MX:=Hx (jzi5 W0.heap.size 20 N L T wr I.out.1.fl.tab he hs (fun n _=>by
      have h9:=jzld qa.out hl hD (I.out.1.lp.iter n);exact⟨h9.1,h9.2.1⟩) (by decide) (by omega) (by omega) (by omega) (by omega))
     have HE:=Hx he;have q4:wr.cell? ⟨x,4,none⟩=some (.pointer (some ⟨L.p,0,none⟩)):=I.out.1.fl.box.cell 4;clear qk he hs
     go_wp2_with fail
     refine MX.out.mono ?_;rintro e w3 ⟨rfl,qI,k3⟩;have S3:=Hx (show SolI W0 w3 x mb t AO co AL cl l AD cd L (Sx.iterT N T) vP P from⟨I.out.1.fl.tabbed qI k3 rfl rfl fun b h=>.inl h,I.out.1.lp.iter N,I.out.1.dif,I.out.1.loop⟩);have q5:=Hx I.out.2;have qC:∃T3,T3=Sx.iterT N T:=⟨_,rfl⟩;obtain⟨T3,qC⟩:=qC;rw [<-qC]at S3 HE;clear MX q4 I qI k3 qC;have qk:=S3.out.lp.shape;have q4:w3.cell? ⟨x,4,none⟩=some (.pointer (some ⟨L.p,0,none⟩)):=S3.out.fl.box.cell 4;have PR:=jzf0 W0.heap.size L T3 w3 S3.out.fl.tab qk.2.1 (by omega) (by omega) (by omega) (by omega) qk.2.2.2.2.1 (fun j hj=>by have:=qk.2.2.2.2.2.1 j hj;omega);rw [va]at PR;have qL:=Hx PR;clear PR qk
     go_wp2_with fail
     refine qL.out.mono ?_;rintro e w4 ⟨gl,rfl,qP,q1,x4⟩;have S4:=Hx (S3.out.keep x4);have qi:=Hx (S3.out.lp.best HE.out qa.out.n (fun d hd=>(qa.out.am hd).1) S3.out.dif fun p hp=>(S3.out.loop p hp).1);have qN:T3.rows.length=2*t.links.length+l.length:=S3.out.lp.cols.2;have qt:(Sx.prT T3).length=2*t.links.length+l.length:=(by unfold Sx.prT;rw [Sx.prTo_len,qN]);have qB:=Hx (jzld qa.out hl hD S3.out.lp);have qT:=Hx (jzi4 S4.out.fl qa.out hl hD S4.out.lp S4.out.dif S4.out.loop (by omega) gl (Sx.prT T3) qP qt qB.out.2.2.1 (fun q hq=>by
      obtain⟨i,hi,e⟩:=List.mem_iff_getElem.1 hq;have h9:=qi.out.pos i (by omega);unfold Sx.at_ at h9;rw [yG hi]at h9;rw [<-e];exact h9) (fun hb=>by
      have:=(S3.out.fl.lo.1 gl hb).2;omega) H0.out.2.2)
     clear qL q4 qP x4
     go_wp2_with fail
     refine qT.out.mono ?_;rintro e w5 ⟨more,L5,T5,qD,P5,rfl,G5⟩;clear qT;cases more
     ·obtain⟨rfl,rfl,qz⟩:=G5.non rfl
      have qy:=Hx qz;have S5:=Hx (show SolI W0 w5 x mb t AO co AL cl l AD cd L5 T5 qD P5 from⟨G5.fl,G5.lp,G5.dif,G5.loop⟩);have qJ:=Hx (plan_ok S5.out.fl qa.out hl hD S5.out.lp qi.out.vnn qi.out.fnn (by omega) (fun p hp=>(S5.out.loop p hp).1) q5.out)
      have qX:=Hx (show PlanOK t l T5.goal.re (Sx.planZ l.length (amQ l) T5.goal.re (Sx.ptZ T5 P5)) ((Sx.prT T5).take (2*t.links.length))from
       plan_of qa.out qi.out qN (fun p hp=>(S5.out.loop p hp).2) (xW.2 fun p hp=>by
        obtain⟨z,hz,rfl⟩:=List.mem_map.1 hp;exact yO (Sx.zipF_mem P5 _ hz).1) (fun d hd=>by
        have qH:((Sx.prT T5).take (2*t.links.length)).length=2*t.links.length:=(by rw [xF,qt];omega);have qh:pricedP t ((Sx.prT T5).take (2*t.links.length))=true:=jzah qH fun q hq=>by
         obtain⟨i,hi,e⟩:=List.mem_iff_getElem.1 (xM hq);have h9:=qi.out.pos i (by omega);unfold Sx.at_ at h9;rw [yG hi]at h9;rw [<-e];exact h9
        obtain⟨n1,n2,_⟩:=qa.out.nodes hd;have hn:=qy.out d hd;unfold chQ;rcases jzdq qa.out.v qh n1 n2 with⟨y,h1,h2,_⟩|⟨_,h2⟩
        ·rw [h1]at hn⊢
         by_cases qM:prQ ((Sx.prT T5).take (2*t.links.length)) y<Sx.at_ (Sx.prT T5) (2*t.links.length+d)
         ·have h4:=qi.out.path _ (hn rfl qM)
          have h5:=h2.prQ_sm ((Sx.prT T5).take (2*t.links.length));have h6:(Sx.sm (2*t.links.length) fun a=>if a∈y then Sx.at_ (Sx.prT T5) a else 0)=Sx.sm (2*t.links.length) fun a=>if a∈y then Sx.at_ ((Sx.prT T5).take (2*t.links.length)) a else 0:=Sx.sm_congr _ fun a ha=>by
           unfold Sx.at_;rw [xG,if_pos ha]
          show _<=prQ _ y;rw [h5, <-h6];exact h4
         ·show _<=prQ _ y
          exact Rat.not_lt.1 qM
        ·obtain⟨y,hy⟩:=qF.out d hd
         exact absurd hy (h2 y)) qF.out)
      clear qz G5
      go_wp2_with fail
      refine qJ.out.mono ?_;rintro e w6 ⟨neg,A1,n1,c1,A2,n2,c2,AP,cp,gp,rfl,qQ,qU,⟨B9,qj⟩,⟨qs,qE,qY⟩,qV⟩;have E6:=Hx (show Ext W0 w6 from S5.out.fl.ext.tr qV);have k5:FrS (fun b=>b=w.heap.size+1) w6 (((((w6.setCell ⟨w.heap.size+1,0,none⟩ (.bool neg)).setCell ⟨w.heap.size+1,1,none⟩ (.slice A1 n1 c1)).setCell ⟨w.heap.size+1,2,none⟩ (.slice A2 n2 c2)).setCell ⟨w.heap.size+1,3,none⟩ (.slice AP (Sx.planZ l.length (amQ l) T5.goal.re (Sx.ptZ T5 P5)).length cp)).setCell ⟨w.heap.size+1,4,none⟩ (.slice (some ⟨gp,0,none⟩) (2*t.links.length) (2*t.links.length))):=
       FrS.of_grown (grown5 w6 (w.heap.size+1) _ _ _ _ _) fun g e=>by injection e with e;exact e.symm
      have RB:=E0.out.2.1.keep E6.out;have hn:=fun tt (ht:39≠tt)=>NoT.one RB ht;have HB:=Hx (((((RB.set_ 0 (.bool neg)).set_ 1 (.slice A1 n1 c1)).set_ 2 (.slice A2 n2 c2)).set_ 3 (.slice AP (Sx.planZ l.length (amQ l) T5.goal.re (Sx.ptZ T5 P5)).length cp)).set_ 4 (.slice (some ⟨gp,0,none⟩) (2*t.links.length) (2*t.links.length)));have q6:=Hx (show SolvePost w t l (.returned (.tuple #[.agg #[.bool neg,.slice A1 n1 c1,.slice A2 n2 c2,.slice AP (Sx.planZ l.length (amQ l) T5.goal.re (Sx.ptZ T5 P5)).length cp,.slice (some ⟨gp,0,none⟩) (2*t.links.length) (2*t.links.length)],.int .i64 0])) (((((w6.setCell ⟨w.heap.size+1,0,none⟩ (.bool neg)).setCell ⟨w.heap.size+1,1,none⟩ (.slice A1 n1 c1)).setCell ⟨w.heap.size+1,2,none⟩ (.slice A2 n2 c2)).setCell ⟨w.heap.size+1,3,none⟩ (.slice AP (Sx.planZ l.length (amQ l) T5.goal.re (Sx.ptZ T5 P5)).length cp)).setCell ⟨w.heap.size+1,4,none⟩ (.slice (some ⟨gp,0,none⟩) (2*t.links.length) (2*t.links.length)))from by
       refine .inr (.inr ⟨qa.out,_,_,_,neg,A1,n1,c1,A2,n2,c2,AP,cp,gp,qX.out,qB.out.2.1.gr,planZ_sz qa.out hl hD S5.out.lp qi.out.fnn,fun q hq=>qB.out.2.2.1 q (xM hq),?_,rfl,k5.ratR (hn _ (by decide)) qQ,qU,?_,?_,k5.ext (E0.out.2.2.tr E6.out) fun b hb=>by rw [hb];omega⟩)
       ·have:=S5.out.lp.few S5.out.dif
        omega
       ·refine OwL.plr (qj.fr k5 (fun g hg e=>?_) fun cs y _ hy=>hy.fr k5 (hn _ (by decide)) (hn _ (by decide)))
        obtain⟨xs,ho⟩:=qj.own;obtain⟨cs,qf⟩:=jzl ho hg;rw [e]at qf;exact absurd (jzq qf RB).2 (by decide)
       ·have q9:=qE.fr k5 (hn _ (by decide)) fun e=>by
         obtain⟨cs,qf⟩:=qE.blk;rw [e]at qf;exact absurd (jzq qf RB).2 (by decide)
        rw [<-qY];exact q9.ql.take _)
      obtain⟨⟨v0,v1,v2,v3,v4⟩,r0,r1,r2,r3,r4⟩:=qm.out _ E6.out;clear qp qm qQ qU qj qE qY qV k5 RB hn qJ qX S5 S4 S3 qi qB qy qF;generalize Sx.planZ l.length (amQ l) T5.goal.re (Sx.ptZ T5 P5)=ZZ at*;go_wp2;have qf:=HB.out;exact bodyPost_ret (v:=.tuple #[.agg #[.bool neg,.slice A1 n1 c1,.slice A2 n2 c2,.slice AP ZZ.length cp,.slice (some ⟨gp,0,none⟩) (2*t.links.length) (2*t.links.length)],.int .i64 0]) (by simp [results,Tryz.results12,go_sem,qf.cell]) rfl q6.out
     ·have qx:=G5.mor rfl
      have S5:=Hx (show SolI W0 w5 x mb t AO co AL cl l AD cd L5 T5 qD P5/\P5≠ []from⟨⟨G5.fl,G5.lp,G5.dif,G5.loop⟩,fun e=>by rw [e]at qx;exact absurd qx (Nat.not_lt_zero _)⟩);have q0:=S5.out.1.few qa.out hl qO;clear G5;go_wp2
      go_roundg ((Sx.cands l.length 21 6).length-P5.length)
      case measure=>omega
      case rel=>exact⟨L5,T5,qD,P5,rfl,S5⟩
def fullN(t:Tp)(ps:List PthI)(n:Nat):List Nat:=(List.range n).filter fun a=>decide (capQ t a<=Sx.at_ (loadsP t ps).1 a)
def fullP(t:Tp)(ps:List PthI):List Nat:=if(loadsP t ps).2=0 then fullN t ps (loadsP t ps).1.length else []
theorem fullN_len(t:Tp)(ps:List PthI)(n:Nat):(fullN t ps n).length<=n:=by
 unfold fullN;have:=List.length_filter_le (fun a=>decide (capQ t a<=Sx.at_ (loadsP t ps).1 a)) (List.range n);rw [List.length_range]at this;exact this
theorem jzlz(t:Tp)(ps:List PthI)(n:Nat):fullN t ps (n+1)=if capQ t n<=Sx.at_ (loadsP t ps).1 n then fullN t ps n++[n]else fullN t ps n:=by
 unfold fullN;rw [List.range_succ,List.filter_append];by_cases h:capQ t n<=Sx.at_ (loadsP t ps).1 n
 ·rw [if_pos h]
  simp [h]
 ·rw [if_neg h]
  simp [h]
theorem jzh8{t:Tp}{Ps:List PthI}{P:Nat}(hsz:∀p∈Ps,SzQ p.flow P):∀q∈(loadsP t Ps).1,SzQ q (1+arcN Ps*(P+1)):=fun q hq=>by
 unfold loadsP at hq
 split at hq
 ·cases hl:ldP (2*t.links.length) (List.replicate (2*t.links.length) 0) Ps with
  |none=>rw [hl]at hq;cases hq
  |some ld=>
   rw [hl]at hq;exact ldP_sz (P:=P) Ps (k:=1) (ld:=List.replicate (2*t.links.length) 0) hsz (fun q hq=>by rw [uF hq];exact SzQ.zero) SzQ.zero hl q hq
 ·cases hq
theorem jzf8{t:Tp}{Ps:List PthI}(h:(loadsP t Ps).2=0):validP t=true/\(loadsP t Ps).1.length=2*t.links.length/\ldP (2*t.links.length) (List.replicate (2*t.links.length) 0) Ps=some (loadsP t Ps).1:=by
 unfold loadsP at h⊢
 split at h
 ·rename_i hv
  rw [if_pos hv];cases hl:ldP (2*t.links.length) (List.replicate (2*t.links.length) 0) Ps with
  |none=>rw [hl]at h;exact absurd h (by decide)
  |some ld=>exact⟨hv,by rw [jzlp _ hl,xC],rfl⟩
 ·exact absurd h (by decide)
theorem jzfa(x y:Rat):0<=cmpQ x y↔y<=x:=by
 have h:=jzgv x y;constructor
 ·intro h1
  exact Rat.not_lt.1 fun h2=>by have:=h.2 h2;omega
 ·intro h1
  have h2:¬cmpQ x y<0:=fun h3=>Rat.not_lt.2 h1 (h.1 h3);omega
theorem jzf9{t:Tp}(hv:validP t=true){a:Nat}(ha:a<2*t.links.length):SzQ (capQ t a) 1:=by
 obtain⟨h,_,_,_,h5,h6,h7⟩:=jzc0 hv ha;rw [h5];exact SzQ.int (by unfold B32;omega)
theorem full_ok(t:Tp)(AO:Option Addr)(co:Nat)(AL:Option Addr)(cl:Nat)(Ps:List PthI)(PA:Option Addr)(np cp P:Nat)(hnp:Ps.length=np)(w:World)(ht:TopR w t AO co AL cl)(hp:PLr w PA Ps)(hnl:np<=1000000)(hsz:∀p∈Ps,SzQ p.flow P)(hP1:1<=P)(hal:∀p∈Ps,p.arcs.length<=1000000)(hK:1+arcN Ps*(P+1)<=50000000)(hPb:P<=100000000):
  Calls Tryz.prog 24 #[.agg #[.int .i64 t.nodes,.slice AO t.over.length co,.slice AL t.links.length cl],.slice PA np cp] w fun e w'=>∃(A:Option Addr) (c:Nat),e=.returned (.slice A (fullP t Ps).length c)/\(fullP t Ps).length<=c/\RdT w' 3 A (ints (fullP t Ps))/\Ext w w':=by
 have HT:=Hx ht;have SZ:=Hx (jzh8 (t:=t) hsz);have qG:=ht.ll;obtain⟨qm,e0⟩:=boxes1 w #[.int .i64 t.nodes,.slice AO t.over.length co,.slice AL t.links.length cl] 25;obtain⟨⟨i0,i1,i2⟩,_⟩:=qm.three;have E0:=Hx (And.intro qm e0);have LD:=Hx (fun wx (hx:Ext w wx)=>jzlq t AO co AL cl Ps PA np cp P hnp wx (ht.keep hx) (hp.keep hx fun cs x h=>h.keep hx) hnl hsz hP1 hal hK hPb);clear ht hp hsz hal qm e0
 go_enter Tryz.func24,Tryz.ntmps24
 go_wp2_with fail
 refine(LD.out _ E0.out.2).mono ?_;rintro e w1 ⟨A,rfl,qy,qn⟩;have E1:=Hx (And.intro (E0.out.1.keep qn) (E0.out.2.tr qn));clear qn i0 i1 i2 E0 LD;by_cases he:(loadsP t Ps).2=0
 ·obtain⟨hv,qg,_⟩:=jzf8 he
  have qp:t.links.length<=256:=by
   have:=hv;unfold validP headOk at this;simp at this;exact this.1.1.2
  have HR:=Hx (show fullP t Ps=fullN t Ps (2*t.links.length) by unfold fullP;rw [if_pos he,qg]);generalize hld:(loadsP t Ps).1=ld at*;generalize (loadsP t Ps).2=e9 at*;subst he;have I0:=Hx (show QL w1 A ld/\Ext w1 w1/\w1.ownsRow w1.heap.size 3 1 (.slice none 0 0) 0 []from⟨qy,Ext.refl _,World.ownsRow_nil _ _ _ _⟩);clear qy;go_wp2
  go_loopg [7,8,9,20] ld.length (fun q vF _ _ it wx=>∃(n:Nat) (vG:Value),ld.length-n=q/\n<=ld.length/\it=.int .i64 (n:Int)/\vG=vF/\Hid (Ext w1 wx/\wx.ownsRow w1.heap.size 3 1 vF (fullN t Ps n).length (ints (fullN t Ps n))))
  case atStart=>exact⟨0,_,rfl,yZ _,rfl,rfl,Hx ⟨I0.out.2.1,I0.out.2.2⟩⟩
  case round=>
   obtain⟨n,vF,rfl,hn,rfl,rfl,I⟩:=hrel;by_cases qh:n<ld.length
   ·obtain⟨b,o,neg,A1,n1,c1,A2,n2,c2,rfl,hb,a0,a1,a2,qx⟩:=I0.out.1.at_ (jzv qh)
    have a0:=cellK I.out.1 a0;have a1:=cellK I.out.1 a1;have a2:=cellK I.out.1 a2;have hb:b<wr.heap.size:=yL hb I.out.1.size;have RA:=Hx (qx.keep I.out.1);have qD:=(SZ.out _ (yJ (jzv qh))).mono hK;have nN:(n:Int)<(ld.length:Int):=(by omega);have n0:(0:Int)<=(n:Int):=(by omega);have X8:=Hx (show Ext wr (wr.alloc (.cells #[.bool neg,.slice A1 n1 c1,.slice A2 n2 c2] 35))from(Ext.refl wr).alloc _);have B8:=Hx (Blk.new wr 35 #[.bool neg,.slice A1 n1 c1,.slice A2 n2 c2]);clear qx
    go_upto_region 8 with fail
    clear a0 a1 a2;generalize wr.alloc (.cells #[.bool neg,.slice A1 n1 c1,.slice A2 n2 c2] 35)=W8 at*;generalize hbd:wr.heap.size=bd at*;have XW:=Hx (show Ext w1 W8 from I.out.1.tr X8.out);have qw:=Hx ((FrS.of_ext (S:=fun _=>False) X8.out).own I.out.2 (fun _ _ h=>h));obtain⟨l1,qJ⟩:=RA.out.lens qD;have qe:=Hx (show∀wx,Ext W8 wx->(wx.cell? ⟨bd,0,none⟩=some (.bool neg)/\wx.cell? ⟨bd,1,none⟩=some (.slice A1 n1 c1)/\wx.cell? ⟨bd,2,none⟩=some (.slice A2 n2 c2))/\(wx.cell? ⟨w.heap.size,0,none⟩=some (.int .i64 t.nodes)/\wx.cell? ⟨w.heap.size,1,none⟩=some (.slice AO t.over.length co)/\wx.cell? ⟨w.heap.size,2,none⟩=some (.slice AL t.links.length cl))from fun wx hx=>
     ⟨⟨(B8.out.keep hx).cell 0,(B8.out.keep hx).cell 1,(B8.out.keep hx).cell 2⟩,(E1.out.1.keep (XW.out.tr hx)).cell 0,(E1.out.1.keep (XW.out.tr hx)).cell 1,(E1.out.1.keep (XW.out.tr hx)).cell 2⟩)
    have XD:=Hx (show Ext W8 W8.drew from(Ext.refl W8).drewN 1);have HSW:=Hx (qe.out _ XD.out);have NX:=Hx (jzlz t Ps n);rw [hld]at NX;refine jzg (fun w'=>(w'.cell? ⟨bd,0,none⟩=some (.bool neg)/\w'.cell? ⟨bd,1,none⟩=some (.slice A1 n1 c1)/\w'.cell? ⟨bd,2,none⟩=some (.slice A2 n2 c2))/\(w'.cell? ⟨w.heap.size,0,none⟩=some (.int .i64 t.nodes)/\w'.cell? ⟨w.heap.size,1,none⟩=some (.slice AO t.over.length co)/\w'.cell? ⟨w.heap.size,2,none⟩=some (.slice AL t.links.length cl))) 4 (by kernel_rfl) ?_;refine wT 0 (v:=?_) rfl ?_ HSW.out ?_;rotate_left
    focus (intro w hSw;obtain⟨⟨s1,s2,s3⟩,s4,s5,s6⟩:=hSw;go_simp;try with_reducible rfl)
    try simp only [Act.put,yA,yB,yC,yD,yE,yF]
    refine jz5 (path:=[4,3]) (i:=1) (v:=?_) rfl (by kernel_rfl) (by kernel_rfl) (by kernel_rfl) (by decide) (by kernel_rfl) (by kernel_rfl) (by kernel_rfl) (fun _ _ _ h=>h) (Or.inl ⟨by rfl,?_⟩) HSW.out ?_;rotate_left
    focus (intro w hSw;obtain⟨⟨s1,s2,s3⟩,s4,s5,s6⟩:=hSw;go_simp;try with_reducible rfl)
    try simp only [Act.put,yA,yB,yC,yD,yE,yF]
    refine wP 2 rfl HSW.out ?_;try simp only [Act.put,yA,yB,yC,yD,yE,yF]
    refine wC 3 rfl (fun KK hK=>?_);go_simp;refine(jzbw t AO co AL cl n _ (HT.out.keep (E1.out.2.tr (XW.out.tr XD.out))) hv (by omega)).mono ?_;rintro e w5 ⟨n5,A5,l5,c5,qA,qB,qz,rfl,h5,x5⟩;have E5:=Hx (XD.out.tr x5);have HSW:=Hx (qe.out _ E5.out);have R5:=Hx h5;obtain⟨l2,qF⟩:=h5.lens (jzf9 hv (show n<2*t.links.length by omega));refine hK.out _ _ HSW.out ?_;clear hK KK x5 h5;try simp only [Act.put,yA,yB,yC,yD,yE,yF]
    refine jzk (by kernel_rfl) rfl (by rfl) (fun KK hK=>?_);go_simp;refine(jz4 neg n5 A1 n1 c1 A2 n2 c2 A5 l5 c5 qA qB qz (Sx.at_ ld n) (capQ t n) _ (RA.out.keep (X8.out.tr E5.out)) R5.out (by omega) (by omega) (by omega) (by omega)).mono ?_;rintro e w6 ⟨rfl,x6⟩;have E6:=Hx (E5.out.tr x6);have qj:=Hx ((FrS.of_ext (S:=fun _=>False) E6.out).own qw.out (fun _ _ h=>h));have X6:=Hx (XW.out.tr E6.out);refine hK.out _ _ ?_;clear hK KK x6 HSW qe XD E5 R5 E6 qw XW I;try simp only [Act.put,yA,yB,yC,yD,yE,yF]
    refine jzao (i:=5) (by kernel_rfl) rfl (by rfl) (fun KK hK=>?_);go_simp;refine hK.out _ _ ?_;clear hK KK;refine wpAny_done (by kernel_rfl) ?_ _;by_cases qi:capQ t n<=Sx.at_ ld n
    ·have h9:=(jzfa _ _).2 qi
     rw [if_pos qi]at NX;have d9:decide (0<=cmpQ (Sx.at_ ld n) (capQ t n))=true:=yO h9;have qE:=fullN_len t Ps n;have BC:=Hx (Blk.new w6 3 #[.int .i64 (n:Int)]);have XC:=Hx ((Ext.refl w6).alloc (.cells #[.int .i64 (n:Int)] 3));have VB:=Hx ((FrS.of_ext (S:=fun _=>False) XC.out).own qj.out (fun _ _ h=>h));have qt:=Hx XC.out.size;clear qj
     go_wp2_with (at_builtin;refine jz2 _ 44 3 _ 1 8 rfl _ _ rfl Tryz.underlying44 Tryz.infoInt rfl (by decide) w1.heap.size vF (fullN t Ps n).length (ints (fullN t Ps n)) rfl VB.out [.int .i64 (n:Int)] rfl (by simp [Value.oneCell']) w6.heap.size rfl BC.out (by unfold maxLen;omega) (by omega) (by have:=X6.out.size;have:=qt.out;omega) ?_)
     intro g9 c9 w9 qf qa qo;have k9:=FrS.of_grown (S:=fun b=>vF.ownBlock=some b) qa fun g e=>e;have J:=Hx (show Ext w1 w9/\w9.ownsRow w1.heap.size 3 1 (.slice (some ⟨g9,0,none⟩) ((fullN t Ps n).length+1) c9) (fullN t Ps (n+1)).length (ints (fullN t Ps (n+1)))from⟨k9.ext (X6.out.tr XC.out) fun b hb=>(VB.out.lt b hb).1,by
      rw [NX.out,yQ,List.length_singleton,jzbs];exact qf⟩)
     clear k9 qf qa qo VB XC BC X6 qt;go_wp2
     go_roundg (ld.length-(n+1))
     case measure=>omega
     case rel=>exact⟨n+1,_,rfl,by omega,by go_num,rfl,J⟩
    ·have h9:¬0<=cmpQ (Sx.at_ ld n) (capQ t n):=fun h=>qi ((jzfa _ _).1 h)
     rw [if_neg qi]at NX;have d9:decide (0<=cmpQ (Sx.at_ ld n) (capQ t n))=false:=yP h9;have J:=Hx (show Ext w1 w6/\w6.ownsRow w1.heap.size 3 1 vF (fullN t Ps (n+1)).length (ints (fullN t Ps (n+1)))from⟨X6.out,by rw [NX.out];exact qj.out⟩);clear qj X6;go_wp2
     go_roundg (ld.length-(n+1))
     case measure=>omega
     case rel=>exact⟨n+1,vF,rfl,by omega,by go_num,rfl,J⟩
   ·obtain rfl:n=ld.length:=by omega
    obtain⟨A',c',rfl,qC,qk⟩:=jzai I.out.2 rfl;go_wp2;go_ret;rw [HR.out, <-qg];exact⟨A',c',rfl,qC,qk,E1.out.2.tr I.out.1⟩
 ·have HR:=Hx (show fullP t Ps=[] by unfold fullP;rw [if_neg he])
  generalize (loadsP t Ps).2=e9 at*;have qI:(e9==0)=false:=yK.2 he;have qH:decide (e9=0)=false:=yP he;go_wp2;go_ret;rw [HR.out];exact⟨none,0,rfl,yX _,fun h=>absurd rfl h,E1.out.2⟩
theorem jzl0(l:List Bool)(k:Nat)(b:Bool):(bools l).toArray.setIfInBounds k (.bool b)=(bools (l.set k b)).toArray:=by
 rw [yD];unfold bools;rw [List.map_set]
theorem jzga(l:List Bool)(k:Nat)(b:Bool)(h:l[k]?=some b):(bools l).toArray[k]?=some (.bool b):=by
 unfold bools;simp [h]
def llC(t:Tp)(V:List Bool)(u:Nat)(first:Bool)(a:Int):Prop:=(0<=a/\a<((2*t.links.length:Nat):Int))/\tailP t a.toNat=(u:Int)/\(first=true\/overP t (u:Int)=false)/\V[(headP t a.toNat).toNat]?.getD false=false
instance(t:Tp)(V:List Bool)(u:Nat)(first:Bool)(a:Int):Decidable (llC t V u first a):=by unfold llC;infer_instance
def llB(t:Tp):List Bool->Nat->Bool->List Int->Option Nat
 |_,u,_,[]=>some u
 |V,u,first,a::x=>if llC t V u first a then llB t (V.set (headP t a.toNat).toNat true) (headP t a.toNat).toNat false x else none
def loopB(t:Tp)(x:List Int)(s d:Int):Bool:=decide (0<=s/\s<t.nodes)&&match llB t ((List.replicate t.nodes.toNat false).set s.toNat true) s.toNat true x with
 |none=>false
 |some u=>decide ((u:Int)=d)
section
variable {t:Tp}
theorem jzfb{u a:Nat}:a∈leavP t u↔a<2*t.links.length/\tailP t a=(u:Int):=by
 unfold leavP leavTo;rw [List.mem_filter,vX,beq_iff_eq]
theorem jzl1{V:List Bool}{k:Nat}(hk:k<V.length):V[k]?.getD false=false↔V[k]?=some false:=by
 rw [yG hk];simp
theorem llB_iff(hv:validP t=true):∀(x:List Int) (V:List Bool) (u:Nat) (first:Bool) (e:Nat),V.length=t.nodes.toNat->(llB t V u first x=some e↔∃y:List Nat,x=y.map (fun a:Nat=>(a:Int))/\PO t u first y e/\(∀m∈y.map (fun a=>(headP t a).toNat),V[m]?=some false)/\(y.map fun a=>(headP t a).toNat).Nodup)
 | [],V,u,first,e,hV=>by
   constructor
   ·intro h
    injection h with h
    exact⟨[],rfl,h,(fun m hm=>by cases hm),List.nodup_nil⟩
   ·rintro ⟨y,h1,h2,_⟩
    cases y with
    |nil=>exact congrArg some h2
    |cons b y=>cases h1
 |a::x,V,u,first,e,hV=>by
  show(if llC t V u first a then llB t (V.set (headP t a.toNat).toNat true) (headP t a.toNat).toNat false x else none)=some e↔_;by_cases hc:llC t V u first a
  ·rw [if_pos hc]
   obtain⟨h1,h2,h3,h4⟩:=hc;have hl:a.toNat∈leavP t u:=jzfb.2 ⟨by omega,h2⟩;obtain⟨_,_,hh,_⟩:=jzag hv hl;have h5:=(jzl1 (by omega)).1 h4;rw [llB_iff hv x (V.set (headP t a.toNat).toNat true) _ false e (by rw [yV];exact hV)];constructor
   ·rintro ⟨y,k1,k2,k3,k4⟩
    have k5:∀m∈y.map (fun a=>(headP t a).toNat),m≠(headP t a.toNat).toNat/\V[m]?=some false:=fun m hm=>by
     have:=k3 m hm;rw [List.getElem?_set]at this;by_cases e:(headP t a.toNat).toNat=m
     ·rw [if_pos e]at this
      split at this <;> simp at this
     ·rw [if_neg e]at this
      exact⟨fun h=>e h.symm,this⟩
    refine⟨a.toNat::y,by rw [List.map_cons, <-k1];congr 1;omega,⟨hl,h3,k2⟩,fun m hm=>?_,?_⟩
    ·rw [List.map_cons]at hm
     rcases xZ.1 hm with e|e
     ·rw [e];exact h5
     ·exact(k5 m e).2
    ·rw [List.map_cons,List.nodup_cons]
     exact⟨fun h=>(k5 _ h).1 rfl,k4⟩
   ·rintro ⟨y,k1,k2,k3,k4⟩
    cases y with
    |nil=>cases k1
    |cons b y=>
     rw [List.map_cons]at k1 k3 k4;injection k1 with k5 k6
     subst k5;rw [xL]at*;rw [List.nodup_cons]at k4;refine⟨y,k6,k2.2.2,fun m hm=>?_,k4.2⟩;rw [List.getElem?_set,if_neg (fun e=>k4.1 (by rw [e];exact hm))];exact k3 m (xO _ hm)
  ·rw [if_neg hc]
   constructor
   ·intro h;cases h
   ·rintro ⟨y,k1,k2,k3,k4⟩
    cases y with
    |nil=>cases k1
    |cons b y=>
     rw [List.map_cons]at k1 k3;injection k1 with k5 k6
     subst k5;obtain⟨h1,h2⟩:=jzfb.1 k2.1;refine absurd ⟨⟨by omega,by omega⟩,?_,k2.2.1,?_⟩ hc
     ·rw [xL];exact h2
     ·rw [xL,k3 _ (List.mem_cons_self ..)];rfl
theorem loopB_iff(hv:validP t=true)(x:List Int){s d:Nat}(hs:s<t.nodes.toNat):loopB t x (s:Int) (d:Int)=true↔∃y:List Nat,x=y.map (fun a:Nat=>(a:Int))/\Lpl t s d y:=by
 have h0:decide (0<=(s:Int)/\(s:Int)<t.nodes)=true:=yO ⟨by omega,by omega⟩;unfold loopB;rw [h0,Bool.true_and,xL];have qa:(match llB t ((List.replicate t.nodes.toNat false).set s true) s true x with
   |none=>false
   |some u=>decide ((u:Int)=(d:Int)))=true↔llB t ((List.replicate t.nodes.toNat false).set s true) s true x=some d:=by
  cases llB t ((List.replicate t.nodes.toNat false).set s true) s true x with
  |none=>simp
  |some u=>simp;omega
 rw [qa,llB_iff hv x _ s true d (by simp)];have hV:∀m,((List.replicate t.nodes.toNat false).set s true)[m]?=some false↔m<t.nodes.toNat/\m≠s:=fun m=>by
  rw [List.getElem?_set];by_cases e:s=m
  ·rw [if_pos e]
   constructor
   ·intro h;split at h <;> simp at h
   ·intro h;exact absurd e.symm h.2
  ·rw [if_neg e,xB]
   constructor
   ·intro h
    split at h
    ·rename_i h1;exact⟨h1,fun h=>e h.symm⟩
    ·cases h
   ·intro h;rw [if_pos h.1]
 constructor
 ·rintro ⟨y,k1,k2,k3,k4⟩
  refine⟨y,k1,k2,?_⟩;rw [jzcg,List.nodup_cons];exact⟨fun h=>((hV s).1 (k3 s h)).2 rfl,k4⟩
 ·rintro ⟨y,k1,k2,k3⟩
  rw [jzcg,List.nodup_cons]at k3;refine⟨y,k1,k2,fun m hm=>(hV m).2 ⟨?_,fun e=>k3.1 (by rw [<-e];exact hm)⟩,k3.2⟩;have:∀(y:List Nat) (u:Nat) (first:Bool),PO t u first y d->∀m∈y.map (fun a=>(headP t a).toNat),m<t.nodes.toNat:=fun y=>by
   induction y with
   |nil=>intro _ _ _ m hm;cases hm
   |cons b y ih=>
    intro u first h m hm
    rw [List.map_cons]at hm;rcases xZ.1 hm with e|e
    ·rw [e];exact(jzag hv h.1).2.2.1
    ·exact ih _ _ h.2.2 m e
  exact this y s true k2 m hm
theorem llB_drop{x:List Int}{n:Nat}{a:Int}(ha:x[n]?=some a)(V:List Bool)(u:Nat)(first:Bool):llB t V u first (x.drop n)=if llC t V u first a then llB t (V.set (headP t a.toNat).toNat true) (headP t a.toNat).toNat false (x.drop (n+1))else none:=by
 obtain⟨hn,e⟩:=yH.1 ha;rw [List.drop_eq_getElem_cons hn,e];rfl
end
theorem jzi6(t:Tp)(AO:Option Addr)(co:Nat)(AL:Option Addr)(cl:Nat)(PX:Option Addr)(cx:Nat)(x:List Int)(s d:Int)(w:World)(ht:TopR w t AO co AL cl)(hv:validP t=true)(hx:Rd w PX (iints x))(hxl:x.length<=1000000)(hxc:x.length<=cx):
  Calls Tryz.prog 66 #[.agg #[.int .i64 t.nodes,.slice AO t.over.length co,.slice AL t.links.length cl],.slice PX x.length cx,.int .i64 s,.int .i64 d] w fun e w'=>e=.returned (.bool (loopB t x s d))/\Ext w w':=by
 have hN:∃N:Nat,t.nodes=(N:Int)/\N<=64/\t.links.length<=256/\(t.over=[]\/t.over.length=N):=by
  have h:=hv;unfold validP headOk inB at h;simp at h;exact⟨t.nodes.toNat,by omega,by omega,by omega,h.1.2.elim (fun h1=>.inl h1) fun h1=>.inr (by omega)⟩
 obtain⟨N,qt,qS,qE,qK⟩:=hN;have HT:=Hx ht;have HX:=Hx hx;have HV:=Hx hv;have qR:=ht.ll;have qW:=ht.cl;have qe:(Value.agg #[.int .i64 t.nodes,.slice AO t.over.length co,.slice AL t.links.length cl])=.agg #[.int .i64 (N:Int),.slice AO t.over.length co,.slice AL t.links.length cl]:=(by rw [qt]);have ND:=Hx (fun wx=>jzg4 t AO co AL cl s wx);rw [qe]at ND;rw [qt]at ND;have AR:=Hx (fun(a:Int) wx (hx:Ext w wx)=>gArc_ok t AO co AL cl a wx (HT.out.keep hx));have TL:=Hx (fun(a:Nat) (ha:a/2<t.links.length) wx (hx:Ext w wx)=>jzej t AO co AL cl a wx (HT.out.keep hx) ha);have HD:=Hx (fun(a:Nat) (ha:a/2<t.links.length) wx (hx:Ext w wx)=>jzbq t AO co AL cl a wx (HT.out.keep hx) ha);have OV:=Hx (fun(n:Int) (h0:0<=n) (hn:t.over=[]\/n<t.over.length) wx (hx:Ext w wx)=>jzek t AO co AL cl n wx (HT.out.keep hx) h0 hn);rw [qe]at AR TL HD OV⊢;have qo:=Hx qt;obtain⟨qx,e0⟩:=boxes1 w #[.int .i64 (N:Int),.slice AO t.over.length co,.slice AL t.links.length cl] 25;obtain⟨⟨i0,i1,i2⟩,_⟩:=qx.three;have E0:=Hx (And.intro qx e0);clear ht hv hx qx e0 qt qe
 go_enter Tryz.func66,Tryz.ntmps66
 go_wp2_with fail
 refine(ND.out _).mono ?_;rintro e w1 ⟨rfl,qz⟩;have E1:=Hx (And.intro (E0.out.1.keep qz) (E0.out.2.tr qz));clear qz i0 i1 i2 E0;obtain⟨⟨i0,i1,i2⟩,_⟩:=E1.out.1.three;by_cases hs:0<=s/\s<(N:Int)
 ·rw [yO hs]
  obtain⟨S,rfl⟩:=Int.eq_ofNat_of_zero_le hs.1;have qF:S<N:=(by omega);have sN:(S:Int)<(N:Int):=(by omega);have s0:(0:Int)<=(S:Int):=(by omega);have HR:=Hx (show loopB t x (S:Int) d=match llB t ((List.replicate N false).set S true) S true x with
   |none=>false
   |some u=>decide ((u:Int)=d) by
   unfold loopB;rw [qo.out,yO hs,Bool.true_and,xL,xL])
  have qM:=run_make_row' (P:=Tryz.prog) 22 4 (.bool false) 1 Tryz.underlying22 Tryz.info4 rfl .i64 .i64 N (by omega) (by omega);have qP:(madeCells #[.bool false] N)[S]?=some (.bool false):=by
   rw [<-Array.getElem?_toList,toList_madeCells_one];simp [qF]
  have qk:=Hx (show(madeCells #[.bool false] N).setIfInBounds S (.bool true)=(bools ((List.replicate N false).set S true)).toArray by
   apply Array.ext';rw [Array.toList_setIfInBounds,toList_madeCells_one];simp [bools,List.map_set])
  go_upto_region 6 with fail
  have B3:=Hx (show Blk (w1.alloc (.cells ((madeCells #[.bool false] N).setIfInBounds S (.bool true)) 4)) w1.heap.size 4 (bools ((List.replicate N false).set S true)).toArray from by
   rw [qk.out];exact Blk.new w1 _ _)
  have X3:=Hx (show Blk (w1.alloc (.cells ((madeCells #[.bool false] N).setIfInBounds S (.bool true)) 4)) w.heap.size 25 #[.int .i64 (N:Int),.slice AO t.over.length co,.slice AL t.links.length cl]/\Ext w (w1.alloc (.cells ((madeCells #[.bool false] N).setIfInBounds S (.bool true)) 4))from⟨E1.out.1.keep ((Ext.refl w1).alloc _),E1.out.2.alloc _⟩);have hg:w.heap.size<w1.heap.size:=E1.out.1.lt;clear qM qP i0 i1 i2 E1 qk;generalize w1.alloc (.cells ((madeCells #[.bool false] N).setIfInBounds S (.bool true)) 4)=W3 at*;generalize w1.heap.size=g at*;have qI:((List.replicate N false).set S true).length=N:=(by simp);generalize (List.replicate N false).set S true=V0 at*;have I0:=Hx (show Blk W3 g 4 (bools V0).toArray/\FrS (fun b=>b=g) W3 W3/\llB t V0 S true x=llB t V0 S true x from⟨B3.out,FrS.refl _ _,rfl⟩);have qT:g<W3.heap.size:=B3.out.lt;clear B3;go_wp2
  go_loopg [10,11,12,26] x.length (fun q s10 _ _ it wx=>∃(n u:Nat) (V:List Bool),x.length-n=q/\n<=x.length/\s10=.int .i64 (u:Int)/\it=.int .i64 (n:Int)/\u<N/\V.length=N/\Hid (Blk wx g 4 (bools V).toArray/\FrS (fun b=>b=g) W3 wx/\llB t V0 S true x=llB t V u (decide (n=0)) (x.drop n)))
  case atStart=>exact⟨0,S,V0,rfl,yZ _,rfl,rfl,qF,qI,Hx ⟨I0.out.1,I0.out.2.1,rfl⟩⟩
  case round=>
   obtain⟨n,u,V,rfl,hn,rfl,rfl,qU,qO,J⟩:=hrel;clear I0;have XR:=Hx (show Ext w wr from J.out.2.1.ext X3.out.2 fun b hb=>by omega);have qi:=Hx (show∀wx,Ext wr wx->Blk wx w.heap.size 25 #[.int .i64 (N:Int),.slice AO t.over.length co,.slice AL t.links.length cl]from fun wx hx=>(J.out.2.1.blk X3.out.1 (by omega)).keep hx);have qV:g<wr.heap.size:=J.out.1.lt;by_cases qH:n<x.length
   ·obtain⟨a,ha⟩:∃a,x[n]?=some a:=⟨_,yG qH⟩
    obtain⟨b9,o9,rfl,qQ,ca⟩:=(HX.out.keep XR.out).iint ha;have NX:=Hx (llB_drop (t:=t) ha V u (decide (n=0)));have nN:(n:Int)<(x.length:Int):=(by omega);have n0:(0:Int)<=(n:Int):=(by omega);clear ha
    go_upto_region 9 with fail
    clear ca
    go_cut [58] (fun s wx=>s=.bool (!decide (llC t V u (decide (n=0)) a))/\Ext wr wx)
    case first=>
     obtain⟨⟨i0,i1,i2⟩,_⟩:=(qi.out _ (Ext.refl wr)).three
     go_wp2_with fail
     refine(AR.out a _ XR.out).mono ?_;rintro e w4 ⟨rfl,x4⟩;have X4:=Hx x4;obtain⟨⟨i0,i1,i2⟩,_⟩:=(qi.out _ x4).three;clear x4;by_cases qh:0<=a/\a<((2*t.links.length:Nat):Int)
     ·rw [yO qh]
      obtain⟨a',rfl⟩:=Int.eq_ofNat_of_zero_le qh.1;have qg:a'<2*t.links.length:=by omega
      go_wp2_with fail
      refine(TL.out a' (by omega) _ (XR.out.tr X4.out)).mono ?_;rintro e w5 ⟨rfl,x5⟩;have X5:=Hx (X4.out.tr x5);obtain⟨⟨i0,i1,i2⟩,_⟩:=(qi.out _ X5.out).three;clear x5 X4;by_cases qj:tailP t a'=(u:Int)
      ·rw [qj]
       obtain⟨qm,qn,qy,_⟩:=jzag HV.out (jzfb.2 ⟨qg,qj⟩);obtain⟨h,qf⟩:=Int.eq_ofNat_of_zero_le qm;have HH:=Hx qf;have qC:h<N:=(by rw [qf,qo.out]at qn;omega);have qN:(h:Int)<(N:Int):=(by omega);have qm:(0:Int)<=(h:Int):=(by omega);obtain⟨vb,qa⟩:∃vb,V[h]?=some vb:=⟨_,yG (by omega)⟩;have qp:=Hx qa;have VH:=Hx (show wr.cell? ⟨g,h,none⟩=some (.bool vb)from(J.out.1.cell h).trans (jzga V h _ qa));clear qa;clear qf qn qy;by_cases qD:n=0
       ·subst qD
        have qA:decide (0=0)=true\/overP t (u:Int)=false:=.inl rfl;have XX:=X5
        go_wp2_with fail
        refine(HD.out a' (by omega) _ (XR.out.tr XX.out)).mono ?_;rintro e w7 ⟨rfl,x7⟩;have X7:=Hx (XX.out.tr x7);have vh:=cellK X7.out VH.out;rw [HH.out];clear x7;go_wp2;go_meet;refine⟨?_,X7.out⟩;cases vb
        ·show _=Value.bool (!decide (llC t V u (decide (0=0)) (a':Int)))
         rw [yO (show llC t V u (decide (0=0)) (a':Int)from⟨qh,qj,qA,by rw [xL,HH.out,xL,qp.out];rfl⟩)];rfl
        ·show _=Value.bool (!decide (llC t V u (decide (0=0)) (a':Int)))
         rw [yP (fun hc:llC t V u (decide (0=0)) (a':Int)=>by
          have h4:=hc.2.2.2;rw [xL,HH.out,xL,qp.out]at h4;cases h4)]
         rfl
       ·have qL:(0:Int)<(n:Int):=by omega
        have qJ:decide ((0:Int)<(n:Int))=true:=yO qL
        go_wp2_with fail
        refine(OV.out (u:Int) (by omega) (qK.elim (fun h1=>.inl h1) fun h1=>.inr (by omega)) _ (XR.out.tr X5.out)).mono ?_;rintro e w6 ⟨rfl,x6⟩;have XX:=Hx (X5.out.tr x6);obtain⟨⟨i0,i1,i2⟩,_⟩:=(qi.out _ XX.out).three;clear x6 X5;cases hov2:overP t (u:Int)
        ·have qA:decide (n=0)=true\/overP t (u:Int)=false:=.inr hov2
         go_wp2_with fail
         refine(HD.out a' (by omega) _ (XR.out.tr XX.out)).mono ?_;rintro e w7 ⟨rfl,x7⟩;have X7:=Hx (XX.out.tr x7);have vh:=cellK X7.out VH.out;rw [HH.out];clear x7;go_wp2;go_meet;refine⟨?_,X7.out⟩;cases vb
         ·rw [yO (show llC t V u (decide (n=0)) (a':Int)from⟨qh,qj,qA,by rw [xL,HH.out,xL,qp.out];rfl⟩)]
          rfl
         ·rw [yP (fun hc:llC t V u (decide (n=0)) (a':Int)=>by
           have h4:=hc.2.2.2;rw [xL,HH.out,xL,qp.out]at h4;cases h4)]
          rfl
        ·have FA:=Hx (yP (fun hc:llC t V u (decide (n=0)) (a':Int)=>by
          rcases hc.2.2.1 with h9|h9
          ·exact qD (of_decide_eq_true h9)
          ·rw [hov2]at h9;cases h9))
         go_wp2;go_meet;rw [FA.out];exact⟨rfl,XX.out⟩
      ·have qG:decide (tailP t a'=(u:Int))=false:=yP qj
       have FA:=Hx (yP (fun hc:llC t V u (decide (n=0)) (a':Int)=>qj (by have h9:=hc.2.1;rw [xL]at h9;exact h9)));go_wp2;go_meet;rw [FA.out];exact⟨rfl,X5.out⟩
     ·have FA:=Hx (yP (fun hc:llC t V u (decide (n=0)) a=>qh hc.1))
      rw [yP qh];go_wp2;go_meet;rw [FA.out];exact⟨rfl,X4.out⟩
    case rest=>
     obtain⟨rfl,qB⟩:=hcut;have X9:=Hx qB;clear qB;obtain⟨⟨i0,i1,i2⟩,_⟩:=(qi.out _ X9.out).three;by_cases hc:llC t V u (decide (n=0)) a
     ·rw [yO hc]
      rw [if_pos hc]at NX;have HC:=Hx hc;obtain⟨a',rfl⟩:=Int.eq_ofNat_of_zero_le hc.1.1;have qg:a'<2*t.links.length:=(by have:=hc.1.2;omega);obtain⟨qm,qn,qy,_⟩:=jzag HV.out (jzfb.2 ⟨qg,by have h9:=hc.2.1;rw [xL]at h9;exact h9⟩);rw [xL]at NX;clear hc;obtain⟨h,qf⟩:=Int.eq_ofNat_of_zero_le qm;have HH:=Hx qf;have qC:h<N:=(by rw [qf,qo.out]at qn;omega);have qN:(h:Int)<(N:Int):=(by omega);have qm:(0:Int)<=(h:Int):=(by omega);rw [qf,xL]at NX;clear qf qn qy
      go_wp2_with fail
      refine(HD.out a' (by omega) _ (XR.out.tr X9.out)).mono ?_;rintro e w7 ⟨rfl,x7⟩;have X7:=Hx (X9.out.tr x7);obtain⟨vb,qa⟩:∃vb,V[h]?=some vb:=⟨_,yG (by omega)⟩;have vh:=cellK X7.out (show wr.cell? ⟨g,h,none⟩=some (.bool vb)from(J.out.1.cell h).trans (jzga V h _ qa));have B7:=J.out.1.keep X7.out;have vf:=B7.frozen h;have B9:=B7.set_ h (.bool true);rw [jzl0]at B9;have J9:=Hx (show Blk (w7.setCell ⟨g,h,none⟩ (.bool true)) g 4 (bools (V.set h true)).toArray/\FrS (fun b=>b=g) W3 (w7.setCell ⟨g,h,none⟩ (.bool true))/\llB t V0 S true x=llB t (V.set h true) h (decide (n+1=0)) (x.drop (n+1))from
       ⟨B9,(J.out.2.1.tr (FrS.of_ext (S:=fun b=>b=g) X7.out) fun b hb=>.inl hb).tr (FrS.of_grown (S:=fun b=>b=g) (jze w7 g h _) fun g e=>by injection e with e;exact e.symm) fun b hb=>.inl hb,by rw [J.out.2.2,NX.out];rfl⟩)
      rw [HH.out];clear x7 B7 B9 qa J qi NX;go_wp2
      go_roundg (x.length-(n+1))
      case measure=>omega
      case rel=>exact⟨n+1,h,V.set h true,rfl,by omega,rfl,by go_num,qC,by rw [yV];exact qO,J9⟩
     ·rw [yP hc]
      rw [if_neg hc]at NX;have qw:=Hx (show loopB t x (S:Int) d=false by rw [HR.out,J.out.2.2,NX.out]);clear hc;go_wp2;go_ret;rw [qw.out];exact⟨rfl,XR.out.tr X9.out⟩
   ·obtain rfl:n=x.length:=by omega
    have hl:=J.out.2.2;rw [List.drop_length]at hl;have qw:=Hx (show loopB t x (S:Int) d=decide ((u:Int)=d) by rw [HR.out,hl];rfl);go_wp2;go_ret;rw [qw.out];exact⟨rfl,XR.out⟩
 ·rw [yP hs]
  have HR:=Hx (show loopB t x s d=false by unfold loopB;rw [qo.out,yP hs];rfl);go_wp2;go_ret;rw [HR.out];exact⟨rfl,E1.out.2⟩
open Sx
def nameI(p:PthI):List UInt8:=nameL p.dem p.arcs
def srcZ(l:List Dm)(d:Nat):Int:=match l[d]? with
 |some x=>x.src
 |none=>0
def dstZ(l:List Dm)(d:Nat):Int:=match l[d]? with
 |some x=>x.dst
 |none=>0
def rtA(l:List Dm)(ks:List (List UInt8))(p:PthI):Prop:=(0<=p.dem/\p.dem<(l.length:Int))/\nameI p∉ks/\0<p.flow
instance(l:List Dm)(ks:List (List UInt8))(p:PthI):Decidable (rtA l ks p):=by unfold rtA;infer_instance
def rtC(t:Tp)(l:List Dm)(ks:List (List UInt8))(p:PthI):Prop:=rtA l ks p/\loopB t p.arcs (srcZ l p.dem.toNat) (dstZ l p.dem.toNat)=true
instance(t:Tp)(l:List Dm)(ks:List (List UInt8))(p:PthI):Decidable (rtC t l ks p):=by unfold rtC;infer_instance
def rtB(t:Tp)(l:List Dm):List (List UInt8)->List Rat->List PthI->Option (List Rat)
 |_,sm,[]=>some sm
 |ks,sm,p::ps=>if rtC t l ks p then rtB t l (nameI p::ks) (sm.set p.dem.toNat (at_ sm p.dem.toNat+p.flow)) ps else none
def sumOk(l:List Dm)(v:Rat)(sm:List Rat)(n:Nat):Bool:=(List.range n).all fun d=>decide (at_ sm d=v*amQ l d)
def loadOk(t:Tp)(ld:List Rat)(n:Nat):Bool:=(List.range n).all fun a=>decide (at_ ld a<=capQ t a)
def admP(t:Tp)(l:List Dm)(v:Rat)(Z:List PthI):Bool:=fitP t l&&match rtB t l [] (List.replicate l.length 0) Z with
 |none=>false
 |some sm=>sumOk l v sm l.length&&loadOk t (loadsP t Z).1 (loadsP t Z).1.length
theorem rtB_drop{t:Tp}{l:List Dm}{Z:List PthI}{n:Nat}{p:PthI}(hp:Z[n]?=some p)(ks:List (List UInt8))(sm:List Rat):rtB t l ks sm (Z.drop n)=if rtC t l ks p then rtB t l (nameI p::ks) (sm.set p.dem.toNat (at_ sm p.dem.toNat+p.flow)) (Z.drop (n+1))else none:=by
 obtain⟨hn,e⟩:=yH.1 hp;rw [List.drop_eq_getElem_cons hn,e];rfl
theorem jzl2(l:List Dm)(v:Rat)(sm:List Rat)(n:Nat):sumOk l v sm (n+1)=(sumOk l v sm n&&decide (at_ sm n=v*amQ l n)):=by
 unfold sumOk;rw [List.range_succ,List.all_append];simp
theorem jzi7(t:Tp)(ld:List Rat)(n:Nat):loadOk t ld (n+1)=(loadOk t ld n&&decide (at_ ld n<=capQ t n)):=by
 unfold loadOk;rw [List.range_succ,List.all_append];simp
theorem jzh9{f:Nat->Bool}{n m:Nat}(h:f n=false)(hm:n<m):(List.range m).all f=false:=by
 rw [List.all_eq_false];exact⟨n,vX.2 hm,by rw [h];decide⟩
theorem sumOk_bad{l:List Dm}{v:Rat}{sm:List Rat}{n m:Nat}(h:¬at_ sm n=v*amQ l n)(hm:n<m):sumOk l v sm m=false:=jzh9 (yP h) hm
theorem jzl3{t:Tp}{ld:List Rat}{n m:Nat}(h:¬at_ ld n<=capQ t n)(hm:n<m):loadOk t ld m=false:=jzh9 (yP h) hm
theorem jzl4{t:Tp}(hv:validP t=true){x:List Int}{s d:Int}(h:loopB t x s d=true):∀a∈x,0<=a/\a<((2*t.links.length:Nat):Int):=by
 have qa:∀(x:List Int) (V:List Bool) (u:Nat) (first:Bool) (e:Nat),llB t V u first x=some e->∀a∈x,0<=a/\a<((2*t.links.length:Nat):Int):=fun x=>by
  induction x with
  |nil=>intro _ _ _ _ _ a ha;cases ha
  |cons b x ih=>
   intro V u first e h a ha
   have h:(if llC t V u first b then llB t (V.set (headP t b.toNat).toNat true) (headP t b.toNat).toNat false x else none)=some e:=h;by_cases hc:llC t V u first b
   ·rw [if_pos hc]at h
    rcases xZ.1 ha with e1|e1
    ·rw [e1];exact hc.1
    ·exact ih _ _ _ _ h a e1
   ·rw [if_neg hc]at h;cases h
 unfold loopB at h;rw [vM]at h;cases hl:llB t ((List.replicate t.nodes.toNat false).set s.toNat true) s.toNat true x with
 |none=>rw [hl]at h;cases h.2
 |some e=>exact qa x _ _ _ _ hl
theorem jzia{t:Tp}{l:List Dm}:∀(Z:List PthI) (ks:List (List UInt8)) (sm sm':List Rat),rtB t l ks sm Z=some sm'->∀p∈Z,(0<=p.dem/\p.dem<(l.length:Int))/\0<p.flow/\loopB t p.arcs (srcZ l p.dem.toNat) (dstZ l p.dem.toNat)=true
 | [],_,_,_,_,p,hp=>by cases hp
 |q::Z,ks,sm,sm',h,p,hp=>by
  have h:(if rtC t l ks q then rtB t l (nameI q::ks) (sm.set q.dem.toNat (at_ sm q.dem.toNat+q.flow)) Z else none)=some sm':=h;by_cases hc:rtC t l ks q
  ·rw [if_pos hc]at h
   rcases xZ.1 hp with e|e
   ·subst e;exact⟨hc.1.1,hc.1.2.2,hc.2⟩
   ·exact jzia Z _ _ _ h p e
  ·rw [if_neg hc]at h;cases h
theorem loadsP_in{t:Tp}(hv:validP t=true){Z:List PthI}(h:∀p∈Z,∀a∈p.arcs,0<=a/\a<((2*t.links.length:Nat):Int)):(loadsP t Z).2=0:=by
 have kA:∀(f:Rat) (x:List Int) (ld:List Rat),(∀a∈x,0<=a/\a<((2*t.links.length:Nat):Int))->∃qa,ldA (2*t.links.length) f ld x=some qa:=fun f x=>by
  induction x with
  |nil=>intro ld _;exact⟨ld,rfl⟩
  |cons a x ih=>
   intro ld h;obtain⟨qa,h'⟩:=ih (ld.set a.toNat (at_ ld a.toNat+f)) fun b hb=>h b (xO _ hb);refine⟨qa,?_⟩;show(if 0<=a/\a<((2*t.links.length:Nat):Int)then _ else none)=_;rw [if_pos (h a (by simp))];exact h'
 have kP:∀(Z:List PthI) (ld:List Rat),(∀p∈Z,∀a∈p.arcs,0<=a/\a<((2*t.links.length:Nat):Int))->∃qa,ldP (2*t.links.length) ld Z=some qa:=fun Z=>by
  induction Z with
  |nil=>intro ld _;exact⟨ld,rfl⟩
  |cons p Z ih=>
   intro ld h;obtain⟨l1,h1⟩:=kA p.flow p.arcs ld (h p (by simp));obtain⟨l2,h2⟩:=ih l1 fun q hq=>h q (xO _ hq);refine⟨l2,?_⟩;show(match ldA (2*t.links.length) p.flow ld p.arcs with|none=>none|some qa=>ldP (2*t.links.length) qa Z)=_;rw [h1];exact h2
 obtain⟨ld,h1⟩:=kP Z (List.replicate (2*t.links.length) 0) h;unfold loadsP;rw [if_pos hv,h1]
theorem jzl5(q:Rat):0<sgnI q↔0<q:=by
 have h:q.num=0↔q=0:=Rat.num_eq_zero;have h2:q.num<0↔q<0:=(by rw [<-Int.not_le,Rat.num_nonneg,Rat.not_le]);unfold sgnI;constructor
 ·intro h3
  split at h3
  ·exact absurd h3 (by decide)
  ·split at h3
   ·exact absurd h3 (by decide)
   ·rename_i h4 h5
    have h6:¬q<0:=fun h=>h5 (h2.2 h);have h7:¬q=0:=fun h'=>h4 (h.2 h');grind
 ·intro h3
  have h4:¬q.num=0:=fun h'=>(by rw [h.1 h']at h3;exact absurd h3 (by decide));have h5:¬q.num<0:=fun h'=>(by have:=h2.1 h';grind);rw [if_neg h4,if_neg h5];decide
end Go.Proofs.YthbmikapohlikaaGreatDoor
