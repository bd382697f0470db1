/- Part 1 of 2 of what this claim adds (the white space is struck, the texts are joined). -/
import Derived.Test.YthbmikapohlikaaGreatDoorZ24
set_option linter.unusedVariables false
set_option linter.unusedSimpArgs false
set_option maxRecDepth 100000
set_option maxHeartbeats 8000000
namespace Go.Proofs.YthbmikapohlikaaGreatDoor
open Go.RowKit
section
variable {w w':World} {neg:Bool} {A:Option Addr} {n c:Nat} {A':Option Addr} {n' c':Nat} {q:Rat}
end
theorem jzdx{N D:Nat}(hD:D≠0)(hN:N<18446744073709551616)(hD':D<18446744073709551616):ReducedAt N D:=jzc9 hD (fun h=>by omega)
def ofQ(x y:Int):Rat:=mkQ (decide (x<0) !=decide (y<0)) x.natAbs y.natAbs
theorem ratOf_any(x y:Int)(w:World)(h0: -9223372036854775808<=x)(h1:x<=9223372036854775807)(h2: -9223372036854775808<=y)(h3:y<=9223372036854775807)(hy:y≠0):
  Calls Tryz.prog 25 #[.int .i64 x,.int .i64 y] w fun e w'=>∃(neg:Bool) (A:Option Addr) (n c:Nat) (A':Option Addr) (n' c':Nat),e=.returned (.tuple #[.agg #[.bool neg,.slice A n c,.slice A' n' c'],.int .i64 0])/\RatR w' neg A n c A' n' c' (ofQ x y)/\Ext w w':=by
 obtain⟨qa,e0⟩:=boxes1 w #[.bool false,.slice none 0 0,.slice none 0 0] 35;have yb:(y==0)=false:=yK.2 hy;have qk:=Hx (jzdx (N:=x.natAbs) (D:=y.natAbs) (by omega) (by omega) (by omega))
 go_enter Tryz.func25,Tryz.ntmps25
 go_wp2_with fail
 refine(jzbf x _ h0 h1).mono ?_;rintro e w1 ⟨A1,n1,c1,rfl,hN,qg⟩;have qa:=(qa.keep qg).alloc (.cells #[.slice A1 n1 c1] 33);have qh:=Blk.new w1 33 #[.slice A1 n1 c1];have qi:=Hx ((e0.tr qg).alloc (.cells #[.slice A1 n1 c1] 33));have L1:=jzda hN (by omega);have N1:=Hx (hN.keep ((Ext.refl w1).alloc (.cells #[.slice A1 n1 c1] 33)));clear qg hN e0
 go_wp2_with fail
 refine(jzbf y _ h2 h3).mono ?_;rintro e w2 ⟨A2,n2,c2,rfl,hD,qe⟩;have qa:=(qa.keep qe).alloc (.cells #[.slice A2 n2 c2] 33);have qh:=(qh.keep qe).alloc (.cells #[.slice A2 n2 c2] 33);have qp:w1.heap.size<w2.heap.size:=(by have:=qe.size;simp at this;omega);have qo:=Blk.new w2 33 #[.slice A2 n2 c2];have qn:=qh.one.1;have qj:=Hx ((qi.out.tr qe).alloc (.cells #[.slice A2 n2 c2] 33));have L2:=jzda hD (by omega);have N2:=Hx ((N1.out.keep qe).keep ((Ext.refl w2).alloc (.cells #[.slice A2 n2 c2] 33)));have D2:=Hx (hD.keep ((Ext.refl w2).alloc (.cells #[.slice A2 n2 c2] 33)));clear qe hD qi N1;generalize hs:(decide (x<0))=s1 at*;generalize hs':(decide (y<0))=s2 at*
 go_wp2_with fail
 refine(qk.out (!(s1==s2)) A1 A2 n1 c1 n2 c2 _ N2.out D2.out (by omega) (by omega)).mono ?_;rintro e w3 ⟨ng,A,n,c,A',n',c',rfl,hR,qf⟩;have qa:=qa.keep qf;obtain⟨⟨k0,k1,k2⟩,g0,g1,g2⟩:=qa.three;have qm:=Hx (qj.out.tr qf);have R:=Hx (hR);have hq:ofQ x y=mkQ (!(s1==s2)) x.natAbs y.natAbs:=(by unfold ofQ;rw [hs,hs'];rfl);have HQ:=Hx (hq);clear qf hR hq hs hs';go_wp2;exact bodyPost_ret (v:=.tuple #[.agg #[.bool ng,.slice A n c,.slice A' n' c'],.int .i64 0]) (by simp [results,Tryz.results25,go_sem,(((qa.set_ 0 _).set_ 1 _).set_ 2 _).cell]) rfl (by rw [HQ.out];obtain⟨_,_,_,_,_,_,_,he,h1,h2⟩:=jzw qa (by decide) R.out qm.out (yX _);injection he with he;injection he with he;simp at he;obtain⟨rfl,⟨rfl,rfl,rfl⟩,rfl,rfl,rfl⟩:=he;exact⟨_,_,_,_,_,_,_,rfl,h1,h2⟩)
end Go.Proofs.YthbmikapohlikaaGreatDoor
namespace Go.Proofs.YthbmikapohlikaaGreatDoor
namespace Sx
section
variable {α:Type}
theorem ls_map{β:Type}(g:β->α)(f:α->Rat):∀l:List β,ls f (l.map g)=ls (fun b=>f (g b)) l
 | []=>rfl
 |a::l=>by
  show f (g a)+ls f (l.map g)=f (g a)+_;rw [ls_map g f l]
end
end Sx
open Go.RowKit
open Sx
section
variable {t:Tp} {l:List Dm} {v:Rat} {Z:List ((Nat×List Nat)×Rat)} {pr:List Rat}
def halfZ(Z:List ((Nat×List Nat)×Rat)):List ((Nat×List Nat)×Rat):=Z.map fun z=>(z.1,z.2*(1/2:Rat))
theorem ls_half(c:Nat×List Nat->Prop)[DecidablePred c](Z:List ((Nat×List Nat)×Rat)):ls (fun z=>if c z.1 then z.2 else 0) (halfZ Z)=(1/2:Rat)*ls (fun z=>if c z.1 then z.2 else 0) Z:=by
 unfold halfZ;rw [ls_map, <-jzgo];refine jzap fun z _=>?_;by_cases h:c z.1
 ·simp only [if_pos h];grind
 ·simp only [if_neg h];grind
theorem half_law(hD:l.length<=64)(hf:Fit t l)(h:PlanOK t l v Z pr):admP t l (v*(1/2:Rat)) ((halfZ Z).map pzI)=true/\chkP t l (v*(1/2:Rat)) ((halfZ Z).map pzI) pr=decide (v=0):=by
 have hh:(0:Rat)<1/2:=(by decide+kernel);have hA:Adm (2*t.links.length) l.length (amQ l) (capQ t) (v*(1/2:Rat)) (halfZ Z):=by
  refine⟨fun z hz=>?_,fun z hz=>?_,?_,fun d hd=>?_,fun a ha=>?_⟩
  ·obtain⟨y,hy,rfl⟩:=List.mem_map.1 hz
   exact h.adm.dem y hy
  ·obtain⟨y,hy,rfl⟩:=List.mem_map.1 hz
   exact Rat.mul_pos (h.adm.pos y hy) hh
  ·unfold halfZ
   rw [List.map_map];exact h.adm.dif
  ·rw [ls_half (fun p=>p.1=d),h.adm.sum d hd];grind
  ·rw [ls_half (fun p=>a∈p.2)]
   have h1:=h.adm.cap a ha;have h2:0<=capQ t a:=(jzc0 hf.v ha).2.1;have h3:=yT h1 (vB hh);grind
 have h1:=jzmd hD hf hA fun z hz=>by
  obtain⟨y,hy,rfl⟩:=List.mem_map.1 hz;exact h.loop y hy
 refine⟨h1,?_⟩;rw [h.chk hD hf,h1,Bool.true_and];by_cases e:v=0
 ·rw [yO e,yO (by rw [e];grind)]
 ·rw [yP e,yP (fun e2=>e (by grind))]
end
end Go.Proofs.YthbmikapohlikaaGreatDoor
namespace Go.Proofs.YthbmikapohlikaaGreatDoor
open Go.RowKit
def PzH(W8 w:World)(cs:List Value)(p:PthI):Prop:=
 ∃(A:Option Addr) (c:Nat) (neg:Bool) (A1:Option Addr) (n1 c1:Nat) (A2:Option Addr) (n2 c2:Nat),cs=[.int .i64 p.dem,.slice A p.arcs.length c,.bool neg,.slice A1 n1 c1,.slice A2 n2 c2]/\p.arcs.length<=c/\Rd W8 A (iints p.arcs)/\RatR w neg A1 n1 c1 A2 n2 c2 p.flow
theorem PzH.keep{W8 w w':World}{cs:List Value}{p:PthI}(h:PzH W8 w cs p)(hx:Ext w w'):PzH W8 w' cs p:=by
 obtain⟨A,c,neg,A1,n1,c1,A2,n2,c2,h1,h2,h3,h4⟩:=h;exact⟨A,c,neg,A1,n1,c1,A2,n2,c2,h1,h2,h3,h4.keep hx⟩
theorem PzH.fr{W8 w w':World}{X:Nat->Prop}{cs:List Value}{p:PthI}(h:PzH W8 w cs p)(k:FrS X w w')(n2:NoT X w 167):PzH W8 w' cs p:=by
 obtain⟨A,c,neg,A1,m1,c1,A2,m2,c2,h1,h2,h3,h4⟩:=h;exact⟨A,c,neg,A1,m1,c1,A2,m2,c2,h1,h2,h3,k.ratR n2 h4⟩
def hfP(p:PthI):PthI:={p with flow:=p.flow*(1/2:Rat)}
theorem hf_map(Z:List ((Nat×List Nat)×Rat)):(halfZ Z).map pzI=(Z.map pzI).map hfP:=by unfold halfZ;rw [List.map_map,List.map_map];rfl
structure HfI(W8 wx:World)(bq gp m:Nat)(neg:Bool)(A1:Option Addr)(n1 c1:Nat)(A2:Option Addr)(n2 c2:Nat)(vQ:Value)(v:Rat)(out:List PthI):Prop where
 box:Blk wx bq 39 #[.bool neg,.slice A1 n1 c1,.slice A2 n2 c2,vQ,.slice (some ⟨gp,0,none⟩) m m]
 own:OwL (PzH W8) 70 5 wx W8.heap.size vQ out
 val:RatR wx neg A1 n1 c1 A2 n2 c2 v
 ext:Ext W8 wx
 lo:W8.heap.size<=bq
section
variable {W8 wx wy:World} {bq gp m:Nat} {neg:Bool} {A1:Option Addr} {n1 c1:Nat} {A2:Option Addr} {n2 c2:Nat} {vQ:Value} {v:Rat} {out:List PthI}
theorem HfI.keep(h:HfI W8 wx bq gp m neg A1 n1 c1 A2 n2 c2 vQ v out)(hx:Ext wx wy):HfI W8 wy bq gp m neg A1 n1 c1 A2 n2 c2 vQ v out:=⟨h.box.keep hx,h.own.keep hx fun cs y hy=>hy.keep hx,h.val.keep hx,h.ext.tr hx,h.lo⟩
theorem HfI.fr{S:Nat->Prop}(h:HfI W8 wx bq gp m neg A1 n1 c1 A2 n2 c2 vQ v out)(k:FrS S wx wy)(hbq:¬S bq)(hv:∀g,vQ.ownBlock=some g->¬S g)(hn:NoT S wx 167)(he:∀b,S b->W8.heap.size<=b):HfI W8 wy bq gp m neg A1 n1 c1 A2 n2 c2 vQ v out:=
 ⟨k.blk h.box hbq,h.own.fr k hv fun cs y _ hy=>hy.fr k hn,k.ratR hn h.val,k.ext h.ext he,h.lo⟩
theorem HfI.plr{c:Nat}{A:Option Addr}(h:HfI W8 wx bq gp m neg A1 n1 c1 A2 n2 c2 (.slice A out.length c) v out):PLr wx A out:=by
 obtain⟨css,h1,h2,h3,h4⟩:=h.own;refine⟨css,h1,h2,(jzbb h3).rd,fun i p hp=>?_⟩;obtain⟨cs,k1,B,c,ng,B1,m1,d1,B2,m2,d2,k2,k3,k4,k5⟩:=h4 i p hp;exact⟨cs,k1,B,c,ng,B1,m1,d1,B2,m2,d2,k2,k3,k4.keep h.ext,k5⟩
end
theorem half_box{W8 w9:World}{g gp:Nat}{nm:Bool}{M1:Option Addr}{m1 d1:Nat}{M2:Option Addr}{m2 d2:Nat}{v:Rat}(m:Nat)(h5:Blk w9 g 39 #[.bool false,.slice none 0 0,.slice none 0 0,.slice none 0 0,.slice none 0 0])(hR:RatR w9 nm M1 m1 d1 M2 m2 d2 v)(hx:Ext W8 w9)(hg:W8.heap.size<=g):
  HfI W8 (((((w9.setCell ⟨g,0,none⟩ (.bool nm)).setCell ⟨g,1,none⟩ (.slice M1 m1 d1)).setCell ⟨g,2,none⟩ (.slice M2 m2 d2)).setCell ⟨g,3,none⟩ (.slice none 0 0)).setCell ⟨g,4,none⟩ (.slice (some ⟨gp,0,none⟩) m m)) g gp m nm M1 m1 d1 M2 m2 d2 (.slice none 0 0) v []:=by
 have b0:=h5.set_ 0 (.bool nm);have b1:=b0.set_ 1 (.slice M1 m1 d1);have b2:=b1.set_ 2 (.slice M2 m2 d2);have b3:=b2.set_ 3 (.slice none 0 0);have b4:=b3.set_ 4 (.slice (some ⟨gp,0,none⟩) m m);have k:FrS (fun x=>x=g) w9 (((((w9.setCell ⟨g,0,none⟩ (.bool nm)).setCell ⟨g,1,none⟩ (.slice M1 m1 d1)).setCell ⟨g,2,none⟩ (.slice M2 m2 d2)).setCell ⟨g,3,none⟩ (.slice none 0 0)).setCell ⟨g,4,none⟩ (.slice (some ⟨gp,0,none⟩) m m)):=FrS.of_grown (S:=fun x=>x=g) (grown5 w9 g (.bool nm) (.slice M1 m1 d1) (.slice M2 m2 d2) (.slice none 0 0) (.slice (some ⟨gp,0,none⟩) m m)) fun y e=>(Option.some.inj e).symm;exact⟨b4,OwL.nil _ _ _ _ _,k.ratR (NoT.one h5 (by decide)) hR,k.ext hx fun b hb=>by rw [hb];exact hg,hg⟩
theorem own_lt'{α:Type}{R:World->List Value->α->Prop}{e:TypeId}{s:Nat}{w:World}{B:Nat}{v:Value}{l:List α}(h:OwL R e s w B v l)(g:Nat)(hg:v.ownBlock=some g):B<=g/\g<w.heap.size:=by
 obtain⟨xs,ho⟩:=h.own;exact ho.lt g hg
theorem half_Q:ofQ 1 2=(1/2:Rat):=by decide+kernel
theorem jzmn(t:Tp)(AO:Option Addr)(co:Nat)(AL:Option Addr)(cl:Nat)(l:List Dm)(AD:Option Addr)(cd:Nat)(w:World)(h:ArgF w t AO co AL cl l AD cd)(vg:Tab w):
  Calls Tryz.prog 7 #[.agg #[.int .i64 t.nodes,.slice AO t.over.length co,.slice AL t.links.length cl],.slice AD l.length cd] w fun e w'=>e=.returned (.bool true)/\Ext w w':=by
 have vO:=h.ld;have vR:=h.lm;have HA:=Hx (And.intro h vg);obtain⟨vd,e0⟩:=boxes1 w #[.int .i64 t.nodes,.slice AO t.over.length co,.slice AL t.links.length cl] 25;have E0:=Hx (And.intro vd e0);clear h vg vd e0
 go_enter Tryz.func7,Tryz.ntmps7
 go_wp2_with fail
 refine(jzci _ (HA.out.2.keep E0.out.2)).mono ?_;rintro e w1 ⟨rfl,x1⟩;have E1:=Hx (And.intro (E0.out.1.keep x1) (E0.out.2.tr x1));clear x1 E0;obtain⟨⟨i0,i1,i2⟩,_⟩:=E1.out.1.three
 go_wp2_with fail
 refine(jzcj t AO co AL cl l AD cd _ (HA.out.1.keep E1.out.2)).mono ?_;rintro e w2 ⟨rfl,x2⟩;have E2:=Hx (And.intro (E1.out.1.keep x2) (E1.out.2.tr x2));clear x2 E1 i0 i1 i2;cases hs:smallF t l
 case false=>
  go_wp2;go_ret;exact⟨rfl,E2.out.2⟩
 case true=>
  obtain⟨_,g1,g2,g3,g5⟩:=jzcm.1 hs;have G5:=Hx g5;clear g5 hs;obtain⟨⟨i0,i1,i2⟩,_⟩:=E2.out.1.three
  go_wp2_with fail
  refine(jzc7 t AO co AL cl l AD cd _ ((HA.out.1.keep E2.out.2).top g1 g2) ((HA.out.1.keep E2.out.2).dem g3)).mono ?_;rintro e w3 ⟨rfl,x3⟩;have E3:=Hx (And.intro (E2.out.1.keep x3) (E2.out.2.tr x3));clear x3 E2 i0 i1 i2;cases hf:fitP t l
  case false=>
   go_wp2;go_ret;exact⟨rfl,E3.out.2⟩
  case true=>
   have HF:=Hx ((jza0 (show l.length<=64 by omega)).1 hf);have hN:t.nodes<=7:=G5.out HF.out.v;clear hf;obtain⟨⟨i0,i1,i2⟩,_⟩:=E3.out.1.three
   go_wp2_with fail
   refine(jze9 t AO co AL cl l AD cd _ ((HA.out.1.top g1 g2).keep E3.out.2) ((HA.out.1.dem g3).keep E3.out.2) g1 g3 (fun _=>hN) (HA.out.2.keep E3.out.2)).mono ?_;intro e w5 hp;clear i0 i1 i2;rcases hp.cases HF.out g3 with⟨hnc,rfl,x5⟩|⟨neg,A1,n1,c1,A2,n2,c2,AP,cp,gp,v,Z,pr,rfl,S5,x5⟩
   ·have X5:=Hx (E3.out.2.tr x5)
    clear hp hnc x5;go_wp2;go_ret;exact⟨rfl,X5.out.alloc _⟩
   ·obtain⟨np,qO⟩:∃np,Z.length=np:=⟨_,rfl⟩
    rw [qO];have B6:=Hx (Blk.new w5 39 #[.bool neg,.slice A1 n1 c1,.slice A2 n2 c2,.slice AP np cp,.slice (some ⟨gp,0,none⟩) (2*t.links.length) (2*t.links.length)]);have X6:=Hx (x5.alloc (.cells #[.bool neg,.slice A1 n1 c1,.slice A2 n2 c2,.slice AP np cp,.slice (some ⟨gp,0,none⟩) (2*t.links.length) (2*t.links.length)] 39));have S6:=Hx (S5.keep ((Ext.refl w5).alloc (.cells #[.bool neg,.slice A1 n1 c1,.slice A2 n2 c2,.slice AP np cp,.slice (some ⟨gp,0,none⟩) (2*t.links.length) (2*t.links.length)] 39)));have vo:=Hx qO;have vl:np<=24:=(by rw [<-qO];exact S5.len);clear hp x5 S5 qO
    go_upto_region 8 with fail
    generalize w5.alloc (.cells #[.bool neg,.slice A1 n1 c1,.slice A2 n2 c2,.slice AP np cp,.slice (some ⟨gp,0,none⟩) (2*t.links.length) (2*t.links.length)] 39)=W6 at*;generalize hb6:w5.heap.size=b6 at*
    go_wp2_with fail
    refine(ratOf_any 1 2 _ (by decide) (by decide) (by decide) (by decide) (by decide)).mono ?_;rintro e w7 ⟨nh,H1,qk,qj,H2,qn,qh,rfl,r7,x7⟩;rw [half_Q]at r7;have B8:=Hx (Blk.new w7 35 #[.bool nh,.slice H1 qk qj,.slice H2 qn qh]);have X8:=Hx ((Ext.refl w7).alloc (.cells #[.bool nh,.slice H1 qk qj,.slice H2 qn qh] 35));have R8:=Hx (r7.keep X8.out);have qw:=Hx ((B6.out.keep x7).keep X8.out);have S8:=Hx ((S6.out.keep x7).keep X8.out);have vh:=Hx ((X6.out.tr x7).tr X8.out);clear r7 x7
    go_upto_region 9 with fail
    generalize w7.alloc (.cells #[.bool nh,.slice H1 qk qj,.slice H2 qn qh] 35)=W8 at*;generalize hb8:w7.heap.size=b8 at*;have XD:=Hx (show Ext W8 W8.drew from(Ext.refl W8).drewN 1);have XA:=Hx (show Ext W8 (W8.alloc (.cells #[.bool false,.slice none 0 0,.slice none 0 0,.slice none 0 0,.slice none 0 0] 39)).drew from((Ext.refl W8).alloc _).drewN 1);have BA:=Hx (show Blk (W8.alloc (.cells #[.bool false,.slice none 0 0,.slice none 0 0,.slice none 0 0,.slice none 0 0] 39)).drew W8.heap.size 39 #[.bool false,.slice none 0 0,.slice none 0 0,.slice none 0 0,.slice none 0 0]from Blk.new W8 _ _);have qg:=Hx (show∀wx,Ext W8 wx->wx.cell? ⟨b6,0,none⟩=some (.bool neg)/\wx.cell? ⟨b6,1,none⟩=some (.slice A1 n1 c1)/\wx.cell? ⟨b6,2,none⟩=some (.slice A2 n2 c2)/\wx.cell? ⟨b6,4,none⟩=some (.slice (some ⟨gp,0,none⟩) (2*t.links.length) (2*t.links.length))/\wx.cell? ⟨b8,0,none⟩=some (.bool nh)/\wx.cell? ⟨b8,1,none⟩=some (.slice H1 qk qj)/\wx.cell? ⟨b8,2,none⟩=some (.slice H2 qn qh)from fun wx hx=>
     ⟨(qw.out.keep hx).cell 0,(qw.out.keep hx).cell 1,(qw.out.keep hx).cell 2,(qw.out.keep hx).cell 4,(B8.out.keep hx).cell 0,(B8.out.keep hx).cell 1,(B8.out.keep hx).cell 2⟩)
    obtain⟨l1,vL⟩:=S8.out.val.lens S8.out.sv;obtain⟨l2,vI⟩:=R8.out.lens (k:=1) (by unfold SzQ;decide+kernel)
    go_cut [9] (fun s wx=>∃(bq:Nat) (nm:Bool) (M1:Option Addr) (m1 d1:Nat) (M2:Option Addr) (m2 d2:Nat),s=.pointer (some ⟨bq,0,none⟩)/\Hid (HfI W8 wx bq gp (2*t.links.length) nm M1 m1 d1 M2 m2 d2 (.slice none 0 0) (v*(1/2:Rat)) []))
    case first=>
     have n6:b6≠W8.heap.size:=(by have:=qw.out.lt;omega);have n8:b8≠W8.heap.size:=(by have:=B8.out.lt;omega);obtain⟨c0,qN,qM,qK,qL,qH,qJ⟩:=qg.out _ XD.out;obtain⟨y0,y1,y2,y3,y4,y5,y6⟩:=qg.out _ XA.out
     go_region_held3 (fun w'=>w'.cell? ⟨b6,0,none⟩=some (.bool neg)/\w'.cell? ⟨b6,1,none⟩=some (.slice A1 n1 c1)/\w'.cell? ⟨b6,2,none⟩=some (.slice A2 n2 c2)/\w'.cell? ⟨b6,4,none⟩=some (.slice (some ⟨gp,0,none⟩) (2*t.links.length) (2*t.links.length))/\w'.cell? ⟨b8,0,none⟩=some (.bool nh)/\w'.cell? ⟨b8,1,none⟩=some (.slice H1 qk qj)/\w'.cell? ⟨b8,2,none⟩=some (.slice H2 qn qh))
      (first|with_reducible exact⟨c0,qN,qM,qK,qL,qH,qJ⟩|with_reducible exact⟨y0,y1,y2,y3,y4,y5,y6⟩|with_reducible exact⟨jzc c0 _,jzc qN _,jzc qM _,jzc qK _,jzc qL _,jzc qH _,jzc qJ _⟩|exact⟨jzb (jzb (jzb (jzb (jzb c0 n6) n6) n6) n6) n6,jzb (jzb (jzb (jzb (jzb qN n6) n6) n6) n6) n6,jzb (jzb (jzb (jzb (jzb qM n6) n6) n6) n6) n6,jzb (jzb (jzb (jzb (jzb qK n6) n6) n6) n6) n6,jzb (jzb (jzb (jzb (jzb qL n8) n8) n8) n8) n8,jzb (jzb (jzb (jzb (jzb qH n8) n8) n8) n8) n8,jzb (jzb (jzb (jzb (jzb qJ n8) n8) n8) n8) n8⟩|fail)
      (first
       |(go_at_call 21
         first
         |(with_reducible refine(jz1 neg nh A1 n1 c1 A2 n2 c2 H1 qk qj H2 qn qh v (1/2:Rat) _ (S8.out.val.keep (by with_reducible exact XD.out)) (R8.out.keep (by with_reducible exact XD.out)) (by omega) (by omega) (by omega) (by omega)).mono ?_
           rintro e w9 ⟨nm,M1,m1,d1,M2,m2,d2,rfl,hR,x9⟩;have E9:=Hx (XD.out.tr x9))
         |(with_reducible refine(jz1 neg nh A1 n1 c1 A2 n2 c2 H1 qk qj H2 qn qh v (1/2:Rat) _ (S8.out.val.keep (by with_reducible exact XA.out)) (R8.out.keep (by with_reducible exact XA.out)) (by omega) (by omega) (by omega) (by omega)).mono ?_
           rintro e w9 ⟨nm,M1,m1,d1,M2,m2,d2,rfl,hR,x9⟩;have E9:=Hx (XA.out.tr x9);have B9:=Hx (BA.out.keep x9);have u0:=B9.out.cell 0;have u1:=B9.out.cell 1;have u2:=B9.out.cell 2;have u3:=B9.out.cell 3;have u4:=B9.out.cell 4;have f0:=B9.out.frozen 0;have f1:=B9.out.frozen 1;have f2:=B9.out.frozen 2;have f3:=B9.out.frozen 3;have f4:=B9.out.frozen 4)
         have R9:=Hx hR;obtain⟨c0,qN,qM,qK,qL,qH,qJ⟩:=qg.out _ E9.out;clear hR x9)
       |fail)
     all_goals
      go_wp2;go_meet
      first
      |(have F:=half_box (gp:=gp) (2*t.links.length) B9.out R9.out E9.out (yX _)
        exact⟨_,nm,M1,m1,d1,M2,m2,d2,rfl,Hx F⟩)
      |exact⟨_,nm,M1,m1,d1,M2,m2,d2,rfl,Hx ⟨Blk.new w9 _ _,OwL.nil _ _ _ _ _,R9.out.keep ((Ext.refl w9).alloc _),E9.out.alloc _,E9.out.size⟩⟩
    case rest=>
     obtain⟨bq,nm,M1,m1,d1,M2,m2,d2,rfl,I0⟩:=hcut;clear XD XA BA qg;obtain⟨ZP,qB⟩:∃ZP,Z.map pzI=ZP:=⟨_,rfl⟩;have qC:=Hx (show ZP.length=np by rw [<-qB,xV];exact vo.out);have vu:=Hx (show∀wx,Ext W8 wx->PLr wx AP ZP from fun wx hx=>qB▸(S8.out.keep hx).pat);have q5:=Hx (show∀p∈ZP,SzQ p.flow 41 from qB▸S8.out.flows);have qR:=Hx qB;have qY:=Hx (show SzQ (1/2:Rat) 1 by unfold SzQ;decide+kernel);clear qB;go_wp2
     go_loopg [10,11] np (fun q it _ wx=>∃(n:Nat) (vK:Value),np-n=q/\n<=np/\it=.int .i64 (n:Int)/\Hid (HfI W8 wx bq gp (2*t.links.length) nm M1 m1 d1 M2 m2 d2 vK (v*(1/2:Rat)) ((ZP.take n).map hfP)))
     case atStart=>exact⟨0,_,rfl,yZ _,rfl,I0⟩
     case round=>
      obtain⟨n,vK,rfl,hn,rfl,I⟩:=hrel;clear I0;have b3:=(qw.out.keep I.out.ext).cell 3;by_cases vm:n<np
      ·obtain⟨p,hp⟩:∃p,ZP[n]?=some p:=⟨_,yG (by rw [qC.out];exact vm)⟩
       obtain⟨b,o,AA,ca,ng,B1,u1,e1,B2,u2,e2,vj,hb,⟨a0,a1,a2,a3,a4⟩,vt,q7,qV⟩:=(vu.out _ (Ext.refl W8)).at5 hp;subst vj;have a0:=cellK I.out.ext a0;have a1:=cellK I.out.ext a1;have a2:=cellK I.out.ext a2;have a3:=cellK I.out.ext a3;have a4:=cellK I.out.ext a4;have hb:b<wr.heap.size:=yL hb I.out.ext.size;have HP:=Hx hp;have nN:(n:Int)<(np:Int):=(by omega);have n0:(0:Int)<=(n:Int):=(by omega);have RA:=Hx (And.intro q7 qV);have XX:=Hx (show Ext wr (wr.alloc (.cells #[.int .i64 p.dem,.slice AA p.arcs.length ca,.bool ng,.slice B1 u1 e1,.slice B2 u2 e2] 70))from(Ext.refl wr).alloc _);have BX:=Hx (Blk.new wr 70 #[.int .i64 p.dem,.slice AA p.arcs.length ca,.bool ng,.slice B1 u1 e1,.slice B2 u2 e2]);have vJ:=I.out.box.lt;have vk:=Hx (fun g hg=>(own_lt' I.out.own g hg));obtain⟨l3,vH⟩:=qV.lens (q5.out p (yJ hp));clear hp q7 qV
       go_upto_region 14 with fail
       clear a0 a1 a2 a3 a4 b3;generalize wr.alloc (.cells #[.int .i64 p.dem,.slice AA p.arcs.length ca,.bool ng,.slice B1 u1 e1,.slice B2 u2 e2] 70)=W10 at*;generalize hbx:wr.heap.size=bx at*;have qG:=Hx (I.out.ext.tr XX.out);have x2:=BX.out.cell 2;have x3:=BX.out.cell 3;have x4:=BX.out.cell 4;have y0:=(B8.out.keep qG.out).cell 0;have y1:=(B8.out.keep qG.out).cell 1;have y2:=(B8.out.keep qG.out).cell 2
       go_wp2_with fail
       refine(jz1 ng nh B1 u1 e1 B2 u2 e2 H1 qk qj H2 qn qh p.flow (1/2:Rat) _ (RA.out.2.keep qG.out) (R8.out.keep qG.out) (by omega) (by omega) (by omega) (by omega)).mono ?_;rintro e qx ⟨nf,F1,j1,k1,F2,j2,k2,rfl,hR,qU⟩;have qf:=Hx (BX.out.keep qU);have vi:=Hx ((I.out.keep XX.out).keep qU);have z2:=qf.out.frozen 2;have z3:=qf.out.frozen 3;have z4:=qf.out.frozen 4;have q2:=qf.out.cell 2;have q3:=qf.out.cell 3;have q4:=qf.out.cell 4;have qP:FrS (fun x=>x=bx) qx (((qx.setCell ⟨bx,2,none⟩ (.bool nf)).setCell ⟨bx,3,none⟩ (.slice F1 j1 k1)).setCell ⟨bx,4,none⟩ (.slice F2 j2 k2)):=FrS.of_grown (S:=fun x=>x=bx) (grown3 qx bx 2 (.bool nf) (.slice F1 j1 k1) (.slice F2 j2 k2)) fun y e=>(Option.some.inj e).symm;have vG:W8.heap.size<=bx:=(by rw [<-hbx];exact I.out.ext.size);have J:=Hx (show Blk (((qx.setCell ⟨bx,2,none⟩ (.bool nf)).setCell ⟨bx,3,none⟩ (.slice F1 j1 k1)).setCell ⟨bx,4,none⟩ (.slice F2 j2 k2)) bx 70 #[.int .i64 p.dem,.slice AA p.arcs.length ca,.bool nf,.slice F1 j1 k1,.slice F2 j2 k2]/\RatR (((qx.setCell ⟨bx,2,none⟩ (.bool nf)).setCell ⟨bx,3,none⟩ (.slice F1 j1 k1)).setCell ⟨bx,4,none⟩ (.slice F2 j2 k2)) nf F1 j1 k1 F2 j2 k2 (p.flow*(1/2:Rat))/\HfI W8 (((qx.setCell ⟨bx,2,none⟩ (.bool nf)).setCell ⟨bx,3,none⟩ (.slice F1 j1 k1)).setCell ⟨bx,4,none⟩ (.slice F2 j2 k2)) bq gp (2*t.links.length) nm M1 m1 d1 M2 m2 d2 vK (v*(1/2:Rat)) ((ZP.take n).map hfP)from
        ⟨((qf.out.set_ 2 (.bool nf)).set_ 3 (.slice F1 j1 k1)).set_ 4 (.slice F2 j2 k2),qP.ratR (NoT.one qf.out (by decide)) hR,vi.out.fr qP (by omega) (fun g hg e=>by have:=vk.out g hg;omega) (NoT.one qf.out (by decide)) (fun b hb=>by omega)⟩)
       clear qP hR qU x2 x3 x4 y0 y1 y2 vi qf
       go_upto_region 15 with fail
       clear z2 z3 z4 q2 q3 q4;generalize ((qx.setCell ⟨bx,2,none⟩ (.bool nf)).setCell ⟨bx,3,none⟩ (.slice F1 j1 k1)).setCell ⟨bx,4,none⟩ (.slice F2 j2 k2)=W12 at*;have qe:((ZP.take n).map hfP).length=n:=(by rw [xV,xF,qC.out];omega);have x0:=J.out.1.cell 0;have x1:=J.out.1.cell 1;have x2:=J.out.1.cell 2;have x3:=J.out.1.cell 3;have x4:=J.out.1.cell 4;have q3:=J.out.2.2.box.cell 3;have XB:=Hx (show Ext W12 (W12.alloc (.cells #[.int .i64 p.dem,.slice AA p.arcs.length ca,.bool nf,.slice F1 j1 k1,.slice F2 j2 k2] 70))from(Ext.refl W12).alloc _);have BW:=Hx (Blk.new W12 70 #[.int .i64 p.dem,.slice AA p.arcs.length ca,.bool nf,.slice F1 j1 k1,.slice F2 j2 k2]);have PB:=Hx (J.out.2.2.keep XB.out);obtain⟨css,h1,h2,qa,h4⟩:=PB.out.own;rw [qe]at h1 qa;have vw:W8.heap.size<=(W12.alloc (.cells #[.int .i64 p.dem,.slice AA p.arcs.length ca,.bool nf,.slice F1 j1 k1,.slice F2 j2 k2] 70)).heap.size:=PB.out.ext.size;have qD:=Hx qe;clear qe
       go_wp2_with (at_builtin;refine jz2 _ 36 70 _ 5 88 rfl _ _ rfl Tryz.underlying36 jze7 rfl (by decide) W8.heap.size vK n css.flatten rfl qa [.int .i64 p.dem,.slice AA p.arcs.length ca,.bool nf,.slice F1 j1 k1,.slice F2 j2 k2] rfl (by simp [Value.oneCell']) W12.heap.size rfl BW.out (by unfold maxLen;omega) (by omega) vw ?_)
       intro g7 c7 qp qo qi qX;have k7:=FrS.of_grown (S:=fun b=>vK.ownBlock=some b) qi fun g e=>e;have n7:=fun tt (ht:70≠tt) (b:Nat) (hb:vK.ownBlock=some b)=>jz3 qa hb ht;have qz:=Hx (k7.blk PB.out.box fun e=>jz3 qa e (by decide) _ _ PB.out.box);have k8:FrS (fun b=>b=bq) qp (qp.setCell ⟨bq,3,none⟩ (.slice (some ⟨g7,0,none⟩) (n+1) c7)):=FrS.of_grown (S:=fun b=>b=bq) (jze qp bq 3 _) fun y e=>(Option.some.inj e).symm;have n8:=fun tt (ht:39≠tt)=>NoT.one qz.out ht;have z3:qp.frozen? ⟨bq,3,none⟩=false:=qz.out.frozen _;have vF:qp.cell? ⟨bq,3,none⟩=some vK:=qz.out.cell 3;have q6:=PB.out.lo;have K9:=Hx (show HfI W8 (qp.setCell ⟨bq,3,none⟩ (.slice (some ⟨g7,0,none⟩) (n+1) c7)) bq gp (2*t.links.length) nm M1 m1 d1 M2 m2 d2 (.slice (some ⟨g7,0,none⟩) (n+1) c7) (v*(1/2:Rat)) ((ZP.take (n+1)).map hfP)from by
        have e9:(ZP.take (n+1)).map hfP=(ZP.take n).map hfP++[hfP p]:=(by rw [List.take_add_one,HP.out,List.map_append];rfl);have qT:OwL (PzH W8) 70 5 qp W8.heap.size (.slice (some ⟨g7,0,none⟩) (n+1) c7) ((ZP.take n).map hfP++[hfP p]):=by
         refine OwL.pushed (w:=W12.alloc (.cells #[.int .i64 p.dem,.slice AA p.arcs.length ca,.bool nf,.slice F1 j1 k1,.slice F2 j2 k2] 70)) (by rw [qD.out];exact h1) h2 h4 (us:=[.int .i64 p.dem,.slice AA p.arcs.length ca,.bool nf,.slice F1 j1 k1,.slice F2 j2 k2]) rfl (fun cs y _ hy=>hy.fr k7 (n7 _ (by decide))) ⟨AA,ca,nf,F1,j1,k1,F2,j2,k2,rfl,vt,RA.out.1,k7.ratR (n7 _ (by decide)) (J.out.2.1.keep XB.out)⟩ (by rw [qD.out];exact qo)
        rw [e9];refine⟨qz.out.set_ 3 _,qT.fr k8 (fun g hg e=>?_) fun cs y _ hy=>hy.fr k8 (n8 _ (by decide)),k8.ratR (n8 _ (by decide)) (k7.ratR (n7 _ (by decide)) PB.out.val),k8.ext (k7.ext PB.out.ext fun b hb=>(qa.lt b hb).1) fun b hb=>by rw [hb];exact q6,q6⟩;obtain⟨cs,vc⟩:=jzl qo hg;rw [e]at vc;exact absurd (jzq vc qz.out).2 (by decide))
       clear qo qi qX qa h1 h2 h4 css k7 n7 k8 n8 PB BW XB qz J x0 x1 x2 x3 x4 q3;go_wp2
       go_roundg (np-(n+1))
       case measure=>omega
       case rel=>exact⟨n+1,_,rfl,by omega,by go_num,K9⟩
      ·obtain rfl:n=np:=by omega
       have qe:((ZP.take n).map hfP).length=n:=(by rw [xV,xF,qC.out];omega);have qF:(ZP.take n).map hfP=ZP.map hfP:=(by rw [yU (Nat.le_of_eq qC.out)]);obtain⟨AK,cK,q9,vx⟩:=I.out.own.form;rw [qe]at q9 vx;subst q9;rw [qF]at I;have qt:=Hx (show(ZP.map hfP).length=n by rw [xV];exact qC.out);clear qF qe;obtain⟨va,q8⟩:=S8.out.arcs HF.out g3;rw [qR.out]at va q8;have X9:=Hx (E3.out.2.tr (vh.out.tr I.out.ext));have qE:=Hx (half_law (l:=l) (by omega) HF.out S8.out.ok);have qQ:∀Q:List PthI,arcN (Q.map hfP)=arcN Q:=fun Q=>(by unfold arcN;rw [List.map_map];rfl);have qm:=Hx (show(∀p∈ZP.map hfP,SzQ p.flow 42)/\(∀p∈ZP.map hfP,p.arcs.length<=64/\i64 p.dem/\∀a∈p.arcs,i64 a)/\arcN (ZP.map hfP)<=1536 from by
        refine⟨fun p hp=>?_,fun p hp=>?_,by rw [qQ];exact q8⟩
        ·obtain⟨q,hq,rfl⟩:=List.mem_map.1 hp
         exact(q5.out q hq).mul qY.out
        ·obtain⟨q,hq,rfl⟩:=List.mem_map.1 hp
         exact va q hq)
       have qZ:PLr wr AK (ZP.map hfP):=by
        have h9:=I.out;rw [<-qt.out]at h9;exact h9.plr
       have ve:=Hx (show SzQ (v*(1/2:Rat)) 1000000 from(S8.out.sv.mul qY.out).mono (by decide));have vn:=Hx (show pr.length=2*t.links.length from S8.out.ok.plen);have vy:=Hx (show∀wx,Ext wr wx->Calls Tryz.prog 26 #[.agg #[.int .i64 t.nodes,.slice AO t.over.length co,.slice AL t.links.length cl],.slice AD l.length cd,.agg #[.bool nm,.slice M1 m1 d1,.slice M2 m2 d2,.slice AK n cK,.slice (some ⟨gp,0,none⟩) (2*t.links.length) (2*t.links.length)]] wx fun e w'=>e=.returned (.bool true)/\Ext wx w' from fun wx hx=>by
        have h9:=jzcz t AO co AL cl l AD cd (v*(1/2:Rat)) nm M1 m1 d1 M2 m2 d2 (ZP.map hfP) AK n cK qt.out (some ⟨gp,0,none⟩) (2*t.links.length) (2*t.links.length) 42 wx ((HA.out.1.top g1 g2).keep (X9.out.tr hx)) ((HA.out.1.dem g3).keep (X9.out.tr hx)) (by omega) (I.out.val.keep hx) ve.out (RdL.keep qZ hx fun cs x hq=>hq.keep hx) (by omega) qm.out.1 (by decide) (fun p hp=>by have:=(qm.out.2.1 p hp).1;omega) (fun p hp=>(qm.out.2.1 p hp).2) (by decide) (by have:=qm.out.2.2;omega) (HA.out.2.keep (X9.out.tr hx));rw [<-qR.out, <-hf_map,qE.out.1]at h9;exact h9)
       have vp:=Hx (show∀wx,Ext wr wx->Calls Tryz.prog 27 #[.agg #[.int .i64 t.nodes,.slice AO t.over.length co,.slice AL t.links.length cl],.slice AD l.length cd,.agg #[.bool nm,.slice M1 m1 d1,.slice M2 m2 d2,.slice AK n cK,.slice (some ⟨gp,0,none⟩) (2*t.links.length) (2*t.links.length)]] wx fun e w'=>e=.returned (.bool (decide (v=0)))/\Ext wx w' from fun wx hx=>by
        have h9:=jzmj t AO co AL cl l AD cd (v*(1/2:Rat)) nm M1 m1 d1 M2 m2 d2 (ZP.map hfP) AK n cK qt.out pr (some ⟨gp,0,none⟩) (2*t.links.length) (2*t.links.length) 42 vn.out wx ((HA.out.1.top g1 g2).keep (X9.out.tr hx)) ((HA.out.1.dem g3).keep (X9.out.tr hx)) (by omega) (I.out.val.keep hx) ve.out (RdL.keep qZ hx fun cs x hq=>hq.keep hx) (S8.out.prs.keep (I.out.ext.tr hx)) (fun q hq=>(S8.out.sp q hq).mono (by decide)) (by omega) qm.out.1 (by decide) (fun p hp=>by have:=(qm.out.2.1 p hp).1;omega) (fun p hp=>(qm.out.2.1 p hp).2) (by decide) (by have:=qm.out.2.2;omega) (HA.out.2.keep (X9.out.tr hx));rw [<-qR.out, <-hf_map,qE.out.2]at h9;exact h9)
       have vz:=Hx (fun wx (hx:Ext wr wx)=>jzz neg A1 n1 c1 A2 n2 c2 v wx (S8.out.val.keep (I.out.ext.tr hx)));have TB:=Hx (E3.out.1.keep (vh.out.tr I.out.ext));have qI:=Hx (qw.out.keep I.out.ext);have qW:=TB.out.lt;have qS:=qI.out.lt;have qA:=I.out.box.lt
       go_upto_region 16 with fail
       have qy:=I.out.box;clear I;have x0:=XW.cell _ _ _ qW (TB.out.cell 0);have x1:=XW.cell _ _ _ qW (TB.out.cell 1);have x2:=XW.cell _ _ _ qW (TB.out.cell 2);have y0:=XW.cell _ _ _ qS (qI.out.cell 0);have y1:=XW.cell _ _ _ qS (qI.out.cell 1);have y2:=XW.cell _ _ _ qS (qI.out.cell 2);have q0:=XW.cell _ _ _ qA (qy.cell 0);have q1:=XW.cell _ _ _ qA (qy.cell 1);have q2:=XW.cell _ _ _ qA (qy.cell 2);have q3:=XW.cell _ _ _ qA (qy.cell 3);have q4:=XW.cell _ _ _ qA (qy.cell 4);have vq:(decide (v=0)==(sgnI v==0))=true:=by
        by_cases hv:v=0
        ·rw [hv];rfl
        ·rw [yP hv,yK.2 fun h=>hv (jzam.1 h)];rfl
       generalize decide (v=0)=dv at*;clear qy;refine jzh (by kernel_rfl) (by kernel_rfl) ?_
       repeat (go_big_quiet_step (first|(go_at_call 26;exact Calls.ext_of (vy.out _ (XW.ext _)))|(go_at_call 27;exact Calls.ext_of (vp.out _ (XW.ext _)))|(go_at_call 23;exact Calls.ext_of (vz.out _ (XW.ext _)))))
       refine wpQuiet_nil ?_;rintro _ ⟨x,rfl⟩;go_wp2;go_ret;exact⟨rfl,X9.out.tr x.ext⟩
end Go.Proofs.YthbmikapohlikaaGreatDoor
