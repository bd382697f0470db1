/- Part 1 of 2 of what this claim adds (the white space is struck, the texts are joined). -/
import Derived.Test.YthbmikapohlikaaGreatDoorZ24
set_option linter.unusedVariables false
set_option linter.unusedSimpArgs false
set_option maxRecDepth 100000
set_option maxHeartbeats 8000000
namespace Go.Proofs.YthbmikapohlikaaGreatDoor
namespace Sx
section
variable {α:Type}
theorem ls_map{β:Type}(g:β->α)(f:α->Rat):∀l:List β,ls f (l.map g)=ls (fun b=>f (g b)) l
 | []=>rfl
 |a::l=>by
  show f (g a)+ls f (l.map g)=f (g a)+_;rw [ls_map g f l]
end
end Sx
open Go.RowKit
open Sx
section
variable {t t':Tp} {l l':List Dm} {v v':Rat} {Z Z':List ((Nat×List Nat)×Rat)} {pr pr':List Rat}
end
section
variable {t t':Tp}
end
structure SameD(l l':List Dm):Prop where
 sum:∀F:Int->Int->Rat,ls (fun x:Dm=>(x.amount:Rat)*F x.src x.dst) l'=ls (fun x:Dm=>(x.amount:Rat)*F x.src x.dst) l
 fwd:∀x∈l,∃y∈l',y.src=x.src/\y.dst=x.dst
 bwd:∀y∈l',∃x∈l,y.src=x.src/\y.dst=x.dst
theorem order_law{t:Tp}{l l':List Dm}(hf:Fit t l)(hf':Fit t l')(h:SameD l l'){a b:Rat}{ok is:Bool}(ha:ValR t l a ok)(hb:ValR t l' b is):ok=is/\a=b:=by
 have qa:connL t l↔connL t l':=by
  constructor
  ·intro hc y hy
   obtain⟨x,hx,e1,e2⟩:=h.bwd y hy;rw [e1,e2];exact hc x hx
  ·intro hc x hx
   obtain⟨y,hy,e1,e2⟩:=h.fwd x hx;rw [<-e1, <-e2];exact hc y hy
 have hn:∀pr,needL t l' pr=needL t l pr:=fun pr=>h.sum fun s d=>chQ t pr s.toNat d.toNat;rcases ha with⟨rfl,Z,pr,ha⟩|⟨rfl,rfl,ha⟩
 ·rcases hb with⟨rfl,Z',pr',hb⟩|⟨rfl,rfl,hb⟩
  ·refine⟨rfl,?_⟩
   have h1:=ha.le hf hb rfl (α:=1) (β:=1) (γ:=1) (by decide) (by decide) (by rw [hn]) vC;have h2:=hb.le hf' ha rfl (α:=1) (β:=1) (γ:=1) (by decide) (by decide) (by rw [hn]) vC;rw [Rat.one_mul,Rat.one_mul]at h1 h2;exact Rat.le_antisymm h1 h2
  ·exact absurd (qa.1 ha.connL) hb
 ·rcases hb with⟨rfl,Z',pr',hb⟩|⟨rfl,rfl,hb⟩
  ·exact absurd (qa.2 hb.connL) ha
  ·exact⟨rfl,rfl⟩
def ValPost(w:World)(t:Tp)(l:List Dm)(e:Ending)(w':World):Prop:=
 ∃(v:Rat) (ok:Bool) (neg:Bool) (A1:Option Addr) (n1 c1:Nat) (A2:Option Addr) (n2 c2:Nat),e=.returned (.tuple #[.agg #[.bool neg,.slice A1 n1 c1,.slice A2 n2 c2],.bool ok])/\ValR t l v ok/\SzQ v 20/\RatR w' neg A1 n1 c1 A2 n2 c2 v/\Ext w w'
theorem jza4(t:Tp)(AO:Option Addr)(co:Nat)(AL:Option Addr)(cl:Nat)(l:List Dm)(AD:Option Addr)(cd:Nat)(w:World)(ht:TopR w t AO co AL cl)(hd:DmR w l AD cd)(hf:Fit t l)(hl:t.links.length<=10)(hD:l.length<=4)(hN:t.nodes<=7)(qg:Tab w):
  Calls Tryz.prog 18 #[.agg #[.int .i64 t.nodes,.slice AO t.over.length co,.slice AL t.links.length cl],.slice AD l.length cd] w (ValPost w t l):=by
 have HT:=Hx (And.intro ht (And.intro hd (And.intro hf (And.intro qg hN))));have qm:=ht.ll;obtain⟨qa,qh,e0⟩:=boxes2 w #[.int .i64 t.nodes,.slice AO t.over.length co,.slice AL t.links.length cl] 25 #[.bool false,.slice none 0 0,.slice none 0 0] 35;obtain⟨⟨i0,i1,i2⟩,_⟩:=qa.three;have E0:=Hx (And.intro qa (And.intro qh e0));clear ht hd hf qg hN qa qh e0
 go_enter Tryz.func18,Tryz.ntmps18
 go_upto_region 1 with fail
 have qn:((w.alloc (.cells #[.int .i64 t.nodes,.slice AO t.over.length co,.slice AL t.links.length cl] 25)).alloc (.cells #[.bool false,.slice none 0 0,.slice none 0 0] 35)).heap.size=w.heap.size+2:=(by simp);generalize (w.alloc (.cells #[.int .i64 t.nodes,.slice AO t.over.length co,.slice AL t.links.length cl] 25)).alloc (.cells #[.bool false,.slice none 0 0,.slice none 0 0] 35)=W0 at*
 go_wp2_with fail
 refine(jze9 t AO co AL cl l AD cd _ (HT.out.1.keep E0.out.2.2) (HT.out.2.1.keep E0.out.2.2) hl hD (fun _=>HT.out.2.2.2.2) (HT.out.2.2.2.1.keep E0.out.2.2)).mono ?_;intro e w1 hp;obtain⟨v,ok,neg,A1,n1,c1,A2,n2,c2,P1,m1,k1,P2,m2,k2,ec,rfl,qk,hv,qf,qi,hx⟩:=hp.val HT.out.2.2.1 hD;have B6:=Hx (Blk.new w1 39 #[.bool neg,.slice A1 n1 c1,.slice A2 n2 c2,.slice P1 m1 k1,.slice P2 m2 k2]);have X6:=Hx ((Ext.refl w1).alloc (.cells #[.bool neg,.slice A1 n1 c1,.slice A2 n2 c2,.slice P1 m1 k1,.slice P2 m2 k2] 39));have BR:=Hx ((E0.out.2.1.keep hx).keep X6.out);have F6:=Hx (And.intro hv (And.intro qf (And.intro (qi.keep X6.out) ((E0.out.2.2.tr hx).tr X6.out))));have XS:=Hx hx;clear hp hv qf qi hx i0 i1 i2;have qj:(ec==0)=ok:=qk
 go_upto_region 2 with fail
 generalize w1.alloc (.cells #[.bool neg,.slice A1 n1 c1,.slice A2 n2 c2,.slice P1 m1 k1,.slice P2 m2 k2] 39)=W6 at*;have p0:=B6.out.cell 0;have p1:=B6.out.cell 1;have p2:=B6.out.cell 2;obtain⟨_,z0,z1,z2⟩:=BR.out.three;have Q3:=Hx (((BR.out.set_ 0 (.bool neg)).set_ 1 (.slice A1 n1 c1)).set_ 2 (.slice A2 n2 c2));have hg:=grown3 W6 (w.heap.size+1) 0 (.bool neg) (.slice A1 n1 c1) (.slice A2 n2 c2);have k3:FrS (fun b=>b=w.heap.size+1) W6 (((W6.setCell ⟨w.heap.size+1,0,none⟩ (.bool neg)).setCell ⟨w.heap.size+1,1,none⟩ (.slice A1 n1 c1)).setCell ⟨w.heap.size+1,2,none⟩ (.slice A2 n2 c2)):=FrS.of_grown hg fun g e=>(by injection e with e;exact e.symm);have qe:=Hx (show RatR (((W6.setCell ⟨w.heap.size+1,0,none⟩ (.bool neg)).setCell ⟨w.heap.size+1,1,none⟩ (.slice A1 n1 c1)).setCell ⟨w.heap.size+1,2,none⟩ (.slice A2 n2 c2)) neg A1 n1 c1 A2 n2 c2 v/\Ext w (((W6.setCell ⟨w.heap.size+1,0,none⟩ (.bool neg)).setCell ⟨w.heap.size+1,1,none⟩ (.slice A1 n1 c1)).setCell ⟨w.heap.size+1,2,none⟩ (.slice A2 n2 c2))from
  ⟨F6.out.2.2.1.other hg BR.out (by decide),k3.ext F6.out.2.2.2 fun b hb=>by omega⟩)
 clear k3 hg;go_wp2;have q3:=Q3.out;exact bodyPost_ret (v:=.tuple #[.agg #[.bool neg,.slice A1 n1 c1,.slice A2 n2 c2],.bool ok]) (by simp [results,Tryz.results18,go_sem,q3.cell]) rfl ⟨v,ok,neg,A1,n1,c1,A2,n2,c2,rfl,F6.out.1,F6.out.2.1,qe.out.1,qe.out.2⟩
def rotA(l:List Dm)(k i:Nat):Dm:=l[(i+k)%l.length]?.getD ⟨0,0,0,0⟩
def turnTo(l:List Dm)(k m:Nat):List Dm:=(List.range m).map (rotA l k)
def turnP(l:List Dm)(k:Nat):List Dm:=turnTo l k l.length
def ordP(l:List Dm)(k:Nat):List Dm:=if 1<(rotA l k 0).amount then(turnP l k).set 0 {rotA l k 0 with amount:=(rotA l k 0).amount-1}++[{rotA l k 0 with amount:=1}]else turnP l k
theorem jzjd(l:List Dm)(k m:Nat):turnTo l k (m+1)=turnTo l k m++[rotA l k m]:=by unfold turnTo;rw [List.range_succ,List.map_append];rfl
theorem jzcn(l:List Dm)(k m:Nat):(turnTo l k m).length=m:=by unfold turnTo;simp
theorem sm_rot(n:Nat)(hn:0<n)(g:Nat->Rat):∀k,(sm n fun i=>g ((i+k)%n))=sm n g
 |0=>sm_congr n fun i hi=>by rw [Nat.add_zero,Nat.mod_eq_of_lt hi]
 |k+1=>by
  rw [<-sm_rot n hn g k];obtain⟨m,rfl⟩:∃m,n=m+1:=⟨n-1,by omega⟩;rw [jzhj m fun i=>g ((i+k)%(m+1))];show(sm m fun i=>g ((i+(k+1))%(m+1)))+g ((m+(k+1))%(m+1))=_;rw [show m+(k+1)=(0+k)+(m+1) by omega,Nat.add_mod_right];rw [sm_congr m (f:=fun i=>g ((i+(k+1))%(m+1))) (g:=fun i=>g ((i+1+k)%(m+1))) fun i _=>by rw [show i+(k+1)=i+1+k by omega]];grind
theorem rot_ex(n:Nat){j:Nat}(hj:j<n):∀k,∃i,i<n/\(i+k)%n=j
 |0=>⟨j,hj,by rw [Nat.add_zero,Nat.mod_eq_of_lt hj]⟩
 |k+1=>by
  obtain⟨i,hi,e⟩:=rot_ex n hj k;cases i with
  |zero=>exact⟨n-1,by omega,by rw [show n-1+(k+1)=0+k+n by omega,Nat.add_mod_right];exact e⟩
  |succ i=>exact⟨i,by omega,by rw [show i+(k+1)=i+1+k by omega];exact e⟩
section
variable {l:List Dm} {k:Nat}
theorem jzdv(hn:0<l.length)(i:Nat):rotA l k i∈l:=by
 have h:(i+k)%l.length<l.length:=xT _ hn;unfold rotA;rw [yG h];exact xR h
theorem jzdw(hn:0<l.length){x:Dm}:x∈turnP l k↔x∈l:=by
 constructor
 ·intro h
  obtain⟨i,_,rfl⟩:=List.mem_map.1 h;exact jzdv hn i
 ·intro h
  obtain⟨j,hj,rfl⟩:=List.mem_iff_getElem.1 h;obtain⟨i,hi,e⟩:=rot_ex l.length hj k;refine List.mem_map.2 ⟨i,vX.2 hi,?_⟩;unfold rotA;rw [e,yG hj];rfl
theorem turn_ls(hn:0<l.length)(G:Dm->Rat):ls G (turnP l k)=ls G l:=by
 unfold turnP turnTo;rw [ls_map,jzew];have h:=sm_rot l.length hn (fun i=>G (l[i]?.getD ⟨0,0,0,0⟩)) k;have h2:(sm l.length fun i=>G (l[i]?.getD ⟨0,0,0,0⟩))=ls G l:=jzma G l _ fun d hd=>(by rw [yG hd];rfl);rw [<-h2, <-h];rfl
theorem jzfh(hn:0<l.length):∃r,turnP l k=rotA l k 0::r:=by
 have h:(turnP l k).length=l.length:=jzcn _ _ _;cases e:turnP l k with
 |nil=>rw [e]at h;simp at h;omega
 |cons a r=>
  refine⟨r,?_⟩;have h2:(turnP l k)[0]?=some (rotA l k 0):=by
   unfold turnP turnTo;rw [yW,xJ hn];rfl
  rw [e]at h2;injection h2 with h2
  rw [h2]
theorem jzmo(hn:0<l.length):SameD l (ordP l k):=by
 obtain⟨r,hr⟩:=jzfh (k:=k) hn;have qe:rotA l k 0∈l:=jzdv hn 0;have qa:∀x,x∈rotA l k 0::r↔x∈l:=fun x=>(by rw [<-hr];exact jzdw hn);unfold ordP;by_cases h:1<(rotA l k 0).amount
 ·rw [if_pos h,hr]
  refine⟨fun F=>?_,fun x hx=>?_,fun y hy=>?_⟩
  ·rw [<-turn_ls (k:=k) hn,hr]
   show ls _ (({rotA l k 0 with amount:=(rotA l k 0).amount-1}::r)++[{rotA l k 0 with amount:=1}])=_;rw [ls_app];show(((rotA l k 0).amount-1:Int):Rat)*F (rotA l k 0).src (rotA l k 0).dst+ls _ r+(((1:Int):Rat)*F (rotA l k 0).src (rotA l k 0).dst+0)=((rotA l k 0).amount:Rat)*F (rotA l k 0).src (rotA l k 0).dst+ls _ r;rw [Rat.intCast_sub];grind
  ·rcases xZ.1 ((qa x).2 hx)with e|e
   ·exact⟨{rotA l k 0 with amount:=1},by simp,by rw [e],by rw [e]⟩
   ·exact⟨x,by simp [e],rfl,rfl⟩
  ·have hy:y∈({rotA l k 0 with amount:=(rotA l k 0).amount-1}::r)++[{rotA l k 0 with amount:=1}]:=hy
   rcases xY.1 hy with hy|hy
   ·rcases xZ.1 hy with e|e
    ·exact⟨_,qe,by rw [e],by rw [e]⟩
    ·exact⟨y,(qa y).1 (xO _ e),rfl,rfl⟩
   ·rw [xD.1 hy]
    exact⟨_,qe,rfl,rfl⟩
 ·rw [if_neg h]
  exact⟨fun F=>turn_ls hn _,fun x hx=>⟨x,(jzdw hn).2 hx,rfl,rfl⟩,fun y hy=>⟨y,(jzdw hn).1 hy,rfl,rfl⟩⟩
theorem ord_all(hn:0<l.length){p:Dm->Prop}(h:∀x∈l,p x)(h1:1<(rotA l k 0).amount->p {rotA l k 0 with amount:=(rotA l k 0).amount-1}/\p {rotA l k 0 with amount:=1}):∀x∈ordP l k,p x:=fun x hx=>by
 unfold ordP at hx;by_cases e:1<(rotA l k 0).amount
 ·rw [if_pos e]at hx
  rcases xY.1 hx with hx|hx
  ·rcases xE hx with hx|hx
   ·exact h x ((jzdw hn).1 hx)
   ·rw [hx];exact(h1 e).1
  ·rw [xD.1 hx];exact(h1 e).2
 ·rw [if_neg e]at hx
  exact h x ((jzdw hn).1 hx)
theorem ord_len(l:List Dm)(k:Nat):(ordP l k).length<=l.length+1:=by
 have h:(turnP l k).length=l.length:=jzcn _ _ _;unfold ordP
 split
 ·simp [h]
 ·omega
theorem ord_fit{t:Tp}(hf:Fit t l):Fit t (ordP l k):=by
 refine⟨hf.v,?_,?_⟩
 ·have h:=jzmo (k:=k) hf.n
  obtain⟨x,hx⟩:∃x,x∈l:=⟨_,xR hf.n⟩;obtain⟨y,hy,_⟩:=h.fwd x hx;exact List.length_pos_of_mem hy
 ·refine ord_all hf.n hf.ok fun h1=>?_
  have h2:=hf.ok _ (jzdv (k:=k) hf.n 0);unfold Dm.ok inB at h2⊢;simp at h2⊢;omega
theorem ord_wf(hn:0<l.length)(h:∀x∈l,x.wf):∀x∈ordP l k,x.wf:=ord_all hn h fun h1=>by
 obtain⟨a1,a2,a3,a4⟩:=h _ (jzdv (k:=k) hn 0);unfold Dm.wf i64 at*;simp only;omega
end
end Go.Proofs.YthbmikapohlikaaGreatDoor
namespace Go.Proofs.YthbmikapohlikaaGreatDoor
open Go.RowKit
theorem jzcu:(Tryz.prog.info? 27).map (fun i=>(i.zero,i.size,i.bytes))=some (some (.agg #[.int .i64 0,.int .i64 0,.int .i64 0,.int .i64 0]),4,32):=by kernel_rfl
theorem rotA_get{l:List Dm}{y n:Nat}(hn:0<l.length):l[(n+y)%l.length]?=some (rotA l y n):=by
 have h:(n+y)%l.length<l.length:=xT _ hn;unfold rotA;rw [yG h];rfl
theorem jzie{l:List Dm}{y:Nat}(hn:0<l.length){W:World}{B gT c:Nat}(h:W.ownsRow B 27 4 (.slice (some ⟨gT,0,none⟩) l.length c) l.length ((turnP l y).flatMap Dm.cells)):∀k,k<4->W.cell? ⟨gT,k,none⟩=(Dm.cells (rotA l y 0))[k]?:=fun k hk=>by
 have qa:((turnP l y).flatMap Dm.cells).length=l.length*4:=(by rw [jzb3 Dm.cells 4 (fun _=>rfl),show(turnP l y).length=l.length from jzcn _ _ _]);obtain⟨b,o,e,_,hc⟩:=(jzbb h).rd.at_ (i:=k) (by rw [qa];omega);have e:=Option.some.inj e;injection e with e1 e2
 subst e1 e2;have h9:=hc k (by rw [qa];omega);rw [Nat.zero_add]at h9;rw [h9];obtain⟨r,hr⟩:=jzfh (k:=y) hn;rw [hr,xU,yR (by show k<4;exact hk)]
theorem turn_set{l:List Dm}{y:Nat}(hn:0<l.length)(a:Int):((turnP l y).set 0 {rotA l y 0 with amount:=a}).flatMap Dm.cells=((turnP l y).flatMap Dm.cells).set 2 (.int .i64 a):=by
 obtain⟨r,hr⟩:=jzfh (k:=y) hn;rw [hr];rfl
theorem jzje(t:Tp)(AO:Option Addr)(co:Nat)(AL:Option Addr)(cl:Nat)(l:List Dm)(AD:Option Addr)(cd:Nat)(y:Nat)(hy:y<=255)(w:World)(h:ArgF w t AO co AL cl l AD cd)(qJ:Tab w):
  Calls Tryz.prog 5 #[.agg #[.int .i64 t.nodes,.slice AO t.over.length co,.slice AL t.links.length cl],.slice AD l.length cd,.int .u8 (y:Int)] w fun e w'=>e=.returned (.bool true)/\Ext w w':=by
 have q7:=h.ld;have q8:=h.lm;have HA:=Hx (And.intro h qJ);obtain⟨qH,e0⟩:=boxes1 w #[.int .i64 t.nodes,.slice AO t.over.length co,.slice AL t.links.length cl] 25;have E0:=Hx (And.intro qH e0);clear h qJ qH e0
 go_enter Tryz.func5,Tryz.ntmps5
 go_wp2_with fail
 refine(jzci _ (HA.out.2.keep E0.out.2)).mono ?_;rintro e w1 ⟨rfl,x1⟩;have E1:=Hx (And.intro (E0.out.1.keep x1) (E0.out.2.tr x1));clear x1 E0;obtain⟨⟨i0,i1,i2⟩,_⟩:=E1.out.1.three
 go_wp2_with fail
 refine(jzcj t AO co AL cl l AD cd _ (HA.out.1.keep E1.out.2)).mono ?_;rintro e w2 ⟨rfl,x2⟩;have E2:=Hx (And.intro (E1.out.1.keep x2) (E1.out.2.tr x2));clear x2 E1 i0 i1 i2;cases hs:smallF t l
 case false=>
  go_wp2;go_ret;exact⟨rfl,E2.out.2⟩
 case true=>
  obtain⟨g0,g1,g2,g3,g5⟩:=jzcm.1 hs;have G0:=Hx g0;clear g0;have G5:=Hx g5;clear g5 hs;obtain⟨⟨i0,i1,i2⟩,_⟩:=E2.out.1.three;by_cases q9:l.length<=3
  case neg=>
   have d3:decide ((3:Int)<(l.length:Int))=true:=yO (by omega);go_wp2;go_ret;exact⟨rfl,E2.out.2⟩
  case pos=>
   have d3:decide ((3:Int)<(l.length:Int))=false:=yP (by omega)
   go_wp2_with fail
   refine(jzc7 t AO co AL cl l AD cd _ ((HA.out.1.keep E2.out.2).top g1 g2) ((HA.out.1.keep E2.out.2).dem g3)).mono ?_;rintro e w3 ⟨rfl,x3⟩;have E3:=Hx (And.intro (E2.out.1.keep x3) (E2.out.2.tr x3));clear x3 E2 i0 i1 i2 d3;cases hf:fitP t l
   case false=>
    go_wp2;go_ret;exact⟨rfl,E3.out.2⟩
   case true=>
    have HF:=Hx ((jza0 (show l.length<=64 by omega)).1 hf);have hN:t.nodes<=7:=G5.out HF.out.v;have qg:=HF.out.n;clear hf;have D3:=Hx ((HA.out.1.dem g3).keep E3.out.2);go_wp2
    go_loopg [7,8] l.length (fun q vT it wx=>∃(n:Nat),l.length-n=q/\n<=l.length/\it=.int .i64 (n:Int)/\Hid (Ext w3 wx/\wx.ownsRow w3.heap.size 27 4 vT n ((turnTo l y n).flatMap Dm.cells)))
    case atStart=>exact⟨0,rfl,yZ _,rfl,Hx ⟨Ext.refl _,World.ownsRow_nil _ _ _ _⟩⟩
    case round=>
     rename_i vT _
     obtain⟨n,rfl,hn,rfl,I⟩:=hrel;obtain⟨AT,cT,qR,qW⟩:=jzab I.out.2;subst qR;by_cases qX:n<l.length
     ·have qz:=rotA_get (y:=y) (n:=n) qg
      obtain⟨b,o,rfl,hb,a0,a1,a2,a3⟩:=(D3.out.keep I.out.1).at_ qz;have hI:(n+y)%l.length<l.length:=xT _ qg;generalize hdr:rotA l y n=d at*;have HD:=Hx hdr;have d1:¬(l.length:Int)=0:=(by omega);have nN:(n:Int)<(l.length:Int):=(by omega);have qT:(0:Int)<=((n:Int)+(y:Int))%(l.length:Int):=Int.emod_nonneg _ d1;have vd:((n:Int)+(y:Int))%(l.length:Int)<(l.length:Int):=Int.emod_lt_of_pos _ (by omega);have vc:(((n:Int)+(y:Int))%(l.length:Int)).toNat=(n+y)%l.length:=(by rw [<-Int.natCast_add, <-Int.natCast_emod,xL]);clear qz hdr;have XB:=Hx (show Ext wr (wr.alloc (.cells #[.int .i64 d.src,.int .i64 d.dst,.int .i64 d.amount,.int .i64 d.prio] 27))from(Ext.refl wr).alloc _);have BW:=Hx (Blk.new wr 27 #[.int .i64 d.src,.int .i64 d.dst,.int .i64 d.amount,.int .i64 d.prio]);have VB:=Hx ((FrS.of_ext (S:=fun _=>False) XB.out).own I.out.2 (fun _ _ h=>h));have qo:w3.heap.size<=(wr.alloc (.cells #[.int .i64 d.src,.int .i64 d.dst,.int .i64 d.amount,.int .i64 d.prio] 27)).heap.size:=(I.out.1.tr XB.out).size
      go_wp2_with (at_builtin;refine jz2 _ 29 27 _ 4 32 rfl _ _ rfl Tryz.underlying29 jzcu rfl (by decide) w3.heap.size (.slice AT n cT) n ((turnTo l y n).flatMap Dm.cells) rfl VB.out [.int .i64 d.src,.int .i64 d.dst,.int .i64 d.amount,.int .i64 d.prio] rfl (by simp [Value.oneCell']) wr.heap.size rfl BW.out (by unfold maxLen;omega) (by omega) qo ?_)
      intro g7 c7 qp qf qa qj;have k7:=FrS.of_grown (S:=fun b=>(Value.slice AT n cT).ownBlock=some b) qa fun g e=>e;have K9:=Hx (show Ext w3 qp/\qp.ownsRow w3.heap.size 27 4 (.slice (some ⟨g7,0,none⟩) (n+1) c7) (n+1) ((turnTo l y (n+1)).flatMap Dm.cells)from⟨k7.ext (I.out.1.tr XB.out) fun b hb=>(VB.out.lt b hb).1,by
       rw [jzjd,List.flatMap_append,HD.out];show qp.ownsRow _ _ _ _ _ (_++(d.cells++[]));rw [List.append_nil];exact qf⟩)
      clear qf qa qj k7 VB BW XB qo a0 a1 a2 a3;go_wp2
      go_roundg (l.length-(n+1))
      case measure=>omega
      case rel=>exact⟨n+1,rfl,by omega,by go_num,K9⟩
     ·obtain rfl:n=l.length:=by omega
      obtain⟨gT,c9,qQ,e9,qU,qy,qP,_⟩:=jz9 I.out.2 qg;injection e9 with e1 e2 e3
      subst e1 e3;have qI:=Hx (show wr.ownsRow w3.heap.size 27 4 (.slice (some ⟨gT,0,none⟩) l.length cT) l.length ((turnP l y).flatMap Dm.cells)from I.out.2);have XT:=Hx I.out.1;have TL:=Hx (jzcn l y l.length);have qe:=jzie qg qI.out;have c0:=qe 0 (by decide);have c1:=qe 1 (by decide);have c2:=qe 2 (by decide);have c3:=qe 3 (by decide);have qE:=Hx qy;clear qe qy I;generalize hd0:rotA l y 0=d at*;have qn:=Hx hd0;clear hd0;have j0:wr.cell? ⟨gT,0,none⟩=some (.int .i64 d.src):=c0;have j1:wr.cell? ⟨gT,1,none⟩=some (.int .i64 d.dst):=c1;have j2:wr.cell? ⟨gT,2,none⟩=some (.int .i64 d.amount):=c2;have j3:wr.cell? ⟨gT,3,none⟩=some (.int .i64 d.prio):=c3;clear c0 c1 c2 c3;have va:(0:Int)<(l.length:Int):=(by omega);have XB:=Hx (show Ext wr (wr.alloc (.cells #[.int .i64 d.src,.int .i64 d.dst,.int .i64 d.amount,.int .i64 d.prio] 27))from(Ext.refl wr).alloc _);have BW:=Hx (Blk.new wr 27 #[.int .i64 d.src,.int .i64 d.dst,.int .i64 d.amount,.int .i64 d.prio])
      go_upto_region 11 with fail
      generalize wr.alloc (.cells #[.int .i64 d.src,.int .i64 d.dst,.int .i64 d.amount,.int .i64 d.prio] 27)=W10 at*;generalize hb9:wr.heap.size=b9 at*;clear j0 j1 j2 j3;have x0:=BW.out.cell 0;have x1:=BW.out.cell 1;have x2:=BW.out.cell 2;have x3:=BW.out.cell 3;have qZ:gT<b9:=by
       have:=qE.out.lt;omega
      have qC:=Hx ((FrS.of_ext (S:=fun _=>False) XB.out).own qI.out (fun _ _ h=>h));have qN:=Hx (qE.out.keep XB.out);have qw:=Hx (XT.out.tr XB.out);have TO:=Hx (show TopR w3 t AO co AL cl from(HA.out.1.top g1 g2).keep E3.out.2)
      go_upto_if 56 with fail
      go_cut [7] (fun vT wx=>∃(AF:Option Addr) (cF:Nat),vT=.slice AF (ordP l y).length cF/\Hid (Rd wx AF ((ordP l y).flatMap Dm.cells)/\(ordP l y).length<=cF/\Ext w3 wx))
      case first=>
       by_cases ha:1<d.amount
       ·have d5:decide (1<d.amount)=true:=yO ha
        have q3:d.amount<=1000:=(by rw [<-qn.out];exact G0.out _ (jzdv qg 0));have HO:=Hx (show ordP l y=(turnP l y).set 0 {rotA l y 0 with amount:=d.amount-1}++[⟨d.src,d.dst,1,d.prio⟩] by unfold ordP;rw [qn.out,if_pos ha]);have BP:=Hx (Blk.new W10 27 #[.int .i64 d.src,.int .i64 d.dst,.int .i64 d.amount,.int .i64 d.prio]);have XP:=Hx ((Ext.refl W10).alloc (.cells #[.int .i64 d.src,.int .i64 d.dst,.int .i64 d.amount,.int .i64 d.prio] 27));have qM:b9<W10.heap.size:=BW.out.lt;have qV:w3.heap.size<=W10.heap.size:=qw.out.size;have qS:=Hx (show IntKind.i64.wrap (d.amount-1)=d.amount-1 by rw [IntKind.wrap_i64];omega);clear ha;rw [d5]
        go_upto_region 13 with fail
        generalize W10.alloc (.cells #[.int .i64 d.src,.int .i64 d.dst,.int .i64 d.amount,.int .i64 d.prio] 27)=W11 at*;generalize hb10:W10.heap.size=b10 at*;have z2:=BP.out.frozen 2;have p2:=BP.out.cell 2;have qm:FrS (fun b=>b=b10) W11 (W11.setCell ⟨b10,2,none⟩ (.int .i64 1)):=FrS.of_grown (S:=fun b=>b=b10) (jze W11 b10 2 _) fun y e=>(Option.some.inj e).symm;have qk:=Hx (show Blk (W11.setCell ⟨b10,2,none⟩ (.int .i64 1)) b10 27 #[.int .i64 d.src,.int .i64 d.dst,.int .i64 1,.int .i64 d.prio]/\World.ownsRow (W11.setCell ⟨b10,2,none⟩ (.int .i64 1)) w3.heap.size 27 4 (.slice (some ⟨gT,0,none⟩) l.length cT) l.length ((turnP l y).flatMap Dm.cells)/\Blk (W11.setCell ⟨b10,2,none⟩ (.int .i64 1)) gT 27 qQ/\Ext w3 (W11.setCell ⟨b10,2,none⟩ (.int .i64 1))from
         ⟨BP.out.set_ 2 _,qm.own ((FrS.of_ext (S:=fun _=>False) XP.out).own qC.out (fun _ _ h=>h)) (fun g hg e=>by injection hg with hg;have hg:gT=g:=hg;omega),qm.blk (qN.out.keep XP.out) (by omega),qm.ext (qw.out.tr XP.out) fun b hb=>by omega⟩)
        clear qm
        go_upto_region 14 with fail
        clear z2 p2 x0 x1 x2 x3;generalize W11.setCell ⟨b10,2,none⟩ (.int .i64 1)=W12 at*;have t2:W12.cell? ⟨gT,2,none⟩=some (.int .i64 d.amount):=by
         rw [jzie qg qk.out.2.1 2 (by decide),qn.out];rfl
        have z2:=qk.out.2.2.1.frozen 2;have qO:=qS.out;have qx:FrS (fun b=>b=gT) W12 (W12.setCell ⟨gT,2,none⟩ (.int .i64 (d.amount-1))):=FrS.of_grown (S:=fun b=>b=gT) (jze W12 gT 2 _) fun y e=>(Option.some.inj e).symm;have qh:=Hx (show Blk (W12.setCell ⟨gT,2,none⟩ (.int .i64 (d.amount-1))) b10 27 #[.int .i64 d.src,.int .i64 d.dst,.int .i64 1,.int .i64 d.prio]/\World.ownsRow (W12.setCell ⟨gT,2,none⟩ (.int .i64 (d.amount-1))) w3.heap.size 27 4 (.slice (some ⟨gT,0,none⟩) l.length cT) l.length (((turnP l y).set 0 {rotA l y 0 with amount:=d.amount-1}).flatMap Dm.cells)/\Ext w3 (W12.setCell ⟨gT,2,none⟩ (.int .i64 (d.amount-1)))from
         ⟨qx.blk qk.out.1 (by omega),by rw [turn_set qg];exact jzbi (k:=2) qk.out.2.1 _,qx.ext qk.out.2.2.2 fun b hb=>by omega⟩)
        clear qx
        go_upto_region 15 with fail
        clear t2 z2 qO;generalize W12.setCell ⟨gT,2,none⟩ (.int .i64 (d.amount-1))=W13 at*;have y0:=qh.out.1.cell 0;have y1:=qh.out.1.cell 1;have y2:=qh.out.1.cell 2;have y3:=qh.out.1.cell 3;have XQ:=Hx (show Ext W13 (W13.alloc (.cells #[.int .i64 d.src,.int .i64 d.dst,.int .i64 1,.int .i64 d.prio] 27))from(Ext.refl W13).alloc _);have BQ:=Hx (Blk.new W13 27 #[.int .i64 d.src,.int .i64 d.dst,.int .i64 1,.int .i64 d.prio]);have VB:=Hx ((FrS.of_ext (S:=fun _=>False) XQ.out).own qh.out.2.1 (fun _ _ h=>h));have qo:w3.heap.size<=(W13.alloc (.cells #[.int .i64 d.src,.int .i64 d.dst,.int .i64 1,.int .i64 d.prio] 27)).heap.size:=(qh.out.2.2.tr XQ.out).size
        go_wp2_with (at_builtin;refine jz2 _ 29 27 _ 4 32 rfl _ _ rfl Tryz.underlying29 jzcu rfl (by decide) w3.heap.size (.slice (some ⟨gT,0,none⟩) l.length cT) l.length (((turnP l y).set 0 {rotA l y 0 with amount:=d.amount-1}).flatMap Dm.cells) rfl VB.out [.int .i64 d.src,.int .i64 d.dst,.int .i64 1,.int .i64 d.prio] rfl (by simp [Value.oneCell']) W13.heap.size rfl BQ.out (by unfold maxLen;omega) (by omega) qo ?_)
        intro g7 c7 qF qf qa qj;have k7:=FrS.of_grown (S:=fun b=>(Value.slice (some ⟨gT,0,none⟩) l.length cT).ownBlock=some b) qa fun g e=>e;have qi:(ordP l y).length=l.length+1:=(by rw [HO.out,yQ,yV];show(turnP l y).length+1=_;rw [show(turnP l y).length=l.length from TL.out]);have K9:=Hx (show Rd qF (some ⟨g7,0,none⟩) ((ordP l y).flatMap Dm.cells)/\(ordP l y).length<=c7/\Ext w3 qF from⟨by
         rw [HO.out,List.flatMap_append];exact(jzbb qf).rd,by
         rw [qi];obtain⟨_,_,e9,h9⟩:=jzab qf;injection e9 with _ _ e9
         omega,k7.ext (qh.out.2.2.tr XQ.out) fun b hb=>(VB.out.lt b hb).1⟩)
        have qt:=Hx qi;clear qf qa qj k7 VB BQ XQ qh qk qi y0 y1 y2 y3;go_wp2;go_meet;exact⟨some ⟨g7,0,none⟩,c7,by rw [qt.out],K9⟩
       ·have d5:decide (1<d.amount)=false:=yP ha
        have HO:=Hx (show ordP l y=turnP l y by unfold ordP;rw [qn.out,if_neg ha]);go_wp2;go_meet;rw [HO.out,show(turnP l y).length=l.length from TL.out];exact⟨_,_,rfl,Hx ⟨(jzbb qC.out).rd,qP,qw.out⟩⟩
      case rest=>
       obtain⟨AF,cF,rfl,F0⟩:=hcut;have qY:=ord_len l y;have D9:=Hx (show∀wx,Ext wc wx->DmR wx (ordP l y) AF cF from fun wx hx=>⟨F0.out.2.1,by omega,F0.out.1.keep hx,ord_wf qg HA.out.1.dwf⟩);have XC:=Hx (E3.out.2.tr F0.out.2.2);have T9:=Hx (E3.out.1.keep F0.out.2.2);obtain⟨⟨i0,i1,i2⟩,_⟩:=T9.out.three;clear x0 x1 x2 x3
       go_wp2_with fail
       refine(jza4 t AO co AL cl l AD cd _ ((HA.out.1.top g1 g2).keep XC.out) ((HA.out.1.dem g3).keep XC.out) HF.out g1 g3 hN (HA.out.2.keep XC.out)).mono ?_;rintro e w5 ⟨a,qL,na,A1,n1,c1,A2,n2,c2,rfl,ha,has,qB,x5⟩;have B5:=Hx (Blk.new w5 35 #[.bool na,.slice A1 n1 c1,.slice A2 n2 c2]);have X5:=Hx (x5.alloc (.cells #[.bool na,.slice A1 n1 c1,.slice A2 n2 c2] 35));have R5:=Hx (And.intro ha (And.intro has (qB.keep ((Ext.refl w5).alloc (.cells #[.bool na,.slice A1 n1 c1,.slice A2 n2 c2] 35)))));clear ha has qB x5 i0 i1 i2
       go_upto_region 17 with fail
       generalize w5.alloc (.cells #[.bool na,.slice A1 n1 c1,.slice A2 n2 c2] 35)=W6 at*;generalize hb5:w5.heap.size=b5 at*;obtain⟨⟨i0,i1,i2⟩,_⟩:=(T9.out.keep X5.out).three;obtain⟨no,qA⟩:∃no,(ordP l y).length=no:=⟨_,rfl⟩;have qG:=Hx (show∀wx,Ext wc wx->Calls Tryz.prog 18 #[.agg #[.int .i64 t.nodes,.slice AO t.over.length co,.slice AL t.links.length cl],.slice AF (ordP l y).length cF] wx (ValPost wx t (ordP l y))from fun wx hx=>jza4 t AO co AL cl (ordP l y) AF cF wx ((HA.out.1.top g1 g2).keep (XC.out.tr hx)) (D9.out wx hx) (ord_fit HF.out) g1 (by omega) hN (HA.out.2.keep (XC.out.tr hx)));rw [qA]at qG;rw [qA]
       go_wp2_with fail
       refine(qG.out _ X5.out).mono ?_;rintro e w7 ⟨b,q6,nb,G1,u1,v1,G2,u2,v2,rfl,hb,qD,qK,x7⟩;obtain⟨rfl,rfl⟩:=order_law HF.out (ord_fit HF.out) (jzmo qg) R5.out.1 hb;have B8:=Hx (Blk.new w7 35 #[.bool nb,.slice G1 u1 v1,.slice G2 u2 v2]);have X8:=Hx (x7.alloc (.cells #[.bool nb,.slice G1 u1 v1,.slice G2 u2 v2] 35));have R8:=Hx (qK.keep ((Ext.refl w7).alloc (.cells #[.bool nb,.slice G1 u1 v1,.slice G2 u2 v2] 35)));have SZ:=Hx qD;clear hb qD qK x7 i0 i1 i2
       go_upto_region 18 with fail
       generalize w7.alloc (.cells #[.bool nb,.slice G1 u1 v1,.slice G2 u2 v2] 35)=W8 at*;generalize hb7:w7.heap.size=b7 at*;have q0:=(B5.out.keep X8.out).cell 0;have q1:=(B5.out.keep X8.out).cell 1;have q2:=(B5.out.keep X8.out).cell 2;have p0:=B8.out.cell 0;have p1:=B8.out.cell 1;have p2:=B8.out.cell 2;obtain⟨l1,q5⟩:=R5.out.2.2.lens SZ.out;obtain⟨l2,q4⟩:=R8.out.lens SZ.out;have d9:(qL==qL)=true:=by simp
       go_wp2_with fail
       refine(jz4 na nb A1 n1 c1 A2 n2 c2 G1 u1 v1 G2 u2 v2 a a _ (R5.out.2.2.keep X8.out) R8.out (by omega) (by omega) (by omega) (by omega)).mono ?_;rintro e w9 ⟨rfl,x9⟩;have hz:cmpQ a a=0:=(jzas _ _).2 rfl;have X9:=Hx (XC.out.tr ((X5.out.tr X8.out).tr x9));clear x9;rw [hz];go_wp2;go_ret;exact⟨rfl,X9.out⟩
end Go.Proofs.YthbmikapohlikaaGreatDoor
namespace Go.Proofs.YthbmikapohlikaaGreatDoor
open Go.RowKit Go.ChangeShapes Go.WideShapes Go.Deep
section
variable {H:Type} {enc:TypeId×Value->H} {w:World} {base:Nat} {spare:Nat->Bool} {held:Bool}
theorem open_u8{v:Value}{d:DataW H}{p:List MemPlace}{r:Reach}{b0:Nat}(hv:Value.okWide Tryz.prog w r b0 5 v)(h:DataW.Trod enc Tryz.prog w base spare held 5 v d p):∃y:Nat,y<=255/\v=.int .u8 (y:Int):=by
 obtain⟨n,rfl⟩:=okWide_int Tryz.underlying5 hv;obtain⟨qa,hf⟩:=h;obtain⟨x,e,_,hw⟩:=DataW.trod_int Tryz.underlying5 hf;simp [Value.cells]at e;subst e;simp [Lit.wf,IntKind.min,IntKind.max,IntKind.signed,IntKind.bits]at hw;refine⟨n.toNat,by omega,?_⟩;rw [show((n.toNat:Nat):Int)=n by omega]
end
end Go.Proofs.YthbmikapohlikaaGreatDoor
