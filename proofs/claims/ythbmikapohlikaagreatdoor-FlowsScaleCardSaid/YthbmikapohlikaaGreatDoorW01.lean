/- Part 1 of 2 of what this claim adds (the white space is struck, the texts are joined). -/
import Derived.Test.YthbmikapohlikaaGreatDoorZ24
set_option linter.unusedVariables false
set_option linter.unusedSimpArgs false
set_option maxRecDepth 100000
set_option maxHeartbeats 8000000
namespace Go.Proofs.YthbmikapohlikaaGreatDoor
namespace Sx
section
variable {α:Type}
theorem ls_map{β:Type}(g:β->α)(f:α->Rat):∀l:List β,ls f (l.map g)=ls (fun b=>f (g b)) l
 | []=>rfl
 |a::l=>by
  show f (g a)+ls f (l.map g)=f (g a)+_;rw [ls_map g f l]
end
end Sx
open Go.RowKit
open Sx
section
variable {t t':Tp} {l l':List Dm} {v v':Rat} {Z Z':List ((Nat×List Nat)×Rat)} {pr pr':List Rat}
end
structure SameG(t t':Tp):Prop where
 nodes:t'.nodes=t.nodes
 over:t'.over=t.over
 len:t'.links.length=t.links.length
 ends:∀(i:Nat) (x y:Lk),t.links[i]?=some x->t'.links[i]?=some y->y.a=x.a/\y.b=x.b
section
variable {t t':Tp}
theorem SameG.symm(h:SameG t t'):SameG t' t:=⟨h.nodes.symm,h.over.symm,h.len.symm,fun i x y hx hy=>⟨(h.ends i y x hy hx).1.symm,(h.ends i y x hy hx).2.symm⟩⟩
theorem SameG.head(h:SameG t t')(a:Nat):headP t' a=headP t a:=by
 unfold headP;by_cases ha:a/2<t.links.length
 ·have qa:a/2<t'.links.length:=by rw [h.len];exact ha
  obtain⟨e1,e2⟩:=h.ends (a/2) _ _ (yG ha) (yG qa);rw [yG ha,yG qa];simp only [e1,e2]
 ·have e1:t.links[a/2]?=none:=yI (by omega)
  have e2:t'.links[a/2]?=none:=yI (by rw [h.len];omega);rw [e1,e2]
theorem SameG.tail(h:SameG t t')(a:Nat):tailP t' a=tailP t a:=by
 unfold tailP;by_cases ha:a/2<t.links.length
 ·have qa:a/2<t'.links.length:=by rw [h.len];exact ha
  obtain⟨e1,e2⟩:=h.ends (a/2) _ _ (yG ha) (yG qa);rw [yG ha,yG qa];simp only [e1,e2]
 ·have e1:t.links[a/2]?=none:=yI (by omega)
  have e2:t'.links[a/2]?=none:=yI (by rw [h.len];omega);rw [e1,e2]
theorem SameG.leav(h:SameG t t')(n:Nat):leavP t' n=leavP t n:=by
 unfold leavP leavTo;rw [h.len];exact List.filter_congr fun a _=>by rw [h.tail]
theorem SameG.overP(h:SameG t t')(n:Int):overP t' n=Go.Proofs.YthbmikapohlikaaGreatDoor.overP t n:=by
 unfold Go.Proofs.YthbmikapohlikaaGreatDoor.overP;rw [h.over]
theorem SameG.po(h:SameG t t'):∀(x:List Nat) (u:Nat) (first:Bool) (v:Nat),PO t u first x v->PO t' u first x v
 | [],_,_,_,hp=>hp
 |a::x,u,first,v,hp=>by
  obtain⟨h1,h2,h3⟩:=hp;refine⟨by rw [h.leav];exact h1,by rw [h.overP];exact h2,?_⟩;rw [h.head];exact SameG.po h x _ _ _ h3
theorem SameG.nds(h:SameG t t')(x:List Nat)(u:Nat):nds t' u x=Go.Proofs.YthbmikapohlikaaGreatDoor.nds t u x:=by
 rw [jzcg,jzcg];simp only [h.head]
theorem SameG.lpl(h:SameG t t'){s d:Nat}{x:List Nat}(hx:Lpl t s d x):Lpl t' s d x:=⟨h.po _ _ _ _ hx.1,by rw [h.nds];exact hx.2⟩
theorem SameG.chQ(h:SameG t t')(hv:validP t=true)(hv':validP t'=true){pr:List Rat}(hl:pr.length=2*t.links.length)(hn:∀q∈pr,0<=q){s d:Nat}(hs:s<t.nodes.toNat)(hd:d<t.nodes.toNat):chQ t' pr s d=Go.Proofs.YthbmikapohlikaaGreatDoor.chQ t pr s d:=by
 unfold Go.Proofs.YthbmikapohlikaaGreatDoor.chQ;have qa:pr.length=2*t'.links.length:=(by rw [h.len];exact hl);rcases jzdq hv (jzah hl hn) hs hd with⟨x,e1,e2,e3⟩|⟨e1,e2⟩
 ·rcases jzdq hv' (jzah qa hn) (by rw [h.nodes];exact hs) (by rw [h.nodes];exact hd)with⟨y,k1,k2,k3⟩|⟨k1,k2⟩
  ·rw [e1,k1]
   exact Rat.le_antisymm (k3 _ (h.lpl e2)) (e3 _ (h.symm.lpl k2))
  ·exact absurd (h.lpl e2) (k2 _)
 ·rcases jzdq hv' (jzah qa hn) (by rw [h.nodes];exact hs) (by rw [h.nodes];exact hd)with⟨y,k1,k2,k3⟩|⟨k1,k2⟩
  ·exact absurd (h.symm.lpl k2) (e2 _)
  ·rw [e1,k1]
theorem Fit.mem{l:List Dm}(hf:Fit t l){x:Dm}(hx:x∈l):x.src.toNat<t.nodes.toNat/\x.dst.toNat<t.nodes.toNat:=by
 obtain⟨d,hd,rfl⟩:=List.mem_iff_getElem.1 hx;obtain⟨h1,h2,_,h3,h4⟩:=hf.nodes hd;rw [h3,h4];exact⟨by simpa using h1,by simpa using h2⟩
theorem SameG.needL(h:SameG t t'){l:List Dm}(hf:Fit t l)(hv':validP t'=true){pr:List Rat}(hl:pr.length=2*t.links.length)(hn:∀q∈pr,0<=q):needL t' l pr=Go.Proofs.YthbmikapohlikaaGreatDoor.needL t l pr:=by
 unfold Go.Proofs.YthbmikapohlikaaGreatDoor.needL;exact jzap fun x hx=>by
  obtain⟨h1,h2⟩:=hf.mem hx;unfold dchQ;rw [h.chQ hf.v hv' hl hn h1 h2]
end
theorem SameG.connL{t t':Tp}(h:SameG t t'){l:List Dm}(hc:connL t l):Go.Proofs.YthbmikapohlikaaGreatDoor.connL t' l:=fun x hx=>by
 obtain⟨y,hy⟩:=hc x hx;exact⟨y,h.lpl hy⟩
theorem jzmc{t t':Tp}{c:Rat}(hL:t'.links.length=t.links.length)(h:∀a,a<2*t.links.length->capQ t' a=c*capQ t a)(pr:List Rat):worthL t' pr=c*worthL t pr:=by
 unfold worthL;rw [<-jzbj,hL];exact sm_congr _ fun a ha=>by rw [h a ha];grind
theorem scale_law{t t':Tp}{l l':List Dm}{f:Nat}(hf0:1<=f)(hf:Fit t l)(hv':validP t'=true)(hg:SameG t t')(hc:∀a,a<2*t.links.length->capQ t' a=(f:Rat)*capQ t a)
  (hl':l'=l.map fun x=>{x with amount:=x.amount*(f:Int)}) (hf':Fit t l') {a b c:Rat} {ok is too:Bool} (ha:ValR t l a ok) (hb:ValR t' l b is) (hcc:ValR t l' c too):ok=is/\ok=too/\a*(f:Rat)=b/\c*(f:Rat)=a:=by
 have hF:(0:Rat)<(f:Rat):=(by exact_mod_cast (show(0:Int)<(f:Int) by omega));have qg:Fit t' l:=⟨hv',hf.n,fun x hx=>by rw [hg.nodes];exact hf.ok x hx⟩;have qe:connL t l↔connL t' l:=⟨hg.connL,hg.symm.connL⟩;have qa:connL t l↔connL t l':=by
  rw [hl'];constructor
  ·intro h y hy
   obtain⟨x,hx,rfl⟩:=List.mem_map.1 hy;exact h x hx
  ·intro h x hx
   exact h {x with amount:=x.amount*(f:Int)} (List.mem_map.2 ⟨x,hx,rfl⟩)
 have hn:∀pr,needL t l' pr=(f:Rat)*needL t l pr:=fun pr=>by
  unfold needL;rw [hl',ls_map, <-jzgo];refine jzap fun x _=>?_;unfold dchQ;simp only [Rat.intCast_mul,Rat.intCast_natCast];grind
 have hw:=jzmc hg.len hc;rcases ha with⟨rfl,Z,pr,ha⟩|⟨rfl,rfl,ha⟩
 ·rcases hb with⟨rfl,Z',pr',hb⟩|⟨rfl,rfl,hb⟩
  ·rcases hcc with⟨rfl,Z2,pr2,hcc⟩|⟨rfl,rfl,hcc⟩
   ·have l1:pr'.length=2*t.links.length:=by rw [hb.plen,hg.len]
    have n1:=hg.needL hf hv' l1 hb.pnn;have n2:=hg.needL hf hv' ha.plen ha.pnn;have qf:=vB hF;have h1:=ha.le hf hb hg.len (α:=(f:Rat)) (β:=1) (γ:=(f:Rat)) qf qf (by rw [n1]) (by rw [hw,Rat.one_mul];exact vC);have h2:=hb.le qg ha hg.len.symm (α:=1) (β:=(f:Rat)) (γ:=1) (by decide) (by decide) (by rw [n2]) (by rw [hw,Rat.one_mul];exact vC);have h3:=ha.le hf hcc rfl (α:=1) (β:=(f:Rat)) (γ:=(f:Rat)) (by decide) qf (by rw [hn,Rat.one_mul]) vC;have h4:=hcc.le hf' ha rfl (α:=(f:Rat)) (β:=1) (γ:=1) qf (by decide) (by rw [hn,Rat.one_mul]) vC;exact⟨rfl,rfl,by grind,by grind⟩
   ·exact absurd (qa.1 ha.connL) hcc
  ·exact absurd (qe.1 ha.connL) hb
 ·rcases hb with⟨rfl,Z',pr',hb⟩|⟨rfl,rfl,hb⟩
  ·exact absurd (qe.2 hb.connL) ha
  ·rcases hcc with⟨rfl,Z2,pr2,hcc⟩|⟨rfl,rfl,hcc⟩
   ·exact absurd (qa.2 hcc.connL) ha
   ·exact⟨rfl,rfl,by grind,by grind⟩
theorem SameG.of_not{t t':Tp}(hg:SameG t t'){l:List Dm}{b:Rat}{ok:Bool}(hn:¬Go.Proofs.YthbmikapohlikaaGreatDoor.connL t l)(hb:ValR t' l b ok):ok=false:=by
 rcases hb with⟨_,Z',pr',hb⟩|⟨h,_⟩
 ·exact absurd (hg.symm.connL hb.connL) hn
 ·exact h
def ValPost(w:World)(t:Tp)(l:List Dm)(e:Ending)(w':World):Prop:=
 ∃(v:Rat) (ok:Bool) (neg:Bool) (A1:Option Addr) (n1 c1:Nat) (A2:Option Addr) (n2 c2:Nat),e=.returned (.tuple #[.agg #[.bool neg,.slice A1 n1 c1,.slice A2 n2 c2],.bool ok])/\ValR t l v ok/\SzQ v 20/\RatR w' neg A1 n1 c1 A2 n2 c2 v/\Ext w w'
theorem jza4(t:Tp)(AO:Option Addr)(co:Nat)(AL:Option Addr)(cl:Nat)(l:List Dm)(AD:Option Addr)(cd:Nat)(w:World)(ht:TopR w t AO co AL cl)(hd:DmR w l AD cd)(hf:Fit t l)(hl:t.links.length<=10)(hD:l.length<=4)(hN:t.nodes<=7)(qg:Tab w):
  Calls Tryz.prog 18 #[.agg #[.int .i64 t.nodes,.slice AO t.over.length co,.slice AL t.links.length cl],.slice AD l.length cd] w (ValPost w t l):=by
 have HT:=Hx (And.intro ht (And.intro hd (And.intro hf (And.intro qg hN))));have qm:=ht.ll;obtain⟨qa,qh,e0⟩:=boxes2 w #[.int .i64 t.nodes,.slice AO t.over.length co,.slice AL t.links.length cl] 25 #[.bool false,.slice none 0 0,.slice none 0 0] 35;obtain⟨⟨i0,i1,i2⟩,_⟩:=qa.three;have E0:=Hx (And.intro qa (And.intro qh e0));clear ht hd hf qg hN qa qh e0
 go_enter Tryz.func18,Tryz.ntmps18
 go_upto_region 1 with fail
 have qn:((w.alloc (.cells #[.int .i64 t.nodes,.slice AO t.over.length co,.slice AL t.links.length cl] 25)).alloc (.cells #[.bool false,.slice none 0 0,.slice none 0 0] 35)).heap.size=w.heap.size+2:=(by simp);generalize (w.alloc (.cells #[.int .i64 t.nodes,.slice AO t.over.length co,.slice AL t.links.length cl] 25)).alloc (.cells #[.bool false,.slice none 0 0,.slice none 0 0] 35)=W0 at*
 go_wp2_with fail
 refine(jze9 t AO co AL cl l AD cd _ (HT.out.1.keep E0.out.2.2) (HT.out.2.1.keep E0.out.2.2) hl hD (fun _=>HT.out.2.2.2.2) (HT.out.2.2.2.1.keep E0.out.2.2)).mono ?_;intro e w1 hp;obtain⟨v,ok,neg,A1,n1,c1,A2,n2,c2,P1,m1,k1,P2,m2,k2,ec,rfl,qk,hv,qf,qi,hx⟩:=hp.val HT.out.2.2.1 hD;have B6:=Hx (Blk.new w1 39 #[.bool neg,.slice A1 n1 c1,.slice A2 n2 c2,.slice P1 m1 k1,.slice P2 m2 k2]);have X6:=Hx ((Ext.refl w1).alloc (.cells #[.bool neg,.slice A1 n1 c1,.slice A2 n2 c2,.slice P1 m1 k1,.slice P2 m2 k2] 39));have BR:=Hx ((E0.out.2.1.keep hx).keep X6.out);have F6:=Hx (And.intro hv (And.intro qf (And.intro (qi.keep X6.out) ((E0.out.2.2.tr hx).tr X6.out))));have XS:=Hx hx;clear hp hv qf qi hx i0 i1 i2;have qj:(ec==0)=ok:=qk
 go_upto_region 2 with fail
 generalize w1.alloc (.cells #[.bool neg,.slice A1 n1 c1,.slice A2 n2 c2,.slice P1 m1 k1,.slice P2 m2 k2] 39)=W6 at*;have p0:=B6.out.cell 0;have p1:=B6.out.cell 1;have p2:=B6.out.cell 2;obtain⟨_,z0,z1,z2⟩:=BR.out.three;have Q3:=Hx (((BR.out.set_ 0 (.bool neg)).set_ 1 (.slice A1 n1 c1)).set_ 2 (.slice A2 n2 c2));have hg:=grown3 W6 (w.heap.size+1) 0 (.bool neg) (.slice A1 n1 c1) (.slice A2 n2 c2);have k3:FrS (fun b=>b=w.heap.size+1) W6 (((W6.setCell ⟨w.heap.size+1,0,none⟩ (.bool neg)).setCell ⟨w.heap.size+1,1,none⟩ (.slice A1 n1 c1)).setCell ⟨w.heap.size+1,2,none⟩ (.slice A2 n2 c2)):=FrS.of_grown hg fun g e=>(by injection e with e;exact e.symm);have qe:=Hx (show RatR (((W6.setCell ⟨w.heap.size+1,0,none⟩ (.bool neg)).setCell ⟨w.heap.size+1,1,none⟩ (.slice A1 n1 c1)).setCell ⟨w.heap.size+1,2,none⟩ (.slice A2 n2 c2)) neg A1 n1 c1 A2 n2 c2 v/\Ext w (((W6.setCell ⟨w.heap.size+1,0,none⟩ (.bool neg)).setCell ⟨w.heap.size+1,1,none⟩ (.slice A1 n1 c1)).setCell ⟨w.heap.size+1,2,none⟩ (.slice A2 n2 c2))from
  ⟨F6.out.2.2.1.other hg BR.out (by decide),k3.ext F6.out.2.2.2 fun b hb=>by omega⟩)
 clear k3 hg;go_wp2;have q3:=Q3.out;exact bodyPost_ret (v:=.tuple #[.agg #[.bool neg,.slice A1 n1 c1,.slice A2 n2 c2],.bool ok]) (by simp [results,Tryz.results18,go_sem,q3.cell]) rfl ⟨v,ok,neg,A1,n1,c1,A2,n2,c2,rfl,F6.out.1,F6.out.2.1,qe.out.1,qe.out.2⟩
end Go.Proofs.YthbmikapohlikaaGreatDoor
namespace Go.Proofs.YthbmikapohlikaaGreatDoor
open Go.RowKit
section
variable {P:Program} (w:World)
theorem jzck(B s:Nat)(e:TypeId)(hB:B<=w.heap.size):(w.alloc (.cells #[] e)).ownsRow B e s (.slice (some ⟨w.heap.size,0,none⟩) 0 0) 0 []:=
 World.ownsRow_made w #[] 0 hB (by decide) (by simp)
theorem jzfg(base:Nat)(t ty e:TypeId)(i:TypeInfo)(z:Value)(sz bytes:Nat)(ht:P.underlying t=some (.slice e))(hi:P.info? e=some i)(hz:i.zero=some z)
  (hsize:i.size=sz) (hby:i.bytes=bytes) (hzs:z.cells.size=sz) (hsz:0<sz)
  (v:Value) (n:Nat) (xs:List Value) (hown:w.ownsRow base e sz v n xs)
  (A:Option Addr) (m c:Nat) (news:List Value) (hm:news.length=m*sz) (hr:Rd w A news) (hA:A=none->m=0) (h1:∀u∈news,u.oneCell'=true)
  (h63:n+m<=maxLen) (hbytes:(n+m)*bytes<=140737488355328) (hbase:base<=w.heap.size):
  ∃v' w',(Builtin.append_ #[t,t] ty #[v,.slice A m c]).run P w=.ok v' w'/\w'.ownsRow base e sz v' (n+m) (xs++news)/\w.grownBy w' v.ownBlock/\
   (v'.ownBlock=v.ownBlock\/v'.ownBlock=some w.heap.size):=by
 rcases A with _|ad
 ·have qf:m=0:=hA rfl
  subst qf;have hn:news=[]:=List.eq_nil_of_length_eq_zero (by omega);subst hn;refine⟨v,w,?_,by simpa using hown,World.grownBy.refl w _,.inl rfl⟩;rcases hown.2 with⟨rfl,rfl⟩|⟨g,cap,cur,rfl,_,_,hnc,_⟩
  ·simp [Builtin.append_,run_underlying ht,sizeOf,typeInfo,hi,Builtin.lenOf,Builtin.firstCells]
  ·simp [Builtin.append_,run_underlying ht,sizeOf,typeInfo,hi,Builtin.lenOf,Builtin.firstCells,hnc,storeCells]
 ·have qa:∀j u,news[j]?=some u->w.cell? (ad.add j)=some u:=by
   intro j u hu;have hj:j<news.length:=(yH.1 hu).1;obtain⟨b,o,he,_,hc⟩:=hr.at_ hj;injection he with he
   subst he;rw [jzcp,hc j hj,hu]
  obtain⟨v',w',qe,h2,h3,_,h5⟩:=run_append_own_at (P:=P) w base t ty e i z sz bytes ht hi hz hsize hby hzs hsz v n xs hown ad m c news hm qa h1 h63 hbytes hbase;exact⟨v',w',qe,h2,h3,h5⟩
theorem jzbc{ops:Array Oper}{rest:List Oper}{o:Oper}{a:Act}{Q:Exit->Act->World->Prop}(t e:TypeId)(z:Value)(sz bytes:Nat)(hgd:o.guard=none)(s x:Operand)
  (ho:o.op=.call {callee:=.builtin .append,args:=#[s,x],argTypes:=#[t,t]})
  (ht:P.underlying t=some (.slice e)) (hinfo:(P.info? e).map (fun i=>(i.zero,i.size,i.bytes))=some (some z,sz,bytes)) (hzs:z.cells.size=sz) (hsz:0<sz)
  (base:Nat) (v:Value) (n:Nat) (xs:List Value) (hs:a.eval s=v) (hown:w.ownsRow base e sz v n xs)
  (A:Option Addr) (m c:Nat) (news:List Value) (hx:a.eval x=.slice A m c) (hm:news.length=m*sz) (hr:Rd w A news) (hA:A=none->m=0) (h1:∀u∈news,u.oneCell'=true)
  (h63:n+m<=maxLen) (hbytes:(n+m)*bytes<=140737488355328) (hbase:base<=w.heap.size)
  (h:∀v' w',w'.ownsRow base e sz v' (n+m) (xs++news)->w.grownBy w' v.ownBlock->(v'.ownBlock=v.ownBlock\/v'.ownBlock=some w.heap.size)->wpList P ops Q rest (a.put o.dst v') w'):wpList P ops Q (o::rest) a w:=
 wpList_plain hgd fun _ hK=>by
  obtain⟨ti,hi,qg,qe,qf⟩:=info_parts hinfo;obtain⟨v',w',qa,h2,h3,h4⟩:=jzfg (P:=P) w base t o.type e ti z sz bytes ht hi qg qe qf hzs hsz v n xs hown A m c news hm hr hA h1 h63 hbytes hbase;unfold Oper.wp execOp;simp only [ho,resolve,invoke,builtin,Sem.run_bind,Sem.run_pure,Result.andThen_ok,List.map_toArray,List.map_cons,List.map_nil,hs,hx,qa];exact hK _ _ (h v' w' h2 h3 h4)
end
theorem lk_one(l:List Lk):∀u∈l.flatMap Lk.cells,u.oneCell'=true:=by
 intro u hu;obtain⟨x,_,hx⟩:=List.mem_flatMap.1 hu;simp only [Lk.cells,xZ,List.not_mem_nil,or_false]at hx;rcases hx with rfl|rfl|rfl|rfl|rfl|rfl|rfl <;> rfl
theorem jzi9(l:List Lk):(l.flatMap Lk.cells).length=l.length*7:=by
 induction l with
 |nil=>rfl
 |cons y l ih=>rw [xU,yQ,ih,List.length_cons,xP];show 7+_=_;omega
open Sx
section
variable {t:Tp} {i y:Nat}
end
theorem jzb4(f:Lk->Lk)(c:Int):∀(l:List Lk) (i:Nat) {x:Lk},l[i]?=some x->f x={x with cap:=c}->(l.modify i f).flatMap Lk.cells=(l.flatMap Lk.cells).set (i*7+4) (.int .i64 c)
 | [],i,x,h,_=>by simp at h
 |y::l,0,x,h,hf=>by
  injection h with h
  subst h;rw [show(y::l).modify 0 f=f y::l from rfl,xU,xU,hf];rfl
 |y::l,i+1,x,h,hf=>by
  rw [show(y::l).modify (i+1) f=y::l.modify i f from rfl,xU,xU,jzb4 f c l i h hf,List.set_append_right _ _ (by show 7<=_;omega)]
  congr 2
  show i*7+4=(i+1)*7+4-7;omega
section
variable {l:List Dm} {k:Nat}
end
def capTo(f:Nat)(n:Nat)(l:List Lk):List Lk:=(l.take n).map (fun x=>{x with cap:=x.cap*(f:Int)})++l.drop n
def scaleT(t:Tp)(f:Nat):Tp:=⟨t.nodes,t.over,t.links.map fun x=>{x with cap:=x.cap*(f:Int)}⟩
def scaleD(l:List Dm)(f:Nat):List Dm:=l.map fun x=>{x with amount:=x.amount*(f:Int)}
theorem jzmp(f:Nat)(l:List Lk):capTo f 0 l=l:=by unfold capTo;simp
theorem capTo_all(t:Tp)(f:Nat):capTo f t.links.length t.links=(scaleT t f).links:=by unfold capTo scaleT;simp
theorem capTo_len(f n:Nat)(l:List Lk):(capTo f n l).length=l.length:=by
 unfold capTo;rw [yQ,xV,xF,List.length_drop];omega
theorem jzid{f n:Nat}{l:List Lk}{x:Lk}(h:l[n]?=some x):(capTo f n l)[n]?=some x:=by
 have hn:=(yH.1 h).1;unfold capTo;rw [yS (by rw [xV,xF];omega),xV,xF,List.getElem?_drop,show n+(n-min n l.length)=n by omega];exact h
theorem jzgc:∀(f n:Nat) (l:List Lk) {x:Lk},l[n]?=some x->capTo f (n+1) l=(capTo f n l).modify n fun y=>{y with cap:=x.cap*(f:Int)}
 |f,n,[],x,h=>by simp at h
 |f,0,y::l,x,h=>by
  injection h with h
  subst h;rfl
 |f,n+1,y::l,x,h=>by
  have ih:=jzgc f n l (show l[n]?=some x from h);unfold capTo at ih⊢;rw [List.take_succ_cons,List.take_succ_cons,List.drop_succ_cons,List.drop_succ_cons,List.map_cons,List.map_cons,List.cons_append,List.cons_append,ih];rfl
theorem jzef(t:Tp)(f:Nat):SameG t (scaleT t f):=⟨rfl,rfl,by unfold scaleT;simp,fun j x x' hx hx'=>by
 unfold scaleT at hx';rw [yW,hx]at hx';injection hx' with hx'
 subst hx';exact⟨rfl,rfl⟩⟩
theorem jzmq{t:Tp}{f:Nat}(a:Nat):capQ (scaleT t f) a=(f:Rat)*capQ t a:=by
 unfold capQ scaleT;simp only [yW];cases t.links[a/2]? with
 |none=>simp
 |some x=>simp only [Option.map_some,Rat.intCast_mul,Rat.intCast_natCast];grind
theorem jzmr{t:Tp}{l:List Dm}{f:Nat}(hf:Fit t l)(h1:1<=f)(h5:f<=5)(ha:∀x∈l,x.amount<=1000):Fit t (scaleD l f):=by
 refine⟨hf.v,by unfold scaleD;rw [xV];exact hf.n,fun y hy=>?_⟩;obtain⟨x,hx,rfl⟩:=List.mem_map.1 hy;have h2:=hf.ok x hx;have h3:=ha x hx;unfold Dm.ok inB at h2⊢;simp at h2⊢;have h4:x.amount*1<=x.amount*(f:Int):=Int.mul_le_mul_of_nonneg_left (by omega) (by omega);have h6:x.amount*(f:Int)<=x.amount*5:=Int.mul_le_mul_of_nonneg_left (by omega) (by omega);refine⟨⟨⟨⟨h2.1.1.1.1,h2.1.1.1.2⟩,h2.1.1.2⟩,by omega,by omega⟩,h2.2⟩
end Go.Proofs.YthbmikapohlikaaGreatDoor
namespace Go.Proofs.YthbmikapohlikaaGreatDoor
open Go.RowKit
theorem jzcu:(Tryz.prog.info? 27).map (fun i=>(i.zero,i.size,i.bytes))=some (some (.agg #[.int .i64 0,.int .i64 0,.int .i64 0,.int .i64 0]),4,32):=by kernel_rfl
end Go.Proofs.YthbmikapohlikaaGreatDoor
namespace Go.Proofs.YthbmikapohlikaaGreatDoor
open Go.RowKit Go.ChangeShapes Go.WideShapes Go.Deep
section
variable {H:Type} {enc:TypeId×Value->H} {w:World} {base:Nat} {spare:Nat->Bool} {held:Bool}
theorem open_u8{v:Value}{d:DataW H}{p:List MemPlace}{r:Reach}{b0:Nat}(hv:Value.okWide Tryz.prog w r b0 5 v)(h:DataW.Trod enc Tryz.prog w base spare held 5 v d p):∃y:Nat,y<=255/\v=.int .u8 (y:Int):=by
 obtain⟨n,rfl⟩:=okWide_int Tryz.underlying5 hv;obtain⟨qa,hf⟩:=h;obtain⟨x,e,_,hw⟩:=DataW.trod_int Tryz.underlying5 hf;simp [Value.cells]at e;subst e;simp [Lit.wf,IntKind.min,IntKind.max,IntKind.signed,IntKind.bits]at hw;refine⟨n.toNat,by omega,?_⟩;rw [show((n.toNat:Nat):Int)=n by omega]
end
end Go.Proofs.YthbmikapohlikaaGreatDoor
namespace Go.Proofs.YthbmikapohlikaaGreatDoor
open Go.RowKit
theorem jzjf(t:Tp)(AO:Option Addr)(co:Nat)(AL:Option Addr)(cl:Nat)(l:List Dm)(AD:Option Addr)(cd:Nat)(y:Nat)(hy:y<=255)(w:World)(h:ArgF w t AO co AL cl l AD cd)(vp:Tab w):
  Calls Tryz.prog 4 #[.agg #[.int .i64 t.nodes,.slice AO t.over.length co,.slice AL t.links.length cl],.slice AD l.length cd,.int .u8 (y:Int)] w fun e w'=>e=.returned (.bool true)/\Ext w w':=by
 have v3:=h.ld;have v6:=h.lm;have HA:=Hx (And.intro h vp);obtain⟨vm,e0⟩:=boxes1 w #[.int .i64 t.nodes,.slice AO t.over.length co,.slice AL t.links.length cl] 25;have E0:=Hx (And.intro vm e0);clear h vp vm e0
 go_enter Tryz.func4,Tryz.ntmps4
 go_wp2_with fail
 refine(jzci _ (HA.out.2.keep E0.out.2)).mono ?_;rintro e w1 ⟨rfl,x1⟩;have E1:=Hx (And.intro (E0.out.1.keep x1) (E0.out.2.tr x1));clear x1 E0;obtain⟨⟨i0,i1,i2⟩,_⟩:=E1.out.1.three
 go_wp2_with fail
 refine(jzcj t AO co AL cl l AD cd _ (HA.out.1.keep E1.out.2)).mono ?_;rintro e w2 ⟨rfl,x2⟩;have E2:=Hx (And.intro (E1.out.1.keep x2) (E1.out.2.tr x2));clear x2 E1 i0 i1 i2;cases hs:smallF t l
 case false=>
  go_wp2;go_ret;exact⟨rfl,E2.out.2⟩
 case true=>
  obtain⟨g0,g1,g2,g3,g5⟩:=jzcm.1 hs;have G0:=Hx g0;have G5:=Hx g5;clear g0 g5 hs;obtain⟨⟨i0,i1,i2⟩,_⟩:=E2.out.1.three
  go_wp2_with fail
  refine(jzc7 t AO co AL cl l AD cd _ ((HA.out.1.keep E2.out.2).top g1 g2) ((HA.out.1.keep E2.out.2).dem g3)).mono ?_;rintro e w3 ⟨rfl,x3⟩;have E3:=Hx (And.intro (E2.out.1.keep x3) (E2.out.2.tr x3));clear x3 E2 i0 i1 i2;cases hf:fitP t l
  case false=>
   go_wp2;go_ret;exact⟨rfl,E3.out.2⟩
  case true=>
   have HF:=Hx ((jza0 (show l.length<=64 by omega)).1 hf);have hN:t.nodes<=7:=G5.out HF.out.v;have v7:=HF.out.n;clear hf;obtain⟨⟨i0,i1,i2⟩,_⟩:=E3.out.1.three
   go_wp2_with fail
   refine(jza4 t AO co AL cl l AD cd _ ((HA.out.1.top g1 g2).keep E3.out.2) ((HA.out.1.dem g3).keep E3.out.2) HF.out g1 g3 hN (HA.out.2.keep E3.out.2)).mono ?_;obtain⟨f,vK⟩:∃f,f=1+y%5:=⟨_,rfl⟩;have qU:1<=f:=(by omega);have vL:f<=5:=(by omega);rw [show(1:Int)+(y:Int)%5=(f:Int) by omega];clear vK;rintro e w5 ⟨a,vY,na,A1,n1,c1,A2,n2,c2,rfl,ha,has,qY,x5⟩;have B6:=Hx (Blk.new w5 35 #[.bool na,.slice A1 n1 c1,.slice A2 n2 c2]);have X6:=Hx (x5.alloc (.cells #[.bool na,.slice A1 n1 c1,.slice A2 n2 c2] 35));have R6:=Hx (And.intro ha (And.intro has (qY.keep ((Ext.refl w5).alloc (.cells #[.bool na,.slice A1 n1 c1,.slice A2 n2 c2] 35)))));clear ha has qY x5 i0 i1 i2
   go_upto_region 7 with fail
   generalize w5.alloc (.cells #[.bool na,.slice A1 n1 c1,.slice A2 n2 c2] 35)=W6 at*;generalize hb5:w5.heap.size=b5 at*;obtain⟨⟨i0,i1,i2⟩,_⟩:=(E3.out.1.keep X6.out).three;have B5:=Hx (Blk.new W6 25 #[.int .i64 t.nodes,.slice AO t.over.length co,.slice AL t.links.length cl]);have X5:=Hx ((Ext.refl W6).alloc (.cells #[.int .i64 t.nodes,.slice AO t.over.length co,.slice AL t.links.length cl] 25))
   go_upto_region 8 with fail
   generalize W6.alloc (.cells #[.int .i64 t.nodes,.slice AO t.over.length co,.slice AL t.links.length cl] 25)=W5 at*;generalize hbm:W6.heap.size=bm at*;clear i0 i1 i2;have EA:=Hx (show Ext W5 (W5.alloc (.cells #[] 56))from(Ext.refl W5).alloc _);have qW:=Hx (X6.out.tr X5.out);have vh:=Hx (HA.out.1.keep (E3.out.2.tr qW.out));have vH:=Hx (show AL=none->t.links.length=0 from fun h=>by
    by_cases h0:t.links.length=0
    ·exact h0
    ·obtain⟨b,o,e,_⟩:=vh.out.links.at_ (i:=0) (by rw [jzi9];omega)
     rw [h]at e;cases e)
   obtain⟨⟨i0,i1,i2⟩,_⟩:=((E3.out.1.keep qW.out).keep EA.out).three
   go_wp2_with (at_builtin;refine jzbc _ 23 56 _ 7 56 rfl _ _ rfl Tryz.underlying23 jzfe rfl (by decide) W5.heap.size (.slice (some ⟨W5.heap.size,0,none⟩) 0 0) 0 [] rfl (jzck W5 W5.heap.size 7 56 (yX _)) AL t.links.length cl (t.links.flatMap Lk.cells) rfl (jzi9 _) (vh.out.links.keep EA.out) vH.out (lk_one _) (by unfold maxLen;omega) (by omega) EA.out.size ?_)
   intro v8 w8 qm qh qL;obtain⟨A8,c8,rfl,vF⟩:=jzab qm;have k8:FrS (fun x=>x=W5.heap.size) (W5.alloc (.cells #[] 56)) w8:=FrS.of_grown (S:=fun x=>x=W5.heap.size) qh fun y e=>(Option.some.inj e).symm;have vJ:bm<W5.heap.size:=B5.out.lt;have B8:=Hx (k8.blk (B5.out.keep EA.out) (by omega));have X8:=Hx (show Ext W5 w8 from k8.ext EA.out fun b hb=>by omega);have vn:=Hx qm;obtain⟨_,z0,z1,z2⟩:=B8.out.three;clear qm qh qL k8 i0 i1 i2;have vU:w3.heap.size<=bm:=(by rw [<-hbm];exact X6.out.size);have W9:=Hx (show Blk (w8.setCell ⟨bm,2,none⟩ (.slice A8 t.links.length c8)) bm 25 #[.int .i64 t.nodes,.slice AO t.over.length co,.slice A8 t.links.length c8]/\World.ownsRow (w8.setCell ⟨bm,2,none⟩ (.slice A8 t.links.length c8)) W5.heap.size 56 7 (.slice A8 t.links.length c8) t.links.length (t.links.flatMap Lk.cells)/\Ext W6 (w8.setCell ⟨bm,2,none⟩ (.slice A8 t.links.length c8))from by
    have k9:FrS (fun x=>x=bm) w8 (w8.setCell ⟨bm,2,none⟩ (.slice A8 t.links.length c8)):=FrS.of_grown (S:=fun x=>x=bm) (jze w8 bm 2 _) fun y e=>(Option.some.inj e).symm;refine⟨B8.out.set_ 2 _,k9.own vn.out fun g hg=>?_,k9.ext (X5.out.tr X8.out) fun b hb=>by omega⟩;have:=(vn.out.lt g hg).1;omega)
   go_upto_region 9 with fail
   clear z0 z1 z2;generalize w8.setCell ⟨bm,2,none⟩ (.slice A8 t.links.length c8)=W9' at*;have S0:=Hx (show Blk W9' bm 25 #[.int .i64 t.nodes,.slice AO t.over.length co,.slice A8 t.links.length c8]/\W9'.ownsRow W5.heap.size 56 7 (.slice A8 t.links.length c8) t.links.length ((capTo f 0 t.links).flatMap Lk.cells)/\Ext W6 W9' from⟨W9.out.1,by rw [jzmp];exact W9.out.2.1,W9.out.2.2⟩);have qy:=Hx (show∀x∈t.links,0<=x.cap/\x.cap<=1048576 from fun x hx=>by
    obtain⟨i,hi,rfl⟩:=List.mem_iff_getElem.1 hx;obtain⟨hl,_,_,_,_,k6,k7⟩:=jzc0 HF.out.v (a:=2*i) (by omega);have e9:t.links[2*i/2]=t.links[i]:=(by congr 1;omega);rw [e9]at k6 k7;exact⟨k6,k7⟩)
   go_wp2
   go_loopg [11] t.links.length (fun q it wx=>∃(n:Nat),t.links.length-n=q/\n<=t.links.length/\it=.int .i64 (n:Int)/\Hid (Blk wx bm 25 #[.int .i64 t.nodes,.slice AO t.over.length co,.slice A8 t.links.length c8]/\wx.ownsRow W5.heap.size 56 7 (.slice A8 t.links.length c8) t.links.length ((capTo f n t.links).flatMap Lk.cells)/\Ext W6 wx))
   case atStart=>exact⟨0,rfl,yZ _,rfl,S0⟩
   case round=>
    obtain⟨n,rfl,hn,rfl,I⟩:=hrel;clear S0;have m2:=I.out.1.cell 2;by_cases vy:n<t.links.length
    ·obtain⟨x,hx⟩:∃x,t.links[n]?=some x:=⟨_,yG vy⟩
     obtain⟨qK,vW⟩:=qy.out x (yJ hx);obtain⟨g8,_,v5,e9,vZ,qV,_,_⟩:=jz9 I.out.2.1 (by omega);injection e9 with e1 e2 e3
     subst e1 e3;have HX:=Hx hx;have q8:wr.cell? ⟨g8,n*7+4,none⟩=some (.int .i64 x.cap):=by
      have qC:n*7+4<((capTo f n t.links).flatMap Lk.cells).length:=(by rw [jzi9,capTo_len];omega);obtain⟨b,o,e,_,hc⟩:=(jzbb I.out.2.1).rd.at_ qC;have e:=Option.some.inj e;injection e with e1 e2
      subst e1 e2;have h9:=hc (n*7+4) qC;rw [Nat.zero_add]at h9;rw [h9,jzaq Lk.cells 7 (fun _=>rfl) (capTo f n t.links) n 4 (jzid HX.out) (by decide)];rfl
     have z4:=qV.frozen (n*7+4);have nN:(n:Int)<(t.links.length:Int):=(by omega);have n0:(0:Int)<=(n:Int):=(by omega);have qT:x.cap*(f:Int)<=1048576*5:=by
      have h1:x.cap*(f:Int)<=x.cap*5:=Int.mul_le_mul_of_nonneg_left (by omega) qK;omega
     have qH:0<=x.cap*(f:Int):=Int.mul_nonneg qK (by omega);have vd:IntKind.i64.wrap (x.cap*(f:Int))=x.cap*(f:Int):=(by rw [IntKind.wrap_i64];omega);have kk:FrS (fun b=>b=g8) wr (wr.setCell ⟨g8,n*7+4,none⟩ (.int .i64 (x.cap*(f:Int)))):=FrS.of_grown (S:=fun b=>b=g8) (jze wr g8 _ _) fun y e=>(Option.some.inj e).symm;have K9:=Hx (show Blk (wr.setCell ⟨g8,n*7+4,none⟩ (.int .i64 (x.cap*(f:Int)))) bm 25 #[.int .i64 t.nodes,.slice AO t.over.length co,.slice (some ⟨g8,0,none⟩) t.links.length c8]/\World.ownsRow (wr.setCell ⟨g8,n*7+4,none⟩ (.int .i64 (x.cap*(f:Int)))) W5.heap.size 56 7 (.slice (some ⟨g8,0,none⟩) t.links.length c8) t.links.length ((capTo f (n+1) t.links).flatMap Lk.cells)/\Ext W6 (wr.setCell ⟨g8,n*7+4,none⟩ (.int .i64 (x.cap*(f:Int))))from
      ⟨kk.blk I.out.1 (by omega),by
       rw [jzgc f n t.links HX.out,jzb4 _ (x.cap*(f:Int)) _ _ (jzid HX.out) rfl];exact jzbi (k:=n*7+4) I.out.2.1 _,kk.ext I.out.2.2 fun b hb=>by have:=X5.out.size;omega⟩)
     clear hx qV kk qH qT qK vW;go_wp2
     go_roundg (t.links.length-(n+1))
     case measure=>omega
     case rel=>exact⟨n+1,rfl,by omega,by go_num,K9⟩
    ·obtain rfl:n=t.links.length:=by omega
     obtain⟨qf,rfl⟩:∃W,W=wr:=⟨_,rfl⟩;have qa:=Hx (E3.out.2.tr (X6.out.tr I.out.2.2));have qB:(scaleT t f).links.length=t.links.length:=(jzef t f).len;have qP:=Hx (show∀wx,Ext qf wx->TopR wx (scaleT t f) AO co A8 c8 from fun wx hx=>by
      have ho:=I.out.2.1;rw [capTo_all]at ho;have hA:=(HA.out.1.top g1 g2).keep (qa.out.tr hx);refine⟨hA.nodes,hA.lo,by rw [qB];exact vF,hA.co,by rw [qB];exact hA.cl,hA.over,(jzbb ho).rd.keep hx,fun z hz=>?_⟩;obtain⟨x,qn,rfl⟩:=List.mem_map.1 hz;obtain⟨q1,q2,q3,q4,q5,q6,q7⟩:=HA.out.1.wf x qn;obtain⟨p0,p1⟩:=qy.out x qn;have m1:x.cap*(f:Int)<=x.cap*5:=Int.mul_le_mul_of_nonneg_left (by omega) p0;have m0:0<=x.cap*(f:Int):=Int.mul_nonneg p0 (by omega);refine⟨q1,q2,q3,q4,?_,q6,q7⟩;unfold i64;simp only [];omega)
     have qX:=Hx ((HA.out.1.dem g3).keep qa.out);go_wp2;clear m2
     go_loopg [12,13,14] l.length (fun q vT it _ wx=>∃(k:Nat),l.length-k=q/\k<=l.length/\it=.int .i64 (k:Int)/\Hid (Ext qf wx/\wx.ownsRow qf.heap.size 27 4 vT k ((scaleD (l.take k) f).flatMap Dm.cells)))
     case atStart=>exact⟨0,rfl,yZ _,rfl,Hx ⟨Ext.refl _,World.ownsRow_nil _ _ _ _⟩⟩
     case round=>
      rename_i vT _ _
      obtain⟨k,rfl,hk,rfl,K⟩:=hrel;obtain⟨AT,cT,vO,vz⟩:=jzab K.out.2;subst vO;by_cases vx:k<l.length
      ·obtain⟨d,hd⟩:∃d,l[k]?=some d:=⟨_,yG vx⟩
       obtain⟨b,o,rfl,hb,a0,a1,a2,a3⟩:=(qX.out.keep K.out.1).at_ hd;have vG:1<=d.amount/\d.amount<=1000:=by
        have h1:=HF.out.ok d (yJ hd);have h2:=G0.out d (yJ hd);unfold Dm.ok inB at h1;simp at h1;omega
       have qT:d.amount*(f:Int)<=d.amount*5:=Int.mul_le_mul_of_nonneg_left (by omega) (by omega);have qH:0<=d.amount*(f:Int):=Int.mul_nonneg (by omega) (by omega);have vd:IntKind.i64.wrap (d.amount*(f:Int))=d.amount*(f:Int):=(by rw [IntKind.wrap_i64];omega);have HD:=Hx hd;have nN:(k:Int)<(l.length:Int):=(by omega);have n0:(0:Int)<=(k:Int):=(by omega);have XB:=Hx (show Ext wr (wr.alloc (.cells #[.int .i64 d.src,.int .i64 d.dst,.int .i64 d.amount,.int .i64 d.prio] 27))from(Ext.refl wr).alloc _);have BW:=Hx (Blk.new wr 27 #[.int .i64 d.src,.int .i64 d.dst,.int .i64 d.amount,.int .i64 d.prio]);have vR:=Hx K.out.2.lt;have vI:qf.heap.size<=wr.heap.size:=K.out.1.size;clear hd vG qT qH
       go_upto_region 18 with fail
       clear a0 a1 a2 a3;generalize wr.alloc (.cells #[.int .i64 d.src,.int .i64 d.dst,.int .i64 d.amount,.int .i64 d.prio] 27)=W11 at*;generalize hbd:wr.heap.size=bd at*;have x2:=BW.out.cell 2;have z2:=BW.out.frozen 2;have qI:FrS (fun b=>b=bd) W11 (W11.setCell ⟨bd,2,none⟩ (.int .i64 (d.amount*(f:Int)))):=FrS.of_grown (S:=fun b=>b=bd) (jze W11 bd 2 _) fun y e=>(Option.some.inj e).symm;have qi:=Hx (show Blk (W11.setCell ⟨bd,2,none⟩ (.int .i64 (d.amount*(f:Int)))) bd 27 #[.int .i64 d.src,.int .i64 d.dst,.int .i64 (d.amount*(f:Int)),.int .i64 d.prio]/\World.ownsRow (W11.setCell ⟨bd,2,none⟩ (.int .i64 (d.amount*(f:Int)))) qf.heap.size 27 4 (.slice AT k cT) k ((scaleD (l.take k) f).flatMap Dm.cells)/\Ext qf (W11.setCell ⟨bd,2,none⟩ (.int .i64 (d.amount*(f:Int))))from
        ⟨BW.out.set_ 2 _,qI.own ((FrS.of_ext (S:=fun _=>False) XB.out).own K.out.2 (fun _ _ h=>h)) (fun g hg e=>by have:=(vR.out g hg).2;omega),qI.ext (K.out.1.tr XB.out) fun b hb=>by omega⟩)
       clear qI
       go_upto_region 19 with fail
       clear x2 z2 vd;generalize W11.setCell ⟨bd,2,none⟩ (.int .i64 (d.amount*(f:Int)))=W12 at*;have y0:=qi.out.1.cell 0;have y1:=qi.out.1.cell 1;have y2:=qi.out.1.cell 2;have y3:=qi.out.1.cell 3;have XQ:=Hx (show Ext W12 (W12.alloc (.cells #[.int .i64 d.src,.int .i64 d.dst,.int .i64 (d.amount*(f:Int)),.int .i64 d.prio] 27))from(Ext.refl W12).alloc _);have BQ:=Hx (Blk.new W12 27 #[.int .i64 d.src,.int .i64 d.dst,.int .i64 (d.amount*(f:Int)),.int .i64 d.prio]);have VB:=Hx ((FrS.of_ext (S:=fun _=>False) XQ.out).own qi.out.2.1 (fun _ _ h=>h));have vo:qf.heap.size<=(W12.alloc (.cells #[.int .i64 d.src,.int .i64 d.dst,.int .i64 (d.amount*(f:Int)),.int .i64 d.prio] 27)).heap.size:=(qi.out.2.2.tr XQ.out).size
       go_wp2_with (at_builtin;refine jz2 _ 29 27 _ 4 32 rfl _ _ rfl Tryz.underlying29 jzcu rfl (by decide) qf.heap.size (.slice AT k cT) k ((scaleD (l.take k) f).flatMap Dm.cells) rfl VB.out [.int .i64 d.src,.int .i64 d.dst,.int .i64 (d.amount*(f:Int)),.int .i64 d.prio] rfl (by simp [Value.oneCell']) W12.heap.size rfl BQ.out (by unfold maxLen;omega) (by omega) vo ?_)
       intro g7 c7 vg qt qg qQ;have k7:=FrS.of_grown (S:=fun b=>(Value.slice AT k cT).ownBlock=some b) qg fun g e=>e;have K9:=Hx (show Ext qf vg/\vg.ownsRow qf.heap.size 27 4 (.slice (some ⟨g7,0,none⟩) (k+1) c7) (k+1) ((scaleD (l.take (k+1)) f).flatMap Dm.cells)from⟨k7.ext (qi.out.2.2.tr XQ.out) fun b hb=>(VB.out.lt b hb).1,by
        have e9:(scaleD (l.take (k+1)) f).flatMap Dm.cells=(scaleD (l.take k) f).flatMap Dm.cells++[.int .i64 d.src,.int .i64 d.dst,.int .i64 (d.amount*(f:Int)),.int .i64 d.prio]:=by
         unfold scaleD;rw [List.take_add_one,HD.out,List.map_append,List.flatMap_append];rfl
        rw [e9];exact qt⟩)
       clear qt qg qQ k7 VB BQ XQ qi y0 y1 y2 y3 vo XB BW;go_wp2
       go_roundg (l.length-(k+1))
       case measure=>omega
       case rel=>exact⟨k+1,rfl,by omega,by go_num,K9⟩
      ·obtain rfl:k=l.length:=by omega
       have DG:=Hx (show∀wx,Ext wr wx->DmR wx (scaleD l f) AT cT from fun wx hx=>by
        have h9:=K.out.2;rw [List.take_length]at h9;have qG:(scaleD l f).length=l.length:=(by unfold scaleD;rw [xV]);refine⟨by rw [qG];exact vz,by rw [qG];omega,(jzbb h9).rd.keep hx,fun z hz=>?_⟩;obtain⟨x,qn,rfl⟩:=List.mem_map.1 hz;obtain⟨q1,q2,q3,q4⟩:=HA.out.1.dwf x qn;have h1:=HF.out.ok x qn;have h2:=G0.out x qn;unfold Dm.ok inB at h1;simp at h1;have m1:x.amount*(f:Int)<=x.amount*5:=Int.mul_le_mul_of_nonneg_left (by omega) (by omega);have m0:0<=x.amount*(f:Int):=Int.mul_nonneg (by omega) (by omega);refine⟨q1,q2,?_,q4⟩;unfold i64;simp only [];omega)
       have BM:=Hx (I.out.1.keep K.out.1);obtain⟨⟨i0,i1,i2⟩,_⟩:=BM.out.three;have vj:=Hx (fun wx (hx:Ext qf wx)=>jzdc (scaleT t f) AO co A8 c8 wx (qP.out wx hx));rw [qB]at vj
       go_wp2_with fail
       refine(vj.out _ K.out.1).mono ?_;rintro e vV ⟨rfl,qM⟩;have qw:=Hx (K.out.1.tr qM);have qo:=Hx qM;clear qM i0 i1 i2;cases hv':validP (scaleT t f)
       case false=>
        go_wp2;go_ret;exact⟨rfl,qa.out.tr qw.out⟩
       case true=>
        have HV:=Hx hv';clear hv';have vc:=Hx (show∀wx,Ext qf wx->Calls Tryz.prog 18 #[.agg #[.int .i64 t.nodes,.slice AO t.over.length co,.slice A8 t.links.length c8],.slice AD l.length cd] wx (ValPost wx (scaleT t f) l)from fun wx hx=>by
         have h9:=jza4 (scaleT t f) AO co A8 c8 l AD cd wx (qP.out wx hx) ((HA.out.1.dem g3).keep (qa.out.tr hx)) ⟨HV.out,HF.out.n,HF.out.ok⟩ (by rw [qB];exact g1) g3 hN (HA.out.2.keep (qa.out.tr hx));rw [qB]at h9;exact h9)
        have qG:(scaleD l f).length=l.length:=(by unfold scaleD;rw [xV]);have qJ:=Hx (jzmr HF.out qU vL G0.out);have VC:=Hx (show∀wx,Ext wr wx->Calls Tryz.prog 18 #[.agg #[.int .i64 t.nodes,.slice AO t.over.length co,.slice AL t.links.length cl],.slice AT l.length cT] wx (ValPost wx t (scaleD l f))from fun wx hx=>by
         have h9:=jza4 t AO co AL cl (scaleD l f) AT cT wx ((HA.out.1.top g1 g2).keep (qa.out.tr (K.out.1.tr hx))) (DG.out wx hx) qJ.out g1 (by omega) hN (HA.out.2.keep (qa.out.tr (K.out.1.tr hx)));rw [qG]at h9;exact h9)
        obtain⟨⟨i0,i1,i2⟩,_⟩:=(I.out.1.keep qw.out).three
        go_wp2_with fail
        refine(vc.out _ qw.out).mono ?_;rintro e qx ⟨b,v0,nb,G1,u1,v1,G2,u2,v2,rfl,hb,q0,vq,qO⟩;have qZ:=Hx (Blk.new qx 35 #[.bool nb,.slice G1 u1 v1,.slice G2 u2 v2]);have qN:=Hx (qw.out.tr (qO.alloc (.cells #[.bool nb,.slice G1 u1 v1,.slice G2 u2 v2] 35)));have qz:=Hx (show Ext vV (qx.alloc (.cells #[.bool nb,.slice G1 u1 v1,.slice G2 u2 v2] 35))from qO.alloc _);have qF:=Hx (And.intro hb (And.intro q0 (vq.keep ((Ext.refl qx).alloc (.cells #[.bool nb,.slice G1 u1 v1,.slice G2 u2 v2] 35)))));clear hb q0 vq qO i0 i1 i2
        go_upto_region 23 with fail
        generalize qx.alloc (.cells #[.bool nb,.slice G1 u1 v1,.slice G2 u2 v2] 35)=W16 at*;generalize hb16:qx.heap.size=b16 at*;obtain⟨⟨i0,i1,i2⟩,_⟩:=(E3.out.1.keep (X6.out.tr (I.out.2.2.tr qN.out))).three
        go_wp2_with fail
        refine(VC.out _ (qo.out.tr qz.out)).mono ?_;rintro e qD ⟨c,v4,nc,H1,p1,r1,H2,p2,r2,rfl,hc,vt,ve,vi⟩;clear i0 i1 i2;obtain⟨rfl,rfl,q1,q2⟩:=scale_law qU HF.out HV.out (jzef t f) (fun a _=>jzmq a) rfl qJ.out R6.out.1 qF.out.1 hc;have HQ:=Hx (And.intro q1 (And.intro q2 vt));have va:=Hx (Blk.new qD 35 #[.bool nc,.slice H1 p1 r1,.slice H2 p2 r2]);have qE:=Hx (vi.alloc (.cells #[.bool nc,.slice H1 p1 r1,.slice H2 p2 r2] 35));have vu:=Hx (ve.keep ((Ext.refl qD).alloc (.cells #[.bool nc,.slice H1 p1 r1,.slice H2 p2 r2] 35)));clear hc vt ve vi q1 q2
        go_upto_region 24 with fail
        generalize qD.alloc (.cells #[.bool nc,.slice H1 p1 r1,.slice H2 p2 r2] 35)=W17 at*;generalize hb17:qD.heap.size=b17 at*;have vl:=Hx (I.out.2.2.tr (qN.out.tr qE.out));have RA:=Hx (R6.out.2.2.keep vl.out);have RB:=Hx (qF.out.2.2.keep qE.out);have q9:SzQ ((f:Int):Rat) 1:=SzQ.int (by unfold B32;omega);have SZ:=Hx (And.intro R6.out.2.1 (And.intro qF.out.2.1 (And.intro HQ.out.2.2 q9)));have QE:=Hx (And.intro HQ.out.1 HQ.out.2.1);have qe:=Hx (show∀wx,Ext W17 wx->(wx.cell? ⟨b5,0,none⟩=some (.bool na)/\wx.cell? ⟨b5,1,none⟩=some (.slice A1 n1 c1)/\wx.cell? ⟨b5,2,none⟩=some (.slice A2 n2 c2))/\(wx.cell? ⟨b16,0,none⟩=some (.bool nb)/\wx.cell? ⟨b16,1,none⟩=some (.slice G1 u1 v1)/\wx.cell? ⟨b16,2,none⟩=some (.slice G2 u2 v2))/\
          wx.cell? ⟨b17,0,none⟩=some (.bool nc)/\wx.cell? ⟨b17,1,none⟩=some (.slice H1 p1 r1)/\wx.cell? ⟨b17,2,none⟩=some (.slice H2 p2 r2)from fun wx hx=>
         have e1:=B6.out.keep (vl.out.tr hx);have e2:=qZ.out.keep (qE.out.tr hx);have e3:=va.out.keep hx
         ⟨⟨e1.cell 0,e1.cell 1,e1.cell 2⟩,⟨e2.cell 0,e2.cell 1,e2.cell 2⟩,e3.cell 0,e3.cell 1,e3.cell 2⟩)
        have XD:=Hx (show Ext W17 W17.drew from(Ext.refl W17).drewN 1);have HSW:=Hx (qe.out _ XD.out);have vw:=Hx (qa.out.tr (qN.out.tr qE.out));clear q9 I HQ VC vc DG qP qX X6 E3 HV qJ B6 qZ va R6 qF qz qo qw K;have vk:i64 (f:Int):=(by unfold i64;omega);refine jzg (fun w'=>(w'.cell? ⟨b5,0,none⟩=some (.bool na)/\w'.cell? ⟨b5,1,none⟩=some (.slice A1 n1 c1)/\w'.cell? ⟨b5,2,none⟩=some (.slice A2 n2 c2))/\(w'.cell? ⟨b16,0,none⟩=some (.bool nb)/\w'.cell? ⟨b16,1,none⟩=some (.slice G1 u1 v1)/\w'.cell? ⟨b16,2,none⟩=some (.slice G2 u2 v2))/\
         w'.cell? ⟨b17,0,none⟩=some (.bool nc)/\w'.cell? ⟨b17,1,none⟩=some (.slice H1 p1 r1)/\w'.cell? ⟨b17,2,none⟩=some (.slice H2 p2 r2)) 26 (by kernel_rfl) ?_
        cases vY
        all_goals
         refine wP 0 rfl HSW.out ?_;try simp only [Act.put,yA,yB,yC,yD,yE,yF]
         refine wP 1 rfl HSW.out ?_;try simp only [Act.put,yA,yB,yC,yD,yE,yF]
         refine wP 2 rfl HSW.out ?_;try simp only [Act.put,yA,yB,yC,yD,yE,yF]
         refine wP 3 rfl HSW.out ?_;try simp only [Act.put,yA,yB,yC,yD,yE,yF]
         refine wP 4 rfl HSW.out ?_;try simp only [Act.put,yA,yB,yC,yD,yE,yF]
         refine wP 5 rfl HSW.out ?_;try simp only [Act.put,yA,yB,yC,yD,yE,yF]
         refine wP 6 rfl HSW.out ?_;try simp only [Act.put,yA,yB,yC,yD,yE,yF]
         refine wP 7 rfl HSW.out ?_;try simp only [Act.put,yA,yB,yC,yD,yE,yF]
         refine wP 8 rfl HSW.out ?_;try simp only [Act.put,yA,yB,yC,yD,yE,yF]
         refine wT 9 (v:=?_) rfl ?_ HSW.out ?_;rotate_left
         focus (intro w hSw;obtain⟨⟨s0,s1,s2⟩,⟨s3,s4,s5⟩,s6,s7,s8⟩:=hSw;go_simp;try with_reducible rfl)
         try simp only [Act.put,yA,yB,yC,yD,yE,yF]
         refine wP 10 rfl HSW.out ?_;try simp only [Act.put,yA,yB,yC,yD,yE,yF]
         refine wT 13 (v:=?_) rfl ?_ HSW.out ?_;rotate_left
         focus (intro w hSw;obtain⟨⟨s0,s1,s2⟩,⟨s3,s4,s5⟩,s6,s7,s8⟩:=hSw;go_simp;try with_reducible rfl)
         try simp only [Act.put,yA,yB,yC,yD,yE,yF]
         refine wC 11 rfl (fun KK hK=>?_);go_simp;refine(jzar (f:Int) _ vk).mono ?_;rintro e wa ⟨qS,J1,j1,k1,J2,j2,k2,rfl,qp,xa⟩;have EA:=Hx (XD.out.tr xa);have RF:=Hx qp;have HSW:=Hx (qe.out _ EA.out);refine hK.out _ _ HSW.out ?_;clear hK KK xa qp;try simp only [Act.put,yA,yB,yC,yD,yE,yF]
         obtain⟨l1,qk⟩:=RA.out.lens SZ.out.1;obtain⟨l2,qj⟩:=RF.out.lens SZ.out.2.2.2;refine wC 12 rfl (fun KK hK=>?_);go_simp;refine(jz1 na qS A1 n1 c1 A2 n2 c2 J1 j1 k1 J2 j2 k2 a ((f:Int):Rat) _ (RA.out.keep EA.out) RF.out (by omega) (by omega) (by omega) (by omega)).mono ?_;rintro e wb ⟨qR,M1,j3,k3,M2,j4,k4,rfl,qA,xb⟩;have EB:=Hx (EA.out.tr xb);have RM:=Hx qA;have HSW:=Hx (qe.out _ EB.out);refine hK.out _ _ HSW.out ?_;clear hK KK xb qA l1 qk l2 qj;try simp only [Act.put,yA,yB,yC,yD,yE,yF]
         obtain⟨l1,qk⟩:=RM.out.lens (SZ.out.1.mul SZ.out.2.2.2);obtain⟨l2,qj⟩:=RB.out.lens SZ.out.2.1;refine wC 14 rfl (fun KK hK=>?_);go_simp;refine(jz4 qR nb M1 j3 k3 M2 j4 k4 G1 u1 v1 G2 u2 v2 (a*((f:Int):Rat)) b _ RM.out (RB.out.keep EB.out) (by omega) (by omega) (by omega) (by omega)).mono ?_;rintro e wc ⟨rfl,xc⟩;rw [(jzas _ _).2 (show a*((f:Int):Rat)=b by rw [Rat.intCast_natCast];exact QE.out.1)];have EC:=Hx (EB.out.tr xc);have HSW:=Hx (qe.out _ EC.out);refine hK.out _ _ HSW.out ?_;clear hK KK xc RM RF EA l1 qk l2 qj;try simp only [Act.put,yA,yB,yC,yD,yE,yF]
         refine wP 15 rfl HSW.out ?_;try simp only [Act.put,yA,yB,yC,yD,yE,yF]
         refine wP 16 rfl HSW.out ?_;try simp only [Act.put,yA,yB,yC,yD,yE,yF]
         refine wP 17 rfl HSW.out ?_;try simp only [Act.put,yA,yB,yC,yD,yE,yF]
         refine wT 18 (v:=?_) rfl ?_ HSW.out ?_;rotate_left
         focus (intro w hSw;obtain⟨⟨s0,s1,s2⟩,⟨s3,s4,s5⟩,s6,s7,s8⟩:=hSw;go_simp;try with_reducible rfl)
         try simp only [Act.put,yA,yB,yC,yD,yE,yF]
         refine wP 19 rfl HSW.out ?_;try simp only [Act.put,yA,yB,yC,yD,yE,yF]
         refine wT 22 (v:=?_) rfl ?_ HSW.out ?_;rotate_left
         focus (intro w hSw;obtain⟨⟨s0,s1,s2⟩,⟨s3,s4,s5⟩,s6,s7,s8⟩:=hSw;go_simp;try with_reducible rfl)
         try simp only [Act.put,yA,yB,yC,yD,yE,yF]
         refine wC 20 rfl (fun KK hK=>?_);go_simp;refine(jzar (f:Int) _ vk).mono ?_;rintro e wa ⟨qS,J1,j1,k1,J2,j2,k2,rfl,qp,xa⟩;have EA:=Hx (EC.out.tr xa);have RF:=Hx qp;have HSW:=Hx (qe.out _ EA.out);refine hK.out _ _ HSW.out ?_;clear hK KK xa qp EB;try simp only [Act.put,yA,yB,yC,yD,yE,yF]
         obtain⟨l1,qk⟩:=vu.out.lens SZ.out.2.2.1;obtain⟨l2,qj⟩:=RF.out.lens SZ.out.2.2.2;refine wC 21 rfl (fun KK hK=>?_);go_simp;refine(jz1 nc qS H1 p1 r1 H2 p2 r2 J1 j1 k1 J2 j2 k2 c ((f:Int):Rat) _ (vu.out.keep EA.out) RF.out (by omega) (by omega) (by omega) (by omega)).mono ?_;rintro e wb ⟨qR,M1,j3,k3,M2,j4,k4,rfl,qA,xb⟩;have EB:=Hx (EA.out.tr xb);have RM:=Hx qA;have HSW:=Hx (qe.out _ EB.out);refine hK.out _ _ HSW.out ?_;clear hK KK xb qA l1 qk l2 qj;try simp only [Act.put,yA,yB,yC,yD,yE,yF]
         obtain⟨l1,qk⟩:=RM.out.lens (SZ.out.2.2.1.mul SZ.out.2.2.2);obtain⟨l2,qj⟩:=RA.out.lens SZ.out.1;refine wC 23 rfl (fun KK hK=>?_);go_simp;refine(jz4 qR na M1 j3 k3 M2 j4 k4 A1 n1 c1 A2 n2 c2 (c*((f:Int):Rat)) a _ RM.out (RA.out.keep EB.out) (by omega) (by omega) (by omega) (by omega)).mono ?_;rintro e wd ⟨rfl,xd⟩;rw [(jzas _ _).2 (show c*((f:Int):Rat)=a by rw [Rat.intCast_natCast];exact QE.out.2)];have ED:=Hx (EB.out.tr xd);have HSW:=Hx (qe.out _ ED.out);refine hK.out _ _ HSW.out ?_;clear hK KK xd RM RF l1 qk l2 qj;try simp only [Act.put,yA,yB,yC,yD,yE,yF]
         refine wP 24 rfl HSW.out ?_;try simp only [Act.put,yA,yB,yC,yD,yE,yF]
         refine wP 25 rfl HSW.out ?_;try simp only [Act.put,yA,yB,yC,yD,yE,yF]
         refine jzk (by kernel_rfl) rfl (by rfl) (fun KK hK=>?_);go_simp;refine hK.out _ _ ?_;clear hK KK;refine wpAny_done (by kernel_rfl) ?_ _;go_wp2;go_ret;exact⟨rfl,vw.out.tr ED.out⟩
end Go.Proofs.YthbmikapohlikaaGreatDoor
