/- Part 1 of 2 of what this claim adds (the white space is struck, the texts are joined). -/
import Derived.Test.YthbmikapohlikaaGreatDoorZ24
set_option linter.unusedVariables false
set_option linter.unusedSimpArgs false
set_option maxRecDepth 100000
set_option maxHeartbeats 8000000
namespace Go.Proofs.YthbmikapohlikaaGreatDoor
open Go.RowKit
open Sx
theorem sm_pos':∀(n:Nat) {f:Nat->Rat},(∀k,k<n->0<=f k)->∀{a:Nat},a<n->0<f a->0<sm n f
 |n+1,f,h,a,ha,hp=>by
  show 0<sm n f+f n;have h1:=h n (by omega);by_cases e:a=n
  ·subst e
   have:=sm_nn a (f:=f) fun k hk=>h k (by omega);grind
  ·have:=sm_pos' n (fun k hk=>h k (by omega)) (show a<n by omega) hp
   grind
section
variable {t t':Tp} {l l':List Dm} {v v':Rat} {Z Z':List ((Nat×List Nat)×Rat)} {pr pr':List Rat}
end
structure SameG(t t':Tp):Prop where
 nodes:t'.nodes=t.nodes
 over:t'.over=t.over
 len:t'.links.length=t.links.length
 ends:∀(i:Nat) (x y:Lk),t.links[i]?=some x->t'.links[i]?=some y->y.a=x.a/\y.b=x.b
section
variable {t t':Tp}
theorem SameG.symm(h:SameG t t'):SameG t' t:=⟨h.nodes.symm,h.over.symm,h.len.symm,fun i x y hx hy=>⟨(h.ends i y x hy hx).1.symm,(h.ends i y x hy hx).2.symm⟩⟩
theorem SameG.head(h:SameG t t')(a:Nat):headP t' a=headP t a:=by
 unfold headP;by_cases ha:a/2<t.links.length
 ·have qa:a/2<t'.links.length:=by rw [h.len];exact ha
  obtain⟨e1,e2⟩:=h.ends (a/2) _ _ (yG ha) (yG qa);rw [yG ha,yG qa];simp only [e1,e2]
 ·have e1:t.links[a/2]?=none:=yI (by omega)
  have e2:t'.links[a/2]?=none:=yI (by rw [h.len];omega);rw [e1,e2]
theorem SameG.tail(h:SameG t t')(a:Nat):tailP t' a=tailP t a:=by
 unfold tailP;by_cases ha:a/2<t.links.length
 ·have qa:a/2<t'.links.length:=by rw [h.len];exact ha
  obtain⟨e1,e2⟩:=h.ends (a/2) _ _ (yG ha) (yG qa);rw [yG ha,yG qa];simp only [e1,e2]
 ·have e1:t.links[a/2]?=none:=yI (by omega)
  have e2:t'.links[a/2]?=none:=yI (by rw [h.len];omega);rw [e1,e2]
theorem SameG.leav(h:SameG t t')(n:Nat):leavP t' n=leavP t n:=by
 unfold leavP leavTo;rw [h.len];exact List.filter_congr fun a _=>by rw [h.tail]
theorem SameG.overP(h:SameG t t')(n:Int):overP t' n=Go.Proofs.YthbmikapohlikaaGreatDoor.overP t n:=by
 unfold Go.Proofs.YthbmikapohlikaaGreatDoor.overP;rw [h.over]
theorem SameG.po(h:SameG t t'):∀(x:List Nat) (u:Nat) (first:Bool) (v:Nat),PO t u first x v->PO t' u first x v
 | [],_,_,_,hp=>hp
 |a::x,u,first,v,hp=>by
  obtain⟨h1,h2,h3⟩:=hp;refine⟨by rw [h.leav];exact h1,by rw [h.overP];exact h2,?_⟩;rw [h.head];exact SameG.po h x _ _ _ h3
theorem SameG.nds(h:SameG t t')(x:List Nat)(u:Nat):nds t' u x=Go.Proofs.YthbmikapohlikaaGreatDoor.nds t u x:=by
 rw [jzcg,jzcg];simp only [h.head]
theorem SameG.lpl(h:SameG t t'){s d:Nat}{x:List Nat}(hx:Lpl t s d x):Lpl t' s d x:=⟨h.po _ _ _ _ hx.1,by rw [h.nds];exact hx.2⟩
theorem SameG.chQ(h:SameG t t')(hv:validP t=true)(hv':validP t'=true){pr:List Rat}(hl:pr.length=2*t.links.length)(hn:∀q∈pr,0<=q){s d:Nat}(hs:s<t.nodes.toNat)(hd:d<t.nodes.toNat):chQ t' pr s d=Go.Proofs.YthbmikapohlikaaGreatDoor.chQ t pr s d:=by
 unfold Go.Proofs.YthbmikapohlikaaGreatDoor.chQ;have qa:pr.length=2*t'.links.length:=(by rw [h.len];exact hl);rcases jzdq hv (jzah hl hn) hs hd with⟨x,e1,e2,e3⟩|⟨e1,e2⟩
 ·rcases jzdq hv' (jzah qa hn) (by rw [h.nodes];exact hs) (by rw [h.nodes];exact hd)with⟨y,k1,k2,k3⟩|⟨k1,k2⟩
  ·rw [e1,k1]
   exact Rat.le_antisymm (k3 _ (h.lpl e2)) (e3 _ (h.symm.lpl k2))
  ·exact absurd (h.lpl e2) (k2 _)
 ·rcases jzdq hv' (jzah qa hn) (by rw [h.nodes];exact hs) (by rw [h.nodes];exact hd)with⟨y,k1,k2,k3⟩|⟨k1,k2⟩
  ·exact absurd (h.symm.lpl k2) (e2 _)
  ·rw [e1,k1]
theorem Fit.mem{l:List Dm}(hf:Fit t l){x:Dm}(hx:x∈l):x.src.toNat<t.nodes.toNat/\x.dst.toNat<t.nodes.toNat:=by
 obtain⟨d,hd,rfl⟩:=List.mem_iff_getElem.1 hx;obtain⟨h1,h2,_,h3,h4⟩:=hf.nodes hd;rw [h3,h4];exact⟨by simpa using h1,by simpa using h2⟩
theorem SameG.needL(h:SameG t t'){l:List Dm}(hf:Fit t l)(hv':validP t'=true){pr:List Rat}(hl:pr.length=2*t.links.length)(hn:∀q∈pr,0<=q):needL t' l pr=Go.Proofs.YthbmikapohlikaaGreatDoor.needL t l pr:=by
 unfold Go.Proofs.YthbmikapohlikaaGreatDoor.needL;exact jzap fun x hx=>by
  obtain⟨h1,h2⟩:=hf.mem hx;unfold dchQ;rw [h.chQ hf.v hv' hl hn h1 h2]
end
theorem SameG.connL{t t':Tp}(h:SameG t t'){l:List Dm}(hc:connL t l):Go.Proofs.YthbmikapohlikaaGreatDoor.connL t' l:=fun x hx=>by
 obtain⟨y,hy⟩:=hc x hx;exact⟨y,h.lpl hy⟩
theorem raise_law{t t':Tp}{l:List Dm}(hf:Fit t l)(hv':validP t'=true)(hg:SameG t t')(hc:∀a,a<2*t.links.length->capQ t a<=capQ t' a){v b:Rat}{Z:List ((Nat×List Nat)×Rat)}{pr:List Rat}{ok:Bool}(ha:PlanOK t l v Z pr)(hb:ValR t' l b ok):ok=true/\v<=b:=by
 rcases hb with⟨rfl,Z',pr',hb⟩|⟨rfl,rfl,hb⟩
 ·have l1:pr'.length=2*t.links.length:=by rw [hb.plen,hg.len]
  have n1:=hg.needL hf hv' l1 hb.pnn;have h1:=ha.le hf hb hg.len (α:=1) (β:=1) (γ:=1) (by decide) (by decide) (by rw [n1]) (by
   rw [Rat.one_mul,Rat.one_mul];unfold worthL;rw [hg.len];exact sm_le _ fun a ha=>yT (hc a ha) (at_nn hb.pnn a))
  exact⟨rfl,by rw [Rat.one_mul,Rat.one_mul]at h1;exact h1⟩
 ·exact absurd (hg.connL ha.connL) hb
theorem SameG.of_not{t t':Tp}(hg:SameG t t'){l:List Dm}{b:Rat}{ok:Bool}(hn:¬Go.Proofs.YthbmikapohlikaaGreatDoor.connL t l)(hb:ValR t' l b ok):ok=false:=by
 rcases hb with⟨_,Z',pr',hb⟩|⟨h,_⟩
 ·exact absurd (hg.symm.connL hb.connL) hn
 ·exact h
theorem PlanOK.some_full{t:Tp}{l:List Dm}{v:Rat}{Z:List ((Nat×List Nat)×Rat)}{pr:List Rat}(hf:Fit t l)(h:PlanOK t l v Z pr)(hv:v≠0):∃a,a<2*t.links.length/\capQ t a<=ls (fun z=>if a∈z.1.2 then z.2 else 0) Z:=by
 by_cases hx:∃a,a<2*t.links.length/\capQ t a<=ls (fun z=>if a∈z.1.2 then z.2 else 0) Z
 ·exact hx
 exfalso;have hx:∀a,a<2*t.links.length->ls (fun z:(Nat×List Nat)×Rat=>if a∈z.1.2 then z.2 else 0) Z<capQ t a:=fun a ha=>Rat.not_le.1 fun h1=>hx ⟨a,ha,h1⟩;have hA:Adm (2*t.links.length) l.length (amQ l) (fun a=>ls (fun z=>if a∈z.1.2 then z.2 else 0) Z) v Z:=⟨h.adm.dem,h.adm.pos,h.adm.dif,h.adm.sum,fun _ _=>vC⟩;have h0:=h.vnn hf;have h1:=hA.weak hf.n (fun d hd=>(hf.am hd).1) (ch:=fun d=>chQ t pr (srcN l d) (dstN l d)) (fun a _=>at_nn h.pnn a) (h.cheap hf h.plen h.pnn) h.need;have h2:(sm (2*t.links.length) fun a=>at_ pr a*capQ t a)=v:=h.worth;have h3:0<sm (2*t.links.length) fun a=>at_ pr a*capQ t a:=(by rw [h2];grind);obtain⟨a,ha,h4⟩:=sm_pos _ h3;have h5:0<at_ pr a:=by
  have:=at_nn h.pnn a;by_cases e:at_ pr a=0
  ·rw [e]at h4;grind
  ·grind
 have h6:0<sm (2*t.links.length) fun a=>at_ pr a*capQ t a-at_ pr a*ls (fun z:(Nat×List Nat)×Rat=>if a∈z.1.2 then z.2 else 0) Z:=by
  refine sm_pos' _ (fun b hb=>?_) ha ?_
  ·have:=yT (vB (hx b hb)) (at_nn h.pnn b)
   grind
  ·have:=Rat.mul_lt_mul_of_pos_left (hx a ha) h5
   grind
 rw [sm_sub,h2]at h6;grind
section
variable {t:Tp} {l:List Dm} {v:Rat} {Z:List ((Nat×List Nat)×Rat)} {pr:List Rat}
theorem PlanOK.fullP_ne(hf:Fit t l)(h:PlanOK t l v Z pr)(hv:v≠0):fullP t (Z.map pzI)≠ []:=by
 obtain⟨a,ha,h1⟩:=h.some_full hf hv;obtain⟨ld,k1,k2,k3⟩:=jzfc hf.v (Z:=Z) fun z hz=>⟨_,_,h.loop z hz⟩;unfold fullP fullN;rw [k1,if_pos rfl,k2];intro e;have hm:a∈(List.range (2*t.links.length)).filter fun a=>decide (capQ t a<=at_ ld a):=by
  rw [List.mem_filter];exact⟨vX.2 ha,yO (by rw [k3 a ha];exact h1)⟩
 rw [e]at hm;cases hm
end
def ValPost(w:World)(t:Tp)(l:List Dm)(e:Ending)(w':World):Prop:=
 ∃(v:Rat) (ok:Bool) (neg:Bool) (A1:Option Addr) (n1 c1:Nat) (A2:Option Addr) (n2 c2:Nat),e=.returned (.tuple #[.agg #[.bool neg,.slice A1 n1 c1,.slice A2 n2 c2],.bool ok])/\ValR t l v ok/\SzQ v 20/\RatR w' neg A1 n1 c1 A2 n2 c2 v/\Ext w w'
theorem jza4(t:Tp)(AO:Option Addr)(co:Nat)(AL:Option Addr)(cl:Nat)(l:List Dm)(AD:Option Addr)(cd:Nat)(w:World)(ht:TopR w t AO co AL cl)(hd:DmR w l AD cd)(hf:Fit t l)(hl:t.links.length<=10)(hD:l.length<=4)(hN:t.nodes<=7)(qg:Tab w):
  Calls Tryz.prog 18 #[.agg #[.int .i64 t.nodes,.slice AO t.over.length co,.slice AL t.links.length cl],.slice AD l.length cd] w (ValPost w t l):=by
 have HT:=Hx (And.intro ht (And.intro hd (And.intro hf (And.intro qg hN))));have qm:=ht.ll;obtain⟨qa,qh,e0⟩:=boxes2 w #[.int .i64 t.nodes,.slice AO t.over.length co,.slice AL t.links.length cl] 25 #[.bool false,.slice none 0 0,.slice none 0 0] 35;obtain⟨⟨i0,i1,i2⟩,_⟩:=qa.three;have E0:=Hx (And.intro qa (And.intro qh e0));clear ht hd hf qg hN qa qh e0
 go_enter Tryz.func18,Tryz.ntmps18
 go_upto_region 1 with fail
 have qn:((w.alloc (.cells #[.int .i64 t.nodes,.slice AO t.over.length co,.slice AL t.links.length cl] 25)).alloc (.cells #[.bool false,.slice none 0 0,.slice none 0 0] 35)).heap.size=w.heap.size+2:=(by simp);generalize (w.alloc (.cells #[.int .i64 t.nodes,.slice AO t.over.length co,.slice AL t.links.length cl] 25)).alloc (.cells #[.bool false,.slice none 0 0,.slice none 0 0] 35)=W0 at*
 go_wp2_with fail
 refine(jze9 t AO co AL cl l AD cd _ (HT.out.1.keep E0.out.2.2) (HT.out.2.1.keep E0.out.2.2) hl hD (fun _=>HT.out.2.2.2.2) (HT.out.2.2.2.1.keep E0.out.2.2)).mono ?_;intro e w1 hp;obtain⟨v,ok,neg,A1,n1,c1,A2,n2,c2,P1,m1,k1,P2,m2,k2,ec,rfl,qk,hv,qf,qi,hx⟩:=hp.val HT.out.2.2.1 hD;have B6:=Hx (Blk.new w1 39 #[.bool neg,.slice A1 n1 c1,.slice A2 n2 c2,.slice P1 m1 k1,.slice P2 m2 k2]);have X6:=Hx ((Ext.refl w1).alloc (.cells #[.bool neg,.slice A1 n1 c1,.slice A2 n2 c2,.slice P1 m1 k1,.slice P2 m2 k2] 39));have BR:=Hx ((E0.out.2.1.keep hx).keep X6.out);have F6:=Hx (And.intro hv (And.intro qf (And.intro (qi.keep X6.out) ((E0.out.2.2.tr hx).tr X6.out))));have XS:=Hx hx;clear hp hv qf qi hx i0 i1 i2;have qj:(ec==0)=ok:=qk
 go_upto_region 2 with fail
 generalize w1.alloc (.cells #[.bool neg,.slice A1 n1 c1,.slice A2 n2 c2,.slice P1 m1 k1,.slice P2 m2 k2] 39)=W6 at*;have p0:=B6.out.cell 0;have p1:=B6.out.cell 1;have p2:=B6.out.cell 2;obtain⟨_,z0,z1,z2⟩:=BR.out.three;have Q3:=Hx (((BR.out.set_ 0 (.bool neg)).set_ 1 (.slice A1 n1 c1)).set_ 2 (.slice A2 n2 c2));have hg:=grown3 W6 (w.heap.size+1) 0 (.bool neg) (.slice A1 n1 c1) (.slice A2 n2 c2);have k3:FrS (fun b=>b=w.heap.size+1) W6 (((W6.setCell ⟨w.heap.size+1,0,none⟩ (.bool neg)).setCell ⟨w.heap.size+1,1,none⟩ (.slice A1 n1 c1)).setCell ⟨w.heap.size+1,2,none⟩ (.slice A2 n2 c2)):=FrS.of_grown hg fun g e=>(by injection e with e;exact e.symm);have qe:=Hx (show RatR (((W6.setCell ⟨w.heap.size+1,0,none⟩ (.bool neg)).setCell ⟨w.heap.size+1,1,none⟩ (.slice A1 n1 c1)).setCell ⟨w.heap.size+1,2,none⟩ (.slice A2 n2 c2)) neg A1 n1 c1 A2 n2 c2 v/\Ext w (((W6.setCell ⟨w.heap.size+1,0,none⟩ (.bool neg)).setCell ⟨w.heap.size+1,1,none⟩ (.slice A1 n1 c1)).setCell ⟨w.heap.size+1,2,none⟩ (.slice A2 n2 c2))from
  ⟨F6.out.2.2.1.other hg BR.out (by decide),k3.ext F6.out.2.2.2 fun b hb=>by omega⟩)
 clear k3 hg;go_wp2;have q3:=Q3.out;exact bodyPost_ret (v:=.tuple #[.agg #[.bool neg,.slice A1 n1 c1,.slice A2 n2 c2],.bool ok]) (by simp [results,Tryz.results18,go_sem,q3.cell]) rfl ⟨v,ok,neg,A1,n1,c1,A2,n2,c2,rfl,F6.out.1,F6.out.2.1,qe.out.1,qe.out.2⟩
end Go.Proofs.YthbmikapohlikaaGreatDoor
namespace Go.Proofs.YthbmikapohlikaaGreatDoor
open Go.RowKit
section
variable {P:Program} (w:World)
theorem jzck(B s:Nat)(e:TypeId)(hB:B<=w.heap.size):(w.alloc (.cells #[] e)).ownsRow B e s (.slice (some ⟨w.heap.size,0,none⟩) 0 0) 0 []:=
 World.ownsRow_made w #[] 0 hB (by decide) (by simp)
theorem jzfg(base:Nat)(t ty e:TypeId)(i:TypeInfo)(z:Value)(sz bytes:Nat)(ht:P.underlying t=some (.slice e))(hi:P.info? e=some i)(hz:i.zero=some z)
  (hsize:i.size=sz) (hby:i.bytes=bytes) (hzs:z.cells.size=sz) (hsz:0<sz)
  (v:Value) (n:Nat) (xs:List Value) (hown:w.ownsRow base e sz v n xs)
  (A:Option Addr) (m c:Nat) (news:List Value) (hm:news.length=m*sz) (hr:Rd w A news) (hA:A=none->m=0) (h1:∀u∈news,u.oneCell'=true)
  (h63:n+m<=maxLen) (hbytes:(n+m)*bytes<=140737488355328) (hbase:base<=w.heap.size):
  ∃v' w',(Builtin.append_ #[t,t] ty #[v,.slice A m c]).run P w=.ok v' w'/\w'.ownsRow base e sz v' (n+m) (xs++news)/\w.grownBy w' v.ownBlock/\
   (v'.ownBlock=v.ownBlock\/v'.ownBlock=some w.heap.size):=by
 rcases A with _|ad
 ·have qf:m=0:=hA rfl
  subst qf;have hn:news=[]:=List.eq_nil_of_length_eq_zero (by omega);subst hn;refine⟨v,w,?_,by simpa using hown,World.grownBy.refl w _,.inl rfl⟩;rcases hown.2 with⟨rfl,rfl⟩|⟨g,cap,cur,rfl,_,_,hnc,_⟩
  ·simp [Builtin.append_,run_underlying ht,sizeOf,typeInfo,hi,Builtin.lenOf,Builtin.firstCells]
  ·simp [Builtin.append_,run_underlying ht,sizeOf,typeInfo,hi,Builtin.lenOf,Builtin.firstCells,hnc,storeCells]
 ·have qa:∀j u,news[j]?=some u->w.cell? (ad.add j)=some u:=by
   intro j u hu;have hj:j<news.length:=(yH.1 hu).1;obtain⟨b,o,he,_,hc⟩:=hr.at_ hj;injection he with he
   subst he;rw [jzcp,hc j hj,hu]
  obtain⟨v',w',qe,h2,h3,_,h5⟩:=run_append_own_at (P:=P) w base t ty e i z sz bytes ht hi hz hsize hby hzs hsz v n xs hown ad m c news hm qa h1 h63 hbytes hbase;exact⟨v',w',qe,h2,h3,h5⟩
theorem jzbc{ops:Array Oper}{rest:List Oper}{o:Oper}{a:Act}{Q:Exit->Act->World->Prop}(t e:TypeId)(z:Value)(sz bytes:Nat)(hgd:o.guard=none)(s x:Operand)
  (ho:o.op=.call {callee:=.builtin .append,args:=#[s,x],argTypes:=#[t,t]})
  (ht:P.underlying t=some (.slice e)) (hinfo:(P.info? e).map (fun i=>(i.zero,i.size,i.bytes))=some (some z,sz,bytes)) (hzs:z.cells.size=sz) (hsz:0<sz)
  (base:Nat) (v:Value) (n:Nat) (xs:List Value) (hs:a.eval s=v) (hown:w.ownsRow base e sz v n xs)
  (A:Option Addr) (m c:Nat) (news:List Value) (hx:a.eval x=.slice A m c) (hm:news.length=m*sz) (hr:Rd w A news) (hA:A=none->m=0) (h1:∀u∈news,u.oneCell'=true)
  (h63:n+m<=maxLen) (hbytes:(n+m)*bytes<=140737488355328) (hbase:base<=w.heap.size)
  (h:∀v' w',w'.ownsRow base e sz v' (n+m) (xs++news)->w.grownBy w' v.ownBlock->(v'.ownBlock=v.ownBlock\/v'.ownBlock=some w.heap.size)->wpList P ops Q rest (a.put o.dst v') w'):wpList P ops Q (o::rest) a w:=
 wpList_plain hgd fun _ hK=>by
  obtain⟨ti,hi,qg,qe,qf⟩:=info_parts hinfo;obtain⟨v',w',qa,h2,h3,h4⟩:=jzfg (P:=P) w base t o.type e ti z sz bytes ht hi qg qe qf hzs hsz v n xs hown A m c news hm hr hA h1 h63 hbytes hbase;unfold Oper.wp execOp;simp only [ho,resolve,invoke,builtin,Sem.run_bind,Sem.run_pure,Result.andThen_ok,List.map_toArray,List.map_cons,List.map_nil,hs,hx,qa];exact hK _ _ (h v' w' h2 h3 h4)
end
theorem lk_one(l:List Lk):∀u∈l.flatMap Lk.cells,u.oneCell'=true:=by
 intro u hu;obtain⟨x,_,hx⟩:=List.mem_flatMap.1 hu;simp only [Lk.cells,xZ,List.not_mem_nil,or_false]at hx;rcases hx with rfl|rfl|rfl|rfl|rfl|rfl|rfl <;> rfl
theorem jzi9(l:List Lk):(l.flatMap Lk.cells).length=l.length*7:=by
 induction l with
 |nil=>rfl
 |cons y l ih=>rw [xU,yQ,ih,List.length_cons,xP];show 7+_=_;omega
open Sx
def raiseT(t:Tp)(i y:Nat):Tp:=⟨t.nodes,t.over,t.links.modify i fun x=>{x with cap:=min 1048576 (x.cap+(y:Int))}⟩
section
variable {t:Tp} {i y:Nat}
theorem jzat:(raiseT t i y).links.length=t.links.length:=by unfold raiseT;simp
theorem jzcl(j:Nat){x:Lk}(hx:t.links[j]?=some x):∃x',(raiseT t i y).links[j]?=some x'/\x'.a=x.a/\x'.b=x.b/\x'.c0=x.c0/\x'.c1=x.c1/\x'.delay=x.delay/\x'.group=x.group/\(x'.cap=x.cap\/x'.cap=min 1048576 (x.cap+(y:Int))):=by
 unfold raiseT;simp only [List.getElem?_modify,hx];by_cases e:i=j
 ·simp only [if_pos e];exact⟨_,rfl,rfl,rfl,rfl,rfl,rfl,rfl,.inr rfl⟩
 ·simp only [if_neg e];exact⟨_,rfl,rfl,rfl,rfl,rfl,rfl,rfl,.inl rfl⟩
theorem jzee:SameG t (raiseT t i y):=⟨rfl,rfl,jzat,fun j x x' hx hx'=>by
 obtain⟨z,hz,h1,h2,_⟩:=jzcl (i:=i) (y:=y) j hx;rw [hz]at hx';injection hx' with hx'
 subst hx';exact⟨h1,h2⟩⟩
theorem jzba(hv:validP t=true):validP (raiseT t i y)=true:=by
 have hl:=jzat (t:=t) (i:=i) (y:=y);unfold validP headOk at hv⊢;rw [vM,xW]at hv⊢;refine⟨by rw [hl];exact hv.1,fun x hx=>?_⟩;obtain⟨j,hj,e⟩:=List.mem_iff_getElem.1 hx;have qe:j<t.links.length:=(by rw [<-hl];exact hj);obtain⟨z,hz,h1,h2,h3,h4,h5,h6,h7⟩:=jzcl (i:=i) (y:=y) j (yG qe);rw [yG hj]at hz;injection hz with hz
 have qa:=hv.2 _ (xR qe);rw [<-e,hz];unfold Lk.ok inB at qa⊢;rw [h1,h2,h3,h4,h5,h6];have hc:(0:Int)<=t.links[j].cap/\t.links[j].cap<=1048576:=(by simp at qa;omega);have qf:(0:Int)<=z.cap/\z.cap<=1048576:=(by rcases h7 with h7|h7 <;> rw [h7] <;> omega);rw [yO hc]at qa;rw [yO qf];exact qa
theorem jzmm(hv:validP t=true)(a:Nat)(ha:a<2*t.links.length):capQ t a<=capQ (raiseT t i y) a:=by
 obtain⟨hl,_,_,_,k5,k6,k7⟩:=jzc0 hv ha;obtain⟨qa,_,_,_,qe,_,_⟩:=jzc0 (jzba (i:=i) (y:=y) hv) (a:=a) (by rw [jzat];exact ha);obtain⟨z,hz,_,_,_,_,_,_,h7⟩:=jzcl (i:=i) (y:=y) (a/2) (yG hl);rw [yG qa]at hz;injection hz with hz
 rw [k5,qe,hz];refine Rat.intCast_le_intCast.2 ?_;rcases h7 with h7|h7 <;> rw [h7] <;> omega
theorem raiseT_wf(hv:validP t=true)(h:∀x∈t.links,x.wf):∀x∈(raiseT t i y).links,x.wf:=fun x hx=>by
 obtain⟨j,hj,e⟩:=List.mem_iff_getElem.1 hx;have qf:j<t.links.length:=(by rw [<-jzat (t:=t) (i:=i) (y:=y)];exact hj);obtain⟨z,hz,h1,h2,h3,h4,h5,h6,h7⟩:=jzcl (i:=i) (y:=y) j (yG qf);rw [yG hj]at hz;injection hz with hz
 obtain⟨w1,w2,w3,w4,w5,w6,w7⟩:=h _ (xR qf);have qe:=jzba (i:=i) (y:=y) hv;unfold validP at qe;rw [vM,xW]at qe;have qa:=qe.2 x hx;unfold Lk.ok inB at qa;simp at qa;rw [<-e,hz]at qa⊢;refine⟨by rw [h1];exact w1,by rw [h2];exact w2,by rw [h3];exact w3,by rw [h4];exact w4,?_,by rw [h5];exact w6,by rw [h6];exact w7⟩;unfold i64;omega
end
theorem jzb4(f:Lk->Lk)(c:Int):∀(l:List Lk) (i:Nat) {x:Lk},l[i]?=some x->f x={x with cap:=c}->(l.modify i f).flatMap Lk.cells=(l.flatMap Lk.cells).set (i*7+4) (.int .i64 c)
 | [],i,x,h,_=>by simp at h
 |y::l,0,x,h,hf=>by
  injection h with h
  subst h;rw [show(y::l).modify 0 f=f y::l from rfl,xU,xU,hf];rfl
 |y::l,i+1,x,h,hf=>by
  rw [show(y::l).modify (i+1) f=y::l.modify i f from rfl,xU,xU,jzb4 f c l i h hf,List.set_append_right _ _ (by show 7<=_;omega)]
  congr 2
  show i*7+4=(i+1)*7+4-7;omega
theorem jzja{t:Tp}{i y:Nat}{x:Lk}(hx:t.links[i]?=some x):(raiseT t i y).links.flatMap Lk.cells=(t.links.flatMap Lk.cells).set (i*7+4) (.int .i64 (min 1048576 (x.cap+(y:Int)))):=
 jzb4 _ _ _ _ hx rfl
theorem jzjb(t:Tp)(AO:Option Addr)(co:Nat)(AL:Option Addr)(cl:Nat)(l:List Dm)(AD:Option Addr)(cd:Nat)(y0 y1:Nat)(hy0:y0<=255)(hy1:y1<=255)(w:World)(h:ArgF w t AO co AL cl l AD cd)(qW:Tab w):
  Calls Tryz.prog 6 #[.agg #[.int .i64 t.nodes,.slice AO t.over.length co,.slice AL t.links.length cl],.slice AD l.length cd,.agg #[.int .u8 (y0:Int),.int .u8 (y1:Int)]] w fun e w'=>e=.returned (.bool true)/\Ext w w':=by
 have vt:=h.ld;have vw:=h.lm;have HA:=Hx (And.intro h qW);obtain⟨qS,qR,e0⟩:=boxes2 w #[.int .i64 t.nodes,.slice AO t.over.length co,.slice AL t.links.length cl] 25 #[.int .u8 (y0:Int),.int .u8 (y1:Int)] 62;have E0:=Hx (And.intro qS (And.intro qR e0));clear h qW qS qR e0
 go_enter Tryz.func6,Tryz.ntmps6
 go_wp2_with fail
 refine(jzci _ (HA.out.2.keep E0.out.2.2)).mono ?_;rintro e w1 ⟨rfl,x1⟩;have E1:=Hx (And.intro (E0.out.1.keep x1) (And.intro (E0.out.2.1.keep x1) (E0.out.2.2.tr x1)));clear x1 E0;obtain⟨⟨i0,i1,i2⟩,_⟩:=E1.out.1.three
 go_wp2_with fail
 refine(jzcj t AO co AL cl l AD cd _ (HA.out.1.keep E1.out.2.2)).mono ?_;rintro e w2 ⟨rfl,x2⟩;have E2:=Hx (And.intro (E1.out.1.keep x2) (And.intro (E1.out.2.1.keep x2) (E1.out.2.2.tr x2)));clear x2 E1 i0 i1 i2;cases hs:smallF t l
 case false=>
  go_wp2;go_ret;exact⟨rfl,E2.out.2.2⟩
 case true=>
  obtain⟨_,g1,g2,g3,g5⟩:=jzcm.1 hs;have G5:=Hx g5;clear g5 hs;obtain⟨⟨i0,i1,i2⟩,_⟩:=E2.out.1.three
  go_wp2_with fail
  refine(jzc7 t AO co AL cl l AD cd _ ((HA.out.1.keep E2.out.2.2).top g1 g2) ((HA.out.1.keep E2.out.2.2).dem g3)).mono ?_;rintro e w3 ⟨rfl,x3⟩;have E3:=Hx (And.intro (E2.out.1.keep x3) (And.intro (E2.out.2.1.keep x3) (E2.out.2.2.tr x3)));clear x3 E2 i0 i1 i2;cases hf:fitP t l
  case false=>
   go_wp2;go_ret;exact⟨rfl,E3.out.2.2⟩
  case true=>
   have HF:=Hx ((jza0 (show l.length<=64 by omega)).1 hf);have hN:t.nodes<=7:=G5.out HF.out.v;clear hf;obtain⟨⟨i0,i1,i2⟩,_⟩:=E3.out.1.three;by_cases vg:t.links.length=0
   ·have d0:((t.links.length:Int)==0)=true:=by rw [vg];rfl
    go_wp2;go_ret;exact⟨rfl,E3.out.2.2⟩
   ·have d0:((t.links.length:Int)==0)=false:=yK.2 (by omega)
    have vk:1<=t.links.length:=(by omega);have B5:=Hx (Blk.new w3 25 #[.int .i64 t.nodes,.slice AO t.over.length co,.slice AL t.links.length cl]);have X5:=Hx ((Ext.refl w3).alloc (.cells #[.int .i64 t.nodes,.slice AO t.over.length co,.slice AL t.links.length cl] 25))
    go_upto_region 6 with fail
    generalize w3.alloc (.cells #[.int .i64 t.nodes,.slice AO t.over.length co,.slice AL t.links.length cl] 25)=W5 at*;generalize hbm:w3.heap.size=bm at*;clear d0 i0 i1 i2;have EA:=Hx (show Ext W5 (W5.alloc (.cells #[] 56))from(Ext.refl W5).alloc _);have qE:=Hx (HA.out.1.keep (E3.out.2.2.tr X5.out));have q6:=Hx (show AL=none->t.links.length=0 from fun h=>by
     obtain⟨b,o,e,_⟩:=qE.out.links.at_ (i:=0) (by rw [jzi9];omega);rw [h]at e;cases e)
    obtain⟨⟨i0,i1,i2⟩,_⟩:=((E3.out.1.keep X5.out).keep EA.out).three
    go_wp2_with (at_builtin;refine jzbc _ 23 56 _ 7 56 rfl _ _ rfl Tryz.underlying23 jzfe rfl (by decide) W5.heap.size (.slice (some ⟨W5.heap.size,0,none⟩) 0 0) 0 [] rfl (jzck W5 W5.heap.size 7 56 (yX _)) AL t.links.length cl (t.links.flatMap Lk.cells) rfl (jzi9 _) (qE.out.links.keep EA.out) q6.out (lk_one _) (by unfold maxLen;omega) (by omega) EA.out.size ?_)
    intro v8 w8 qh qe qD;obtain⟨g8,c8,vu,rfl,vh,_,q4,_⟩:=jz9 qh (by omega);have k8:FrS (fun x=>x=W5.heap.size) (W5.alloc (.cells #[] 56)) w8:=FrS.of_grown (S:=fun x=>x=W5.heap.size) qe fun y e=>(Option.some.inj e).symm;have q8:bm<W5.heap.size:=B5.out.lt;have B8:=Hx (k8.blk (B5.out.keep EA.out) (by omega));have X8:=Hx (show Ext W5 w8 from k8.ext EA.out fun b hb=>by omega);have qV:=Hx qh;obtain⟨_,z0,z1,z2⟩:=B8.out.three;clear qh qe qD k8 i0 i1 i2;have W9:=Hx (show Blk (w8.setCell ⟨bm,2,none⟩ (.slice (some ⟨g8,0,none⟩) t.links.length c8)) bm 25 #[.int .i64 t.nodes,.slice AO t.over.length co,.slice (some ⟨g8,0,none⟩) t.links.length c8]/\World.ownsRow (w8.setCell ⟨bm,2,none⟩ (.slice (some ⟨g8,0,none⟩) t.links.length c8)) W5.heap.size 56 7 (.slice (some ⟨g8,0,none⟩) t.links.length c8) t.links.length (t.links.flatMap Lk.cells)/\Ext w3 (w8.setCell ⟨bm,2,none⟩ (.slice (some ⟨g8,0,none⟩) t.links.length c8))from by
     have k9:FrS (fun x=>x=bm) w8 (w8.setCell ⟨bm,2,none⟩ (.slice (some ⟨g8,0,none⟩) t.links.length c8)):=FrS.of_grown (S:=fun x=>x=bm) (jze w8 bm 2 _) fun y e=>(Option.some.inj e).symm;refine⟨B8.out.set_ 2 _,k9.own qV.out fun g hg=>?_,k9.ext (X5.out.tr X8.out) fun b hb=>by omega⟩;have:=(qV.out.lt g hg).1;omega)
    go_upto_region 7 with fail
    generalize w8.setCell ⟨bm,2,none⟩ (.slice (some ⟨g8,0,none⟩) t.links.length c8)=W9' at*;have d0:((t.links.length:Int)==0)=false:=yK.2 (by omega);have d1:¬(t.links.length:Int)=0:=(by omega);have hI:y0%t.links.length<t.links.length:=xT _ (by omega);have Y9:=Hx (E3.out.2.1.keep W9.out.2.2)
    go_cut [8] (fun s wx=>s=.pointer (some ⟨g8,(y0%t.links.length)*7,none⟩)/\Ext W9' wx)
    case first=>
     have h1:=W9.out.1.lt;have h2:=Y9.out.lt;have x0:=XW.cell _ _ _ h1 (W9.out.1.cell 2);have x1:=XW.cell _ _ _ h2 (Y9.out.cell 0);refine jzh (by kernel_rfl) (by kernel_rfl) ?_
     repeat (go_big_quiet_step (fail))
     refine wpQuiet_nil ?_;rintro _ ⟨x,rfl⟩;go_wp2;go_meet;exact⟨rfl,x.ext⟩
    case rest=>
     obtain⟨rfl,qp⟩:=hcut;generalize wc=W10 at*;generalize y0%t.links.length=i at*;obtain⟨x,hx⟩:∃x,t.links[i]?=some x:=⟨_,yG hI⟩;have OW:=Hx ((FrS.of_ext (S:=fun _=>False) qp).own W9.out.2.1 (fun _ _ h=>h));have BM:=Hx (W9.out.1.keep qp);have vd:=Hx (W9.out.2.2.tr qp);have va:=Hx (Y9.out.keep qp);have HX:=Hx hx;obtain⟨vp,qz⟩:=jzl OW.out (g:=g8) rfl;have z4:=qz.frozen (i*7+4);have vm:=Hx qz;have qa:W10.cell? ⟨g8,i*7+4,none⟩=some (.int .i64 x.cap):=by
      have qx:i*7+4<(t.links.flatMap Lk.cells).length:=(by rw [jzi9];omega);obtain⟨b,o,e,_,hc⟩:=(jzbb OW.out).rd.at_ qx;have e:=Option.some.inj e;injection e with e1 e2
      subst e1 e2;have h9:=hc (i*7+4) qx;rw [Nat.zero_add]at h9;rw [h9,jzaq Lk.cells 7 (fun _=>rfl) t.links i 4 HX.out (by decide)];rfl
     have qF:0<=x.cap/\x.cap<=1048576:=by
      obtain⟨hl,_,_,_,_,k6,k7⟩:=jzc0 HF.out.v (a:=2*i) (by omega);have e9:t.links[2*i/2]?=some x:=(by rw [show 2*i/2=i by omega];exact HX.out);rw [yG hl]at e9;injection e9 with e9
      rw [e9]at k6 k7;exact⟨k6,k7⟩
     have qo:=Hx (show∀wx,Ext W10 wx->wx.cell? ⟨g8,i*7+4,none⟩=some (.int .i64 x.cap)/\wx.cell? ⟨w.heap.size+1,1,none⟩=some (.int .u8 (y1:Int))from fun wx hx=>⟨cellK hx qa,(va.out.keep hx).cell 1⟩);have XD:=Hx (show Ext W10 W10.drew from(Ext.refl W10).drewN 1);have HSW:=Hx (qo.out _ XD.out);have zD:W10.drew.frozen? ⟨g8,i*7+4,none⟩=false:=z4;clear hx qp qa qz z4;obtain⟨vj,vx⟩:=qF
     go_upto_region 8 with fail
     refine jzg (fun w'=>w'.cell? ⟨g8,i*7+4,none⟩=some (.int .i64 x.cap)/\w'.cell? ⟨w.heap.size+1,1,none⟩=some (.int .u8 (y1:Int))) 12 (by kernel_rfl) ?_;refine wP 0 rfl HSW.out ?_;try simp only [Act.put,yA,yB,yC,yD,yE,yF]
     refine wP 1 rfl HSW.out ?_;try simp only [Act.put,yA,yB,yC,yD,yE,yF]
     refine wP 2 rfl HSW.out ?_;try simp only [Act.put,yA,yB,yC,yD,yE,yF]
     refine wP 3 rfl HSW.out ?_;try simp only [Act.put,yA,yB,yC,yD,yE,yF]
     refine wT 4 (v:=?_) rfl ?_ HSW.out ?_;rotate_left
     focus (intro w hSw;obtain⟨s0,s1⟩:=hSw;go_simp;try with_reducible rfl)
     try simp only [Act.put,yA,yB,yC,yD,yE,yF]
     refine wP 5 rfl HSW.out ?_;try simp only [Act.put,yA,yB,yC,yD,yE,yF]
     refine wT 6 (v:=?_) rfl ?_ HSW.out ?_;rotate_left
     focus (intro w hSw;obtain⟨s0,s1⟩:=hSw;go_simp;try with_reducible rfl)
     try simp only [Act.put,yA,yB,yC,yD,yE,yF]
     refine wP 7 rfl HSW.out ?_;try simp only [Act.put,yA,yB,yC,yD,yE,yF]
     refine wP 8 rfl HSW.out ?_;try simp only [Act.put,yA,yB,yC,yD,yE,yF]
     refine wP 9 rfl HSW.out ?_;try simp only [Act.put,yA,yB,yC,yD,yE,yF]
     refine wP 10 rfl HSW.out ?_;try simp only [Act.put,yA,yB,yC,yD,yE,yF]
     refine wP 11 rfl HSW.out ?_;try simp only [Act.put,yA,yB,yC,yD,yE,yF]
     obtain⟨s0,s1⟩:=HSW.out;refine jzk (by kernel_rfl) rfl (by rfl) (fun KK hK=>?_);go_simp;refine hK.out _ _ ?_;clear hK KK;refine wpAny_done (by kernel_rfl) ?_ _;have qN:IntKind.i64.wrap (x.cap+IntKind.i64.wrap (y1:Int))=x.cap+(y1:Int):=(by rw [IntKind.wrap_i64,IntKind.wrap_i64];all_goals omega);rw [qN];have qH:FrS (fun b=>b=g8) W10 (W10.setCell ⟨g8,i*7+4,none⟩ (.int .i64 (min 1048576 (x.cap+(y1:Int))))):=FrS.of_grown (S:=fun b=>b=g8) (jze W10 g8 _ _) fun y e=>(Option.some.inj e).symm;have qA:=Hx (qH.ext vd.out fun b hb=>by omega);have qU:=Hx (show∀wx,Ext (W10.setCell ⟨g8,i*7+4,none⟩ (.int .i64 (min 1048576 (x.cap+(y1:Int))))) wx->TopR wx (raiseT t i y1) AO co (some ⟨g8,0,none⟩) c8 from by
      have ho:=jzbi (k:=i*7+4) OW.out (.int .i64 (min 1048576 (x.cap+(y1:Int))));rw [<-jzja HX.out]at ho;have hA:=qE.out.top g1 g2;intro wx hx;exact⟨hA.nodes,hA.lo,by rw [jzat];exact q4,hA.co,by rw [jzat];exact hA.cl,((HA.out.1.top g1 g2).keep ((E3.out.2.2.tr qA.out).tr hx)).over,(jzbb ho).rd.keep hx,raiseT_wf HF.out.v hA.wf⟩)
     have qM:=Hx (qH.blk BM.out (by omega));have XF:=Hx (show Ext (W10.setCell ⟨g8,i*7+4,none⟩ (.int .i64 (min 1048576 (x.cap+(y1:Int))))) (W10.setCell ⟨g8,i*7+4,none⟩ (.int .i64 (min 1048576 (x.cap+(y1:Int))))).drew from(Ext.refl _).drewN 1);have vc:=Hx (fun wx hx=>qU.out wx (XF.out.tr hx));have qX:=Hx (qM.out.keep XF.out);have qC:=Hx (qA.out.tr XF.out);clear qH qN HSW qo XD zD s0 s1 qU qM qA XF;generalize (W10.setCell ⟨g8,i*7+4,none⟩ (.int .i64 (min 1048576 (x.cap+(y1:Int))))).drew=W12 at*;have EW:=Hx (E3.out.2.2.tr qC.out);obtain⟨⟨i0,i1,i2⟩,_⟩:=(E3.out.1.keep qC.out).three
     go_wp2_with fail
     refine(jze9 t AO co AL cl l AD cd _ ((HA.out.1.top g1 g2).keep EW.out) ((HA.out.1.dem g3).keep EW.out) g1 g3 (fun _=>hN) (HA.out.2.keep EW.out)).mono ?_;intro e qn hp;clear i0 i1 i2;have qL:(raiseT t i y1).links.length=t.links.length:=jzat;have qO:=Hx (show∀wx,Ext W12 wx->Calls Tryz.prog 18 #[.agg #[.int .i64 t.nodes,.slice AO t.over.length co,.slice (some ⟨g8,0,none⟩) t.links.length c8],.slice AD l.length cd] wx (ValPost wx (raiseT t i y1) l)from fun wx hx=>by
      have q3:=jza4 (raiseT t i y1) AO co (some ⟨g8,0,none⟩) c8 l AD cd wx (vc.out wx hx) ((HA.out.1.dem g3).keep (EW.out.tr hx)) ⟨jzba HF.out.v,HF.out.n,HF.out.ok⟩ (by rw [qL];exact g1) g3 hN (HA.out.2.keep (EW.out.tr hx));rw [qL]at q3;exact q3)
     rcases hp.cases HF.out g3 with⟨hnc,rfl,x13⟩|⟨neg,A1,n1,c1,A2,n2,c2,AP,cp,gp,v,Z,pr,rfl,S13,x13⟩
     ·have qZ:=Hx (Blk.new qn 39 #[.bool false,.slice none 0 0,.slice none 0 0,.slice none 0 0,.slice none 0 0])
      have qg:=Hx (x13.alloc (.cells #[.bool false,.slice none 0 0,.slice none 0 0,.slice none 0 0,.slice none 0 0] 39));have q9:=Hx hnc;clear hp hnc x13
      go_upto_region 10 with fail
      generalize qn.alloc (.cells #[.bool false,.slice none 0 0,.slice none 0 0,.slice none 0 0,.slice none 0 0] 39)=W14 at*;obtain⟨⟨i0,i1,i2⟩,_⟩:=(qX.out.keep qg.out).three
      go_wp2_with fail
      refine(qO.out _ qg.out).mono ?_;rintro e qw ⟨b,ok,nb,G1,u1,v1,G2,u2,v2,rfl,hb,_,_,qi⟩;obtain rfl:=jzee.of_not q9.out hb;have qm:=Hx (EW.out.tr (qg.out.tr qi));clear hb qi i0 i1 i2;go_wp2;go_ret;exact⟨rfl,qm.out.alloc _⟩
     ·obtain⟨np,qG⟩:∃np,Z.length=np:=⟨_,rfl⟩
      rw [qG];have qZ:=Hx (Blk.new qn 39 #[.bool neg,.slice A1 n1 c1,.slice A2 n2 c2,.slice AP np cp,.slice (some ⟨gp,0,none⟩) (2*t.links.length) (2*t.links.length)]);have qg:=Hx (x13.alloc (.cells #[.bool neg,.slice A1 n1 c1,.slice A2 n2 c2,.slice AP np cp,.slice (some ⟨gp,0,none⟩) (2*t.links.length) (2*t.links.length)] 39));have qQ:=Hx (S13.keep ((Ext.refl qn).alloc (.cells #[.bool neg,.slice A1 n1 c1,.slice A2 n2 c2,.slice AP np cp,.slice (some ⟨gp,0,none⟩) (2*t.links.length) (2*t.links.length)] 39)));have q5:=Hx qG;clear hp x13 S13 qG
      go_upto_region 10 with fail
      generalize qn.alloc (.cells #[.bool neg,.slice A1 n1 c1,.slice A2 n2 c2,.slice AP np cp,.slice (some ⟨gp,0,none⟩) (2*t.links.length) (2*t.links.length)] 39)=W14 at*;generalize hb14:qn.heap.size=b14 at*;obtain⟨⟨i0,i1,i2⟩,_⟩:=(qX.out.keep qg.out).three
      go_wp2_with fail
      refine(qO.out _ qg.out).mono ?_;rintro e qw ⟨b,ok,nb,G1,u1,v1,G2,u2,v2,rfl,hb,qK,qY,qi⟩;obtain⟨rfl,ve⟩:=raise_law HF.out (jzba HF.out.v) jzee (jzmm HF.out.v) qQ.out.ok hb;have XB:=Hx ((Ext.refl qw).alloc (.cells #[.bool nb,.slice G1 u1 v1,.slice G2 u2 v2] 35));have BB:=Hx (Blk.new qw 35 #[.bool nb,.slice G1 u1 v1,.slice G2 u2 v2]);have qB:=Hx (And.intro qK (qY.keep XB.out));have qm:=Hx (qg.out.tr (qi.tr XB.out));have qj:=Hx (qQ.out.keep (qi.tr XB.out));have qf:=Hx (qZ.out.keep (qi.tr XB.out));clear hb qK qY qi i0 i1 i2
      go_upto_region 13 with fail
      generalize qw.alloc (.cells #[.bool nb,.slice G1 u1 v1,.slice G2 u2 v2] 35)=W15 at*;generalize hb15:qw.heap.size=b15 at*;have q0:=BB.out.cell 0;have q1:=BB.out.cell 1;have q2:=BB.out.cell 2;have p0:=qf.out.cell 0;have p1:=qf.out.cell 1;have p2:=qf.out.cell 2;obtain⟨l1,vq⟩:=qB.out.2.lens qB.out.1;obtain⟨l2,vl⟩:=qj.out.val.lens qj.out.sv
      go_wp2_with fail
      refine(jz4 nb neg G1 u1 v1 G2 u2 v2 A1 n1 c1 A2 n2 c2 b v _ qB.out.2 qj.out.val (by omega) (by omega) (by omega) (by omega)).mono ?_;rintro e vn ⟨rfl,qT⟩;have d5:decide (0<=cmpQ b v)=true:=yO ((jzfa _ _).2 ve);have qt:=Hx qT;clear qT q0 q1 q2 p0 p1 p2;have p0:=(qf.out.keep qt.out).cell 0;have p1:=(qf.out.keep qt.out).cell 1;have p2:=(qf.out.keep qt.out).cell 2
      go_wp2_with fail
      refine(jzz neg A1 n1 c1 A2 n2 c2 v _ (qj.out.val.keep qt.out)).mono ?_;rintro e vi ⟨rfl,qP⟩;have qk:=Hx (qt.out.tr qP);clear qP p0 p1 p2 d5;have p3:=(qf.out.keep qk.out).cell 3;obtain⟨⟨i0,i1,i2⟩,_⟩:=(E3.out.1.keep (qC.out.tr (qm.out.tr qk.out))).three;by_cases hv:v=0
      ·have d6:(sgnI v==0)=true:=by rw [hv];rfl
       go_wp2;go_ret;exact⟨rfl,EW.out.tr (qm.out.tr qk.out)⟩
      ·have d6:(sgnI v==0)=false:=yK.2 fun h=>hv (jzam.1 h)
       have qI:=qj.out.ok.fullP_ne HF.out hv;have qy:0<(fullP t (Z.map pzI)).length:=List.length_pos_iff.2 qI;have d7:decide ((0:Int)<((fullP t (Z.map pzI)).length:Int))=true:=yO (by omega);have d8:decide (0<(fullP t (Z.map pzI)).length)=true:=yO qy;clear qI qy
       go_wp2_with fail
       refine((qj.out.keep qk.out).full HF.out g3 q5.out ((HA.out.1.top g1 g2).keep (EW.out.tr (qm.out.tr qk.out)))).mono ?_;rintro e vo ⟨AF,cf,rfl,qJ⟩;have q7:=Hx (EW.out.tr ((qm.out.tr qk.out).tr qJ));clear qJ i0 i1 i2 p3;go_wp2;go_ret;exact⟨rfl,q7.out⟩
end Go.Proofs.YthbmikapohlikaaGreatDoor
