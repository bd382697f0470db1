/- Part 15 of 24 of what the Flows claims share (the white space is struck, the texts are joined). -/
import Derived.Deep.Slices
import Derived.Maps.OwnOps
import Derived.Maps.Views
import Derived.Test.YthbmikapohlikaaGreatDoorZ13
import Derived.Test.YthbmikapohlikaaGreatDoorZ14
set_option linter.unusedVariables false
set_option linter.unusedSimpArgs false
set_option maxRecDepth 100000
set_option maxHeartbeats 8000000
namespace Go.Proofs.YthbmikapohlikaaGreatDoor
open Go.RowKit Go.ChangeShapes Go.WideShapes Go.Deep
theorem flatMap_k{α:Type}(mk:α->List Value)(k:Nat)(hk:∀a,(mk a).length=k)(l:List α)(i r:Nat)(hi:i<l.length)(hr:r<k):(l.flatMap mk)[i*k+r]?=(mk l[i])[r]?:=by
 induction l generalizing i with
 |nil=>simp at hi
 |cons a l ih=>
  cases i with
  |zero=>
   simp only [xU,Nat.zero_mul,Nat.zero_add,yB];rw [yR (by rw [hk];exact hr)]
  |succ i=>
   simp only [xU,yC];rw [yS (by rw [hk,xP];omega),hk,show(i+1)*k+r-k=i*k+r by rw [xP];omega];exact ih i (by simpa using hi)
theorem jziz{α:Type}(mk:α->List Value)(k:Nat)(hk:∀a,(mk a).length=k)(l:List α):(l.flatMap mk).length=l.length*k:=by
 induction l with
 |nil=>simp
 |cons a l ih=>rw [xU,yQ,ih,hk,List.length_cons,xP];omega
theorem cell_spot{w:World}{a:Addr}{v:Value}(h:w.cell? a=some v):a.spot=none/\a.block<w.heap.size:=by
 unfold World.cell? at h
 split at h
 ·rename_i hb
  split at h
  ·cases h
  ·rename_i hs
   refine⟨by cases ha:a.spot <;> simp_all,Nat.lt_of_not_le fun hge=>by rw [Array.getElem?_eq_none hge]at hb;cases hb⟩
 ·cases h
theorem jzey{H:Type}{enc:TypeId×Value->H}{P:Program}{w:World}{base:Nat}{spare:Nat->Bool}{held:Bool}{α:Type}[Inhabited α](mk:α->List Value)(wf:α->Prop)(k:Nat)(hk1:0<k)(hk:∀a,(mk a).length=k){t e:TypeId}{fuel:Nat}{cs:List Value}{x:DataW H×List MemPlace}
  (ht:P.underlying t=some (.slice e)) (hc:P.cellsOf e=k) (hel:∀(n:Nat) (qe:List Value) (y:DataW H×List MemPlace),DataW.trod enc P w base spare held n e qe=some y->∃a,qe=mk a/\wf a)
  (h:DataW.trod enc P w base spare held fuel t cs=some x):
  ∃(A:Option Addr) (l:List α) (c:Nat),cs=[.slice A l.length c]/\l.length<=c/\c<=maxLen/\(∀a∈l,wf a)/\Rd w A (l.flatMap mk):=by
 rcases open_slice ht h with⟨rfl,_⟩|⟨a,len,cap,m,n,D,Pl,rfl,hb,hl,hm,hmm,rfl,hx⟩
 ·exact⟨none,[],0,rfl,yX _,yZ _,(fun _ h=>by cases h),Rd.nil _ _⟩
 have qj:len<=m:=(by rw [hmm];split <;> omega);obtain⟨F,hF⟩:=choose_lt (α:=α) (p:=fun i v=>w.cells? base (a.add (i*k)) k=some (mk v)/\wf v) (n:=m) (fun i hi=>by
  obtain⟨qe,h1,h2⟩:=hx i hi;rw [hc]at h1;obtain⟨v,rfl,hv⟩:=hel _ _ _ h2;exact⟨v,h1,hv⟩)
 refine⟨some a,(List.range len).map F,cap,by simp,by simpa using hl,hm,?_,?_⟩
 ·intro v hv
  obtain⟨i,hi,rfl⟩:=List.mem_map.1 hv;exact(hF i (by have:=vX.1 hi;omega)).2
 ·intro qi
  have qf:0<len:=by
   rcases Nat.eq_zero_or_pos len with h0|h0
   ·subst h0;simp at qi
   ·exact h0
  have qa:∀i r,i<len->r<k->w.cell? (a.add (i*k+r))=(mk (F i))[r]?:=fun i r hi hr=>by
   have:=(World.cells?_some (hF i (by omega)).1).2.2 r hr
   rwa [add_add]at this
  have qh:=qa 0 0 qf hk1;rw [show a.add (0*k+0)=a from by simp [Addr.add],yG (by rw [hk];exact hk1)]at qh;obtain⟨hs,qg⟩:=cell_spot qh;obtain⟨b,o,s⟩:=a;simp only at hs qg;subst hs;refine⟨b,o,rfl,qg,fun j hj=>?_⟩;rw [jziz mk k hk,xV,List.length_range]at hj;have hd:j/k<len:=Nat.div_lt_of_lt_mul (by rw [vE];exact hj);have hr:=xT j hk1;have h1:=qa (j/k) (j%k) hd hr;have h2:=flatMap_k mk k hk ((List.range len).map F) (j/k) (j%k) (by simpa using hd) hr;rw [jzcp,vE,Nat.div_add_mod]at h1;rw [vE (j/k) k,Nat.div_add_mod]at h2;rw [h1,h2];simp
theorem wf_i64{n:Int}(h:(Lit.int .i64 n).wf=true):i64 n:=by
 simp [Lit.wf,IntKind.min,IntKind.max,IntKind.signed,IntKind.bits]at h;unfold i64;omega
theorem jzk3(l:List Bool):bools l=l.flatMap fun b:Bool=>[Value.bool b]:=by
 induction l with
 |nil=>rfl
 |cons a l ih=>rw [xU, <-ih];rfl
theorem jzk4{H:Type}{enc:TypeId×Value->H}{P:Program}{w:World}{base:Nat}{spare:Nat->Bool}{held:Bool}{t e:TypeId}{fuel:Nat}{cs:List Value}{x:DataW H×List MemPlace}
  (ht:P.underlying t=some (.slice e)) (he:P.underlying e=some .bool) (hc:P.cellsOf e=1) (h:DataW.trod enc P w base spare held fuel t cs=some x):
  ∃(A:Option Addr) (l:List Bool) (c:Nat),cs=[.slice A l.length c]/\l.length<=c/\c<=maxLen/\Rd w A (bools l):=by
 obtain⟨A,l,c,h1,h2,h3,_,h5⟩:=jzey (fun b:Bool=>[Value.bool b]) (fun _=>True) 1 (by decide) (fun _=>rfl) ht hc (fun n cs' y hy=>by
  obtain⟨b,rfl,_⟩:=DataW.trod_bool he hy;exact⟨b,rfl,trivial⟩) h
 refine⟨A,l,c,h1,h2,h3,?_⟩;rw [jzk3];exact h5
instance:Inhabited Lk:=⟨⟨0,0,0,0,0,0,0⟩⟩
theorem list7{α:Type}{l:List α}(h:l.length=7):∃a b c d e f g,l=[a,b,c,d,e,f,g]:=by
 match l,h with
 | [a,b,c,d,e,f,g],_=>exact⟨a,b,c,d,e,f,g,rfl⟩
theorem jzaw{α:Type}{l:List α}{n:Nat}(i:Nat)(h:l.length=n)(hi:i<n):∃y,l[i]?=some y:=⟨_,yG (by omega)⟩
section
variable {H:Type} {enc:TypeId×Value->H} {w:World} {base:Nat} {spare:Nat->Bool} {held:Bool}
theorem Tryz.cells_int:Tryz.prog.cellsOf 3=1:=by kernel_rfl
theorem jzak{n:Nat}{v:Value}{y:Option (DataW H×List MemPlace)}{z:DataW H×List MemPlace}(hy:y=some z)(h:DataW.trod enc Tryz.prog w base spare held n 3 [v]=y):∃x,v=.int .i64 x/\i64 x:=by
 rw [hy]at h;obtain⟨x,e,_,hw⟩:=DataW.trod_int Tryz.underlying3 h;exact⟨x,by simpa using e,wf_i64 hw⟩
theorem open_link{n:Nat}{cs:List Value}{y:DataW H×List MemPlace}(h:DataW.trod enc Tryz.prog w base spare held n 56 cs=some y):∃l:Lk,cs=l.cells/\l.wf:=by
 obtain⟨xs,m,_,_,hl,qa,hf⟩:=DataW.trod_struct Tryz.underlying56 h;have c7:Tryz.prog.cellsOf 56=7:=(by kernel_rfl);have c2:Tryz.prog.cellsOf 54=2:=(by kernel_rfl);have c1:=Tryz.cells_int;rw [c7]at hl;obtain⟨a0,a1,a2,a3,a4,a5,a6,rfl⟩:=list7 hl;have qa:xs.length=6:=qa;have h0:DataW.trod enc Tryz.prog w base spare held m 3 (List.take (Tryz.prog.cellsOf 3) (List.drop 0 [a0,a1,a2,a3,a4,a5,a6]))=xs[0]?:=hf 0 _ rfl;have h1:DataW.trod enc Tryz.prog w base spare held m 3 (List.take (Tryz.prog.cellsOf 3) (List.drop 1 [a0,a1,a2,a3,a4,a5,a6]))=xs[1]?:=hf 1 _ rfl;have h2:DataW.trod enc Tryz.prog w base spare held m 54 (List.take (Tryz.prog.cellsOf 54) (List.drop 2 [a0,a1,a2,a3,a4,a5,a6]))=xs[2]?:=hf 2 _ rfl;have h3:DataW.trod enc Tryz.prog w base spare held m 3 (List.take (Tryz.prog.cellsOf 3) (List.drop 4 [a0,a1,a2,a3,a4,a5,a6]))=xs[3]?:=hf 3 _ rfl;have h4:DataW.trod enc Tryz.prog w base spare held m 3 (List.take (Tryz.prog.cellsOf 3) (List.drop 5 [a0,a1,a2,a3,a4,a5,a6]))=xs[4]?:=hf 4 _ rfl;have h5:DataW.trod enc Tryz.prog w base spare held m 3 (List.take (Tryz.prog.cellsOf 3) (List.drop 6 [a0,a1,a2,a3,a4,a5,a6]))=xs[5]?:=hf 5 _ rfl;clear hf h;obtain⟨y0,e0⟩:=jzaw 0 qa (by omega);obtain⟨y1,e1⟩:=jzaw 1 qa (by omega);obtain⟨y2,e2⟩:=jzaw 2 qa (by omega);obtain⟨y3,e3⟩:=jzaw 3 qa (by omega);obtain⟨y4,e4⟩:=jzaw 4 qa (by omega);obtain⟨y5,e5⟩:=jzaw 5 qa (by omega);rw [c1]at h0 h1 h3 h4 h5;rw [c2]at h2;obtain⟨x0,rfl,g0⟩:=jzak e0 h0;obtain⟨x1,rfl,g1⟩:=jzak e1 h1;obtain⟨x4,rfl,g4⟩:=jzak e3 h3;obtain⟨x5,rfl,g5⟩:=jzak e4 h4;obtain⟨x6,rfl,g6⟩:=jzak e5 h5;rw [e2]at h2;obtain⟨zs,m2,_,_,_,hz,qe⟩:=DataW.trod_array Tryz.underlying54 h2;have k0:=qe 0 (by decide);have k1:=qe 1 (by decide);obtain⟨z0,d0⟩:=jzaw 0 hz (by omega);obtain⟨z1,d1⟩:=jzaw 1 hz (by omega);simp only [c1]at k0 k1;obtain⟨x2,rfl,g2⟩:=jzak d0 k0;obtain⟨x3,rfl,g3⟩:=jzak d1 k1;exact⟨⟨x0,x1,x2,x3,x4,x5,x6⟩,rfl,g0,g1,g2,g3,g4,g5,g6⟩
theorem jzez{v:Value}{d:DataW H}{p:List MemPlace}{r:Reach}{b0:Nat}(hv:Value.okWide Tryz.prog w r b0 25 v)(h:DataW.Trod enc Tryz.prog w base spare held 25 v d p):
  ∃(t:Tp) (AO:Option Addr) (co:Nat) (AL:Option Addr) (cl:Nat),v=.agg #[.int .i64 t.nodes,.slice AO t.over.length co,.slice AL t.links.length cl]/\i64 t.nodes/\t.over.length<=co/\t.links.length<=cl/\co<=maxLen/\cl<=maxLen/\Rd w AO (bools t.over)/\Rd w AL (t.links.flatMap Lk.cells)/\∀l∈t.links,l.wf:=by
 obtain⟨v0,v1,v2,y0,y1,y2,n,rfl,_,_,h0,h1,h2⟩:=Joins.open_agg3 Tryz.underlying25 (by kernel_rfl) (by kernel_rfl) hv h;obtain⟨N,rfl,hN⟩:=jzak rfl h0;obtain⟨AO,over,co,e1,l1,m1,r1⟩:=jzk4 Tryz.underlying22 Tryz.underlying4 (by kernel_rfl) h1;obtain⟨AL,links,cl,e2,l2,m2,wf,r2⟩:=jzey Lk.cells Lk.wf 7 (by decide) (fun _=>rfl) Tryz.underlying23 (by kernel_rfl) (fun n cs y hy=>open_link hy) h2;injection e1 with e1
 injection e2 with e2
 subst e1 e2;exact⟨⟨N,over,links⟩,AO,co,AL,cl,rfl,hN,l1,l2,m1,m2,r1,r2,wf⟩
end
end Go.Proofs.YthbmikapohlikaaGreatDoor
namespace Go.Proofs.YthbmikapohlikaaGreatDoor
open Go.RowKit
theorem jzdm{a b c:Rat}(h1:a<b)(h2:b<c):a<c:=by
 have h3:=Rat.le_trans (vB h1) (vB h2);refine Rat.lt_of_le_of_ne h3 ?_;rintro rfl;exact(Rat.not_lt.2 (vB h1)) h2
theorem rat_tri(a b:Rat):a<b\/a=b\/b<a:=by
 by_cases h:a<b
 ·exact .inl h
 ·by_cases h2:b<a
  ·exact .inr (.inr h2)
  ·exact .inr (.inl (Rat.le_antisymm (Rat.not_lt.1 h2) (Rat.not_lt.1 h)))
theorem jzby(ps:List Rat)(x y:List Nat):befP ps x y=true↔prQ ps x<prQ ps y\/(prQ ps x=prQ ps y/\(x.length<y.length\/(x.length=y.length/\lexI x y<0))):=by
 unfold befP cmpL or3 cmpQ cmpI;rw [decide_eq_true_iff];by_cases h1:prQ ps x<prQ ps y
 ·simp [h1]
 ·by_cases h2:prQ ps x=prQ ps y
  ·by_cases h3:x.length<y.length
   ·simp [h1,h2,h3,Rat.lt_irrefl]
   ·by_cases h4:x.length=y.length
    ·simp [h1,h2,h3,h4,Rat.lt_irrefl]
    ·simp [h1,h2,h3,h4,Rat.lt_irrefl]
  ·simp [h1,h2]
theorem jzhn:∀x y:List Nat,x.length=y.length->¬lexI x y<0->¬lexI y x<0->x=y
 | [],[],_,_,_=>rfl
 |a::x,b::y,hl,h1,h2=>by
  unfold lexI at h1 h2;by_cases e:a<b
  ·rw [if_pos e]at h1;omega
  ·by_cases e2:a=b
   ·subst e2
    simp at h1 h2 hl;rw [jzhn x y hl (by omega) (by omega)]
   ·rw [if_pos (by omega)]at h2;omega
theorem jzk5:∀x y:List Nat,x.length=y.length->x=y\/lexI x y<0\/lexI y x<0:=fun x y h=>by
 by_cases h1:lexI x y<0
 ·exact .inr (.inl h1)
 ·by_cases h2:lexI y x<0
  ·exact .inr (.inr h2)
  ·exact .inl (jzhn x y h h1 h2)
theorem jzdn:∀x y z:List Nat,x.length=y.length->y.length=z.length->lexI x y<0->lexI y z<0->lexI x z<0
 | [],[],[],_,_,h,_=>h
 |a::x,b::y,c::z,hl,hl2,h1,h2=>by
  unfold lexI at h1 h2⊢;simp only [List.length_cons]at hl hl2;by_cases e1:a<b <;> by_cases e2:b<c <;> by_cases e3:a=b <;> by_cases e4:b=c <;> simp [e1,e2,e3,e4]at h1 h2⊢ <;> try omega
  ·subst e3 e4
   exact jzdn x y z (by omega) (by omega) h1 h2
theorem jzcs:∀x:List Nat,lexI x x=0
 | []=>rfl
 |a::x=>by unfold lexI;simp [jzcs x]
theorem jzk6:∀(x y z:List Nat),x.length=y.length->lexI x y<0->lexI (x++z) (y++z)<0
 | [],[],_,_,h=>by simp [lexI]at h
 |a::x,b::y,z,hl,h=>by
  simp only [List.cons_append];unfold lexI at h⊢;by_cases e:a<b
  ·simp [e]
  ·by_cases e2:a=b
   ·subst e2
    simp at h⊢;exact jzk6 x y z (by simpa using hl) h
   ·simp [e,e2]at h
def leL(ps:List Rat)(x y:List Nat):Prop:=befP ps y x=false
theorem jzd9(ps:List Rat)(x y:List Nat):leL ps x y↔x=y\/befP ps x y=true:=by
 unfold leL;constructor
 ·intro h
  have h':¬befP ps y x=true:=(by simp [h]);rw [jzby]at h';rcases rat_tri (prQ ps x) (prQ ps y)with h1|h1|h1
  ·exact .inr ((jzby ps x y).2 (.inl h1))
  ·rcases Nat.lt_trichotomy x.length y.length with h2|h2|h2
   ·exact .inr ((jzby ps x y).2 (.inr ⟨h1,.inl h2⟩))
   ·rcases jzk5 x y h2 with h3|h3|h3
    ·exact .inl h3
    ·exact .inr ((jzby ps x y).2 (.inr ⟨h1,.inr ⟨h2,h3⟩⟩))
    ·exact absurd (.inr ⟨h1.symm,.inr ⟨h2.symm,h3⟩⟩) h'
   ·exact absurd (.inr ⟨h1.symm,.inl h2⟩) h'
  ·exact absurd (.inl h1) h'
 ·intro h
  apply Bool.eq_false_iff.2;intro hb;rw [jzby]at hb;rcases h with h|h
  ·subst h
   rcases hb with h1|⟨_,h1|⟨_,h1⟩⟩
   ·exact Rat.lt_irrefl h1
   ·omega
   ·rw [jzcs]at h1;omega
  ·rw [jzby]at h
   rcases h with h1|⟨h1,h2⟩
   ·rcases hb with h3|⟨h3,_⟩
    ·exact Rat.lt_irrefl (jzdm h1 h3)
    ·rw [h3]at h1;exact Rat.lt_irrefl h1
   ·rcases hb with h3|⟨_,h3⟩
    ·rw [h1]at h3;exact Rat.lt_irrefl h3
    ·rcases h2 with h2|⟨h2,h4⟩ <;> rcases h3 with h3|⟨h3,h5⟩ <;> try omega
     have:=jzdn x y x h2 h3 h4 h5;rw [jzcs]at this;omega
theorem bef_trans{ps:List Rat}{x y z:List Nat}(h1:befP ps x y=true)(h2:befP ps y z=true):befP ps x z=true:=by
 rw [jzby]at*;rcases h1 with h1|⟨h1,h1'⟩ <;> rcases h2 with h2|⟨h2,h2'⟩
 ·exact .inl (jzdm h1 h2)
 ·exact .inl (by rw [<-h2];exact h1)
 ·exact .inl (by rw [h1];exact h2)
 ·refine .inr ⟨h1.trans h2,?_⟩
  rcases h1' with h1'|⟨h1',g1⟩ <;> rcases h2' with h2'|⟨h2',g2⟩
  ·exact .inl (by omega)
  ·exact .inl (by omega)
  ·exact .inl (by omega)
  ·exact .inr ⟨by omega,jzdn x y z h1' h2' g1 g2⟩
theorem leL.refl(ps:List Rat)(x:List Nat):leL ps x x:=(jzd9 ps x x).2 (.inl rfl)
theorem leL.trans{ps:List Rat}{x y z:List Nat}(h1:leL ps x y)(h2:leL ps y z):leL ps x z:=by
 rw [jzd9]at*;rcases h1 with rfl|h1
 ·exact h2
 ·rcases h2 with rfl|h2
  ·exact .inr h1
  ·exact .inr (bef_trans h1 h2)
theorem leL.anti{ps:List Rat}{x y:List Nat}(h1:leL ps x y)(h2:leL ps y x):x=y:=by
 rcases(jzd9 ps x y).1 h1 with h|h
 ·exact h
 ·unfold leL at h2;rw [h]at h2;cases h2
theorem leL.of_bef{ps:List Rat}{x y:List Nat}(h:befP ps x y=true):leL ps x y:=(jzd9 ps x y).2 (.inr h)
theorem leL.of_not{ps:List Rat}{x y:List Nat}(h:¬befP ps x y=true):leL ps y x:=by unfold leL;simpa using h
theorem jzdo(ps:List Rat)(x y:List Nat):prQ ps (x++y)=prQ ps x+prQ ps y:=by
 have qa:∀(l:List Nat) (s:Rat),l.foldl (fun s a=>s+ps[a]?.getD 0) s=s+prQ ps l:=by
  intro l;unfold prQ
  induction l with
  |nil=>intro s;simp [Rat.add_zero]
  |cons a l ih=>intro s;rw [List.foldl_cons,List.foldl_cons,ih,ih (0+_),Rat.zero_add,Rat.add_assoc]
 unfold prQ;rw [List.foldl_append,qa];rfl
def posQ(ps:List Rat):Prop:=∀a:Nat,(0:Rat)<=ps[a]?.getD 0
theorem prQ_pos{ps:List Rat}(h:posQ ps):∀x:List Nat,0<=prQ ps x:=by
 intro x
 induction x with
 |nil=>exact vC
 |cons a x ih=>
  rw [show a::x=[a]++x from rfl,jzdo];have:prQ ps [a]=0+ps[a]?.getD 0:=rfl;rw [this,Rat.zero_add];have h1:=Rat.add_le_add_left (c:=prQ ps x) |>.2 (h a);rw [Rat.add_zero,Rat.add_comm]at h1;exact Rat.le_trans ih h1
theorem bef_cut{ps:List Rat}(h:posQ ps)(x y z:List Nat)(hy:y≠ []):befP ps (x++z) (x++y++z)=true:=by
 rw [jzby];have h1:prQ ps (x++z)<=prQ ps (x++y++z):=by
  rw [jzdo,jzdo,jzdo];have h2:=Rat.add_le_add_left (c:=prQ ps x) |>.2 (prQ_pos h y);rw [Rat.add_zero]at h2;exact(Rat.add_le_add_right (c:=prQ ps z)).2 h2
 have h3:(x++z).length<(x++y++z).length:=by
  have:=List.length_pos_iff.2 hy;simp;omega
 by_cases h4:prQ ps (x++z)=prQ ps (x++y++z)
 ·exact .inr ⟨h4,.inl h3⟩
 ·exact .inl (Rat.lt_of_le_of_ne h1 h4)
theorem leL.ext{ps:List Rat}(h:posQ ps)(x y:List Nat):leL ps x (x++y):=by
 by_cases hy:y=[]
 ·subst hy;rw [List.append_nil];exact leL.refl ps x
 ·have:=bef_cut h x y [] hy
  simp at this;exact leL.of_bef this
theorem leL.app{ps:List Rat}{x y:List Nat}(h:leL ps x y)(z:List Nat):leL ps (x++z) (y++z):=by
 rcases(jzd9 ps x y).1 h with rfl|h
 ·exact leL.refl _ _
 ·apply leL.of_bef
  rw [jzby]at*;rw [jzdo,jzdo];rcases h with h|⟨h,h'⟩
  ·exact .inl (Rat.add_lt_add_right.2 h)
  ·refine .inr ⟨by rw [h],?_⟩
   rcases h' with h'|⟨h',g⟩
   ·exact .inl (by simp;omega)
   ·exact .inr ⟨by simp;omega,jzk6 x y z h' g⟩
theorem leL.nil{ps:List Rat}(h:posQ ps)(x:List Nat):leL ps [] x:=by
 have:=leL.ext h [] x
 simpa using this
def FW(t:Tp)(down:List Bool)(d:Nat):Nat->List Nat->Nat->Prop
 |u,[],v=>u=v
 |u,a::p,v=>a∈leavP t u/\usableP t down a d=true/\FW t down d (headP t a).toNat p v
theorem FW.app{t:Tp}{down:List Bool}{d:Nat}:∀(p:List Nat) {q:List Nat} {u v x:Nat},FW t down d u p v->FW t down d v q x->FW t down d u (p++q) x
 | [],_,_,_,_,h1,h2=>by
   have h1:_=_:=h1;subst h1;exact h2
 |_::p,_,_,_,_,h1,h2=>⟨h1.1,h1.2.1,FW.app p h1.2.2 h2⟩
theorem FW.snoc_inv{t:Tp}{down:List Bool}{d:Nat}:∀(p:List Nat) {a u v:Nat},FW t down d u (p++[a]) v->∃m,FW t down d u p m/\a∈leavP t m/\usableP t down a d=true/\v=(headP t a).toNat
 | [],a,u,v,h=>⟨u,rfl,h.1,h.2.1,h.2.2.symm⟩
 |b::p,a,u,v,h=>by
  obtain⟨m,h1,h2⟩:=FW.snoc_inv p h.2.2;exact⟨m,⟨h.1,h.2.1,h1⟩,h2⟩
theorem FW.one{t:Tp}{down:List Bool}{d a u:Nat}(h1:a∈leavP t u)(h2:usableP t down a d=true):FW t down d u [a] (headP t a).toNat:=⟨h1,h2,rfl⟩
theorem jzag{t:Tp}(hv:validP t=true){n a:Nat}(h:a∈leavP t n):0<=headP t a/\headP t a<t.nodes/\(headP t a).toNat<t.nodes.toNat/\tailP t a=(n:Int):=by
 unfold leavP leavTo at h;rw [List.mem_filter,vX]at h;obtain⟨h1,h2⟩:=h;have h2:tailP t a=(n:Int):=(by simpa using h2);have hl:a/2<t.links.length:=(by omega);unfold validP at hv;rw [vM,xW]at hv;have qa:=hv.2 _ (xR hl);unfold Lk.ok ndB at qa;simp at qa;have:0<=headP t a/\headP t a<t.nodes:=by
  unfold headP;rw [yG hl];simp only []
  split <;> omega
 exact⟨this.1,this.2,by omega,h2⟩
theorem jzea(ps:List Rat)(ls:List Lb):∀k,∀(m:Nat) (l:Lb),m<k->ls[m]?=some l->l.known=true->l.done=false->0<=firstTo ps ls k/\leL ps (arcsOf ls (firstTo ps ls k).toNat) l.arcs
 |0,m,_,h,_,_,_=>by omega
 |k+1,m,l,hm,hl,h1,h2=>by
  have ih:=jzea ps ls k m l;by_cases e:m=k
  ·subst e
   unfold firstTo;rw [hl];simp only [h1,h2,Bool.not_false,Bool.and_true,Bool.true_and]
   split
   ·refine⟨by omega,?_⟩
    rw [xL];unfold arcsOf;rw [hl];exact leL.refl _ _
   ·rename_i hc
    simp only [Bool.or_eq_true,not_or,decide_eq_true_eq]at hc;refine⟨by omega,leL.of_not (by exact hc.2)⟩
  ·obtain⟨i1,i2⟩:=ih (by omega) hl h1 h2
   unfold firstTo
   split
   ·exact⟨i1,i2⟩
   ·rename_i lk hk
    split
    ·rename_i hc
     refine⟨by omega,?_⟩;rw [xL];simp only [vM,Bool.or_eq_true,decide_eq_true_eq]at hc;have hb:befP ps lk.arcs ((ls[(firstTo ps ls k).toNat]?.map Lb.arcs).getD [])=true:=by
      rcases hc.2 with h|h
      ·omega
      ·exact h
     have:arcsOf ls k=lk.arcs:=(by unfold arcsOf;rw [hk];rfl);rw [this];exact(leL.of_bef hb).trans i2
    ·exact⟨i1,i2⟩
theorem jze0{ps:List Rat}{ls:List Lb}{m:Nat}{l:Lb}(hl:ls[m]?=some l)(h1:l.known=true)(h2:l.done=false):0<=firstP ps ls/\leL ps (arcsOf ls (firstP ps ls).toNat) l.arcs:=
 jzea ps ls _ m l (yH.1 hl).1 hl h1 h2
structure DI(t:Tp)(down:List Bool)(ps:List Rat)(s d:Nat)(ls:List Lb):Prop where
 len:ls.length=t.nodes.toNat
 walk:∀(v:Nat) (l:Lb),ls[v]?=some l->l.known=true->FW t down d s l.arcs v
 src:∃l,ls[s]?=some l/\l.known=true/\l.arcs=[]
 dd:∀l,ls[d]?=some l->l.done=false
 kn:∀(v:Nat) (l:Lb),ls[v]?=some l->l.done=true->l.known=true
 lo:∀(v m:Nat) (l k:Lb),ls[v]?=some l->l.done=true->ls[m]?=some k->k.known=true->k.done=false->leL ps l.arcs k.arcs
 step:∀(u a:Nat) (l:Lb),ls[u]?=some l->l.done=true->a∈leavP t u->usableP t down a d=true->∃k,ls[(headP t a).toNat]?=some k/\k.known=true/\leL ps k.arcs (l.arcs++[a])
theorem DI.low{t:Tp}{down:List Bool}{ps:List Rat}{s d:Nat}{ls:List Lb}(h:DI t down ps s d ls)(hp:posQ ps):∀(n:Nat) (p:List Nat) (v:Nat),p.length=n->FW t down d s p v->
  (∃l,ls[v]?=some l/\l.done=true/\leL ps l.arcs p)\/(∃(m:Nat) (k:Lb),ls[m]?=some k/\k.known=true/\k.done=false/\leL ps k.arcs p)
 |0,p,v,hn,hw=>by
  have:p=[]:=List.length_eq_zero_iff.1 hn;subst this;have hw:s=v:=hw;subst hw;obtain⟨l,h1,h2,h3⟩:=h.src;cases hd:l.done
  ·exact .inr ⟨s,l,h1,h2,hd,by rw [h3];exact leL.refl _ _⟩
  ·exact .inl ⟨l,h1,hd,by rw [h3];exact leL.refl _ _⟩
 |n+1,p,v,hn,hw=>by
  obtain⟨q,a,rfl⟩:∃q a,p=q++[a]:=by
   have:p≠ []:=(by rintro rfl;simp at hn);exact⟨p.dropLast,p.getLast this,(List.dropLast_concat_getLast this).symm⟩
  obtain⟨u,h1,h2,h3,rfl⟩:=FW.snoc_inv q hw;rcases h.low hp n q u (by simpa using hn) h1 with⟨l,k1,k2,k3⟩|⟨m,k,k1,k2,k3,k4⟩
  ·obtain⟨k,j1,j2,j3⟩:=h.step u a l k1 k2 h2 h3
   have qa:=j3.trans (k3.app [a]);cases hd:k.done
   ·exact .inr ⟨_,k,j1,j2,hd,qa⟩
   ·exact .inl ⟨k,j1,hd,qa⟩
  ·exact .inr ⟨m,k,k1,k2,k3,k4.trans (leL.ext hp q [a])⟩
structure DJ(t:Tp)(down:List Bool)(ps:List Rat)(s d n:Nat)(X:List Nat)(done:List Nat)(ls:List Lb):Prop where
 len:ls.length=t.nodes.toNat
 walk:∀(v:Nat) (l:Lb),ls[v]?=some l->l.known=true->FW t down d s l.arcs v
 src:∃l,ls[s]?=some l/\l.known=true/\l.arcs=[]
 dd:∀l,ls[d]?=some l->l.done=false
 kn:∀(v:Nat) (l:Lb),ls[v]?=some l->l.done=true->l.known=true
 lo:∀(v m:Nat) (l k:Lb),ls[v]?=some l->l.done=true->ls[m]?=some k->k.known=true->k.done=false->leL ps l.arcs k.arcs
 step:∀(u a:Nat) (l:Lb),u≠n->ls[u]?=some l->l.done=true->a∈leavP t u->usableP t down a d=true->∃k,ls[(headP t a).toNat]?=some k/\k.known=true/\leL ps k.arcs (l.arcs++[a])
 own:∃l,ls[n]?=some l/\l.done=true/\l.known=true/\l.arcs=X
 all:∀(v:Nat) (l:Lb),ls[v]?=some l->l.done=true->leL ps l.arcs X
 past:∀a∈done,usableP t down a d=true->∃k,ls[(headP t a).toNat]?=some k/\k.known=true/\leL ps k.arcs (X++[a])
theorem DI.mark{t:Tp}{down:List Bool}{ps:List Rat}{s d:Nat}{ls:List Lb}(h:DI t down ps s d ls)(h0:0<=firstP ps ls)(hd:(firstP ps ls).toNat≠d):
  DJ t down ps s d (firstP ps ls).toNat (arcsOf ls (firstP ps ls).toNat) [] (markP ls (firstP ps ls).toNat):=by
 obtain⟨l,h1,h2,h3⟩:=jza2 ps ls ls.length h0;have h1:ls[(firstP ps ls).toNat]?=some l:=h1;have qe:∀(m:Nat) (k:Lb),ls[m]?=some k->k.known=true->k.done=false->leL ps l.arcs k.arcs:=fun m k e1 e2 e3=>by
  have:=(jze0 (ps:=ps) e1 e2 e3).2;unfold arcsOf at this;rw [h1]at this;exact this
 have hX:arcsOf ls (firstP ps ls).toNat=l.arcs:=(by unfold arcsOf;rw [h1];rfl);rw [hX];generalize (firstP ps ls).toNat=n at*;have qg:=(yH.1 h1).1;have hm:markP ls n=ls.set n ⟨l.known,true,l.arcs⟩:=(by unfold markP;rw [h1]);rw [hm];have qa:∀(v:Nat) (k:Lb),(ls.set n ⟨l.known,true,l.arcs⟩)[v]?=some k->(v=n/\k=⟨l.known,true,l.arcs⟩)\/(v≠n/\ls[v]?=some k):=fun v k e=>by
  by_cases hv:v=n
  ·subst hv
   rw [yM qg]at e;injection e with e
   exact .inl ⟨rfl,e.symm⟩
  ·rw [vN (fun h=>hv h.symm)]at e
   exact .inr ⟨hv,e⟩
 have put:∀(v:Nat) (k:Lb),ls[v]?=some k->∃k',(ls.set n ⟨l.known,true,l.arcs⟩)[v]?=some k'/\k'.known=k.known/\k'.arcs=k.arcs:=fun v k e=>by
  by_cases hv:v=n
  ·subst hv
   rw [h1]at e;injection e with e
   subst e;exact⟨_,yM qg,rfl,rfl⟩
  ·exact⟨k,by rw [vN (fun h=>hv h.symm)];exact e,rfl,rfl⟩
 refine⟨by rw [yV];exact h.len,?_,?_,?_,?_,?_,?_,⟨_,yM qg,rfl,h2,rfl⟩,?_,by simp⟩
 ·intro v k e hk
  rcases qa v k e with⟨rfl,rfl⟩|⟨_,e'⟩
  ·exact h.walk _ l h1 h2
  ·exact h.walk v k e' hk
 ·obtain⟨k,e1,e2,e3⟩:=h.src
  obtain⟨k',f1,f2,f3⟩:=put s k e1;exact⟨k',f1,f2.trans e2,f3.trans e3⟩
 ·intro k e
  rcases qa d k e with⟨rfl,rfl⟩|⟨_,e'⟩
  ·exact absurd rfl hd
  ·exact h.dd k e'
 ·intro v k e hk
  rcases qa v k e with⟨rfl,rfl⟩|⟨_,e'⟩
  ·exact h2
  ·exact h.kn v k e' hk
 ·intro v m x k ev hx em qh qf
  rcases qa m k em with⟨rfl,rfl⟩|⟨_,em'⟩
  ·cases qf
  ·rcases qa v x ev with⟨rfl,rfl⟩|⟨_,ev'⟩
   ·exact qe m k em' qh qf
   ·exact h.lo v m x k ev' hx em' qh qf
 ·intro u a x hu e hx ha qi
  rcases qa u x e with⟨rfl,rfl⟩|⟨_,e'⟩
  ·exact absurd rfl hu
  ·obtain⟨k,f1,f2,f3⟩:=h.step u a x e' hx ha qi
   obtain⟨k',g1,g2,g3⟩:=put _ k f1;exact⟨k',g1,g2.trans f2,by rw [g3];exact f3⟩
 ·intro v x e hx
  rcases qa v x e with⟨rfl,rfl⟩|⟨_,e'⟩
  ·exact leL.refl _ _
  ·exact h.lo v n x l e' hx h1 h2 h3
theorem DJ.relax{t:Tp}{down:List Bool}{ps:List Rat}{s d n:Nat}{X done:List Nat}{ls:List Lb}(h:DJ t down ps s d n X done ls)(hv:validP t=true)(hp:posQ ps){a:Nat}(ha:a∈leavP t n):
  DJ t down ps s d n X (done++[a]) (relaxP t down ps d n ls a):=by
 obtain⟨qA,qB,qz,_⟩:=jzag hv ha;obtain⟨ln,qh,qo,qn,qk⟩:=h.own;have hX:arcsOf ls n=X:=(by unfold arcsOf;rw [qh];exact qk);obtain⟨lm,qe⟩:∃lm,ls[(headP t a).toNat]?=some lm:=⟨_,yG (by rw [h.len];exact qz)⟩;have qj:=(yH.1 qe).1;unfold relaxP;rw [qe,hX];simp only []
 split
 ·rename_i hc
  refine⟨h.len,h.walk,h.src,h.dd,h.kn,h.lo,h.step,h.own,h.all,fun b hb qf=>?_⟩;rcases xY.1 hb with hb|hb
  ·exact h.past b hb qf
  ·have:b=a:=by simpa using hb
   subst this;rw [qf]at hc;have qp:lm.done=true:=(by simpa using hc);exact⟨lm,qe,h.kn _ lm qe qp,(h.all _ lm qe qp).trans (leL.ext hp X [b])⟩
 ·rename_i hc
  simp only [Bool.or_eq_true,not_or,Bool.not_eq_true,Bool.not_eq_false']at hc;obtain⟨qt,qi⟩:=hc;have qi:usableP t down a d=true:=by simpa using qi
  split
  ·rename_i hb
   have qm:lm.known=true->leL ps (X++[a]) lm.arcs:=fun hk=>by
    rw [hk]at hb;exact leL.of_bef (by simpa using hb)
   generalize hM:(headP t a).toNat=M at*;have qg:∀(v:Nat) (k:Lb),(ls.set M ⟨true,false,X++[a]⟩)[v]?=some k->(v=M/\k=⟨true,false,X++[a]⟩)\/(v≠M/\ls[v]?=some k):=fun v k e=>by
    by_cases hv:v=M
    ·subst hv
     rw [yM qj]at e;injection e with e
     exact .inl ⟨rfl,e.symm⟩
    ·rw [vN (fun h=>hv h.symm)]at e
     exact .inr ⟨hv,e⟩
   have put:∀(v:Nat) (k:Lb),ls[v]?=some k->k.known=true->∃k',(ls.set M ⟨true,false,X++[a]⟩)[v]?=some k'/\k'.known=true/\leL ps k'.arcs k.arcs:=fun v k e hk=>by
    by_cases hv:v=M
    ·subst hv
     rw [qe]at e;injection e with e
     subst e;exact⟨_,yM qj,rfl,qm hk⟩
    ·exact⟨k,by rw [vN (fun h=>hv h.symm)];exact e,hk,leL.refl _ _⟩
   have qw:n≠M:=by
    rintro rfl;rw [qh]at qe;injection qe with e
    rw [<-e,qo]at qt;cases qt
   refine⟨by rw [yV];exact h.len,?_,?_,?_,?_,?_,?_,⟨ln,by rw [vN (fun h=>qw h.symm)];exact qh,qo,qn,qk⟩,?_,?_⟩
   ·intro v k e hk
    rcases qg v k e with⟨rfl,rfl⟩|⟨_,e'⟩
    ·have:=FW.app X (by rw [<-qk];exact h.walk n ln qh qn) (FW.one ha qi)
     rw [hM]at this;exact this
    ·exact h.walk v k e' hk
   ·obtain⟨k,e1,e2,e3⟩:=h.src
    by_cases hs:s=M
    ·subst hs
     rw [qe]at e1;injection e1 with e1
     subst e1;have h9:=(qm e2).anti (by rw [e3];exact leL.nil hp _);rw [e3]at h9;simp at h9
    ·exact⟨k,by rw [vN (fun h=>hs h.symm)];exact e1,e2,e3⟩
   ·intro k e
    rcases qg d k e with⟨rfl,rfl⟩|⟨_,e'⟩
    ·rfl
    ·exact h.dd k e'
   ·intro v k e hk
    rcases qg v k e with⟨rfl,rfl⟩|⟨_,e'⟩
    ·rfl
    ·exact h.kn v k e' hk
   ·intro v m x k ev hx em qx qy
    rcases qg v x ev with⟨rfl,rfl⟩|⟨_,ev'⟩
    ·cases hx
    ·rcases qg m k em with⟨rfl,rfl⟩|⟨_,em'⟩
     ·exact(h.all v x ev' hx).trans (leL.ext hp X [a])
     ·exact h.lo v m x k ev' hx em' qx qy
   ·intro u b x hu e hx qa qf
    rcases qg u x e with⟨rfl,rfl⟩|⟨_,e'⟩
    ·cases hx
    ·obtain⟨k,f1,f2,f3⟩:=h.step u b x hu e' hx qa qf
     obtain⟨k',g1,g2,g3⟩:=put _ k f1 f2;exact⟨k',g1,g2,g3.trans f3⟩
   ·intro v x e hx
    rcases qg v x e with⟨rfl,rfl⟩|⟨_,e'⟩
    ·cases hx
    ·exact h.all v x e' hx
   ·intro b qa qf
    rcases xY.1 qa with qa|qa
    ·obtain⟨k,f1,f2,f3⟩:=h.past b qa qf
     obtain⟨k',g1,g2,g3⟩:=put _ k f1 f2;exact⟨k',g1,g2,g3.trans f3⟩
    ·have:b=a:=by simpa using qa
     subst this;rw [hM];exact⟨_,yM qj,rfl,leL.refl _ _⟩
  ·rename_i hb
   simp only [Bool.or_eq_true,not_or,Bool.not_eq_true,Bool.not_eq_false']at hb;refine⟨h.len,h.walk,h.src,h.dd,h.kn,h.lo,h.step,h.own,h.all,fun b qa qf=>?_⟩;rcases xY.1 qa with qa|qa
   ·exact h.past b qa qf
   ·have:b=a:=by simpa using qa
    subst this;exact⟨lm,qe,by simpa using hb.1,hb.2⟩
theorem DJ.fold{t:Tp}{down:List Bool}{ps:List Rat}{s d n:Nat}{X:List Nat}(hv:validP t=true)(hp:posQ ps):∀(al done:List Nat) (ls:List Lb),DJ t down ps s d n X done ls->(∀a∈al,a∈leavP t n)->DJ t down ps s d n X (done++al) (al.foldl (relaxP t down ps d n) ls)
 | [],done,ls,h,_=>by rw [List.append_nil];exact h
 |a::al,done,ls,h,ha=>by
  have:=DJ.fold hv hp al (done++[a]) _ (h.relax hv hp (ha a (by simp))) (fun b hb=>ha b (by simp [hb]));rw [List.append_assoc]at this;exact this
theorem DJ.di{t:Tp}{down:List Bool}{ps:List Rat}{s d n:Nat}{X:List Nat}{ls:List Lb}(h:DJ t down ps s d n X (leavP t n) ls):DI t down ps s d ls:=by
 refine⟨h.len,h.walk,h.src,h.dd,h.kn,h.lo,fun u a l e hl ha hus=>?_⟩;by_cases hu:u=n
 ·subst hu
  obtain⟨ln,qe,_,_,qa⟩:=h.own;rw [qe]at e;injection e with e
  subst e;rw [qa];exact h.past a ha hus
 ·exact h.step u a l hu e hl ha hus
theorem jzeb(t:Tp)(down:List Bool)(ps:List Rat)(d n:Nat):∀(al:List Nat) (ls:List Lb),undone (al.foldl (relaxP t down ps d n) ls)=undone ls
 | [],_=>rfl
 |a::al,ls=>by rw [List.foldl_cons,jzeb t down ps d n al,jzdg]
theorem jzk7{t:Tp}{down:List Bool}{ps:List Rat}{s d:Nat}(hv:validP t=true)(hp:posQ ps):∀(f:Nat) (ls:List Lb),DI t down ps s d ls->undone ls<f->
  match dijP t down ps d f ls with
  |none=>∀p,¬FW t down d s p d
  |some p=>FW t down d s p d/\∀q,FW t down d s q d->leL ps p q
 |0,ls,_,h=>by omega
 |f+1,ls,hi,hf=>by
  unfold dijP;by_cases h1:firstP ps ls<0
  ·rw [if_pos h1]
   simp only [];intro p hw;rcases hi.low hp _ p d rfl hw with⟨l,k1,k2,_⟩|⟨m,k,k1,k2,k3,_⟩
   ·rw [hi.dd l k1]at k2;cases k2
   ·have:=(jze0 (ps:=ps) k1 k2 k3).1
    omega
  ·rw [if_neg h1]
   by_cases h2:(firstP ps ls).toNat=d
   ·rw [if_pos h2]
    simp only [];obtain⟨l,e1,e2,e3⟩:=jza2 ps ls ls.length (show 0<=firstP ps ls by omega);have e1:ls[(firstP ps ls).toNat]?=some l:=e1;have hX:arcsOf ls (firstP ps ls).toNat=l.arcs:=(by unfold arcsOf;rw [e1];rfl);refine⟨?_,fun q hw=>?_⟩
    ·rw [hX]
     have:=hi.walk _ l e1 e2;rw [h2]at this;exact this
    ·rcases hi.low hp _ q d rfl hw with⟨l,k1,k2,_⟩|⟨m,k,k1,k2,k3,k4⟩
     ·rw [hi.dd l k1]at k2;cases k2
     ·exact(jze0 k1 k2 k3).2.trans k4
   ·rw [if_neg h2]
    have hj:=(DJ.fold hv hp (leavP t (firstP ps ls).toNat) [] _ (hi.mark (by omega) h2) (fun _ h=>h));rw [List.nil_append]at hj;refine jzk7 hv hp f _ hj.di ?_;rw [jzeb];obtain⟨l,e1,e2,e3⟩:=jza2 ps ls ls.length (show 0<=firstP ps ls by omega);have:=jzd6 (ls:=ls) e1 e3;unfold firstP at*;omega
theorem init_di{t:Tp}{down:List Bool}{ps:List Rat}{s d:Nat}(hs:s<t.nodes.toNat):DI t down ps s d (initP t.nodes.toNat s):=by
 unfold initP;have qa:∀(v:Nat) (k:Lb),((List.replicate t.nodes.toNat (⟨false,false,[]⟩:Lb)).set s ⟨true,false,[]⟩)[v]?=some k->k.done=false/\k.arcs=[]/\(k.known=true->v=s):=fun v k e=>by
  by_cases hv:v=s
  ·subst hv
   rw [yM (by simp [hs])]at e;injection e with e
   subst e;exact⟨rfl,rfl,fun _=>rfl⟩
  ·rw [vN (fun h=>hv h.symm)]at e
   have:=uF (yJ e);subst this;exact⟨rfl,rfl,fun h=>by cases h⟩
 refine⟨by simp,?_,⟨_,yM (by simp [hs]),rfl,rfl⟩,fun l e=>(qa d l e).1,?_,?_,?_⟩
 ·intro v k e hk
  have:=qa v k e;rw [this.2.1,this.2.2 hk];exact rfl
 ·intro v k e hk
  rw [(qa v k e).1]at hk;cases hk
 ·intro v m l k e hk
  rw [(qa v l e).1]at hk;cases hk
 ·intro u a l e hk
  rw [(qa u l e).1]at hk;cases hk
theorem jzax{t:Tp}{ps:List Rat}(h:pricedP t ps=true):posQ ps:=by
 intro a;cases e:ps[a]? with
 |none=>exact vC
 |some q=>
  unfold pricedP at h;simp at h;have:=h.2 q (yJ e);rw [Option.getD_some, <-Rat.not_lt, <-sgn_neg];omega
theorem FW.lt{t:Tp}{down:List Bool}{d:Nat}(hv:validP t=true):∀(p:List Nat) {u v:Nat},u<t.nodes.toNat->FW t down d u p v->v<t.nodes.toNat
 | [],_,_,hu,h=>by
   have h:_=_:=h;rw [<-h];exact hu
 |_::p,_,_,_,h=>FW.lt hv p (jzag hv h.1).2.2.1 h.2.2
theorem snoc_of{α:Type}:∀(p:List α),p=[]\/∃q a,p=q++[a]:=fun p=>by
 by_cases h:p=[]
 ·exact .inl h
 ·exact .inr ⟨p.dropLast,p.getLast h,(List.dropLast_concat_getLast h).symm⟩
theorem jzgr{t:Tp}(hv:validP t=true){u a:Nat}(h:a∈leavP t u):((headP t a).toNat:Int)=headP t a:=by
 have:=(jzag hv h).1;omega
theorem FW.alive{t:Tp}{down:List Bool}{s d:Nat}(hv:validP t=true){p:List Nat}{v:Nat}(h:FW t down d s p v):v=s\/v=d\/overP t (v:Int)=false:=by
 rcases snoc_of p with rfl|⟨q,a,rfl⟩
 ·exact .inl (show s=v from h).symm
 ·obtain⟨u,_,h2,h3,rfl⟩:=FW.snoc_inv q h
  unfold usableP at h3;rw [<-jzgr hv h2,vM,Bool.or_eq_true,Bool.not_eq_true',Bool.not_eq_true',beq_iff_eq]at h3;rcases h3.2 with h4|h4
  ·exact .inr (.inl (by omega))
  ·exact .inr (.inr h4)
def KL(t:Tp)(down:List Bool)(s d n:Nat)(x:List Nat):Prop:=
 (x=[]/\n=s)\/∃(y:List Nat) (a u:Nat),x=y++[a]/\FW t down d s y u/\a∈leavP t u/\downP down a=false/\n=(headP t a).toNat
theorem KL.fw{t:Tp}{down:List Bool}{s d n:Nat}{x:List Nat}(hv:validP t=true)(h:KL t down s d n x)(hl:x=[]\/n=d\/overP t (n:Int)=false):FW t down d s x n:=by
 rcases h with⟨rfl,rfl⟩|⟨y,a,u,rfl,h1,h2,h3,rfl⟩
 ·rfl
 ·refine FW.app y h1 (FW.one h2 ?_)
  unfold usableP;rw [<-jzgr hv h2,h3];rcases hl with hl|hl|hl
  ·simp at hl
  ·rw [hl];simp
  ·rw [hl];simp
structure KI(t:Tp)(down:List Bool)(ps:List Rat)(s d:Nat)(V:List Bool)(fin:Nat->List Nat)(H:List (Nat×List Nat))(n:Nat)(todo:List Nat):Prop where
 len:V.length=t.nodes.toNat
 lab:∀m x,(m,x)∈H->KL t down s d m x
 size:∀m x,(m,x)∈H->x.length<=V.count true
 best:∀u,V[u]?=some true->u=s\/overP t (u:Int)=false->FW t down d s (fin u) u/\(fin u).length<V.count true/\∀p,FW t down d s p u->leL ps (fin u) p
 front:∀u a,V[u]?=some true->u=s\/overP t (u:Int)=false->a∈leavP t u->downP down a=false->V[(headP t a).toNat]?=some false->(u=n/\a∈todo)\/((headP t a).toNat,fin u++[a])∈H
 src:V[s]?=some false->(s,[])∈H
 dd:V[d]?=some false
theorem KI.low{t:Tp}{down:List Bool}{ps:List Rat}{s d n:Nat}{V:List Bool}{fin:Nat->List Nat}{H:List (Nat×List Nat)}(h:KI t down ps s d V fin H n [])(hv:validP t=true)(hp:posQ ps)(hs:s<t.nodes.toNat):∀(k:Nat) (p:List Nat) (v:Nat),p.length=k->FW t down d s p v->V[v]?=some false->∃m y,(m,y)∈H/\leL ps y p
 |0,p,v,hk,hw,hV=>by
  have:p=[]:=List.length_eq_zero_iff.1 hk;subst this;have hw:s=v:=hw;subst hw;exact⟨s,[],h.src hV,leL.refl _ _⟩
 |k+1,p,v,hk,hw,hV=>by
  obtain⟨q,a,rfl⟩:∃q a,p=q++[a]:=by
   rcases snoc_of p with rfl|h1
   ·simp at hk
   ·exact h1
  obtain⟨u,h1,h2,h3,rfl⟩:=FW.snoc_inv q hw;have hu:=FW.lt hv q hs h1;obtain⟨b,hb⟩:∃b,V[u]?=some b:=⟨_,yG (by rw [h.len];exact hu)⟩;cases b
  case false=>
   obtain⟨m,y,i1,i2⟩:=h.low hv hp hs k q u (by simpa using hk) h1 hb;exact⟨m,y,i1,i2.trans (leL.ext hp q [a])⟩
  case true=>
   have qa:u=s\/overP t (u:Int)=false:=by
    rcases h1.alive hv with h4|h4|h4
    ·exact .inl h4
    ·subst h4;rw [h.dd]at hb;cases hb
    ·exact .inr h4
   have qe:downP down a=false:=by
    unfold usableP at h3;simp at h3;exact h3.1
   rcases h.front u a hb qa h2 qe hV with⟨_,h4⟩|h4
   ·cases h4
   ·exact⟨_,_,h4,((h.best u hb qa).2.2 q h1).app [a]⟩
theorem KI.none_{t:Tp}{down:List Bool}{ps:List Rat}{s d n:Nat}{V:List Bool}{fin:Nat->List Nat}(h:KI t down ps s d V fin [] n [])(hv:validP t=true)(hp:posQ ps)(hs:s<t.nodes.toNat)(p:List Nat):¬FW t down d s p d:=fun hw=>by
 obtain⟨m,y,h1,_⟩:=h.low hv hp hs _ p d rfl hw h.dd;cases h1
section
variable {t:Tp} {down:List Bool} {ps:List Rat} {s d n k:Nat} {V:List Bool} {fin:Nat->List Nat} {H H':List (Nat×List Nat)} {x:List Nat}
theorem KI.skip(h:KI t down ps s d V fin H k [])(h1:∀z,z∈H->z=(n,x)\/z∈H')(h2:∀z,z∈H'->z∈H)(hV:V[n]?=some true)(m:Nat):KI t down ps s d V fin H' m []:=by
 refine⟨h.len,fun m x hx=>h.lab m x (h2 _ hx),fun m x hx=>h.size m x (h2 _ hx),h.best,fun u a g1 g2 g3 g4 g5=>.inr ?_,fun hS=>?_,h.dd⟩
 ·rcases h.front u a g1 g2 g3 g4 g5 with⟨_,g6⟩|g6
  ·cases g6
  ·rcases h1 _ g6 with e|e
   ·injection e with e1 e2
    rw [e1,hV]at g5;cases g5
   ·exact e
 ·rcases h1 _ (h.src hS)with e|e
  ·injection e with e1 e2
   rw [e1,hV]at hS;cases hS
  ·exact e
theorem KI.least(h:KI t down ps s d V fin H k [])(hv:validP t=true)(hp:posQ ps)(hs:s<t.nodes.toNat)(hx:(n,x)∈H)(hm:∀m y,(m,y)∈H->leL ps x y)(hV:V[n]?=some false):∀p,FW t down d s p n->leL ps x p:=fun p hw=>by
 obtain⟨m,y,h1,h2⟩:=h.low hv hp hs _ p n rfl hw hV;exact(hm m y h1).trans h2
theorem KI.found(h:KI t down ps s d V fin H k [])(hv:validP t=true)(hp:posQ ps)(hs:s<t.nodes.toNat)(hx:(d,x)∈H)(hm:∀m y,(m,y)∈H->leL ps x y):FW t down d s x d/\∀p,FW t down d s p d->leL ps x p:=
 ⟨(h.lab _ _ hx).fw hv (.inr (.inl rfl)),h.least hv hp hs hx hm h.dd⟩
theorem jzi0{V:List Bool}{n:Nat}(hV:V[n]?=some false):(V.set n true).count true=V.count true+1:=by
 have hl:=(yH.1 hV).1;have he:=(yH.1 hV).2;rw [List.count_set hl,he];simp
theorem KI.reach(h:KI t down ps s d V fin H k [])(hv:validP t=true)(hp:posQ ps)(hs:s<t.nodes.toNat)(hx:(n,x)∈H)(h1:∀z,z∈H->z=(n,x)\/z∈H')(h2:∀z,z∈H'->z∈H)(hm:∀m y,(m,y)∈H->leL ps x y)(hV:V[n]?=some false)(hd:n≠d):
  KI t down ps s d (V.set n true) (fun u=>if u=n then x else fin u) H' n (leavP t n):=by
 have hc:=jzi0 hV;have hl:=(yH.1 hV).1;have hg:∀u b,u≠n->(V.set n true)[u]?=some b->V[u]?=some b:=fun u b hu hb=>(by rwa [vN (fun e=>hu e.symm)]at hb);have qa:∀u,(V.set n true)[u]?=some false->u≠n/\V[u]?=some false:=fun u hb=>by
  have hu:u≠n:=fun e=>(by subst e;rw [yM hl]at hb;cases hb);exact⟨hu,hg u false hu hb⟩
 refine⟨by rw [yV];exact h.len,fun m x hx=>h.lab m x (h2 _ hx),fun m x hx=>by rw [hc];have:=h.size m x (h2 _ hx);omega,fun u hu hal=>?_,fun u a g1 g2 g3 g4 g5=>?_,fun hS=>?_,by rw [vN hd];exact h.dd⟩
 ·by_cases e:u=n
  ·subst e
   simp only [if_true];have qe:u=s->x=[]:=fun e=>by
    subst e;exact((hm _ _ (h.src hV)).anti (leL.nil hp x))
   refine⟨(h.lab _ _ hx).fw hv ?_,by have:=h.size _ _ hx;omega,h.least hv hp hs hx hm hV⟩;rcases hal with e|e
   ·exact .inl (qe e)
   ·exact .inr (.inr e)
  ·simp only [if_neg e]
   obtain⟨i1,i2,i3⟩:=h.best u (hg u true e hu) hal;exact⟨i1,by omega,i3⟩
 ·obtain⟨g6,g7⟩:=qa _ g5
  by_cases e:u=n
  ·subst e;exact .inl ⟨rfl,g3⟩
  ·simp only [if_neg e]
   rcases h.front u a (hg u true e g1) g2 g3 g4 g7 with⟨_,g8⟩|g8
   ·cases g8
   ·rcases h1 _ g8 with e2|e2
    ·injection e2 with e3 e4
     exact absurd e3 g6
    ·exact .inr e2
 ·obtain⟨g6,g7⟩:=qa _ hS
  rcases h1 _ (h.src g7)with e2|e2
  ·injection e2 with e3 e4
   exact absurd e3 g6
  ·exact e2
theorem KI.dead{todo:List Nat}(h:KI t down ps s d V fin H n todo)(hn:n≠s)(ho:overP t (n:Int)=true)(m:Nat):KI t down ps s d V fin H m []:=by
 refine⟨h.len,h.lab,h.size,h.best,fun u a g1 g2 g3 g4 g5=>.inr ?_,h.src,h.dd⟩;rcases h.front u a g1 g2 g3 g4 g5 with⟨rfl,_⟩|g6
 ·rcases g2 with g2|g2
  ·exact absurd g2 hn
  ·rw [ho]at g2;cases g2
 ·exact g6
theorem KI.off{a:Nat}{todo:List Nat}(h:KI t down ps s d V fin H n (a::todo))(hd:downP down a=true):KI t down ps s d V fin H n todo:=by
 refine⟨h.len,h.lab,h.size,h.best,fun u b g1 g2 g3 g4 g5=>?_,h.src,h.dd⟩;rcases h.front u b g1 g2 g3 g4 g5 with⟨rfl,g6⟩|g6
 ·rcases xZ.1 g6 with rfl|g6
  ·rw [hd]at g4;cases g4
  ·exact .inl ⟨rfl,g6⟩
 ·exact .inr g6
theorem KI.push{a:Nat}{todo:List Nat}(h:KI t down ps s d V fin H n (a::todo))(hn:V[n]?=some true)(hal:n=s\/overP t (n:Int)=false)(ha:a∈leavP t n)(hd:downP down a=false)(hH:∀z,z∈H'↔z=((headP t a).toNat,fin n++[a])\/z∈H):KI t down ps s d V fin H' n todo:=by
 obtain⟨b1,b2,_⟩:=h.best n hn hal;refine⟨h.len,fun m x hx=>?_,fun m x hx=>?_,h.best,fun u b g1 g2 g3 g4 g5=>?_,fun hS=>(hH _).2 (.inr (h.src hS)),h.dd⟩
 ·rcases(hH _).1 hx with e|e
  ·injection e with e1 e2
   subst e1 e2;exact .inr ⟨fin n,a,n,rfl,b1,ha,hd,rfl⟩
  ·exact h.lab _ _ e
 ·rcases(hH _).1 hx with e|e
  ·injection e with e1 e2
   subst e2;simp;omega
  ·exact h.size _ _ e
 ·rcases h.front u b g1 g2 g3 g4 g5 with⟨rfl,g6⟩|g6
  ·rcases xZ.1 g6 with rfl|g6
   ·exact .inr ((hH _).2 (.inl rfl))
   ·exact .inl ⟨rfl,g6⟩
  ·exact .inr ((hH _).2 (.inr g6))
theorem KI.start(hs:s<t.nodes.toNat)(hd:d<t.nodes.toNat)(m:Nat):KI t down ps s d (List.replicate t.nodes.toNat false) fin [(s,[])] m []:=by
 have qa:∀u b,(List.replicate t.nodes.toNat false)[u]?=some b->b=false:=fun u b h=>by
  rw [xB]at h
  split at h
  ·injection h with h;exact h.symm
  ·cases h
 refine⟨by simp,fun m x hx=>?_,fun m x hx=>?_,fun u hu=>?_,fun u a hu=>?_,fun _=>by simp,by rw [xB,if_pos hd]⟩
 ·simp at hx
  exact .inl ⟨hx.2,hx.1⟩
 ·simp at hx
  rw [hx.2];simp
 ·cases qa _ _ hu
 ·cases qa _ _ hu
end
theorem costL_len(t:Tp):(costL t).length=2*t.links.length:=by unfold costL;simp
theorem jzcf(t:Tp):posQ (costL t):=fun a=>by
 cases h:(costL t)[a]? with
 |none=>exact vC
 |some q=>
  unfold costL at h;rw [yW]at h;cases h2:(List.range (2*t.links.length))[a]? with
  |none=>rw [h2]at h;cases h
  |some b=>
   rw [h2]at h;injection h with h
   show(0:Rat)<=q;rw [<-h];exact Rat.intCast_nonneg.2 (by omega)
theorem jzdp(t:Tp):pricedP t (costL t)=true:=by
 unfold pricedP;rw [costL_len,yO rfl];have:(costL t).any (fun q=>decide (sgnI q<0))=false:=by
  rw [List.any_eq_false];intro q hq;unfold costL at hq;obtain⟨a,_,rfl⟩:=List.mem_map.1 hq;simp only [decide_eq_true_eq];rw [sgn_neg,Rat.not_lt];exact Rat.intCast_nonneg.2 (by omega)
 rw [this];rfl
theorem jzk8{t:Tp}(hv:validP t=true)(a:Nat):costP t a<=65535:=by
 unfold costP;cases h:t.links[a/2]? with
 |none=>simp
 |some l=>
  unfold validP at hv;rw [vM,xW]at hv;have qa:=hv.2 l (yJ h);unfold Lk.ok inB at qa;simp at qa;simp only []
  split <;> omega
theorem kcost_le{t:Tp}(hv:validP t=true):∀x:List Nat,kcost t x<=65535*x.length:=fun x=>by
 have qa:∀(y:List Nat) (s:Nat),y.foldl (fun s a=>s+costP t a) s<=s+65535*y.length:=by
  intro y
  induction y with
  |nil=>intro s;simp
  |cons a y ih=>
   intro s;have:=ih (s+costP t a);have h2:=jzk8 hv a;rw [List.foldl_cons,List.length_cons];omega
 have:=qa x 0;unfold kcost;omega
theorem jzho{t:Tp}{down:List Bool}{s d:Nat}(hv:validP t=true)(hs:s<t.nodes.toNat):match cheapP t down (costL t) s d with
  |none=>∀p,¬FW t down d s p d
  |some p=>FW t down d s p d/\∀q,FW t down d s q d->leL (costL t) p q:=by
 unfold cheapP;exact jzk7 hv (jzcf t) (t.nodes.toNat+1) (initP t.nodes.toNat s) (init_di hs) (by
  have:=jzc4 (initP t.nodes.toNat s);have h2:(initP t.nodes.toNat s).length=t.nodes.toNat:=(by unfold initP;simp);omega)
theorem cheap_is{t:Tp}{down:List Bool}{s d:Nat}{x:List Nat}(hv:validP t=true)(hs:s<t.nodes.toNat)(h1:FW t down d s x d)(h2:∀q,FW t down d s q d->leL (costL t) x q):cheapP t down (costL t) s d=some x:=by
 have h:=jzho (down:=down) (d:=d) hv hs;cases hc:cheapP t down (costL t) s d with
 |none=>rw [hc]at h;exact absurd h1 (h x)
 |some p=>
  rw [hc]at h;rw [(h.2 x h1).anti (h2 p h.1)]
theorem cheap_no{t:Tp}{down:List Bool}{s d:Nat}(hv:validP t=true)(hs:s<t.nodes.toNat)(h1:∀p,¬FW t down d s p d):cheapP t down (costL t) s d=none:=by
 have h:=jzho (down:=down) (d:=d) hv hs;cases hc:cheapP t down (costL t) s d with
 |none=>rfl
 |some p=>rw [hc]at h;exact absurd h.1 (h1 p)
theorem leO_cost(t:Tp):LeO (fun x y:Nat×List Nat=>leL (costL t) x.2 y.2):=⟨fun x=>leL.refl _ _,fun x y z h1 h2=>h1.trans h2,fun x y=>by
 by_cases h:befP (costL t) x.2 y.2=true
 ·exact .inl (leL.of_bef h)
 ·exact .inr (leL.of_not h)⟩
theorem leK_iff(t:Tp)(x y:List Nat):leL (costL t) x y↔¬ordK t y x<0:=by
 unfold leL;rw [bef_ord,decide_eq_false_iff_not]
def PO(t:Tp):Nat->Bool->List Nat->Nat->Prop
 |u,_,[],v=>u=v
 |u,first,a::p,v=>a∈leavP t u/\(first=true\/overP t (u:Int)=false)/\PO t (headP t a).toNat false p v
theorem FW.po{t:Tp}{down:List Bool}{d:Nat}(hv:validP t=true):∀(p:List Nat) {u v:Nat} (first:Bool),FW t down d u p v->(first=true\/p=[]\/overP t (u:Int)=false)->(∀q z w,p=q++z->q≠ []->z≠ []->FW t down d u q w->w≠d)->PO t u first p v
 | [],_,_,_,h,_,_=>h
 |a::p,u,v,first,h,ho,hm=>by
  refine⟨h.1,?_,FW.po hv p false h.2.2 ?_ ?_⟩
  ·rcases ho with h1|h1|h1
   ·exact .inl h1
   ·cases h1
   ·exact .inr h1
  ·by_cases e:p=[]
   ·exact .inr (.inl e)
   ·have h1:=hm [a] p _ rfl (by simp) e (FW.one h.1 h.2.1)
    have h2:=h.2.1;unfold usableP at h2;rw [<-jzgr hv h.1,vM,Bool.or_eq_true,Bool.not_eq_true',Bool.not_eq_true',beq_iff_eq]at h2;rcases h2.2 with h3|h3
    ·exact absurd (by omega) h1
    ·exact .inr (.inr h3)
  ·intro q z w e hq hz hw
   exact hm (a::q) z w (by rw [e];rfl) (by simp) hz ⟨h.1,h.2.1,hw⟩
end Go.Proofs.YthbmikapohlikaaGreatDoor
namespace Go.Proofs.YthbmikapohlikaaGreatDoor
namespace Sx
def lists(L:Nat):Nat->List (List Nat)
 |0=>[[]]
 |n+1=>(List.range L).flatMap fun a=>(lists L n).map (a:: ·)
theorem jzhp(L:Nat):∀{l:List Nat},(∀a∈l,a<L)->l∈lists L l.length
 | [],_=>by simp [lists]
 |a::l,h=>List.mem_flatMap.2 ⟨a,vX.2 (h a (by simp)),List.mem_map.2 ⟨l,jzhp L fun b hb=>h b (by simp [hb]),rfl⟩⟩
theorem jze1{α β:Type}(f:α->List β)(c:Nat):∀{l:List α},(∀a∈l,(f a).length<=c)->(l.flatMap f).length<=l.length*c
 | [],_=>yZ _
 |a::l,h=>by
  rw [xU,yQ,List.length_cons,Nat.succ_mul];have h1:=h a (by simp);have h2:=jze1 f c (l:=l) fun b hb=>h b (by simp [hb]);omega
theorem jzhq(L:Nat):∀n,(lists L n).length<=L^n
 |0=>yX _
 |n+1=>by
  have:=jze1 (fun a=>(lists L n).map (a:: ·)) (L^n) (l:=List.range L) fun a _=>(by rw [xV];exact jzhq L n);rw [List.length_range]at this;rw [vD,vE];exact this
def cands(D L n:Nat):List (Nat×List Nat):=(List.range D).flatMap fun d=>(List.range (n+1)).flatMap fun k=>(lists L k).map fun l=>(d,l)
theorem mem_cands{D L n:Nat}{p:Nat×List Nat}(h1:p.1<D)(h2:∀a∈p.2,a<L)(h3:p.2.length<=n):p∈cands D L n:=
 List.mem_flatMap.2 ⟨p.1,vX.2 h1,List.mem_flatMap.2 ⟨p.2.length,vX.2 (by omega),List.mem_map.2 ⟨p.2,jzhp L h2,rfl⟩⟩⟩
theorem cands_len(D L n:Nat)(hL:1<=L):(cands D L n).length<=D*((n+1)*L^n):=by
 have:=jze1 (fun d=>(List.range (n+1)).flatMap fun k=>(lists L k).map fun l=>(d,l)) ((n+1)*L^n) (l:=List.range D) fun d _=>by
  have:=jze1 (fun k=>(lists L k).map fun l=>(d,l)) (L^n) (l:=List.range (n+1)) fun k hk=>by
   rw [xV];exact yY (jzhq L k) (Nat.pow_le_pow_right hL (by have:=vX.1 hk;omega))
  rw [List.length_range]at this;exact this
 rw [List.length_range]at this;exact this
theorem paths_few{D L n:Nat}{P:List (Nat×List Nat)}(hd:P.Nodup)(h:∀p∈P,p.1<D/\(∀a∈p.2,a<L)/\p.2.length<=n):P.length<=(cands D L n).length:=
 nodup_le hd fun p hp=>mem_cands (h p hp).1 (h p hp).2.1 (h p hp).2.2
end Sx
open Go.RowKit
theorem jzk9{t:Tp}{down:List Bool}{ps:List Rat}{s d:Nat}(hv:validP t=true)(hp:posQ ps)(hs:s<t.nodes.toNat):match cheapP t down ps s d with
  |none=>∀p,¬FW t down d s p d
  |some p=>FW t down d s p d/\∀q,FW t down d s q d->leL ps p q:=by
 unfold cheapP;exact jzk7 hv hp (t.nodes.toNat+1) (initP t.nodes.toNat s) (init_di hs) (by
  have:=jzc4 (initP t.nodes.toNat s);have h2:(initP t.nodes.toNat s).length=t.nodes.toNat:=(by unfold initP;simp);omega)
theorem least_poQ{t:Tp}{down:List Bool}{ps:List Rat}{s d:Nat}{x:List Nat}(hv:validP t=true)(hp:posQ ps)(h1:FW t down d s x d)(h2:∀q,FW t down d s q d->leL ps x q):PO t s true x d:=by
 refine FW.po hv x true h1 (.inl rfl) (fun q z w e hq hz hw hwd=>?_);subst hwd;have h3:=h2 q hw;have h4:=leL.ext hp q z;rw [<-e]at h4;have h5:=h3.anti h4;rw [e]at h5;have:z=[]:=(by simpa using h5);exact hz this
def nds(t:Tp):Nat->List Nat->List Nat
 |u,[]=>[u]
 |u,a::p=>u::nds t (headP t a).toNat p
theorem jzcg(t:Tp):∀(x:List Nat) (u:Nat),nds t u x=u::x.map fun a=>(headP t a).toNat
 | [],_=>rfl
 |a::x,u=>by
  show u::nds t _ x=_;rw [jzcg t x];rfl
theorem nds_len(t:Tp)(u:Nat)(x:List Nat):(nds t u x).length=x.length+1:=by rw [jzcg];simp
theorem jzhr{t:Tp}{down:List Bool}{d:Nat}:∀(x:List Nat) {u v s:Nat},FW t down d u x v->s∈nds t u x->∃y z,x=y++z/\FW t down d u y s/\FW t down d s z v
 | [],u,v,s,h,hs=>by
   have e:s=u:=xD.1 hs;subst e;exact⟨[],[],rfl,rfl,h⟩
 |a::x,u,v,s,h,hs=>by
  rcases xZ.1 hs with e|e
  ·subst e;exact⟨[],a::x,rfl,rfl,h⟩
  ·obtain⟨y,z,e1,e2,e3⟩:=jzhr x h.2.2 e
   exact⟨a::y,z,by rw [e1];rfl,⟨h.1,h.2.1,e2⟩,e3⟩
theorem jzhs{t:Tp}{down:List Bool}{d:Nat}:∀(x:List Nat) {u v:Nat},FW t down d u x v->¬(nds t u x).Nodup->∃p y z m,x=p++y++z/\y≠ []/\FW t down d u p m/\FW t down d m y m/\FW t down d m z v
 | [],u,v,_,hn=>by
   exact absurd (by show [u].Nodup;simp) hn
 |a::x,u,v,h,hn=>by
  by_cases hm:u∈nds t (headP t a).toNat x
  ·obtain⟨y,z,e1,e2,e3⟩:=jzhr x h.2.2 hm
   exact⟨[],a::y,z,u,by rw [e1];rfl,by simp,rfl,⟨h.1,h.2.1,e2⟩,e3⟩
  ·have qa:¬(nds t (headP t a).toNat x).Nodup:=fun h2=>hn (List.nodup_cons.2 ⟨hm,h2⟩)
   obtain⟨p,y,z,m,e1,e2,e3,e4,e5⟩:=jzhs x h.2.2 qa;exact⟨a::p,y,z,m,by rw [e1];rfl,e2,⟨h.1,h.2.1,e3⟩,e4,e5⟩
theorem jzi1{t:Tp}{down:List Bool}{ps:List Rat}{s d:Nat}{x:List Nat}(hp:posQ ps)(h1:FW t down d s x d)(h2:∀q,FW t down d s q d->leL ps x q):(nds t s x).Nodup:=by
 refine Classical.byContradiction fun hn=>?_;obtain⟨p,y,z,m,e1,e2,e3,e4,e5⟩:=jzhs x h1 hn;have h3:befP ps x (p++z)=true\/True:=.inr trivial;have h4:=h2 (p++z) (e3.app p e5);have h5:=bef_cut hp p y z e2;rw [<-e1]at h5;unfold leL at h4;rw [h5]at h4;cases h4
def Lpl(t:Tp)(s d:Nat)(x:List Nat):Prop:=PO t s true x d/\(nds t s x).Nodup
theorem po_fw{t:Tp}(hv:validP t=true){d:Nat}:∀(x:List Nat) (u:Nat) (first:Bool),PO t u first x d->FW t [] d u x d
 | [],_,_,h=>h
 |a::x,u,first,h=>by
  refine⟨h.1,?_,po_fw hv x _ false h.2.2⟩;have hd:=jzag hv h.1;have qa:downP [] a=false:=rfl;unfold usableP;rw [qa,Bool.not_false,Bool.true_and,Bool.or_eq_true,beq_iff_eq,Bool.not_eq_true'];cases x with
  |nil=>
   have:(headP t a).toNat=d:=h.2.2;exact .inl (by omega)
  |cons b x=>
   rcases h.2.2.2.1 with h2|h2
   ·cases h2
   ·refine .inr ?_
    rw [show(((headP t a).toNat:Nat):Int)=headP t a by omega]at h2;exact h2
theorem jzd0{t:Tp}:∀(x:List Nat) {u v:Nat} {first:Bool},PO t u first x v->∀a∈x,a<2*t.links.length
 | [],_,_,_,_,_,h=>by cases h
 |b::x,_,_,_,h,a,ha=>by
  rcases xZ.1 ha with e|e
  ·have:=h.1
   unfold leavP leavTo at this;rw [e];exact vX.1 (List.mem_filter.1 this).1
  ·exact jzd0 x h.2.2 a e
theorem jzla{t:Tp}(hv:validP t=true):∀(x:List Nat) {u v:Nat} {first:Bool},u<t.nodes.toNat->PO t u first x v->∀n∈nds t u x,n<t.nodes.toNat
 | [],u,_,_,hu,_,n,hn=>by
   rw [xD.1 hn];exact hu
 |a::x,u,_,_,hu,h,n,hn=>by
  rcases xZ.1 hn with e|e
  ·rw [e];exact hu
  ·exact jzla hv x (jzag hv h.1).2.2.1 h.2.2 n e
theorem Lpl.len{t:Tp}(hv:validP t=true){s d:Nat}{x:List Nat}(hs:s<t.nodes.toNat)(h:Lpl t s d x):x.length+1<=t.nodes.toNat:=by
 have:=Sx.nodup_le (k:=List.range t.nodes.toNat) h.2 fun n hn=>vX.2 (jzla hv x hs h.1 n hn);rw [nds_len,List.length_range]at this;exact this
theorem Lpl.nodup{t:Tp}{s d:Nat}{x:List Nat}(h:Lpl t s d x):x.Nodup:=by
 have h1:=h.2;rw [jzcg]at h1;have h2:=(List.nodup_cons.1 h1).2;exact List.Pairwise.imp (fun {a b} hab e=>hab (by rw [e])) (List.pairwise_map.1 h2)
theorem Lpl.ne{t:Tp}{s d:Nat}{x:List Nat}(h:Lpl t s d x)(hsd:s≠d):x≠ []:=fun e=>by
 have:=h.1;rw [e]at this;exact hsd this
theorem prQ_ls(ps:List Rat):∀x:List Nat,prQ ps x=Sx.ls (fun a=>Sx.at_ ps a) x
 | []=>rfl
 |a::x=>by
  rw [show a::x=[a]++x from rfl,jzdo,prQ_ls ps x,Sx.ls_app];show prQ ps [a]+_=(Sx.at_ ps a+0)+_;have:prQ ps [a]=0+Sx.at_ ps a:=rfl;rw [this];grind
theorem jzec(f:Nat->Rat)(n:Nat):∀x:List Nat,x.Nodup->(∀a∈x,a<n)->Sx.ls f x=Sx.sm n fun a=>if a∈x then f a else 0
 | [],_,_=>by
   show(0:Rat)=_;rw [Sx.sm_zero n fun k _=>by simp]
 |b::x,hd,h=>by
  obtain⟨h1,h2⟩:=List.nodup_cons.1 hd;show f b+Sx.ls f x=_;rw [jzec f n x h2 fun a ha=>h a (by simp [ha])];have e1:Sx.sm n (fun a=>if a=b then f a else 0)=f b:=by
   rw [Sx.sm_one n (h b (by simp)) fun k _ hk=>if_neg hk,if_pos rfl]
  rw [<-e1, <-Sx.sm_add];refine Sx.sm_congr n fun a _=>?_;by_cases e:a=b
  ·subst e
   rw [if_pos rfl,if_neg h1,if_pos (by simp)];grind
  ·rw [if_neg e]
   by_cases e2:a∈x
   ·rw [if_pos e2,if_pos (by simp [e2])];grind
   ·rw [if_neg e2,if_neg (by simp [e,e2])];grind
theorem Lpl.prQ_sm{t:Tp}{s d:Nat}{x:List Nat}(h:Lpl t s d x)(ps:List Rat):prQ ps x=Sx.sm (2*t.links.length) fun a=>if a∈x then Sx.at_ ps a else 0:=by
 rw [prQ_ls];exact jzec _ _ x h.nodup (jzd0 x h.1)
theorem jzdq{t:Tp}{ps:List Rat}{s d:Nat}(hv:validP t=true)(hp:pricedP t ps=true)(hs:s<t.nodes.toNat)(hd:d<t.nodes.toNat):
  (∃x,chP t [] ps (s:Int) (d:Int)=(x,0)/\Lpl t s d x/\∀y,Lpl t s d y->prQ ps x<=prQ ps y)\/(chP t [] ps (s:Int) (d:Int)=([],11)/\∀y,¬Lpl t s d y):=by
 have hb:bad1 t [] ps=false:=(by unfold bad1 fitsP;rw [hv,hp];rfl);have qa:simBad2 t (s:Int) (d:Int)=false:=(by unfold simBad2;simp;omega);have h:=jzk9 (down:=[]) (d:=d) hv (jzax hp) hs;unfold chP;rw [hb,qa];simp only [Bool.false_eq_true,if_false,xL];cases hc:cheapP t [] ps s d with
 |none=>
  rw [hc]at h;exact .inr ⟨rfl,fun y hy=>h y (po_fw hv y s true hy.1)⟩
 |some x=>
  rw [hc]at h;refine .inl ⟨x,rfl,⟨least_poQ hv (jzax hp) h.1 h.2,jzi1 (jzax hp) h.1 h.2⟩,fun y hy=>?_⟩;rcases(jzd9 ps x y).1 (h.2 y (po_fw hv y s true hy.1))with e|e
  ·rw [e];exact vC
  ·rcases(jzby ps x y).1 e with e|e
   ·exact vB e
   ·rw [e.1];exact vC
structure Dm where
 src:Int
 dst:Int
 amount:Int
 prio:Int
def Dm.cells(d:Dm):List Value:=[.int .i64 d.src,.int .i64 d.dst,.int .i64 d.amount,.int .i64 d.prio]
def Dm.wf(d:Dm):Prop:=i64 d.src/\i64 d.dst/\i64 d.amount/\i64 d.prio
def Dm.ok(N:Int)(d:Dm):Bool:= !(d.src==d.dst)&&inB d.src 0 (N-1)&&inB d.dst 0 (N-1)&&inB d.amount 1 1048576&&inB d.prio 0 7
def srcN(l:List Dm)(d:Nat):Nat:=match l[d]? with
 |some x=>x.src.toNat
 |none=>0
def dstN(l:List Dm)(d:Nat):Nat:=match l[d]? with
 |some x=>x.dst.toNat
 |none=>0
def amQ(l:List Dm)(d:Nat):Rat:=match l[d]? with
 |some x=>(x.amount:Rat)
 |none=>0
def capQ(t:Tp)(a:Nat):Rat:=match t.links[a/2]? with
 |some x=>(x.cap:Rat)
 |none=>0
def chQ(t:Tp)(pr:List Rat)(s d:Nat):Rat:=prQ pr (chP t [] pr (s:Int) (d:Int)).1
structure Fit(t:Tp)(l:List Dm):Prop where
 v:validP t=true
 n:0<l.length
 ok:∀x∈l,Dm.ok t.nodes x=true
section
variable {t:Tp} {l:List Dm}
theorem Fit.nodes(h:Fit t l){d:Nat}(hd:d<l.length):srcN l d<t.nodes.toNat/\dstN l d<t.nodes.toNat/\srcN l d≠dstN l d/\l[d].src=(srcN l d:Int)/\l[d].dst=(dstN l d:Int):=by
 have h1:=h.ok _ (xR hd);unfold Dm.ok inB at h1;simp at h1;unfold srcN dstN;rw [yG hd];simp only [];omega
theorem Fit.am(h:Fit t l){d:Nat}(hd:d<l.length):0<amQ l d/\Sx.isI (amQ l d)/\amQ l d<=((1048576:Int):Rat)/\amQ l d=(l[d].amount:Rat)/\1<=l[d].amount/\l[d].amount<=1048576:=by
 have h1:=h.ok _ (xR hd);unfold Dm.ok inB at h1;simp at h1;have e:amQ l d=(l[d].amount:Rat):=(by unfold amQ;rw [yG hd]);refine⟨?_,⟨_,e⟩,?_,e,by omega,by omega⟩
 ·rw [e]
  exact Rat.intCast_lt_intCast.2 (show(0:Int)<l[d].amount by omega)
 ·rw [e]
  exact Rat.intCast_le_intCast.2 (by omega)
theorem jzc0(hv:validP t=true){a:Nat}(ha:a<2*t.links.length):∃h:a/2<t.links.length,0<=capQ t a/\Sx.isI (capQ t a)/\capQ t a<=((1048576:Int):Rat)/\capQ t a=(t.links[a/2].cap:Rat)/\0<=t.links[a/2].cap/\t.links[a/2].cap<=1048576:=by
 have hl:a/2<t.links.length:=(by omega);unfold validP at hv;rw [vM,xW]at hv;have qa:=hv.2 _ (xR hl);unfold Lk.ok inB at qa;simp at qa;have e:capQ t a=(t.links[a/2].cap:Rat):=(by unfold capQ;rw [yG hl]);refine⟨hl,?_,⟨_,e⟩,?_,e,by omega,by omega⟩
 ·rw [e]
  exact Rat.intCast_le_intCast.2 (show(0:Int)<=t.links[a/2].cap by omega)
 ·rw [e]
  exact Rat.intCast_le_intCast.2 (by omega)
end
structure PlanOK(t:Tp)(l:List Dm)(v:Rat)(Z:List ((Nat×List Nat)×Rat))(pr:List Rat):Prop where
 adm:Sx.Adm (2*t.links.length) l.length (amQ l) (capQ t) v Z
 loop:∀z∈Z,Lpl t (srcN l z.1.1) (dstN l z.1.1) z.1.2
 plen:pr.length=2*t.links.length
 pnn:∀q∈pr,0<=q
 worth:(Sx.sm (2*t.links.length) fun a=>Sx.at_ pr a*capQ t a)=v
 need:1<=Sx.sm l.length fun d=>amQ l d*chQ t pr (srcN l d) (dstN l d)
 conn:∀d,d<l.length->∃x,Lpl t (srcN l d) (dstN l d) x
theorem jzdr(q:Rat):sgnI q<0↔q<0:=by
 have h:q.num<0↔q<0:=by
  rw [<-Int.not_le,Rat.num_nonneg,Rat.not_le]
 unfold sgnI
 split
 ·rename_i h0
  rw [<-h,h0]
 ·split
  ·rename_i h1;exact⟨fun _=>h.1 h1,fun _=>by decide⟩
  ·rename_i h1;exact⟨fun x=>by omega,fun x=>absurd (h.2 x) h1⟩
theorem jzah{t:Tp}{pr:List Rat}(h1:pr.length=2*t.links.length)(h2:∀q∈pr,0<=q):pricedP t pr=true:=by
 unfold pricedP;rw [vM,decide_eq_true_eq,Bool.not_eq_true'];refine⟨h1,?_⟩;rw [<-Bool.not_eq_true];intro hn;obtain⟨q,hq,hs⟩:=List.any_eq_true.1 hn;have:=(jzdr q).1 (of_decide_eq_true hs);have:=h2 q hq;grind
theorem at_nn{pr:List Rat}(h:∀q∈pr,0<=q)(a:Nat):0<=Sx.at_ pr a:=by
 unfold Sx.at_;by_cases e:a<pr.length
 ·rw [yG e];exact h _ (xR e)
 ·rw [yI (by omega)];exact vC
theorem PlanOK.unique{t:Tp}{l:List Dm}(hf:Fit t l){v v':Rat}{Z Z':List ((Nat×List Nat)×Rat)}{pr pr':List Rat}(h:PlanOK t l v Z pr)(h':PlanOK t l v' Z' pr'):v=v':=by
 have qa:∀{v v':Rat} {Z Z':List ((Nat×List Nat)×Rat)} {pr pr':List Rat},PlanOK t l v Z pr->PlanOK t l v' Z' pr'->v<=v':=fun {v v' Z Z' pr pr'} h h'=>by
  rw [<-h'.worth];refine h.adm.weak hf.n (fun d hd=>(hf.am hd).1) (ch:=fun d=>chQ t pr' (srcN l d) (dstN l d)) (fun a _=>at_nn h'.pnn a) (fun z hz=>?_) h'.need;have hd:=h.adm.dem z hz;obtain⟨n1,n2,_⟩:=hf.nodes hd;have hl:=h.loop z hz;rcases jzdq hf.v (jzah h'.plen h'.pnn) n1 n2 with⟨x,e,_,e2⟩|⟨_,e⟩
  ·show chQ t pr' _ _<=_
   unfold chQ;rw [e, <-hl.prQ_sm];exact e2 _ hl
  ·exact absurd hl (e _)
 exact Rat.le_antisymm (qa h h') (qa h' h)
theorem plan_of{t:Tp}{l:List Dm}(hf:Fit t l){T:Sx.Tb}{P:List (Nat×List Nat)}(hb:Sx.Best (2*t.links.length) l.length (amQ l) (capQ t) T P)(hrl:T.rows.length=2*t.links.length+l.length)
  (hP:∀p∈P,Lpl t (srcN l p.1) (dstN l p.1) p.2) (hpl:Sx.ptZ T P |>.map (·.1) |>.all (fun p=>decide (p∈P)))
  (hg:∀d,d<l.length->Sx.at_ (Sx.prT T) (2*t.links.length+d)<=chQ t ((Sx.prT T).take (2*t.links.length)) (srcN l d) (dstN l d)) (hc:∀d,d<l.length->∃x,Lpl t (srcN l d) (dstN l d) x):
  PlanOK t l T.goal.re (Sx.planZ l.length (amQ l) T.goal.re (Sx.ptZ T P)) ((Sx.prT T).take (2*t.links.length)):=by
 have qa:(Sx.prT T).length=2*t.links.length+l.length:=(by unfold Sx.prT;rw [Sx.prTo_len,hrl]);have qe:∀a,a<2*t.links.length->Sx.at_ ((Sx.prT T).take (2*t.links.length)) a=Sx.at_ (Sx.prT T) a:=fun a ha=>by
  unfold Sx.at_;rw [xG,if_pos ha]
 refine⟨hb.adm,fun z hz=>?_,by rw [xF];omega,fun q hq=>?_,?_,?_,hc⟩
 ·obtain⟨_,f,h1,_⟩:=Sx.planZ_nn hz
  have:=of_decide_eq_true (xW.1 hpl z.1 (List.mem_map.2 ⟨_,h1,rfl⟩));exact hP _ this
 ·obtain⟨k,hk,e⟩:=List.getElem_of_mem hq
  rw [xF]at hk;have:=hb.pos k (by omega);unfold Sx.at_ at this;rw [yG (by omega)]at this;rw [<-e,List.getElem_take];exact this
 ·rw [<-hb.worth]
  exact Sx.sm_congr _ fun a ha=>by rw [qe a ha]
 ·refine Rat.le_trans hb.need (Sx.sm_le _ fun d hd=>?_)
  exact yT (hg d hd) (vB (hf.am hd).1)
theorem jzf3(l:List Rat)(i k:Nat)(q:Rat)(hk:k<l.length):Sx.at_ (l.set i q) k=if i=k then q else Sx.at_ l k:=by
 unfold Sx.at_;by_cases e:i=k
 ·subst e;rw [yM hk,if_pos rfl];rfl
 ·rw [vN e,if_neg e]
theorem jzht(k:Nat):∀(arcs:List Nat) (v:List Rat),k<v.length->Sx.at_ ((arcs.map fun a=>(a,(1:Rat))).foldl (fun v t=>v.set t.1 t.2) v) k=if k∈arcs then 1 else Sx.at_ v k
 | [],v,_=>by simp
 |a::arcs,v,hk=>by
  show Sx.at_ ((arcs.map fun a=>(a,(1:Rat))).foldl _ (v.set a 1)) k=_;rw [jzht k arcs _ (by rw [yV];exact hk),jzf3 _ _ _ _ hk];by_cases e:k∈arcs
  ·simp [e]
  ·by_cases e2:a=k
   ·subst e2;simp
   ·have e3:¬k=a:=fun h=>e2 h.symm
    simp [e,e2,e3]
theorem jzhu(m k:Nat):Sx.at_ (List.replicate m 0) k=0:=by
 unfold Sx.at_;rw [xB]
 split <;> rfl
def pTs(L2:Nat)(p:Nat×List Nat):List (Nat×Rat):=(L2+p.1, -1)::p.2.map fun a=>(a,1)
theorem jzlb(L2 D:Nat)(p:Nat×List Nat)(hp:∀a∈p.2,a<L2)(k:Nat)(hk:k<L2+D):Sx.at_ (valsOf (L2+D) (pTs L2 p)) k=Sx.pcol L2 p k:=by
 unfold valsOf pTs Sx.pcol;show Sx.at_ ((p.2.map fun a=>(a,(1:Rat))).foldl _ ((List.replicate (L2+D) 0).set (L2+p.1) (-1))) k=_;rw [jzht k p.2 _ (by simpa using hk),jzf3 _ _ _ _ (by simpa using hk),jzhu];by_cases h1:k<L2
 ·rw [if_pos h1,if_neg (show¬L2+p.1=k by omega)]
 ·rw [if_neg h1,if_neg (fun h=>h1 (hp k h))]
  by_cases e:k=L2+p.1
  ·rw [if_pos e,if_pos e.symm]
  ·rw [if_neg e,if_neg (fun h=>e h.symm)]
def vTs(L2:Nat)(am:Nat->Rat)(n:Nat):List (Nat×Rat):=(List.range n).map fun d=>(L2+d,am d)
theorem jzlc(L2:Nat)(am:Nat->Rat)(n:Nat):vTs L2 am (n+1)=vTs L2 am n++[(L2+n,am n)]:=by unfold vTs;rw [List.range_succ,List.map_append];rfl
theorem vTs_to(L2 D:Nat)(am:Nat->Rat)(k:Nat)(hk:k<L2+D):∀n,Sx.at_ (valsOf (L2+D) (vTs L2 am n)) k=if L2<=k/\k<L2+n then am (k-L2)else 0
 |0=>by
  rw [if_neg (by omega)];exact jzhu _ _
 |n+1=>by
  have ih:=vTs_to L2 D am k hk n;have hl:∀(ts:List (Nat×Rat)) (v:List Rat),(ts.foldl (fun v t=>v.set t.1 t.2) v).length=v.length:=fun ts=>by
   induction ts with
   |nil=>intro v;rfl
   |cons t ts ih=>intro v;show(ts.foldl _ (v.set t.1 t.2)).length=_;rw [ih,yV]
  unfold valsOf at ih⊢;rw [jzlc,List.foldl_append];show Sx.at_ ((List.foldl (fun(v:List Rat) (t:Nat×Rat)=>v.set t.1 t.2) (List.replicate (L2+D) 0) (vTs L2 am n)).set (L2+n) (am n)) k=_;rw [jzf3 _ _ _ _ (by rw [hl];simpa using hk),ih];by_cases e:L2+n=k
  ·rw [if_pos e,if_pos (by omega)]
   rw [show k-L2=n by omega]
  ·rw [if_neg e]
   by_cases h:L2<=k/\k<L2+n
   ·rw [if_pos h,if_pos (by omega)]
   ·rw [if_neg h,if_neg (by omega)]
theorem vTs_vals(L2 D:Nat)(am:Nat->Rat)(k:Nat)(hk:k<L2+D):Sx.at_ (valsOf (L2+D) (vTs L2 am D)) k=Sx.vcol L2 am k:=by
 rw [vTs_to L2 D am k hk D];unfold Sx.vcol;by_cases h:k<L2
 ·rw [if_neg (by omega),if_pos h]
 ·rw [if_pos (by omega),if_neg h]
theorem jzf4{P:Rat->Prop}(m:Nat)(ts:List (Nat×Rat))(h0:P 0)(h:∀t∈ts,P t.2):∀q∈valsOf m ts,P q:=by
 have qa:∀(ts:List (Nat×Rat)) (v:List Rat),(∀t∈ts,P t.2)->(∀q∈v,P q)->∀q∈ts.foldl (fun v t=>v.set t.1 t.2) v,P q:=fun ts=>by
  induction ts with
  |nil=>intro v _ hv;exact hv
  |cons t ts ih=>
   intro v ht hv;refine ih _ (fun t' h'=>ht t' (xO _ h')) fun q hq=>?_;rcases xE hq with h1|h1
   ·exact hv q h1
   ·rw [h1];exact ht t (by simp)
 exact qa ts _ h fun q hq=>by rw [uF hq];exact h0
theorem jzgs(c:Rat):∀(n:Nat) {f:Nat->Rat},(∀k,k<n->f k<=c)->Sx.sm n f<=((n:Int):Rat)*c
 |0,f,_=>by
  show(0:Rat)<=((0:Int):Rat)*c;grind
 |n+1,f,h=>by
  have h1:=jzgs c n (f:=f) fun k hk=>h k (by omega);have h2:=h n (Nat.lt_succ_self n);show Sx.sm n f+f n<=(((n+1:Nat):Int):Rat)*c;have e:(((n+1:Nat):Int):Rat)=((n:Int):Rat)+1:=by
   rw [Int.natCast_add,Rat.intCast_add];rfl
  rw [e,Rat.add_mul,Rat.one_mul];grind
def ZB:Nat:=25*33554432^24
theorem ZB_lt:ZB<B32^20:=by unfold ZB B32;decide
theorem jzct{q:Rat}{N:Nat}(h:Sx.SzZ q N)(hN:N<=ZB):SzQ q 20:=⟨Nat.lt_of_le_of_lt (yY h.1 hN) ZB_lt,Nat.lt_of_le_of_lt (yY h.2 hN) ZB_lt⟩
theorem zb_le{m:Nat}(hm:m<=24):(m+1)*33554432^m<=ZB:=Nat.mul_le_mul (by omega) (Nat.pow_le_pow_right (by decide) hm)
theorem jzld{t:Tp}{l:List Dm}{T:Sx.Tb}{P:List (Nat×List Nat)}(hf:Fit t l)(hl:t.links.length<=10)(hD:l.length<=4)(h:Sx.FLP (2*t.links.length) l.length (amQ l) (capQ t) T P):
  OkT T/\SzT T 20/\(∀q∈Sx.prT T,SzQ q 20)/\(∀q∈Sx.ptT T,SzQ q 20)/\∃Dn:Int,Dn≠0/\Dn.natAbs<=33554432^24/\Sx.Qn Dn ZB T.goal.re/\∀q∈Sx.ptT T,Sx.Qn Dn ZB q:=by
 have hm:2*t.links.length+l.length<=24:=(by omega);obtain⟨Dn,d1,d2,d3,d4,d5,d6,d7⟩:=h.sizes 33554432 (by omega) (by decide) (fun a ha=>by
  obtain⟨_,h1,h2,_⟩:=jzc0 hf.v ha;exact⟨h2,h1⟩) (fun d hd=>⟨(hf.am hd).2.1,by have:=(hf.am hd).1;grind⟩) (by
  have h1:=jzgs ((1048576:Int):Rat) (2*t.links.length) (f:=capQ t) fun a ha=>by
   obtain⟨_,_,_,h3,_⟩:=jzc0 hf.v ha;exact h3
  refine Rat.le_trans h1 ?_;rw [<-Rat.intCast_mul];exact Rat.intCast_le_intCast.2 (by omega)) (by
  have h1:=jzgs ((1048576:Int):Rat) l.length (f:=amQ l) fun d hd=>(hf.am hd).2.2.1;refine Rat.le_trans h1 ?_;rw [<-Rat.intCast_mul];exact Rat.intCast_le_intCast.2 (by omega))
 obtain⟨s1,s2,_⟩:=h.shape;have hz:=zb_le hm;have up:∀{q:Rat},Sx.Qn Dn ((2*t.links.length+l.length+1)*33554432^(2*t.links.length+l.length)) q->Sx.Qn Dn ZB q:=fun hq=>⟨hq.1,yY hq.2.1 hz,yY hq.2.2 hz⟩;exact⟨⟨s1,s2⟩,⟨fun i hi q hq=>jzct ((d3 i hi).1 q hq).2 hz,fun i hi=>jzct (d3 i hi).2.2 hz,fun q hq=>jzct (d4 q hq).2 hz,jzct d5.2 hz⟩,fun q hq=>jzct (d6 q hq).2 hz,fun q hq=>jzct (d7 q hq).2 hz,
  Dn,d1,yY d2 (Nat.pow_le_pow_right (by decide) hm),up d5,fun q hq=>up (d7 q hq)⟩
open Go.Maps (Keyed)
def MpS(w:World)(b n:Nat)(ks:List (List UInt8)):Prop:=
 ∃D:DataW Unit,w.ownsMap Tryz.prog 9 (plainElem Tryz.prog 4) b n D/\Maps.IsMap D/\∀k,D.atKey (.string k) (.lit (.bool false))=.lit (.bool (decide (k∈ks)))
theorem zeroBool(w:World):(zeroValue 4).run Tryz.prog w=.ok (.bool false) w:=by kernel_rfl
theorem MpS.lt{w:World}{b n:Nat}{ks:List (List UInt8)}(h:MpS w b n ks):b<w.heap.size:=by
 obtain⟨D,h1,_⟩:=h;exact h1.lt
theorem MpS.same{w w':World}{b n:Nat}{ks:List (List UInt8)}(h:MpS w b n ks)(hb:w'.heap[b]?=w.heap[b]?):MpS w' b n ks:=by
 obtain⟨D,⟨es,qa,h1,h2⟩,h3⟩:=h;exact⟨D,⟨es,qa,hb.trans h1,h2⟩,h3⟩
theorem MpS.keep{w w':World}{b n:Nat}{ks:List (List UInt8)}(h:MpS w b n ks)(hx:Ext w w'):MpS w' b n ks:=h.same (hx.block b h.lt)
theorem MpS.made(w:World):MpS (w.alloc (.map #[] 0)) w.heap.size 0 []:=
 ⟨.map [],World.ownsMap_made w _ _ _,⟨[],rfl⟩,fun k=>by simp;rfl⟩
theorem MpS.not{w:World}{b n:Nat}{ks:List (List UInt8)}(h:MpS w b n ks){t:TypeId}{cs:Array Value}:¬Blk w b t cs:=fun e=>by
 obtain⟨D,⟨es,qa,h1,_⟩,_⟩:=h;unfold Blk at e;rw [h1]at e;injection e with e
 cases e
section
variable {ops:Array Oper} {rest:List Oper} {o:Oper} {a:Act} {Q:Exit->Act->World->Prop} {w:World} {b n:Nat} {ks:List (List UInt8)}
theorem MpS.look(h:MpS w b n ks)(key:ByteArray)(hs:key.size<=maxLen):(Instr.lookup 97 (.map (some b)) (.string key) false).run Tryz.prog w=.ok (.bool (decide (key.data.toList∈ks))) w:=by
 obtain⟨D,h1,_,h3⟩:=h;have qa:Tryz.prog.underlying 4=some .bool:=(by kernel_rfl);have qe:Tryz.prog.underlying 9=some .string:=(by kernel_rfl);have qg:Tryz.prog.underlying 97=some (.map 9 4):=(by kernel_rfl);obtain⟨v,ps,qf,hv⟩:=h1.lookup (Maps.string_keyed qe) qg (zeroBool w) (plainElem_bool qa false) (WideMaps.keyOf_string_mk qe hs);rw [h3]at hv;unfold plainElem at hv;rw [qa]at hv;cases v <;> simp at hv;rw [qf]
 rename_i x
 obtain⟨hv,_⟩:=hv;by_cases hm:key.data.toList∈ks <;> simp_all
theorem jzi2(hg:o.guard=none)(m x v:Operand)(hop:o.op=Op.mapUpdate 97 m x v)(b n:Nat)(ks:List (List UInt8))(hm:a.eval m=.map (some b))(h:MpS w b n ks)(hn:n<maxLen)(key:ByteArray)(hx:a.eval x=.string key)(hs:key.size<=maxLen)(hv:a.eval v=.bool true)
  (hK:∀w',MpS w' b (n+1) (key.data.toList::ks)->w.grownBy w' (some b)->wpList Tryz.prog ops Q rest (a.put o.dst undef) w'):wpList Tryz.prog ops Q (o::rest) a w:=by
 obtain⟨D,h1,h2,h3⟩:=h;have qa:Tryz.prog.underlying 4=some .bool:=(by kernel_rfl);have qe:Tryz.prog.underlying 9=some .string:=(by kernel_rfl);refine wpList_mapUpdate_own w hg m x v 97 hop 9 4 (Maps.string_keyed qe) (by kernel_rfl) (plainElem Tryz.prog 4) b n D hm h1 hn (.string key) (.bool true) (.string key.data.toList) hx hv (WideMaps.keyOf_string_mk qe hs) (.lit (.bool true)) [] (plainElem_bool qa true) ?_;intro w' k1 k2;refine hK w' ⟨_,k1,?_,fun k=>?_⟩ k2
 ·obtain⟨es,rfl⟩:=h2
  exact⟨_,DataW.put_eq es _ _⟩
 ·by_cases e:k=key.data.toList
  ·subst e
   rw [Maps.atKey_put_same h2 (by simp [WideAt.IsKeyLit])];simp
  ·rw [Maps.atKey_put_other (fun e2=>e (by injection e2)),h3]
   simp [e]
theorem wp_lookS{K:Act->World->Prop}(m x:Operand)(hop:o.op=Op.lookup 97 m x false)(b n:Nat)(ks:List (List UInt8))(hm:a.eval m=.map (some b))(h:MpS w b n ks)(key:ByteArray)(hx:a.eval x=.string key)(hs:key.size<=maxLen)
  (hK:K (a.put o.dst (.bool (decide (key.data.toList∈ks)))) w):o.wp Tryz.prog a w K Q:=by
 have qa:=h.look key hs;unfold Oper.wp;simp [execOp,hop,hm,hx,qa,Result.andThen];exact hK
theorem wp_putS{K:Act->World->Prop}(m x v:Operand)(hop:o.op=Op.mapUpdate 97 m x v)(b n:Nat)(ks:List (List UInt8))(hm:a.eval m=.map (some b))(h:MpS w b n ks)(hn:n<maxLen)(key:ByteArray)(hx:a.eval x=.string key)(hs:key.size<=maxLen)(hv:a.eval v=.bool true)
  (hK:∀w',MpS w' b (n+1) (key.data.toList::ks)->w.grownBy w' (some b)->K (a.put o.dst undef) w'):o.wp Tryz.prog a w K Q:=by
 obtain⟨D,h1,h2,h3⟩:=h;have qa:Tryz.prog.underlying 4=some .bool:=(by kernel_rfl);have qe:Tryz.prog.underlying 9=some .string:=(by kernel_rfl);obtain⟨w',qf,k1,k2⟩:=h1.update (t:=97) (e:=4) (Maps.string_keyed qe) (by kernel_rfl) hn (key:=.string key) (val:=.bool true) (kl:=.string key.data.toList) (d:=.lit (.bool true)) (ps:=[]) (WideMaps.keyOf_string_mk qe hs) (plainElem_bool qa true);unfold Oper.wp;simp [execOp,hop,hm,hx,hv,qf,Result.andThen];refine hK w' ⟨_,k1,?_,fun k=>?_⟩ k2
 ·obtain⟨es,rfl⟩:=h2
  exact⟨_,DataW.put_eq es _ _⟩
 ·by_cases e:k=key.data.toList
  ·subst e
   rw [Maps.atKey_put_same h2 (by simp [WideAt.IsKeyLit])];simp
  ·rw [Maps.atKey_put_other (fun e2=>e (by injection e2)),h3]
   simp [e]
end
theorem MpS.congr{w:World}{b n m:Nat}{ks js:List (List UInt8)}(h:MpS w b n ks)(hn:n<=m)(hk:∀k,k∈ks↔k∈js):MpS w b m js:=by
 obtain⟨D,h1,h2,h3⟩:=h;exact⟨D,h1.mono hn,h2,fun k=>by rw [h3];simp [hk]⟩
end Go.Proofs.YthbmikapohlikaaGreatDoor
namespace Go.Proofs.YthbmikapohlikaaGreatDoor
open Go.RowKit
def iints(l:List Int):List Value:=l.map fun a=>Value.int .i64 a
theorem Rd.iint{w:World}{A:Option Addr}{l:List Int}(h:Rd w A (iints l)){k:Nat}{x:Int}(hx:l[k]?=some x):∃b o:Nat,A=some ⟨b,o,none⟩/\b<w.heap.size/\w.cell? ⟨b,o+k,none⟩=some (.int .i64 x):=by
 have hk:=(yH.1 hx).1;obtain⟨b,o,e,hb,hc⟩:=h.at_ (i:=k) (by unfold iints;simpa using hk);refine⟨b,o,e,hb,?_⟩;rw [hc k (by unfold iints;simpa using hk)];unfold iints;rw [yW,hx];rfl
end Go.Proofs.YthbmikapohlikaaGreatDoor
