/- Part 8 of 23 of what the Flows claims share (the white space is struck, the texts are joined). -/
import Derived.OrdersHeld
import Derived.Below
import Derived.Test.YtllmekijiohgmaaGreatDoorT07
set_option linter.unusedVariables false
set_option linter.unusedSimpArgs false
set_option maxRecDepth 100000
set_option maxHeartbeats 8000000
namespace Go.Proofs.YtllmekijiohgmaaGreatDoor
open Go Go.RowKit
variable {P:Program} {md:Region.Mode} {ops:Array Oper} {Q:Exit->Act->World->Prop} {S:World->Prop} {L:Nat}
def wpAnyL(P:Program)(md:Region.Mode)(ops:Array Oper)(Q:Exit->Act->World->Prop)(S:World->Prop)(L:Nat):Nat->Array Bool->Act->World->Prop
 |0,listed,a,w=>Region.ready md ops listed=[]/\Q .normal a w
 |fuel+1,listed,a,w=>
  (Region.ready md ops listed=[]->Q .normal a w)/\
  ∀i∈Region.ready md ops listed,wpOp P ops Q i (fun a' w'=>(i=L->wpAny P md ops Q fuel (listed.setIfInBounds i true) a' w')/\(i≠L->S w'/\wpAnyL P md ops Q S L fuel (listed.setIfInBounds i true) a' w')) a w
theorem rY:∀(fuel:Nat) (listed:Array Bool) (a:Act) (w:World),wpAnyL P md ops Q S L fuel listed a w->wpAny P md ops Q fuel listed a w
 |0,_,_,_,h=>h
 |fuel+1,_,_,_,h=>⟨h.1,fun i hi=>wpOp_mono (fun a' w' h'=>by
  by_cases e:i=L
  ·exact h'.1 e
  ·exact rY fuel _ a' w' (h'.2 e).2) (h.2 i hi)⟩
def awaitB(md:Region.Mode)(ops:Array Oper)(L i:Nat):Bool:=match ops[L]? with
 |none=>false
 |some o=>o.after.any fun e=>Region.binds md e&&e.on==i
theorem rZ{i:Nat}(h:awaitB md ops L i=true){listed:Array Bool}(hr:L∈Region.ready md ops listed)(hsz:listed.getD i true=false):False:=by
 unfold awaitB at h;obtain⟨_,oj,qe,qa⟩:=mem_ready.1 hr;rw[qe]at h;obtain⟨e,he,hb⟩:=Array.any_eq_true'.1 h;rw[vM,beq_iff_eq]at hb;have h2:=qa e he hb.1;rw[hb.2]at h2;rcases kQd i listed.size with h'|h'
 ·simp[h']at hsz h2;rw[hsz]at h2;cases h2
 simp[kQn h']at hsz
theorem jzf6{i:Nat}{oi:Oper}{v:Value}(hL:awaitB md ops L i=true)(hi:ops[i]?=some oi)(hiL:i≠L)(hsel:∀(j:Nat) (o:Oper) cs b,ops[j]?=some o->o.op≠.select cs b)
  (hQ:∀c a w,Q (.panic c) (a.put oi.dst v) w->Q (.panic c) a w):
  ∀(qe:Nat) (qa:Array Bool) (a:Act) (w:World),
   (∀j oj,ops[j]?=some oj->j≠i->qa.getD j true=false->(∀e∈oj.after,Region.binds md e=true->e.on≠i)->oi.apart ops oj=true)->
   i∈Region.ready md ops qa->YieldsIf P ops S oi v a->S w->
   wpAnyL P md ops Q S L qe (qa.setIfInBounds i true) (a.put oi.dst v) w->wpAnyL P md ops Q S L (qe+1) qa a w:=by
 intro qe
 induction qe with
 |zero=>
  intro qa a w _ hr hy hS H;refine⟨fun h=>(by rw[h]at hr;cases hr),fun j hj=>?_⟩;by_cases qg:j=i
  ·subst qg;exact hy.wpOp hi hS ⟨fun e=>absurd e hiL,fun _=>⟨hS,H⟩⟩
  have:=ready_mono hj qg;rw[H.1]at this;cases this
 |succ qe ih=>
  intro qa a w qf hr hy hS H;refine⟨fun h=>(by rw[h]at hr;cases hr),fun j hj=>?_⟩;by_cases qg:j=i
  ·subst qg;exact hy.wpOp hi hS ⟨fun e=>absurd e hiL,fun _=>⟨hS,H⟩⟩
  have qj:j≠L:=fun e=>by
   rw[e]at hj;exact rZ hL hj (mem_ready.1 hr).1
  have h1:=H.2 j (ready_mono hj qg);obtain⟨qi,oj,qk,qm⟩:=mem_ready.1 hj;have qn:∀e∈oj.after,Region.binds md e=true->e.on≠i:=fun e he hb heq=>by
   have h1:=qm e he hb;have h0:=(mem_ready.1 hr).1;rw[heq]at h1;rcases kQd i qa.size with h'|h'
   ·simp[h']at h0 h1;rw[h0]at h1;cases h1
   simp[kQn h']at h1
  have h2:=wpOp_putIf qk (qf j oj qk qg qi qn) (fun cs b=>hsel i oi cs b hi) (fun cs b=>hsel j oj cs b qk) hQ hy h1;have qh:∀k ok,ops[k]?=some ok->k≠i->(qa.setIfInBounds j true).getD k true=false->
    (∀e∈ok.after,Region.binds md e=true->e.on≠i)->oi.apart ops ok=true:=fun k ok hk hki hun hno=>by
   refine qf k ok hk hki ?_ hno;by_cases qo:j=k
   ·subst qo;exact qi
   rw[getD_set_ne true qo]at hun;exact hun
  refine wpOp_mono (fun a' w' h3=>⟨fun e=>absurd e qj,fun _=>⟨(h3.2.2 qj).1,ih (qa.setIfInBounds j true) a' w' qh (ready_mono hr (Ne.symm qg)) h3.1 (h3.2.2 qj).1 ?_⟩⟩) h2;rw[Array.setIfInBounds_comm _ _ qg];exact(h3.2.2 qj).2
theorem wpAnyL_take{i:Nat}{oi:Oper}{v:Value}{fuel:Nat}{listed:Array Bool}{a:Act}{w}(hi:ops[i]?=some oi)(hL:awaitB md ops L i=true)(hiL:i≠L)
  (hs:Region.noSelect ops=true) (hf:Region.free md ops listed i=true) (hr:(Region.ready md ops listed).contains i=true)
  (hQ:∀c a w,Q (.panic c) (a.put oi.dst v) w->Q (.panic c) a w) (hy:YieldsIf P ops S oi v a) (hS:S w)
  (h:wpAnyL P md ops Q S L fuel (listed.setIfInBounds i true) (a.put oi.dst v) w):wpAnyL P md ops Q S L (fuel+1) listed a w:=
 jzf6 hL hi hiL (Region.noSelect_spec hs) hQ fuel listed a w (Region.free_spec hi hf) (by simpa using hr) hy hS h
theorem jzf7{oi:Oper}{v:Value}{a:Act}(h:YieldsIf P ops (fun _=>True) oi v a):Yields P ops oi v a:=h.imp (fun⟨hw,hv⟩=>⟨hw,fun w=>hv w trivial⟩) id
theorem jzf8{i:Nat}{oi:Oper}{v:Value}(hi:ops[i]?=some oi)(hiL:i≠L)(hsel:∀(j:Nat) (o:Oper) cs b,ops[j]?=some o->o.op≠.select cs b)
  (hQ:∀c a w,Q (.panic c) (a.put oi.dst v) w->Q (.panic c) a w):
  ∀(qe:Nat) (qa:Array Bool) (a:Act) (w:World),
   (∀j oj,ops[j]?=some oj->j≠i->qa.getD j true=false->(∀e∈oj.after,Region.binds md e=true->e.on≠i)->oi.apart ops oj=true)->
   i∈Region.ready md ops qa->YieldsIf P ops (fun _=>True) oi v a->S w->
   wpAnyL P md ops Q S L qe (qa.setIfInBounds i true) (a.put oi.dst v) w->wpAnyL P md ops Q S L (qe+1) qa a w:=by
 intro qe
 induction qe with
 |zero=>
  intro qa a w _ hr hy hS H;refine⟨fun h=>(by rw[h]at hr;cases hr),fun j hj=>?_⟩;by_cases qg:j=i
  ·subst qg;exact hy.wpOp hi trivial ⟨fun e=>absurd e hiL,fun _=>⟨hS,H⟩⟩
  have:=ready_mono hj qg;rw[H.1]at this;cases this
 |succ qe ih=>
  intro qa a w qh hr hy hS H;refine⟨fun h=>(by rw[h]at hr;cases hr),fun j hj=>?_⟩;by_cases qg:j=i
  ·subst qg;exact hy.wpOp hi trivial ⟨fun e=>absurd e hiL,fun _=>⟨hS,H⟩⟩
  have h1:=H.2 j (ready_mono hj qg);obtain⟨qi,oj,qj,qk⟩:=mem_ready.1 hj;have qm:∀e∈oj.after,Region.binds md e=true->e.on≠i:=fun e he hb heq=>by
   have h1:=qk e he hb;have h0:=(mem_ready.1 hr).1;rw[heq]at h1;rcases kQd i qa.size with h'|h'
   ·simp[h']at h0 h1;rw[h0]at h1;cases h1
   simp[kQn h']at h1
  have h2:=wpOp_putIf qj (qh j oj qj qg qi qm) (fun cs b=>hsel i oi cs b hi) (fun cs b=>hsel j oj cs b qj) hQ hy h1;have qf:∀k ok,ops[k]?=some ok->k≠i->(qa.setIfInBounds j true).getD k true=false->
    (∀e∈ok.after,Region.binds md e=true->e.on≠i)->oi.apart ops ok=true:=fun k ok hk hki hun hno=>by
   refine qh k ok hk hki ?_ hno;by_cases qn:j=k
   ·subst qn;exact qi
   rw[getD_set_ne true qn]at hun;exact hun
  refine wpOp_mono (fun a' w' h3=>⟨fun e=>?_,fun e=>⟨(h3.2.2 e).1,ih (qa.setIfInBounds j true) a' w' qf (ready_mono hr (Ne.symm qg)) h3.1 (h3.2.2 e).1 ?_⟩⟩) h2
  ·refine wpAny_first hi hsel hQ qe (qa.setIfInBounds j true) a' w' qf (ready_mono hr (Ne.symm qg)) (jzf7 h3.1) ?_
   rw[Array.setIfInBounds_comm _ _ qg];exact h3.2.1 e
  rw[Array.setIfInBounds_comm _ _ qg];exact(h3.2.2 e).2
theorem wpAnyL_pure{i:Nat}{oi:Oper}{v:Value}{fuel:Nat}{listed:Array Bool}{a:Act}{w}(hi:ops[i]?=some oi)(hiL:i≠L)
  (hs:Region.noSelect ops=true) (hf:Region.free md ops listed i=true) (hr:(Region.ready md ops listed).contains i=true)
  (hQ:∀c a w,Q (.panic c) (a.put oi.dst v) w->Q (.panic c) a w) (hy:YieldsIf P ops (fun _=>True) oi v a) (hS:S w)
  (h:wpAnyL P md ops Q S L fuel (listed.setIfInBounds i true) (a.put oi.dst v) w):wpAnyL P md ops Q S L (fuel+1) listed a w:=
 jzf8 hi hiL (Region.noSelect_spec hs) hQ fuel listed a w (Region.free_spec hi hf) (by simpa using hr) hy hS h
theorem wY{i:Nat}{fuel:Nat}{listed:Array Bool}{a:Act}{w}(hr:Region.ready md ops listed=[i])
  (h:wpOp P ops Q i (fun a' w'=>(i=L->wpAny P md ops Q fuel (listed.setIfInBounds i true) a' w')/\(i≠L->S w'/\wpAnyL P md ops Q S L fuel (listed.setIfInBounds i true) a' w')) a w):wpAnyL P md ops Q S L (fuel+1) listed a w:=
 ⟨fun h0=>(by rw[hr]at h0;cases h0),fun j hj=>(by rw[hr]at hj;obtain rfl:j=i:=(by simpa using hj);exact h)⟩
theorem wpAnyL_call{i:Nat}{o:Oper}{fuel:Nat}{listed:Array Bool}{a:Act}{w}(hiL:i≠L)(hr:Region.ready md ops listed=[i])(ho:ops[i]?=some o)(hw:Region.wanted o (yielded ops a.tmps)=true)
  (h:∀K':Act->World->Prop,Hid (∀a w,S w->wpAnyL P md ops Q S L fuel (listed.setIfInBounds i true) a w->K' a w)->Oper.wp P o a w K' Q):wpAnyL P md ops Q S L (fuel+1) listed a w:=
 wY hr (wpOp_step ho fun K' hK=>by rw[if_pos hw];exact h K' (Hx fun a w h1 h2=>hK a w ⟨fun e=>absurd e hiL,fun _=>⟨h1,h2⟩⟩))
theorem aV{o:Oper}{fuel:Nat}{listed:Array Bool}{a:Act}{w}(hr:Region.ready md ops listed=[L])(ho:ops[L]?=some o)(hw:Region.wanted o (yielded ops a.tmps)=true)
  (h:∀K':Act->World->Prop,Hid (∀a w,wpAny P md ops Q fuel (listed.setIfInBounds L true) a w->K' a w)->Oper.wp P o a w K' Q):wpAnyL P md ops Q S L (fuel+1) listed a w:=
 wY hr (wpOp_step ho fun K' hK=>by rw[if_pos hw];exact h K' (Hx fun a w h2=>hK a w ⟨fun _=>h2,fun e=>absurd rfl e⟩))
theorem dQ{i:Nat}{o:Oper}{fuel:Nat}{listed:Array Bool}{a:Act}{w}(hr:Region.ready md ops listed=[i])(ho:ops[i]?=some o)(hw:Region.wanted o (yielded ops a.tmps)=true)
  (h:∀K':Act->World->Prop,Hid (∀a w,wpAny P md ops Q fuel (listed.setIfInBounds i true) a w->K' a w)->Oper.wp P o a w K' Q):wpAny P md ops Q (fuel+1) listed a w:=
 ⟨fun h0=>(by rw[hr]at h0;cases h0),fun j hj=>(by
  rw[hr]at hj;obtain rfl:j=i:=(by simpa using hj);exact wpOp_step ho fun K' hK=>by rw[if_pos hw];exact h K' (Hx hK))⟩
theorem wp_region_last{id:Nat}{a:Act}{w:World}(S:World->Prop)(L:Nat)(hm:P.follows .mixedOrders=true)
  (h:wpAnyL P .any ops Q S L ops.size (Array.replicate ops.size false) a w.drew):(Code.region id ops true).wp P Q a w:=
 wp_region_any hm (rY _ _ _ _ h)
theorem wP(i:Nat){oi:Oper}{v:Value}{fuel:Nat}{listed:Array Bool}{a:Act}{w:World}(hi:ops[i]?=some oi)(hS:S w)(h:wpAnyL P md ops Q S L fuel (listed.setIfInBounds i true) (a.put oi.dst v) w)(hv:∀ w,True->(execOp a.eval oi).run P w=.ok (.value v) w:=by intro w _;go_simp;try with_reducible rfl)(hiL:i≠L:=by decide)(hs:Region.noSelect ops=true:=by kernel_rfl)(hf:Region.free md ops listed i=true:=by kernel_rfl)(hr:(Region.ready md ops listed).contains i=true:=by kernel_rfl)(hQ:∀ c a w,Q (.panic c) (a.put oi.dst v) w->Q (.panic c) a w:=by exact fun _ _ _ h=>h)(hw:Region.wanted oi (yielded ops a.tmps)=true:=by rfl):wpAnyL P md ops Q S L (fuel+1) listed a w:=wpAnyL_pure hi hiL hs hf hr hQ (kZe ⟨hw,hv⟩) hS h
theorem wT(i:Nat){oi:Oper}{v:Value}{fuel:Nat}{listed:Array Bool}{a:Act}{w:World}(hi:ops[i]?=some oi)(hv:∀ w,S w->(execOp a.eval oi).run P w=.ok (.value v) w)(hS:S w)(h:wpAnyL P md ops Q S L fuel (listed.setIfInBounds i true) (a.put oi.dst v) w)(hL:awaitB md ops L i=true:=by kernel_rfl)(hiL:i≠L:=by decide)(hs:Region.noSelect ops=true:=by kernel_rfl)(hf:Region.free md ops listed i=true:=by kernel_rfl)(hr:(Region.ready md ops listed).contains i=true:=by kernel_rfl)(hQ:∀ c a w,Q (.panic c) (a.put oi.dst v) w->Q (.panic c) a w:=by exact fun _ _ _ h=>h)(hw:Region.wanted oi (yielded ops a.tmps)=true:=by rfl):wpAnyL P md ops Q S L (fuel+1) listed a w:=wpAnyL_take hi hL hiL hs hf hr hQ (kZe ⟨hw,hv⟩) hS h
theorem wC(i:Nat){o:Oper}{fuel:Nat}{listed:Array Bool}{a:Act}{w:World}(ho:ops[i]?=some o)(h:∀ K':Act->World->Prop,Hid (∀ a w,S w->wpAnyL P md ops Q S L fuel (listed.setIfInBounds i true) a w->K' a w)->Oper.wp P o a w K' Q)(hiL:i≠L:=by decide)(hr:Region.ready md ops listed=[i]:=by kernel_rfl)(hw:Region.wanted o (yielded ops a.tmps)=true:=by rfl):wpAnyL P md ops Q S L (fuel+1) listed a w:=wpAnyL_call hiL hr ho hw h
theorem wV(i:Nat){oi:Oper}{v:Value}{fuel:Nat}{listed:Array Bool}{a:Act}{w:World}(hi:ops[i]?=some oi)(hS:S w)(h:wpAnyL P md ops Q S L fuel (listed.setIfInBounds i true) (a.put oi.dst v) w)(hv:∀ w,S w->(execOp a.eval oi).run P w=.ok (.value v) w:=by intro w h;revert h;(try simp only [and_imp]);intros;go_simp;try with_reducible rfl)(hL:awaitB md ops L i=true:=by kernel_rfl)(hiL:i≠L:=by decide)(hs:Region.noSelect ops=true:=by kernel_rfl)(hf:Region.free md ops listed i=true:=by kernel_rfl)(hr:(Region.ready md ops listed).contains i=true:=by kernel_rfl)(hQ:∀ c a w,Q (.panic c) (a.put oi.dst v) w->Q (.panic c) a w:=by exact fun _ _ _ h=>h)(hw:Region.wanted oi (yielded ops a.tmps)=true:=by rfl):wpAnyL P md ops Q S L (fuel+1) listed a w:=wpAnyL_take hi hL hiL hs hf hr hQ (kZe ⟨hw,hv⟩) hS h
theorem wX{R:World->Prop}{id:Nat}{a:Act}{w:World}(_k:Hid (∀ x,R x->S x))(L:Nat)(h:wpAnyL P .any ops Q S L ops.size (Array.replicate ops.size false) a w.drew)(hm:P.follows .mixedOrders=true:=by kernel_rfl):(Code.region id ops true).wp P Q a w:=wp_region_last S L hm h
end Go.Proofs.YtllmekijiohgmaaGreatDoor
namespace Go.Proofs.YtllmekijiohgmaaGreatDoor
open Go.RowKit
namespace Fo
abbrev FrB(B:Nat)(w w':World):Prop:=FrS (fun b=>B<=b) w w'
structure HpM(B g ga ck gb cp N:Nat)(vO:Value)(w:World)(Ky:List Int)(P O:LN):Prop where
 hb:Blk w g 326 #[.s (sA ga) N ck,.s (sA gb) N cp,vO]
 kb:w.ownsRow B 3 1 (.s (sA ga) N ck) N (aR Ky)
 pb:w.ownsRow B 3 1 (.s (sA gb) N cp) N (ints P)
 ob:w.ownsRow B 3 1 vO O.length (ints O)
 bg:B<=g
 kp:ga≠gb
 ok:vO.ownBlock≠some ga
 op:vO.ownBlock≠some gb
section
variable {B g ga ck gb cp N:Nat} {vO:Value} {w w':World} {Ky:List Int} {P O:List Nat}
theorem dB{B n s:Nat}{e:TypeId}{v:Value}{xs:List Value}(h:w.ownsRow B e s v n xs)(hx:Ext w w'):w'.ownsRow B e s v n xs:=(eE (S:=fun _=>False) hx).own h fun _ _ h=>h
theorem HpM.K(h:HpM B g ga ck gb cp N vO w Ky P O)(hx:Ext w w'):HpM B g ga ck gb cp N vO w' Ky P O:=
 ⟨h.hb.K hx,dB h.kb hx,dB h.pb hx,dB h.ob hx,h.bg,h.kp,h.ok,h.op⟩
theorem HpM.low{S:Nat->Prop}(h:HpM B g ga ck gb cp N vO w Ky P O)(k:FrS S w w')(hs:∀b,S b->b<B):HpM B g ga ck gb cp N vO w' Ky P O:=
 ⟨k.blk h.hb fun e=>by have:=hs _ e;have:=h.bg;omega,k.own h.kb fun b hb e=>by have:=hs b e;have:=(h.kb.lt b hb).1;omega,k.own h.pb fun b hb e=>by have:=hs b e;have:=(h.pb.lt b hb).1;omega,
  k.own h.ob fun b hb e=>by have:=hs b e;have:=(h.ob.lt b hb).1;omega,h.bg,h.kp,h.ok,h.op⟩
theorem jzf9(l:List Int)(i:Nat)(h:i<l.length):(aR l)[i]?=some (vI (aK l i)):=by
 unfold aR aK;rw[yW,yG h];rfl
theorem HpM.kl(h:HpM B g ga ck gb cp N vO w Ky P O):Ky.length=N:=by have:=h.kb.1;unfold aR at this;simpa using this
theorem HpM.pl(h:HpM B g ga ck gb cp N vO w Ky P O):P.length=N:=by have:=h.pb.1;unfold ints at this;simpa using this
theorem HpM.key(h:HpM B g ga ck gb cp N vO w Ky P O){i:Nat}(hi:i<N):w.cell? (aD ga i)=some (vI (aK Ky i)):=by
 rw[h.kb.cellAt i (by omega)];exact jzf9 Ky i (by rw[h.kl];exact hi)
theorem HpM.place(h:HpM B g ga ck gb cp N vO w Ky P O){i:Nat}(hi:i<N):w.cell? (aD gb i)=some (vI ((P[i]?.getD 0:Nat):Int)):=by
 rw[h.pb.cellAt i (by omega)];exact pY P i (by rw[h.pl];exact hi)
theorem HpM.form(h:HpM B g ga ck gb cp N vO w Ky P O)(hl:0<O.length):∃go co:Nat,vO=.s (sA go) O.length co/\O.length<=co/\go≠ga/\go≠gb/\B<=go:=by
 rcases h.ob.2 with⟨e,h0⟩|⟨go,co,cur,e,h2,_,h3,_⟩
 ·omega
 exact⟨go,co,e,h3,fun e2=>h.ok (by rw[e,e2];rfl),fun e2=>h.op (by rw[e,e2];rfl),h2⟩
theorem HpM.item{go n co:Nat}(h:HpM B g ga ck gb cp N (.s (sA go) n co) w Ky P O)(hn:n=O.length){i x:Nat}(hi:O[i]?=some x):w.cell? (aD go i)=some (vI (x:Int)):=by
 have hl:=(yH.1 hi).1;have h1:=h.ob;rw[hn]at h1;rw[h1.cellAt i (by omega),pY O i hl,hi];rfl
theorem wZ(l:LN)(i x:Nat):(ints l).set i (vI (x:Int))=ints (l.set i x):=by unfold ints;rw[List.map_set]
theorem jza(l:List Int)(i:Nat)(x:Int):(aR l).set i (vI x)=aR (l.set i x):=by unfold aR;rw[List.map_set]
theorem fJ{B b i:Nat}(hb:B<=b)w(v:Value):FrB B w (w.setCell (aD b i) v):=eG (bI w b i v) fun y e=>by
 injection e with e
 show B<=y;omega
theorem FrB.tr{w2}(h:FrB B w w')(k:FrB B w' w2):FrB B w w2:=FrS.tr h k fun _ h=>.inl h
theorem FrB.ext(hx:Ext w w'):FrB B w w':=eE hx
theorem HpM.setO{go n co:Nat}(h:HpM B g ga ck gb cp N (.s (sA go) n co) w Ky P O)(hn:n=O.length)(i x:Nat):HpM B g ga ck gb cp N (.s (sA go) n co) (w.setCell (aD go i) (vI (x:Int))) Ky P (O.set i x):=by
 have h1:=h.ob;rw[hn]at h1;obtain⟨s1,s2⟩:=h1.stored i (vI (x:Int));rw[wZ]at s1;have k:FrS (fun b=>b=go) w (w.setCell (aD go i) (vI (x:Int))):=eG s2 fun y e=>(Option.some.inj e).symm;refine⟨k.blk h.hb fun e=>aW h1 (g:=go) rfl (t:=326) (by decide) _ _ (e▸h.hb),k.own h.kb fun b hb e=>h.ok ((congrArg some e.symm).trans hb.symm),k.own h.pb fun b hb e=>h.op ((congrArg some e.symm).trans hb.symm),by rw[yV,hn];exact s1,h.bg,h.kp,h.ok,h.op⟩
theorem HpM.setP(h:HpM B g ga ck gb cp N vO w Ky P O)(i x:Nat):HpM B g ga ck gb cp N vO (w.setCell (aD gb i) (vI (x:Int))) Ky (P.set i x) O:=by
 obtain⟨s1,s2⟩:=h.pb.stored i (vI (x:Int));rw[wZ]at s1;have k:FrS (fun b=>b=gb) w (w.setCell (aD gb i) (vI (x:Int))):=eG s2 fun y e=>(Option.some.inj e).symm;refine⟨k.blk h.hb fun e=>aW h.pb (g:=gb) rfl (t:=326) (by decide) _ _ (e▸h.hb),k.own h.kb fun b hb e=>h.kp ((Option.some.inj hb).trans e),s1,k.own h.ob fun b hb e=>h.op (by rw[hb,e]),h.bg,h.kp,h.ok,h.op⟩
theorem HpM.setK(h:HpM B g ga ck gb cp N vO w Ky P O)(i:Nat)(x:Int):HpM B g ga ck gb cp N vO (w.setCell (aD ga i) (vI x)) (Ky.set i x) P O:=by
 obtain⟨s1,s2⟩:=h.kb.stored i (vI x);rw[jza]at s1;have k:FrS (fun b=>b=ga) w (w.setCell (aD ga i) (vI x)):=eG s2 fun y e=>(Option.some.inj e).symm;refine⟨k.blk h.hb fun e=>aW h.kb (g:=ga) rfl (t:=326) (by decide) _ _ (e▸h.hb),s1,k.own h.pb fun b hb e=>h.kp (((Option.some.inj hb).trans e).symm),k.own h.ob fun b hb e=>h.ok (by rw[hb,e]),h.bg,h.kp,h.ok,h.op⟩
end
theorem xc{w:World}{p:Addr}{v:Value}(h:w.cell? p=some v):∀x:XW w,x.val.cell? p=some v:=fun x=>aH x.ext h
def eZ(Ky:List Int)(x y:Nat):Bool:=if aK Ky x=aK Ky y then decide (x<y)else decide (aK Ky x<aK Ky y)
theorem jzb{Ky:List Int}{x y:Nat}(h:eZ Ky x y=true):leK Ky x y:=by
 unfold eZ at h;unfold leK;split at h <;> simp at h <;> omega
theorem jzc{Ky:List Int}{x y:Nat}(h:eZ Ky x y=false):leK Ky y x:=by
 unfold eZ at h;unfold leK;split at h <;> simp at h <;> omega
theorem jzd(B g ga ck gb cp N:Nat)(vO:Value)(Ky:List Int)(P O:LN)(p q x y:Nat)w(h:HpM B g ga ck gb cp N vO w Ky P O)(hp:O[p]?=some x)(hq:O[q]?=some y)(hx:x<N)(hy:y<N):
  Calls Tryz.prog 275 #[.pointer (sA g),vI (p:Int),vI (q:Int)] w fun e w'=>e=.returned (.bool (eZ Ky x y))/\Ext w w':=by
 have qf:=(yH.1 hp).1;have qe:=(yH.1 hq).1;obtain⟨go,co,rfl,qg,_⟩:=h.form (by omega);have i0:=h.hb.cell 0;have i2:=h.hb.cell 2;have o1:=h.item rfl hp;have o2:=h.item rfl hq;have k1:=h.key hx;have k2:=h.key hy;have HB:Hid (eZ Ky x y=if aK Ky x=aK Ky y then decide (x<y)else decide (aK Ky x<aK Ky y)):=Hx (rfl);generalize aK Ky x=a at*;generalize aK Ky y=b at*;generalize eZ Ky x y=r at*;generalize O.length=n at*;have pN:(p:Int)<(n:Int):=(by omega);have qN:(q:Int)<(n:Int):=(by omega);have xN:(x:Int)<(N:Int):=(by omega);have yN:(y:Int)<(N:Int):=(by omega);have qa:=Hx (show∀W,Ext w W->W.cell? (aD g 0)=some (.s (sA ga) N ck)/\W.cell? (aD g 2)=some (.s (sA go) n co)/\W.cell? (aD go p)=some (vI (x:Int))/\W.cell? (aD go q)=some (vI (y:Int))/\W.cell? (aD ga x)=some (vI a)/\W.cell? (aD ga y)=some (vI b)from fun W hW=>
  ⟨aH hW i0,aH hW i2,aH hW o1,aH hW o2,aH hW k1,aH hW k2⟩)
 clear h hp hq qf qe hx hy;obtain⟨i0,i2,o1,o2,k1,k2⟩:=qa.o _ (eR w);have y2:=xc i2;have y3:=xc o1;have y4:=xc o2;clear i0 i2 o1 o2 k1 k2;go_enter Tryz.func275,Tryz.ntmps275;(go_upto_region 1 with fail);refine bH (by kernel_rfl) (by kernel_rfl) ?_;(repeat (go_big_quiet_step (fail)));refine wpQuiet_nil ?_;rintro _ ⟨x1,rfl⟩;clear y2 y3 y4;have X1:=Hx x1.ext;generalize x1.val=W1 at*;clear x1;obtain⟨i0,i2,o1,o2,k1,k2⟩:=qa.o _ X1.o;have y0:=xc i0;have y3:=xc k1;have y4:=xc k2;clear i0 i2 o1 o2 k1 k2;by_cases e:a=b;{have HR:=Hx (show r=decide (x<y) by rw[HB.o,if_pos e]);have e1:(a !=b)=false:=(by rw[e];exact bne_self_eq_false b);clear HB e;(go_upto_region 2 with fail);refine bH (by kernel_rfl) (by kernel_rfl) ?_;(repeat (go_big_quiet_step (fail)));refine wpQuiet_nil ?_;rintro _ ⟨x2,rfl⟩;go_wp2;go_ret;exact⟨by rw[HR.o];rfl,X1.o.tr x2.ext⟩};have HR:=Hx (show r=decide (a<b) by rw[HB.o,if_neg e]);have e1:(a !=b)=true:=bne_iff_ne.2 e;clear HB e;(go_upto_region 2 with fail);refine bH (by kernel_rfl) (by kernel_rfl) ?_;(repeat (go_big_quiet_step (fail)));refine wpQuiet_nil ?_;rintro _ ⟨x2,rfl⟩;have X2:=Hx (X1.o.tr x2.ext);clear y0 y3 y4;generalize x2.val=W2 at*;clear x2;obtain⟨i0,i2,o1,o2,k1,k2⟩:=qa.o _ X2.o;have y0:=xc i0;have y3:=xc k1;have y4:=xc k2;clear i0 i2 o1 o2 k1 k2;(go_upto_region 3 with fail);refine bH (by kernel_rfl) (by kernel_rfl) ?_;(repeat (go_big_quiet_step (fail)));refine wpQuiet_nil ?_;rintro _ ⟨x3,rfl⟩;go_wp2;go_ret;exact⟨by rw[HR.o];rfl,X2.o.tr x3.ext⟩
end Fo
namespace Fo
theorem jzga{O:LN}{p q x y:Nat}(hp:O[p]?=some x)(hq:O[q]?=some y):bX O p q=(O.set p y).set q x:=wM hp hq
theorem sB(B g ga ck gb cp N:Nat)(vO:Value)(K:List Int)(P O:LN)(p q x y:Nat)w(h:HpM B g ga ck gb cp N vO w K P O)(hp:O[p]?=some x)(hq:O[q]?=some y)(hx:x<N)(hy:y<N)(hN:O.length<=1000000):
  Calls Tryz.prog 276 #[.pointer (sA g),vI (p:Int),vI (q:Int)] w fun e w'=>e=.returned (.tuple #[])/\HpM B g ga ck gb cp N vO w' K ((P.set y (p+1)).set x (q+1)) (bX O p q)/\FrB B w w':=by
 have qn:=(yH.1 hp).1;have qu:=(yH.1 hq).1;obtain⟨go,co,rfl,qo,qp,qt,hB⟩:=h.form (by omega);have HS:=Hx (jzga hp hq);have i2:=h.hb.cell 2;have o1:=h.item rfl hp;have o2:=h.item rfl hq;have XD:Hid (Ext w w.drew):=Hx ((eR w).drewN 1);have HSW:Hid (w.drew.cell? (aD g 2)=some (.s (sA go) O.length co)/\w.drew.cell? (aD go p)=some (vI (x:Int))/\w.drew.cell? (aD go q)=some (vI (y:Int))):=Hx (⟨aH XD.o i2,aH XD.o o1,aH XD.o o2⟩);have H0:=Hx (h.K XD.o);have HP:Hid (O[p]?=some x/\O[q]?=some y):=Hx (⟨hp,hq⟩);have pN:(p:Int)<(O.length:Int):=(by omega);have qN:(q:Int)<(O.length:Int):=(by omega);have xN:(x:Int)<(N:Int):=(by omega);have yN:(y:Int)<(N:Int):=(by omega);have f1:=H0.o.ob.frozenAt p;have H1:=Hx (H0.o.setO rfl p y);have f2:(w.drew.setCell (aD go p) (vI (y:Int))).frozen? (aD go q)=false:=(by rw[World.frozen?_setCell];exact H0.o.ob.frozenAt q);have qf:(O.set p y)[q]?=some y:=by
  by_cases e:p=q
  ·rw[e];exact yM (by omega)
  rw[vN e];exact hq
 have o3:=H1.o.item (by rw[yV]) qf;clear h hp hq i2 o1 o2;generalize hn:O.length=n at*
 go_enter Tryz.func276,Tryz.ntmps276
 go_upto_region 0 with fail
 refine wp_region_last (fun w'=>w'.cell? (aD g 2)=some (.s (sA go) n co)/\w'.cell? (aD go p)=some (vI (x:Int))/\w'.cell? (aD go q)=some (vI (y:Int))) 25 (by kernel_rfl) ?_;generalize w.drew=D at*;refine wP 0 rfl HSW.o ?_;try simp only[Act.put,yA,yB,yC,yD,yE,yF]
 refine wP 1 rfl HSW.o ?_;try simp only[Act.put,yA,yB,yC,yD,yE,yF]
 refine wP 2 rfl HSW.o ?_;try simp only[Act.put,yA,yB,yC,yD,yE,yF]
 refine wP 4 rfl HSW.o ?_;try simp only[Act.put,yA,yB,yC,yD,yE,yF]
 refine wP 5 rfl HSW.o ?_;try simp only[Act.put,yA,yB,yC,yD,yE,yF]
 refine wP 6 rfl HSW.o ?_;try simp only[Act.put,yA,yB,yC,yD,yE,yF]
 refine wP 7 rfl HSW.o ?_;try simp only[Act.put,yA,yB,yC,yD,yE,yF]
 refine wP 9 rfl HSW.o ?_;try simp only[Act.put,yA,yB,yC,yD,yE,yF]
 refine wP 10 rfl HSW.o ?_;try simp only[Act.put,yA,yB,yC,yD,yE,yF]
 refine wP 11 rfl HSW.o ?_;try simp only[Act.put,yA,yB,yC,yD,yE,yF]
 refine wP 12 rfl HSW.o ?_;try simp only[Act.put,yA,yB,yC,yD,yE,yF]
 refine wP 14 rfl HSW.o ?_;try simp only[Act.put,yA,yB,yC,yD,yE,yF]
 refine wP 17 rfl HSW.o ?_;try simp only[Act.put,yA,yB,yC,yD,yE,yF]
 refine wP 18 rfl HSW.o ?_;try simp only[Act.put,yA,yB,yC,yD,yE,yF]
 refine wP 19 rfl HSW.o ?_;try simp only[Act.put,yA,yB,yC,yD,yE,yF]
 refine wP 21 rfl HSW.o ?_;try simp only[Act.put,yA,yB,yC,yD,yE,yF]
 refine wV 3 rfl HSW.o ?_;try simp only[Act.put,yA,yB,yC,yD,yE,yF]
 refine wV 8 rfl HSW.o ?_;try simp only[Act.put,yA,yB,yC,yD,yE,yF]
 refine wV 13 rfl HSW.o ?_;try simp only[Act.put,yA,yB,yC,yD,yE,yF]
 refine wV 20 rfl HSW.o ?_;try simp only[Act.put,yA,yB,yC,yD,yE,yF]
 refine wP 15 rfl HSW.o ?_;try simp only[Act.put,yA,yB,yC,yD,yE,yF]
 refine wP 22 rfl HSW.o ?_;try simp only[Act.put,yA,yB,yC,yD,yE,yF]
 refine wV 16 rfl HSW.o ?_;try simp only[Act.put,yA,yB,yC,yD,yE,yF]
 refine wV 23 rfl HSW.o ?_;try simp only[Act.put,yA,yB,yC,yD,yE,yF]
 refine wP 24 rfl HSW.o ?_;try simp only[Act.put,yA,yB,yC,yD,yE,yF]
 obtain⟨s1,s2,s3⟩:=HSW.o;refine aV (by kernel_rfl) rfl (by rfl) (fun KK hK=>?_);go_simp;refine hK.o _ _ ?_;clear hK KK;try simp only[Act.put,yA,yB,yC,yD,yE,yF]
 refine dQ (i:=26) (by kernel_rfl) rfl (by rfl) (fun KK hK=>?_);go_simp;refine hK.o _ _ ?_;clear hK KK;try simp only[Act.put,yA,yB,yC,yD,yE,yF]
 refine dQ (i:=27) (by kernel_rfl) rfl (by rfl) (fun KK hK=>?_);go_simp;refine hK.o _ _ ?_;clear hK KK;refine wpAny_done (by kernel_rfl) ?_ _;have qi:=HS;have H2:=Hx (show HpM B g ga ck gb cp N (.s (sA go) n co) ((D.setCell (aD go p) (vI (y:Int))).setCell (aD go q) (vI (x:Int))) K P (bX O p q)/\FrB B w ((D.setCell (aD go p) (vI (y:Int))).setCell (aD go q) (vI (x:Int)))from
  ⟨by rw[HS.o];exact H1.o.setO (by rw[yV,hn]) q x,((FrB.ext XD.o).tr (fJ hB _ _)).tr (fJ hB _ _)⟩)
 have qg:(bX O p q)[p]?=some y:=by
  rw[HS.o];by_cases e:q=p
  ·rw[e]at HP⊢
   rw[yM (by rw[yV];omega)];have h1:=HP.o.1;rw[HP.o.2]at h1;exact h1.symm
  rw[vN e,yM (by omega)]
 have qa:(bX O p q)[q]?=some x:=by
  rw[HS.o,yM (by rw[yV];omega)]
 have qe:(bX O p q).length=n:=(by rw[lR,hn]);clear H0 H1 HSW XD HP HS qi s1 s2 s3 o3 f1 f2 qf;generalize (D.setCell (aD go p) (vI (y:Int))).setCell (aD go q) (vI (x:Int))=W2 at*;generalize hO2:bX O p q=O2 at*;have qj:=Hx hO2;clear hO2;have qh:IntKind.i64.wrap ((p:Int)+1)=(p:Int)+1:=IntWalk.i64_in _ (by omega);have qk:IntKind.i64.wrap ((q:Int)+1)=(q:Int)+1:=IntWalk.i64_in _ (by omega);have HQ:=Hx (kQa qg (kQa qa qe));clear qg qa qe;have X2:Hid (Ext W2 W2.drew):=Hx ((eR W2).drewN 1);have G2:=Hx (H2.o.1.K X2.o);have HSW:Hid (W2.drew.cell? (aD g 1)=some (.s (sA gb) N cp)/\W2.drew.cell? (aD g 2)=some (.s (sA go) n co)/\W2.drew.cell? (aD go p)=some (vI (y:Int))):=Hx (⟨G2.o.hb.cell 1,G2.o.hb.cell 2,G2.o.item HQ.o.2.2.symm HQ.o.1⟩);have p1:=G2.o.place hy;have f1:=G2.o.pb.frozenAt y
 go_upto_region 1 with fail
 refine wp_region_last (fun w'=>w'.cell? (aD g 1)=some (.s (sA gb) N cp)/\w'.cell? (aD g 2)=some (.s (sA go) n co)/\w'.cell? (aD go p)=some (vI (y:Int))) 14 (by kernel_rfl) ?_;generalize W2.drew=D2 at*;refine wP 0 rfl HSW.o ?_;try simp only[Act.put,yA,yB,yC,yD,yE,yF]
 refine wP 1 rfl HSW.o ?_;try simp only[Act.put,yA,yB,yC,yD,yE,yF]
 refine wP 2 rfl HSW.o ?_;try simp only[Act.put,yA,yB,yC,yD,yE,yF]
 refine wP 4 rfl HSW.o ?_;try simp only[Act.put,yA,yB,yC,yD,yE,yF]
 refine wP 5 rfl HSW.o ?_;try simp only[Act.put,yA,yB,yC,yD,yE,yF]
 refine wP 6 rfl HSW.o ?_;try simp only[Act.put,yA,yB,yC,yD,yE,yF]
 refine wP 8 rfl HSW.o ?_;try simp only[Act.put,yA,yB,yC,yD,yE,yF]
 refine wP 11 rfl HSW.o ?_;try simp only[Act.put,yA,yB,yC,yD,yE,yF]
 refine wP 12 rfl HSW.o ?_;try simp only[Act.put,yA,yB,yC,yD,yE,yF]
 refine wV 3 rfl HSW.o ?_;try simp only[Act.put,yA,yB,yC,yD,yE,yF]
 refine wV 7 rfl HSW.o ?_;try simp only[Act.put,yA,yB,yC,yD,yE,yF]
 refine wP 9 rfl HSW.o ?_;try simp only[Act.put,yA,yB,yC,yD,yE,yF]
 refine wV 10 rfl HSW.o ?_;try simp only[Act.put,yA,yB,yC,yD,yE,yF]
 refine wP 13 rfl HSW.o ?_;try simp only[Act.put,yA,yB,yC,yD,yE,yF]
 obtain⟨s1,s2,s3⟩:=HSW.o;refine aV (by kernel_rfl) rfl (by rfl) (fun KK hK=>?_);go_simp;refine hK.o _ _ ?_;clear hK KK;refine wpAny_done (by kernel_rfl) ?_ _;have H4:=Hx (show HpM B g ga ck gb cp N (.s (sA go) n co) (D2.setCell (aD gb y) (vI ((p:Int)+1))) K (P.set y (p+1)) O2/\FrB B w (D2.setCell (aD gb y) (vI ((p:Int)+1)))from
  ⟨G2.o.setP y (p+1),(H2.o.2.tr (FrB.ext X2.o)).tr (fJ ((G2.o.pb.lt gb rfl).1) _ _)⟩)
 clear H2 X2 G2 HSW s1 s2 s3 p1 f1 qh;generalize D2.setCell (aD gb y) (vI ((p:Int)+1))=W4 at*;have X3:Hid (Ext W4 W4.drew):=Hx ((eR W4).drewN 1);have G3:=Hx (H4.o.1.K X3.o);have HSW:Hid (W4.drew.cell? (aD g 1)=some (.s (sA gb) N cp)/\W4.drew.cell? (aD g 2)=some (.s (sA go) n co)/\W4.drew.cell? (aD go q)=some (vI (x:Int))):=Hx (⟨G3.o.hb.cell 1,G3.o.hb.cell 2,G3.o.item HQ.o.2.2.symm HQ.o.2.1⟩);have p1:=G3.o.place hx;have f1:=G3.o.pb.frozenAt x
 go_upto_region 2 with fail
 refine wp_region_last (fun w'=>w'.cell? (aD g 1)=some (.s (sA gb) N cp)/\w'.cell? (aD g 2)=some (.s (sA go) n co)/\w'.cell? (aD go q)=some (vI (x:Int))) 14 (by kernel_rfl) ?_;generalize W4.drew=D3 at*;refine wP 0 rfl HSW.o ?_;try simp only[Act.put,yA,yB,yC,yD,yE,yF]
 refine wP 1 rfl HSW.o ?_;try simp only[Act.put,yA,yB,yC,yD,yE,yF]
 refine wP 2 rfl HSW.o ?_;try simp only[Act.put,yA,yB,yC,yD,yE,yF]
 refine wP 4 rfl HSW.o ?_;try simp only[Act.put,yA,yB,yC,yD,yE,yF]
 refine wP 5 rfl HSW.o ?_;try simp only[Act.put,yA,yB,yC,yD,yE,yF]
 refine wP 6 rfl HSW.o ?_;try simp only[Act.put,yA,yB,yC,yD,yE,yF]
 refine wP 8 rfl HSW.o ?_;try simp only[Act.put,yA,yB,yC,yD,yE,yF]
 refine wP 11 rfl HSW.o ?_;try simp only[Act.put,yA,yB,yC,yD,yE,yF]
 refine wP 12 rfl HSW.o ?_;try simp only[Act.put,yA,yB,yC,yD,yE,yF]
 refine wV 3 rfl HSW.o ?_;try simp only[Act.put,yA,yB,yC,yD,yE,yF]
 refine wV 7 rfl HSW.o ?_;try simp only[Act.put,yA,yB,yC,yD,yE,yF]
 refine wP 9 rfl HSW.o ?_;try simp only[Act.put,yA,yB,yC,yD,yE,yF]
 refine wV 10 rfl HSW.o ?_;try simp only[Act.put,yA,yB,yC,yD,yE,yF]
 refine wP 13 rfl HSW.o ?_;try simp only[Act.put,yA,yB,yC,yD,yE,yF]
 obtain⟨s1,s2,s3⟩:=HSW.o;refine aV (by kernel_rfl) rfl (by rfl) (fun KK hK=>?_);go_simp;refine hK.o _ _ ?_;clear hK KK;refine wpAny_done (by kernel_rfl) ?_ _;have qm:=Hx (show HpM B g ga ck gb cp N (.s (sA go) n co) (D3.setCell (aD gb x) (vI ((q:Int)+1))) K ((P.set y (p+1)).set x (q+1)) O2/\FrB B w (D3.setCell (aD gb x) (vI ((q:Int)+1)))from
  ⟨G3.o.setP x (q+1),(H4.o.2.tr (FrB.ext X3.o)).tr (fJ ((G3.o.pb.lt gb rfl).1) _ _)⟩)
 clear H4 X3 G3 HSW s1 s2 s3 p1 f1 qk;go_wp2
 go_end0
 exact⟨rfl,by rw[qj.o];exact qm.o⟩
end Fo
namespace Fo
theorem dU.down{le:Nat->Nat->Prop}(o:LeO le){l:LN}{n i:Nat}(h:dU le l n)(hn:n<=l.length):eI le l n i:=
 ⟨fun k a b h0 hk _ ha hb=>h k a b h0 hk ha hb,fun k a b hi h0 hk hp ha hb=>by
  obtain⟨c,hc⟩:∃c,l[i]?=some c:=⟨_,yG (by omega)⟩;exact o.tr _ _ _ (h i a c hi (by omega) ha hc) (h k c b h0 hk (by rw[hp];exact hc) hb)⟩
theorem jzgb{O:LN}{p q x y:Nat}(hp:O[p]?=some x)(hq:O[q]?=some y):bX O p q=bX O q p:=by
 apply uK;intro k;rw[iE hp hq,iE hq hp];by_cases e1:k=q;{by_cases e2:k=p;{rw[if_pos e1,if_pos e2];rw[<-e1,e2,hp]at hq;exact hq};rw[if_pos e1,if_neg e2,if_pos e1]};by_cases e2:k=p;{rw[if_neg e1,if_pos e2,if_pos e2]};rw[if_neg e1,if_neg e2,if_neg e2,if_neg e1]
structure StI(B g ga ck gb cp N:Nat)(vO:Value)(w0:World)(Ky:List Int)(P O:LN)(w:World)(P' O':LN):Prop where
 len:O'.length=O.length
 hm:HpM B g ga ck gb cp N vO w Ky P' O'
 hp:HP N Ky P' O'
 q:∀x,qP Ky P' x=qP Ky P x
 fr:FrB B w0 w
section
variable {B g ga ck gb cp N:Nat} {vO:Value} {w0 w w':World} {Ky:List Int} {P O P' O':List Nat}
theorem StI.K(h:StI B g ga ck gb cp N vO w0 Ky P O w P' O')(hx:Ext w w'):StI B g ga ck gb cp N vO w0 Ky P O w' P' O':=⟨h.len,h.hm.K hx,h.hp,h.q,h.fr.tr (FrB.ext hx)⟩
theorem StI.swap(h:StI B g ga ck gb cp N vO w0 Ky P O w P' O'){p q x y:Nat}(hp:O'[p]?=some x)(hq:O'[q]?=some y)(hm:HpM B g ga ck gb cp N vO w' Ky ((P'.set y (p+1)).set x (q+1)) (bX O' p q))(hf:FrB B w w'):StI B g ga ck gb cp N vO w0 Ky P O w' ((P'.set y (p+1)).set x (q+1)) (bX O' p q):=by
 obtain⟨h1,h2⟩:=h.hp.swap hp hq;exact⟨by rw[lR,h.len],hm,h1,fun x=>(h2 x).trans (h.q x),h.fr.tr hf⟩
theorem StI.at_(h:StI B g ga ck gb cp N vO w0 Ky P O w P' O'){i:Nat}(hi:i<O.length):∃x,O'[i]?=some x/\x<N:=by
 obtain⟨x,hx⟩:∃x,O'[i]?=some x:=⟨_,yG (by rw[h.len];exact hi)⟩;exact⟨x,hx,(h.hp.inn i x hx).1⟩
end
structure LsI(Ky:List Int)(O:LN)(n p kid m:Nat):Prop where
 rng:m=p\/(2*p+1<=m/\m<kid/\m<n)
 min:∀j,j=p\/(2*p+1<=j/\j<kid/\j<n)->∀a b,O[m]?=some a->O[j]?=some b->leK Ky a b
theorem LsI.next{Ky:List Int}{O:LN}{n p kid m:Nat}(h:LsI Ky O n p kid m)(hk:2*p+1<=kid)(hkn:kid<n){x y:Nat}(hx:O[kid]?=some x)(hy:O[m]?=some y):LsI Ky O n p (kid+1) (if eZ Ky x y then kid else m):=by
 by_cases hb:eZ Ky x y=true;{rw[if_pos hb];(refine⟨.inr (by omega),fun j hj a b ha hb2=>?_⟩;rw[hx]at ha;injection ha with ha);subst ha;by_cases e:j=kid;{rw[e,hx]at hb2;(injection hb2 with hb2);subst hb2;exact(gK Ky).refl _};exact(gK Ky).tr _ _ _ (jzb hb) (h.min j (by omega) y b hy hb2)};rw[if_neg hb];refine⟨?_,fun j hj a b ha hb2=>?_⟩;{have:=h.rng;omega};by_cases e:j=kid;{rw[e,hx]at hb2;(rw[hy]at ha;injection ha with ha;injection hb2 with hb2);subst ha hb2;exact jzc (by simpa using hb)};exact h.min j (by omega) a b ha hb2
theorem sC(B g ga ck gb cp N:Nat)(vO:Value)(Ky:List Int)(P O:LN)(p:Nat)w(h:HpM B g ga ck gb cp N vO w Ky P O)(hh:HP N Ky P O)(hp:p<O.length)(hU:UpI (leK Ky) O O.length p\/(p=0/\eI (leK Ky) O O.length 0))(hN:O.length<=1000000):
  Calls Tryz.prog 271 #[.pointer (sA g),vI (p:Int)] w fun e w'=>e=.returned (.tuple #[])/\∃P' O',StI B g ga ck gb cp N vO w Ky P O w' P' O'/\dU (leK Ky) O' O.length:=by
 obtain⟨go,co,rfl,qx,_⟩:=h.form (by omega);have I0:Hid (StI B g ga ck gb cp N (.s (sA go) O.length co) w Ky P O w P O/\(UpI (leK Ky) O O.length p\/(p=0/\eI (leK Ky) O O.length 0))):=Hx (⟨⟨rfl,h,hh,fun _=>rfl,FrS.refl _ _⟩,hU⟩);clear h hh hU;generalize hn:O.length=n at*;have HN:=Hx hn;clear hn;go_enter Tryz.func271,Tryz.ntmps271;go_wp2;go_loopg [1] p (fun q it wx=>∃(P' O':LN),it=vI (q:Int)/\q<n/\Hid (StI B g ga ck gb cp N (.s (sA go) n co) w Ky P O wx P' O'/\(UpI (leK Ky) O' n q\/(q=0/\eI (leK Ky) O' n 0))));(case atStart=>exact⟨P,O,rfl,hp,I0⟩);obtain⟨P1,O1,rfl,hq,I⟩:=hrel;obtain⟨q,rfl⟩:∃q,q=gk:=⟨_,rfl⟩;clear I0;obtain⟨r,hr⟩:∃r:Nat,r=(q-1)/2:=⟨_,rfl⟩;obtain⟨x,hx,qa⟩:=I.o.1.at_ (i:=q) (by rw[HN.o];exact hq);obtain⟨y,hy,qe⟩:=I.o.1.at_ (i:=r) (by rw[HN.o];omega);have HX:=Hx (kQa hx (kQa qa (kQa hy qe)));have HR:=Hx hr;have w1:IntKind.i64.wrap ((q:Int)-1)=(q:Int)-1:=IntWalk.i64_in _ (by omega);have w3:IntKind.i64.wrap (r:Int)=(r:Int):=IntWalk.i64_in _ (by omega);clear hx hy hr;(go_upto_region 0 with fail);go_cut [15] (fun s wx=>s=.bool (decide (0<q)&&eZ Ky x y)/\Hid (Ext wr wx));(case first=>by_cases h0:q=0;{subst h0;clear w1;go_wp2;go_meet;exact⟨rfl,Hx (eR _)⟩};have w2:((q:Int)-1)/2=(r:Int):=(by have:=HR.o;omega);have qt:(0:Int)<(q:Int):=(by omega);have qo:=Hx (show 0<q by omega);clear h0;(go_wp2_with fail);refine(jzd B g ga ck gb cp N (.s (sA go) n co) Ky P1 O1 q r x y _ I.o.1.hm HX.o.1 HX.o.2.2.1 HX.o.2.1 HX.o.2.2.2).mono ?_;rintro e wB ⟨rfl,x1⟩;go_wp2;go_meet;exact⟨by rw[yO qo.o,kZg],Hx x1⟩);obtain⟨rfl,X1⟩:=hcut;have I1:=Hx (kQa (I.o.1.K X1.o) I.o.2);clear I X1;cases hc:decide (0<q)&&eZ Ky x y;(case true=>rw[vM,decide_eq_true_eq]at hc;have w2:((q:Int)-1)/2=(r:Int):=(by have:=HR.o;omega);have HC:=Hx hc;clear hc;(go_wp2_with fail);refine(sB B g ga ck gb cp N (.s (sA go) n co) Ky P1 O1 q r x y _ I1.o.1.hm HX.o.1 HX.o.2.2.1 HX.o.2.1 HX.o.2.2.2 (by rw[I1.o.1.len,HN.o];exact hN)).mono ?_;rintro e wS ⟨rfl,qf,qg⟩;have I2:=Hx (kQa (I1.o.1.swap HX.o.1 HX.o.2.2.1 qf qg) (show UpI (leK Ky) (bX O1 q r) n r from by have hU:=I1.o.2.resolve_right fun e=>(by have:=HC.o.1;omega);have h1:=hU.step (gK Ky) HC.o.1 hq (by rw[<-HR.o];exact HX.o.2.2.1) HX.o.1 (jzb HC.o.2);rw[<-HR.o]at h1;rw[jzgb HX.o.1 HX.o.2.2.1];exact h1));clear qf qg I1;go_wp2;go_roundg r;(case measure=>have:=HC.o.1;have:=HR.o;omega);exact⟨_,_,by have h9:=HR.o;have h8:=HC.o.1;exact congrArg (Value.int .i64) (by omega),by have:=HR.o;omega,Hx ⟨I2.o.1,.inl I2.o.2⟩⟩);obtain⟨W2,qm⟩:∃W,W=wc:=⟨_,rfl⟩;have J0:Hid (StI B g ga ck gb cp N (.s (sA go) n co) w Ky P O wc P1 O1/\eI (leK Ky) O1 n q):=Hx (⟨I1.o.1,by (have hl:O1.length=n:=(by rw[I1.o.1.len,HN.o]);rcases I1.o.2 with hU|⟨e,hD⟩);{refine dU.down (gK Ky) (hU.done ?_) (by omega);by_cases h0:q=0;{exact .inl h0};(refine .inr fun a b ha hb=>?_;rw[yO (show 0<q by omega),kZg]at hc;have h1:=jzc hc;have e1:=HX.o.1;have e2:=HX.o.2.2.1;rw[<-HR.o,e2]at ha;rw[e1]at hb;injection ha with ha;injection hb with hb);subst ha hb;exact h1};rw[e];exact hD⟩);clear hc I1 HX HR w1 w3 qa qe qm W2;clear x y r;go_wp2;go_loopg [1,4,5] (n-q) (fun m it _ _ wx=>∃(p2:Nat) (P' O':LN),n-p2=m/\p2<n/\it=vI (p2:Int)/\Hid (StI B g ga ck gb cp N (.s (sA go) n co) w Ky P O wx P' O'/\eI (leK Ky) O' n p2));(case atStart=>exact⟨q,P1,O1,rfl,hq,rfl,J0⟩);obtain⟨p2,P2,O2,rfl,qn,rfl,J⟩:=hrel;clear J0 hq hp;have qi:O2.length=n:=(by rw[J.o.1.len,HN.o]);have v1:IntKind.i64.wrap (2*(p2:Int))=2*(p2:Int):=IntWalk.i64_in _ (by omega);have v2:IntKind.i64.wrap (2*(p2:Int)+1)=2*(p2:Int)+1:=IntWalk.i64_in _ (by omega);have v3:IntKind.i64.wrap (2*(p2:Int)+2)=2*(p2:Int)+2:=IntWalk.i64_in _ (by omega);have qj:∀a b,O2[p2]?=some a->O2[p2]?=some b->leK Ky a b:=fun a b ha hb=>(by rw[ha]at hb;injection hb with hb;rw[hb];exact(gK Ky).refl _);have L0:Hid (LsI Ky O2 n p2 (2*p2+1) p2/\Ext wr wr):=Hx (⟨⟨.inl rfl,fun j hj a b ha hb=>by obtain rfl:j=p2:=(by omega);exact qj a b ha hb⟩,eR _⟩);clear qi qj;obtain⟨W4,rfl⟩:∃W,W=wr:=⟨_,rfl⟩;go_wp2;go_loopg [4,5] 2 (fun m le ki wx=>∃(kid mm:Nat),2*p2+3-kid=m/\2*p2+1<=kid/\kid<=2*p2+3/\le=vI (mm:Int)/\ki=vI (kid:Int)/\Hid (LsI Ky O2 n p2 kid mm/\Ext W4 wx));(case atStart=>exact⟨2*p2+1,p2,by omega,yX _,by omega,rfl,by go_num,L0⟩);obtain⟨kid,mm,rfl,qk,qp,rfl,rfl,L⟩:=hrel;clear L0;have i2:wr.cell? (aD g 2)=some (.s (sA go) n co):=aH L.o.2 (J.o.1.hm.hb.cell 2);by_cases hA:kid<2*p2+3/\kid<n;{obtain⟨x,hx,qa⟩:=J.o.1.at_ (i:=kid) (by rw[HN.o];exact hA.2);obtain⟨y,hy,qe⟩:=J.o.1.at_ (i:=mm) (by rw[HN.o];have:=L.o.1.rng;omega);have HX:=Hx (kQa hx (kQa qa (kQa hy qe)));have k1:(kid:Int)<=2*(p2:Int)+2:=(by omega);have k2:(kid:Int)<(n:Int):=(by omega);have LN:=Hx (L.o.1.next qk hA.2 hx hy);clear hx hy;(go_wp2_with fail);refine(jzd B g ga ck gb cp N (.s (sA go) n co) Ky P2 O2 kid mm x y _ (J.o.1.hm.K L.o.2) HX.o.1 HX.o.2.2.1 HX.o.2.1 HX.o.2.2.2).mono ?_;rintro e wB ⟨rfl,xB⟩;have XB:=Hx (L.o.2.tr xB);clear xB i2;cases hb:eZ Ky x y;{rw[hb]at LN;clear hb;go_wp2;go_roundg (2*p2+3-(kid+1));(case measure=>omega);exact⟨kid+1,mm,rfl,by omega,by omega,rfl,by go_num,Hx ⟨LN.o,XB.o⟩⟩};rw[hb]at LN;clear hb;go_wp2;go_roundg (2*p2+3-(kid+1));(case measure=>omega);exact⟨kid+1,kid,rfl,by omega,by omega,rfl,by go_num,Hx ⟨LN.o,XB.o⟩⟩};have HA:=Hx (show(kid=2*p2+3\/n<=kid)/\kid<=2*p2+3 by omega);(go_upto_region 5 with fail);go_cut [42] (fun s wx=>s=.bool false/\Hid (wx=wr));(case first=>by_cases h1:kid=2*p2+3;{(have k1:¬(kid:Int)<=2*(p2:Int)+2:=by omega);clear h1 hA;go_wp2;go_meet;exact⟨rfl,Hx rfl⟩};have k1:(kid:Int)<=2*(p2:Int)+2:=(by omega);have k2:¬(kid:Int)<(n:Int):=(by omega);clear h1 hA;go_wp2;go_meet;exact⟨rfl,Hx rfl⟩);obtain⟨rfl,HW⟩:=hcut;have JL:Hid (StI B g ga ck gb cp N (.s (sA go) n co) w Ky P O wc P2 O2/\eI (leK Ky) O2 n p2/\LsI Ky O2 n p2 kid mm):=Hx (by rw[HW.o];exact⟨J.o.1.K L.o.2,J.o.2,L.o.1⟩);clear HW J L i2 hA qk qp;have DN:Hid (∀(k:Nat) (a b:Nat),0<k->k<n->(k-1)/2=p2->O2[mm]?=some a->O2[k]?=some b->leK Ky a b):=Hx (fun k a b h0 hk hp ha hb=>JL.o.2.2.min k (by have:=HA.o;omega) a b ha hb);by_cases e:mm=p2;{have E:=Hx (JL.o.2.1.done fun k a b h0 hk hp ha hb=>DN.o k a b h0 hk hp (by rw[e];exact ha) hb);have F:=Hx JL.o.1;have e1:(mm:Int)=(p2:Int):=(by omega);clear JL DN HA e v1 v2 v3;go_wp2;exact bodyPost_ret (v:=.tuple #[]) (by simp[results,Tryz.results271,go_sem]) rfl ⟨rfl,P2,O2,F.o,E.o⟩};obtain⟨x,hx,qa⟩:=JL.o.1.at_ (i:=p2) (by rw[HN.o];exact qn);have qh:mm<n:=(by have:=JL.o.2.2.rng;omega);obtain⟨y,hy,qe⟩:=JL.o.1.at_ (i:=mm) (by rw[HN.o];exact qh);have HX:=Hx (kQa hx (kQa qa (kQa hy qe)));have qu:=JL.o.2.2.rng;have HM:Hid (0<mm/\mm<n/\(mm-1)/2=p2/\p2<mm):=Hx (by have:=HA.o;omega);have DS:=Hx (JL.o.2.1.step (gK Ky) HM.o.1 qh HM.o.2.2.1 hx hy (JL.o.2.2.min p2 (.inl rfl) y x hy hx) fun k c h0 hk hp hc=>DN.o k y c h0 hk hp hy hc);have e1:((mm:Int)==(p2:Int))=false:=yK.2 (by omega);have e2:¬((mm:Int)=(p2:Int)):=(by omega);clear hx hy qu e DN HA v1 v2 v3;(go_wp2_with fail);refine(sB B g ga ck gb cp N (.s (sA go) n co) Ky P2 O2 p2 mm x y _ JL.o.1.hm HX.o.1 HX.o.2.2.1 HX.o.2.1 HX.o.2.2.2 (by rw[JL.o.1.len,HN.o];exact hN)).mono ?_;rintro e wS ⟨rfl,qf,qg⟩;have I2:=Hx (JL.o.1.swap HX.o.1 HX.o.2.2.1 qf qg);clear qf qg JL;go_wp2;go_roundg (n-mm);(case measure=>have:=HM.o;omega);exact⟨mm,_,_,rfl,qh,rfl,Hx ⟨I2.o,DS.o⟩⟩
end Fo
namespace Fo
theorem jze{α:Type}[DecidableEq α]:∀{l k:List α},l.Nodup->(∀a∈l,a∈k)->l.length<=k.length
 | [],_,_,_=>yZ _
 |a::l,k,h,hs=>by
  have h1:=kZo.1 h;have h2:=jze (l:=l) (k:=k.erase a) h1.2 fun b hb=>by
   have qa:b≠a:=fun e=>h1.1 (e▸hb);exact(List.mem_erase_of_ne qa).2 (hs b (by simp[hb]))
  rw[List.length_erase_of_mem (hs a (by simp))]at h2;have:=List.length_pos_of_mem (hs a (by simp));show l.length+1<=k.length;omega
theorem HP.few{N:Nat}{Ky:List Int}{P O:LN}(h:HP N Ky P O):O.length<=N:=by
 have h1:O.Nodup:=(by refine List.pairwise_iff_getElem.2 fun i j hi hj hij e=>?_;have h1:O[j]?=some O[j]:=yG hj;have h2:O[i]?=some O[j]:=(by rw[yG hi,e]);have:=h.inj h2 h1;omega);have h2:=jze (k:=List.range N) h1 fun a ha=>(by obtain⟨i,hi⟩:=List.mem_iff_getElem?.1 ha;exact vX.2 (h.inn i a hi).1);simpa using h2
structure HpA(B g ga ck gb cp N:Nat)(vO:Value)(w:World)(Ky:List Int)(P O:LN):Prop where
 hm:HpM B g ga ck gb cp N vO w Ky P O
 hp:HP N Ky P O
 hh:dU (leK Ky) O O.length
section
variable {B g ga ck gb cp N:Nat} {vO:Value} {w w':World} {Ky:List Int} {P O:List Nat}
theorem HpA.K(h:HpA B g ga ck gb cp N vO w Ky P O)(hx:Ext w w'):HpA B g ga ck gb cp N vO w' Ky P O:=⟨h.hm.K hx,h.hp,h.hh⟩
theorem HpA.low{S:Nat->Prop}(h:HpA B g ga ck gb cp N vO w Ky P O)(k:FrS S w w')(hs:∀b,S b->b<B):HpA B g ga ck gb cp N vO w' Ky P O:=⟨h.hm.low k hs,h.hp,h.hh⟩
theorem jzgc{w:World}{B g n c s m:Nat}{e:TypeId}{xs:List Value}(h:w.ownsRow B e s (.s (sA g) n c) n xs)(hm:m<=n):w.ownsRow B e s (.s (sA g) m c) m (xs.take (m*s)):=by
 have hl:=h.1;have qa:m*s<=n*s:=xS s hm;refine⟨by rw[xF];omega,?_⟩;rcases h.2 with⟨h3,h4⟩|⟨g',cap,cur,h3,h4,h5,h6,h7,h8,h9⟩
 ·cases h3
 injection h3 with e1 e2 e3
 injection e1 with e1
 injection e1 with e1
 subst e1 e3;exact .inr ⟨g,c,cur,rfl,h4,h5,by omega,h7,h8,by rw[<-h9,List.take_take,kZh qa]⟩
theorem HpM.cut{go n co m:Nat}(h:HpM B g ga ck gb cp N (.s (sA go) n co) w Ky P O)(hn:n=O.length)(hm:m<=n):HpM B g ga ck gb cp N (.s (sA go) m co) (w.setCell (aD g 2) (.s (sA go) m co)) Ky P (O.take m):=by
 have k:FrS (fun b=>b=g) w (w.setCell (aD g 2) (.s (sA go) m co)):=eG (bI w g 2 _) fun y e=>(Option.some.inj e).symm;have nt:=NoT.one h.hb (t':=3) (by decide);have key:∀{v:Value} {n:Nat} {xs:List Value},w.ownsRow B 3 1 v n xs->∀b,v.ownBlock=some b->¬b=g:=fun {v n xs} ho b hb e=>(by obtain⟨cs,hc⟩:=rN ho hb;exact nt b e cs _ hc);have ho:=h.ob;rw[hn]at ho;refine⟨h.hb.sT 2 _,k.own h.kb (key h.kb),k.own h.pb (key h.pb),?_,h.bg,h.kp,h.ok,h.op⟩;have h1:=jzgc (m:=m) ho (by omega);rw[Nat.mul_one]at h1;have hl:(O.take m).length=m:=(by rw[xF];omega);rw[hl];have h2:(ints O).take m=ints (O.take m):=(by unfold ints;rw[List.map_take]);rw[h2]at h1;exact k.own h1 fun b hb e=>key ho b hb e
end
def HpQ(B g ga ck gb cp N:Nat)(w:World)(q:Nat->Option Int):Prop:=∃vO Ky P O,HpA B g ga ck gb cp N vO w Ky P O/\∀x,qP Ky P x=q x
theorem jzgd(B g ga ck gb cp N:Nat)(vO:Value)(Ky:List Int)(P O:LN)(n i:Nat)w(h:HpA B g ga ck gb cp N vO w Ky P O)(hn:O.length=n+1)(hi:O[0]?=some i)(hN:N<=1000000):
  Calls Tryz.prog 272 #[.pointer (sA g),vI 0] w fun e w'=>e=.returned (.tuple #[])/\FrB B w w'/\HpQ B g ga ck gb cp N w' fun x=>if x=i then none else qP Ky P x:=by
 obtain⟨go,co,rfl,qj,qk,qm,hB⟩:=h.hm.form (by omega);rw[hn]at h qj;obtain⟨b,hb⟩:∃b,O[n]?=some b:=⟨_,yG (by omega)⟩;have hf:=h.hp.few;have qg:=(h.hp.inn 0 i hi).1;have qh:=(h.hp.inn n b hb).1;have HO:=Hx (kQa hn (kQa hi (kQa hb (kQa qg qh))));have HA:=Hx h;have i2:w.cell? (aD g 2)=some (.s (sA go) (n+1) co):=h.hm.hb.cell 2;have o0:w.cell? (aD go 0)=some (vI (i:Int)):=h.hm.item hn.symm hi;have qn:n<1000000:=(by omega);clear h hn hi hb qg qh;have wn:wrap64 (n:Int)=(n:Int):=by unfold wrap64;omega
 go_enter Tryz.func272,Tryz.ntmps272
 go_wp2_with fail
 refine(sB B g ga ck gb cp N (.s (sA go) (n+1) co) Ky P O 0 n i b _ HA.o.hm HO.o.2.1 HO.o.2.2.1 HO.o.2.2.2.1 HO.o.2.2.2.2 (by rw[HO.o.1];omega)).mono ?_;rintro e wS ⟨rfl,qe,qf⟩;have qi:(bX O 0 n).length=n+1:=(by rw[lR,HO.o.1]);have M2:=Hx (kQa qe qf);have i2:wS.cell? (aD g 2)=some (.s (sA go) (n+1) co):=qe.hb.cell 2;have f2:wS.frozen? (aD g 2)=false:=qe.hb.frozen 2;have M3:=Hx (qe.cut qi.symm (Nat.le_succ n));clear qe qf o0
 go_upto_region 4 with fail
 have F3:=Hx (M2.o.2.tr (fJ (i:=2) M2.o.1.bg wS (.s (sA go) n co)));clear M2 i2 f2;generalize wS.setCell (aD g 2) (.s (sA go) n co)=W3 at*;have X3:Hid (Ext W3 W3.drew):=Hx ((eR W3).drewN 1);have M4:=Hx (M3.o.K X3.o);have iN:(i:Int)<(N:Int):=(by have:=HO.o.2.2.2.1;omega);have HSW:Hid (W3.drew.cell? (aD g 1)=some (.s (sA gb) N cp)/\W3.drew.cell? (aD g 0)=some (.s (sA ga) N ck)):=Hx (⟨M4.o.hb.cell 1,M4.o.hb.cell 0⟩);have q1:=M4.o.place HO.o.2.2.2.1;have f1:=M4.o.pb.frozenAt i;refine wp_region_last (fun w'=>w'.cell? (aD g 1)=some (.s (sA gb) N cp)/\w'.cell? (aD g 0)=some (.s (sA ga) N ck)) 11 (by kernel_rfl) ?_;generalize W3.drew=D at*;have M5:Hid (HpM B g ga ck gb cp N (.s (sA go) n co) (D.setCell (aD gb i) (vI 0)) Ky (((P.set b (0+1)).set i (n+1)).set i 0) ((bX O 0 n).take n)):=Hx (M4.o.setP i 0);have q2:=M5.o.key HO.o.2.2.2.1;have f2:=M5.o.kb.frozenAt i;refine wP 0 rfl HSW.o ?_;try simp only[Act.put,yA,yB,yC,yD,yE,yF]
 refine wP 1 rfl HSW.o ?_;try simp only[Act.put,yA,yB,yC,yD,yE,yF]
 refine wP 2 rfl HSW.o ?_;try simp only[Act.put,yA,yB,yC,yD,yE,yF]
 refine wP 4 rfl HSW.o ?_;try simp only[Act.put,yA,yB,yC,yD,yE,yF]
 refine wP 5 rfl HSW.o ?_;try simp only[Act.put,yA,yB,yC,yD,yE,yF]
 refine wP 6 rfl HSW.o ?_;try simp only[Act.put,yA,yB,yC,yD,yE,yF]
 refine wP 7 rfl HSW.o ?_;try simp only[Act.put,yA,yB,yC,yD,yE,yF]
 refine wP 9 rfl HSW.o ?_;try simp only[Act.put,yA,yB,yC,yD,yE,yF]
 refine wV 3 rfl HSW.o ?_;try simp only[Act.put,yA,yB,yC,yD,yE,yF]
 refine wV 8 rfl HSW.o ?_;try simp only[Act.put,yA,yB,yC,yD,yE,yF]
 refine wP 10 rfl HSW.o ?_;try simp only[Act.put,yA,yB,yC,yD,yE,yF]
 obtain⟨s1,s2⟩:=HSW.o;refine aV (by kernel_rfl) rfl (by rfl) (fun KK hK=>?_);go_simp;refine hK.o _ _ ?_;clear hK KK;try simp only[Act.put,yA,yB,yC,yD,yE,yF]
 refine dQ (i:=12) (by kernel_rfl) rfl (by rfl) (fun KK hK=>?_);go_simp;refine hK.o _ _ ?_;clear hK KK;try simp only[Act.put,yA,yB,yC,yD,yE,yF]
 refine dQ (i:=13) (by kernel_rfl) rfl (by rfl) (fun KK hK=>?_);go_simp;refine hK.o _ _ ?_;clear hK KK;refine wpAny_done (by kernel_rfl) ?_ _;have M6:Hid (HpM B g ga ck gb cp N (.s (sA go) n co) ((D.setCell (aD gb i) (vI 0)).setCell (aD ga i) (vI 0)) (Ky.set i 0) (((P.set b (0+1)).set i (n+1)).set i 0) ((bX O 0 n).take n)):=Hx (M5.o.setK i 0);have F6:Hid (FrB B w ((D.setCell (aD gb i) (vI 0)).setCell (aD ga i) (vI 0))):=Hx (((F3.o.tr (FrB.ext X3.o)).tr (fJ ((M4.o.pb.lt gb rfl).1) _ _)).tr (fJ ((M4.o.kb.lt ga rfl).1) _ _));have T:=Hx (HA.o.hp.take_ HO.o.1 HO.o.2.1 HO.o.2.2.1 HA.o.hh);clear M3 M4 M5 F3 X3 HSW s1 s2 q1 q2 f1 f2 HA;generalize (D.setCell (aD gb i) (vI 0)).setCell (aD ga i) (vI 0)=W6 at*;have hl:((bX O 0 n).take n).length=n:=(by rw[xF,lR,HO.o.1];omega);by_cases h0:n=0
 ·have qa:Hid (HpA B g ga ck gb cp N (.s (sA go) n co) W6 (Ky.set i 0) (((P.set b (0+1)).set i (n+1)).set i 0) ((bX O 0 n).take n)):=Hx (⟨M6.o,T.o.1,fun k x y k0 hk=>by omega⟩)
  have h1:¬((0:Int)<(n:Int)):=(by omega);clear h0 hl M6;go_wp2
  go_end0
  exact⟨rfl,F6.o,_,_,_,_,qa.o,T.o.2.2⟩
 have h1:(0:Int)<(n:Int):=(by omega);have HL:=Hx hl;have h2:0<n:=(by omega);clear h0 hl
 go_wp2_with fail
 refine(sC B g ga ck gb cp N (.s (sA go) n co) (Ky.set i 0) (((P.set b (0+1)).set i (n+1)).set i 0) ((bX O 0 n).take n) 0 _ M6.o T.o.1 (by rw[HL.o];exact h2) (.inr ⟨rfl,by rw[HL.o];exact T.o.2.1⟩) (by rw[HL.o];omega)).mono ?_;rintro e wT ⟨rfl,P9,O9,hS,hH⟩;have qa:Hid (HpA B g ga ck gb cp N (.s (sA go) n co) wT (Ky.set i 0) P9 O9/\(∀x,qP (Ky.set i 0) P9 x=if x=i then none else qP Ky P x)/\FrB B w wT):=Hx (⟨⟨hS.hm,hS.hp,by rw[hS.len];exact hH⟩,fun x=>(hS.q x).trans (T.o.2.2 x),F6.o.tr hS.fr⟩);clear hS hH;go_wp2
 go_end0
 exact⟨rfl,qa.o.2.2,_,_,_,_,qa.o.1,qa.o.2.1⟩
theorem jzge(B g ga ck gb cp N:Nat)(vO:Value)(Ky:List Int)(P:LN)w(h:HpA B g ga ck gb cp N vO w Ky P []):
  Calls Tryz.prog 259 #[.pointer (sA g)] w fun e w'=>e=.returned (.tuple #[vI 0,vI 0,.bool false])/\w=w':=by
 have i2:w.cell? (aD g 2)=some vO:=h.hm.hb.cell 2;obtain⟨A,c,rfl⟩:∃A c,vO=.s A 0 c:=(by (rcases h.hm.ob.2 with⟨e,_⟩|⟨go,co,cur,e,_⟩);{exact⟨none,0,e⟩};exact⟨_,_,e⟩);clear h;go_enter Tryz.func259,Tryz.ntmps259;go_wp2;exact bodyPost_ret (v:=.tuple #[vI 0,vI 0,.bool false]) (by simp[results,Tryz.results259,go_sem]) rfl ⟨rfl,rfl⟩
theorem jzgf(B g ga ck gb cp N:Nat)(vO:Value)(Ky:List Int)(P O:LN)(i:Nat)w(h:HpA B g ga ck gb cp N vO w Ky P O)(hi:O[0]?=some i)(hN:N<=1000000):
  Calls Tryz.prog 259 #[.pointer (sA g)] w fun e w'=>e=.returned (.tuple #[vI (i:Int),vI (aK Ky i),.bool true])/\FrB B w w'/\HpQ B g ga ck gb cp N w' fun x=>if x=i then none else qP Ky P x:=by
 obtain⟨n,hn⟩:∃n,O.length=n+1:=⟨O.length-1,by have:=(yH.1 hi).1;omega⟩;obtain⟨go,co,rfl,qa,_⟩:=h.hm.form (by omega);rw[hn]at h qa;have qe:=(h.hp.inn 0 i hi).1;have HO:=Hx (kQa hn hi);have HA:=Hx h;have i0:w.cell? (aD g 0)=some (.s (sA ga) N ck):=h.hm.hb.cell 0;have i2:w.cell? (aD g 2)=some (.s (sA go) (n+1) co):=h.hm.hb.cell 2;have o0:w.cell? (aD go 0)=some (vI (i:Int)):=h.hm.item hn.symm hi;have k0:=h.hm.key qe;have iN:(i:Int)<(N:Int):=(by omega);generalize hka:aK Ky i=a at*;clear h hn hi hka;go_enter Tryz.func259,Tryz.ntmps259;(go_wp2_with fail);refine(jzgd B g ga ck gb cp N (.s (sA go) (n+1) co) Ky P O n i _ HA.o HO.o.1 HO.o.2 hN).mono ?_;rintro e wT ⟨rfl,hf,hq⟩;have qf:=Hx (kQa hf hq);clear hf hq i0 i2 o0 k0;go_wp2;exact bodyPost_ret (v:=.tuple #[vI (i:Int),vI a,.bool true]) (by simp[results,Tryz.results259,go_sem]) rfl ⟨rfl,qf.o⟩
theorem jzgg(B g ga ck gb cp N:Nat)(vO:Value)(Ky:List Int)(P O:LN)(i:Nat)w(h:HpM B g ga ck gb cp N vO w Ky P O)(hi:i<N):
  Calls Tryz.prog 260 #[.pointer (sA g),vI (i:Int)] w fun e w'=>(∃k:Int,e=.returned (.tuple #[vI k,.bool (qP Ky P i).isSome])/\∀j,qP Ky P i=some j->k=j)/\w=w':=by
 have i0:w.cell? (aD g 0)=some (.s (sA ga) N ck):=h.hb.cell 0;have i1:w.cell? (aD g 1)=some (.s (sA gb) N cp):=h.hb.cell 1;have k0:=h.key hi;have p0:=h.place hi;have iN:(i:Int)<(N:Int):=(by omega);have HQ:Hid (qP Ky P i=if P[i]?.getD 0=0 then none else some (aK Ky i)):=Hx (rfl);generalize P[i]?.getD 0=m at*;generalize aK Ky i=a at*;clear h hi;by_cases hm:m=0;{subst hm;go_enter Tryz.func260,Tryz.ntmps260;go_wp2;exact bodyPost_ret (v:=.tuple #[vI 0,.bool false]) (by simp[results,Tryz.results260,go_sem]) rfl ⟨⟨0,by rw[HQ.o];rfl,fun j hj=>by rw[HQ.o]at hj;cases hj⟩,rfl⟩};have qa:((m:Int)==0)=false:=yK.2 (by omega);have HM:=Hx hm;have qe:¬((m:Int)=0):=(by omega);clear hm;go_enter Tryz.func260,Tryz.ntmps260;go_wp2;exact bodyPost_ret (v:=.tuple #[vI a,.bool true]) (by simp[results,Tryz.results260,go_sem]) rfl ⟨⟨a,by rw[HQ.o,if_neg HM.o];rfl,fun j hj=>by rw[HQ.o,if_neg HM.o]at hj;injection hj⟩,rfl⟩
end Fo
end Go.Proofs.YtllmekijiohgmaaGreatDoor
namespace Go.Proofs.YtllmekijiohgmaaGreatDoor
namespace Sx
def sm:Nat->(Nat->Rat)->Rat
 |0,_=>0
 |n+1,f=>sm n f+f n
theorem lV:∀(n:Nat) {f g:Nat->Rat},(∀k,k<n->f k=g k)->sm n f=sm n g
 |0,_,_,_=>rfl
 |n+1,f,g,h=>by
  show sm n f+f n=sm n g+g n;rw[lV n (fun k hk=>h k (by omega)),h n (by omega)]
theorem lW:∀(n:Nat) {f:Nat->Rat},(∀k,k<n->f k=0)->sm n f=0
 |0,_,_=>rfl
 |n+1,f,h=>by
  show sm n f+f n=0;rw[lW n (fun k hk=>h k (by omega)),h n (by omega)];grind
theorem nO:∀(n:Nat) (f g:Nat->Rat),sm n (fun k=>f k+g k)=sm n f+sm n g
 |0,_,_=>by show(0:Rat)=0+0;grind
 |n+1,f,g=>by
  show sm n (fun k=>f k+g k)+(f n+g n)=(sm n f+f n)+(sm n g+g n);rw[nO n f g];grind
theorem sD:∀(n:Nat) (c:Rat) (f:Nat->Rat),sm n (fun k=>c*f k)=c*sm n f
 |0,c,_=>by show(0:Rat)=c*0;grind
 |n+1,c,f=>by
  show sm n (fun k=>c*f k)+c*f n=c*(sm n f+f n);rw[sD n c f];grind
theorem kH:∀(n:Nat) {f:Nat->Rat} {l:Nat},l<n->(∀k,k<n->k≠l->f k=0)->sm n f=f l
 |n+1,f,l,hl,h=>by
  show sm n f+f n=f l;by_cases e:l=n
  ·subst e
   rw[lW l (fun k hk=>h k (by omega) (by omega))];grind
  ·rw[kH n (by omega) (fun k hk hkl=>h k (by omega) hkl),h n (by omega) (fun e2=>e e2.symm)];grind
theorem nP{a b:Rat}(h:0<=a)(h2:0<b):0<=a/b:=by
 rw[Rat.div_def];exact vA h (vB (Rat.inv_pos.2 h2))
section
variable {m nv N:Nat} {M:Nat->Nat->Nat->Rat} {bas:Nat->Nat->Nat} {i e:Nat->Nat}
def inB(m:Nat)(bas:Nat->Nat)(v:Nat):Prop:=∃l,l<m/\bas l=v
open Classical in
end
end Sx
namespace Sx
def sg(j:Nat):Rat:=if j%2=0 then 1 else-1
def sk(j l:Nat):Nat:=if l<j then l else l+1
def mn(a:Nat->Nat->Rat)(j:Nat):Nat->Nat->Rat:=fun i l=>a (i+1) (sk j l)
def us(j k:Nat):Nat:=if k<j then k else k-1
def isI(q:Rat):Prop:=∃z:Int,q=(z:Rat)
theorem isI.add{a b:Rat}:isI a->isI b->isI (a+b):=fun⟨x,h⟩ ⟨y,h2⟩=>⟨x+y,by rw[h,h2,Rat.intCast_add]⟩
theorem isI.mul{a b:Rat}:isI a->isI b->isI (a*b):=fun⟨x,h⟩ ⟨y,h2⟩=>⟨x*y,by rw[h,h2,kZu]⟩
theorem isI.neg{a:Rat}:isI a->isI (-a):=fun⟨x,h⟩=>⟨-x,by rw[h,Rat.intCast_neg]⟩
theorem isI.zero:isI 0:=⟨0,rfl⟩
theorem isI.one:isI 1:=⟨1,rfl⟩
theorem isI.sm:∀(n:Nat) {f:Nat->Rat},(∀k,k<n->isI (f k))->isI (sm n f)
 |0,_,_=>isI.zero
 |n+1,_,h=>(isI.sm n fun k hk=>h k (by omega)).add (h n (by omega))
def pr:Nat->(Nat->Rat)->Rat
 |0,_=>1
 |n+1,f=>pr n f*f n
end Sx
namespace Sx
structure Rw where
 co:LQ
 re:Rat
structure Tb where
 rows:List Rw
 bas:LN
 fre:LN
 goal:Rw
 cols:Nat
def at_(l:LQ)(k:Nat):Rat:=l[k]?.getD 0
def Tb.row(T:Tb)(i:Nat):Rw:=T.rows[i]?.getD ⟨[],0⟩
end Sx
namespace Sx
def kk(nv:Nat)(ks:Nat->Rat):Nat->Rat:=fun v=>if v<nv then ks v else 0
end Sx
namespace Sx
def SzZ(q:Rat)(Z:Nat):Prop:=q.num.natAbs<=Z/\q.den<=Z
theorem jzf{q:Rat}{D N:Int}{Z:Nat}(hD:D≠0)(h:q*(D:Rat)=(N:Rat))(h1:D.natAbs<=Z)(h2:N.natAbs<=Z):SzZ q Z:=by
 have hz:q.num*D=N*q.den:=(by have h3:((q.num:Int):Rat)=q*((q.den:Int):Rat):=(by have h:=Rat.num_divInt_den q;have h3:((q.den:Int):Rat)≠0:=fun e=>(by have:=Rat.intCast_inj.1 (show((q.den:Int):Rat)=((0:Int):Rat)from e);have:=q.den_nz;omega);rw[Rat.divInt_eq_div]at h;grind);have h5:((q.num*D:Int):Rat)=((N*(q.den:Int):Int):Rat):=(by rw[kZu,kZu,h3, <-h];grind);exact Rat.intCast_inj.1 h5);have qa:q.num.natAbs*D.natAbs=N.natAbs*q.den:=(by have:=congrArg Int.natAbs hz;rw[Int.natAbs_mul,Int.natAbs_mul,Int.natAbs_natCast]at this;exact this);have qg:q.den∣D.natAbs:=(by have hc:Nat.Coprime q.den q.num.natAbs:=q.reduced.symm;exact hc.dvd_of_dvd_mul_left ⟨N.natAbs,by rw[qa,vE]⟩);have qe:0<D.natAbs:=Int.natAbs_pos.2 hD;obtain⟨c,hc⟩:=qg;have qf:0<c:=(by (rcases kQm c with h3|h3);{rw[h3]at hc;omega};exact h3);refine⟨?_,yY (Nat.le_of_dvd qe ⟨c,hc⟩) h1⟩;have qh:q.num.natAbs*c=N.natAbs:=(by have h3:q.den*(q.num.natAbs*c)=q.den*N.natAbs:=(by rw[<-kQg,vE q.den q.num.natAbs,kQg, <-hc,qa,vE]);exact Nat.eq_of_mul_eq_mul_left q.den_pos h3);have:q.num.natAbs<=q.num.natAbs*c:=Nat.le_mul_of_pos_right _ qf;omega
section
variable {T:Tb} {m nv:Nat} {M:Nat->Nat->Rat} {Cs:Nat->Nat->Rat} {ks b:Nat->Rat}
end
end Sx
namespace Sx
def FK(m v:Nat):Rat:=if v=m then 1 else 0
def fb(L2:Nat)(cap:Nat->Rat)(i:Nat):Rat:=if i<L2 then cap i else 0
section
variable {L2 D:Nat} {am cap:Nat->Rat} {P:List (Nat×List Nat)}
end
end Sx
open Go.RowKit
section
variable {o:Oper} {a:Act} {Q:Exit->Act->World->Prop}
theorem jzg{w:World}{B n s:Nat}{e:TypeId}{v:Value}{xs:List Value}(h:w.ownsRow B e s v (n+1) xs):∃g c,v=.s (sA g) (n+1) c/\n+1<=c:=by
 rcases h.2 with⟨_,h4⟩|⟨g',cap,cur,h3,h4,h5,h6,_⟩
 ·omega
 exact⟨g',cap,h3,h6⟩
theorem jzh{K:Act->World->Prop}(W:World)(tS e:TypeId)(z:Value)(sz bytes:Nat)(s x:Operand)
  (ho:o.op=.call {callee:=.builtin .append,args:=#[s,x],argTypes:=#[tS,tS]})
  (ht:Tryz.prog.underlying tS=some (.slice e)) (hinfo:(Tryz.prog.info? e).map (fun i=>(i.zero,i.size,i.bytes))=some (some z,sz,bytes)) (hzs:z.cells.size=sz) (hsz:0<sz)
  (B:Nat) (v:Value) (n:Nat) (xs:List Value) (hs:a.eval s=v) (hown:W.ownsRow B e sz v n xs) (us:List Value) (hus:us.length=sz) (hone:∀u∈us,u.oneCell'=true) (g:Nat) (hx:a.eval x=.s (sA g) 1 1)
  (hblk:Blk W g e us.toArray) (hl:n+1<=maxLen) (hb:(n+1)*bytes<=140737488355328) (hB:B<=W.heap.size)
  (h:∀g' c' w',w'.ownsRow B e sz (.s (sA g') (n+1) c') (n+1) (xs++us)->W.grownBy w' v.ownBlock->(some g'=v.ownBlock\/g'=W.heap.size)->K (a.put o.dst (.s (sA g') (n+1) c')) w'):o.wp Tryz.prog a W K Q:=by
 obtain⟨ti,hi,qf,qg,qe⟩:=info_parts hinfo;obtain⟨v',w',qa,k1,k2,k3,k4⟩:=run_append_own_at (P:=Tryz.prog) W B tS o.type e ti z sz bytes ht hi qf qg qe hzs hsz v n xs hown (aD g 0) 1 1 us (by omega) (fun j u hj=>by rw[iU,kQu];exact(hblk.cell j).trans (by simpa using hj)) hone hl hb hB;(unfold Oper.wp execOp;simp only[ho,resolve,invoke,builtin,Sem.run_bind,Sem.run_pure,Result.andThen_ok,List.map_toArray,kZa,List.map_nil,hs,hx,qa];obtain⟨g',c',rfl,_⟩:=jzg k1;refine h g' c' w' k1 k2 ?_;rcases k4 with k4|k4);{exact .inl k4};(have k4:some g'=some W.heap.size:=k4;injection k4 with k4);exact .inr k4
theorem dW{ops:Array Oper}{rest:List Oper}(W:World)(tS e:TypeId)(z:Value)(sz bytes:Nat)(hgd:o.guard=none)(s x:Operand)
  (ho:o.op=.call {callee:=.builtin .append,args:=#[s,x],argTypes:=#[tS,tS]})
  (ht:Tryz.prog.underlying tS=some (.slice e)) (hinfo:(Tryz.prog.info? e).map (fun i=>(i.zero,i.size,i.bytes))=some (some z,sz,bytes)) (hzs:z.cells.size=sz) (hsz:0<sz)
  (B:Nat) (v:Value) (n:Nat) (xs:List Value) (hs:a.eval s=v) (hown:W.ownsRow B e sz v n xs) (us:List Value) (hus:us.length=sz) (hone:∀u∈us,u.oneCell'=true) (g:Nat) (hx:a.eval x=.s (sA g) 1 1)
  (hblk:Blk W g e us.toArray) (hl:n+1<=maxLen) (hb:(n+1)*bytes<=140737488355328) (hB:B<=W.heap.size)
  (h:∀g' c' w',w'.ownsRow B e sz (.s (sA g') (n+1) c') (n+1) (xs++us)->W.grownBy w' v.ownBlock->(some g'=v.ownBlock\/g'=W.heap.size)->wpList Tryz.prog ops Q rest (a.put o.dst (.s (sA g') (n+1) c')) w'):wpList Tryz.prog ops Q (o::rest) a W:=by
 obtain⟨ti,hi,qe,qf,qa⟩:=info_parts hinfo;refine wpList_append_own_at _ hgd s x tS ho B e ti z sz bytes ht hi qe qf qa hzs hsz v n xs hs hown (aD g 0) 1 1 us hx (by omega) ?_ hone hl hb hB ?_;{intro j u hj;rw[iU,kQu];exact(hblk.cell j).trans (by simpa using hj)};(intro v' w' k1 k2 _ k4;obtain⟨g',c',rfl,_⟩:=jzg k1;refine h g' c' w' k1 k2 ?_;rcases k4 with k4|k4);{exact .inl k4};(have k4:some g'=some W.heap.size:=k4;injection k4 with k4);exact .inr k4
end
end Go.Proofs.YtllmekijiohgmaaGreatDoor
