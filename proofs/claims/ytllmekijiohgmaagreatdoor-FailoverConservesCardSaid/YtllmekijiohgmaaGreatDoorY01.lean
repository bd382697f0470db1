/- FailoverConserves: for every input the call returns true, and each argument reads afterwards as it read before; the tied card. Conditions: none beyond the given statement's. -/
import Derived.Test.YtllmekijiohgmaaGreatDoorCards
import Derived.Test.YtllmekijiohgmaaGreatDoorTie
import Derived.SevenTiedAt
import Derived.Test.YtllmekijiohgmaaGreatDoorT23
set_option linter.unusedVariables false
set_option linter.unusedSimpArgs false
set_option maxRecDepth 100000
set_option maxHeartbeats 8000000
namespace Go.Proofs.YtllmekijiohgmaaGreatDoor
open Go.ChangeShapes Go.WideShapes Go.ChangeAt Go.RowKit
theorem conserves_lifted(os:Os)(started:os.Started)(H:Type)(enc:TypeId×Value->H):
  ReturnsInHanded {} Tryz.checked os 6 .any (fun w qa=>(Rows.failoverConservesSpec.pre enc Tryz.prog Tryz.f6 [] false w qa/\laidMetH Tryz.prog iZ w)/\sizedMet enc Tryz.prog Tryz.f6 (OpenSpec.ofChange Rows.failoverConservesSpec) false w qa)
   (Rows.failoverConservesSpec.post enc Tryz.prog Tryz.f6 false true false false):=by
 refine returnsInHanded_of_change_and (C:=Tryz.checked) (X:=fun w _=>laidMetH Tryz.prog iZ w) (fun _ _ _ hh h=>h.of_heap hh) Tryz.own started (by kernel_rfl) Tryz.func6
  (ChangeSpec.witness_shaped (enc:=enc) (C:=Tryz.checked) (os:=os) (X:=fun w _=>laidMetH Tryz.prog iZ w) false (World.doorLaid Tryz.prog 24 os) #[.agg #[vI 0,zN,zN],.agg #[vI 0,vI 0,zN,vI 0,zN]] 8 rfl (World.shaped_of_RefB (by kernel_rfl) (by kernel_rfl)) (by kernel_rfl) (by kernel_rfl) (by kernel_rfl) (jzfc os _)) ?_
 intro W base qa ds gs before qf hW _ _ hL _;have qe:∀(j:Nat) t v,Tryz.f6.params[j]?=some t->qa[j]?=some v->Value.okWide Tryz.prog W .any base t v:=qf;have qh:=hW;obtain⟨p,q,qk,hV,rfl,qn,qm⟩:=hW;have hA:DataW.TrodAll enc Tryz.prog W 0 (fun _=>true) true Tryz.f6.params.toList qa.toList ds p:=qk;rw[Tryz.params6]at hA qe;obtain⟨v0,v1,d0,d1,p0,p1,rfl,rfl,rfl,h0,h1⟩:=trodAll_two hA;obtain⟨rfl,rfl⟩:=trodVars_none hV;have qi:=h0;have qj:=h1;obtain⟨t,AO,co,AL,cl,rfl,g1,g2,g3,_,_,g4,g5,g6⟩:=jzgs (qe 0 25 v0 rfl rfl) h0;obtain⟨kd,nm,A,l,c,s,P,pk,cp,rfl,k1,k2,k3,k4⟩:=Fo.open_qry (qe 1 31 v1 rfl rfl) h1;have qg:∀x∈p0++p1,x.block<W.heap.size:=fun x hx=>qh.lt x (by simpa using hx);refine(Fo.cons44_law t AO co AL cl kd nm A l.length c s P pk.length cp l pk W ⟨g1,g2,g3,g4,g5,g6⟩ k2 rfl k1 k4 rfl k3 (jzfb hL)).mono ?_;rintro e W' ⟨rfl,hx⟩;refine⟨_,rfl,_,_,_,[],_,[],qh,trodAll_mk1 (shut_bool Tryz.underlying4 true),trodAll_mk2 (Below.trod Tryz.laidOut (by kernel_rfl) (of_decide_eq_true (by kernel_rfl)) qi hx (fun x h=>qg x (by simp[h]))) (Below.trod Tryz.laidOut (by kernel_rfl) (of_decide_eq_true (by kernel_rfl)) qj hx (fun x h=>qg x (by simp[h]))),rfl,Below.frame hx _,fun h=>by cases h⟩
theorem conserves_row:Rows.FailoverConservesSaid:=
 OpenClaim.holds_of_wide 6 Tryz.f6 rfl rfl rfl rfl rfl rfl rfl ⟨rfl,rfl,rfl,rfl,rfl⟩ rfl rfl rfl rfl rfl (by as_aux_lemma=>kernel_rfl) Tryz.func6 (by as_aux_lemma=>kernel_rfl)
  (of_decide_eq_true (by kernel_rfl)) (by unfold Func.isWrapper;first|(rw[if_pos (by decide+kernel)];kernel_rfl)|(rw[if_neg (by decide+kernel)];exact⟨rfl,rfl⟩))
  (fun os started H enc _=>conserves_lifted os started H enc)
theorem conserves_card:Rows.FailoverConservesCardSaid:=
 Claim7.holds_tied_plain_at .later [] [.data,.data,.data] true Rows.failoverConservesCard.stood.harness false
  conserves_row (fun _ h=>by cases h) (by kernel_rfl) (fun _ h=>by cases h) failoverConserves_row_tie rfl ⟨rfl,rfl⟩ (by kernel_rfl) rfl
  (fun f fn hf hfn=>by
   obtain rfl:f=6:=Option.some.inj ((show Tryz.prog.funcNamed Rows.failoverConservesRow.func=some 6 by kernel_rfl).symm.trans hf) |>.symm;obtain rfl:fn=Tryz.f6:=(Option.some.inj (Tryz.func6.symm.trans hfn)).symm;exact⟨by kernel_rfl,fun j t ht=>by
    rw[Tryz.params6]at ht;have hm:t∈ [25,31]:=(by simpa using Array.mem_of_getElem? ht);have qa:([25,31].all fun u=>!Tryz.prog.wantsStandIn u)=true:=(by kernel_rfl);exact(show Tryz.prog.wantsStandIn t=false by simpa using xW.1 qa t hm)⟩)
  (by kernel_rfl)
end Go.Proofs.YtllmekijiohgmaaGreatDoor
