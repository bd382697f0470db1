/- FlowsHalf: for every input the call returns true, and each argument reads afterwards as it read before; the tied card. Conditions: none beyond the given statement's. -/
import Derived.Test.YthbmikapohlikaaGreatDoorCards
import Derived.Test.YthbmikapohlikaaGreatDoorTie
import Derived.SevenTiedAt
import Derived.Test.YthbmikapohlikaaGreatDoorV01
set_option linter.unusedVariables false
set_option linter.unusedSimpArgs false
set_option maxRecDepth 100000
set_option maxHeartbeats 8000000
namespace Go.Proofs.YthbmikapohlikaaGreatDoor
open Go.ChangeShapes Go.WideShapes Go.ChangeAt Go.RowKit
theorem half_lifted(os:Os)(started:os.Started)(H:Type)(enc:TypeId×Value->H):
  ReturnsInHanded {} Tryz.checked os 7 .any (fun w qa=>(Rows.flowsHalfSpec.pre enc Tryz.prog Tryz.f7 [] false w qa/\laidMetH Tryz.prog laid3 w)/\sizedMet enc Tryz.prog Tryz.f7 (OpenSpec.ofChange Rows.flowsHalfSpec) false w qa)
   (Rows.flowsHalfSpec.post enc Tryz.prog Tryz.f7 false true false false):=by
 refine returnsInHanded_of_change_and (C:=Tryz.checked) (X:=fun w _=>laidMetH Tryz.prog laid3 w) (fun _ _ _ hh h=>h.of_heap hh) Tryz.own started (by kernel_rfl) Tryz.func7
  (ChangeSpec.witness_shaped (enc:=enc) (C:=Tryz.checked) (os:=os) (X:=fun w _=>laidMetH Tryz.prog laid3 w) false (World.doorLaid Tryz.prog 24 os) #[.agg #[.int .i64 0,.slice none 0 0,.slice none 0 0],.slice none 0 0] 8 rfl (World.shaped_of_RefB (by kernel_rfl) (by kernel_rfl)) (by kernel_rfl) (by kernel_rfl) (by kernel_rfl) (jzer os _)) ?_
 intro W base qa ds gs before qf hW _ _ hL _;have qe:∀(j:Nat) t v,Tryz.f7.params[j]?=some t->qa[j]?=some v->Value.okWide Tryz.prog W .any base t v:=qf;have qg:=hW;obtain⟨p,q,qj,hV,rfl,qm,qn⟩:=hW;have hA:DataW.TrodAll enc Tryz.prog W 0 (fun _=>true) true Tryz.f7.params.toList qa.toList ds p:=qj;rw [Tryz.params7]at hA qe;obtain⟨v0,v1,d0,d1,p0,p1,rfl,rfl,rfl,h0,h1⟩:=trodAll_two hA;obtain⟨rfl,rfl⟩:=trodVars_none hV;have qk:=h0;have qi:=h1;obtain⟨t,AO,co,AL,cl,rfl,g1,g2,g3,_,_,g4,g5,g6⟩:=jzez (qe 0 25 v0 rfl rfl) h0;obtain⟨AD,l,cd,rfl,k1,k2,k3,k4⟩:=jzc8 (qe 1 29 v1 rfl rfl) h1;have qh:∀x∈p0++p1,x.block<W.heap.size:=fun x hx=>qg.lt x (by simpa using hx);refine(jzmn t AO co AL cl l AD cd W ⟨g1,g2,g3,g4,g5,g6,k1,(by unfold maxLen at k2;omega),k4,k3⟩ (jzbt hL)).mono ?_;rintro e W' ⟨rfl,hx⟩;refine⟨_,rfl,_,_,_,[],_,[],qg,trodAll_mk1 (shut_bool Tryz.underlying4 true),trodAll_mk2 (Below.trod Tryz.laidOut (by kernel_rfl) (of_decide_eq_true (by kernel_rfl)) qk hx (fun x h=>qh x (by simp [h]))) (Below.trod Tryz.laidOut (by kernel_rfl) (of_decide_eq_true (by kernel_rfl)) qi hx (fun x h=>qh x (by simp [h]))),rfl,Below.frame hx _,fun h=>by cases h⟩
theorem half_row:Rows.FlowsHalfSaid:=
 OpenClaim.holds_of_wide 7 Tryz.f7 rfl rfl rfl rfl rfl rfl rfl ⟨rfl,rfl,rfl,rfl,rfl⟩ rfl rfl rfl rfl rfl (by kernel_rfl) Tryz.func7 (by kernel_rfl)
  (of_decide_eq_true (by kernel_rfl)) (by unfold Func.isWrapper;first|(rw [if_pos (by decide+kernel)];kernel_rfl)|(rw [if_neg (by decide+kernel)];exact⟨rfl,rfl⟩))
  (fun os started H enc _=>half_lifted os started H enc)
theorem half_card:Rows.FlowsHalfCardSaid:=
 Claim7.holds_tied_plain_at .later [] [.data,.data,.data] true Rows.flowsHalfCard.stood.harness true
  half_row (fun _ h=>by cases h) (by kernel_rfl) (fun _ h=>by cases h) flowsHalf_row_tie rfl ⟨rfl,rfl⟩ (by kernel_rfl) rfl
  (fun f fn hf hfn=>by
   obtain rfl:f=7:=Option.some.inj ((show Tryz.prog.funcNamed Rows.flowsHalfRow.func=some 7 by kernel_rfl).symm.trans hf) |>.symm;obtain rfl:fn=Tryz.f7:=(Option.some.inj (Tryz.func7.symm.trans hfn)).symm;exact⟨by kernel_rfl,fun j t ht=>by
    rw [Tryz.params7]at ht;have hm:t∈ [25,29]:=(by simpa using Array.mem_of_getElem? ht);have qa:([25,29].all fun u=>!Tryz.prog.wantsStandIn u)=true:=(by kernel_rfl);exact(show Tryz.prog.wantsStandIn t=false by simpa using xW.1 qa t hm)⟩)
  (by kernel_rfl)
end Go.Proofs.YthbmikapohlikaaGreatDoor
