/- FlowsSolve: for every input the call returns true, and each argument reads afterwards as it read before; the tied card. Conditions: none beyond the given statement's. -/
import Derived.Test.YtfeeacaofjpkaaaGreatDoorCards
import Derived.Test.YtfeeacaofjpkaaaGreatDoorTie
import Derived.SevenTiedAt
import Derived.Test.YtfeeacaofjpkaaaGreatDoorT08
set_option linter.unusedVariables false
set_option linter.unusedSimpArgs false
set_option maxRecDepth 100000
set_option maxHeartbeats 8000000
namespace Go.Proofs.YtfeeacaofjpkaaaGreatDoor
open Go.ChangeShapes Go.WideShapes Go.ChangeAt Go.RowKit
theorem Eo(os:Os)(started:os.Started)(H:Type)(enc:TypeId×Value->H):
  ReturnsInHanded {} Tryz.checked os 3 .any (fun w qa=>(Rows.flowsSolveSpec.pre enc Tryz.prog Tryz.f3 [] false w qa/\laidMetH Tryz.prog mG w)/\sizedMet enc Tryz.prog Tryz.f3 (OpenSpec.ofChange Rows.flowsSolveSpec) false w qa)
   (Rows.flowsSolveSpec.post enc Tryz.prog Tryz.f3 false true false false):=by
 refine returnsInHanded_of_change_and (C:=Tryz.checked) (X:=fun w _=>laidMetH Tryz.prog mG w) (fun _ _ _ hh h=>h.of_heap hh) Tryz.own started qK Tryz.func3
  (ChangeSpec.witness_shaped (enc:=enc) (C:=Tryz.checked) (os:=os) (X:=fun w _=>laidMetH Tryz.prog mG w) false (World.doorLaid Tryz.prog 24 os) #[.agg #[vI 0,zN,zN],zN] 8 rfl (World.shaped_of_RefB qK qK) qK qK qK (jzj6 os _)) ?_
 intro W base qa ds gs before qf hW _ _ hL _;have qe:∀(j:Nat) t v,Tryz.f3.params[j]?=some t->qa[j]?=some v->Value.okWide Tryz.prog W .any base t v:=qf;have qh:=hW;obtain⟨p,q,qk,hV,rfl,qn,qm⟩:=hW;have hA:DataW.TrodAll enc Tryz.prog W 0 (fun _=>true) true Tryz.f3.params.toList qa.toList ds p:=qk;rw[Tryz.params3]at hA qe;obtain⟨v0,v1,d0,d1,p0,p1,rfl,rfl,rfl,h0,h1⟩:=trodAll_two hA;obtain⟨rfl,rfl⟩:=trodVars_none hV;have qi:=h0;have qj:=h1;obtain⟨t,AO,co,AL,cl,rfl,g1,g2,g3,_,_,g4,g5,g6⟩:=jzm2 (qe 0 25 v0 rfl rfl) h0;obtain⟨AD,l,cd,rfl,k1,k2,k3,k4⟩:=jzrt (qe 1 26 v1 rfl rfl) h1;have qg:∀x∈p0++p1,x.block<W.heap.size:=fun x hx=>qh.lt x (by simpa using hx);refine(jzrq t AO co AL cl l AD cd W ⟨g1,g2,g3,g4,g5,g6,k1,(by unfold maxLen at k2;omega),k4,k3⟩ (jzj5 hL)).r fun W' hx=>?_;refine⟨_,rfl,_,_,_,[],_,[],qh,trodAll_mk1 (shut_bool Tryz.underlying4 true),trodAll_mk2 (Below.trod Tryz.laidOut qK (of_decide_eq_true qK) qi hx (fun x h=>qg x (by simp[h]))) (Below.trod Tryz.laidOut qK (of_decide_eq_true qK) qj hx (fun x h=>qg x (by simp[h]))),rfl,Below.frame hx _,fun h=>by cases h⟩
theorem GK:Rows.FlowsSolveSaid:=
 OpenClaim.holds_of_wide 3 Tryz.f3 rfl rfl rfl rfl rfl rfl rfl ⟨rfl,rfl,rfl,rfl,rfl⟩ rfl rfl rfl rfl rfl qK Tryz.func3 qK
  (of_decide_eq_true qK) (by unfold Func.isWrapper;first|(rw[qE (by decide+kernel)];kernel_rfl)|(rw[qF (by decide+kernel)];exact⟨rfl,rfl⟩))
  (fun os started H enc _=>Eo os started H enc)
theorem solve_card:Rows.FlowsSolveCardSaid:=
 Claim7.holds_tied_plain_at .later [] [.data,.data,.data] true Rows.flowsSolveCard.stood.harness true
  GK (fun _ h=>by cases h) qK (fun _ h=>by cases h) flowsSolve_row_tie rfl ⟨rfl,rfl⟩ qK rfl
  (fun f fn hf hfn=>by
   obtain rfl:f=3:=Option.some.inj ((show Tryz.prog.funcNamed Rows.flowsSolveRow.func=some 3 by kernel_rfl).symm.trans hf) |>.symm;obtain rfl:fn=Tryz.f3:=(Option.some.inj (Tryz.func3.symm.trans hfn)).symm;exact⟨qK,fun j t ht=>by
    rw[Tryz.params3]at ht;have hm:t∈ [25,26]:=(by simpa using Array.mem_of_getElem? ht);have qa:([25,26].all fun u=>!Tryz.prog.wantsStandIn u)=true:=qK;exact(show Tryz.prog.wantsStandIn t=false by simpa using xW.1 qa t hm)⟩)
  qK
end Go.Proofs.YtfeeacaofjpkaaaGreatDoor
