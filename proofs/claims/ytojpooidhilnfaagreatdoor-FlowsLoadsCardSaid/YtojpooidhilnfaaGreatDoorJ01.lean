/- FlowsLoads: for every input the call returns true, and each argument reads afterwards as it read before; the tied card. Conditions: none beyond the given statement's. -/
import Derived.Test.YtojpooidhilnfaaGreatDoorCards
import Derived.Test.YtojpooidhilnfaaGreatDoorTie
import Derived.SevenTiedAt
import Derived.Test.YtojpooidhilnfaaGreatDoorI25
set_option linter.unusedVariables false
set_option linter.unusedSimpArgs false
set_option maxRecDepth 100000
set_option maxHeartbeats 8000000
namespace Go.Proofs.YtojpooidhilnfaaGreatDoor
open Go.ChangeShapes Go.WideShapes Go.ChangeAt Go.RowKit
theorem loads_lifted(os:Os)(started:os.Started)(H:Type)(enc:TypeId×Value->H):
  ReturnsInHanded {} Tryz.checked os 4 .any (fun w qa=>(Rows.flowsLoadsSpec.pre enc Tryz.prog Tryz.f4 [] false w qa/\laidMetH Tryz.prog lW w)/\sizedMet enc Tryz.prog Tryz.f4 (OpenSpec.ofChange Rows.flowsLoadsSpec) false w qa)
   (Rows.flowsLoadsSpec.post enc Tryz.prog Tryz.f4 false true false false):=by
 refine returnsInHanded_of_change_and (C:=Tryz.checked) (X:=fun w _=>laidMetH Tryz.prog lW w) (fun _ _ _ hh h=>h.of_heap hh) Tryz.own started (by kernel_rfl) Tryz.func4
  (ChangeSpec.witness_shaped (enc:=enc) (C:=Tryz.checked) (os:=os) (X:=fun w _=>laidMetH Tryz.prog lW w) false (World.doorLaid Tryz.prog 24 os) #[.agg #[vI 0,zN,zN],zN,zN] 8 rfl (World.shaped_of_RefB (by kernel_rfl) (by kernel_rfl)) (by kernel_rfl) (by kernel_rfl) (by kernel_rfl) (jzio os _)) ?_
 intro W base qa ds gs before qf hW _ _ hL _;have qe:∀(j:Nat) t v,Tryz.f4.params[j]?=some t->qa[j]?=some v->Value.okWide Tryz.prog W .any base t v:=qf;have qh:=hW;obtain⟨p,q,qm,hV,rfl,qo,qn⟩:=hW;have hA:DataW.TrodAll enc Tryz.prog W 0 (fun _=>true) true Tryz.f4.params.toList qa.toList ds p:=qm;rw[Tryz.params4]at hA qe;obtain⟨v0,v1,v2,d0,d1,d2,p0,p1,p2,rfl,rfl,rfl,h0,h1,h2⟩:=trodAll_three hA;obtain⟨rfl,rfl⟩:=trodVars_none hV;have qi:=h0;have qk:=h1;have qj:=h2;obtain⟨t,AO,co,AL,cl,rfl,g1,g2,g3,_,_,g4,g5,g6⟩:=jzlw (qe 0 25 v0 rfl rfl) h0;obtain⟨AA,ars,ca,rfl,k1,k2,k3⟩:=jzqn (qe 1 52 v1 rfl rfl) h1;obtain⟨AF,fr,cf,rfl,m1,m2,m3,m4⟩:=jzqo (qe 2 53 v2 rfl rfl) h2;have qg:∀x∈p0++p1++p2,x.block<W.heap.size:=fun x hx=>qh.lt x (by simpa using hx);refine(jzql t AO co AL cl AA ars ca AF fr cf W ⟨g1,g2,g3,g4,g5,g6,yX _,by decide,Rd.nil _ _,fun _ h=>by cases h⟩ k3 k1 (by unfold maxLen at k2;omega) (by unfold maxLen at m2;omega) m4 m3 (jzin hL)).mono ?_;rintro e W' ⟨rfl,hx⟩;refine⟨_,rfl,_,_,_,[],_,[],qh,trodAll_mk1 (shut_bool Tryz.underlying4 true),trodAll_mk3 (Below.trod Tryz.laidOut (by kernel_rfl) (of_decide_eq_true (by kernel_rfl)) qi hx (fun x h=>qg x (by simp[h]))) (Below.trod Tryz.laidOut (by kernel_rfl) (of_decide_eq_true (by kernel_rfl)) qk hx (fun x h=>qg x (by simp[h]))) (Below.trod Tryz.laidOut (by kernel_rfl) (of_decide_eq_true (by kernel_rfl)) qj hx (fun x h=>qg x (by simp[h]))),rfl,Below.frame hx _,fun h=>by cases h⟩
theorem loads_row:Rows.FlowsLoadsSaid:=
 OpenClaim.holds_of_wide 4 Tryz.f4 rfl rfl rfl rfl rfl rfl rfl ⟨rfl,rfl,rfl,rfl,rfl⟩ rfl rfl rfl rfl rfl (by kernel_rfl) Tryz.func4 (by kernel_rfl)
  (of_decide_eq_true (by kernel_rfl)) (by unfold Func.isWrapper;first|(rw[if_pos (by decide+kernel)];kernel_rfl)|(rw[if_neg (by decide+kernel)];exact⟨rfl,rfl⟩))
  (fun os started H enc _=>loads_lifted os started H enc)
theorem loads_card:Rows.FlowsLoadsCardSaid:=
 Claim7.holds_tied_plain_at .later [] [.data,.data,.data] true Rows.flowsLoadsCard.stood.harness true
  loads_row (fun _ h=>by cases h) (by kernel_rfl) (fun _ h=>by cases h) flowsLoads_row_tie rfl ⟨rfl,rfl⟩ (by kernel_rfl) rfl
  (fun f fn hf hfn=>by
   obtain rfl:f=4:=Option.some.inj ((show Tryz.prog.funcNamed Rows.flowsLoadsRow.func=some 4 by kernel_rfl).symm.trans hf) |>.symm;obtain rfl:fn=Tryz.f4:=(Option.some.inj (Tryz.func4.symm.trans hfn)).symm;exact⟨by kernel_rfl,fun j t ht=>by
    rw[Tryz.params4]at ht;have hm:t∈ [25,52,53]:=(by simpa using Array.mem_of_getElem? ht);have qa:([25,52,53].all fun u=>!Tryz.prog.wantsStandIn u)=true:=(by kernel_rfl);exact(show Tryz.prog.wantsStandIn t=false by simpa using xW.1 qa t hm)⟩)
  (by kernel_rfl)
end Go.Proofs.YtojpooidhilnfaaGreatDoor
