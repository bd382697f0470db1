/- FlowsCut: for every input the call returns true, and each argument reads afterwards as it read before; the tied card. Conditions: none beyond the given statement's. -/
import Derived.Test.YtojpooidhilnfaaGreatDoorCards
import Derived.Test.YtojpooidhilnfaaGreatDoorTie
import Derived.SevenTiedAt
import Derived.Test.YtojpooidhilnfaaGreatDoorH26
set_option linter.unusedVariables false
set_option linter.unusedSimpArgs false
set_option maxRecDepth 100000
set_option maxHeartbeats 8000000
namespace Go.Proofs.YtojpooidhilnfaaGreatDoor
open Go.ChangeShapes Go.WideShapes Go.ChangeAt Go.RowKit
theorem open_dem1{H:Type}{enc:TypeId×Value->H}{w}{base:Nat}{spare:Nat->Bool}{held:Bool}{v:Value}{d:DataW H}{p:List MemPlace}{r:Reach}{b0:Nat}(hv:Value.okWide Tryz.prog w r b0 27 v)(h:DataW.Trod enc Tryz.prog w base spare held 27 v d p):
  ∃D:Dm,v=.agg #[vI D.src,vI D.dst,vI D.amount,vI D.prio]/\D.wf:=by
 obtain⟨v0,v1,v2,v3,y0,y1,y2,y3,n,rfl,_,_,h0,h1,h2,h3⟩:=Joins.open_agg4 Tryz.underlying27 (by kernel_rfl) (by kernel_rfl) hv h;obtain⟨x0,rfl,g0⟩:=fY rfl h0;obtain⟨x1,rfl,g1⟩:=fY rfl h1;obtain⟨x2,rfl,g2⟩:=fY rfl h2;obtain⟨x3,rfl,g3⟩:=fY rfl h3;exact⟨⟨x0,x1,x2,x3⟩,rfl,g0,g1,g2,g3⟩
theorem cut_lifted(os:Os)(started:os.Started)(H:Type)(enc:TypeId×Value->H):
  ReturnsInHanded {} Tryz.checked os 3 .any (fun w qa=>(Rows.flowsCutSpec.pre enc Tryz.prog Tryz.f3 [] false w qa/\laidMetH Tryz.prog mL w)/\sizedMet enc Tryz.prog Tryz.f3 (OpenSpec.ofChange Rows.flowsCutSpec) false w qa)
   (Rows.flowsCutSpec.post enc Tryz.prog Tryz.f3 false true false false):=by
 refine returnsInHanded_of_change_and (C:=Tryz.checked) (X:=fun w _=>laidMetH Tryz.prog mL w) (fun _ _ _ hh h=>h.of_heap hh) Tryz.own started (by kernel_rfl) Tryz.func3
  (ChangeSpec.witness_shaped (enc:=enc) (C:=Tryz.checked) (os:=os) (X:=fun w _=>laidMetH Tryz.prog mL w) false (World.doorLaid Tryz.prog 24 os) #[.agg #[vI 0,zN,zN],.agg #[vI 0,vI 0,vI 0,vI 0]] 8 rfl (World.shaped_of_RefB (by kernel_rfl) (by kernel_rfl)) (by kernel_rfl) (by kernel_rfl) (by kernel_rfl) (jzi3 os _)) ?_
 intro W base qa ds gs before qf hW _ _ hL _;have qe:∀(j:Nat) t v,Tryz.f3.params[j]?=some t->qa[j]?=some v->Value.okWide Tryz.prog W .any base t v:=qf;have qh:=hW;obtain⟨p,q,qk,hV,rfl,qn,qm⟩:=hW;have hA:DataW.TrodAll enc Tryz.prog W 0 (fun _=>true) true Tryz.f3.params.toList qa.toList ds p:=qk;rw[Tryz.params3]at hA qe;obtain⟨v0,v1,d0,d1,p0,p1,rfl,rfl,rfl,h0,h1⟩:=trodAll_two hA;obtain⟨rfl,rfl⟩:=trodVars_none hV;have qi:=h0;have qj:=h1;obtain⟨t,AO,co,AL,cl,rfl,g1,g2,g3,_,_,g4,g5,g6⟩:=jzkl (qe 0 25 v0 rfl rfl) h0;obtain⟨D,rfl,k1⟩:=open_dem1 (qe 1 27 v1 rfl rfl) h1;have qg:∀x∈p0++p1,x.block<W.heap.size:=fun x hx=>qh.lt x (by simpa using hx);refine(jzq1 t AO co AL cl D W ⟨g1,g2,g3,g4,g5,g6,yX _,by decide,Rd.nil _ _,fun _ h=>by cases h⟩ k1 (jzi2 hL)).mono ?_;rintro e W' ⟨rfl,hx⟩;refine⟨_,rfl,_,_,_,[],_,[],qh,trodAll_mk1 (shut_bool Tryz.underlying4 true),trodAll_mk2 (Below.trod Tryz.laidOut (by kernel_rfl) (of_decide_eq_true (by kernel_rfl)) qi hx (fun x h=>qg x (by simp[h]))) (Below.trod Tryz.laidOut (by kernel_rfl) (of_decide_eq_true (by kernel_rfl)) qj hx (fun x h=>qg x (by simp[h]))),rfl,Below.frame hx _,fun h=>by cases h⟩
theorem cut_row:Rows.FlowsCutSaid:=
 OpenClaim.holds_of_wide 3 Tryz.f3 rfl rfl rfl rfl rfl rfl rfl ⟨rfl,rfl,rfl,rfl,rfl⟩ rfl rfl rfl rfl rfl (by kernel_rfl) Tryz.func3 (by kernel_rfl)
  (of_decide_eq_true (by kernel_rfl)) (by unfold Func.isWrapper;first|(rw[if_pos (by decide+kernel)];kernel_rfl)|(rw[if_neg (by decide+kernel)];exact⟨rfl,rfl⟩))
  (fun os started H enc _=>cut_lifted os started H enc)
theorem cut_card:Rows.FlowsCutCardSaid:=
 Claim7.holds_tied_plain_at .later [] [.data,.data,.data] true Rows.flowsCutCard.stood.harness true
  cut_row (fun _ h=>by cases h) (by kernel_rfl) (fun _ h=>by cases h) flowsCut_row_tie rfl ⟨rfl,rfl⟩ (by kernel_rfl) rfl
  (fun f fn hf hfn=>by
   obtain rfl:f=3:=Option.some.inj ((show Tryz.prog.funcNamed Rows.flowsCutRow.func=some 3 by kernel_rfl).symm.trans hf) |>.symm;obtain rfl:fn=Tryz.f3:=(Option.some.inj (Tryz.func3.symm.trans hfn)).symm;exact⟨by kernel_rfl,fun j t ht=>by
    rw[Tryz.params3]at ht;have hm:t∈ [25,27]:=(by simpa using Array.mem_of_getElem? ht);have qa:([25,27].all fun u=>!Tryz.prog.wantsStandIn u)=true:=(by kernel_rfl);exact(show Tryz.prog.wantsStandIn t=false by simpa using xW.1 qa t hm)⟩)
  (by kernel_rfl)
end Go.Proofs.YtojpooidhilnfaaGreatDoor
