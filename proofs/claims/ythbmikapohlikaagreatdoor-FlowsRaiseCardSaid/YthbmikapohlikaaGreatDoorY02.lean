/- FlowsRaise: for every input the call returns true, and each argument reads afterwards as it read before; the tied card. Conditions: none beyond the given statement's. -/
import Derived.Test.YthbmikapohlikaaGreatDoorCards
import Derived.Test.YthbmikapohlikaaGreatDoorTie
import Derived.SevenTiedAt
import Derived.Test.YthbmikapohlikaaGreatDoorY01
set_option linter.unusedVariables false
set_option linter.unusedSimpArgs false
set_option maxRecDepth 100000
set_option maxHeartbeats 8000000
namespace Go.Proofs.YthbmikapohlikaaGreatDoor
open Go.ChangeShapes Go.WideShapes Go.ChangeAt Go.RowKit
theorem open_two{H:Type}{enc:TypeId×Value->H}{w:World}{base:Nat}{spare:Nat->Bool}{held:Bool}{v:Value}{d:DataW H}{p:List MemPlace}{r:Reach}{b0:Nat}(hv:Value.okWide Tryz.prog w r b0 62 v)(h:DataW.Trod enc Tryz.prog w base spare held 62 v d p):
  ∃y0 y1:Nat,y0<=255/\y1<=255/\v=.agg #[.int .u8 (y0:Int),.int .u8 (y1:Int)]:=by
 simp only [Value.okWide,Tryz.underlying62]at hv;obtain⟨cs,rfl,h2,_⟩:=hv;have c2:Tryz.prog.cellsOf 62=2:=(by kernel_rfl);have c1:Tryz.prog.cellsOf 5=1:=(by kernel_rfl);obtain⟨a0,a1,rfl⟩:=Joins.array2 (h2.trans c2);obtain⟨qf,hf⟩:=h;obtain⟨xs,m,_,_,_,qa,qe⟩:=DataW.trod_array Tryz.underlying62 hf;have k0:=qe 0 (by decide);have k1:=qe 1 (by decide);obtain⟨z0,e0⟩:=jzaw 0 qa (by decide);obtain⟨z1,e1⟩:=jzaw 1 qa (by decide);simp only [c1]at k0 k1;rw [e0]at k0;rw [e1]at k1;obtain⟨n0,f0,_,w0⟩:=DataW.trod_int Tryz.underlying5 k0;obtain⟨n1,f1,_,w1⟩:=DataW.trod_int Tryz.underlying5 k1;simp [Value.cells]at f0 f1;subst f0 f1;simp [Lit.wf,IntKind.min,IntKind.max,IntKind.signed,IntKind.bits]at w0 w1;refine⟨n0.toNat,n1.toNat,by omega,by omega,?_⟩;rw [show((n0.toNat:Nat):Int)=n0 by omega,show((n1.toNat:Nat):Int)=n1 by omega]
theorem raise_lifted(os:Os)(started:os.Started)(H:Type)(enc:TypeId×Value->H):
  ReturnsInHanded {} Tryz.checked os 6 .any (fun w qa=>(Rows.flowsRaiseSpec.pre enc Tryz.prog Tryz.f6 [] false w qa/\laidMetH Tryz.prog laid3 w)/\sizedMet enc Tryz.prog Tryz.f6 (OpenSpec.ofChange Rows.flowsRaiseSpec) false w qa)
   (Rows.flowsRaiseSpec.post enc Tryz.prog Tryz.f6 false true false false):=by
 refine returnsInHanded_of_change_and (C:=Tryz.checked) (X:=fun w _=>laidMetH Tryz.prog laid3 w) (fun _ _ _ hh h=>h.of_heap hh) Tryz.own started (by kernel_rfl) Tryz.func6
  (ChangeSpec.witness_shaped (enc:=enc) (C:=Tryz.checked) (os:=os) (X:=fun w _=>laidMetH Tryz.prog laid3 w) false (World.doorLaid Tryz.prog 24 os) #[.agg #[.int .i64 0,.slice none 0 0,.slice none 0 0],.slice none 0 0,.agg #[.int .u8 0,.int .u8 0]] 8 rfl (World.shaped_of_RefB (by kernel_rfl) (by kernel_rfl)) (by kernel_rfl) (by kernel_rfl) (by kernel_rfl) (jzer os _)) ?_
 intro W base qa ds gs before qf hW _ _ hL _;have qe:∀(j:Nat) t v,Tryz.f6.params[j]?=some t->qa[j]?=some v->Value.okWide Tryz.prog W .any base t v:=qf;have qh:=hW;obtain⟨p,q,qj,hV,rfl,qn,qo⟩:=hW;have hA:DataW.TrodAll enc Tryz.prog W 0 (fun _=>true) true Tryz.f6.params.toList qa.toList ds p:=qj;rw [Tryz.params6]at hA qe;obtain⟨v0,v1,v2,d0,d1,d2,p0,p1,p2,rfl,rfl,rfl,h0,h1,h2⟩:=trodAll_three hA;obtain⟨rfl,rfl⟩:=trodVars_none hV;have qm:=h0;have qi:=h1;have qk:=h2;obtain⟨t,AO,co,AL,cl,rfl,g1,g2,g3,_,_,g4,g5,g6⟩:=jzez (qe 0 25 v0 rfl rfl) h0;obtain⟨AD,l,cd,rfl,k1,k2,k3,k4⟩:=jzc8 (qe 1 29 v1 rfl rfl) h1;obtain⟨y0,y1,e0,e1,rfl⟩:=open_two (qe 2 62 v2 rfl rfl) h2;have qg:∀x∈p0++p1++p2,x.block<W.heap.size:=fun x hx=>qh.lt x (by simpa using hx);refine(jzjb t AO co AL cl l AD cd y0 y1 e0 e1 W ⟨g1,g2,g3,g4,g5,g6,k1,(by unfold maxLen at k2;omega),k4,k3⟩ (jzbt hL)).mono ?_;rintro e W' ⟨rfl,hx⟩;refine⟨_,rfl,_,_,_,[],_,[],qh,trodAll_mk1 (shut_bool Tryz.underlying4 true),trodAll_mk3 (Below.trod Tryz.laidOut (by kernel_rfl) (of_decide_eq_true (by kernel_rfl)) qm hx (fun x h=>qg x (by simp [h]))) (Below.trod Tryz.laidOut (by kernel_rfl) (of_decide_eq_true (by kernel_rfl)) qi hx (fun x h=>qg x (by simp [h]))) (Below.trod Tryz.laidOut (by kernel_rfl) (of_decide_eq_true (by kernel_rfl)) qk hx (fun x h=>qg x (by simp [h]))),rfl,Below.frame hx _,fun h=>by cases h⟩
theorem raise_row:Rows.FlowsRaiseSaid:=
 OpenClaim.holds_of_wide 6 Tryz.f6 rfl rfl rfl rfl rfl rfl rfl ⟨rfl,rfl,rfl,rfl,rfl⟩ rfl rfl rfl rfl rfl (by kernel_rfl) Tryz.func6 (by kernel_rfl)
  (of_decide_eq_true (by kernel_rfl)) (by unfold Func.isWrapper;first|(rw [if_pos (by decide+kernel)];kernel_rfl)|(rw [if_neg (by decide+kernel)];exact⟨rfl,rfl⟩))
  (fun os started H enc _=>raise_lifted os started H enc)
theorem raise_card:Rows.FlowsRaiseCardSaid:=
 Claim7.holds_tied_plain_at .later [] [.data,.data,.data] true Rows.flowsRaiseCard.stood.harness true
  raise_row (fun _ h=>by cases h) (by kernel_rfl) (fun _ h=>by cases h) flowsRaise_row_tie rfl ⟨rfl,rfl⟩ (by kernel_rfl) rfl
  (fun f fn hf hfn=>by
   obtain rfl:f=6:=Option.some.inj ((show Tryz.prog.funcNamed Rows.flowsRaiseRow.func=some 6 by kernel_rfl).symm.trans hf) |>.symm;obtain rfl:fn=Tryz.f6:=(Option.some.inj (Tryz.func6.symm.trans hfn)).symm;exact⟨by kernel_rfl,fun j t ht=>by
    rw [Tryz.params6]at ht;have hm:t∈ [25,29,62]:=(by simpa using Array.mem_of_getElem? ht);have qa:([25,29,62].all fun u=>!Tryz.prog.wantsStandIn u)=true:=(by kernel_rfl);exact(show Tryz.prog.wantsStandIn t=false by simpa using xW.1 qa t hm)⟩)
  (by kernel_rfl)
end Go.Proofs.YthbmikapohlikaaGreatDoor
