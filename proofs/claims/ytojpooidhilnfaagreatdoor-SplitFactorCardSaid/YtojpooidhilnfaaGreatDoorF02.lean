/- SplitFactor: for every input the call returns true, and each argument reads afterwards as it read before; the tied card. Conditions: none beyond the given statement's. -/
import Derived.Test.YtojpooidhilnfaaGreatDoorCards
import Derived.Test.YtojpooidhilnfaaGreatDoorTie
import Derived.SevenTiedAt
import Derived.Test.YtojpooidhilnfaaGreatDoorF01
set_option linter.unusedVariables false
set_option linter.unusedSimpArgs false
set_option maxRecDepth 100000
set_option maxHeartbeats 8000000
namespace Go.Proofs.YtojpooidhilnfaaGreatDoor
open Go.ChangeShapes Go.WideShapes Go.ChangeAt Go.RowKit
theorem open_two{H:Type}{enc:TypeId×Value->H}{w}{base:Nat}{spare:Nat->Bool}{held:Bool}{v:Value}{d:DataW H}{p:List MemPlace}{r:Reach}{b0:Nat}(hv:Value.okWide Tryz.prog w r b0 70 v)(h:DataW.Trod enc Tryz.prog w base spare held 70 v d p):
  ∃y0 y1:Nat,y0<=255/\y1<=255/\v=.agg #[.int .u8 (y0:Int),.int .u8 (y1:Int)]:=by
 simp only[Value.okWide,Tryz.underlying70]at hv;obtain⟨cs,rfl,h2,_⟩:=hv;have c2:Tryz.prog.cellsOf 70=2:=qK;have c1:Tryz.prog.cellsOf 5=1:=qK;obtain⟨a0,a1,rfl⟩:=Joins.array2 (h2.trans c2);obtain⟨qf,hf⟩:=h;obtain⟨xs,m,_,_,_,qa,qe⟩:=DataW.trod_array Tryz.underlying70 hf;have k0:=qe 0 qD;have k1:=qe 1 qD;obtain⟨z0,e0⟩:=fQ 0 qa qD;obtain⟨z1,e1⟩:=fQ 1 qa qD;simp only[c1]at k0 k1;rw[e0]at k0;rw[e1]at k1;obtain⟨n0,f0,_,w0⟩:=DataW.trod_int Tryz.underlying5 k0;obtain⟨n1,f1,_,w1⟩:=DataW.trod_int Tryz.underlying5 k1;simp[Value.cells]at f0 f1;subst f0 f1;simp[Lit.wf,IntKind.min,IntKind.max,IntKind.signed,IntKind.bits]at w0 w1;refine⟨n0.toNat,n1.toNat,qO,qO,?_⟩;rw[show((n0.toNat:Nat):Int)=n0 by omega,show((n1.toNat:Nat):Int)=n1 by omega]
theorem factor_lifted(os:Os)(started:os.Started)(H:Type)(enc:TypeId×Value->H):
  ReturnsInHanded {} Tryz.checked os 5 .any (fun w qa=>(Rows.splitFactorSpec.pre enc Tryz.prog Tryz.f5 [] false w qa/\laidMetH Tryz.prog kR w)/\sizedMet enc Tryz.prog Tryz.f5 (OpenSpec.ofChange Rows.splitFactorSpec) false w qa)
   (Rows.splitFactorSpec.post enc Tryz.prog Tryz.f5 false true false false):=by
 refine returnsInHanded_of_change_and (C:=Tryz.checked) (X:=fun w _=>laidMetH Tryz.prog kR w) (fun _ _ _ hh h=>h.of_heap hh) Tryz.own started qK Tryz.func5
  (ChangeSpec.witness_shaped (enc:=enc) (C:=Tryz.checked) (os:=os) (X:=fun w _=>laidMetH Tryz.prog kR w) false (World.doorLaid Tryz.prog 24 os) #[.agg #[vI 0,zN,zN],zN,.agg #[.int .u8 0,.int .u8 0]] 8 rfl (World.shaped_of_RefB qK qK) qK qK qK (jzbg os _)) ?_
 intro W base qa ds gs before qf hW _ _ hL _;have qe:∀(j:Nat) t v,Tryz.f5.params[j]?=some t->qa[j]?=some v->Value.okWide Tryz.prog W .any base t v:=qf;have qh:=hW;obtain⟨p,q,qm,hV,rfl,qo,qn⟩:=hW;have hA:DataW.TrodAll enc Tryz.prog W 0 (fun _=>true) true Tryz.f5.params.toList qa.toList ds p:=qm;rw[Tryz.params5]at hA qe;obtain⟨v0,v1,v2,d0,d1,d2,p0,p1,p2,rfl,rfl,rfl,h0,h1,h2⟩:=trodAll_three hA;obtain⟨rfl,rfl⟩:=trodVars_none hV;have qi:=h0;have qk:=h1;have qj:=h2;obtain⟨t,AO,co,AL,cl,rfl,g1,g2,g3,_,_,g4,g5,g6⟩:=jzdu (qe 0 25 v0 rfl rfl) h0;obtain⟨AD,l,cd,rfl,k1,k2,k3,k4⟩:=jzrn (qe 1 29 v1 rfl rfl) h1;obtain⟨y0,y1,e0,e1,rfl⟩:=open_two (qe 2 70 v2 rfl rfl) h2;have qg:∀x∈p0++p1++p2,x.block<W.heap.size:=fun x hx=>qh.lt x (by simpa using hx);refine(jzrk t AO co AL cl l AD cd y0 y1 e0 e1 W ⟨g1,g2,g3,g4,g5,g6,k1,(by unfold maxLen at k2;omega),k4,k3⟩ (jzbf hL)).mono ?_;rintro e W' ⟨rfl,hx⟩;refine⟨_,rfl,_,_,_,[],_,[],qh,trodAll_mk1 (shut_bool Tryz.underlying4 true),trodAll_mk3 (Below.trod Tryz.laidOut qK (of_decide_eq_true qK) qi hx (fun x h=>qg x (by simp[h]))) (Below.trod Tryz.laidOut qK (of_decide_eq_true qK) qk hx (fun x h=>qg x (by simp[h]))) (Below.trod Tryz.laidOut qK (of_decide_eq_true qK) qj hx (fun x h=>qg x (by simp[h]))),rfl,Below.frame hx _,fun h=>by cases h⟩
theorem factor_row:Rows.SplitFactorSaid:=
 OpenClaim.holds_of_wide 5 Tryz.f5 rfl rfl rfl rfl rfl rfl rfl ⟨rfl,rfl,rfl,rfl,rfl⟩ rfl rfl rfl rfl rfl qK Tryz.func5 qK
  (of_decide_eq_true qK) (by unfold Func.isWrapper;first|(rw[qE (by decide+kernel)];kernel_rfl)|(rw[qF (by decide+kernel)];exact⟨rfl,rfl⟩))
  (fun os started H enc _=>factor_lifted os started H enc)
theorem factor_card:Rows.SplitFactorCardSaid:=
 Claim7.holds_tied_plain_at .later [] [.data,.data,.data] true Rows.splitFactorCard.stood.harness true
  factor_row (fun _ h=>by cases h) qK (fun _ h=>by cases h) splitFactor_row_tie rfl ⟨rfl,rfl⟩ qK rfl
  (fun f fn hf hfn=>by
   obtain rfl:f=5:=Option.some.inj ((show Tryz.prog.funcNamed Rows.splitFactorRow.func=some 5 by kernel_rfl).symm.trans hf) |>.symm;obtain rfl:fn=Tryz.f5:=(Option.some.inj (Tryz.func5.symm.trans hfn)).symm;exact⟨qK,fun j t ht=>by
    rw[Tryz.params5]at ht;have hm:t∈ [25,29,70]:=(by simpa using Array.mem_of_getElem? ht);have qa:([25,29,70].all fun u=>!Tryz.prog.wantsStandIn u)=true:=qK;exact(show Tryz.prog.wantsStandIn t=false by simpa using xW.1 qa t hm)⟩)
  qK
end Go.Proofs.YtojpooidhilnfaaGreatDoor
