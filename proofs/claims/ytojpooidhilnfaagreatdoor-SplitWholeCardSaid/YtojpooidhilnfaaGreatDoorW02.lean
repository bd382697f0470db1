/- SplitWhole: for every input the call returns true, and each argument reads afterwards as it read before; the tied card. Conditions: none beyond the given statement's. -/
import Derived.Test.YtojpooidhilnfaaGreatDoorCards
import Derived.Test.YtojpooidhilnfaaGreatDoorTie
import Derived.SevenTiedAt
import Derived.Test.YtojpooidhilnfaaGreatDoorW01
set_option linter.unusedVariables false
set_option linter.unusedSimpArgs false
set_option maxRecDepth 100000
set_option maxHeartbeats 8000000
namespace Go.Proofs.YtojpooidhilnfaaGreatDoor
open Go.ChangeShapes Go.WideShapes Go.ChangeAt Go.RowKit
theorem open_dem1{H:Type}{enc:TypeId×Value->H}{w}{base:Nat}{spare:Nat->Bool}{held:Bool}{v:Value}{d:DataW H}{p:List MemPlace}{r:Reach}{b0:Nat}(hv:Value.okWide Tryz.prog w r b0 27 v)(h:DataW.Trod enc Tryz.prog w base spare held 27 v d p):
  ∃D:Dm,v=.agg #[vI D.src,vI D.dst,vI D.amount,vI D.prio]/\D.wf:=by
 obtain⟨v0,v1,v2,v3,y0,y1,y2,y3,n,rfl,_,_,h0,h1,h2,h3⟩:=Joins.open_agg4 Tryz.underlying27 qK qK hv h;obtain⟨x0,rfl,g0⟩:=eV rfl h0;obtain⟨x1,rfl,g1⟩:=eV rfl h1;obtain⟨x2,rfl,g2⟩:=eV rfl h2;obtain⟨x3,rfl,g3⟩:=eV rfl h3;exact⟨⟨x0,x1,x2,x3⟩,rfl,g0,g1,g2,g3⟩
theorem whole_lifted(os:Os)(started:os.Started)(H:Type)(enc:TypeId×Value->H):
  ReturnsInHanded {} Tryz.checked os 6 .any (fun w qa=>(Rows.splitWholeSpec.pre enc Tryz.prog Tryz.f6 [] false w qa/\laidMetH Tryz.prog kR w)/\sizedMet enc Tryz.prog Tryz.f6 (OpenSpec.ofChange Rows.splitWholeSpec) false w qa)
   (Rows.splitWholeSpec.post enc Tryz.prog Tryz.f6 false true false false):=by
 refine returnsInHanded_of_change_and (C:=Tryz.checked) (X:=fun w _=>laidMetH Tryz.prog kR w) (fun _ _ _ hh h=>h.of_heap hh) Tryz.own started qK Tryz.func6
  (ChangeSpec.witness_shaped (enc:=enc) (C:=Tryz.checked) (os:=os) (X:=fun w _=>laidMetH Tryz.prog kR w) false (World.doorLaid Tryz.prog 24 os) #[.agg #[vI 0,zN,zN],.agg #[vI 0,vI 0,vI 0,vI 0],.int .u8 0] 8 rfl (World.shaped_of_RefB qK qK) qK qK qK (jzbg os _)) ?_
 intro W base qa ds gs before qf hW _ _ hL _;have qe:∀(j:Nat) t v,Tryz.f6.params[j]?=some t->qa[j]?=some v->Value.okWide Tryz.prog W .any base t v:=qf;have qh:=hW;obtain⟨p,q,qm,hV,rfl,qo,qn⟩:=hW;have hA:DataW.TrodAll enc Tryz.prog W 0 (fun _=>true) true Tryz.f6.params.toList qa.toList ds p:=qm;rw[Tryz.params6]at hA qe;obtain⟨v0,v1,v2,d0,d1,d2,p0,p1,p2,rfl,rfl,rfl,h0,h1,h2⟩:=trodAll_three hA;obtain⟨rfl,rfl⟩:=trodVars_none hV;have qi:=h0;have qk:=h1;have qj:=h2;obtain⟨t,AO,co,AL,cl,rfl,g1,g2,g3,_,_,g4,g5,g6⟩:=jzdu (qe 0 25 v0 rfl rfl) h0;obtain⟨D,rfl,k1⟩:=open_dem1 (qe 1 27 v1 rfl rfl) h1;obtain⟨y,e0,rfl⟩:=jzru (qe 2 5 v2 rfl rfl) h2;have qg:∀x∈p0++p1++p2,x.block<W.heap.size:=fun x hx=>qh.lt x (by simpa using hx);refine(jzrt t AO co AL cl D y e0 W ⟨g1,g2,g3,g4,g5,g6,yX _,qD,Rd.nil _ _,fun _ h=>by cases h⟩ k1 (jzbf hL)).mono ?_;rintro e W' ⟨rfl,hx⟩;refine⟨_,rfl,_,_,_,[],_,[],qh,trodAll_mk1 (shut_bool Tryz.underlying4 true),trodAll_mk3 (Below.trod Tryz.laidOut qK (of_decide_eq_true qK) qi hx (fun x h=>qg x (by simp[h]))) (Below.trod Tryz.laidOut qK (of_decide_eq_true qK) qk hx (fun x h=>qg x (by simp[h]))) (Below.trod Tryz.laidOut qK (of_decide_eq_true qK) qj hx (fun x h=>qg x (by simp[h]))),rfl,Below.frame hx _,fun h=>by cases h⟩
theorem whole_row:Rows.SplitWholeSaid:=
 OpenClaim.holds_of_wide 6 Tryz.f6 rfl rfl rfl rfl rfl rfl rfl ⟨rfl,rfl,rfl,rfl,rfl⟩ rfl rfl rfl rfl rfl qK Tryz.func6 qK
  (of_decide_eq_true qK) (by unfold Func.isWrapper;first|(rw[qE (by decide+kernel)];kernel_rfl)|(rw[qF (by decide+kernel)];exact⟨rfl,rfl⟩))
  (fun os started H enc _=>whole_lifted os started H enc)
theorem whole_card:Rows.SplitWholeCardSaid:=
 Claim7.holds_tied_plain_at .later [] [.data,.data,.data] true Rows.splitWholeCard.stood.harness true
  whole_row (fun _ h=>by cases h) qK (fun _ h=>by cases h) splitWhole_row_tie rfl ⟨rfl,rfl⟩ qK rfl
  (fun f fn hf hfn=>by
   obtain rfl:f=6:=Option.some.inj ((show Tryz.prog.funcNamed Rows.splitWholeRow.func=some 6 by kernel_rfl).symm.trans hf) |>.symm;obtain rfl:fn=Tryz.f6:=(Option.some.inj (Tryz.func6.symm.trans hfn)).symm;exact⟨qK,fun j t ht=>by
    rw[Tryz.params6]at ht;have hm:t∈ [25,27,5]:=(by simpa using Array.mem_of_getElem? ht);have qa:([25,27,5].all fun u=>!Tryz.prog.wantsStandIn u)=true:=qK;exact(show Tryz.prog.wantsStandIn t=false by simpa using xW.1 qa t hm)⟩)
  qK
end Go.Proofs.YtojpooidhilnfaaGreatDoor
