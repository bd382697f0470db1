/- Walks, part 25. -/
import Derived.Test.YtfeeacaofjpkaaaGreatDoorK14
set_option linter.unusedVariables false
set_option linter.unusedSimpArgs false
set_option maxRecDepth 100000
set_option maxHeartbeats 8000000
namespace Go.Proofs.YtfeeacaofjpkaaaGreatDoor
open Go.Proofs.Tryz
open Go.RowKit Go.ChangeShapes Go.WideShapes Go.Deep
instance:Inhabited Dm:=⟨⟨0,0,0,0⟩⟩
theorem jzps{α:Type}{l:List α}(h:l.length=4):∃a b c d,l=[a,b,c,d]:=by
 match l,h with
 | [a,b,c,d],_=>exact⟨a,b,c,d,rfl⟩
section
variable {H:Type} {enc:TypeId×Value->H} {w:World} {base:Nat} {spare:Nat->Bool} {held:Bool}
theorem jzpt{n:Nat}{cs:List Value}{y:DataW H×List MemPlace}(h:DataW.trod enc prog w base spare held n 60 cs=some y):∃d:Dm,cs=d.cells/\d.wf:=by
 obtain⟨xs,m,_,_,hl,qa,hf⟩:=DataW.trod_struct underlying60 h;have c4:prog.cellsOf 60=4:=qK;have c1:=Tryz.cells_int;rw[c4]at hl;obtain⟨a0,a1,a2,a3,rfl⟩:=jzps hl;have qa:xs.length=4:=qa;have h0:DataW.trod enc prog w base spare held m 3 (List.take (prog.cellsOf 3) (List.drop 0 [a0,a1,a2,a3]))=xs[0]?:=hf 0 _ rfl;have h1:DataW.trod enc prog w base spare held m 3 (List.take (prog.cellsOf 3) (List.drop 1 [a0,a1,a2,a3]))=xs[1]?:=hf 1 _ rfl;have h2:DataW.trod enc prog w base spare held m 3 (List.take (prog.cellsOf 3) (List.drop 2 [a0,a1,a2,a3]))=xs[2]?:=hf 2 _ rfl;have h3:DataW.trod enc prog w base spare held m 3 (List.take (prog.cellsOf 3) (List.drop 3 [a0,a1,a2,a3]))=xs[3]?:=hf 3 _ rfl;clear hf h;obtain⟨y0,e0⟩:=gE 0 qa qO;obtain⟨y1,e1⟩:=gE 1 qa qO;obtain⟨y2,e2⟩:=gE 2 qa qO;obtain⟨y3,e3⟩:=gE 3 qa qO;rw[c1]at h0 h1 h2 h3;obtain⟨x0,rfl,g0⟩:=gF e0 h0;obtain⟨x1,rfl,g1⟩:=gF e1 h1;obtain⟨x2,rfl,g2⟩:=gF e2 h2;obtain⟨x3,rfl,g3⟩:=gF e3 h3;exact⟨⟨x0,x1,x2,x3⟩,rfl,g0,g1,g2,g3⟩
theorem jzpu{v:Value}{d:DataW H}{p:List MemPlace}{r:Reach}{b0:Nat}(hv:Value.okWide prog w r b0 26 v)(h:DataW.Trod enc prog w base spare held 26 v d p):
  ∃(A:OA) (l:List Dm) (c:Nat),v=.s A l.length c/\l.length<=c/\c<=maxLen/\(∀x∈l,x.wf)/\Rd w A (l.flatMap Dm.cells):=by
 obtain⟨a0,l0,c0,rfl⟩:=okWide_slice underlying26 hv;obtain⟨qa,hf⟩:=h;obtain⟨A,l,c,e,hl,hc,wf,rd⟩:=uT Dm.cells Dm.wf 4 qD (fun _=>rfl) underlying26 qK (fun n cs y hy=>jzpt hy) hf;exact⟨A,l,c,by simpa [Value.cells]using e,hl,hc,wf,rd⟩
end
end Go.Proofs.YtfeeacaofjpkaaaGreatDoor
