/- Part 12 of 24 of what the Flows claims share (the white space is struck, the texts are joined). -/
import Derived.Test.YthbmikapohlikaaGreatDoorZ11
set_option linter.unusedVariables false
set_option linter.unusedSimpArgs false
set_option maxRecDepth 100000
set_option maxHeartbeats 8000000
namespace Go.Proofs.YthbmikapohlikaaGreatDoor
open Go.RowKit
theorem Tryz.infoRow:(Tryz.prog.info? 153).map (fun i=>(i.zero,i.size,i.bytes))=some (some (.agg #[.slice none 0 0,.bool false,.slice none 0 0,.slice none 0 0]),4,80):=by kernel_rfl
theorem Tryz.infoInt:(Tryz.prog.info? 3).map (fun i=>(i.zero,i.size,i.bytes))=some (some (.int .i64 0),1,8):=by kernel_rfl
def NwR(w:World)(B:Nat)(vr:Value)(l:List Rat):Prop:=
 ∃css:List (List Value),css.length=l.length/\(∀cs∈css,cs.length=4)/\w.ownsRow B 153 4 vr l.length css.flatten/\∀i,i<l.length->∃cs,css[i]?=some cs/\RwC w cs (.slice none 0 0) (Sx.at_ l i)
theorem own_NoT{w:World}{B n s:Nat}{e t:TypeId}{v:Value}{xs:List Value}(h:w.ownsRow B e s v n xs)(ht:e≠t):NoT (fun b=>v.ownBlock=some b) w t:=fun _ hb=>jz3 h hb ht
theorem NwR.push{W w':World}{B:Nat}{vr:Value}{l:List Rat}{css:List (List Value)}(h1:css.length=l.length)(h2:∀cs∈css,cs.length=4)(hown:W.ownsRow B 153 4 vr l.length css.flatten)
  (h4:∀i,i<l.length->∃cs,css[i]?=some cs/\RwC W cs (.slice none 0 0) (Sx.at_ l i)) {neg:Bool} {A:Option Addr} {n c:Nat} {A':Option Addr} {n' c':Nat} {q:Rat} (hq:RatR W neg A n c A' n' c' q) {v':Value}
  (own':w'.ownsRow B 153 4 v' (l.length+1) (css.flatten++[.slice none 0 0,.bool neg,.slice A n c,.slice A' n' c'])) (grow:W.grownBy w' vr.ownBlock):NwR w' B v' (l++[q]):=by
 have k:FrS (fun b=>vr.ownBlock=some b) W w':=FrS.of_grown grow fun g e=>e;have hn:=own_NoT (t:=167) hown (by decide);refine⟨css++[[.slice none 0 0,.bool neg,.slice A n c,.slice A' n' c']],by simp [h1],fun cs hc=>?_,by rw [List.flatten_append,yQ];simpa using own',fun i hi=>?_⟩
 ·rcases xY.1 hc with hc|hc
  ·exact h2 cs hc
  ·rw [xD.1 hc];rfl
 ·by_cases e:i<l.length
  ·obtain⟨cs,k1,k2⟩:=h4 i e
   refine⟨cs,by rw [yR (by omega)];exact k1,?_⟩;have:Sx.at_ (l++[q]) i=Sx.at_ l i:=(by unfold Sx.at_;rw [yR e]);rw [this];exact k.rwc hn k2
  ·rw [yQ]at hi
   have hi:i<l.length+1:=hi;have e2:i=l.length:=(by omega);subst e2;refine⟨_,by rw [yS (by omega),h1,Nat.sub_self];rfl,?_⟩;have:Sx.at_ (l++[q]) l.length=q:=(by unfold Sx.at_;rw [yS (by omega),Nat.sub_self];rfl);rw [this];exact⟨neg,A,n,c,A',n',c',rfl,k.ratR hn hq⟩
theorem NwR.fr{S:Nat->Prop}{w w':World}{B:Nat}{vr:Value}{l:List Rat}(h:NwR w B vr l)(k:FrS S w w')(hn:NoT S w 167)(hr:∀b,vr.ownBlock=some b->¬S b):NwR w' B vr l:=by
 obtain⟨css,h1,h2,h3,h4⟩:=h;refine⟨css,h1,h2,k.own h3 hr,fun i hi=>?_⟩;obtain⟨cs,k1,k2⟩:=h4 i hi;exact⟨cs,k1,k.rwc hn k2⟩
theorem NwR.keep{w w':World}{B:Nat}{vr:Value}{l:List Rat}(h:NwR w B vr l)(hx:Ext w w'):NwR w' B vr l:=h.fr (S:=fun _=>False) (FrS.of_ext hx) (fun b hb=>hb.elim) (fun _ _ hb=>hb)
def nwCells(vr vb:Value):Array Value:=#[vr,vb,.slice none 0 0,.slice none 0 0,.bool false,.slice none 0 0,.slice none 0 0,.int .i64 0]
theorem NwR.tab{w:World}{B p:Nat}{vr vb:Value}{l:List Rat}(h:NwR w B vr l)(hB:B<=p)(hb:Blk w p 155 (nwCells vr vb))(hv:w.ownsRow B 3 1 vb l.length (ints (List.range l.length))):
  TabR w B ⟨p,vr,vb,.slice none 0 0,fun _=>.slice none 0 0,l.length⟩ (Sx.newT l):=by
 have qa:∀i,i<l.length->(Sx.newT l).row i=⟨[],Sx.at_ l i⟩:=fun i hi=>by
  unfold Sx.newT Sx.Tb.row Sx.at_;show((l.map fun b=>(⟨[],b⟩:Sx.Rw))[i]?).getD _=_;rw [yW,yG hi];rfl
 refine⟨by unfold Sx.newT;simp,hB,⟨[.slice none 0 0,.bool false,.slice none 0 0,.slice none 0 0],⟨false,none,0,0,none,0,0,rfl,jz6 w⟩,hb⟩,?_,by unfold Sx.newT;simp,hv,World.ownsRow_nil _ _ _ _,?_,fun i hi=>?_,OQ.nil,fun i k _ _ _=>.inl rfl⟩
 ·obtain⟨css,h1,h2,h3,h4⟩:=h
  refine⟨css,h1,h2,h3,fun i hi=>?_⟩;obtain⟨cs,k1,k2⟩:=h4 i hi;exact⟨cs,k1,by rw [qa i hi];exact k2⟩
 ·show vb.ownBlock=none\/vb.ownBlock≠none
  exact Classical.em _
 ·rw [qa i hi];exact OQ.nil
theorem new_ok(m cb:Nat)(PB:Option Addr)(bs:List Rat)(hbl:bs.length=m)(w:World)(hq:QL w PB bs)(hm:m<=1000000):
  Calls Tryz.prog 78 #[.slice PB m cb] w fun e w'=>∃L:TLoc,e=.returned (.pointer (some ⟨L.p,0,none⟩))/\L.m=m/\L.p=w.heap.size/\TabR w' w.heap.size L (Sx.newT bs)/\Ext w w':=by
 have HQ:=Hx hq;clear hq;obtain⟨b0,e0⟩:=boxes1 w (nwCells (.slice none 0 0) (.slice none 0 0)) 155;have I0:=Hx (show Blk (w.alloc (.cells (nwCells (.slice none 0 0) (.slice none 0 0)) 155)) w.heap.size 155 (nwCells (.slice none 0 0) (.slice none 0 0))/\NwR (w.alloc (.cells (nwCells (.slice none 0 0) (.slice none 0 0)) 155)) w.heap.size (.slice none 0 0) (bs.take 0)/\
   (w.alloc (.cells (nwCells (.slice none 0 0) (.slice none 0 0)) 155)).ownsRow w.heap.size 3 1 (.slice none 0 0) 0 (ints (List.range 0))/\Ext w (w.alloc (.cells (nwCells (.slice none 0 0) (.slice none 0 0)) 155))from
  ⟨b0,⟨[],by simp,(fun _ h=>by cases h),by rw [List.take_zero];exact World.ownsRow_nil _ _ _ _,fun i hi=>by simp at hi⟩,World.ownsRow_nil _ _ _ _,e0⟩)
 clear b0 e0;unfold nwCells at I0
 go_enter Tryz.func78,Tryz.ntmps78
 go_wp2
 go_loopg [4,5,10] m (fun q _ _ it wr=>∃(n:Nat) (vr vb:Value),m-n=q/\n<=m/\it=.int .i64 (n:Int)/\Hid (Blk wr w.heap.size 155 #[vr,vb,.slice none 0 0,.slice none 0 0,.bool false,.slice none 0 0,.slice none 0 0,.int .i64 0]/\NwR wr w.heap.size vr (bs.take n)/\wr.ownsRow w.heap.size 3 1 vb n (ints (List.range n))/\Ext w wr))
 case atStart=>exact⟨0,_,_,rfl,yZ _,rfl,I0⟩
 case round=>
  obtain⟨n,vr,vb,rfl,hn,rfl,I⟩:=hrel;clear I0;by_cases qA:n<m
  ·have nM:(n:Int)<(m:Int):=by omega
   have n0:(0:Int)<=(n:Int):=(by omega);obtain⟨bq,oq,neg,A,l,c,A',l',c',rfl,qB,i0,i1,i2,hR⟩:=(HQ.out.keep I.out.2.2.2).at_ (jzv (show n<bs.length by omega));obtain⟨bx,e0⟩:=boxes1 wr #[.bool neg,.slice A l c,.slice A' l' c'] 35;have W4:=Hx (show Blk (wr.alloc (.cells #[.bool neg,.slice A l c,.slice A' l' c'] 35)) w.heap.size 155 #[vr,vb,.slice none 0 0,.slice none 0 0,.bool false,.slice none 0 0,.slice none 0 0,.int .i64 0]/\NwR (wr.alloc (.cells #[.bool neg,.slice A l c,.slice A' l' c'] 35)) w.heap.size vr (bs.take n)/\
     (wr.alloc (.cells #[.bool neg,.slice A l c,.slice A' l' c'] 35)).ownsRow w.heap.size 3 1 vb n (ints (List.range n))/\Ext w (wr.alloc (.cells #[.bool neg,.slice A l c,.slice A' l' c'] 35))/\RatR (wr.alloc (.cells #[.bool neg,.slice A l c,.slice A' l' c'] 35)) neg A l c A' l' c' (Sx.at_ bs n)from
    ⟨I.out.1.keep e0,I.out.2.1.keep e0,(FrS.of_ext (S:=fun _=>False) e0).own I.out.2.2.1 (fun _ _ h=>h),I.out.2.2.2.tr e0,hR.keep e0⟩)
   have BX:=Hx bx;clear hR e0 bx I
   go_upto_region 5 with fail
   have qw:(wr.alloc (.cells #[.bool neg,.slice A l c,.slice A' l' c'] 35)).heap.size=wr.heap.size+1:=(by simp);generalize wr.alloc (.cells #[.bool neg,.slice A l c,.slice A' l' c'] 35)=W at*;generalize wr.heap.size=gx at*;have XD:=Hx (show Ext W W.drew from(Ext.refl W).drewN 1);have HSW:=Hx (show W.drew.cell? ⟨w.heap.size,0,none⟩=some vr/\W.drew.cell? ⟨gx,0,none⟩=some (.bool neg)/\W.drew.cell? ⟨gx,1,none⟩=some (.slice A l c)/\W.drew.cell? ⟨gx,2,none⟩=some (.slice A' l' c')from⟨W4.out.1.cell 0,BX.out.cell 0,BX.out.cell 1,BX.out.cell 2⟩);refine jzg (fun w'=>w'.cell? ⟨w.heap.size,0,none⟩=some vr/\w'.cell? ⟨gx,0,none⟩=some (.bool neg)/\w'.cell? ⟨gx,1,none⟩=some (.slice A l c)/\w'.cell? ⟨gx,2,none⟩=some (.slice A' l' c')) 11 (by kernel_rfl) ?_;refine wP 0 rfl HSW.out ?_;try simp only [Act.put,yD,yE,yF]
   refine wP 1 rfl HSW.out ?_;try simp only [Act.put,yD,yE,yF]
   refine wP 2 rfl HSW.out ?_;try simp only [Act.put,yD,yE,yF]
   refine wP 3 rfl HSW.out ?_;try simp only [Act.put,yD,yE,yF]
   refine wT 4 (v:=?_) rfl ?_ HSW.out ?_;rotate_left
   focus (intro w hSw;obtain⟨s1,s2,s3,s4⟩:=hSw;go_simp;try with_reducible rfl)
   try simp only [Act.put,yD,yE,yF]
   refine wT 5 (v:=?_) rfl ?_ HSW.out ?_;rotate_left
   focus (intro w hSw;obtain⟨s1,s2,s3,s4⟩:=hSw;go_simp;try with_reducible rfl)
   try simp only [Act.put,yD,yE,yF]
   refine wP 6 rfl HSW.out ?_;try simp only [Act.put,yD,yE,yF]
   refine wC 7 rfl (fun KK hK=>?_);go_simp;have XB:=Hx (show Ext W (W.alloc (.cells #[.slice none 0 0,.bool neg,.slice A l c,.slice A' l' c'] 153)).drew from((Ext.refl W).alloc _).drewN 1);have qh:=Hx (show(W.alloc (.cells #[.slice none 0 0,.bool neg,.slice A l c,.slice A' l' c'] 153)).drew.cell? ⟨w.heap.size,0,none⟩=some vr/\(W.alloc (.cells #[.slice none 0 0,.bool neg,.slice A l c,.slice A' l' c'] 153)).drew.cell? ⟨gx,0,none⟩=some (.bool neg)/\(W.alloc (.cells #[.slice none 0 0,.bool neg,.slice A l c,.slice A' l' c'] 153)).drew.cell? ⟨gx,1,none⟩=some (.slice A l c)/\(W.alloc (.cells #[.slice none 0 0,.bool neg,.slice A l c,.slice A' l' c'] 153)).drew.cell? ⟨gx,2,none⟩=some (.slice A' l' c')from
    ⟨(W4.out.1.keep XB.out).cell 0,(BX.out.keep XB.out).cell 0,(BX.out.keep XB.out).cell 1,(BX.out.keep XB.out).cell 2⟩)
   refine hK.out _ _ qh.out ?_;clear hK KK HSW;have HSW:=qh;have BW:=Hx (show Blk (W.alloc (.cells #[.slice none 0 0,.bool neg,.slice A l c,.slice A' l' c'] 153)).drew (gx+1) 153 #[.slice none 0 0,.bool neg,.slice A l c,.slice A' l' c']from by rw [<-qw];exact Blk.new W _ _);clear qh;generalize (W.alloc (.cells #[.slice none 0 0,.bool neg,.slice A l c,.slice A' l' c'] 153)).drew=W6 at*;obtain⟨css,h1,h2,qa,h4⟩:=W4.out.2.1.keep XB.out;rw [xF,Nat.min_eq_left (by omega)]at h1 qa h4;refine wC 8 rfl (fun KK hK=>?_);refine jzdl W6 151 153 _ 4 80 _ _ rfl Tryz.underlying151 Tryz.infoRow rfl (by decide) w.heap.size vr n css.flatten (by rfl) qa [.slice none 0 0,.bool neg,.slice A l c,.slice A' l' c'] rfl (by simp [Value.oneCell']) (gx+1) (by rfl) BW.out (by unfold maxLen;omega) (by omega) (by have:=(W4.out.2.2.2.1.tr XB.out).size;omega) ?_;intro g7 c7 w7 qm qf qp;have k7:=Hx (show FrS (fun x=>vr.ownBlock=some x) W6 w7 from FrS.of_grown qf fun g e=>e);have NP:=Hx (show¬vr.ownBlock=some w.heap.size from fun e=>jz3 qa e (t:=155) (by decide) _ _ (W4.out.1.keep XB.out));have NX:=Hx (show¬vr.ownBlock=some gx from fun e=>jz3 qa e (t:=35) (by decide) _ _ (BX.out.keep XB.out));have qj:=Hx (show w7.cell? ⟨w.heap.size,0,none⟩=some vr/\w7.cell? ⟨gx,0,none⟩=some (.bool neg)/\w7.cell? ⟨gx,1,none⟩=some (.slice A l c)/\w7.cell? ⟨gx,2,none⟩=some (.slice A' l' c')from
    ⟨(k7.out.blk (W4.out.1.keep XB.out) NP.out).cell 0,(k7.out.blk (BX.out.keep XB.out) NX.out).cell 0,(k7.out.blk (BX.out.keep XB.out) NX.out).cell 1,(k7.out.blk (BX.out.keep XB.out) NX.out).cell 2⟩)
   have NW:=Hx (show NwR w7 w.heap.size (.slice (some ⟨g7,0,none⟩) (n+1) c7) (bs.take (n+1))from by
    have h5:=NwR.push (l:=bs.take n) (by rw [xF,Nat.min_eq_left (by omega)];exact h1) h2 (by rw [xF,Nat.min_eq_left (by omega)];exact qa) (fun i hi=>h4 i (by rw [xF]at hi;omega)) (W4.out.2.2.2.2.keep XB.out) (v':=.slice (some ⟨g7,0,none⟩) (n+1) c7) (by rw [xF,Nat.min_eq_left (by omega)];exact qm) qf;rw [show bs.take (n+1)=bs.take n++[Sx.at_ bs n] by rw [List.take_add_one,jzv (show n<bs.length by omega)];rfl];exact h5)
   have VB:=Hx (show w7.ownsRow w.heap.size 3 1 vb n (ints (List.range n))from k7.out.own ((FrS.of_ext (S:=fun _=>False) XB.out).own W4.out.2.2.1 (fun _ _ h=>h)) fun x hx hr=>by
    obtain⟨qn,qe⟩:=jzl ((FrS.of_ext (S:=fun _=>False) XB.out).own W4.out.2.2.1 (fun _ _ h=>h)) hx;exact jz3 qa hr (t:=3) (by decide) _ _ qe)
   have BP:=Hx (k7.out.blk (W4.out.1.keep XB.out) NP.out);have EW:=Hx (show Ext w w7 from k7.out.ext (W4.out.2.2.2.1.tr XB.out) fun x hx=>(qa.lt x hx).1);refine hK.out _ _ qj.out ?_;clear hK KK HSW qm qf qa h1 h2 h4;have HSW:=qj;try simp only [Act.put,yD,yE,yF]
   have z0:w7.frozen? ⟨w.heap.size,0,none⟩=false:=BP.out.frozen _;have t0:w7.cell? ⟨w.heap.size,0,none⟩=some vr:=BP.out.cell 0;refine wP 9 rfl HSW.out ?_;try simp only [Act.put,yD,yE,yF]
   refine wP 10 rfl HSW.out ?_;try simp only [Act.put,yD,yE,yF]
   refine jzk (by kernel_rfl) rfl (by rfl) (fun KK hK=>?_);go_simp;refine hK.out _ _ ?_;clear hK KK HSW qj;refine wpAny_done (by kernel_rfl) ?_ _;have k8:=Hx (show FrS (fun x=>x=w.heap.size) w7 (w7.setCell ⟨w.heap.size,0,none⟩ (.slice (some ⟨g7,0,none⟩) (n+1) c7))from FrS.of_grown (jze w7 w.heap.size 0 _) fun g e=>by injection e with e;exact e.symm);have np:NoT (fun x=>x=w.heap.size) w7 167:=NoT.one BP.out (by decide);have I8:=Hx (show Blk (w7.setCell ⟨w.heap.size,0,none⟩ (.slice (some ⟨g7,0,none⟩) (n+1) c7)) w.heap.size 155 #[.slice (some ⟨g7,0,none⟩) (n+1) c7,vb,.slice none 0 0,.slice none 0 0,.bool false,.slice none 0 0,.slice none 0 0,.int .i64 0]/\
     NwR (w7.setCell ⟨w.heap.size,0,none⟩ (.slice (some ⟨g7,0,none⟩) (n+1) c7)) w.heap.size (.slice (some ⟨g7,0,none⟩) (n+1) c7) (bs.take (n+1))/\
     (w7.setCell ⟨w.heap.size,0,none⟩ (.slice (some ⟨g7,0,none⟩) (n+1) c7)).ownsRow w.heap.size 3 1 vb n (ints (List.range n))/\Ext w (w7.setCell ⟨w.heap.size,0,none⟩ (.slice (some ⟨g7,0,none⟩) (n+1) c7))from
    ⟨BP.out.set_ 0 _,NW.out.fr k8.out np (fun x hx e=>by
     obtain⟨qk,_,_,h9,_⟩:=NW.out;obtain⟨qn,qe⟩:=jzl h9 hx;rw [e]at qe;exact absurd (jzq qe BP.out).2 (by decide)),k8.out.own VB.out (fun x hx e=>by
     obtain⟨qn,qe⟩:=jzl VB.out hx;rw [e]at qe;exact absurd (jzq qe BP.out).2 (by decide)),k8.out.ext EW.out (fun x e=>by rw [e];exact yX _)⟩)
   clear z0 t0 np k8 k7 NP NX NW VB BP EW W4 BX BW XB XD css qp qw;generalize w7.setCell ⟨w.heap.size,0,none⟩ (.slice (some ⟨g7,0,none⟩) (n+1) c7)=W8 at*;have p1:W8.cell? ⟨w.heap.size,1,none⟩=some vb:=I8.out.1.cell 1;have qy:w.heap.size<W8.heap.size:=I8.out.1.lt;have XC:=Hx ((Ext.refl W8).alloc (.cells #[.int .i64 (n:Int)] 3));have BC:=Hx (Blk.new W8 3 #[.int .i64 (n:Int)]);have VB:=Hx ((FrS.of_ext (S:=fun _=>False) XC.out).own I8.out.2.2.1 (fun _ _ h=>h))
   go_wp2_with (at_builtin;refine jz2 _ 44 3 _ 1 8 rfl _ _ rfl Tryz.underlying44 Tryz.infoInt rfl (by decide) w.heap.size vb n (ints (List.range n)) rfl VB.out [.int .i64 (n:Int)] rfl (by simp [Value.oneCell']) W8.heap.size rfl BC.out (by unfold maxLen;omega) (by omega) (by have:=XC.out.size;omega) ?_)
   intro g9 c9 w9 qi qg qt;have k9:=Hx (show FrS (fun x=>vb.ownBlock=some x) (W8.alloc (.cells #[.int .i64 (n:Int)] 3)) w9 from FrS.of_grown qg fun g e=>e);have NP:=Hx (show¬vb.ownBlock=some w.heap.size from fun e=>jz3 VB.out e (t:=155) (by decide) _ _ (I8.out.1.keep XC.out));have BP:=Hx (k9.out.blk (I8.out.1.keep XC.out) NP.out);have F:=Hx (show NwR w9 w.heap.size (.slice (some ⟨g7,0,none⟩) (n+1) c7) (bs.take (n+1))/\Ext w w9 from⟨(I8.out.2.1.keep XC.out).fr k9.out (fun b hb=>jz3 VB.out hb (by decide)) (fun x hx hr=>by
    obtain⟨qk,_,_,h9,_⟩:=I8.out.2.1.keep XC.out;obtain⟨qn,qe⟩:=jzl h9 hx;exact jz3 VB.out hr (t:=153) (by decide) _ _ qe),k9.out.ext (I8.out.2.2.2.tr XC.out) fun x hx=>(VB.out.lt x hx).1⟩)
   have qo:=Hx (show FrS (fun x=>x=w.heap.size) w9 (w9.setCell ⟨w.heap.size,1,none⟩ (.slice (some ⟨g9,0,none⟩) (n+1) c9))from FrS.of_grown (jze w9 w.heap.size 1 _) fun g e=>by injection e with e;exact e.symm);have qz:=Hx (show Blk (w9.setCell ⟨w.heap.size,1,none⟩ (.slice (some ⟨g9,0,none⟩) (n+1) c9)) w.heap.size 155 #[.slice (some ⟨g7,0,none⟩) (n+1) c7,.slice (some ⟨g9,0,none⟩) (n+1) c9,.slice none 0 0,.slice none 0 0,.bool false,.slice none 0 0,.slice none 0 0,.int .i64 0]/\
     NwR (w9.setCell ⟨w.heap.size,1,none⟩ (.slice (some ⟨g9,0,none⟩) (n+1) c9)) w.heap.size (.slice (some ⟨g7,0,none⟩) (n+1) c7) (bs.take (n+1))/\
     (w9.setCell ⟨w.heap.size,1,none⟩ (.slice (some ⟨g9,0,none⟩) (n+1) c9)).ownsRow w.heap.size 3 1 (.slice (some ⟨g9,0,none⟩) (n+1) c9) (n+1) (ints (List.range (n+1)))/\Ext w (w9.setCell ⟨w.heap.size,1,none⟩ (.slice (some ⟨g9,0,none⟩) (n+1) c9))from
    ⟨BP.out.set_ 1 _,F.out.1.fr qo.out (NoT.one BP.out (by decide)) (fun x hx e=>by
     obtain⟨qk,_,_,h9,_⟩:=F.out.1;obtain⟨qn,qe⟩:=jzl h9 hx;rw [e]at qe;exact absurd (jzq qe BP.out).2 (by decide)),by
     rw [List.range_succ,jzbs];exact qo.out.own qi (fun x hx e=>by
      obtain⟨qn,qe⟩:=jzl qi hx;rw [e]at qe;exact absurd (jzq qe BP.out).2 (by decide)),qo.out.ext F.out.2 (fun x e=>by rw [e];exact yX _)⟩)
   have z1:w9.frozen? ⟨w.heap.size,1,none⟩=false:=BP.out.frozen _;have t1:w9.cell? ⟨w.heap.size,1,none⟩=some vb:=BP.out.cell 1;clear qi qg qt k9 NP BP F qo VB BC XC I8 p1 qy;go_wp2
   go_roundg (m-(n+1))
   case measure=>omega
   case rel=>exact⟨n+1,_,_,rfl,by omega,by go_num,qz⟩
  ·obtain rfl:n=m:=by omega
   have qx:=Hx (show TabR wr w.heap.size ⟨w.heap.size,vr,vb,.slice none 0 0,fun _=>.slice none 0 0,n⟩ (Sx.newT bs)from by
    have h1:=I.out.2.1;rw [yU (by omega)]at h1;have h2:=I.out.2.2.1;have h3:=h1.tab (yX _) I.out.1 (by rw [hbl];exact h2);rw [hbl]at h3;exact h3)
   have EX:=Hx I.out.2.2.2;clear I;go_wp2;go_ret;exact⟨⟨w.heap.size,vr,vb,.slice none 0 0,fun _=>.slice none 0 0,n⟩,rfl,rfl,rfl,qx.out,EX.out⟩
def TLoc.setV(L:TLoc)(k:Nat)(v:Value):TLoc:=⟨L.p,L.vr,L.vb,L.vf,fun i=>if i=k then v else L.V i,L.m⟩
def TLoc.setF(L:TLoc)(v:Value):TLoc:=⟨L.p,L.vr,L.vb,v,L.V,L.m⟩
def setCols(T:Sx.Tb)(c:Nat):Sx.Tb:=⟨T.rows,T.bas,T.fre,T.goal,c⟩
section
variable {w w':World} {B:Nat} {L:TLoc} {T:Sx.Tb}
theorem TLoc.setV_same(L:TLoc)(k:Nat)(v:Value):(L.setV k v).V k=v:=if_pos rfl
theorem TLoc.setV_ne(L:TLoc){i k:Nat}(v:Value)(h:i≠k):(L.setV k v).V i=L.V i:=if_neg h
theorem jzkt(h:TabR w B L T){k g' n c':Nat}(hk:k<=L.m)(hg:some g'=(L.V k).ownBlock\/w.heap.size<=g'):∀i j,i<=L.m->j<=L.m->i≠j->((L.setV k (.slice (some ⟨g',0,none⟩) n c')).V i).ownBlock=none\/((L.setV k (.slice (some ⟨g',0,none⟩) n c')).V i).ownBlock≠((L.setV k (.slice (some ⟨g',0,none⟩) n c')).V j).ownBlock:=by
 have qe:∀j,j<=L.m->j≠k->some g'≠(L.V j).ownBlock:=fun j hj hne e=>by
  rcases hg with h1|h1
  ·rcases h.sep j k hj hk hne with h2|h2
   ·rw [h2]at e;cases e
   ·exact h2 (e.symm.trans h1)
  ·obtain⟨qs,h2⟩:=h.oq hj
   obtain⟨xs,h3⟩:=h2.own;have:=(h3.lt g' e.symm).2;omega
 intro i j hi hj qa;by_cases e1:i=k
 ·subst e1
  rw [L.setV_same,L.setV_ne _ (fun e=>qa e.symm)];exact .inr (qe j hj fun e=>qa e.symm)
 ·rw [L.setV_ne _ e1]
  by_cases e2:j=k
  ·subst e2
   rw [L.setV_same];exact .inr fun e=>qe i hi e1 e.symm
  ·rw [L.setV_ne _ e2]
   exact h.sep i j hi hj qa
theorem TabR.row_push(h:TabR w B L T){k:Nat}(hk:k<L.m){g cr g' n c':Nat}{cs:Array Value}{X':List Rat}(hvr:L.vr=.slice (some ⟨g,0,none⟩) L.m cr)(hb:Blk w g 153 cs)
  (hb':Blk w' g 153 (cs.setIfInBounds (k*4) (.slice (some ⟨g',0,none⟩) n c'))) (ho:OQ QR 35 w' B (.slice (some ⟨g',0,none⟩) n c') X') (hf:FrS (fun x=>x=g\/(L.V k).ownBlock=some x) w w') (hg:some g'=(L.V k).ownBlock\/w.heap.size<=g'):
  TabR w' B (L.setV k (.slice (some ⟨g',0,none⟩) n c')) (setRow T k ⟨X',(T.row k).re⟩):=by
 obtain⟨qx,qg⟩:=(h.co k hk).own;have qn:∀t,153≠t->35≠t->NoT (fun x=>x=g\/(L.V k).ownBlock=some x) w t:=fun t h1 h2 b hbb c fr e=>by
  rcases hbb with rfl|hbb
  ·exact NoT.one hb h1 b rfl c fr e
  ·exact jz3 qg hbb h2 c fr e
 have qa:=qn 167 (by decide) (by decide);have far:∀{t:TypeId} {b:Nat} {c:Array Value},Blk w b t c->t≠153->t≠35->¬(b=g\/(L.V k).ownBlock=some b):=fun hbb h1 h2 e=>by
  rcases e with rfl|e
  ·exact h1 (jzq hbb hb).2
  ·exact jz3 qg e (fun e2=>h2 e2.symm) _ _ hbb
 have qe:∀i,i<=L.m->i≠k->∀qs,OQ QR 35 w B (L.V i) qs->OQ QR 35 w' B (L.V i) qs:=fun i hi hne qs hq=>hf.oq qa hq fun b hbb e=>by
  obtain⟨xs,h1⟩:=hq.own;obtain⟨c,h2⟩:=jzl h1 hbb;rcases e with rfl|e
  ·have:=(jzq h2 hb).2
   exact absurd this (by decide)
  ·rcases h.sep i k hi (Nat.le_of_lt hk) hne with h3|h3
   ·rw [h3]at hbb;cases hbb
   ·exact h3 (by rw [hbb,e])
 have qh:k<T.rows.length:=(by rw [h.rl];exact hk);have qo:(setRow T k ⟨X',(T.row k).re⟩).rows.length=L.m:=(by show(T.rows.set k _).length=_;rw [yV];exact h.rl);refine⟨qo,h.lo,?_,?_,h.bl,?_,?_,h.bf,fun i hi=>?_,?_,jzkt h (Nat.le_of_lt hk) hg⟩
 ·obtain⟨gs,h1,h2⟩:=h.box
  refine⟨gs,?_,hf.blk h2 (far h2 (by decide) (by decide))⟩;show RwC w' gs ((L.setV k _).V L.m) _;rw [L.setV_ne _ (by omega)];exact hf.rwc qa h1
 ·obtain⟨css,h1,h2,h3,h4⟩:=h.rows
  obtain⟨c0,k1,k2⟩:=h4 k hk;obtain⟨neg,A,n0,c,A',qw,qt,rfl,rr⟩:=k2;obtain⟨cb,qm,nr,R1,m1,d1,qj,qf,qi,r0,r1,r2,r3,qp⟩:=h.rwa hk hvr;obtain⟨qk,_⟩:=jzq hb qm;rw [<-qk]at r0 r1 r2 r3;have qy:k*4+3<cs.size:=(Array.getElem?_eq_some_iff.1 r3).1;refine⟨css.set k [.slice (some ⟨g',0,none⟩) n c',.bool nr,.slice R1 m1 d1,.slice qj qf qi],by rw [yV];exact h1,fun c hc=>?_,?_,fun i hi=>?_⟩
  ·rcases xE hc with h5|h5
   ·exact h2 c h5
   ·rw [h5];rfl
  ·show w'.ownsRow B 153 4 L.vr L.m _
   rw [hvr]at h3⊢;refine jzkl h3 h1 h2 hk hb hb' (by simp) rfl (fun j hj=>?_) fun i hi=>?_
   ·rcases(show j=0\/j=1\/j=2\/j=3 by omega)with rfl|rfl|rfl|rfl
    ·show(cs.setIfInBounds (k*4) _)[k*4]?=_
     rw [Array.getElem?_setIfInBounds_self_of_lt (by omega)];rfl
    ·rw [xH (by omega)];exact r1
    ·rw [xH (by omega)];exact r2
    ·rw [xH (by omega)];exact r3
   ·rw [xH (by omega)]
  ·rw [jzce T _ i qh]
   by_cases e:i=k
   ·subst e
    refine⟨_,yM (by omega),?_⟩;rw [if_pos rfl,L.setV_same];exact⟨nr,R1,m1,d1,qj,qf,qi,rfl,hf.ratR qa qp⟩
   ·obtain⟨c,h5,h6⟩:=h4 i hi
    refine⟨c,by rw [vN (fun e2=>e e2.symm)];exact h5,?_⟩;rw [if_neg e,L.setV_ne _ e];exact hf.rwc qa h6
 ·refine hf.own h.bas fun b hbb=>?_
  obtain⟨c,h1⟩:=jzl h.bas hbb;exact far h1 (by decide) (by decide)
 ·refine hf.own h.fre fun b hbb=>?_
  obtain⟨c,h1⟩:=jzl h.fre hbb;exact far h1 (by decide) (by decide)
 ·rw [jzce T _ i qh]
  by_cases e:i=k
  ·subst e;rw [if_pos rfl,L.setV_same];exact ho
  ·rw [if_neg e,L.setV_ne _ e];exact qe i (Nat.le_of_lt hi) e _ (h.co i hi)
 ·show OQ QR 35 w' B ((L.setV k _).V L.m) T.goal.co
  rw [L.setV_ne _ (by omega)];exact qe L.m (yX _) (by omega) _ h.go
theorem TabR.goal_push(h:TabR w B L T){g' n c':Nat}{cs:Array Value}{X':List Rat}(hb:Blk w L.p 155 cs)
  (hb':Blk w' L.p 155 (cs.setIfInBounds 3 (.slice (some ⟨g',0,none⟩) n c'))) (ho:OQ QR 35 w' B (.slice (some ⟨g',0,none⟩) n c') X') (hf:FrS (fun x=>x=L.p\/(L.V L.m).ownBlock=some x) w w') (hg:some g'=(L.V L.m).ownBlock\/w.heap.size<=g'):
  TabR w' B (L.setV L.m (.slice (some ⟨g',0,none⟩) n c')) (setGoal T ⟨X',T.goal.re⟩):=by
 obtain⟨qj,qg⟩:=h.go.own;have qa:NoT (fun x=>x=L.p\/(L.V L.m).ownBlock=some x) w 167:=fun b hbb c fr e=>by
  rcases hbb with rfl|hbb
  ·exact NoT.one hb (by decide) _ rfl c fr e
  ·exact jz3 qg hbb (by decide) c fr e
 have far:∀{t:TypeId} {b:Nat} {c:Array Value},Blk w b t c->t≠155->t≠35->¬(b=L.p\/(L.V L.m).ownBlock=some b):=fun hbb h1 h2 e=>by
  rcases e with rfl|e
  ·exact h1 (jzq hbb hb).2
  ·exact jz3 qg e (fun e2=>h2 e2.symm) _ _ hbb
 refine⟨h.rl,h.lo,?_,?_,h.bl,?_,?_,h.bf,fun i hi=>?_,?_,jzkt h (yX _) hg⟩
 ·obtain⟨gs,h1,h2⟩:=h.box
  obtain⟨e1,_⟩:=jzq hb h2;obtain⟨n0,A0,m0,d0,qe,qh,qf,rfl,rr⟩:=h1;refine⟨[.slice (some ⟨g',0,none⟩) n c',.bool n0,.slice A0 m0 d0,.slice qe qh qf],?_,?_⟩
  ·show RwC w' _ ((L.setV L.m _).V L.m) _
   rw [L.setV_same];exact⟨n0,A0,m0,d0,qe,qh,qf,rfl,hf.ratR qa rr⟩
  ·rw [e1]at hb'
   exact hb'
 ·obtain⟨css,h1,h2,h3,h4⟩:=h.rows
  refine⟨css,h1,h2,hf.own h3 fun b hbb=>?_,fun i hi=>?_⟩
  ·obtain⟨c,h5⟩:=jzl h3 hbb
   exact far h5 (by decide) (by decide)
  ·obtain⟨c,h5,h6⟩:=h4 i hi
   have qi:i<L.m:=hi;exact⟨c,h5,by rw [L.setV_ne _ (by omega)];exact hf.rwc qa h6⟩
 ·refine hf.own h.bas fun b hbb=>?_
  obtain⟨c,h1⟩:=jzl h.bas hbb;exact far h1 (by decide) (by decide)
 ·refine hf.own h.fre fun b hbb=>?_
  obtain⟨c,h1⟩:=jzl h.fre hbb;exact far h1 (by decide) (by decide)
 ·have qi:i<L.m:=hi
  rw [L.setV_ne _ (by omega)];refine hf.oq qa (h.co i hi) fun b hbb e=>?_;obtain⟨xs,h1⟩:=(h.co i hi).own;obtain⟨c,h2⟩:=jzl h1 hbb;rcases e with rfl|e
  ·have:=(jzq h2 hb).2
   exact absurd this (by decide)
  ·rcases h.sep i L.m (Nat.le_of_lt hi) (yX _) (by omega)with h3|h3
   ·rw [h3]at hbb;cases hbb
   ·exact h3 (by rw [hbb,e])
 ·show OQ QR 35 w' B ((L.setV L.m _).V L.m) X'
  rw [L.setV_same];exact ho
theorem TabR.box_set(h:TabR w B L T){k:Nat}{u:Value}(hk:k=7\/k=2):FrS (fun b=>b=L.p) w (w.setCell ⟨L.p,k,none⟩ u)/\NoT (fun b=>b=L.p) w 167/\(∀{b:Nat} {t:TypeId} {cs:Array Value},Blk w b t cs->t≠155->¬b=L.p):=by
 obtain⟨gs,_,h2⟩:=h.box;exact⟨FrS.of_grown (jze w L.p k u) fun g e=>by injection e with e;exact e.symm,NoT.one h2 (by decide),fun hb ht e=>by rw [e]at hb;exact ht (jzq hb h2).2⟩
theorem TabR.cols_set(h:TabR w B L T)(c:Nat):TabR (w.setCell ⟨L.p,7,none⟩ (.int .i64 (c:Int))) B L (setCols T c)/\FrS L.S w (w.setCell ⟨L.p,7,none⟩ (.int .i64 (c:Int))):=by
 obtain⟨hf,qa,far⟩:=h.box_set (k:=7) (u:=.int .i64 (c:Int)) (.inl rfl);refine⟨⟨h.rl,h.lo,?_,?_,h.bl,hf.own h.bas fun b hb=>?_,hf.own h.fre fun b hb=>?_,h.bf,fun i hi=>hf.oq qa (h.co i hi) fun b hb=>?_,hf.oq qa h.go fun b hb=>?_,h.sep⟩,hf.mono fun b hb=>.inl hb⟩
 ·obtain⟨gs,h1,h2⟩:=h.box
  obtain⟨n0,A0,m0,d0,qe,qg,qf,rfl,rr⟩:=h1;exact⟨_,⟨n0,A0,m0,d0,qe,qg,qf,rfl,hf.ratR qa rr⟩,h2.set_ 7 _⟩
 ·obtain⟨css,h1,h2,h3,h4⟩:=h.rows
  refine⟨css,h1,h2,hf.own h3 fun b hb=>?_,fun i hi=>?_⟩
  ·obtain⟨c,h5⟩:=jzl h3 hb
   exact far h5 (by decide)
  ·obtain⟨c,h5,h6⟩:=h4 i hi
   exact⟨c,h5,hf.rwc qa h6⟩
 ·obtain⟨c,h1⟩:=jzl h.bas hb
  exact far h1 (by decide)
 ·obtain⟨c,h1⟩:=jzl h.fre hb
  exact far h1 (by decide)
 ·obtain⟨xs,h1⟩:=(h.co i hi).own
  obtain⟨c,h2⟩:=jzl h1 hb;exact far h2 (by decide)
 ·obtain⟨xs,h1⟩:=h.go.own
  obtain⟨c,h2⟩:=jzl h1 hb;exact far h2 (by decide)
end
def valsOf(m:Nat)(ts:List (Nat×Rat)):List Rat:=ts.foldl (fun v t=>v.set t.1 t.2) (List.replicate m 0)
theorem jzaf(m:Nat)(ts:List (Nat×Rat)):(valsOf m ts).length=m:=by
 have qa:∀(ts:List (Nat×Rat)) (v:List Rat),(ts.foldl (fun v t=>v.set t.1 t.2) v).length=v.length:=fun ts=>by
  induction ts with
  |nil=>intro v;rfl
  |cons t ts ih=>intro v;show(ts.foldl _ (v.set t.1 t.2)).length=_;rw [ih,yV]
 unfold valsOf;rw [qa,xC]
def addTo(T:Sx.Tb)(vals:List Rat)(n:Nat):Sx.Tb:=
 ⟨(List.range T.rows.length).map fun i=>if i<n then Sx.addR T vals (T.row i) (if Sx.atN T.bas i<vals.length then Sx.at_ vals (Sx.atN T.bas i)else 0)else T.row i,T.bas,T.fre,T.goal,T.cols+1⟩
theorem addTo_row(T:Sx.Tb)(vals:List Rat)(n:Nat){i:Nat}(hi:i<T.rows.length):(addTo T vals n).row i=if i<n then Sx.addR T vals (T.row i) (if Sx.atN T.bas i<vals.length then Sx.at_ vals (Sx.atN T.bas i)else 0)else T.row i:=by
 unfold addTo;show((List.range T.rows.length).map _)[i]?.getD _=_;rw [yW,xJ hi];rfl
theorem rowget(T:Sx.Tb){n:Nat}(hn:n<T.rows.length):T.rows[n]?=some (T.row n):=by
 unfold Sx.Tb.row;rw [yG hn];rfl
theorem jzku(T:Sx.Tb)(vals:List Rat):addTo T vals 0=setCols T (T.cols+1):=by
 unfold addTo setCols
 congr 1
 apply uK;intro n;by_cases hn:n<T.rows.length
 ·rw [yW,xJ hn,rowget T hn]
  simp
 ·rw [yI (by simp;omega),yI (by omega)]
theorem jzkv(T:Sx.Tb)(vals:List Rat){n:Nat}(hn:n<T.rows.length):addTo T vals (n+1)=setRow (addTo T vals n) n (Sx.addR T vals (T.row n) (if Sx.atN T.bas n<vals.length then Sx.at_ vals (Sx.atN T.bas n)else 0)):=by
 unfold addTo setRow
 congr 1
 apply uK;intro k;by_cases hk:k<T.rows.length
 ·rw [yW,xJ hk]
  by_cases e:n=k
  ·subst e
   rw [yM (by simp;omega)];simp
  ·rw [vN e,yW,xJ hk]
   have:(k<n+1↔k<n):=(by omega);simp only [Option.map_some];by_cases h:k<n
   ·rw [if_pos (this.2 h),if_pos h]
   ·rw [if_neg (fun h2=>h (this.1 h2)),if_neg h]
 ·rw [yI (by simp;omega),yI (by simp;omega)]
theorem addTo_all(T:Sx.Tb)(vals:List Rat):(addTo T vals T.rows.length).rows=(List.range T.rows.length).map (fun i=>Sx.addR T vals (T.row i) (if Sx.atN T.bas i<vals.length then Sx.at_ vals (Sx.atN T.bas i)else 0)):=by
 unfold addTo;refine List.map_congr_left fun i hi=>?_;rw [if_pos (vX.1 hi)]
def pivTo(T:Sx.Tb)(i j k:Nat):Sx.Tb:=
 ⟨(List.range T.rows.length).map (fun n=>if n=i then Sx.sclR (T.row i) j else if n<k then Sx.subR (T.row n) j (Sx.sclR (T.row i) j)else T.row n),T.bas.set i (Sx.atN T.fre j),T.fre.set j (Sx.atN T.bas i),T.goal,T.cols⟩
theorem row_get(T:Sx.Tb){n:Nat}(hn:n<T.rows.length):T.rows[n]?=some (T.row n):=by
 unfold Sx.Tb.row;rw [yG hn];rfl
theorem jzex(T:Sx.Tb)(i j k:Nat){n:Nat}(hn:n<T.rows.length):(pivTo T i j k).row n=if n=i then Sx.sclR (T.row i) j else if n<k then Sx.subR (T.row n) j (Sx.sclR (T.row i) j)else T.row n:=by
 unfold pivTo;show((List.range T.rows.length).map _)[n]?.getD _=_;rw [yW,xJ hn];rfl
theorem jzkw(T:Sx.Tb)(i j:Nat)(hi:i<T.rows.length):pivTo T i j 0=setFre (setBas (setRow T i (Sx.sclR (T.row i) j)) (T.bas.set i (Sx.atN T.fre j))) (T.fre.set j (Sx.atN T.bas i)):=by
 unfold pivTo setFre setBas setRow
 congr 1
 apply uK;intro n;by_cases hn:n<T.rows.length
 ·rw [yW,xJ hn]
  simp only [Option.map_some,Nat.not_lt_zero,if_false];by_cases e:n=i
  ·subst e;rw [if_pos rfl,yM hn]
  ·rw [if_neg e,vN (fun e2=>e e2.symm),row_get T hn]
 ·rw [yI (by simp;omega),yI (by rw [yV];omega)]
theorem jzkx(T:Sx.Tb)(i j:Nat):pivTo T i j (i+1)=pivTo T i j i:=by
 unfold pivTo
 congr 1
 apply List.map_congr_left;intro n _;by_cases e:n=i
 ·rw [if_pos e,if_pos e]
 ·rw [if_neg e,if_neg e]
  have:(n<i+1↔n<i):=(by omega);by_cases h:n<i
  ·rw [if_pos (this.2 h),if_pos h]
  ·rw [if_neg (fun h2=>h (this.1 h2)),if_neg h]
theorem jzky(T:Sx.Tb)(i j:Nat){k:Nat}(hk:k<T.rows.length)(hki:k≠i):pivTo T i j (k+1)=setRow (pivTo T i j k) k (Sx.subR (T.row k) j (Sx.sclR (T.row i) j)):=by
 unfold pivTo setRow;simp only []
 congr 1
 apply uK;intro n;by_cases hn:n<T.rows.length
 ·by_cases e:n=k
  ·subst e
   rw [yM (by simpa using hn),yW,xJ hn];simp only [Option.map_some];rw [if_neg hki,if_pos (by omega)]
  ·rw [vN (fun e2=>e e2.symm),yW,yW,xJ hn]
   simp only [Option.map_some];have:(n<k+1↔n<k):=(by omega);by_cases h:n<k
   ·rw [if_pos (this.2 h),if_pos h]
   ·rw [if_neg (fun h2=>h (this.1 h2)),if_neg h]
 ·rw [yI (by simp;omega),yI (by simp;omega)]
theorem pivTo_all(T:Sx.Tb)(i j:Nat):setGoal (pivTo T i j T.rows.length) (Sx.subR T.goal j (Sx.sclR (T.row i) j))=Sx.pivT T i j:=by
 unfold pivTo setGoal Sx.pivT;simp only []
 congr 1
 apply List.map_congr_left;intro n hn;have:=vX.1 hn;by_cases e:n=i
 ·rw [if_pos e,if_pos e]
 ·rw [if_neg e,if_neg e,if_pos this]
theorem subst_row(w:World)(B:Nat)(L:TLoc)(T:Sx.Tb)(h:TabR w B L T)(k i j K P g cr gv cv:Nat)(hk:k<L.m)(hi:i<L.m)(hki:k≠i)(hj:j<K)(hK:K<=1000000000000)(hP:P<=1000000)
  (hvr:L.vr=.slice (some ⟨g,0,none⟩) L.m cr) (hV:L.V i=.slice (some ⟨gv,0,none⟩) K cv) (hck:(T.row k).co.length=K) (hci:(T.row i).co.length=K)
  (s1:∀q∈(T.row k).co,SzQ q P) (s2:SzQ (T.row k).re P) (s3:∀q∈(T.row i).co,SzQ q P) (s4:SzQ (T.row i).re P)
  (ni:Bool) (AI:Option Addr) (li ci:Nat) (AI':Option Addr) (li' ci':Nat) (ra:RatR w ni AI li ci AI' li' ci' (T.row i).re):
  Calls Tryz.prog 146 #[.pointer (some ⟨g,k*4,none⟩),.int .i64 (j:Int),.agg #[.slice (some ⟨gv,0,none⟩) K cv,.bool ni,.slice AI li ci,.slice AI' li' ci']] w
   (fun e w'=>e=.returned (.tuple #[])/\TabR w' B L (setRow T k (Sx.subR (T.row k) j (T.row i)))/\FrS L.S w w'):=by
 have hX:=h.co k hk;have hY:=h.co i hi;rw [hV]at hY;obtain⟨qi,qj,qa,_,_⟩:=hX.form (by rw [hck];omega);rw [hck]at qa;obtain⟨cs,qg,qe⟩:=h.rwa hk hvr;have qf:qi≠gv:=fun e=>by
  rcases h.sep k i (Nat.le_of_lt hk) (Nat.le_of_lt hi) hki with h1|h1
  ·rw [qa]at h1;cases h1
  ·exact h1 (by rw [qa,hV,e];rfl)
 have qh:=hX;rw [qa]at qh qe;refine(jzkk B B g (k*4) 153 cs qi K qj gv cv j P (T.row k).co (T.row i).co (T.row k).re (T.row i).re ni AI li ci AI' li' ci' w qg qe qh hck hY hci ra qf (by decide) (by decide) hj hK hP s1 s2 s3 s4).mono ?_;rintro e w' ⟨rfl,qk,c1,c2,c3,c4,c5⟩;refine⟨rfl,?_,c5.mono fun b hb=>by
  rcases hb with rfl|rfl
  ·exact .inr (.inl (by rw [hvr];rfl))
  ·exact .inr (.inr (.inr (.inr ⟨k,Nat.le_of_lt hk,by rw [qa];rfl⟩)))⟩
 rw [<-qa]at c3 c4;exact h.row_upd hk hvr qa qg c1 c2 c3 c4 c5
theorem jzkz(w:World)(B:Nat)(L:TLoc)(T:Sx.Tb)(h:TabR w B L T)(i j K P g cr gv cv:Nat)(hi:i<L.m)(hj:j<K)(hK:K<=1000000000000)(hP:P<=1000000)
  (hvr:L.vr=.slice (some ⟨g,0,none⟩) L.m cr) (hV:L.V i=.slice (some ⟨gv,0,none⟩) K cv) (hck:T.goal.co.length=K) (hci:(T.row i).co.length=K)
  (s1:∀q∈T.goal.co,SzQ q P) (s2:SzQ T.goal.re P) (s3:∀q∈(T.row i).co,SzQ q P) (s4:SzQ (T.row i).re P)
  (ni:Bool) (AI:Option Addr) (li ci:Nat) (AI':Option Addr) (li' ci':Nat) (ra:RatR w ni AI li ci AI' li' ci' (T.row i).re):
  Calls Tryz.prog 146 #[.pointer (some ⟨L.p,3,none⟩),.int .i64 (j:Int),.agg #[.slice (some ⟨gv,0,none⟩) K cv,.bool ni,.slice AI li ci,.slice AI' li' ci']] w
   (fun e w'=>e=.returned (.tuple #[])/\TabR w' B L (setGoal T (Sx.subR T.goal j (T.row i)))/\FrS L.S w w'):=by
 have hX:=h.go;have hY:=h.co i hi;rw [hV]at hY;obtain⟨qi,qj,qa,_,_⟩:=hX.form (by rw [hck];omega);rw [hck]at qa;obtain⟨cs,qg,qe,_⟩:=h.goa;have qf:qi≠gv:=fun e=>by
  rcases h.sep L.m i (yX _) (Nat.le_of_lt hi) (by omega)with h1|h1
  ·rw [qa]at h1;cases h1
  ·exact h1 (by rw [qa,hV,e];rfl)
 have qh:=hX;rw [qa]at qh qe;refine(jzkk B B L.p 3 155 cs qi K qj gv cv j P T.goal.co (T.row i).co T.goal.re (T.row i).re ni AI li ci AI' li' ci' w qg qe qh hck hY hci ra qf (by decide) (by decide) hj hK hP s1 s2 s3 s4).mono ?_;rintro e w' ⟨rfl,qk,c1,c2,c3,c4,c5⟩;refine⟨rfl,?_,c5.mono fun b hb=>by
  rcases hb with rfl|rfl
  ·exact .inl rfl
  ·exact .inr (.inr (.inr (.inr ⟨L.m,yX _,by rw [qa];rfl⟩)))⟩
 rw [<-qa]at c3 c4;exact h.goal_upd qa qg c1 c2 c3 c4 c5
end Go.Proofs.YthbmikapohlikaaGreatDoor
namespace Go.Proofs.YthbmikapohlikaaGreatDoor
open Go Go.RowKit
variable {P:Program} {md:Region.Mode} {ops:Array Oper} {Q:Exit->Act->World->Prop} {S:World->Prop} {L:Nat}
theorem jzf1{m i:Nat}{oi:Oper}{v:Value}(hL:awaitB md ops L m=true)(hm:awaitB md ops m i=true)(hi:ops[i]?=some oi)(hiL:i≠L)(hsel:∀(j:Nat) (o:Oper) cs b,ops[j]?=some o->o.op≠.select cs b)
  (hQ:∀c a w,Q (.panic c) (a.put oi.dst v) w->Q (.panic c) a w):
  ∀(qe:Nat) (qa:Array Bool) (a:Act) (w:World),qa.getD m true=false->
   (∀j oj,ops[j]?=some oj->j≠i->qa.getD j true=false->(∀e∈oj.after,Region.binds md e=true->e.on≠i)->oi.apart ops oj=true)->
   i∈Region.ready md ops qa->YieldsIf P ops S oi v a->S w->
   wpAnyL P md ops Q S L qe (qa.setIfInBounds i true) (a.put oi.dst v) w->wpAnyL P md ops Q S L (qe+1) qa a w:=by
 intro qe
 induction qe with
 |zero=>
  intro qa a w _ _ hr hy hS H;refine⟨fun h=>(by rw [h]at hr;cases hr),fun j hj=>?_⟩;by_cases qf:j=i
  ·subst qf;exact hy.wpOp hi hS ⟨fun e=>absurd e hiL,fun _=>⟨hS,H⟩⟩
  ·have:=ready_mono hj qf
   rw [H.1]at this;cases this
 |succ qe ih=>
  intro qa a w qk qg hr hy hS H;refine⟨fun h=>(by rw [h]at hr;cases hr),fun j hj=>?_⟩;by_cases qf:j=i
  ·subst qf;exact hy.wpOp hi hS ⟨fun e=>absurd e hiL,fun _=>⟨hS,H⟩⟩
  ·have qj:j≠L:=fun e=>by
    rw [e]at hj;have qx:qa.getD m false=false:=by
     rcases Nat.lt_or_ge m qa.size with h'|h'
     ·simp [h']at qk⊢;exact qk
     ·simp [Array.getElem?_eq_none h']
    exact jza1 hL hj (by simpa using qk)
   have qw:j≠m:=fun e=>by
    rw [e]at hj;exact jza1 hm hj (mem_ready.1 hr).1
   have h1:=H.2 j (ready_mono hj qf);obtain⟨qi,oj,qo,qp⟩:=mem_ready.1 hj;have qm:∀e∈oj.after,Region.binds md e=true->e.on≠i:=fun e he hb heq=>by
    have h1:=qp e he hb;have h0:=(mem_ready.1 hr).1;rw [heq]at h1;rcases Nat.lt_or_ge i qa.size with h'|h'
    ·simp [h']at h0 h1;rw [h0]at h1;cases h1
    ·simp [Array.getElem?_eq_none h']at h1
   have h2:=wpOp_putIf qo (qg j oj qo qf qi qm) (fun cs b=>hsel i oi cs b hi) (fun cs b=>hsel j oj cs b qo) hQ hy h1;have qh:∀k ok,ops[k]?=some ok->k≠i->(qa.setIfInBounds j true).getD k true=false->
     (∀e∈ok.after,Region.binds md e=true->e.on≠i)->oi.apart ops ok=true:=fun k ok hk hki hun hno=>by
    refine qg k ok hk hki ?_ hno;by_cases qt:j=k
    ·subst qt;exact qi
    ·rw [getD_set_ne true qt]at hun;exact hun
   have qn:(qa.setIfInBounds j true).getD m true=false:=(by rw [getD_set_ne true qw];exact qk);refine wpOp_mono (fun a' w' h3=>⟨fun e=>absurd e qj,fun _=>⟨(h3.2.2 qj).1,ih (qa.setIfInBounds j true) a' w' qn qh (ready_mono hr (Ne.symm qf)) h3.1 (h3.2.2 qj).1 ?_⟩⟩) h2;rw [Array.setIfInBounds_comm _ _ qf];exact(h3.2.2 qj).2
theorem jzb2{m i:Nat}{oi:Oper}{v:Value}{fuel:Nat}{listed:Array Bool}{a:Act}{w:World}(hi:ops[i]?=some oi)(hL:awaitB md ops L m=true)(hm:awaitB md ops m i=true)(hlm:listed.getD m true=false)(hiL:i≠L)
  (hs:Region.noSelect ops=true) (hf:Region.free md ops listed i=true) (hr:(Region.ready md ops listed).contains i=true)
  (hQ:∀c a w,Q (.panic c) (a.put oi.dst v) w->Q (.panic c) a w) (hy:YieldsIf P ops S oi v a) (hS:S w)
  (h:wpAnyL P md ops Q S L fuel (listed.setIfInBounds i true) (a.put oi.dst v) w):wpAnyL P md ops Q S L (fuel+1) listed a w:=
 jzf1 hL hm hi hiL (Region.noSelect_spec hs) hQ fuel listed a w hlm (Region.free_spec hi hf) (by simpa using hr) hy hS h
end Go.Proofs.YthbmikapohlikaaGreatDoor
