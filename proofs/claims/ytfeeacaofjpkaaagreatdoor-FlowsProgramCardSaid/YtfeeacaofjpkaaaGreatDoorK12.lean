/- Walks, part 12. -/
import Derived.Test.YtfeeacaofjpkaaaGreatDoorK11
set_option linter.unusedVariables false
set_option linter.unusedSimpArgs false
set_option maxRecDepth 100000
set_option maxHeartbeats 8000000
namespace Go.Proofs.YtfeeacaofjpkaaaGreatDoor
open Go.Proofs.Tryz
open Go.RowKit
theorem Tryz.infoRow:(prog.info? 145).map (fun i=>(i.zero,i.size,i.bytes))=some (some (.agg #[zN,bF,zN,zN]),4,80):=by kernel_rfl
theorem Tryz.infoInt:(prog.info? 3).map (fun i=>(i.zero,i.size,i.bytes))=some (some (vI 0),1,8):=by kernel_rfl
def NwR(w:World)(B:Nat)(vr:Value)(l:LQ):Prop:=
 ∃css:List (List Value),css.length=l.length/\(∀cs∈css,cs.length=4)/\w.ownsRow B 145 4 vr l.length css.flatten/\∀i,i<l.length->∃cs,css[i]?=some cs/\RwC w cs zN (Sx.at_ l i)
theorem jzj3{w:World}{B n s:Nat}{e t:TypeId}{v:Value}{xs:List Value}(h:w.ownsRow B e s v n xs)(ht:e≠t):NoT (fun b=>v.ownBlock=some b) w t:=fun _ hb=>bK h hb ht
theorem NwR.push{W w':World}{B:Nat}{vr:Value}{l:LQ}{css:List (List Value)}(h1:css.length=l.length)(h2:∀cs∈css,cs.length=4)(hown:W.ownsRow B 145 4 vr l.length css.flatten)
  (h4:∀i,i<l.length->∃cs,css[i]?=some cs/\RwC W cs zN (Sx.at_ l i)) {neg:Bool} {A} {n c:Nat} {A'} {n' c':Nat} {q:Rat} (hq:aB W neg A n c A' n' c' q) {v':Value}
  (own':w'.ownsRow B 145 4 v' (l.length+1) (css.flatten++[zN,.bool neg,.s A n c,.s A' n' c'])) (grow:W.grownBy w' vr.ownBlock):NwR w' B v' (l++[q]):=by
 have k:FrS (fun b=>vr.ownBlock=some b) W w':=eG grow fun g e=>e;have hn:=jzj3 (t:=196) hown qD;refine⟨css++[[zN,.bool neg,.s A n c,.s A' n' c']],by simp[h1],fun cs hc=>?_,by rw[List.flatten_append,yQ];simpa using own',fun i hi=>?_⟩;{(rcases xY.1 hc with hc|hc);{exact h2 cs hc};rw[xD.1 hc];rfl};by_cases e:i<l.length;{obtain⟨cs,k1,k2⟩:=h4 i e;refine⟨cs,by rw[yR qO];exact k1,?_⟩;have:Sx.at_ (l++[q]) i=Sx.at_ l i:=(by unfold Sx.at_;rw[yR e]);rw[this];exact k.rwc hn k2};rw[yQ]at hi;have hi:i<l.length+1:=hi;have e2:i=l.length:=qO;subst e2;refine⟨_,by rw[yS qO,h1,Nat.sub_self];rfl,?_⟩;have:Sx.at_ (l++[q]) l.length=q:=(by unfold Sx.at_;rw[yS qO,Nat.sub_self];rfl);rw[this];exact⟨neg,A,n,c,A',n',c',rfl,k.ratR hn hq⟩
theorem NwR.fr{S:Nat->Prop}{w w'}{B:Nat}{vr:Value}{l:LQ}(h:NwR w B vr l)(k:FrS S w w')(hn:NoT S w 196)(hr:∀b,vr.ownBlock=some b->¬S b):NwR w' B vr l:=by
 obtain⟨css,h1,h2,h3,h4⟩:=h;refine⟨css,h1,h2,k.own h3 hr,fun i hi=>?_⟩;obtain⟨cs,k1,k2⟩:=h4 i hi;exact⟨cs,k1,k.rwc hn k2⟩
theorem NwR.K{w w'}{B:Nat}{vr:Value}{l:LQ}(h:NwR w B vr l)(hx:Ext w w'):NwR w' B vr l:=h.fr (S:=fun _=>False) (eE hx) (fun b hb=>hb.elim) (fun _ _ hb=>hb)
def lA(vr vb:Value):Array Value:=#[vr,vb,zN,zN,bF,zN,zN,vI 0]
theorem NwR.tab{w}{B p:Nat}{vr vb:Value}{l:LQ}(h:NwR w B vr l)(hB:B<=p)(hb:Blk w p 147 (lA vr vb))(hv:w.ownsRow B 3 1 vb l.length (ints (List.range l.length))):
  aF w B ⟨p,vr,vb,zN,fun _=>zN,l.length⟩ (Sx.newT l):=by
 have qa:∀i,i<l.length->(Sx.newT l).row i=⟨[],Sx.at_ l i⟩:=fun i hi=>(by unfold Sx.newT Sx.Tb.row Sx.at_;show((l.map fun b=>(⟨[],b⟩:Sx.Rw))[i]?).getD _=_;rw[yW,yG hi];rfl);refine⟨by unfold Sx.newT;simp,hB,⟨[zN,bF,zN,zN],⟨false,none,0,0,none,0,0,rfl,eJ w⟩,hb⟩,?_,by unfold Sx.newT;simp,hv,World.ownsRow_nil _ _ _ _,?_,fun i hi=>?_,OQ.nil,fun i k _ _ _=>.inl rfl⟩;{obtain⟨css,h1,h2,h3,h4⟩:=h;refine⟨css,h1,h2,h3,fun i hi=>?_⟩;obtain⟨cs,k1,k2⟩:=h4 i hi;exact⟨cs,k1,by rw[qa i hi];exact k2⟩};{show vb.ownBlock=none\/vb.ownBlock≠none;exact Classical.em _};rw[qa i hi];exact OQ.nil
theorem jzcb(m cb:Nat)PB(bs:LQ)(hbl:bs.length=m)w(hq:QL w PB bs)(hm:m<=1000000):
  Calls prog 71 #[.s PB m cb] w fun e w'=>∃L:aT,e=.returned (.pointer (sA L.p))/\L.m=m/\L.p=w.heap.size/\aF w' w.heap.size L (Sx.newT bs)/\Ext w w':=by
 have HQ:=Hx hq;clear hq;obtain⟨b0,e0⟩:=bA w (lA zN zN) 147;have I0:=Hx (show Blk (w.alloc (.cells (lA zN zN) 147)) w.heap.size 147 (lA zN zN)/\NwR (w.alloc (.cells (lA zN zN) 147)) w.heap.size zN (bs.take 0)/\
   (w.alloc (.cells (lA zN zN) 147)).ownsRow w.heap.size 3 1 zN 0 (ints (List.range 0))/\Ext w (w.alloc (.cells (lA zN zN) 147))from
  ⟨b0,⟨[],qS,(fun _ h=>by cases h),by rw[List.take_zero];exact World.ownsRow_nil _ _ _ _,fun i hi=>by simp at hi⟩,World.ownsRow_nil _ _ _ _,e0⟩)
 clear b0 e0;unfold lA at I0;go_enter func71,ntmps71;go_wp2;go_loopg [4,5,10] m (fun q _ _ it wr=>∃(n:Nat) (vr vb:Value),m-n=q/\n<=m/\it=vI (n:Int)/\Hid (Blk wr w.heap.size 147 #[vr,vb,zN,zN,bF,zN,zN,vI 0]/\NwR wr w.heap.size vr (bs.take n)/\wr.ownsRow w.heap.size 3 1 vb n (ints (List.range n))/\Ext w wr));exact⟨0,_,_,rfl,yZ _,rfl,I0⟩;obtain⟨n,vr,vb,rfl,hn,rfl,I⟩:=hrel;clear I0;by_cases qA:n<m
 ·have nM:(n:Int)<(m:Int):=by omega
  have n0:(0:Int)<=(n:Int):=qO;obtain⟨bq,oq,neg,A,l,c,A',l',c',rfl,qB,i0,i1,i2,hR⟩:=(HQ.o.K I.o.2.2.2).at_ (aO (show n<bs.length by omega));obtain⟨bx,e0⟩:=bA wr #[.bool neg,.s A l c,.s A' l' c'] 33;have W4:=Hx (show Blk (wr.alloc (.cells #[.bool neg,.s A l c,.s A' l' c'] 33)) w.heap.size 147 #[vr,vb,zN,zN,bF,zN,zN,vI 0]/\NwR (wr.alloc (.cells #[.bool neg,.s A l c,.s A' l' c'] 33)) w.heap.size vr (bs.take n)/\
    (wr.alloc (.cells #[.bool neg,.s A l c,.s A' l' c'] 33)).ownsRow w.heap.size 3 1 vb n (ints (List.range n))/\Ext w (wr.alloc (.cells #[.bool neg,.s A l c,.s A' l' c'] 33))/\aB (wr.alloc (.cells #[.bool neg,.s A l c,.s A' l' c'] 33)) neg A l c A' l' c' (Sx.at_ bs n)from
   ⟨I.o.1.K e0,I.o.2.1.K e0,(eE (S:=fun _=>False) e0).own I.o.2.2.1 (fun _ _ h=>h),I.o.2.2.2.tr e0,hR.K e0⟩)
  have BX:=Hx bx;clear hR e0 bx I;(go_upto_region 5 with fail);(have qw:(wr.alloc (.cells #[.bool neg,.s A l c,.s A' l' c'] 33)).heap.size=wr.heap.size+1:=qS;generalize wr.alloc (.cells #[.bool neg,.s A l c,.s A' l' c'] 33)=W at*;generalize wr.heap.size=gx at*;have HSW:Hid (W.drew.cell? (aD w.heap.size 0)=some vr/\W.drew.cell? (aD gx 0)=some (.bool neg)/\W.drew.cell? (aD gx 1)=some (.s A l c)/\W.drew.cell? (aD gx 2)=some (.s A' l' c')):=Hx (⟨W4.o.1.cell 0,BX.o.cell 0,BX.o.cell 1,BX.o.cell 2⟩);refine wp_region_last (fun w'=>w'.cell? (aD w.heap.size 0)=some vr/\w'.cell? (aD gx 0)=some (.bool neg)/\w'.cell? (aD gx 1)=some (.s A l c)/\w'.cell? (aD gx 2)=some (.s A' l' c')) 11 qK ?_;refine wP 0 rfl HSW.o ?_;try simp only[qN]);refine wP 1 rfl HSW.o ?_;refine wP 2 rfl HSW.o ?_;refine wP 3 rfl HSW.o ?_;refine wV 4 rfl HSW.o ?_;(refine wV 5 rfl HSW.o ?_;try simp only[qN]);refine wP 6 rfl HSW.o ?_;try simp only[qN]
  refine wC 7 rfl (fun KK hK=>?_);go_simp;have XB:Hid (Ext W (W.alloc (.cells #[zN,.bool neg,.s A l c,.s A' l' c'] 145)).drew):=Hx (((eR W).alloc _).drewN 1);have qj:=Hx (show(W.alloc (.cells #[zN,.bool neg,.s A l c,.s A' l' c'] 145)).drew.cell? (aD w.heap.size 0)=some vr/\(W.alloc (.cells #[zN,.bool neg,.s A l c,.s A' l' c'] 145)).drew.cell? (aD gx 0)=some (.bool neg)/\(W.alloc (.cells #[zN,.bool neg,.s A l c,.s A' l' c'] 145)).drew.cell? (aD gx 1)=some (.s A l c)/\(W.alloc (.cells #[zN,.bool neg,.s A l c,.s A' l' c'] 145)).drew.cell? (aD gx 2)=some (.s A' l' c')from
   ⟨(W4.o.1.K XB.o).cell 0,(BX.o.K XB.o).cell 0,(BX.o.K XB.o).cell 1,(BX.o.K XB.o).cell 2⟩)
  refine hK.o _ _ qj.o ?_;clear hK KK HSW;have HSW:=qj;have BW:Hid (Blk (W.alloc (.cells #[zN,.bool neg,.s A l c,.s A' l' c'] 145)).drew (gx+1) 145 #[zN,.bool neg,.s A l c,.s A' l' c']):=Hx (by rw[<-qw];exact eN W _ _);clear qj;generalize (W.alloc (.cells #[zN,.bool neg,.s A l c,.s A' l' c'] 145)).drew=W6 at*;obtain⟨css,h1,h2,qa,h4⟩:=W4.o.2.1.K XB.o;rw[xF,kZh qO]at h1 qa h4;refine wC 8 rfl (fun KK hK=>?_);refine fO W6 143 145 _ 4 80 _ _ rfl underlying143 Tryz.infoRow rfl qD w.heap.size vr n css.flatten qR qa [zN,.bool neg,.s A l c,.s A' l' c'] rfl (by simp[Value.oneCell']) (gx+1) qR BW.o (by unfold maxLen;omega) qO (by have:=(W4.o.2.2.2.1.tr XB.o).size;omega) ?_;intro g7 c7 w7 qk qf qp;have k7:Hid (FrS (fun x=>vr.ownBlock=some x) W6 w7):=Hx (eG qf fun g e=>e);have NP:Hid (¬vr.ownBlock=some w.heap.size):=Hx (fun e=>bK qa e (t:=147) qD _ _ (W4.o.1.K XB.o));have NX:Hid (¬vr.ownBlock=some gx):=Hx (fun e=>bK qa e (t:=33) qD _ _ (BX.o.K XB.o));have qh:=Hx (show w7.cell? (aD w.heap.size 0)=some vr/\w7.cell? (aD gx 0)=some (.bool neg)/\w7.cell? (aD gx 1)=some (.s A l c)/\w7.cell? (aD gx 2)=some (.s A' l' c')from
   ⟨(k7.o.blk (W4.o.1.K XB.o) NP.o).cell 0,(k7.o.blk (BX.o.K XB.o) NX.o).cell 0,(k7.o.blk (BX.o.K XB.o) NX.o).cell 1,(k7.o.blk (BX.o.K XB.o) NX.o).cell 2⟩)
  have NW:Hid (NwR w7 w.heap.size (.s (sA g7) (n+1) c7) (bs.take (n+1))):=Hx (by have h5:=NwR.push (l:=bs.take n) (by rw[xF,kZh qO];exact h1) h2 (by rw[xF,kZh qO];exact qa) (fun i hi=>h4 i (by rw[xF]at hi;omega)) (W4.o.2.2.2.2.K XB.o) (v':=.s (sA g7) (n+1) c7) (by rw[xF,kZh qO];exact qk) qf;rw[show bs.take (n+1)=bs.take n++[Sx.at_ bs n] by rw[kQr,aO (show n<bs.length by omega)];rfl];exact h5);have VB:Hid (w7.ownsRow w.heap.size 3 1 vb n (ints (List.range n))):=Hx (k7.o.own ((eE (S:=fun _=>False) XB.o).own W4.o.2.2.1 (fun _ _ h=>h)) fun x hx hr=>by obtain⟨qn,qe⟩:=aW ((eE (S:=fun _=>False) XB.o).own W4.o.2.2.1 (fun _ _ h=>h)) hx;exact bK qa hr (t:=3) qD _ _ qe);(have BP:=Hx (k7.o.blk (W4.o.1.K XB.o) NP.o);have EW:Hid (Ext w w7):=Hx (k7.o.ext (W4.o.2.2.2.1.tr XB.o) fun x hx=>(qa.lt x hx).1);refine hK.o _ _ qh.o ?_;clear hK KK HSW qk qf qa h1 h2 h4;have HSW:=qh;try simp only[qN]);(have z0:w7.frozen? (aD w.heap.size 0)=false:=BP.o.frozen _;have t0:w7.cell? (aD w.heap.size 0)=some vr:=BP.o.cell 0;refine wP 9 rfl HSW.o ?_;try simp only[qN]);refine wP 10 rfl HSW.o ?_;try simp only[qN]
  refine aY qK rfl qR (fun KK hK=>?_);go_simp;refine hK.o _ _ ?_;clear hK KK HSW qh;refine wpAny_done qK ?_ _;have k8:Hid (FrS (fun x=>x=w.heap.size) w7 (w7.setCell (aD w.heap.size 0) (.s (sA g7) (n+1) c7))):=Hx (eG (aM w7 w.heap.size 0 _) fun g e=>by injection e with e;exact e.symm);have np:NoT (fun x=>x=w.heap.size) w7 196:=NoT.one BP.o qD;have I8:=Hx (show Blk (w7.setCell (aD w.heap.size 0) (.s (sA g7) (n+1) c7)) w.heap.size 147 #[.s (sA g7) (n+1) c7,vb,zN,zN,bF,zN,zN,vI 0]/\
    NwR (w7.setCell (aD w.heap.size 0) (.s (sA g7) (n+1) c7)) w.heap.size (.s (sA g7) (n+1) c7) (bs.take (n+1))/\
    (w7.setCell (aD w.heap.size 0) (.s (sA g7) (n+1) c7)).ownsRow w.heap.size 3 1 vb n (ints (List.range n))/\Ext w (w7.setCell (aD w.heap.size 0) (.s (sA g7) (n+1) c7))from
   ⟨BP.o.sT 0 _,NW.o.fr k8.o np (fun x hx e=>by
    obtain⟨qm,_,_,h9,_⟩:=NW.o;obtain⟨qn,qe⟩:=aW h9 hx;rw[e]at qe;exact absurd (aZ qe BP.o).2 qD),k8.o.own VB.o (fun x hx e=>by
    obtain⟨qn,qe⟩:=aW VB.o hx;rw[e]at qe;exact absurd (aZ qe BP.o).2 qD),k8.o.ext EW.o (fun x e=>by rw[e];exact yX _)⟩)
  clear z0 t0 np k8 k7 NP NX NW VB BP EW W4 BX BW XB css qp qw;generalize w7.setCell (aD w.heap.size 0) (.s (sA g7) (n+1) c7)=W8 at*;have p1:W8.cell? (aD w.heap.size 1)=some vb:=I8.o.1.cell 1;have qx:w.heap.size<W8.heap.size:=I8.o.1.lt;have XC:=Hx ((eR W8).alloc (.cells #[vI (n:Int)] 3));have BC:=Hx (eN W8 3 #[vI (n:Int)]);have VB:=Hx ((eE (S:=fun _=>False) XC.o).own I8.o.2.2.1 (fun _ _ h=>h));(go_wp2_with (at_builtin;refine kZ _ 42 3 _ 1 8 rfl _ _ rfl underlying42 Tryz.infoInt rfl qD w.heap.size vb n (ints (List.range n)) rfl VB.o [vI (n:Int)] rfl (by simp[Value.oneCell']) W8.heap.size rfl BC.o (by unfold maxLen;omega) qO (by have:=XC.o.size;omega) ?_));intro g9 c9 w9 qi qg qt;have k9:Hid (FrS (fun x=>vb.ownBlock=some x) (W8.alloc (.cells #[vI (n:Int)] 3)) w9):=Hx (eG qg fun g e=>e);have NP:Hid (¬vb.ownBlock=some w.heap.size):=Hx (fun e=>bK VB.o e (t:=147) qD _ _ (I8.o.1.K XC.o));have BP:=Hx (k9.o.blk (I8.o.1.K XC.o) NP.o);have F:Hid (NwR w9 w.heap.size (.s (sA g7) (n+1) c7) (bs.take (n+1))/\Ext w w9):=Hx (⟨(I8.o.2.1.K XC.o).fr k9.o (fun b hb=>bK VB.o hb qD) (fun x hx hr=>by obtain⟨qm,_,_,h9,_⟩:=I8.o.2.1.K XC.o;obtain⟨qn,qe⟩:=aW h9 hx;exact bK VB.o hr (t:=145) qD _ _ qe),k9.o.ext (I8.o.2.2.2.tr XC.o) fun x hx=>(VB.o.lt x hx).1⟩)
  have qo:Hid (FrS (fun x=>x=w.heap.size) w9 (w9.setCell (aD w.heap.size 1) (.s (sA g9) (n+1) c9))):=Hx (eG (aM w9 w.heap.size 1 _) fun g e=>by injection e with e;exact e.symm);have qy:=Hx (show Blk (w9.setCell (aD w.heap.size 1) (.s (sA g9) (n+1) c9)) w.heap.size 147 #[.s (sA g7) (n+1) c7,.s (sA g9) (n+1) c9,zN,zN,bF,zN,zN,vI 0]/\
    NwR (w9.setCell (aD w.heap.size 1) (.s (sA g9) (n+1) c9)) w.heap.size (.s (sA g7) (n+1) c7) (bs.take (n+1))/\
    (w9.setCell (aD w.heap.size 1) (.s (sA g9) (n+1) c9)).ownsRow w.heap.size 3 1 (.s (sA g9) (n+1) c9) (n+1) (ints (List.range (n+1)))/\Ext w (w9.setCell (aD w.heap.size 1) (.s (sA g9) (n+1) c9))from
   ⟨BP.o.sT 1 _,F.o.1.fr qo.o (NoT.one BP.o qD) (fun x hx e=>by
    obtain⟨qm,_,_,h9,_⟩:=F.o.1;obtain⟨qn,qe⟩:=aW h9 hx;rw[e]at qe;exact absurd (aZ qe BP.o).2 qD),by
    rw[kZc,kU];exact qo.o.own qi (fun x hx e=>by
     obtain⟨qn,qe⟩:=aW qi hx;rw[e]at qe;exact absurd (aZ qe BP.o).2 qD),qo.o.ext F.o.2 (fun x e=>by rw[e];exact yX _)⟩)
  have z1:w9.frozen? (aD w.heap.size 1)=false:=BP.o.frozen _;have t1:w9.cell? (aD w.heap.size 1)=some vb:=BP.o.cell 1;clear qi qg qt k9 NP BP F qo VB BC XC I8 p1 qx;go_wp2;go_roundg (m-(n+1));exact⟨n+1,_,_,rfl,qO,by go_num,qy⟩;omega
 obtain rfl:n=m:=qO;have qz:Hid (aF wr w.heap.size ⟨w.heap.size,vr,vb,zN,fun _=>zN,n⟩ (Sx.newT bs)):=Hx (by have h1:=I.o.2.1;rw[yU qO]at h1;have h2:=I.o.2.2.1;have h3:=h1.tab (yX _) I.o.1 (by rw[hbl];exact h2);rw[hbl]at h3;exact h3);have EX:=Hx I.o.2.2.2;clear I;go_wp2;go_ret;exact⟨⟨w.heap.size,vr,vb,zN,fun _=>zN,n⟩,rfl,rfl,rfl,qz.o,EX.o⟩
def aT.setV(L:aT)(k:Nat)(v:Value):aT:=⟨L.p,L.vr,L.vb,L.vf,fun i=>if i=k then v else L.V i,L.m⟩
def aT.setF(L:aT)(v:Value):aT:=⟨L.p,L.vr,L.vb,v,L.V,L.m⟩
def fQ(T:Sx.Tb)(c:Nat):Sx.Tb:=⟨T.rows,T.bas,T.fre,T.goal,c⟩
section
variable {w w':World} {B:Nat} {L:aT} {T:Sx.Tb}
theorem aT.setV_same(L:aT)(k:Nat)(v:Value):(L.setV k v).V k=v:=qE rfl
theorem aT.setV_ne(L:aT){i k:Nat}(v:Value)(h:i≠k):(L.setV k v).V i=L.V i:=qF h
theorem jzcc(h:aF w B L T){k g' n c':Nat}(hk:k<=L.m)(hg:some g'=(L.V k).ownBlock\/w.heap.size<=g'):∀i j,i<=L.m->j<=L.m->i≠j->((L.setV k (.s (sA g') n c')).V i).ownBlock=none\/((L.setV k (.s (sA g') n c')).V i).ownBlock≠((L.setV k (.s (sA g') n c')).V j).ownBlock:=by
 have qe:∀j,j<=L.m->j≠k->some g'≠(L.V j).ownBlock:=fun j hj hne e=>(by (rcases hg with h1|h1);{(rcases h.sep j k hj hk hne with h2|h2);{rw[h2]at e;cases e};exact h2 (e.symm.trans h1)};obtain⟨qs,h2⟩:=h.oq hj;obtain⟨xs,h3⟩:=h2.own;have:=(h3.lt g' e.symm).2;omega);intro i j hi hj qa;by_cases e1:i=k;{subst e1;rw[L.setV_same,L.setV_ne _ (fun e=>qa e.symm)];exact .inr (qe j hj fun e=>qa e.symm)};rw[L.setV_ne _ e1];by_cases e2:j=k;{subst e2;rw[L.setV_same];exact .inr fun e=>qe i hi e1 e.symm};rw[L.setV_ne _ e2];exact h.sep i j hi hj qa
theorem aF.row_push(h:aF w B L T){k:Nat}(hk:k<L.m){g cr g' n c':Nat}{cs:Array Value}{X':LQ}(hvr:L.vr=.s (sA g) L.m cr)(hb:Blk w g 145 cs)
  (hb':Blk w' g 145 (cs.setIfInBounds (k*4) (.s (sA g') n c'))) (ho:OQ QR 33 w' B (.s (sA g') n c') X') (hf:FrS (fun x=>x=g\/(L.V k).ownBlock=some x) w w') (hg:some g'=(L.V k).ownBlock\/w.heap.size<=g'):
  aF w' B (L.setV k (.s (sA g') n c')) (cG T k ⟨X',(T.row k).re⟩):=by
 obtain⟨qw,qh⟩:=(h.co k hk).own;have qk:∀t,145≠t->33≠t->NoT (fun x=>x=g\/(L.V k).ownBlock=some x) w t:=fun t h1 h2 b hbb c fr e=>(by (rcases hbb with rfl|hbb);{exact NoT.one hb h1 b rfl c fr e};exact bK qh hbb h2 c fr e);have qa:=qk 196 qD qD;have far:∀{t:TypeId} {b:Nat} {c:Array Value},Blk w b t c->t≠145->t≠33->¬(b=g\/(L.V k).ownBlock=some b):=fun hbb h1 h2 e=>(by (rcases e with rfl|e);{exact h1 (aZ hbb hb).2};exact bK qh e (fun e2=>h2 e2.symm) _ _ hbb);have qj:∀i,i<=L.m->i≠k->∀qs,OQ QR 33 w B (L.V i) qs->OQ QR 33 w' B (L.V i) qs:=fun i hi hne qs hq=>hf.oq qa hq fun b hbb e=>(by (obtain⟨xs,h1⟩:=hq.own;obtain⟨c,h2⟩:=aW h1 hbb;rcases e with rfl|e);{have:=(aZ h2 hb).2;exact absurd this qD};(rcases h.sep i k hi (kQe hk) hne with h3|h3);{rw[h3]at hbb;cases hbb};exact h3 (by rw[hbb,e]));have qf:k<T.rows.length:=(by rw[h.rl];exact hk);have qo:(cG T k ⟨X',(T.row k).re⟩).rows.length=L.m:=(by show(T.rows.set k _).length=_;rw[yV];exact h.rl);refine⟨qo,h.lo,?_,?_,h.bl,?_,?_,h.bf,fun i hi=>?_,?_,jzcc h (kQe hk) hg⟩;{obtain⟨gs,h1,h2⟩:=h.box;refine⟨gs,?_,hf.blk h2 (far h2 qD qD)⟩;show RwC w' gs ((L.setV k _).V L.m) _;rw[L.setV_ne _ qO];exact hf.rwc qa h1};{obtain⟨css,h1,h2,h3,h4⟩:=h.rows;obtain⟨c0,k1,k2⟩:=h4 k hk;obtain⟨neg,A,n0,c,A',qy,qx,rfl,rr⟩:=k2;obtain⟨cb,qp,nr,R1,m1,d1,qi,qg,qe,r0,r1,r2,r3,qm⟩:=h.rwa hk hvr;obtain⟨qn,_⟩:=aZ hb qp;rw[<-qn]at r0 r1 r2 r3;have qt:k*4+3<cs.size:=(kZn.1 r3).1;refine⟨css.set k [.s (sA g') n c',.bool nr,.s R1 m1 d1,.s qi qg qe],by rw[yV];exact h1,fun c hc=>?_,?_,fun i hi=>?_⟩;{(rcases xE hc with h5|h5);{exact h2 c h5};rw[h5];rfl};{show w'.ownsRow B 145 4 L.vr L.m _;rw[hvr]at h3⊢;refine jzb0 h3 h1 h2 hk hb hb' qS rfl (fun j hj=>?_) fun i hi=>?_;{(rcases(show j=0\/j=1\/j=2\/j=3 by omega)with rfl|rfl|rfl|rfl);{show(cs.setIfInBounds (k*4) _)[k*4]?=_;rw[kQ0 qO];rfl};{rw[xH qO];exact r1};{rw[xH qO];exact r2};rw[xH qO];exact r3};rw[xH qO]};rw[nW T _ i qf];by_cases e:i=k;{subst e;refine⟨_,yM qO,?_⟩;rw[qE rfl,L.setV_same];exact⟨nr,R1,m1,d1,qi,qg,qe,rfl,hf.ratR qa qm⟩};obtain⟨c,h5,h6⟩:=h4 i hi;refine⟨c,by rw[vN (fun e2=>e e2.symm)];exact h5,?_⟩;rw[qF e,L.setV_ne _ e];exact hf.rwc qa h6};{refine hf.own h.bas fun b hbb=>?_;obtain⟨c,h1⟩:=aW h.bas hbb;exact far h1 qD qD};{refine hf.own h.fre fun b hbb=>?_;obtain⟨c,h1⟩:=aW h.fre hbb;exact far h1 qD qD};{rw[nW T _ i qf];by_cases e:i=k;{subst e;rw[qE rfl,L.setV_same];exact ho};rw[qF e,L.setV_ne _ e];exact qj i (kQe hi) e _ (h.co i hi)};show OQ QR 33 w' B ((L.setV k _).V L.m) T.goal.co;rw[L.setV_ne _ qO];exact qj L.m (yX _) qO _ h.go
theorem aF.goal_push(h:aF w B L T){g' n c':Nat}{cs:Array Value}{X':LQ}(hb:Blk w L.p 147 cs)
  (hb':Blk w' L.p 147 (cs.setIfInBounds 3 (.s (sA g') n c'))) (ho:OQ QR 33 w' B (.s (sA g') n c') X') (hf:FrS (fun x=>x=L.p\/(L.V L.m).ownBlock=some x) w w') (hg:some g'=(L.V L.m).ownBlock\/w.heap.size<=g'):
  aF w' B (L.setV L.m (.s (sA g') n c')) (fP T ⟨X',T.goal.re⟩):=by
 obtain⟨qj,qg⟩:=h.go.own;have qa:NoT (fun x=>x=L.p\/(L.V L.m).ownBlock=some x) w 196:=fun b hbb c fr e=>(by (rcases hbb with rfl|hbb);{exact NoT.one hb qD _ rfl c fr e};exact bK qg hbb qD c fr e);have far:∀{t:TypeId} {b:Nat} {c:Array Value},Blk w b t c->t≠147->t≠33->¬(b=L.p\/(L.V L.m).ownBlock=some b):=fun hbb h1 h2 e=>(by (rcases e with rfl|e);{exact h1 (aZ hbb hb).2};exact bK qg e (fun e2=>h2 e2.symm) _ _ hbb);refine⟨h.rl,h.lo,?_,?_,h.bl,?_,?_,h.bf,fun i hi=>?_,?_,jzcc h (yX _) hg⟩;{obtain⟨gs,h1,h2⟩:=h.box;obtain⟨e1,_⟩:=aZ hb h2;obtain⟨n0,A0,m0,d0,qf,qh,qe,rfl,rr⟩:=h1;refine⟨[.s (sA g') n c',.bool n0,.s A0 m0 d0,.s qf qh qe],?_,?_⟩;{show RwC w' _ ((L.setV L.m _).V L.m) _;rw[L.setV_same];exact⟨n0,A0,m0,d0,qf,qh,qe,rfl,hf.ratR qa rr⟩};rw[e1]at hb';exact hb'};{obtain⟨css,h1,h2,h3,h4⟩:=h.rows;refine⟨css,h1,h2,hf.own h3 fun b hbb=>?_,fun i hi=>?_⟩;{obtain⟨c,h5⟩:=aW h3 hbb;exact far h5 qD qD};obtain⟨c,h5,h6⟩:=h4 i hi;have qi:i<L.m:=hi;exact⟨c,h5,by rw[L.setV_ne _ qO];exact hf.rwc qa h6⟩};{refine hf.own h.bas fun b hbb=>?_;obtain⟨c,h1⟩:=aW h.bas hbb;exact far h1 qD qD};{refine hf.own h.fre fun b hbb=>?_;obtain⟨c,h1⟩:=aW h.fre hbb;exact far h1 qD qD};{have qi:i<L.m:=hi;(rw[L.setV_ne _ qO];refine hf.oq qa (h.co i hi) fun b hbb e=>?_;obtain⟨xs,h1⟩:=(h.co i hi).own;obtain⟨c,h2⟩:=aW h1 hbb;rcases e with rfl|e);{have:=(aZ h2 hb).2;exact absurd this qD};(rcases h.sep i L.m (kQe hi) (yX _) qO with h3|h3);{rw[h3]at hbb;cases hbb};exact h3 (by rw[hbb,e])};show OQ QR 33 w' B ((L.setV L.m _).V L.m) X';rw[L.setV_same];exact ho
theorem aF.box_set(h:aF w B L T){k:Nat}{u:Value}(hk:k=7\/k=2):FrS (fun b=>b=L.p) w (w.setCell (aD L.p k) u)/\NoT (fun b=>b=L.p) w 196/\(∀{b:Nat} {t:TypeId} {cs:Array Value},Blk w b t cs->t≠147->¬b=L.p):=by
 obtain⟨gs,_,h2⟩:=h.box;exact⟨eG (aM w L.p k u) fun g e=>by injection e with e;exact e.symm,NoT.one h2 qD,fun hb ht e=>by rw[e]at hb;exact ht (aZ hb h2).2⟩
theorem aF.cols_set(h:aF w B L T)(c:Nat):aF (w.setCell (aD L.p 7) (vI (c:Int))) B L (fQ T c)/\FrS L.S w (w.setCell (aD L.p 7) (vI (c:Int))):=by
 obtain⟨hf,qa,far⟩:=h.box_set (k:=7) (u:=vI (c:Int)) (.inl rfl);refine⟨⟨h.rl,h.lo,?_,?_,h.bl,hf.own h.bas fun b hb=>?_,hf.own h.fre fun b hb=>?_,h.bf,fun i hi=>hf.oq qa (h.co i hi) fun b hb=>?_,hf.oq qa h.go fun b hb=>?_,h.sep⟩,hf.mono fun b hb=>.inl hb⟩;{obtain⟨gs,h1,h2⟩:=h.box;obtain⟨n0,A0,m0,d0,qf,qg,qe,rfl,rr⟩:=h1;exact⟨_,⟨n0,A0,m0,d0,qf,qg,qe,rfl,hf.ratR qa rr⟩,h2.sT 7 _⟩};{obtain⟨css,h1,h2,h3,h4⟩:=h.rows;refine⟨css,h1,h2,hf.own h3 fun b hb=>?_,fun i hi=>?_⟩;{obtain⟨c,h5⟩:=aW h3 hb;exact far h5 qD};obtain⟨c,h5,h6⟩:=h4 i hi;exact⟨c,h5,hf.rwc qa h6⟩};{obtain⟨c,h1⟩:=aW h.bas hb;exact far h1 qD};{obtain⟨c,h1⟩:=aW h.fre hb;exact far h1 qD};{obtain⟨xs,h1⟩:=(h.co i hi).own;obtain⟨c,h2⟩:=aW h1 hb;exact far h2 qD};obtain⟨xs,h1⟩:=h.go.own;obtain⟨c,h2⟩:=aW h1 hb;exact far h2 qD
end
def aQ(m:Nat)(ts:List (Nat×Rat)):LQ:=ts.foldl (fun v t=>v.set t.1 t.2) (List.replicate m 0)
theorem kI(m:Nat)(ts:List (Nat×Rat)):(aQ m ts).length=m:=by
 have qa:∀(ts:List (Nat×Rat)) (v:LQ),(ts.foldl (fun v t=>v.set t.1 t.2) v).length=v.length:=fun ts=>(by (induction ts with|nil=>intro v;rfl|cons t ts ih=>intro v;show(ts.foldl _ (v.set t.1 t.2)).length=_;rw[ih,yV]));unfold aQ;rw[qa,xC]
def dM(T:Sx.Tb)(vals:LQ)(n:Nat):Sx.Tb:=
 ⟨(List.range T.rows.length).map fun i=>if i<n then Sx.addR T vals (T.row i) (if Sx.atN T.bas i<vals.length then Sx.at_ vals (Sx.atN T.bas i)else 0)else T.row i,T.bas,T.fre,T.goal,T.cols+1⟩
theorem jzj4(T:Sx.Tb)(vals:LQ)(n:Nat){i:Nat}(hi:i<T.rows.length):(dM T vals n).row i=if i<n then Sx.addR T vals (T.row i) (if Sx.atN T.bas i<vals.length then Sx.at_ vals (Sx.atN T.bas i)else 0)else T.row i:=by
 unfold dM;show((List.range T.rows.length).map _)[i]?.getD _=_;rw[yW,xJ hi];rfl
theorem jzj5(T:Sx.Tb){n:Nat}(hn:n<T.rows.length):T.rows[n]?=some (T.row n):=by
 unfold Sx.Tb.row;rw[yG hn];rfl
theorem jzj6(T:Sx.Tb)(vals:LQ):dM T vals 0=fQ T (T.cols+1):=by
 unfold dM fQ;congr 1;apply uK;intro n;by_cases hn:n<T.rows.length;{rw[yW,xJ hn,jzj5 T hn];simp};rw[yI (by simp;omega),yI qO]
theorem jzj7(T:Sx.Tb)(vals:LQ){n:Nat}(hn:n<T.rows.length):dM T vals (n+1)=cG (dM T vals n) n (Sx.addR T vals (T.row n) (if Sx.atN T.bas n<vals.length then Sx.at_ vals (Sx.atN T.bas n)else 0)):=by
 unfold dM cG;congr 1;apply uK;intro k;by_cases hk:k<T.rows.length;{rw[yW,xJ hk];by_cases e:n=k;{subst e;rw[yM (by simp;omega)];simp};rw[vN e,yW,xJ hk];have:(k<n+1↔k<n):=qO;simp only[kQ9];by_cases h:k<n;{rw[qE (this.2 h),qE h]};rw[qF (fun h2=>h (this.1 h2)),qF h]};rw[yI (by simp;omega),yI (by simp;omega)]
theorem jzj8(T:Sx.Tb)(vals:LQ):(dM T vals T.rows.length).rows=(List.range T.rows.length).map (fun i=>Sx.addR T vals (T.row i) (if Sx.atN T.bas i<vals.length then Sx.at_ vals (Sx.atN T.bas i)else 0)):=by
 unfold dM;refine List.map_congr_left fun i hi=>?_;rw[qE (vX.1 hi)]
def cH(T:Sx.Tb)(i j k:Nat):Sx.Tb:=
 ⟨(List.range T.rows.length).map (fun n=>if n=i then Sx.sclR (T.row i) j else if n<k then Sx.subR (T.row n) j (Sx.sclR (T.row i) j)else T.row n),T.bas.set i (Sx.atN T.fre j),T.fre.set j (Sx.atN T.bas i),T.goal,T.cols⟩
theorem jzj9(T:Sx.Tb){n:Nat}(hn:n<T.rows.length):T.rows[n]?=some (T.row n):=by
 unfold Sx.Tb.row;rw[yG hn];rfl
theorem uP(T:Sx.Tb)(i j k:Nat){n:Nat}(hn:n<T.rows.length):(cH T i j k).row n=if n=i then Sx.sclR (T.row i) j else if n<k then Sx.subR (T.row n) j (Sx.sclR (T.row i) j)else T.row n:=by
 unfold cH;show((List.range T.rows.length).map _)[n]?.getD _=_;rw[yW,xJ hn];rfl
theorem jzka(T:Sx.Tb)(i j:Nat)(hi:i<T.rows.length):cH T i j 0=uE (rA (cG T i (Sx.sclR (T.row i) j)) (T.bas.set i (Sx.atN T.fre j))) (T.fre.set j (Sx.atN T.bas i)):=by
 unfold cH uE rA cG;congr 1;apply uK;intro n;by_cases hn:n<T.rows.length;{rw[yW,xJ hn];simp only[kQ9,Nat.not_lt_zero,if_false];by_cases e:n=i;{subst e;rw[qE rfl,yM hn]};rw[qF e,vN (fun e2=>e e2.symm),jzj9 T hn]};rw[yI (by simp;omega),yI (by rw[yV];omega)]
theorem jzkb(T:Sx.Tb)(i j:Nat):cH T i j (i+1)=cH T i j i:=by
 unfold cH;congr 1;apply List.map_congr_left;intro n _;by_cases e:n=i;{rw[qE e,qE e]};rw[qF e,qF e];have:(n<i+1↔n<i):=qO;by_cases h:n<i;{rw[qE (this.2 h),qE h]};rw[qF (fun h2=>h (this.1 h2)),qF h]
theorem jzkc(T:Sx.Tb)(i j:Nat){k:Nat}(hk:k<T.rows.length)(hki:k≠i):cH T i j (k+1)=cG (cH T i j k) k (Sx.subR (T.row k) j (Sx.sclR (T.row i) j)):=by
 unfold cH cG;simp only[];congr 1;apply uK;intro n;by_cases hn:n<T.rows.length;{by_cases e:n=k;{subst e;rw[yM (by simpa using hn),yW,xJ hn];simp only[kQ9];rw[qF hki,qE qO]};rw[vN (fun e2=>e e2.symm),yW,yW,xJ hn];simp only[kQ9];have:(n<k+1↔n<k):=qO;by_cases h:n<k;{rw[qE (this.2 h),qE h]};rw[qF (fun h2=>h (this.1 h2)),qF h]};rw[yI (by simp;omega),yI (by simp;omega)]
theorem jzkd(T:Sx.Tb)(i j:Nat):fP (cH T i j T.rows.length) (Sx.subR T.goal j (Sx.sclR (T.row i) j))=Sx.pivT T i j:=by
 unfold cH fP Sx.pivT;simp only[];congr 1;apply List.map_congr_left;intro n hn;have:=vX.1 hn;by_cases e:n=i;{rw[qE e,qE e]};rw[qF e,qF e,qE this]
theorem jzke w(B:Nat)(L:aT)(T:Sx.Tb)(h:aF w B L T)(k i j K P g cr gv cv:Nat)(hk:k<L.m)(hi:i<L.m)(hki:k≠i)(hj:j<K)(hK:K<=1000000000000)(hP:P<=1000000)
  (hvr:L.vr=.s (sA g) L.m cr) (hV:L.V i=.s (sA gv) K cv) (hck:(T.row k).co.length=K) (hci:(T.row i).co.length=K)
  (s1:∀q∈(T.row k).co,SzQ q P) (s2:SzQ (T.row k).re P) (s3:∀q∈(T.row i).co,SzQ q P) (s4:SzQ (T.row i).re P)
  (ni:Bool) AI (li ci:Nat) AI' (li' ci':Nat) (ra:aB w ni AI li ci AI' li' ci' (T.row i).re):
  Calls prog 151 #[.pointer (some (aD g (k*4))),vI (j:Int),.agg #[.s (sA gv) K cv,.bool ni,.s AI li ci,.s AI' li' ci']] w
   (fun e w'=>e=.returned (.tuple #[])/\aF w' B L (cG T k (Sx.subR (T.row k) j (T.row i)))/\FrS L.S w w'):=by
 have hX:=h.co k hk;have hY:=h.co i hi;rw[hV]at hY;obtain⟨qg,qj,qa,_,_⟩:=hX.form (by rw[hck];omega);rw[hck]at qa;obtain⟨cs,qi,qe⟩:=h.rwa hk hvr;have qf:qg≠gv:=fun e=>(by (rcases h.sep k i (kQe hk) (kQe hi) hki with h1|h1);{rw[qa]at h1;cases h1};exact h1 (by rw[qa,hV,e];rfl));have qh:=hX;rw[qa]at qh qe;refine(jzbz B B g (k*4) 145 cs qg K qj gv cv j P (T.row k).co (T.row i).co (T.row k).re (T.row i).re ni AI li ci AI' li' ci' w qi qe qh hck hY hci ra qf qD qD hj hK hP s1 s2 s3 s4).mono ?_;rintro e w' ⟨rfl,qk,c1,c2,c3,c4,c5⟩;refine⟨rfl,?_,c5.mono fun b hb=>by (rcases hb with rfl|rfl);{exact .inr (.inl (by rw[hvr];rfl))};exact .inr (.inr (.inr (.inr ⟨k,kQe hk,by rw[qa];rfl⟩)))⟩;rw[<-qa]at c3 c4;exact h.row_upd hk hvr qa qi c1 c2 c3 c4 c5
theorem jzkf w(B:Nat)(L:aT)(T:Sx.Tb)(h:aF w B L T)(i j K P g cr gv cv:Nat)(hi:i<L.m)(hj:j<K)(hK:K<=1000000000000)(hP:P<=1000000)
  (hvr:L.vr=.s (sA g) L.m cr) (hV:L.V i=.s (sA gv) K cv) (hck:T.goal.co.length=K) (hci:(T.row i).co.length=K)
  (s1:∀q∈T.goal.co,SzQ q P) (s2:SzQ T.goal.re P) (s3:∀q∈(T.row i).co,SzQ q P) (s4:SzQ (T.row i).re P)
  (ni:Bool) AI (li ci:Nat) AI' (li' ci':Nat) (ra:aB w ni AI li ci AI' li' ci' (T.row i).re):
  Calls prog 151 #[.pointer (some (aD L.p 3)),vI (j:Int),.agg #[.s (sA gv) K cv,.bool ni,.s AI li ci,.s AI' li' ci']] w
   (fun e w'=>e=.returned (.tuple #[])/\aF w' B L (fP T (Sx.subR T.goal j (T.row i)))/\FrS L.S w w'):=by
 have hX:=h.go;have hY:=h.co i hi;rw[hV]at hY;obtain⟨qg,qj,qa,_,_⟩:=hX.form (by rw[hck];omega);rw[hck]at qa;obtain⟨cs,qi,qe,_⟩:=h.goa;have qf:qg≠gv:=fun e=>(by (rcases h.sep L.m i (yX _) (kQe hi) qO with h1|h1);{rw[qa]at h1;cases h1};exact h1 (by rw[qa,hV,e];rfl));have qh:=hX;rw[qa]at qh qe;refine(jzbz B B L.p 3 147 cs qg K qj gv cv j P T.goal.co (T.row i).co T.goal.re (T.row i).re ni AI li ci AI' li' ci' w qi qe qh hck hY hci ra qf qD qD hj hK hP s1 s2 s3 s4).mono ?_;rintro e w' ⟨rfl,qk,c1,c2,c3,c4,c5⟩;refine⟨rfl,?_,c5.mono fun b hb=>by (rcases hb with rfl|rfl);{exact .inl rfl};exact .inr (.inr (.inr (.inr ⟨L.m,yX _,by rw[qa];rfl⟩)))⟩;rw[<-qa]at c3 c4;exact h.goal_upd qa qi c1 c2 c3 c4 c5
end Go.Proofs.YtfeeacaofjpkaaaGreatDoor
namespace Go.Proofs.YtfeeacaofjpkaaaGreatDoor
open Go.Proofs.Tryz
open Go Go.RowKit
variable {P:Program} {md:Region.Mode} {ops:Array Oper} {Q:Exit->Act->World->Prop} {S:World->Prop} {L:Nat}
theorem jzkg{m i:Nat}{oi:Oper}{v:Value}(hL:awaitB md ops L m=true)(hm:awaitB md ops m i=true)(hi:ops[i]?=some oi)(hiL:i≠L)(hsel:∀(j:Nat) (o:Oper) cs b,ops[j]?=some o->o.op≠.select cs b)
  (hQ:∀c a w,Q (.panic c) (a.put oi.dst v) w->Q (.panic c) a w):
  ∀(qe:Nat) (qa:Array Bool) (a:Act) (w:World),qa.getD m true=false->
   (∀j oj,ops[j]?=some oj->j≠i->qa.getD j true=false->(∀e∈oj.after,Region.binds md e=true->e.on≠i)->oi.apart ops oj=true)->
   i∈Region.ready md ops qa->YieldsIf P ops S oi v a->S w->
   wpAnyL P md ops Q S L qe (qa.setIfInBounds i true) (a.put oi.dst v) w->wpAnyL P md ops Q S L (qe+1) qa a w:=by
 intro qe
 induction qe with
 |zero=>
  intro qa a w _ _ hr hy hS H;refine⟨fun h=>(by rw[h]at hr;cases hr),fun j hj=>?_⟩;by_cases qg:j=i
  ·subst qg;exact hy.wpOp hi hS ⟨fun e=>absurd e hiL,fun _=>⟨hS,H⟩⟩
  have:=ready_mono hj qg;rw[H.1]at this;cases this
 |succ qe ih=>
  intro qa a w qj qf hr hy hS H;refine⟨fun h=>(by rw[h]at hr;cases hr),fun j hj=>?_⟩;by_cases qg:j=i
  ·subst qg;exact hy.wpOp hi hS ⟨fun e=>absurd e hiL,fun _=>⟨hS,H⟩⟩
  have qk:j≠L:=fun e=>by
   rw[e]at hj;have qw:qa.getD m false=false:=by
    rcases kQd m qa.size with h'|h'
    ·simp[h']at qj⊢;exact qj
    simp[kQn h']
   exact nG hL hj (by simpa using qj)
  have qx:j≠m:=fun e=>by
   rw[e]at hj;exact nG hm hj (mem_ready.1 hr).1
  have h1:=H.2 j (ready_mono hj qg);obtain⟨qi,oj,qm,qn⟩:=mem_ready.1 hj;have qo:∀e∈oj.after,Region.binds md e=true->e.on≠i:=fun e he hb heq=>by
   have h1:=qn e he hb;have h0:=(mem_ready.1 hr).1;rw[heq]at h1;rcases kQd i qa.size with h'|h'
   ·simp[h']at h0 h1;rw[h0]at h1;cases h1
   simp[kQn h']at h1
  have h2:=wpOp_putIf qm (qf j oj qm qg qi qo) (fun cs b=>hsel i oi cs b hi) (fun cs b=>hsel j oj cs b qm) hQ hy h1;have qh:∀k ok,ops[k]?=some ok->k≠i->(qa.setIfInBounds j true).getD k true=false->
    (∀e∈ok.after,Region.binds md e=true->e.on≠i)->oi.apart ops ok=true:=fun k ok hk hki hun hno=>by
   refine qf k ok hk hki ?_ hno;by_cases qt:j=k
   ·subst qt;exact qi
   rw[getD_set_ne true qt]at hun;exact hun
  have qp:(qa.setIfInBounds j true).getD m true=false:=(by rw[getD_set_ne true qx];exact qj);refine wpOp_mono (fun a' w' h3=>⟨fun e=>absurd e qk,fun _=>⟨(h3.2.2 qk).1,ih (qa.setIfInBounds j true) a' w' qp qh (ready_mono hr (Ne.symm qg)) h3.1 (h3.2.2 qk).1 ?_⟩⟩) h2;rw[Array.setIfInBounds_comm _ _ qg];exact(h3.2.2 qk).2
theorem uQ{m i:Nat}{oi:Oper}{v:Value}{fuel:Nat}{listed:Array Bool}{a:Act}{w}(hi:ops[i]?=some oi)(hL:awaitB md ops L m=true)(hm:awaitB md ops m i=true)(hlm:listed.getD m true=false)(hiL:i≠L)
  (hs:Region.noSelect ops=true) (hf:Region.free md ops listed i=true) (hr:(Region.ready md ops listed).contains i=true)
  (hQ:∀c a w,Q (.panic c) (a.put oi.dst v) w->Q (.panic c) a w) (hy:YieldsIf P ops S oi v a) (hS:S w)
  (h:wpAnyL P md ops Q S L fuel (listed.setIfInBounds i true) (a.put oi.dst v) w):wpAnyL P md ops Q S L (fuel+1) listed a w:=
 jzkg hL hm hi hiL (Region.noSelect_spec hs) hQ fuel listed a w hlm (Region.free_spec hi hf) (by simpa using hr) hy hS h
end Go.Proofs.YtfeeacaofjpkaaaGreatDoor
namespace Go.Proofs.YtfeeacaofjpkaaaGreatDoor
open Go.Proofs.Tryz
open Go.RowKit
structure SzT(T:Sx.Tb)(P:Nat):Prop where
 co:∀i,i<T.rows.length->∀q∈(T.row i).co,SzQ q P
 re:∀i,i<T.rows.length->SzQ (T.row i).re P
 go:∀q∈T.goal.co,SzQ q P
 gr:SzQ T.goal.re P
structure OkT(T:Sx.Tb):Prop where
 cl:∀i,i<T.rows.length->(T.row i).co.length=T.fre.length
 gl:T.goal.co.length=T.fre.length
def jzcd(w:World)(B:Nat)(L:aT)(T':Sx.Tb)(e:Ending)(w':World):Prop:=e=.returned (.tuple #[])/\aF w' B L T'/\FrS L.S w w'
theorem jzkh(X:LQ)(j:Nat)(q:Rat):Sx.sclL X j q 0=X.set j 1:=by
 unfold Sx.sclL Sx.at_;apply uK;intro k;by_cases hk:k<X.length;{rw[yW,xJ hk];simp only[kQ9,Nat.not_lt_zero,if_false];by_cases e:k=j;{subst e;rw[qE rfl,yM hk]};rw[qF e,vN (fun e2=>e e2.symm),yG hk];rfl};rw[yI (by simp;omega),yI (by rw[yV];omega)]
theorem jzce(X:LQ)(j:Nat)(q:Rat){i:Nat}(hi:i<X.length):(Sx.sclL X j q i)[i]?=some (if i=j then 1 else Sx.at_ X i):=by
 unfold Sx.sclL;rw[yW,xJ hi];simp only[kQ9,kZr,if_false]
theorem jzcf(X:LQ)(j:Nat)(q:Rat){i:Nat}(hi:i<X.length):Sx.sclL X j q (i+1)=(Sx.sclL X j q i).set i ((if i=j then 1 else Sx.at_ X i)*q):=by
 apply uK;intro k;by_cases hk:k<X.length;{by_cases e:i=k;{subst e;rw[yM (by rw[Sx.sclL_len];exact hi)];unfold Sx.sclL;rw[yW,xJ hk];simp only[kQ9];rw[qE (show i<i+1 by omega)]};rw[vN e];unfold Sx.sclL;rw[yW,yW,xJ hk];simp only[kQ9];have:(k<i+1↔k<i):=qO;by_cases h:k<i;{rw[qE (this.2 h),qE h]};rw[qF (fun h2=>h (this.1 h2)),qF h]};rw[yI (by rw[Sx.sclL_len];omega),yI (by rw[yV,Sx.sclL_len];omega)]
theorem jzki(X:LQ)(j:Nat)(q:Rat){i:Nat}(hi:i<X.length)(h0:(if i=j then 1 else Sx.at_ X i)=0):Sx.sclL X j q (i+1)=Sx.sclL X j q i:=by
 have h:=jzce X j q hi;rw[h0]at h;rw[jzcf X j q hi,h0,Rat.zero_mul];apply uK;intro k;by_cases e:i=k;{subst e;rw[yM (by rw[Sx.sclL_len];exact hi),h]};rw[vN e]
theorem jzcg{w:World}{B g c n i:Nat}{l:LN}(h:w.ownsRow B 3 1 (.s (sA g) n c) n (ints l))(hi:i<n):w.cell? (aD g i)=some (vI (Sx.atN l i:Nat))/\w.frozen? (aD g i)=false:=by
 obtain⟨g',c',qa,e1,_,e3,_,_,_,e7⟩:=iR h qO;injection e1 with e1 _ _
 injection e1 with e1
 injection e1 with e1
 subst e1;refine⟨?_,e3.frozen i⟩;have hl:l.length=n:=(by have:=h.1;rw[cW]at this;omega);rw[e3.cell, <-kQw];have h1:(qa.toList.take (n*1))[i]?=(ints l)[i]?:=(by rw[e7]);rw[xG,qE qO]at h1;rw[h1];unfold ints Sx.atN;rw[yW,yG qO];rfl
theorem jzch:mkQ (decide ((1:Int)<0)) (1:Int).natAbs 1=1:=jzgj 1
def dS(T:Sx.Tb)(i j n:Nat):Sx.Tb:=cG T i ⟨Sx.sclL (T.row i).co j (1/Sx.at_ (T.row i).co j) n,(T.row i).re⟩
theorem jzci(T:Sx.Tb)(i:Nat)(r s:Sx.Rw):cG (cG T i r) i s=cG T i s:=by unfold cG;simp
theorem jzkj(B i j bg P:Nat)(L:aT)(T:Sx.Tb)w(h:aF w B L T)(vz:OkT T)(vT:SzT T P)(hP:P<=100000)(hi:i<L.m)(hj:j<T.fre.length)(hp:Sx.at_ (T.row i).co j≠0)(hm:L.m<=1000000)(hK:T.fre.length<=1000000000000)
  (zm:Blk w bg 142 #[.pointer (some (aD L.p 3))]):
  Calls prog 83 #[.pointer (sA L.p),vI (i:Int),vI (j:Int),.s (sA bg) 1 1] w (jzcd w B L (Sx.pivT T i j)):=by
 obtain⟨g,cr,vn,zB⟩:=h.vr_form qO;have qn:i<T.rows.length:=(by rw[h.rl];exact hi);have vl:=vz.cl i qn;obtain⟨gv,cv,hV,zi,qB⟩:=(h.co i hi).form (by rw[vl];omega);rw[vl]at hV zi;obtain⟨cb,hb,zk⟩:=h.rwa hi vn;obtain⟨cp,vp,zJ,p0,p1,p2,p7⟩:=h.goa;have q0:=(vp.cell 0).trans p0;rw[vn]at q0;obtain⟨nr,R1,m1,d1,zw,zI,zF,r0,r1,r2,r3,rr⟩:=zk;have qr:=(hb.cell (i*4)).trans r0;rw[hV]at qr;have vZ:j<(T.row i).co.length:=(by rw[vl];exact hj);have qZ:=h.co i hi;rw[hV]at qZ;obtain⟨nf,F1,f1,e1,vd,qX,vm,⟨x0,x1,x2⟩,⟨y0,y1,y2⟩,rf⟩:=qZ.cell (aO vZ);have zx:L.p<w.heap.size:=vp.lt;have vF:g<w.heap.size:=hb.lt;have iN:(i:Int)<(L.m:Int):=qO;have jN:(j:Int)<(T.fre.length:Int):=qO;have i0:(0:Int)<=(i:Int):=qO;have j0:(0:Int)<=(j:Int):=qO;have H:=Hx (kQa h (kQa vz vT));have HV:=Hx (kQa vn (kQa hV vl));have HR:=Hx (kQa rf rr);have HB:=Hx (kQa hb (kQa vp zm));have HP:=Hx hp;have vu:=Hx (vT.co i qn _ (yJ (aO vZ)));generalize hKK:T.fre.length=K at*;have qI:=Hx hKK;go_enter func83,ntmps83;(go_upto_region 1 with fail);have XD:Hid (Ext w w.drew):=Hx ((eR w).drewN 1);have XA:Hid (Ext w (w.alloc (.cells rV 33)).drew):=Hx (((eR w).alloc _).drewN 1);have BN:Hid (Blk (w.alloc (.cells rV 33)).drew w.heap.size 33 rV):=Hx (eN w _ _);have qa:Hid (∀wx,Ext w wx->(wx.cell? (aD g (i*4))=some (.s (sA gv) K cv)/\wx.cell? (aD gv (j*3))=some (.bool nf)/\wx.cell? (aD gv (j*3+1))=some (.s F1 f1 e1)/\wx.cell? (aD gv (j*3+2))=some (.s vd qX vm))):=Hx (fun wx hx=>⟨aA hx qr,aA hx x0,aA hx x1,aA hx x2⟩);have LF:=Hx (HR.o.1.lens vu.o);obtain⟨zG,zs⟩:=LF.o;have vU:f1<=134217728:=qO;have vW:qX<=134217728:=qO;obtain⟨qU,i1,i2,i3⟩:=qa.o _ XD.o;obtain⟨u0,u1,u2,u3⟩:=qa.o _ XA.o;go_cut [9] (fun sl wx=>∃(gs:Nat) (ns:Bool) (A3:OA) (l3 c3:Nat) (qh:OA) (qf qi:Nat),sl=.pointer (sA gs)/\Hid (w.heap.size<=gs/\Blk wx gs 33 #[.bool ns,.s A3 l3 c3,.s qh qf qi]/\aB wx ns A3 l3 c3 qh qf qi (1/Sx.at_ (T.row i).co j)/\Ext w wx))
 case first=>
  go_region_held3 (fun w'=>w'.cell? (aD g (i*4))=some (.s (sA gv) K cv)/\w'.cell? (aD gv (j*3))=some (.bool nf)/\w'.cell? (aD gv (j*3+1))=some (.s F1 f1 e1)/\w'.cell? (aD gv (j*3+2))=some (.s vd qX vm))
   (first|with_reducible exact⟨qU,i1,i2,i3⟩|with_reducible exact⟨u0,u1,u2,u3⟩|with_reducible exact⟨aU qU _,aU i1 _,aU i2 _,aU i3 _⟩|exact⟨aG (aG (aG qU fT) fT) fT,aG (aG (aG i1 fG) fG) fG,aG (aG (aG i2 fG) fG) fG,aG (aG (aG i3 fG) fG) fG⟩|fail)
   (first
    |(go_at_call 15
      first
      |(with_reducible refine(pF 1 w.drew qD qD).mono ?_
        rintro e w8 ⟨n8,A8,l8,c8,vg,vc,vk,rfl,h8,x8⟩;have E8:=Hx (XD.o.tr x8))
      |(with_reducible refine(pF 1 (w.alloc (.cells rV 33)).drew qD qD).mono ?_
        rintro e w8 ⟨n8,A8,l8,c8,vg,vc,vk,rfl,h8,x8⟩;have E8:=Hx (XA.o.tr x8);have B8:=Hx (BN.o.K x8))
      rw[jzch]at h8;have R8:=Hx h8;obtain⟨zC,v9⟩:=R8.o.lens (show SzQ 1 1 from⟨qD,qD⟩);obtain⟨qU,i1,i2,i3⟩:=qa.o _ E8.o;clear x8 h8)
    |(go_at_call 150
      first
      |(with_reducible refine(pS n8 nf A8 l8 c8 vg vc vk F1 f1 e1 vd qX vm 1 (Sx.at_ (T.row i).co j) _ (by with_reducible exact R8.o) (HR.o.1.K (by with_reducible exact E8.o)) HP.o qO qO vU vW).mono ?_
        rintro e w9 ⟨n9,A9,l9,c9,qy,qp,qt,rfl,h9,x9⟩;have E9:=Hx (E8.o.tr x9)
        first
        |(have B9:=Hx (B8.o.K x9)
          obtain⟨⟨v0,v1,v2⟩,z0,z1,z2⟩:=B9.o.t3;have gg:w.heap.size<=w.heap.size:=yX _;have fT:g≠w.heap.size:=kQb vF;have fG:gv≠w.heap.size:=kQb qB)
        |skip)
      |(have xa:=(eR w8).alloc (.cells rV 33)
        with_reducible refine(pS n8 nf A8 l8 c8 vg vc vk F1 f1 e1 vd qX vm 1 (Sx.at_ (T.row i).co j) _ (R8.o.K (by with_reducible exact xa)) (HR.o.1.K (by with_reducible exact E8.o.tr xa)) HP.o qO qO vU vW).mono ?_
        rintro e w9 ⟨n9,A9,l9,c9,qy,qp,qt,rfl,h9,x9⟩;have E9:=Hx ((E8.o.tr xa).tr x9);have gg:w.heap.size<=w8.heap.size:=E8.o.size;have fT:g≠w8.heap.size:=kQb (yL vF gg);have fG:gv≠w8.heap.size:=kQb (yL qB gg);have B9:=Hx ((eN w8 33 rV).K x9);obtain⟨⟨v0,v1,v2⟩,z0,z1,z2⟩:=B9.o.t3;clear xa)
      have R9:=Hx h9;obtain⟨qU,i1,i2,i3⟩:=qa.o _ E9.o;clear x9 h9)
    |fail)
  all_goals
   go_wp2;go_meet
   first
   |(obtain⟨k1,k2⟩:=dH (w:=w) R9.o B9.o gg E9.o
     exact⟨_,n9,A9,l9,c9,qy,qp,qt,rfl,Hx ⟨gg,((B9.o.sT 0 _).sT 1 _).sT 2 _,k1,k2⟩⟩)
   |(have xb:=(eR w9).alloc (.cells #[.bool n9,.s A9 l9 c9,.s qy qp qt] 33)
     exact⟨w9.heap.size,n9,A9,l9,c9,qy,qp,qt,rfl,Hx ⟨E9.o.size,eN w9 _ _,R9.o.K xb,E9.o.tr xb⟩⟩)
 obtain⟨gs,ns,A3,l3,c3,qh,qf,qi,rfl,G⟩:=hcut;have vJ:Hid (SzQ (1/Sx.at_ (T.row i).co j) (1+P)):=Hx ((show SzQ 1 1 from⟨qD,qD⟩).div vu.o HP.o);have NS:Hid (¬L.S gs):=Hx (fun hs=>by have:=(H.o.1.ty hs).2.1;have:=G.o.1;omega);have I0:Hid (aF wc B L T/\FrS L.S w wc/\Blk wc gs 33 #[.bool ns,.s A3 l3 c3,.s qh qf qi]/\aB wc ns A3 l3 c3 qh qf qi (1/Sx.at_ (T.row i).co j)):=Hx (⟨H.o.1.K G.o.2.2.2,eE G.o.2.2.2,G.o.2.1,G.o.2.2.1⟩);have VC:Hid (∀wx Tc,aF wx B L Tc->wx.cell? (aD g (i*4))=some (.s (sA gv) K cv)):=Hx (fun wx Tc hx=>by obtain⟨cs,hb,_,_,_,_,_,_,_,r0,_⟩:=hx.rwa hi HV.o.1;rw[HV.o.2.1]at r0;exact(hb.cell _).trans r0);have qe:g≠gv:=fun e=>(by obtain⟨xs,h1⟩:=(H.o.1.co i hi).own;obtain⟨c,h2⟩:=aW h1 (show(L.V i).ownBlock=some gv by rw[HV.o.2.1];rfl);subst e;have:=(aZ HB.o.1 h2).2;exact absurd this qD);have q1:=VC.o _ _ I0.o.1;have q2:=show wc.drew.cell? (aD g (i*4))=some (.s (sA gv) K cv)from q1;have XD:Hid (Ext wc wc.drew):=Hx ((eR wc).drewN 1);(go_upto_region 2 with fail);go_cut [] (fun wx=>Hid (aF wx B L (dS T i j 0)/\FrS L.S w wx/\Blk wx gs 33 #[.bool ns,.s A3 l3 c3,.s qh qf qi]/\aB wx ns A3 l3 c3 qh qf qi (1/Sx.at_ (T.row i).co j)))
 case first=>
  go_region_held3 (fun w'=>w'.cell? (aD g (i*4))=some (.s (sA gv) K cv))
   (first|with_reducible exact q2|with_reducible exact q8|exact aG (aG (aG q8 qe) qe) qe|fail)
   (first
    |(go_at_call 15
      with_reducible refine(pF 1 wc.drew qD qD).mono ?_
      rintro e w8 ⟨n8,A8,l8,c8,vg,vc,vk,rfl,h8,x8⟩;have E8:=Hx (XD.o.tr x8);rw[jzch]at h8;have R8:=Hx h8;have q8:=aA E8.o q1;have fz:=(show∀k,w8.frozen? (aD gv k)=false from fun k=>by
       obtain⟨xs,h1⟩:=((I0.o.1.K E8.o).co i hi).own;obtain⟨c,h2⟩:=aW h1 (show(L.V i).ownBlock=some gv by rw[HV.o.2.1];rfl);exact h2.frozen k)
      have z0:=fz (j*3);have z1:=fz (j*3+1);have z2:=fz (j*3+2);have cc:=((I0.o.1.K E8.o).co i hi);rw[HV.o.2.1]at cc;obtain⟨_,_,_,_,_,_,_,⟨t0,t1,t2⟩,_⟩:=cc.cell (aO (show j<(T.row i).co.length by rw[HV.o.2.2];exact hj));clear x8 h8 fz cc)
    |fail)
  all_goals
   go_wp2;go_meet;exact Hx (by
    obtain⟨k1,k2⟩:=(I0.o.1.K E8.o).co_set hi HV.o.1 HV.o.2.1 HV.o.2.2 hj R8.o;have e1:dS T i j 0=cG T i ⟨(T.row i).co.set j 1,(T.row i).re⟩:=(by unfold dS;rw[jzkh]);rw[e1];exact⟨k1,(I0.o.2.1.tr (eE (S:=L.S) E8.o) fun b hb=>.inl hb).tr k2 fun b hb=>.inl hb,k2.blk (I0.o.2.2.1.K E8.o) NS.o,k2.ratR (I0.o.1.K E8.o).no32 (I0.o.2.2.2.K E8.o)⟩)
 have I1:=hcut;have HX:Hid (∀n,(dS T i j n).row i=⟨Sx.sclL (T.row i).co j (1/Sx.at_ (T.row i).co j) n,(T.row i).re⟩):=Hx (fun n=>by unfold dS;rw[nW _ _ _ qn,qE rfl]);have vx:Hid (∀n,((dS T i j n).row i).co.length=K):=Hx (fun n=>by rw[HX.o n];show(Sx.sclL _ _ _ _).length=K;rw[Sx.sclL_len];exact HV.o.2.2);have v7:Hid (L.S gv):=Hx (.inr (.inr (.inr (.inr ⟨i,kQe hi,by rw[HV.o.2.1];rfl⟩))));have q3:=VC.o _ _ I1.o.1;go_wp2;go_loopg [11,12,46] K (fun q _ _ it wx=>∃n:Nat,K-n=q/\n<=K/\it=vI (n:Int)/\Hid (aF wx B L (dS T i j n)/\FrS L.S w wx/\Blk wx gs 33 #[.bool ns,.s A3 l3 c3,.s qh qf qi]/\aB wx ns A3 l3 c3 qh qf qi (1/Sx.at_ (T.row i).co j)));exact⟨0,rfl,yZ _,rfl,I1⟩;obtain⟨n,rfl,hn,rfl,I⟩:=hrel;by_cases vR:n<K
 ·(have va:n<(T.row i).co.length:=by rw[HV.o.2.2];exact vR);obtain⟨xn,vo⟩:∃xn,(if n=j then 1 else Sx.at_ (T.row i).co n)=xn:=⟨_,rfl⟩;have vV:=Hx vo;have zp:Hid (SzQ xn (1+P)):=Hx (by rw[<-vo];split;{exact(show SzQ 1 1 from⟨qD,qD⟩).mono qO};exact(H.o.2.2.co i qn _ (yJ (aO va))).mono qO);have qZ:=I.o.1.co i hi;rw[HV.o.2.1,HX.o n]at qZ;obtain⟨ne,E1,p1,q1,qH,qC,qM,⟨v0,v1,v2⟩,⟨g0,g1,g2⟩,re⟩:=qZ.cell (jzce (T.row i).co j (1/Sx.at_ (T.row i).co j) va);rw[vo]at re;have zd:gv<wr.heap.size:=yL qB I.o.2.1.size;have nK:(n:Int)<(K:Int):=qO;have n0:(0:Int)<=(n:Int):=qO;have RE:=Hx re;have CE:=Hx (kQa (kQa v0 (kQa v1 v2)) (kQa g0 (kQa g1 g2)));have XB:=(eR wr).alloc (.cells #[.bool ne,.s E1 p1 q1,.s qH qC qM] 33);have SG:=Hx (cV ne E1 p1 q1 qH qC qM xn _ (re.K XB));go_wp2_with fail;refine SG.o.mono ?_;rintro e w4 ⟨rfl,x4⟩;have X4:Hid (Ext wr w4/\Blk w4 wr.heap.size 33 #[.bool ne,.s E1 p1 q1,.s qH qC qM]):=Hx (⟨((eR wr).alloc _).tr x4,(eN wr _ _).K x4⟩);by_cases vq:xn=0;{have q4:aC xn=0:=(iQ xn).2 vq;rw[q4];have I4:Hid (aF w4 B L (dS T i j (n+1))/\FrS L.S w w4/\Blk w4 gs 33 #[.bool ns,.s A3 l3 c3,.s qh qf qi]/\aB w4 ns A3 l3 c3 qh qf qi (1/Sx.at_ (T.row i).co j)):=Hx (by have e1:dS T i j (n+1)=dS T i j n:=(by unfold dS;rw[jzki _ _ _ va (by rw[vV.o,vq])]);rw[e1];exact⟨I.o.1.K X4.o.1,I.o.2.1.tr (eE (S:=L.S) X4.o.1) fun b hb=>.inl hb,I.o.2.2.1.K X4.o.1,I.o.2.2.2.K X4.o.1⟩);go_wp2;go_roundg (K-(n+1));exact⟨n+1,rfl,qO,by go_num,I4⟩;omega}
  have q4:¬aC xn=0:=fun h=>vq ((iQ xn).1 h);have zH:(aC xn !=0)=true:=(by simpa using q4);have zv:decide (aC xn=0)=false:=yP q4;have zE:(aC xn==0)=false:=(by simpa using q4);generalize aC xn=sy at*;have T4:=Hx (I.o.1.K X4.o.1);have XD:Hid (Ext w4 w4.drew):=Hx ((eR w4).drewN 1);have qa:=Hx (show∀wx,Ext w4 wx->(wx.cell? (aD g (i*4))=some (.s (sA gv) K cv)/\(wx.cell? (aD wr.heap.size 0)=some (.bool ne)/\wx.cell? (aD wr.heap.size 1)=some (.s E1 p1 q1)/\wx.cell? (aD wr.heap.size 2)=some (.s qH qC qM))/\wx.cell? (aD gs 0)=some (.bool ns)/\wx.cell? (aD gs 1)=some (.s A3 l3 c3)/\wx.cell? (aD gs 2)=some (.s qh qf qi))from fun wx hx=>
   ⟨aA hx (VC.o _ _ T4.o),(X4.o.2.K hx).t3.1,((I.o.2.2.1.K X4.o.1).K hx).t3.1⟩)
  obtain⟨k0,⟨k1,k2,k3⟩,k4,k5,k6⟩:=qa.o _ XD.o;have b1:wr.heap.size≠gv:=qO;have b2:gs≠gv:=fun e=>NS.o (by rw[e];exact v7.o);obtain⟨zu,zz⟩:=RE.o.lens zp.o;obtain⟨zK,zq⟩:=I.o.2.2.2.lens vJ.o;go_wp2
  go_region_held3 (fun w'=>w'.cell? (aD g (i*4))=some (.s (sA gv) K cv)/\(w'.cell? (aD wr.heap.size 0)=some (.bool ne)/\w'.cell? (aD wr.heap.size 1)=some (.s E1 p1 q1)/\w'.cell? (aD wr.heap.size 2)=some (.s qH qC qM))/\w'.cell? (aD gs 0)=some (.bool ns)/\w'.cell? (aD gs 1)=some (.s A3 l3 c3)/\w'.cell? (aD gs 2)=some (.s qh qf qi))
   (first|with_reducible exact⟨k0,⟨k1,k2,k3⟩,k4,k5,k6⟩|exact⟨aG (aG (aG k0 qe) qe) qe,⟨aG (aG (aG k1 b1) b1) b1,aG (aG (aG k2 b1) b1) b1,aG (aG (aG k3 b1) b1) b1⟩,aG (aG (aG k4 b2) b2) b2,aG (aG (aG k5 b2) b2) b2,aG (aG (aG k6 b2) b2) b2⟩|fail)
   (first
    |(go_at_call 47
      with_reducible refine(fY ne ns E1 p1 q1 qH qC qM A3 l3 c3 qh qf qi xn (1/Sx.at_ (T.row i).co j) _ ((RE.o.K X4.o.1).K (by with_reducible exact XD.o)) ((I.o.2.2.2.K X4.o.1).K (by with_reducible exact XD.o)) qO qO qO qO).mono ?_
      rintro e w5 ⟨n5,A5,l5,c5,qw,qx,qz,rfl,h5,x5⟩;have E5:=Hx (XD.o.tr x5);have R5:=Hx h5;obtain⟨k0,⟨k1,k2,k3⟩,k4,k5,k6⟩:=qa.o _ E5.o;have t0:=aA (X4.o.1.tr E5.o) CE.o.1.1;have t1:=aA (X4.o.1.tr E5.o) CE.o.1.2.1;have t2:=aA (X4.o.1.tr E5.o) CE.o.1.2.2;have z0:=mL (X4.o.1.tr E5.o) CE.o.1.1 CE.o.2.1;have z1:=mL (X4.o.1.tr E5.o) CE.o.1.2.1 CE.o.2.2.1;have z2:=mL (X4.o.1.tr E5.o) CE.o.1.2.2 CE.o.2.2.2;clear h5 x5)
    |fail)
  all_goals
   have I6:=Hx (show aF (((w5.setCell (aD gv (n*3)) (.bool n5)).setCell (aD gv (n*3+1)) (.s A5 l5 c5)).setCell (aD gv (n*3+2)) (.s qw qx qz)) B L (dS T i j (n+1))/\FrS L.S w (((w5.setCell (aD gv (n*3)) (.bool n5)).setCell (aD gv (n*3+1)) (.s A5 l5 c5)).setCell (aD gv (n*3+2)) (.s qw qx qz))/\Blk (((w5.setCell (aD gv (n*3)) (.bool n5)).setCell (aD gv (n*3+1)) (.s A5 l5 c5)).setCell (aD gv (n*3+2)) (.s qw qx qz)) gs 33 #[.bool ns,.s A3 l3 c3,.s qh qf qi]/\aB (((w5.setCell (aD gv (n*3)) (.bool n5)).setCell (aD gv (n*3+1)) (.s A5 l5 c5)).setCell (aD gv (n*3+2)) (.s qw qx qz)) ns A3 l3 c3 qh qf qi (1/Sx.at_ (T.row i).co j)from by
    have T5:=T4.o.K E5.o;have X5:=X4.o.1.tr E5.o;obtain⟨k1,k2⟩:=T5.co_set hi HV.o.1 HV.o.2.1 (vx.o n) vR R5.o;have e1:cG (dS T i j n) i ⟨((dS T i j n).row i).co.set n (xn*(1/Sx.at_ (T.row i).co j)),((dS T i j n).row i).re⟩=dS T i j (n+1):=by
     rw[HX.o n];unfold dS;rw[jzci,jzcf _ _ _ va,vV.o]
    rw[e1]at k1;exact⟨k1,(I.o.2.1.tr (eE (S:=L.S) X5) fun b hb=>.inl hb).tr k2 fun b hb=>.inl hb,k2.blk (I.o.2.2.1.K X5) NS.o,k2.ratR T5.no32 (I.o.2.2.2.K X5)⟩)
   go_wp2
   go_roundg (K-(n+1))
   case measure=>
                 omega
   exact⟨n+1,rfl,qO,by go_num,I6⟩
 obtain rfl:K=n:=qO;have zh:¬((K:Int)<(K:Int)):=qO;have vO:¬K<K:=kZr K;obtain⟨zA,v5,zb⟩:=I.o.1.rwa hi HV.o.1;obtain⟨n9,A9,l9,c9,qy,qp,qt,s0,s1,s2,s3,v3⟩:=zb;rw[HX.o K]at v3;have B9:=Hx (kQa v5 (kQa s0 (kQa s1 (kQa s2 (kQa s3 v3)))));have LE:Hid (l9<=134217728/\qp<=134217728/\l3<=134217728/\qf<=134217728):=Hx (by obtain⟨a1,a2⟩:=B9.o.2.2.2.2.2.lens (H.o.2.2.re i qn);obtain⟨a3,a4⟩:=I.o.2.2.2.lens vJ.o;exact⟨qO,qO,qO,qO⟩)
 have XD:Hid (Ext wr wr.drew):=Hx ((eR wr).drewN 1);have qa:=Hx (show∀wx,Ext wr wx->((wx.cell? (aD g (i*4+1))=some (.bool n9)/\wx.cell? (aD g (i*4+2))=some (.s A9 l9 c9)/\wx.cell? (aD g (i*4+3))=some (.s qy qp qt))/\wx.cell? (aD gs 0)=some (.bool ns)/\wx.cell? (aD gs 1)=some (.s A3 l3 c3)/\wx.cell? (aD gs 2)=some (.s qh qf qi))from fun wx hx=>
  ⟨⟨((B9.o.1.K hx).cell _).trans B9.o.2.2.1,((B9.o.1.K hx).cell _).trans B9.o.2.2.2.1,((B9.o.1.K hx).cell _).trans B9.o.2.2.2.2.1⟩,(I.o.2.2.1.K hx).t3.1⟩)
 have HSW:=Hx (qa.o _ XD.o);go_wp2;refine wp_region_last (fun w'=>(w'.cell? (aD g (i*4+1))=some (.bool n9)/\w'.cell? (aD g (i*4+2))=some (.s A9 l9 c9)/\w'.cell? (aD g (i*4+3))=some (.s qy qp qt))/\w'.cell? (aD gs 0)=some (.bool ns)/\w'.cell? (aD gs 1)=some (.s A3 l3 c3)/\w'.cell? (aD gs 2)=some (.s qh qf qi)) 9 qK ?_;refine wV 0 rfl HSW.o ?_;refine wV 1 rfl HSW.o ?_;refine wV 2 rfl HSW.o ?_;refine wV 3 rfl HSW.o ?_;refine wV 4 rfl HSW.o ?_;refine wV 5 rfl HSW.o ?_;refine wC 6 rfl (fun KK hK=>?_);go_simp;refine(fY n9 ns A9 l9 c9 qy qp qt A3 l3 c3 qh qf qi (T.row i).re (1/Sx.at_ (T.row i).co j) _ (B9.o.2.2.2.2.2.K XD.o) (I.o.2.2.2.K XD.o) LE.o.1 LE.o.2.1 LE.o.2.2.1 LE.o.2.2.2).mono ?_;rintro e w5 ⟨n5,A5,l5,c5,qw,qx,qz,rfl,h5,x5⟩;have E5:=Hx (XD.o.tr x5);have HSW:=Hx (qa.o _ E5.o);have R5:=Hx h5;refine hK.o _ _ HSW.o ?_;clear hK KK h5 x5;refine wC 7 rfl (fun KK hK=>?_);go_simp;refine hK.o _ _ HSW.o ?_;clear hK KK;refine wV 8 rfl HSW.o ?_;have z0:=(B9.o.1.K E5.o).frozen (i*4+1);have z1:=(B9.o.1.K E5.o).frozen (i*4+2);have z2:=(B9.o.1.K E5.o).frozen (i*4+3);obtain⟨⟨t0,t1,t2⟩,_⟩:=HSW.o;refine aY qK rfl qR (fun KK hK=>?_);go_simp;refine hK.o _ _ ?_;clear hK KK;refine wpAny_done qK ?_ _;have I7:Hid (aF (((w5.setCell (aD g (i*4+1)) (.bool n5)).setCell (aD g (i*4+1+1)) (.s A5 l5 c5)).setCell (aD g (i*4+1+2)) (.s qw qx qz)) B L (cG T i (Sx.sclR (T.row i) j))/\FrS L.S w (((w5.setCell (aD g (i*4+1)) (.bool n5)).setCell (aD g (i*4+1+1)) (.s A5 l5 c5)).setCell (aD g (i*4+1+2)) (.s qw qx qz))):=Hx (by obtain⟨k1,k2⟩:=(I.o.1.K E5.o).re_set hi HV.o.1 (by rw[vx.o K];omega) R5.o;have e1:cG (dS T i j K) i ⟨((dS T i j K).row i).co,(T.row i).re*(1/Sx.at_ (T.row i).co j)⟩=cG T i (Sx.sclR (T.row i) j):=(by rw[HX.o K];unfold dS Sx.sclR;rw[jzci,HV.o.2.2]);rw[e1]at k1;exact⟨k1,(I.o.2.1.tr (eE (S:=L.S) E5.o) fun b hb=>.inl hb).tr k2 fun b hb=>.inl hb⟩);generalize ((w5.setCell (aD g (i*4+1)) (.bool n5)).setCell (aD g (i*4+1+1)) (.s A5 l5 c5)).setCell (aD g (i*4+1+2)) (.s qw qx qz)=W7 at*;obtain⟨gb,vH,q7,_⟩:=I7.o.1.vb_form qO;obtain⟨gf,vj,qJ,_⟩:=I7.o.1.vf_form (show 0<T.fre.length by rw[qI.o];omega);have qJ:L.vf=.s (sA gf) K vj:=(by rw[qJ];show Value.slice _ T.fre.length _=_;rw[qI.o]);have qY:=I7.o.1.bas;have qV:=I7.o.1.fre;have v6:(cG T i (Sx.sclR (T.row i) j)).fre.length=K:=qI.o;rw[q7]at qY;rw[v6,qJ]at qV;obtain⟨vy,v8⟩:=jzcg qY hi;obtain⟨vG,zc⟩:=jzcg qV hj;obtain⟨zy,q6,_,p0,p1,p2,_⟩:=I7.o.1.goa;rw[q7]at p1;rw[qJ]at p2;have c1:=(q6.cell 1).trans p1;have c2:=(q6.cell 2).trans p2;have vt:=Hx (kQa q7 qJ);have q5:gb≠gf:=fun e=>(by (rcases I7.o.1.bf with h1|h1);{rw[q7]at h1;cases h1};exact h1 (by rw[q7,qJ,e];rfl));(have IC:=Hx (kQa vy (kQa v8 (kQa vG (kQa zc (kQa c1 c2)))));have HSW:Hid (W7.drew.cell? (aD L.p 1)=some (.s (sA gb) L.m vH)/\W7.drew.cell? (aD L.p 2)=some (.s (sA gf) K vj)/\W7.drew.cell? (aD gb i)=some (vI (Sx.atN T.bas i:Nat))/\W7.drew.cell? (aD gf j)=some (vI (Sx.atN T.fre j:Nat))):=Hx (⟨c1,c2,vy,vG⟩);go_wp2;refine wp_region_last (fun w'=>w'.cell? (aD L.p 1)=some (.s (sA gb) L.m vH)/\w'.cell? (aD L.p 2)=some (.s (sA gf) K vj)/\w'.cell? (aD gb i)=some (vI (Sx.atN T.bas i:Nat))/\w'.cell? (aD gf j)=some (vI (Sx.atN T.fre j:Nat))) 25 qK ?_;refine wP 0 rfl HSW.o ?_;refine wP 1 rfl HSW.o ?_;refine wP 2 rfl HSW.o ?_;refine wV 3 rfl HSW.o ?_;refine wP 4 rfl HSW.o ?_;refine wP 5 rfl HSW.o ?_;refine wP 6 rfl HSW.o ?_;refine wP 7 rfl HSW.o ?_;refine wV 8 rfl HSW.o ?_;refine wP 10 rfl HSW.o ?_;refine wP 11 rfl HSW.o ?_;refine wP 12 rfl HSW.o ?_;refine wV 13 rfl HSW.o ?_;refine wP 14 rfl HSW.o ?_;refine wP 15 rfl HSW.o ?_;refine wV 16 rfl HSW.o ?_;refine wP 17 rfl HSW.o ?_;refine wP 18 rfl HSW.o ?_;refine wP 19 rfl HSW.o ?_;try simp only[qN]);refine wV 20 rfl HSW.o ?_;refine wP 21 rfl HSW.o ?_;refine wP 22 rfl HSW.o ?_;refine wV 23 rfl HSW.o ?_;refine wP 9 rfl HSW.o ?_;(refine wP 24 rfl HSW.o ?_;try simp only[qN]);have z0:W7.drew.frozen? (aD gb i)=false:=IC.o.2.1;have t0:W7.drew.cell? (aD gb i)=some (vI (Sx.atN T.bas i:Nat)):=IC.o.1;refine aY qK rfl qR (fun KK hK=>?_);go_simp;refine hK.o _ _ ?_;clear hK KK z0 t0;have z1:(W7.setCell (aD gb i) (vI (Sx.atN T.fre j:Nat))).drew.frozen? (aD gf j)=false:=(World.frozen?_setCell _ _ _ _).trans IC.o.2.2.2.1;have t1:(W7.setCell (aD gb i) (vI (Sx.atN T.fre j:Nat))).drew.cell? (aD gf j)=some (vI (Sx.atN T.fre j:Nat)):=aG (w:=W7) IC.o.2.2.1 (fun e=>q5 e.symm);refine kX (i:=26) qK rfl qR (fun KK hK=>?_);go_simp;refine hK.o _ _ ?_;clear hK KK;refine kX (i:=27) qK rfl qR (fun KK hK=>?_);go_simp;refine hK.o _ _ ?_;clear hK KK z1 t1;refine wpAny_done qK ?_ _;have I8:Hid (aF ((W7.setCell (aD gb i) (vI (Sx.atN T.fre j:Nat))).setCell (aD gf j) (vI (Sx.atN T.bas i:Nat))).drew B L (cH T i j 0)/\FrS L.S w ((W7.setCell (aD gb i) (vI (Sx.atN T.fre j:Nat))).setCell (aD gf j) (vI (Sx.atN T.bas i:Nat))).drew):=Hx (by obtain⟨a1,a2⟩:=I7.o.1.bas_set (i:=i) (v:=Sx.atN T.fre j) vt.o.1;have vw:L.vf=.s (sA gf) (rA (cG T i (Sx.sclR (T.row i) j)) ((cG T i (Sx.sclR (T.row i) j)).bas.set i (Sx.atN T.fre j))).fre.length vj:=(by rw[vt.o.2];show Value.slice _ K _=Value.slice _ T.fre.length _;rw[qI.o]);obtain⟨b1,b2⟩:=a1.fre_set (i:=j) (v:=Sx.atN T.bas i) vw;have XD:=(eR ((W7.setCell (aD gb i) (vI (Sx.atN T.fre j:Nat))).setCell (aD gf j) (vI (Sx.atN T.bas i:Nat)))).drewN 1;rw[jzka T i j qn];exact⟨b1.K XD,((I7.o.2.tr a2 fun b hb=>.inl hb).tr b2 fun b hb=>.inl hb).tr (eE (S:=L.S) XD) fun b hb=>.inl hb⟩);clear IC vt HSW I7 q5;generalize ((W7.setCell (aD gb i) (vI (Sx.atN T.fre j:Nat))).setCell (aD gf j) (vI (Sx.atN T.bas i:Nat))).drew=W8 at*;have PC:Hid (∀wx Tc,aF wx B L Tc->wx.cell? (aD L.p 0)=some (.s (sA g) L.m cr)):=Hx (fun wx Tc hx=>by obtain⟨cs,hb,_,p0,_⟩:=hx.goa;rw[HV.o.1]at p0;exact(hb.cell _).trans p0);have SY:Hid ((∀q∈(Sx.sclR (T.row i) j).co,SzQ q (2*P+4))/\SzQ (Sx.sclR (T.row i) j).re (2*P+4)):=Hx (by have hq:SzQ (1/Sx.at_ (T.row i).co j) (1+P):=(show SzQ 1 1 from⟨qD,qD⟩).div vu.o HP.o;refine⟨fun q hq2=>?_,((H.o.2.2.re i qn).mul hq).mono qO⟩;unfold Sx.sclR Sx.sclL at hq2;obtain⟨k,hk,rfl⟩:=kQl.1 hq2;have hk:=vX.1 hk;rw[qE hk];split;{exact((show SzQ 1 1 from⟨qD,qD⟩).mul hq).mono qO};exact((H.o.2.2.co i qn _ (yJ (aO hk))).mul hq).mono qO);have q8:=PC.o _ _ I8.o.1;go_wp2;go_loopg [13,104] L.m (fun q _ it wx=>∃k:Nat,L.m-k=q/\k<=L.m/\it=vI (k:Int)/\Hid (aF wx B L (cH T i j k)/\FrS L.S w wx));exact⟨0,rfl,yZ _,rfl,I8⟩;obtain⟨k,rfl,hk,rfl,I⟩:=hrel;clear I8 q8;by_cases v4:k<L.m
 ·(have kN:(k:Int)<(L.m:Int):=by omega);have k0:(0:Int)<=(k:Int):=qO;by_cases qo:k=i;{(have vK:((k:Int) !=(i:Int))=false:=by rw[qo];simp);have ze:decide ((k:Int)=(i:Int))=true:=yO (by rw[qo]);have zn:((k:Int)==(i:Int))=true:=(by rw[qo];simp);have I9:Hid (aF wr B L (cH T i j (k+1))/\FrS L.S w wr):=Hx (by have h2:=I.o;rw[qo]at h2⊢;rw[jzkb];exact h2);clear qo I;go_wp2;go_roundg (L.m-(k+1));exact⟨k+1,rfl,qO,by go_num,I9⟩;omega}
  have vK:((k:Int) !=(i:Int))=true:=(by simp;omega);have ze:decide ((k:Int)=(i:Int))=false:=yP qO;have zn:((k:Int)==(i:Int))=false:=(by simp;omega);have qW:k<T.rows.length:=(by have:=H.o.1.rl;omega);have qQ:(cH T i j k).row k=T.row k:=(by rw[uP T i j k qW,qF qo,qF (kZr k)]);have qm:(cH T i j k).row i=Sx.sclR (T.row i) j:=(by rw[uP T i j k qn,qE rfl]);have qT:((cH T i j k).row k).co.length=K:=(by rw[qQ,H.o.2.1.cl k qW,qI.o]);have qj:((cH T i j k).row i).co.length=K:=(by rw[qm];show(Sx.sclL _ _ _ _).length=K;rw[Sx.sclL_len];exact HV.o.2.2);obtain⟨zo,qk,qA⟩:=I.o.1.rwa hi HV.o.1;obtain⟨ni,AI,li,ci,vh,ve,vi,a0,a1,a2,a3,ra⟩:=qA;rw[HV.o.2.1]at a0;have q9:=Hx (fun wx (hx:Ext wr wx)=>(jzke wx B L (cH T i j k) (I.o.1.K hx) k i j K (2*P+4) g cr gv cv v4 hi qo hj hK qO HV.o.1 HV.o.2.1 qT qj
   (by rw[qQ];exact fun q hq=>(H.o.2.2.co k qW q hq).mono qO) (by rw[qQ];exact(H.o.2.2.re k qW).mono qO) (by rw[qm];exact SY.o.1) (by rw[qm];exact SY.o.2) ni AI li ci vh ve vi (ra.K hx)).mono
   (R':=fun e w'=>e=.returned (.tuple #[])/\aF w' B L (cH T i j (k+1))/\FrS L.S w w') (fun e w' hq=>by
    obtain⟨h1,h2,h3⟩:=hq;rw[qQ,qm, <-jzkc T i j qW qo]at h2;exact⟨h1,h2,(I.o.2.tr (eE (S:=L.S) hx) fun b hb=>.inl hb).tr h3 fun b hb=>.inl hb⟩))
  have qa:=Hx (show∀wx,Ext wr wx->wx.cell? (aD L.p 0)=some (.s (sA g) L.m cr)/\wx.cell? (aD g (i*4))=some (.s (sA gv) K cv)/\wx.cell? (aD g (i*4+1))=some (.bool ni)/\wx.cell? (aD g (i*4+2))=some (.s AI li ci)/\wx.cell? (aD g (i*4+3))=some (.s vh ve vi)from fun wx hx=>
   ⟨PC.o _ _ (I.o.1.K hx),((qk.K hx).cell _).trans a0,((qk.K hx).cell _).trans a1,((qk.K hx).cell _).trans a2,((qk.K hx).cell _).trans a3⟩)
  (have XD:Hid (Ext wr wr.drew):=Hx ((eR wr).drewN 1);have HSW:=Hx (qa.o _ XD.o);clear qQ qm qT qj qk a0 a1 a2 a3 ra I;go_wp2;refine wX qa 10 ?_;refine wP 0 rfl HSW.o ?_;try simp only[qN]);refine wP 1 rfl HSW.o ?_;(refine wP 2 rfl HSW.o ?_;try simp only[qN]);refine uQ (m:=5) (i:=3) (v:=?_) rfl qK qK qK qD qK qK qK (fun _ _ _ h=>h) (kZe ⟨qR,?_⟩) HSW.o ?_;rotate_left;(focus (intro w hSw;obtain⟨s1,s2,s3,s4,s5⟩:=hSw;go_simp;try with_reducible rfl));(try simp only[qN]);refine wP 4 rfl HSW.o ?_;refine wP 5 rfl HSW.o ?_;refine wP 6 rfl HSW.o ?_;refine wP 7 rfl HSW.o ?_;refine wP 8 rfl HSW.o ?_;(refine wV 9 rfl HSW.o ?_;try simp only[qN]);refine aY qK rfl qR (fun KK hK=>?_);go_simp;refine(q9.o _ XD.o).mono ?_;rintro e w5 ⟨rfl,I9⟩;have I9:=Hx I9;refine hK.o _ _ ?_;clear hK KK q9 qa HSW XD;refine wpAny_done qK ?_ _;go_wp2;go_roundg (L.m-(k+1));exact⟨k+1,rfl,qO,by go_num,I9⟩;omega
 obtain rfl:L.m=k:=qO;have zg:¬((L.m:Int)<(L.m:Int)):=qO;have vL:¬L.m<L.m:=kZr _;have za:Hid (¬L.S bg):=Hx (fun hs=>by (obtain⟨_,_,zt,t',k1,k2⟩:=H.o.1.ty hs;have h3:=(aZ HB.o.2.2 k1).2;rcases k2 with k2|k2|k2|k2);{rw[k2]at h3;exact absurd h3 qD};{rw[k2]at h3;exact absurd h3 qD};{rw[k2]at h3;exact absurd h3 qD};rw[k2]at h3;exact absurd h3 qD);have GC:Hid (∀wx,FrS L.S w wx->wx.cell? (aD bg 0)=some (.pointer (some (aD L.p 3)))):=Hx (fun wx hx=>(hx.blk HB.o.2.2 za.o).cell 0);have I9:Hid (aF wr B L (if 0=0 then cH T i j L.m else Sx.pivT T i j)/\FrS L.S w wr):=Hx (by rw[qE rfl];exact I.o);clear I;go_wp2;go_loopg [15,124] 1 (fun q _ it wx=>∃k:Nat,1-k=q/\k<=1/\it=vI (k:Int)/\Hid (aF wx B L (if k=0 then cH T i j L.m else Sx.pivT T i j)/\FrS L.S w wx));exact⟨0,rfl,qO,rfl,I9⟩;obtain⟨k,rfl,vK,rfl,J⟩:=hrel;clear I9;by_cases zf:k=0
 ·subst zf
  have J0:Hid (aF wr B L (cH T i j L.m)):=Hx (by have:=J.o.1;rwa [qE rfl]at this);have qm:(cH T i j L.m).row i=Sx.sclR (T.row i) j:=(by rw[uP T i j L.m qn,qE rfl]);have qj:((cH T i j L.m).row i).co.length=K:=(by rw[qm];show(Sx.sclL _ _ _ _).length=K;rw[Sx.sclL_len];exact HV.o.2.2);obtain⟨zo,qk,qA⟩:=J0.o.rwa hi HV.o.1;obtain⟨ni,AI,li,ci,vh,ve,vi,a0,a1,a2,a3,ra⟩:=qA;rw[HV.o.2.1]at a0;have q0:=(qk.cell _).trans a0;have q1:=(qk.cell _).trans a1;have q2:=(qk.cell _).trans a2;have q3:=(qk.cell _).trans a3;have qg:=GC.o _ J.o.2;have q9:=Hx ((jzkf wr B L (cH T i j L.m) J0.o i j K (2*P+4) g cr gv cv hi hj hK qO HV.o.1 HV.o.2.1 (show T.goal.co.length=K by rw[H.o.2.1.gl,qI.o]) qj
   (fun q hq=>(H.o.2.2.go q hq).mono qO) (H.o.2.2.gr.mono qO) (by rw[qm];exact SY.o.1) (by rw[qm];exact SY.o.2) ni AI li ci vh ve vi ra).mono
   (R':=fun e w'=>e=.returned (.tuple #[])/\aF w' B L (if 0+1=0 then cH T i j L.m else Sx.pivT T i j)/\FrS L.S w w') (fun e w' hq=>by
    obtain⟨h1,h2,h3⟩:=hq;refine⟨h1,?_,J.o.2.tr h3 fun b hb=>.inl hb⟩;rw[qm]at h2;have e1:=jzkd T i j;rw[H.o.1.rl]at e1;rw[qF qO, <-e1];exact h2))
  clear qm qj qk a0 a1 a2 a3 ra J J0;go_wp2_with fail;refine q9.o.mono ?_;rintro e w5 ⟨rfl,J9⟩;have J9:=Hx J9;clear q9 q0 q1 q2 q3 qg;go_wp2;go_roundg (1-(0+1));exact⟨0+1,rfl,qO,by go_num,J9⟩;omega
 obtain rfl:k=1:=qO;have zj:Hid (jzcd w B L (Sx.pivT T i j) (.returned (.tuple #[])) wr):=Hx (⟨rfl,by have:=J.o.1;rwa [qF qO]at this,J.o.2⟩);clear J;go_wp2;(go_end0);exact zj.o
structure LeO{α:Type}(le:α->α->Prop):Prop where
 refl:∀x,le x x
 tr:∀x y z,le x y->le y z->le x z
 tot:∀x y,le x y\/le y x
def bQ{α:Type}(l:List α)(i j:Nat):List α:=match l[i]?,l[j]? with
 |some a,some b=>(l.set i b).set j a
 |_,_=>l
theorem uR{α:Type}{l:List α}{i j:Nat}{a b:α}(hi:l[i]?=some a)(hj:l[j]?=some b):bQ l i j=(l.set i b).set j a:=by unfold bQ;rw[hi,hj]
theorem lQ{α:Type}{l:List α}{i j:Nat}{a b:α}(hi:l[i]?=some a)(hj:l[j]?=some b)(k:Nat):(bQ l i j)[k]?=if k=j then some a else if k=i then some b else l[k]?:=by
 have h1:=(yH.1 hi).1;have h2:=(yH.1 hj).1;rw[uR hi hj];by_cases e:k=j;{subst e;rw[qE rfl,yM (by rw[yV];exact h2)]};rw[qF e,vN (fun h=>e h.symm)];by_cases e2:k=i;{subst e2;rw[qE rfl,yM h1]};rw[qF e2,vN (fun h=>e2 h.symm)]
theorem nZ{α:Type}{l:List α}{i j:Nat}{a b:α}(hi:l[i]?=some a)(hj:l[j]?=some b):(bQ l i j).Perm l:=by
 classical
 rw[List.perm_iff_count];intro x;have h1:=(yH.1 hi).1;have h2:=(yH.1 hj).1;have e1:=(yH.1 hi).2;have e2:=(yH.1 hj).2;rw[uR hi hj,List.count_set (by rw[yV];exact h2),List.count_set h1,e1];have qh:0<l.count a:=List.count_pos_iff.2 (yJ hi);by_cases e:i=j
 ·subst e
  have qe:a=b:=(by rw[hi]at hj;injection hj);subst qe;rw[List.getElem_set_self];by_cases hx:a=x
  ·subst hx;simp;omega
  have:(a==x)=false:=(by simp[hx]);simp[this]
 rw[List.getElem_set_ne e,e2];have qg:0<l.count b:=List.count_pos_iff.2 (yJ hj);by_cases hx:a=x
 ·by_cases hy:b=x
  ·subst hx;subst hy;simp;omega
  have:(b==x)=false:=(by simp[hy]);subst hx;simp[this];omega
 have qa:(a==x)=false:=(by simp[hx]);by_cases hy:b=x
 ·subst hy;simp[qa]
 have qf:(b==x)=false:=(by simp[hy]);simp[qa,qf]
section
variable {α:Type} {le:α->α->Prop}
def cT(le:α->α->Prop)(l:List α)(n:Nat):Prop:=∀(k:Nat) (a b:α),0<k->k<n->l[(k-1)/2]?=some a->l[k]?=some b->le a b
def UpI(le:α->α->Prop)(l:List α)(n j:Nat):Prop:=
 (∀(k:Nat) (a b:α),0<k->k<n->k≠j->l[(k-1)/2]?=some a->l[k]?=some b->le a b)/\
 (∀(k:Nat) (a b:α),0<j->0<k->k<n->(k-1)/2=j->l[(j-1)/2]?=some a->l[k]?=some b->le a b)
def dV(le:α->α->Prop)(l:List α)(n i:Nat):Prop:=
 (∀(k:Nat) (a b:α),0<k->k<n->(k-1)/2≠i->l[(k-1)/2]?=some a->l[k]?=some b->le a b)/\
 (∀(k:Nat) (a b:α),0<i->0<k->k<n->(k-1)/2=i->l[(i-1)/2]?=some a->l[k]?=some b->le a b)
theorem UpI.done{l:List α}{n j:Nat}(h:UpI le l n j)(hj:j=0\/∀a b,l[(j-1)/2]?=some a->l[j]?=some b->le a b):cT le l n:=fun k a b h0 hk ha hb=>by
 by_cases e:k=j;{subst e;(rcases hj with hj|hj);{omega};{exact hj a b ha hb}};{exact h.1 k a b h0 hk e ha hb}
theorem UpI.step(o:LeO le){l:List α}{n j:Nat}(h:UpI le l n j)(hj:0<j)(hjn:j<n){a b:α}(ha:l[(j-1)/2]?=some a)(hb:l[j]?=some b)(hle:le b a):UpI le (bQ l ((j-1)/2) j) n ((j-1)/2):=by
 have hg:=lQ ha hb;refine⟨fun k x y h0 hk hne hx hy=>?_,fun k x y hp h0 hk hpar hx hy=>?_⟩;{rw[hg]at hx hy;by_cases e1:k=j;{subst e1;(rw[qE rfl]at hy;rw[qF qO,qE rfl]at hx;injection hx with hx;injection hy with hy);subst hx hy;exact hle};rw[qF e1,qF hne]at hy;by_cases e2:(k-1)/2=j;{rw[qE e2]at hx;(injection hx with hx;subst hx);exact h.2 k a y hj h0 hk e2 ha hy};rw[qF e2]at hx;by_cases e3:(k-1)/2=(j-1)/2;{rw[qE e3]at hx;(injection hx with hx;subst hx);exact o.tr _ _ _ hle (h.1 k a y h0 hk e1 (by rw[e3];exact ha) hy)};rw[qF e3]at hx;exact h.1 k x y h0 hk e1 hx hy};rw[hg]at hx hy;rw[qF qO,qF qO]at hx;by_cases e1:k=j;{subst e1;(rw[qE rfl]at hy;injection hy with hy;subst hy);exact h.1 _ x a hp qO qO hx ha};rw[qF e1,qF qO]at hy;exact o.tr _ _ _ (h.1 _ x a hp qO qO hx ha) (h.1 k a y h0 hk e1 (by rw[hpar];exact ha) hy)
theorem dV.done{l:List α}{n i:Nat}(h:dV le l n i)(hi:∀(k:Nat) (a b:α),0<k->k<n->(k-1)/2=i->l[i]?=some a->l[k]?=some b->le a b):cT le l n:=fun k a b h0 hk ha hb=>by
 by_cases e:(k-1)/2=i;{exact hi k a b h0 hk e (by rw[<-e];exact ha) hb};{exact h.1 k a b h0 hk e ha hb}
theorem dV.step(o:LeO le){l:List α}{n i j:Nat}(h:dV le l n i)(hj:0<j)(hjn:j<n)(hp:(j-1)/2=i){a b:α}(ha:l[i]?=some a)(hb:l[j]?=some b)(hle:le b a)(hmin:∀(k:Nat) (c:α),0<k->k<n->(k-1)/2=i->l[k]?=some c->le b c):dV le (bQ l i j) n j:=by
 have hg:=lQ ha hb;refine⟨fun k x y h0 hk hne hx hy=>?_,fun k x y _ h0 hk hpar hx hy=>?_⟩;{rw[hg]at hx hy;rw[qF hne]at hx;by_cases e1:k=j;{subst e1;(rw[qE rfl]at hy;rw[qE hp]at hx;injection hx with hx;injection hy with hy);subst hx hy;exact hle};rw[qF e1]at hy;by_cases e2:k=i;{subst e2;(rw[qE rfl]at hy;injection hy with hy;subst hy);rw[qF qO]at hx;exact h.2 j x b qO hj hjn hp hx hb};rw[qF e2]at hy;by_cases e3:(k-1)/2=i;{rw[qE e3]at hx;(injection hx with hx;subst hx);exact hmin k y h0 hk e3 hy};rw[qF e3]at hx;exact h.1 k x y h0 hk e3 hx hy};(rw[hg]at hx hy;rw[hp,qF qO,qE rfl]at hx;injection hx with hx;subst hx);rw[qF qO,qF qO]at hy;exact h.1 k b y h0 hk qO (by rw[hpar];exact hb) hy
theorem cT.top(o:LeO le){l:List α}{n:Nat}(h:cT le l n)(hn:n<=l.length):∀(k:Nat) (a b:α),k<n->l[0]?=some a->l[k]?=some b->le a b:=by
 intro k;(induction k using Nat.strongRecOn with|_ k ih=>(intro a b hk ha hb;rcases kQm k with h0|h0);{subst h0;(rw[ha]at hb;injection hb with hb;subst hb);exact o.refl _};obtain⟨c,hc⟩:∃c,l[(k-1)/2]?=some c:=⟨_,yG qO⟩;exact o.tr _ _ _ (ih _ qO a c qO ha hc) (h k c b h0 hk hc hb))
theorem cT.pop{l:List α}{n:Nat}(h:cT le l (n+1))(hn:l.length=n+1){a b:α}(ha:l[0]?=some a)(hb:l[n]?=some b):dV le (bQ l 0 n) n 0:=by
 have hg:=lQ ha hb;refine⟨fun k x y h0 hk hne hx hy=>?_,fun k x y hp=>qO⟩;rw[hg]at hx hy;rw[qF qO,qF qO]at hx;rw[qF qO,qF qO]at hy;exact h k x y h0 qO hx hy
theorem cT.push{l:List α}(h:cT le l l.length)(x:α):UpI le (l++[x]) (l.length+1) l.length:=by
 refine⟨fun k a b h0 hk hne ha hb=>?_,fun k a b hp h0 hk hpar=>qO⟩;rw[yR qO]at ha hb;exact h k a b h0 qO ha hb
end
end Go.Proofs.YtfeeacaofjpkaaaGreatDoor
