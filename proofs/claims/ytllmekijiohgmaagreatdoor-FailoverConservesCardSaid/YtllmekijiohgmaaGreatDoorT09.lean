/- Part 9 of 23 of what the Flows claims share (the white space is struck, the texts are joined). -/
import Derived.Deep.Slices
import Derived.Lib.AppendZerosOnto
import Derived.Test.YtllmekijiohgmaaGreatDoorT08
set_option linter.unusedVariables false
set_option linter.unusedSimpArgs false
set_option maxRecDepth 100000
set_option maxHeartbeats 8000000
namespace Go.Proofs.YtllmekijiohgmaaGreatDoor
open Go.RowKit
namespace Fo
theorem HpM.pushed{B g ga ck gb cp N n:Nat}{vO:Value}{w w':World}{K:List Int}{P O:LN}{g' c' i:Nat}(h:HpM B g ga ck gb cp N vO w K P O)(hn:n=O.length)(h1:w'.ownsRow B 3 1 (.s (sA g') (n+1) c') (n+1) (ints O++[vI (i:Int)]))(h2:w.grownBy w' vO.ownBlock)(h3:some g'=vO.ownBlock\/g'=w.heap.size):
  HpM B g ga ck gb cp N (.s (sA g') (n+1) c') (w'.setCell (aD g 2) (.s (sA g') (n+1) c')) K P (O++[i])/\FrB B w (w'.setCell (aD g 2) (.s (sA g') (n+1) c')):=by
 have k7:FrS (fun b=>vO.ownBlock=some b) w w':=eG h2 fun g e=>e;have qh:¬vO.ownBlock=some g:=fun e=>aW h.ob e (t:=326) (by decide) _ _ h.hb;have qa:=k7.blk h.hb qh;have k8:FrS (fun b=>b=g) w' (w'.setCell (aD g 2) (.s (sA g') (n+1) c')):=eG (bI w' g 2 _) fun y e=>(Option.some.inj e).symm;have nt:=NoT.one qa (t':=3) (by decide);have key:∀{v:Value} {n:Nat} {xs:List Value},w'.ownsRow B 3 1 v n xs->∀b,v.ownBlock=some b->¬b=g:=fun {v n xs} ho b hb e=>(by obtain⟨cs,hc⟩:=rN ho hb;exact nt b e cs _ hc);have qg:=k7.own h.kb fun b hb e=>h.ok (by rw[e, <-hb];rfl);have qf:=k7.own h.pb fun b hb e=>h.op (by rw[e, <-hb];rfl);have qe:∀{x:Nat},x<w.heap.size->vO.ownBlock≠some x->g'≠x:=fun {x} hx hv e=>(by (rcases h3 with h3|h3);{rw[e]at h3;exact hv h3.symm};omega);refine⟨⟨qa.sT 2 _,k8.own qg (key qg),k8.own qf (key qf),?_,h.bg,h.kp,fun e=>qe (h.kb.lt ga rfl).2 h.ok (Option.some.inj e),fun e=>qe (h.pb.lt gb rfl).2 h.op (Option.some.inj e)⟩,(FrS.tr (FrS.mono k7 fun b hb=>(h.ob.lt b hb).1) (fJ h.bg w' _) fun _ h=>.inl h)⟩;rw[yQ, <-hn];have e:ints (O++[i])=ints O++[vI (i:Int)]:=iR O i;rw[e];exact k8.own h1 (key h1)
theorem jzi(B g ga ck gb cp N:Nat)(vO:Value)(K:List Int)(P O:LN)(i:Nat)(k:Int)w(h:HpA B g ga ck gb cp N vO w K P O)(hi:i<N)(hk:∀j,qP K P i=some j->k<=j)(hN:N<=1000000):
  Calls Tryz.prog 258 #[.pointer (sA g),vI (i:Int),vI k] w fun e w'=>e=.returned (vI 0)/\FrB B w w'/\HpQ B g ga ck gb cp N w' fun x=>if x=i then some k else qP K P x:=by
 have i0:w.cell? (aD g 0)=some (.s (sA ga) N ck):=h.hm.hb.cell 0;have k0:=h.hm.key hi;have f0:=h.hm.kb.frozenAt i;have iN:(i:Int)<(N:Int):=(by omega);have hf:=h.hp.few;have M1:=Hx (kQa (h.hm.setK i k) (fJ (i:=i) ((h.hm.kb.lt ga rfl).1) w (vI k)));have HA:=Hx (kQa h.hp (kQa h.hh (kQa hi hk)));have PL:=Hx h.hp.pl;have ht:wrap64 (N:Int)=(N:Int):=(by unfold wrap64;omega);clear h hk;go_enter Tryz.func258,Tryz.ntmps258;(go_upto_region 6 with fail);(generalize w.setCell (aD ga i) (vI k)=W1 at*;clear i0 k0 f0;have i1:W1.cell? (aD g 1)=some (.s (sA gb) N cp):=M1.o.1.hb.cell 1;have i2:W1.cell? (aD g 2)=some vO:=M1.o.1.hb.cell 2;have p0:=M1.o.1.place hi;rcases HA.o.1.off i hi with hp|⟨j,hp,hj⟩);{rw[hp,kQ1]at p0;have HP:=Hx hp;clear hp;have BC:=Hx (eN W1 3 #[vI (i:Int)]);have XC:Hid (Ext W1 (W1.alloc (.cells #[vI (i:Int)] 3))):=Hx ((eR W1).alloc _);have M2:=Hx (M1.o.1.K XC.o);have qn:B<=(W1.alloc (.cells #[vI (i:Int)] 3)).heap.size:=(by have:=M2.o.bg;have:=M2.o.hb.lt;omega);have VB:=Hx M2.o.ob;have qk:=M2.o.hb.cell 2;have qm:=M2.o.hb.frozen 2;(go_wp2_with (at_builtin;refine dW _ 28 3 _ 1 8 rfl _ _ rfl Tryz.underlying28 Tryz.info3 rfl (by decide) B vO O.length (ints O) rfl VB.o [vI (i:Int)] rfl (by simp[Value.oneCell']) W1.heap.size rfl BC.o (by unfold maxLen;omega) (by omega) qn ?_));intro g9 c9 w9 qe qa qf;have T3:=Hx (M2.o.pushed rfl qe qa (by simpa using qf));have B9:Blk w9 g 326 #[.s (sA ga) N ck,.s (sA gb) N cp,vO]:=(eG (S:=fun b=>vO.ownBlock=some b) qa fun g e=>e).blk M2.o.hb fun e=>aW M2.o.ob e (t:=326) (by decide) _ _ M2.o.hb;have y2:=B9.cell 2;have y3:=B9.frozen 2;have F3:=Hx ((M1.o.2.tr (FrB.ext XC.o)).tr T3.o.2);clear qe qa qf VB qk qm i1 i2 p0 BC B9;(go_upto_region 8 with fail);(generalize w9.setCell (aD g 2) (.s (sA g9) (O.length+1) c9)=W4 at*;have X4:Hid (Ext W4 W4.drew):=Hx ((eR W4).drewN 1);have M4:=Hx (T3.o.1.K X4.o);have HSW:Hid (W4.drew.cell? (aD g 1)=some (.s (sA gb) N cp)/\W4.drew.cell? (aD g 2)=some (.s (sA g9) (O.length+1) c9)):=Hx (⟨M4.o.hb.cell 1,M4.o.hb.cell 2⟩);have q1:=M4.o.place hi;have f1:=M4.o.pb.frozenAt i;clear M2 T3 XC M1;refine wp_region_last (fun w'=>w'.cell? (aD g 1)=some (.s (sA gb) N cp)/\w'.cell? (aD g 2)=some (.s (sA g9) (O.length+1) c9)) 11 (by kernel_rfl) ?_;generalize W4.drew=D at*;refine wP 0 rfl HSW.o ?_;try simp only[Act.put,yA,yB,yC,yD,yE,yF]);refine wP 1 rfl HSW.o ?_;refine wP 2 rfl HSW.o ?_;refine wP 4 rfl HSW.o ?_;refine wP 5 rfl HSW.o ?_;refine wP 6 rfl HSW.o ?_;refine wP 7 rfl HSW.o ?_;refine wV 3 rfl HSW.o ?_;refine wV 8 rfl HSW.o ?_;refine wP 9 rfl HSW.o ?_;(refine wP 10 rfl HSW.o ?_;try simp only[Act.put,yA,yB,yC,yD,yE,yF]);obtain⟨s1,s2⟩:=HSW.o;refine aV (by kernel_rfl) rfl (by rfl) (fun KK hK=>?_);go_simp;refine hK.o _ _ ?_;clear hK KK;refine wpAny_done (by kernel_rfl) ?_ _;have M5:Hid (HpM B g ga ck gb cp N (.s (sA g9) (O.length+1) c9) (D.setCell (aD gb i) (vI ((O.length:Int)+1))) (K.set i k) (P.set i (O.length+1)) (O++[i])):=Hx (M4.o.setP i (O.length+1));have F5:Hid (FrB B w (D.setCell (aD gb i) (vI ((O.length:Int)+1)))):=Hx ((F3.o.tr (FrB.ext X4.o)).tr (fJ ((M4.o.pb.lt gb rfl).1) _ _));obtain⟨u1,u2,u3⟩:=HA.o.1.put (k:=k) HA.o.2.1 hi HP.o;have U:=Hx (kQa u1 (kQa u2 u3));clear HSW s1 s2 q1 f1 M4 X4 F3 HA HP u1 u2 u3 y2 y3;generalize D.setCell (aD gb i) (vI ((O.length:Int)+1))=W5 at*;have i1:W5.cell? (aD g 1)=some (.s (sA gb) N cp):=M5.o.hb.cell 1;have p1:=M5.o.place hi;rw[yM (by rw[PL.o];exact hi),kQ1]at p1;have qi:(O++[i]).length=O.length+1:=(by simp);have HL:=Hx qi;have wl:wrap64 (O.length:Int)=(O.length:Int):=(by unfold wrap64;omega);generalize hO:O.length=n at*;clear qi hO;(go_wp2_with fail);refine(sC B g ga ck gb cp N (.s (sA g9) (n+1) c9) (K.set i k) (P.set i (n+1)) (O++[i]) n _ M5.o U.o.1 (by rw[HL.o];omega) (.inl (by rw[HL.o];exact U.o.2.1)) (by have:=U.o.1.few;omega)).mono ?_;rintro e wT ⟨rfl,P9,O9,hS,hH⟩;have qg:Hid (FrB B w wT/\HpQ B g ga ck gb cp N wT (fun x=>if x=i then some k else qP K P x)):=Hx (⟨F5.o.tr hS.fr,_,_,_,_,⟨hS.hm,hS.hp,by rw[hS.len];exact hH⟩,fun x=>(hS.q x).trans (U.o.2.2 x)⟩);clear hS hH p1 i1;go_wp2;go_ret;exact⟨rfl,qg.o⟩};rw[hp,kQ1]at p0;have qj:=(yH.1 hj).1;have e1:(((j+1:Nat):Int)==0)=false:=yK.2 (by omega);have wj:wrap64 (j:Int)=(j:Int):=(by unfold wrap64;omega);have qh:k<=aK K i:=HA.o.2.2.2 _ (by unfold qP;rw[hp];simp);obtain⟨u1,u2,u3⟩:=HA.o.1.less HA.o.2.1 hj qh;have U:=Hx (kQa u1 (kQa u2 u3));clear hp hj qh u1 u2 u3 HA i2;(go_wp2_with fail);refine(sC B g ga ck gb cp N vO (K.set i k) P O j _ M1.o.1 U.o.1 qj (.inl U.o.2.1) (by omega)).mono ?_;rintro e wT ⟨rfl,P9,O9,hS,hH⟩;have qg:Hid (FrB B w wT/\HpQ B g ga ck gb cp N wT (fun x=>if x=i then some k else qP K P x)):=Hx (⟨M1.o.2.tr hS.fr,_,_,_,_,⟨hS.hm,hS.hp,by rw[hS.len];exact hH⟩,fun x=>(hS.q x).trans (U.o.2.2 x)⟩);clear hS hH p0 i1;go_wp2;go_ret;exact⟨rfl,qg.o⟩
theorem sE{w:World}{B g N:Nat}(hg:w.heap[g]?=some (.cells (madeCells #[vI 0] N) 3 (0,0)))(hB:B<=g)(hN:N<=65536):w.ownsRow B 3 1 (.s (sA g) N N) N (List.replicate N (vI 0)):=
 ⟨by simp,.inr ⟨g,N,_,rfl,hB,hg,yX _,by unfold maxLen;omega,by rw[size_madeCells,Nat.mul_one],by rw[toList_madeCells_one,Nat.mul_one,yU (by simp)]⟩⟩
theorem jzj{w:World}{N a b:Nat}(hN:N<=65536)(hab:(a=0/\b=1)\/(a=1/\b=0)):
  HpQ w.heap.size (w.heap.size+1+1) (w.heap.size+a) N (w.heap.size+b) N N (((w.alloc (.cells (madeCells #[vI 0] N) 3)).alloc (.cells (madeCells #[vI 0] N) 3)).alloc (.cells #[.s (sA (w.heap.size+a)) N N,.s (sA (w.heap.size+b)) N N,zN] 326)).drew (fun _=>none)/\
  Ext w (((w.alloc (.cells (madeCells #[vI 0] N) 3)).alloc (.cells (madeCells #[vI 0] N) 3)).alloc (.cells #[.s (sA (w.heap.size+a)) N N,.s (sA (w.heap.size+b)) N N,zN] 326)).drew:=by
 obtain⟨n1,n2⟩:=HP.new N;have x1:Ext w (w.alloc (.cells (madeCells #[vI 0] N) 3)):=(eR w).alloc _;have b0:(w.alloc (.cells (madeCells #[vI 0] N) 3)).heap[w.heap.size]?=some (.cells (madeCells #[vI 0] N) 3 (0,0)):=heap_alloc_new w _;have b1:=heap_alloc_new (w.alloc (.cells (madeCells #[vI 0] N) 3)) (.cells (madeCells #[vI 0] N) 3);rw[World.size_alloc]at b1;generalize hw1:w.alloc (.cells (madeCells #[vI 0] N) 3)=w1 at*;have s1:w1.heap.size=w.heap.size+1:=(by rw[<-hw1,World.size_alloc]);have x2:Ext w1 (w1.alloc (.cells (madeCells #[vI 0] N) 3)):=(eR w1).alloc _;have b2:=eN (w1.alloc (.cells (madeCells #[vI 0] N) 3)) 326 #[.s (sA (w.heap.size+a)) N N,.s (sA (w.heap.size+b)) N N,zN];rw[World.size_alloc,s1]at b2;generalize hw2:w1.alloc (.cells (madeCells #[vI 0] N) 3)=w2 at*;have s2:w2.heap.size=w.heap.size+1+1:=(by rw[<-hw2,World.size_alloc,s1]);have x3:Ext w2 (w2.alloc (.cells #[.s (sA (w.heap.size+a)) N N,.s (sA (w.heap.size+b)) N N,zN] 326)).drew:=((eR w2).alloc _).tr ((eR _).drewN 1);have x4:Ext (w2.alloc (.cells #[.s (sA (w.heap.size+a)) N N,.s (sA (w.heap.size+b)) N N,zN] 326)) (w2.alloc (.cells #[.s (sA (w.heap.size+a)) N N,.s (sA (w.heap.size+b)) N N,zN] 326)).drew:=(eR _).drewN 1;have b3:=b2.K x4;generalize (w2.alloc (.cells #[.s (sA (w.heap.size+a)) N N,.s (sA (w.heap.size+b)) N N,zN] 326)).drew=w3 at*;have c0:w3.heap[w.heap.size]?=some (.cells (madeCells #[vI 0] N) 3 (0,0)):=((x2.tr x3).block _ (by omega)).trans b0;have c1:w3.heap[w.heap.size+1]?=some (.cells (madeCells #[vI 0] N) 3 (0,0)):=(x3.block _ (by omega)).trans b1;have key:∀j,j=0\/j=1->w3.heap[w.heap.size+j]?=some (.cells (madeCells #[vI 0] N) 3 (0,0)):=fun j hj=>(by (rcases hj with rfl|rfl);{exact c0};exact c1);have ka:=sE (B:=w.heap.size) (key a (by omega)) (by omega) hN;have kb:=sE (B:=w.heap.size) (key b (by omega)) (by omega) hN;refine⟨⟨zN,List.replicate N 0,List.replicate N 0,[],⟨⟨b3,?_,?_,World.ownsRow_nil _ _ _ _,by omega,by omega,(fun e=>by cases e),(fun e=>by cases e)⟩,n1,fun k x y k0 hk=>by simp at hk⟩,n2⟩,(x1.tr x2).tr x3⟩;{(have e:aR (List.replicate N 0)=List.replicate N (vI 0):=by unfold aR;rw[List.map_replicate]);rw[e];exact ka};have e:ints (List.replicate N 0)=List.replicate N (vI 0):=(by unfold ints;rw[List.map_replicate];rfl);rw[e];exact kb
def HpN(w:World)(N:Nat)(e:Ending)(w':World):Prop:=∃(g ga ck gb cp:Nat),e=.returned (.tuple #[.pointer (sA g),vI 0])/\HpQ w.heap.size g ga ck gb cp N w' (fun _=>none)/\Ext w w'
theorem jzgh(N:Nat)w(hN:N<=65536):
  Calls Tryz.prog 257 #[vI (N:Int)] w (HpN w N):=by
 have n1:decide ((N:Int)<0)=false:=yP (by omega);have n2:¬((65536:Int)<(N:Int)):=(by omega);have qa:=run_make_row' (P:=Tryz.prog) 28 3 (vI 0) 8 Tryz.underlying28 Tryz.info3 rfl .i64 .i64 N (by omega) (by omega);go_enter Tryz.func257,Tryz.ntmps257;(go_upto_region 3 with fail);(go_region_held3 (fun _=>True) (trivial) (fail));{have F:=Hx (jzj (w:=w) (N:=N) (a:=0) (b:=1) (by omega) (.inl ⟨rfl,rfl⟩));go_wp2;exact bodyPost_ret (v:=.tuple #[.pointer (sA (w.heap.size+1+1)),vI 0]) (by simp[results,Tryz.results257,go_sem]) rfl ⟨_,_,_,_,_,rfl,F.o⟩};have F:=Hx (jzj (w:=w) (N:=N) (a:=1) (b:=0) (by omega) (.inr ⟨rfl,rfl⟩));go_wp2;exact bodyPost_ret (v:=.tuple #[.pointer (sA (w.heap.size+1+1)),vI 0]) (by simp[results,Tryz.results257,go_sem]) rfl ⟨_,_,_,_,_,rfl,F.o⟩
end Fo
theorem jzgi:dT 1=[49]:=by
 unfold dT;rw[show(1:Rat).num=1 from rfl,show(1:Rat).den=1 from rfl];simp[Lib.decDigits]
theorem sF(neg:Bool)A(n c:Nat)A'(n' c':Nat)(q:Rat)(hq:q=1)w(h:aO w neg A n c A' n' c' q)(ht:Tab w):
  Calls Tryz.prog 16 #[.agg #[.bool neg,.s A n c,.s A' n' c']] w fun e w'=>e=.returned (.string ⟨#[49]⟩)/\Ext w w':=by
 subst hq;obtain⟨h1,h2⟩:=h.lens (k:=1) (by unfold SzQ;decide+kernel);have:=wD neg A n c A' n' c' 1 w h (by omega) (by omega) ht;rw[jzgi]at this;exact this
end Go.Proofs.YtllmekijiohgmaaGreatDoor
namespace Go.Proofs.YtllmekijiohgmaaGreatDoor
open Go.RowKit Go.ChangeShapes Go.WideShapes Go.Deep
theorem jzgj{α:Type}(mk:α->List Value)(k:Nat)(hk:∀a,(mk a).length=k)(l:List α)(i r:Nat)(hi:i<l.length)(hr:r<k):(l.flatMap mk)[i*k+r]?=(mk l[i])[r]?:=by
 (induction l generalizing i with|nil=>simp at hi|cons a l ih=>(cases i with|zero=>simp only[xU,Nat.zero_mul,kQu,yB];rw[yR (by rw[hk];exact hr)]|succ i=>simp only[xU,yC];rw[yS (by rw[hk,xP];omega),hk,show(i+1)*k+r-k=i*k+r by rw[xP];omega];exact ih i (by simpa using hi)))
theorem jzgk{α:Type}(mk:α->List Value)(k:Nat)(hk:∀a,(mk a).length=k)(l:List α):(l.flatMap mk).length=l.length*k:=by
 (induction l with|nil=>simp|cons a l ih=>rw[xU,yQ,ih,hk,kQo,xP];omega)
theorem jzgl{w:World}{a:Addr}{v:Value}(h:w.cell? a=some v):a.spot=none/\a.block<w.heap.size:=by
 unfold World.cell? at h;split at h;{rename_i hb;split at h;{cases h};rename_i hs;refine⟨by cases ha:a.spot <;> simp_all,Nat.lt_of_not_le fun hge=>by rw[kQn hge]at hb;cases hb⟩};cases h
theorem nQ{H:Type}{enc:TypeId×Value->H}{P:Program}{w}{base:Nat}{spare:Nat->Bool}{held:Bool}{α:Type}[Inhabited α](mk:α->List Value)(wf:α->Prop)(k:Nat)(hk1:0<k)(hk:∀a,(mk a).length=k){t e:TypeId}{fuel:Nat}{cs:List Value}{x:DataW H×List MemPlace}
  (ht:P.underlying t=some (.slice e)) (hc:P.cellsOf e=k) (hel:∀(n:Nat) (qe:List Value) (y:DataW H×List MemPlace),DataW.trod enc P w base spare held n e qe=some y->∃a,qe=mk a/\wf a)
  (h:DataW.trod enc P w base spare held fuel t cs=some x):
  ∃(A:OA) (l:List α) (c:Nat),cs=[.s A l.length c]/\l.length<=c/\c<=maxLen/\(∀a∈l,wf a)/\Rd w A (l.flatMap mk):=by
 (rcases open_slice ht h with⟨rfl,_⟩|⟨a,len,cap,m,n,D,Pl,rfl,hb,hl,hm,hmm,rfl,hx⟩);{exact⟨none,[],0,rfl,yX _,yZ _,(fun _ h=>by cases h),Rd.nil _ _⟩};have qj:len<=m:=(by rw[hmm];split <;> omega);obtain⟨F,hF⟩:=choose_lt (α:=α) (p:=fun i v=>w.cells? base (a.add (i*k)) k=some (mk v)/\wf v) (n:=m) (fun i hi=>by obtain⟨qe,h1,h2⟩:=hx i hi;rw[hc]at h1;obtain⟨v,rfl,hv⟩:=hel _ _ _ h2;exact⟨v,h1,hv⟩);refine⟨some a,(List.range len).map F,cap,by simp,by simpa using hl,hm,?_,?_⟩;{intro v hv;obtain⟨i,hi,rfl⟩:=kQl.1 hv;exact(hF i (by have:=vX.1 hi;omega)).2};intro qi;have qf:0<len:=(by (rcases kQm len with h0|h0);{subst h0;simp at qi};exact h0);have qa:∀i r,i<len->r<k->w.cell? (a.add (i*k+r))=(mk (F i))[r]?:=fun i r hi hr=>(by have:=(World.cells?_some (hF i (by omega)).1).2.2 r hr;rwa [add_add]at this);have qh:=qa 0 0 qf hk1;rw[show a.add (0*k+0)=a from by simp[Addr.add],yG (by rw[hk];exact hk1)]at qh;obtain⟨hs,qg⟩:=jzgl qh;obtain⟨b,o,s⟩:=a;simp only at hs qg;subst hs;refine⟨b,o,rfl,qg,fun j hj=>?_⟩;rw[jzgk mk k hk,xV,kZm]at hj;have hd:j/k<len:=Nat.div_lt_of_lt_mul (by rw[vE];exact hj);have hr:=xT j hk1;have h1:=qa (j/k) (j%k) hd hr;have h2:=jzgj mk k hk ((List.range len).map F) (j/k) (j%k) (by simpa using hd) hr;rw[iU,vE,kZj]at h1;rw[vE (j/k) k,kZj]at h2;rw[h1,h2];simp
theorem jzgm{n:Int}(h:(Lit.int .i64 n).wf=true):i64 n:=by
 simp[Lit.wf,IntKind.min,IntKind.max,IntKind.signed,IntKind.bits]at h;unfold i64;omega
theorem jzgn(l:List Bool):aG l=l.flatMap fun b:Bool=>[Value.bool b]:=by
 (induction l with|nil=>rfl|cons a l ih=>rw[xU, <-ih];rfl)
theorem jzgo{H:Type}{enc:TypeId×Value->H}{P:Program}{w}{base:Nat}{spare:Nat->Bool}{held:Bool}{t e:TypeId}{fuel:Nat}{cs:List Value}{x:DataW H×List MemPlace}
  (ht:P.underlying t=some (.slice e)) (he:P.underlying e=some .bool) (hc:P.cellsOf e=1) (h:DataW.trod enc P w base spare held fuel t cs=some x):
  ∃(A:OA) (l:List Bool) (c:Nat),cs=[.s A l.length c]/\l.length<=c/\c<=maxLen/\Rd w A (aG l):=by
 obtain⟨A,l,c,h1,h2,h3,_,h5⟩:=nQ (fun b:Bool=>[Value.bool b]) (fun _=>True) 1 (by decide) (fun _=>rfl) ht hc (fun n cs' y hy=>by obtain⟨b,rfl,_⟩:=DataW.trod_bool he hy;exact⟨b,rfl,trivial⟩) h;refine⟨A,l,c,h1,h2,h3,?_⟩;rw[jzgn];exact h5
instance:Inhabited Lk:=⟨⟨0,0,0,0,0,0,0⟩⟩
theorem jzgp{α:Type}{l:List α}(h:l.length=7):∃a b c d e f g,l=[a,b,c,d,e,f,g]:=by
 match l,h with
 | [a,b,c,d,e,f,g],_=>exact⟨a,b,c,d,e,f,g,rfl⟩
theorem jzgq{α:Type}{l:List α}(h:l.length=2):∃a b,l=[a,b]:=by
 match l,h with
 | [a,b],_=>exact⟨a,b,rfl⟩
theorem eJ{α:Type}{l:List α}{n:Nat}(i:Nat)(h:l.length=n)(hi:i<n):∃y,l[i]?=some y:=⟨_,yG (by omega)⟩
section
variable {H:Type} {enc:TypeId×Value->H} {w:World} {base:Nat} {spare:Nat->Bool} {held:Bool}
theorem Tryz.cells_int:Tryz.prog.cellsOf 3=1:=by kernel_rfl
theorem fG{n:Nat}{v:Value}{y:Option (DataW H×List MemPlace)}{z:DataW H×List MemPlace}(hy:y=some z)(h:DataW.trod enc Tryz.prog w base spare held n 3 [v]=y):∃x,v=vI x/\i64 x:=by
 rw[hy]at h;obtain⟨x,e,_,hw⟩:=DataW.trod_int Tryz.underlying3 h;exact⟨x,by simpa using e,jzgm hw⟩
theorem jzgr{n:Nat}{cs:List Value}{y:DataW H×List MemPlace}(h:DataW.trod enc Tryz.prog w base spare held n 118 cs=some y):∃l:Lk,cs=l.cells/\l.wf:=by
 obtain⟨xs,m,_,_,hl,qa,hf⟩:=DataW.trod_struct Tryz.underlying118 h;have c7:Tryz.prog.cellsOf 118=7:=(by kernel_rfl);have c2:Tryz.prog.cellsOf 116=2:=(by kernel_rfl);have c1:=Tryz.cells_int;rw[c7]at hl;obtain⟨a0,a1,a2,a3,a4,a5,a6,rfl⟩:=jzgp hl;have qa:xs.length=6:=qa;have h0:DataW.trod enc Tryz.prog w base spare held m 3 (List.take (Tryz.prog.cellsOf 3) (List.drop 0 [a0,a1,a2,a3,a4,a5,a6]))=xs[0]?:=hf 0 _ rfl;have h1:DataW.trod enc Tryz.prog w base spare held m 3 (List.take (Tryz.prog.cellsOf 3) (List.drop 1 [a0,a1,a2,a3,a4,a5,a6]))=xs[1]?:=hf 1 _ rfl;have h2:DataW.trod enc Tryz.prog w base spare held m 116 (List.take (Tryz.prog.cellsOf 116) (List.drop 2 [a0,a1,a2,a3,a4,a5,a6]))=xs[2]?:=hf 2 _ rfl;have h3:DataW.trod enc Tryz.prog w base spare held m 3 (List.take (Tryz.prog.cellsOf 3) (List.drop 4 [a0,a1,a2,a3,a4,a5,a6]))=xs[3]?:=hf 3 _ rfl;have h4:DataW.trod enc Tryz.prog w base spare held m 3 (List.take (Tryz.prog.cellsOf 3) (List.drop 5 [a0,a1,a2,a3,a4,a5,a6]))=xs[4]?:=hf 4 _ rfl;have h5:DataW.trod enc Tryz.prog w base spare held m 3 (List.take (Tryz.prog.cellsOf 3) (List.drop 6 [a0,a1,a2,a3,a4,a5,a6]))=xs[5]?:=hf 5 _ rfl;clear hf h;obtain⟨y0,e0⟩:=eJ 0 qa (by omega);obtain⟨y1,e1⟩:=eJ 1 qa (by omega);obtain⟨y2,e2⟩:=eJ 2 qa (by omega);obtain⟨y3,e3⟩:=eJ 3 qa (by omega);obtain⟨y4,e4⟩:=eJ 4 qa (by omega);obtain⟨y5,e5⟩:=eJ 5 qa (by omega);rw[c1]at h0 h1 h3 h4 h5;rw[c2]at h2;obtain⟨x0,rfl,g0⟩:=fG e0 h0;obtain⟨x1,rfl,g1⟩:=fG e1 h1;obtain⟨x4,rfl,g4⟩:=fG e3 h3;obtain⟨x5,rfl,g5⟩:=fG e4 h4;obtain⟨x6,rfl,g6⟩:=fG e5 h5;rw[e2]at h2;obtain⟨zs,m2,_,_,_,hz,qe⟩:=DataW.trod_array Tryz.underlying116 h2;have k0:=qe 0 (by decide);have k1:=qe 1 (by decide);obtain⟨z0,d0⟩:=eJ 0 hz (by omega);obtain⟨z1,d1⟩:=eJ 1 hz (by omega);simp only[c1]at k0 k1;obtain⟨x2,rfl,g2⟩:=fG d0 k0;obtain⟨x3,rfl,g3⟩:=fG d1 k1;exact⟨⟨x0,x1,x2,x3,x4,x5,x6⟩,rfl,g0,g1,g2,g3,g4,g5,g6⟩
theorem jzgs{v:Value}{d:DataW H}{p:List MemPlace}{r:Reach}{b0:Nat}(hv:Value.okWide Tryz.prog w r b0 25 v)(h:DataW.Trod enc Tryz.prog w base spare held 25 v d p):
  ∃(t:Tp) (AO:OA) (co:Nat) (AL:OA) (cl:Nat),v=.agg #[vI t.nodes,.s AO t.over.length co,.s AL t.links.length cl]/\i64 t.nodes/\t.over.length<=co/\t.links.length<=cl/\co<=maxLen/\cl<=maxLen/\Rd w AO (aG t.over)/\Rd w AL (t.links.flatMap Lk.cells)/\∀l∈t.links,l.wf:=by
 obtain⟨v0,v1,v2,y0,y1,y2,n,rfl,_,_,h0,h1,h2⟩:=Joins.open_agg3 Tryz.underlying25 (by kernel_rfl) (by kernel_rfl) hv h;obtain⟨N,rfl,hN⟩:=fG rfl h0;obtain⟨AO,over,co,e1,l1,m1,r1⟩:=jzgo Tryz.underlying22 Tryz.underlying4 (by kernel_rfl) h1;obtain⟨AL,links,cl,e2,l2,m2,wf,r2⟩:=nQ Lk.cells Lk.wf 7 (by decide) (fun _=>rfl) Tryz.underlying23 (by kernel_rfl) (fun n cs y hy=>jzgr hy) h2;injection e1 with e1
 injection e2 with e2
 subst e1 e2;exact⟨⟨N,over,links⟩,AO,co,AL,cl,rfl,hN,l1,l2,m1,m2,r1,r2,wf⟩
end
end Go.Proofs.YtllmekijiohgmaaGreatDoor
namespace Go.Proofs.YtllmekijiohgmaaGreatDoor
open Go.RowKit
def bdL(ls:List Lb)(K:Nat):Prop:=∀l∈ls,l.arcs.length<=K
theorem jzk{a b c:Rat}(h1:a<b)(h2:b<c):a<c:=by
 have h3:=kQs (vB h1) (vB h2);refine Rat.lt_of_le_of_ne h3 ?_;rintro rfl;exact(kQ4.2 (vB h1)) h2
theorem jzgt(a b:Rat):a<b\/a=b\/b<a:=by
 by_cases h:a<b;{exact .inl h};by_cases h2:b<a;{exact .inr (.inr h2)};exact .inr (.inl (Rat.le_antisymm (kQ4.1 h2) (kQ4.1 h)))
theorem fU(ps:LQ)(x y:LN):fH ps x y=true↔prQ ps x<prQ ps y\/(prQ ps x=prQ ps y/\(x.length<y.length\/(x.length=y.length/\dJ x y<0))):=by
 unfold fH wF or3 dP bM;rw[decide_eq_true_iff];by_cases h1:prQ ps x<prQ ps y;{simp[h1]};by_cases h2:prQ ps x=prQ ps y;{by_cases h3:x.length<y.length;{simp[h1,h2,h3,kZf]};by_cases h4:x.length=y.length;{simp[h1,h2,h3,h4,kZf]};simp[h1,h2,h3,h4,kZf]};simp[h1,h2]
theorem jzl:∀x y:LN,x.length=y.length->¬dJ x y<0->¬dJ y x<0->x=y
 | [],[],_,_,_=>rfl
 |a::x,b::y,hl,h1,h2=>by
  unfold dJ at h1 h2;by_cases e:a<b
  ·rw[if_pos e]at h1;omega
  ·by_cases e2:a=b
   ·subst e2
    simp at h1 h2 hl;rw[jzl x y hl (by omega) (by omega)]
   ·rw[if_pos (by omega)]at h2;omega
theorem jzgu:∀x y:LN,x.length=y.length->x=y\/dJ x y<0\/dJ y x<0:=fun x y h=>by
 by_cases h1:dJ x y<0;{exact .inr (.inl h1)};{by_cases h2:dJ y x<0;{exact .inr (.inr h2)};{exact .inl (jzl x y h h1 h2)}}
theorem sG:∀x y z:LN,x.length=y.length->y.length=z.length->dJ x y<0->dJ y z<0->dJ x z<0
 | [],[],[],_,_,h,_=>h
 |a::x,b::y,c::z,hl,hl2,h1,h2=>by
  unfold dJ at h1 h2⊢;simp only[kQo]at hl hl2;by_cases e1:a<b <;> by_cases e2:b<c <;> by_cases e3:a=b <;> by_cases e4:b=c <;> simp[e1,e2,e3,e4]at h1 h2⊢ <;> try omega
  ·subst e3 e4
   exact sG x y z (by omega) (by omega) h1 h2
theorem sH:∀x:LN,dJ x x=0
 | []=>rfl
 |a::x=>by unfold dJ;simp[sH x]
theorem jzm:∀(x y z:LN),x.length=y.length->dJ x y<0->dJ (x++z) (y++z)<0
 | [],[],_,_,h=>by simp[dJ]at h
 |a::x,b::y,z,hl,h=>by
  simp only[List.cons_append];unfold dJ at h⊢;by_cases e:a<b
  ·simp[e]
  ·by_cases e2:a=b
   ·subst e2
    simp at h⊢;exact jzm x y z (by simpa using hl) h
   ·simp[e,e2]at h
def leL(ps:LQ)(x y:LN):Prop:=fH ps y x=false
theorem lX(ps:LQ)(x y:LN):leL ps x y↔x=y\/fH ps x y=true:=by
 unfold leL;constructor;{intro h;(have h':¬fH ps y x=true:=(by simp[h]);rw[fU]at h';rcases jzgt (prQ ps x) (prQ ps y)with h1|h1|h1);{exact .inr ((fU ps x y).2 (.inl h1))};{(rcases Nat.lt_trichotomy x.length y.length with h2|h2|h2);{exact .inr ((fU ps x y).2 (.inr ⟨h1,.inl h2⟩))};{(rcases jzgu x y h2 with h3|h3|h3);{exact .inl h3};{exact .inr ((fU ps x y).2 (.inr ⟨h1,.inr ⟨h2,h3⟩⟩))};exact absurd (.inr ⟨h1.symm,.inr ⟨h2.symm,h3⟩⟩) h'};exact absurd (.inr ⟨h1.symm,.inl h2⟩) h'};exact absurd (.inl h1) h'};(intro h;apply Bool.eq_false_iff.2;intro hb;rw[fU]at hb;rcases h with h|h);{subst h;(rcases hb with h1|⟨_,h1|⟨_,h1⟩⟩);{exact kZf h1};{omega};rw[sH]at h1;omega};(rw[fU]at h;rcases h with h1|⟨h1,h2⟩);{(rcases hb with h3|⟨h3,_⟩);{exact kZf (jzk h1 h3)};rw[h3]at h1;exact kZf h1};(rcases hb with h3|⟨_,h3⟩);{rw[h1]at h3;exact kZf h3};(rcases h2 with h2|⟨h2,h4⟩ <;> rcases h3 with h3|⟨h3,h5⟩ <;> try omega);have:=sG x y x h2 h3 h4 h5;rw[sH]at this;omega
theorem jzgv{ps:LQ}{x y z:LN}(h1:fH ps x y=true)(h2:fH ps y z=true):fH ps x z=true:=by
 (rw[fU]at*;rcases h1 with h1|⟨h1,h1'⟩ <;> rcases h2 with h2|⟨h2,h2'⟩);{exact .inl (jzk h1 h2)};{exact .inl (by rw[<-h2];exact h1)};{exact .inl (by rw[h1];exact h2)};(refine .inr ⟨h1.trans h2,?_⟩;rcases h1' with h1'|⟨h1',g1⟩ <;> rcases h2' with h2'|⟨h2',g2⟩);{exact .inl (by omega)};{exact .inl (by omega)};{exact .inl (by omega)};exact .inr ⟨by omega,sG x y z h1' h2' g1 g2⟩
theorem leL.refl(ps:LQ)(x:LN):leL ps x x:=(lX ps x x).2 (.inl rfl)
theorem leL.trans{ps:LQ}{x y z:LN}(h1:leL ps x y)(h2:leL ps y z):leL ps x z:=by
 rw[lX]at*;rcases h1 with rfl|h1
 ·exact h2
 rcases h2 with rfl|h2
 ·exact .inr h1
 exact .inr (jzgv h1 h2)
theorem leL.anti{ps:LQ}{x y:LN}(h1:leL ps x y)(h2:leL ps y x):x=y:=by
 rcases(lX ps x y).1 h1 with h|h
 ·exact h
 unfold leL at h2;rw[h]at h2;cases h2
theorem leL.of_bef{ps:LQ}{x y:LN}(h:fH ps x y=true):leL ps x y:=(lX ps x y).2 (.inr h)
theorem kI(ps:LQ)(x y:LN):prQ ps (x++y)=prQ ps x+prQ ps y:=by
 have key:∀(l:LN) (s:Rat),l.foldl (fun s a=>s+ps[a]?.getD 0) s=s+prQ ps l:=(by intro l;unfold prQ;(induction l with|nil=>intro s;simp[Rat.add_zero]|cons a l ih=>intro s;rw[List.foldl_cons,List.foldl_cons,ih,ih (0+_),Rat.zero_add,Rat.add_assoc]));unfold prQ;rw[kZt,key];rfl
def fV(ps:LQ):Prop:=∀a:Nat,(0:Rat)<=ps[a]?.getD 0
theorem jzgw{ps:LQ}(h:fV ps):∀x:LN,0<=prQ ps x:=by
 intro x;(induction x with|nil=>exact vC|cons a x ih=>rw[show a::x=[a]++x from rfl,kI];have:prQ ps [a]=0+ps[a]?.getD 0:=rfl;rw[this,Rat.zero_add];have h1:=Rat.add_le_add_left (c:=prQ ps x) |>.2 (h a);rw[Rat.add_zero,Rat.add_comm]at h1;exact kQs ih h1)
theorem jzgx{ps:LQ}(h:fV ps)(x y z:LN)(hy:y≠ []):fH ps (x++z) (x++y++z)=true:=by
 rw[fU];have h1:prQ ps (x++z)<=prQ ps (x++y++z):=(by rw[kI,kI,kI];have h2:=Rat.add_le_add_left (c:=prQ ps x) |>.2 (jzgw h y);rw[Rat.add_zero]at h2;exact(Rat.add_le_add_right (c:=prQ ps z)).2 h2);have h3:(x++z).length<(x++y++z).length:=(by have:=List.length_pos_iff.2 hy;simp;omega);by_cases h4:prQ ps (x++z)=prQ ps (x++y++z);{exact .inr ⟨h4,.inl h3⟩};exact .inl (Rat.lt_of_le_of_ne h1 h4)
theorem leL.ext{ps:LQ}(h:fV ps)(x y:LN):leL ps x (x++y):=by
 by_cases hy:y=[];{subst hy;rw[List.append_nil];exact leL.refl ps x};have:=jzgx h x y [] hy;simp at this;exact leL.of_bef this
theorem leL.app{ps:LQ}{x y:LN}(h:leL ps x y)(z:LN):leL ps (x++z) (y++z):=by
 rcases(lX ps x y).1 h with rfl|h
 ·exact leL.refl _ _
 apply leL.of_bef;rw[fU]at*;rw[kI,kI];rcases h with h|⟨h,h'⟩
 ·exact .inl (Rat.add_lt_add_right.2 h)
 refine .inr ⟨by rw[h],?_⟩;rcases h' with h'|⟨h',g⟩
 ·exact .inl (by simp;omega)
 exact .inr ⟨by simp;omega,jzm x y z h' g⟩
theorem leL.nil{ps:LQ}(h:fV ps)(x:LN):leL ps [] x:=by
 have:=leL.ext h [] x;simpa using this
def FW(t:Tp)(down:List Bool)(d:Nat):Nat->LN->Nat->Prop
 |u,[],v=>u=v
 |u,a::p,v=>a∈aE t u/\fO t down a d=true/\FW t down d (aJ t a).toNat p v
theorem FW.app{t}{down:List Bool}{d:Nat}:∀(p:LN) {q:LN} {u v x:Nat},FW t down d u p v->FW t down d v q x->FW t down d u (p++q) x
 | [],_,_,_,_,h1,h2=>by
   have h1:_=_:=h1;subst h1;exact h2
 |_::p,_,_,_,_,h1,h2=>⟨h1.1,h1.2.1,FW.app p h1.2.2 h2⟩
theorem FW.snoc_inv{t}{down:List Bool}{d:Nat}:∀(p:LN) {a u v:Nat},FW t down d u (p++[a]) v->∃m,FW t down d u p m/\a∈aE t m/\fO t down a d=true/\v=(aJ t a).toNat
 | [],a,u,v,h=>⟨u,rfl,h.1,h.2.1,h.2.2.symm⟩
 |b::p,a,u,v,h=>by
  obtain⟨m,h1,h2⟩:=FW.snoc_inv p h.2.2;exact⟨m,⟨h.1,h.2.1,h1⟩,h2⟩
theorem FW.one{t}{down:List Bool}{d a u:Nat}(h1:a∈aE t u)(h2:fO t down a d=true):FW t down d u [a] (aJ t a).toNat:=⟨h1,h2,rfl⟩
theorem iH{t}(hv:aA t=true){n a:Nat}(h:a∈aE t n):0<=aJ t a/\aJ t a<t.nodes/\(aJ t a).toNat<t.nodes.toNat/\aX t a=(n:Int):=by
 unfold aE bV at h;rw[List.mem_filter,vX]at h;obtain⟨h1,h2⟩:=h;have h2:aX t a=(n:Int):=(by simpa using h2);have hl:a/2<t.links.length:=(by omega);unfold aA at hv;rw[vM,xW]at hv;have qa:=hv.2 _ (xR hl);unfold Lk.ok ndB at qa;simp at qa;have:0<=aJ t a/\aJ t a<t.nodes:=(by unfold aJ;rw[yG hl];simp only[];split <;> omega);exact⟨this.1,this.2,by omega,h2⟩
structure DI(t:Tp)(down:List Bool)(ps:LQ)(s d:Nat)(ls:List Lb):Prop where
 len:ls.length=t.nodes.toNat
 walk:∀(v:Nat) (l:Lb),ls[v]?=some l->l.known=true->FW t down d s l.arcs v
 src:∃l,ls[s]?=some l/\l.known=true/\l.arcs=[]
 dd:∀l,ls[d]?=some l->l.done=false
 kn:∀(v:Nat) (l:Lb),ls[v]?=some l->l.done=true->l.known=true
 lo:∀(v m:Nat) (l k:Lb),ls[v]?=some l->l.done=true->ls[m]?=some k->k.known=true->k.done=false->leL ps l.arcs k.arcs
 step:∀(u a:Nat) (l:Lb),ls[u]?=some l->l.done=true->a∈aE t u->fO t down a d=true->∃k,ls[(aJ t a).toNat]?=some k/\k.known=true/\leL ps k.arcs (l.arcs++[a])
theorem DI.low{t}{down:List Bool}{ps:LQ}{s d:Nat}{ls:List Lb}(h:DI t down ps s d ls)(hp:fV ps):∀(n:Nat) (p:LN) (v:Nat),p.length=n->FW t down d s p v->
  (∃l,ls[v]?=some l/\l.done=true/\leL ps l.arcs p)\/(∃(m:Nat) (k:Lb),ls[m]?=some k/\k.known=true/\k.done=false/\leL ps k.arcs p)
 |0,p,v,hn,hw=>by
  have:p=[]:=kQp.1 hn;subst this;have hw:s=v:=hw;subst hw;obtain⟨l,h1,h2,h3⟩:=h.src;cases hd:l.done
  ·exact .inr ⟨s,l,h1,h2,hd,by rw[h3];exact leL.refl _ _⟩
  exact .inl ⟨l,h1,hd,by rw[h3];exact leL.refl _ _⟩
 |n+1,p,v,hn,hw=>by
  obtain⟨q,a,rfl⟩:∃q a,p=q++[a]:=by
   have:p≠ []:=(by rintro rfl;simp at hn);exact⟨p.dropLast,p.getLast this,(List.dropLast_concat_getLast this).symm⟩
  obtain⟨u,h1,h2,h3,rfl⟩:=FW.snoc_inv q hw;rcases h.low hp n q u (by simpa using hn) h1 with⟨l,k1,k2,k3⟩|⟨m,k,k1,k2,k3,k4⟩
  ·obtain⟨k,j1,j2,j3⟩:=h.step u a l k1 k2 h2 h3
   have qa:=j3.trans (k3.app [a]);cases hd:k.done
   ·exact .inr ⟨_,k,j1,j2,hd,qa⟩
   exact .inl ⟨k,j1,hd,qa⟩
  exact .inr ⟨m,k,k1,k2,k3,k4.trans (leL.ext hp q [a])⟩
structure DJ(t:Tp)(down:List Bool)(ps:LQ)(s d n:Nat)(X:LN)(done:LN)(ls:List Lb):Prop where
 len:ls.length=t.nodes.toNat
 walk:∀(v:Nat) (l:Lb),ls[v]?=some l->l.known=true->FW t down d s l.arcs v
 src:∃l,ls[s]?=some l/\l.known=true/\l.arcs=[]
 dd:∀l,ls[d]?=some l->l.done=false
 kn:∀(v:Nat) (l:Lb),ls[v]?=some l->l.done=true->l.known=true
 lo:∀(v m:Nat) (l k:Lb),ls[v]?=some l->l.done=true->ls[m]?=some k->k.known=true->k.done=false->leL ps l.arcs k.arcs
 step:∀(u a:Nat) (l:Lb),u≠n->ls[u]?=some l->l.done=true->a∈aE t u->fO t down a d=true->∃k,ls[(aJ t a).toNat]?=some k/\k.known=true/\leL ps k.arcs (l.arcs++[a])
 own:∃l,ls[n]?=some l/\l.done=true/\l.known=true/\l.arcs=X
 all:∀(v:Nat) (l:Lb),ls[v]?=some l->l.done=true->leL ps l.arcs X
 past:∀a∈done,fO t down a d=true->∃k,ls[(aJ t a).toNat]?=some k/\k.known=true/\leL ps k.arcs (X++[a])
theorem FW.lt{t}{down:List Bool}{d:Nat}(hv:aA t=true):∀(p:LN) {u v:Nat},u<t.nodes.toNat->FW t down d u p v->v<t.nodes.toNat
 | [],_,_,hu,h=>by
   have h:_=_:=h;rw[<-h];exact hu
 |_::p,_,_,_,h=>FW.lt hv p (iH hv h.1).2.2.1 h.2.2
theorem jzn{α:Type}:∀(p:List α),p=[]\/∃q a,p=q++[a]:=fun p=>by
 by_cases h:p=[];{exact .inl h};{exact .inr ⟨p.dropLast,p.getLast h,(List.dropLast_concat_getLast h).symm⟩}
theorem jzo{t}(hv:aA t=true){u a:Nat}(h:a∈aE t u):((aJ t a).toNat:Int)=aJ t a:=by
 have:=(iH hv h).1;omega
theorem FW.alive{t}{down:List Bool}{s d:Nat}(hv:aA t=true){p:LN}{v:Nat}(h:FW t down d s p v):v=s\/v=d\/aZ t (v:Int)=false:=by
 rcases jzn p with rfl|⟨q,a,rfl⟩
 ·exact .inl (show s=v from h).symm
 obtain⟨u,_,h2,h3,rfl⟩:=FW.snoc_inv q h;unfold fO at h3;rw[<-jzo hv h2,vM,Bool.or_eq_true,Bool.not_eq_true',Bool.not_eq_true',beq_iff_eq]at h3;rcases h3.2 with h4|h4
 ·exact .inr (.inl (by omega))
 exact .inr (.inr h4)
def KL(t:Tp)(down:List Bool)(s d n:Nat)(x:LN):Prop:=
 (x=[]/\n=s)\/∃(y:LN) (a u:Nat),x=y++[a]/\FW t down d s y u/\a∈aE t u/\aU down a=false/\n=(aJ t a).toNat
theorem KL.fw{t}{down:List Bool}{s d n:Nat}{x:LN}(hv:aA t=true)(h:KL t down s d n x)(hl:x=[]\/n=d\/aZ t (n:Int)=false):FW t down d s x n:=by
 (rcases h with⟨rfl,rfl⟩|⟨y,a,u,rfl,h1,h2,h3,rfl⟩);{rfl};(refine FW.app y h1 (FW.one h2 ?_);unfold fO;rw[<-jzo hv h2,h3];rcases hl with hl|hl|hl);{simp at hl};{rw[hl];simp};rw[hl];simp
structure KI(t:Tp)(down:List Bool)(ps:LQ)(s d:Nat)(V:List Bool)(fin:Nat->LN)(H:List (Nat×LN))(n:Nat)(todo:LN):Prop where
 len:V.length=t.nodes.toNat
 lab:∀m x,(m,x)∈H->KL t down s d m x
 size:∀m x,(m,x)∈H->x.length<=V.count true
 best:∀u,V[u]?=some true->u=s\/aZ t (u:Int)=false->FW t down d s (fin u) u/\(fin u).length<V.count true/\∀p,FW t down d s p u->leL ps (fin u) p
 front:∀u a,V[u]?=some true->u=s\/aZ t (u:Int)=false->a∈aE t u->aU down a=false->V[(aJ t a).toNat]?=some false->(u=n/\a∈todo)\/((aJ t a).toNat,fin u++[a])∈H
 src:V[s]?=some false->(s,[])∈H
 dd:V[d]?=some false
theorem KI.low{t}{down:List Bool}{ps:LQ}{s d n:Nat}{V:List Bool}{fin:Nat->LN}{H:List (Nat×LN)}(h:KI t down ps s d V fin H n [])(hv:aA t=true)(hp:fV ps)(hs:s<t.nodes.toNat):∀(k:Nat) (p:LN) (v:Nat),p.length=k->FW t down d s p v->V[v]?=some false->∃m y,(m,y)∈H/\leL ps y p
 |0,p,v,hk,hw,hV=>by
  have:p=[]:=kQp.1 hk;subst this;have hw:s=v:=hw;subst hw;exact⟨s,[],h.src hV,leL.refl _ _⟩
 |k+1,p,v,hk,hw,hV=>by
  obtain⟨q,a,rfl⟩:∃q a,p=q++[a]:=by
   rcases jzn p with rfl|h1
   ·simp at hk
   exact h1
  obtain⟨u,h1,h2,h3,rfl⟩:=FW.snoc_inv q hw;have hu:=FW.lt hv q hs h1;obtain⟨b,hb⟩:∃b,V[u]?=some b:=⟨_,yG (by rw[h.len];exact hu)⟩;cases b
  case false=>
   obtain⟨m,y,i1,i2⟩:=h.low hv hp hs k q u (by simpa using hk) h1 hb;exact⟨m,y,i1,i2.trans (leL.ext hp q [a])⟩
  have qa:u=s\/aZ t (u:Int)=false:=by
   rcases h1.alive hv with h4|h4|h4
   ·exact .inl h4
   ·subst h4;rw[h.dd]at hb;cases hb
   exact .inr h4
  have qe:aU down a=false:=by
   unfold fO at h3;simp at h3;exact h3.1
  rcases h.front u a hb qa h2 qe hV with⟨_,h4⟩|h4
  ·cases h4
  exact⟨_,_,h4,((h.best u hb qa).2.2 q h1).app [a]⟩
theorem KI.none_{t}{down:List Bool}{ps:LQ}{s d n:Nat}{V:List Bool}{fin:Nat->LN}(h:KI t down ps s d V fin [] n [])(hv:aA t=true)(hp:fV ps)(hs:s<t.nodes.toNat)(p:LN):¬FW t down d s p d:=fun hw=>by
 obtain⟨m,y,h1,_⟩:=h.low hv hp hs _ p d rfl hw h.dd;cases h1
section
variable {t:Tp} {down:List Bool} {ps:List Rat} {s d n k:Nat} {V:List Bool} {fin:Nat->List Nat} {H H':List (Nat×List Nat)} {x:List Nat}
theorem KI.skip(h:KI t down ps s d V fin H k [])(h1:∀z,z∈H->z=(n,x)\/z∈H')(h2:∀z,z∈H'->z∈H)(hV:V[n]?=some true)(m:Nat):KI t down ps s d V fin H' m []:=by
 refine⟨h.len,fun m x hx=>h.lab m x (h2 _ hx),fun m x hx=>h.size m x (h2 _ hx),h.best,fun u a g1 g2 g3 g4 g5=>.inr ?_,fun hS=>?_,h.dd⟩;{(rcases h.front u a g1 g2 g3 g4 g5 with⟨_,g6⟩|g6);{cases g6};(rcases h1 _ g6 with e|e);{(injection e with e1 e2);rw[e1,hV]at g5;cases g5};exact e};(rcases h1 _ (h.src hS)with e|e);{(injection e with e1 e2);rw[e1,hV]at hS;cases hS};exact e
theorem KI.least(h:KI t down ps s d V fin H k [])(hv:aA t=true)(hp:fV ps)(hs:s<t.nodes.toNat)(hx:(n,x)∈H)(hm:∀m y,(m,y)∈H->leL ps x y)(hV:V[n]?=some false):∀p,FW t down d s p n->leL ps x p:=fun p hw=>by
 obtain⟨m,y,h1,h2⟩:=h.low hv hp hs _ p n rfl hw hV;exact(hm m y h1).trans h2
theorem jzgy{V:List Bool}{n:Nat}(hV:V[n]?=some false):(V.set n true).count true=V.count true+1:=by
 have hl:=(yH.1 hV).1;have he:=(yH.1 hV).2;rw[List.count_set hl,he];simp
theorem KI.reach(h:KI t down ps s d V fin H k [])(hv:aA t=true)(hp:fV ps)(hs:s<t.nodes.toNat)(hx:(n,x)∈H)(h1:∀z,z∈H->z=(n,x)\/z∈H')(h2:∀z,z∈H'->z∈H)(hm:∀m y,(m,y)∈H->leL ps x y)(hV:V[n]?=some false)(hd:n≠d):
  KI t down ps s d (V.set n true) (fun u=>if u=n then x else fin u) H' n (aE t n):=by
 have hc:=jzgy hV;have hl:=(yH.1 hV).1;have hg:∀u b,u≠n->(V.set n true)[u]?=some b->V[u]?=some b:=fun u b hu hb=>(by rwa [vN (fun e=>hu e.symm)]at hb);have qa:∀u,(V.set n true)[u]?=some false->u≠n/\V[u]?=some false:=fun u hb=>(by have hu:u≠n:=fun e=>(by subst e;rw[yM hl]at hb;cases hb);exact⟨hu,hg u false hu hb⟩);refine⟨by rw[yV];exact h.len,fun m x hx=>h.lab m x (h2 _ hx),fun m x hx=>by rw[hc];have:=h.size m x (h2 _ hx);omega,fun u hu hal=>?_,fun u a g1 g2 g3 g4 g5=>?_,fun hS=>?_,by rw[vN hd];exact h.dd⟩;{by_cases e:u=n;{subst e;simp only[if_true];have qe:u=s->x=[]:=fun e=>(by subst e;exact((hm _ _ (h.src hV)).anti (leL.nil hp x)));(refine⟨(h.lab _ _ hx).fw hv ?_,by have:=h.size _ _ hx;omega,h.least hv hp hs hx hm hV⟩;rcases hal with e|e);{exact .inl (qe e)};exact .inr (.inr e)};simp only[if_neg e];obtain⟨i1,i2,i3⟩:=h.best u (hg u true e hu) hal;exact⟨i1,by omega,i3⟩};{obtain⟨g6,g7⟩:=qa _ g5;by_cases e:u=n;{subst e;exact .inl ⟨rfl,g3⟩};(simp only[if_neg e];rcases h.front u a (hg u true e g1) g2 g3 g4 g7 with⟨_,g8⟩|g8);{cases g8};(rcases h1 _ g8 with e2|e2);{(injection e2 with e3 e4);exact absurd e3 g6};exact .inr e2};(obtain⟨g6,g7⟩:=qa _ hS;rcases h1 _ (h.src g7)with e2|e2);{(injection e2 with e3 e4);exact absurd e3 g6};exact e2
theorem KI.off{a:Nat}{todo:LN}(h:KI t down ps s d V fin H n (a::todo))(hd:aU down a=true):KI t down ps s d V fin H n todo:=by
 (refine⟨h.len,h.lab,h.size,h.best,fun u b g1 g2 g3 g4 g5=>?_,h.src,h.dd⟩;rcases h.front u b g1 g2 g3 g4 g5 with⟨rfl,g6⟩|g6);{(rcases xZ.1 g6 with rfl|g6);{rw[hd]at g4;cases g4};exact .inl ⟨rfl,g6⟩};exact .inr g6
theorem KI.push{a:Nat}{todo:LN}(h:KI t down ps s d V fin H n (a::todo))(hn:V[n]?=some true)(hal:n=s\/aZ t (n:Int)=false)(ha:a∈aE t n)(hd:aU down a=false)(hH:∀z,z∈H'↔z=((aJ t a).toNat,fin n++[a])\/z∈H):KI t down ps s d V fin H' n todo:=by
 obtain⟨b1,b2,_⟩:=h.best n hn hal;refine⟨h.len,fun m x hx=>?_,fun m x hx=>?_,h.best,fun u b g1 g2 g3 g4 g5=>?_,fun hS=>(hH _).2 (.inr (h.src hS)),h.dd⟩;{(rcases(hH _).1 hx with e|e);{(injection e with e1 e2);subst e1 e2;exact .inr ⟨fin n,a,n,rfl,b1,ha,hd,rfl⟩};exact h.lab _ _ e};{(rcases(hH _).1 hx with e|e);{(injection e with e1 e2);subst e2;simp;omega};exact h.size _ _ e};(rcases h.front u b g1 g2 g3 g4 g5 with⟨rfl,g6⟩|g6);{(rcases xZ.1 g6 with rfl|g6);{exact .inr ((hH _).2 (.inl rfl))};exact .inl ⟨rfl,g6⟩};exact .inr ((hH _).2 (.inr g6))
theorem KI.start(hs:s<t.nodes.toNat)(hd:d<t.nodes.toNat)(m:Nat):KI t down ps s d (List.replicate t.nodes.toNat false) fin [(s,[])] m []:=by
 have qa:∀u b,(List.replicate t.nodes.toNat false)[u]?=some b->b=false:=fun u b h=>(by rw[xB]at h;split at h;{injection h with h;exact h.symm};cases h);refine⟨by simp,fun m x hx=>?_,fun m x hx=>?_,fun u hu=>?_,fun u a hu=>?_,fun _=>by simp,by rw[xB,if_pos hd]⟩;{simp at hx;exact .inl ⟨hx.2,hx.1⟩};{simp at hx;rw[hx.2];simp};{cases qa _ _ hu};cases qa _ _ hu
end
def PO(t:Tp):Nat->Bool->LN->Nat->Prop
 |u,_,[],v=>u=v
 |u,first,a::p,v=>a∈aE t u/\(first=true\/aZ t (u:Int)=false)/\PO t (aJ t a).toNat false p v
theorem jzgz{t:Tp}{a:Nat}{l:Lk}(hl:t.links[a/2]?=some l)(h0:0<=l.c0/\0<=l.c1):((kG t a:Nat):Int)=if a%2=0 then l.c0 else l.c1:=by
 unfold kG;rw[hl];simp only[];split <;> omega
theorem jzg0{t}(hv:aA t=true){i:Nat}{l:Lk}(hl:t.links[i]?=some l):0<=l.c0/\0<=l.c1:=by
 unfold aA at hv;rw[vM,xW]at hv;have qa:=hv.2 l (yJ hl);unfold Lk.ok inB at qa;simp at qa;omega
theorem lY t AO(co:Nat)AL(cl:Nat)(a:Nat)w(ht:aF w t AO co AL cl)(hv:aA t=true)(ha:a/2<t.links.length):
  Calls Tryz.prog 213 #[.agg #[vI t.nodes,.s AO t.over.length co,.s AL t.links.length cl],vI a] w fun e w'=>e=.returned (vI (kG t a:Nat))/\Ext w w':=by
 have hl:=ht.ll;have qe:=ht.cl;obtain⟨l,qa⟩:∃l,t.links[a/2]?=some l:=⟨_,yG ha⟩;obtain⟨b,o,rfl,hb,c0,c1,c2,c3,_⟩:=ht.link qa;rw[jzgz qa (jzg0 hv qa)];clear ht qa hv;by_cases h:a%2=0;{rw[if_pos h];have h':((a:Int)%2)=0:=(by omega);clear h;go_enter Tryz.func213,Tryz.ntmps213;go_wp2;go_ret;exact⟨rfl,(eR w).alloc _⟩};rw[if_neg h];have h':((a:Int)%2)=1:=(by omega);clear h;go_enter Tryz.func213,Tryz.ntmps213;go_wp2;go_ret;exact⟨rfl,(eR w).alloc _⟩
namespace Fo
structure cZ(w0:World)(gx gd N B1:Nat)(cs:Array Value)(w:World)(l:List Int):Prop where
 bx:Blk w gx 298 cs
 ds:w.ownsRow w0.heap.size 3 1 (.s (sA gd) N N) N (aR l)
 ex:Ext w0 w
 lt:gx<B1/\gd<B1
 le:w0.heap.size<=gx/\w0.heap.size<=B1
section
variable {w0 w w':World} {gx gd N B1:Nat} {cs:Array Value} {l:List Int}
theorem cZ.K(h:cZ w0 gx gd N B1 cs w l)(hx:Ext w w'):cZ w0 gx gd N B1 cs w' l:=⟨h.bx.K hx,dB h.ds hx,h.ex.tr hx,h.lt,h.le⟩
theorem cZ.frb(h:cZ w0 gx gd N B1 cs w l)(k:FrB B1 w w'):cZ w0 gx gd N B1 cs w' l:=
 ⟨k.blk h.bx fun e=>by have:=h.lt;omega,k.own h.ds fun b hb e=>by
  have h1:=h.lt.2;have h2:gd=b:=Option.some.inj hb;omega,FrS.ext k h.ex fun b hb=>by have:=h.le;omega,h.lt,h.le⟩
theorem cZ.len(h:cZ w0 gx gd N B1 cs w l):l.length=N:=by have:=h.ds.1;unfold aR at this;simpa using this
theorem cZ.at_(h:cZ w0 gx gd N B1 cs w l){i:Nat}(hi:i<N):w.cell? (aD gd i)=some (vI (aI l i)):=by
 rw[h.ds.cellAt i (by omega)];unfold aR aI;rw[yW,yG (by rw[h.len];exact hi)];rfl
theorem cZ.sT(h:cZ w0 gx gd N B1 cs w l)(i:Nat)(x:Int):cZ w0 gx gd N B1 cs (w.setCell (aD gd i) (vI x)) (l.set i x)/\FrS (fun b=>b=gd) w (w.setCell (aD gd i) (vI x)):=by
 obtain⟨s1,s2⟩:=h.ds.stored i (vI x);rw[jza]at s1;have k:FrS (fun b=>b=gd) w (w.setCell (aD gd i) (vI x)):=eG s2 fun y e=>(Option.some.inj e).symm;exact⟨⟨k.blk h.bx fun e=>aW h.ds (g:=gd) rfl (t:=298) (by decide) _ _ (e▸h.bx),s1,k.ext h.ex fun b hb=>by have:=(h.ds.lt gd rfl).1;omega,h.lt,h.le⟩,k⟩
end
def unN(N:Nat)(l:List Int):Nat:=sN N fun n=>if aI l n<0 then 1 else 0
theorem jzp{N:Nat}{l:List Int}{i:Nat}{x:Int}(hl:l.length=N)(hi:i<N)(h0:aI l i= -1)(hx:0<=x):unN N (l.set i x)<unN N l:=by
 have h:=lO (n:=N) (x:=i) (f:=fun n=>if aI (l.set i x) n<0 then 1 else 0) (g:=fun n=>if aI l n<0 then 1 else 0) hi fun k _ e=>(by simp only[fI (show i<l.length by omega),e,if_false]);simp only[fI (show i<l.length by omega),if_true,h0,show¬x<0 by omega,if_false,show(-1:Int)<0 by decide]at h;unfold unN;simp only[fI (show i<l.length by omega)];omega
def bdL(N:Nat)(l:List Int):Prop:=∀n,n<N->aI l n<=65535*((N:Int)-(unN N l:Int))
theorem sI(N:Nat)(l:List Int):unN N l<=N:=yY (lP (c:=1) fun k _=>by split <;> omega) (by omega)
theorem jzg1{N:Nat}{l:List Int}{i:Nat}{x:Int}(h:bdL N l)(hl:l.length=N)(hi:i<N)(h0:aI l i= -1)(hx:0<=x)(hb:x<=65535*((N:Int)-(unN N l:Int))+65535):bdL N (l.set i x):=fun n hn=>by
 have h1:=jzp hl hi h0 hx;have h2:=h n hn;rw[fI (by omega)];split <;> omega
def kJ(w:World)(A N:Nat)(tl hd:Nat->Nat)(cs:Nat->Int)(ok:Nat->Bool)(root:Nat)(e:Ending)(w':World):Prop:=
 ∃(g:Nat) (l:List Int),e=.returned (.s (sA g) N N)/\w'.ownsRow w.heap.size 3 1 (.s (sA g) N N) N (aR l)/\l.length=N/\DS A N tl hd cs ok root (aI l)/\Ext w w'
theorem HpQ.congr{B g ga ck gb cp N:Nat}{w}{q q':Nat->Option Int}(h:HpQ B g ga ck gb cp N w q)(e:∀x,q x=q' x):HpQ B g ga ck gb cp N w q':=by
 obtain⟨vO,K,P,O,h1,h2⟩:=h;exact⟨vO,K,P,O,h1,fun x=>(h2 x).trans (e x)⟩
theorem HpQ.K{B g ga ck gb cp N:Nat}{w w'}{q:Nat->Option Int}(h:HpQ B g ga ck gb cp N w q)(hx:Ext w w'):HpQ B g ga ck gb cp N w' q:=by
 obtain⟨vO,K,P,O,h1,h2⟩:=h;exact⟨vO,K,P,O,h1.K hx,h2⟩
theorem HpQ.low{B g ga ck gb cp N:Nat}{w w'}{q:Nat->Option Int}{S:Nat->Prop}(h:HpQ B g ga ck gb cp N w q)(k:FrS S w w')(hs:∀b,S b->b<B):HpQ B g ga ck gb cp N w' q:=by
 obtain⟨vO,K,P,O,h1,h2⟩:=h;exact⟨vO,K,P,O,h1.low k hs,h2⟩
structure MkR(w:World)(t:Tp)(AD:OA)(cd:Nat)(down:List Bool):Prop where
 rd:Rd w AD (aG down)
 le:down.length<=cd
 fit:down=[]\/down.length=2*t.links.length
theorem MkR.K{w w'}{t}{AD}{cd:Nat}{down:List Bool}(h:MkR w t AD cd down)(hx:Ext w w'):MkR w' t AD cd down:=⟨h.rd.K hx,h.le,h.fit⟩
theorem jzg2{i N:Nat}(h:i<N):(List.replicate i (-1:Int)++List.replicate (N-i) 0).set i (-1)=List.replicate (i+1) (-1)++List.replicate (N-(i+1)) 0:=by
 obtain⟨k,hk⟩:∃k,N-i=k+1:=⟨N-i-1,by omega⟩;rw[List.set_append_right _ _ (by simp),xC,Nat.sub_self,hk,show N-(i+1)=k by omega,List.replicate_succ' (n:=i),List.append_assoc];rfl
theorem nR{t}(hv:aA t=true):t.over=[]\/(t.over.length:Int)=t.nodes:=by
 unfold aA cX at hv;simp only[vM,Bool.or_eq_true,decide_eq_true_eq,kQp]at hv;exact hv.1.2
theorem dC{t}(hv:aA t=true):t.links.length<=256:=by
 unfold aA cX at hv;simp only[vM,decide_eq_true_eq]at hv;exact hv.1.1.2
theorem jzq t AO(co:Nat)AL(cl:Nat)AD(cd:Nat)(down:List Bool)(root N:Nat)(fid1 fid2:FuncId)(lb1 lb2:List Value)(tl hd:Nat->Nat)(ok:Nat->Bool)(X:Nat->LN)w
  (ht:aF w t AO co AL cl) (hv:aA t=true) (hN:t.nodes=(N:Int)) (hr:root<N) (hm:MkR w t AD cd down)
  (qp:∀(args:Array Value) (wx:World),(callFunc fid1 args).run Tryz.prog wx=.ok (.enter fid1 args) wx) (qn:∀(args:Array Value) (wx:World),(callFunc fid2 args).run Tryz.prog wx=.ok (.enter fid2 args) wx)
  (qH:∀(wx:World) (n:Nat),Ext w wx->n<N->Calls Tryz.prog fid1 (vI (n:Int)::lb1).toArray wx fun e w'=>∃(A:OA) (c:Nat),e=.returned (.s A (X n).length c)/\(X n).length<=c/\Rd w A (ints (X n))/\Ext wx w')
  (qR:∀(wx:World) (a:Nat),Ext w wx->a<2*t.links.length->Calls Tryz.prog fid2 (vI (a:Int)::lb2).toArray wx fun e w'=>e=.returned (vI (tl a:Int))/\Ext wx w')
  (hX:∀n,n<N->∀a,a∈X n↔a<2*t.links.length/\hd a=n) (qO:∀a,a<2*t.links.length->tl a<N) (hXl:∀n,n<N->(X n).length<=2*t.links.length) (qJ:∀a,a<2*t.links.length->hd a<N) (qD:∀a,a<2*t.links.length->ok a=(!aU down a&&(hd a==root||!aZ t (hd a:Int)))):
  Calls Tryz.prog 236 #[.agg #[vI t.nodes,.s AO t.over.length co,.s AL t.links.length cl,.s AD down.length cd,vI (root:Int),.func (.func fid1) #[] lb1.toArray,.func (.func fid2) #[] lb2.toArray]] w (kJ w (2*t.links.length) N tl hd (csZ t) ok root):=by
 have q7:1<=N/\N<=64:=by
  have h:=hv;unfold aA cX inB at h;simp only[vM,decide_eq_true_eq]at h;omega
 have HF:=Hx (kQa qH qR);have HG:=Hx (kQa hX (kQa qO (kQa qJ qD)));have qT:Hid ((∀n,n<N->(X n).length<=512)):=Hx (fun n hn=>yY (hXl n hn) (by have:=dC hv;omega));have C1:=Hx qp;have C2:=Hx qn;generalize qk:(#[vI t.nodes,.s AO t.over.length co,.s AL t.links.length cl,.s AD down.length cd,vI (root:Int),.func (.func fid1) #[] lb1.toArray,.func (.func fid2) #[] lb2.toArray]:Array Value)=cs;subst qk;have B0:=Hx (eN w 298 #[vI t.nodes,.s AO t.over.length co,.s AL t.links.length cl,.s AD down.length cd,vI (root:Int),.func (.func fid1) #[] lb1.toArray,.func (.func fid2) #[] lb2.toArray]);have X0:Hid (Ext w (w.alloc (.cells #[vI t.nodes,.s AO t.over.length co,.s AL t.links.length cl,.s AD down.length cd,vI (root:Int),.func (.func fid1) #[] lb1.toArray,.func (.func fid2) #[] lb2.toArray] 298))):=Hx ((eR w).alloc _);have q3:=run_make_row' (P:=Tryz.prog) 28 3 (vI 0) 8 Tryz.underlying28 Tryz.info3 rfl .i64 .i64 N (by omega) (by omega);have i0:=B0.o.cell 0;have OV:=Hx (show∀(wx:World) (n:Nat),Ext w wx->n<N->Calls Tryz.prog 138 #[.agg #[vI (N:Int),.s AO t.over.length co,.s AL t.links.length cl],vI (n:Int)] wx fun e w'=>e=.returned (.bool (aZ t (n:Int)))/\Ext wx w' from fun wx n hx hn=>by
  have ho:=(nR hv);have h:=lI t AO co AL cl (n:Int) wx (ht.K hx) (by omega) (by
   rcases ho with h|h
   ·exact .inl h
   exact .inr (by omega))
  rw[hN]at h;exact h)
 have CO:=Hx (show∀(wx:World) (a:Nat),Ext w wx->a<2*t.links.length->Calls Tryz.prog 213 #[.agg #[vI (N:Int),.s AO t.over.length co,.s AL t.links.length cl],vI (a:Int)] wx fun e w'=>e=.returned (vI (csZ t a))/\Ext wx w' from fun wx a hx ha=>by
  have h:=lY t AO co AL cl a wx (ht.K hx) hv (by omega);rw[hN]at h;exact h)
 have DN:=Hx (show∀(wx:World) (a:Nat),Ext w wx->a<2*t.links.length->Calls Tryz.prog 109 #[.s AD down.length cd,vI (a:Int)] wx fun e w'=>e=.returned (.bool (aU down a))/\wx=w' from fun wx a hx ha=>by
  have hl:=dC hv;exact lJ AD cd down a wx (hm.rd.K hx) hm.le (by rcases hm.fit with h|h <;> simp[h] <;> omega) (by
   rcases hm.fit with h|h
   ·exact .inl h
   exact .inr (by omega)) (by omega))
 have CS:=Hx (Gok.of hv).cs;clear ht hv hm qH qR hX qO hXl qJ qD qp qn;rw[hN]at*;clear hN
 go_enter Tryz.func236,Tryz.ntmps236
 go_upto_region 1 with fail
 generalize w.alloc (.cells #[vI (N:Int),.s AO t.over.length co,.s AL t.links.length cl,.s AD down.length cd,vI (root:Int),.func (.func fid1) #[] lb1.toArray,.func (.func fid2) #[] lb2.toArray] 298)=w1 at*;generalize hgx:w.heap.size=gx at*;have q4:gx<w1.heap.size:=B0.o.lt;have I2:=Hx (show cZ w gx w1.heap.size N (w1.heap.size+1) #[vI (N:Int),.s AO t.over.length co,.s AL t.links.length cl,.s AD down.length cd,vI (root:Int),.func (.func fid1) #[] lb1.toArray,.func (.func fid2) #[] lb2.toArray] (w1.alloc (.cells (madeCells #[vI 0] N) 3)) (List.replicate N 0)from
  ⟨B0.o.K ((eR w1).alloc _),by
   have h:=sE (B:=w.heap.size) (heap_alloc_new w1 (.cells (madeCells #[vI 0] N) 3)) (by omega) (by omega);have e:aR (List.replicate N 0)=List.replicate N (vI 0):=(by unfold aR;rw[List.map_replicate]);rw[e];exact h,X0.o.tr ((eR w1).alloc _),⟨by omega,by omega⟩,by omega⟩)
 have qW:(w1.alloc (.cells (madeCells #[vI 0] N) 3)).heap.size=w1.heap.size+1:=World.size_alloc _ _
 go_upto_region 2 with fail
 generalize w1.alloc (.cells (madeCells #[vI 0] N) 3)=w2 at*;generalize hgd:w1.heap.size=gd at*;clear B0 X0 q3 i0;obtain⟨cs,qk⟩:∃cs:Array Value,cs=#[vI (N:Int),.s AO t.over.length co,.s AL t.links.length cl,.s AD down.length cd,vI (root:Int),.func (.func fid1) #[] lb1.toArray,.func (.func fid2) #[] lb2.toArray]:=⟨_,rfl⟩;rw[<-qk]at I2;have XC:=Hx (show∀wx,Blk wx gx 298 cs->wx.cell? (aD gx 0)=some (vI (N:Int))/\wx.cell? (aD gx 1)=some (.s AO t.over.length co)/\wx.cell? (aD gx 2)=some (.s AL t.links.length cl)/\wx.cell? (aD gx 3)=some (.s AD down.length cd)/\wx.cell? (aD gx 4)=some (vI (root:Int))/\wx.cell? (aD gx 5)=some (.func (.func fid1) #[] lb1.toArray)/\wx.cell? (aD gx 6)=some (.func (.func fid2) #[] lb2.toArray)from fun wx h=>by
  rw[qk]at h;exact⟨h.cell 0,h.cell 1,h.cell 2,h.cell 3,h.cell 4,h.cell 5,h.cell 6⟩)
 clear qk qW;have I2:Hid (cZ w gx gd N (gd+1) cs w2 (List.replicate 0 (-1)++List.replicate (N-0) 0)):=Hx (I2.o);go_wp2
 go_loopg [4,22] N (fun m _ it wx=>∃i:Nat,N-i=m/\i<=N/\it=vI (i:Int)/\Hid (cZ w gx gd N (gd+1) cs wx (List.replicate i (-1)++List.replicate (N-i) 0)))
 case atStart=>exact⟨0,rfl,yZ _,rfl,I2⟩
 obtain⟨i,rfl,hi,rfl,I⟩:=hrel;clear I2;by_cases qA:i<N
 ·have iN:(i:Int)<(N:Int):=by omega
  have y0:=I.o.at_ qA;have f0:=I.o.ds.frozenAt i;have I3:=Hx (show cZ w gx gd N (gd+1) cs (wr.setCell (aD gd i) (vI (-1))) (List.replicate (i+1) (-1)++List.replicate (N-(i+1)) 0)from by
   rw[<-jzg2 qA];exact(I.o.sT i (-1)).1)
  clear I;go_wp2
  go_roundg (N-(i+1))
  case measure=>omega
  exact⟨i+1,rfl,by omega,by go_num,I3⟩
 obtain rfl:i=N:=(by omega);have I4:=Hx (show cZ w gx gd i wr.heap.size cs wr (List.replicate i (-1))from by
  have h:=I.o;rw[Nat.sub_self,List.replicate_zero,List.append_nil]at h;exact⟨h.bx,h.ds,h.ex,⟨h.bx.lt,(h.ds.lt gd rfl).2⟩,⟨h.le.1,h.ex.size⟩⟩)
 clear I;obtain⟨N,rfl⟩:∃N,N=i:=⟨_,rfl⟩;obtain⟨c0,_⟩:=XC.o _ I4.o.bx;obtain⟨w4,rfl⟩:∃w4,w4=wr:=⟨_,rfl⟩
 go_wp2_with fail
 refine(jzgh N _ (by omega)).mono ?_;rintro e w5 ⟨g,ga,ck,gb,cp,rfl,hq,x5⟩;have I5:=Hx (I4.o.K x5);have Q5:=Hx hq;generalize w4.heap.size=B1 at*;clear hq x5 I4 c0 hi qA;obtain⟨_,_,_,_,c4,_⟩:=XC.o _ I5.o.bx;obtain⟨vO,K,P,O,hA,qg⟩:=Q5.o
 go_wp2_with fail
 refine(jzi B1 g ga ck gb cp N vO K P O root 0 _ hA hr (fun j hj=>by rw[qg]at hj;cases hj) (by omega)).mono ?_;rintro e w6 ⟨rfl,qM,qS⟩;have J0:=Hx (show∃(l:List Int) (q:Nat->Option Int),bdL N l/\cZ w gx gd N B1 cs w6 l/\HpQ B1 g ga ck gb cp N w6 q/\DJ (2*t.links.length) N tl hd (csZ t) ok root l q fun _=>True from
  ⟨_,_,(fun n hn=>by rw[iC];have:=sI N (List.replicate N (-1));omega),I5.o.frb qM,qS.congr (fun x=>by rw[qg]),DJ.start hr⟩)
 clear qM qS qg hA I5 Q5 c4;obtain⟨l0,q0,hu,J1⟩:=J0.o;have J1:=Hx (kQa J1 hu);clear hu;clear J0;go_wp2
 go_loopg [7,8,9,11,12,13,14,15] (unN N l0) (fun m _ _ _ _ _ _ _ _ wx=>∃(l:List Int) (q:Nat->Option Int),unN N l=m/\Hid ((cZ w gx gd N B1 cs wx l/\HpQ B1 g ga ck gb cp N wx q/\DJ (2*t.links.length) N tl hd (csZ t) ok root l q fun _=>True)/\bdL N l))
 case atStart=>exact⟨l0,q0,rfl,J1⟩
 obtain⟨l,q,rfl,JJ⟩:=hrel;have J:=Hx JJ.o.1;have BD:=Hx JJ.o.2;clear J1 JJ;obtain⟨vO,K,P,O,hA,qg⟩:=J.o.2.1;have HQ:=Hx qg;have HA:=Hx hA;clear qg hA;cases hO:O[0]? with
 |none=>
  have qX:O=[]:=by
   cases O with
   |nil=>rfl
   |cons a b=>simp at hO
  subst qX;have q5:=Hx (show kJ w (2*t.links.length) N tl hd (csZ t) ok root (.returned (.s (sA gd) N N)) wr from
   ⟨gd,l,rfl,J.o.1.ds,J.o.1.len,J.o.2.2.final fun n=>by rw[<-HQ.o];exact HA.o.hp.none_ n,J.o.1.ex⟩)
  clear hO J HQ
  go_wp2_with fail
  refine(jzge B1 g ga ck gb cp N vO K P _ HA.o).mono ?_;rintro e w7 ⟨rfl,rfl⟩;clear HA;go_wp2;go_ret;exact q5.o
 |some i=>
  have HO:=Hx hO;obtain⟨m1,m2⟩:=HA.o.hp.least HA.o.hh hO;have qf:=(HA.o.hp.inn 0 i hO).1;have iN:(i:Int)<(N:Int):=(by omega);have DP:=Hx (J.o.2.2.pop (fun a ha=>(CS.o a ha).1) (n:=i) (k:=aK K i) (by rw[<-HQ.o];exact m1) fun m j hj=>m2 m j (by rw[HQ.o];exact hj));have HE:=Hx (J.o.2.2.held i (aK K i) (by rw[<-HQ.o];exact m1));have KB:=Hx (show aK K i<=65535*((N:Int)-(unN N l:Int))+65535 from by
   by_cases e:i=root
   ·rcases J.o.2.2.zero with h1|⟨h1,_⟩
    ·have:=HE.o.2.1
     rw[e,h1]at this;omega
    rw[<-HQ.o, <-e,m1]at h1;injection h1 with h1
    have:=sI N l;omega
   obtain⟨a,a1,_,_,a4,a5⟩:=J.o.2.2.wiq i (aK K i) e (by rw[<-HQ.o];exact m1);have h1:=BD.o (hd a) (HG.o.2.2.1 a a1);have h2:=CS.o a a1;omega)
  have qE:Hid (∀n,n<N->aI l n<=aK K i):=Hx (fun n hn=>J.o.2.2.mono n i (aK K i) hn (by rw[<-HQ.o];exact m1));clear hO m1 m2
  go_wp2_with fail
  refine(jzgf B1 g ga ck gb cp N vO K P O i _ HA.o HO.o (by omega)).mono ?_;rintro e w7 ⟨rfl,qF,qN⟩;have I7:=Hx (J.o.1.frb qF);have Q7:=Hx (qN.congr (fun x=>by rw[HQ.o]));generalize aK K i=key at*;clear qF qN HA HQ HO J;have y0:=I7.o.at_ qf;have f0:=I7.o.ds.frozenAt i;have c4:=(XC.o _ I7.o.bx).2.2.2.2.1;have I8:=Hx (I7.o.sT i key);have Q8:=Hx (Q7.o.low I8.o.2 fun b hb=>by rw[hb];exact I7.o.lt.2);have LL:=Hx I7.o.len;have BN:=Hx (jzg1 BD.o LL.o qf HE.o.2.1 HE.o.2.2 KB.o);have KM:Hid (key<=5000000):=Hx (by have:=KB.o;have:=sI N l;omega);have HU:=Hx (jzp (x:=key) LL.o qf HE.o.2.1 HE.o.2.2);have qi:aI (l.set i key) i=key:=(by rw[fI (by rw[LL.o];exact qf),if_pos rfl]);have TP:=Hx (show∀n,n<N->aI (l.set i key) n<=aI (l.set i key) i from fun n hn=>by
   rw[qi,fI (by rw[LL.o];exact qf)]
   split
   ·exact Int.le_refl _
   exact qE.o n hn)
  have Z0:=Hx (show aI (l.set i key) root=0 from DP.o.zero.resolve_right fun e=>by
   have h1:=e.2.1 i qf;rw[qi]at h1;have:=HE.o.2.2;omega)
  have KE:=Hx qi;have K0:Hid (0<=key):=Hx (HE.o.2.2);generalize hl':l.set i key=l' at*;clear qi qE HE hl' LL KB BD
  go_upto_region 13 with fail
  generalize w7.setCell (aD gd i) (vI key)=w8 at*;clear y0 f0 I7 Q7 c4;have c4:=(XC.o _ I8.o.1.bx).2.2.2.2.1;have c0:=(XC.o _ I8.o.1.bx).1;have c1:=(XC.o _ I8.o.1.bx).2.1;have c2:=(XC.o _ I8.o.1.bx).2.2.1
  go_cut [62] (fun s wx=>s=.bool (!decide (i=root)&&aZ t (i:Int))/\Hid (Ext w8 wx))
  case first=>
   by_cases e:i=root
   ·have e1:((i:Int) !=(root:Int))=false:=by rw[e];exact bne_self_eq_false _
    have e2:(!decide (i=root)&&aZ t (i:Int))=false:=(by rw[yO e];rfl);have E2:=Hx e2;clear e e2;go_wp2;go_meet;exact⟨by rw[E2.o],Hx (eR _)⟩
   have e1:((i:Int) !=(root:Int))=true:=bne_iff_ne.2 (by omega);have e2:(!decide (i=root)&&aZ t (i:Int))=aZ t (i:Int):=(by rw[yP e];rfl);have E2:=Hx e2;clear e e2
   go_wp2_with fail
   refine(OV.o _ i I8.o.1.ex qf).mono ?_;rintro e w9 ⟨rfl,x9⟩;go_wp2;go_meet;exact⟨by rw[E2.o],Hx x9⟩
  obtain⟨rfl,X9⟩:=hcut;have I9:=Hx (I8.o.1.K X9.o);have Q9:=Hx (Q8.o.K X9.o);clear I8 Q8 X9 c0 c1 c2 c4;cases hov:!decide (i=root)&&aZ t (i:Int)
  case true=>
   rw[vM,Bool.not_eq_true',decide_eq_false_iff_not]at hov;have D9:=Hx (DP.o.skip (rel':=fun _=>True) fun a ha hoka h0 _=>by
    by_cases e:hd a=i
    ·have h1:=HG.o.2.2.2 a ha
     rw[hoka,e,hov.2]at h1;have h2:(i==root)=false:=yK.2 hov.1;rw[h2]at h1;simp at h1
    exact .inl e)
   clear hov DP TP Z0 KE K0 KM;go_wp2
   go_roundg (unN N l')
   case measure=>exact HU.o
   exact⟨l',_,rfl,Hx ⟨⟨I9.o,Q9.o,D9.o⟩,BN.o⟩⟩
  have qV:=Hx hov;clear hov;have c5:=(XC.o _ I9.o.bx).2.2.2.2.2.1;have qp:=C1.o
  go_wp2_with fail
  refine(HF.o.1 _ i I9.o.ex qf).mono ?_;rintro e qL ⟨A,cA,rfl,qB,qK,qx⟩;have qZ:=qT.o i qf;have RD:=Hx (kQa qK qB);have qG:=Hx (show∃q2,cZ w gx gd N B1 cs qL l'/\HpQ B1 g ga ck gb cp N qL q2/\DJ (2*t.links.length) N tl hd (csZ t) ok root l' q2 fun a=>hd a≠i\/a∈(X i).take 0 from
   ⟨_,I9.o.K qx,Q9.o.K qx,DP.o.skip fun a _ _ _ h=>by
     rcases h with h|h
     ·exact .inl h
     simp at h⟩)
  have XM:=Hx (fun a=>(HG.o.1 i qf a).1);have XA:=Hx (fun a=>(HG.o.1 i qf a).2);clear I9 Q9 DP c5 qp qx qK qB;generalize X i=xs at*;generalize hxn:xs.length=nx at*;have qI:=Hx hxn;clear hxn;go_wp2
  go_loopg [11,12,13,14,15,68] nx (fun m _ _ _ _ _ it wx=>∃j:Nat,nx-j=m/\j<=nx/\it=vI (j:Int)/\Hid (∃q2,cZ w gx gd N B1 cs wx l'/\HpQ B1 g ga ck gb cp N wx q2/\DJ (2*t.links.length) N tl hd (csZ t) ok root l' q2 fun a=>hd a≠i\/a∈xs.take j))
  case atStart=>exact⟨0,rfl,yZ _,rfl,qG⟩
  obtain⟨j,rfl,hj,rfl,J⟩:=hrel;clear qG;obtain⟨q2,J1,J2,J3⟩:=J.o;have I2:=Hx J1;have Q2:=Hx J2;have D2:=Hx J3;clear J1 J2 J3 J;by_cases qU:j<nx
  ·have qu:j<xs.length:=by rw[qI.o];exact qU
   obtain⟨b,o,rfl,hb,hc⟩:=RD.o.1.ints_ qu;obtain⟨a,ha⟩:∃a,xs[j]?=some a:=⟨_,yG qu⟩;rw[ha,kQ1]at hc;have y0:=aH I2.o.ex hc;obtain⟨qt,qQ⟩:=XM.o a (yJ ha);have qe:=Hx (kQa qt qQ);have HM:=Hx (HG.o.2.1 a qt);have TK:=Hx (show∀x,x∈xs.take (j+1)->x∈xs.take j\/x=a from fun x hx=>by
    rw[kQr,ha]at hx
    simpa using hx)
   have jN:(j:Int)<(nx:Int):=(by omega);have c6:=(XC.o _ I2.o.bx).2.2.2.2.2.2;have qn:=C2.o;clear hb hc ha qt qQ qu
   go_wp2_with fail
   refine(HF.o.2 _ a I2.o.ex qe.o.1).mono ?_;rintro e q6 ⟨rfl,qz⟩;have I3:=Hx (I2.o.K qz);have Q3:=Hx (Q2.o.K qz);have mN:(tl a:Int)<(N:Int):=(by have:=HM.o;omega);clear y0 c6 qn qz I2 Q2;have c3:=(XC.o _ I3.o.bx).2.2.2.1;have y0:=I3.o.at_ HM.o
   go_upto_region 18 with fail
   go_cut [86] (fun s wx=>s=.bool (aU down a||decide (0<=aI l' (tl a)))/\Hid (wx=q6))
   case first=>
    go_wp2_with fail
    refine(DN.o _ a I3.o.ex qe.o.1).mono ?_;rintro e ve ⟨rfl,rfl⟩;cases hdn:aU down a
    ·have HD:=Hx hdn
     clear hdn;go_wp2;go_meet;exact⟨by rw[HD.o];rfl,Hx rfl⟩
    have HD:=Hx hdn;clear hdn;go_wp2;go_meet;exact⟨by rw[HD.o];rfl,Hx rfl⟩
   obtain⟨rfl,HW⟩:=hcut;obtain rfl:=HW.o;clear HW c3 y0;cases hb:aU down a||decide (0<=aI l' (tl a))
   case true=>
    have J9:=Hx (show∃q2,cZ w gx gd N B1 cs wc l'/\HpQ B1 g ga ck gb cp N wc q2/\DJ (2*t.links.length) N tl hd (csZ t) ok root l' q2 fun x=>hd x≠i\/x∈xs.take (j+1)from
     ⟨q2,I3.o,Q3.o,D2.o.skip fun x hx hokx h0 hr=>by
      rcases hr with hr|hr
      ·exact .inl (.inl hr)
      rcases TK.o x hr with hr|rfl
      ·exact .inl (.inr hr)
      refine .inr (.inl ?_);have h1:=HG.o.2.2.2 x hx;rw[hokx]at h1;have h2:aU down x=false:=by
       cases h3:aU down x
       ·rfl
       rw[h3]at h1;simp at h1
      rw[h2,Bool.false_or,decide_eq_true_eq]at hb;have h4:=TP.o (tl x) HM.o;have h5:=(CS.o x hx).1;rw[qe.o.2];omega⟩)
    clear hb I3 Q3 D2 TK;go_wp2
    go_roundg (nx-(j+1))
    case measure=>omega
    exact⟨j+1,rfl,by omega,by go_num,J9⟩
   rw[Bool.or_eq_false_iff,decide_eq_false_iff_not]at hb;have HB:Hid (aI l' (tl a)= -1):=Hx (by have:=D2.o.lo (tl a) HM.o;omega);have HO:Hid (ok a=true->aI l' (hd a)=key):=Hx (fun _=>by rw[qe.o.2];exact KE.o);have qY:=Hx hb.1;clear hb;obtain⟨q9,vd⟩:=CS.o a qe.o.1;have k0:=K0.o;have km:=KM.o;have c0:=(XC.o _ I3.o.bx).1;have c1:=(XC.o _ I3.o.bx).2.1;have c2:=(XC.o _ I3.o.bx).2.2.1;have CA:=Hx (CO.o _ a I3.o.ex qe.o.1);generalize hca:csZ t a=ca at*;have qw:=Hx hca;have wk:wrap64 (key+ca)=key+ca:=(by unfold wrap64;omega);clear hca
   go_wp2_with fail
   refine CA.o.mono ?_;rintro e qo ⟨rfl,qy⟩;have I4:=Hx (I3.o.K qy);have Q4:=Hx (Q3.o.K qy);clear qy I3 Q3 c0 c1 c2 CA;obtain⟨vO,K,P,O,hA,qg⟩:=Q4.o;have HQ:=Hx qg;have HA:=Hx hA;clear qg hA Q4
   go_wp2_with fail
   refine(jzgg B1 g ga ck gb cp N vO K P O (tl a) _ HA.o.hm HM.o).mono ?_;rintro e vc ⟨⟨kk,rfl,qC⟩,rfl⟩;have HK:=Hx qC;have qh:=Hx (show∀k,q2 (tl a)=some k->k<=key+ca->∃q2,cZ w gx gd N B1 cs qo l'/\HpQ B1 g ga ck gb cp N qo q2/\DJ (2*t.links.length) N tl hd (csZ t) ok root l' q2 fun x=>hd x≠i\/x∈xs.take (j+1)from fun k hk hle=>
    ⟨q2,I4.o,⟨vO,K,P,O,HA.o,HQ.o⟩,D2.o.skip fun x hx hokx h0 hr=>by
     rcases hr with hr|hr
     ·exact .inl (.inl hr)
     rcases TK.o x hr with hr|rfl
     ·exact .inl (.inr hr)
     exact .inr (.inr ⟨k,hk,by rw[qe.o.2,KE.o,qw.o];exact hle⟩)⟩)
   clear qC;have qj:=Hx (show ok a=true from by
    rw[HG.o.2.2.2 a qe.o.1,qY.o,qe.o.2];have h:=qV.o;by_cases e:i=root
    ·simp[e]
    simp[e]at h;simp[h])
   have qa:=Hx (show(∀k,qP K P (tl a)=some k->key+ca<=k)->Calls Tryz.prog 258 #[.pointer (sA g),vI (tl a:Int),vI (key+ca)] qo fun e w'=>e=.returned (vI 0)/\∃q2,cZ w gx gd N B1 cs w' l'/\HpQ B1 g ga ck gb cp N w' q2/\DJ (2*t.links.length) N tl hd (csZ t) ok root l' q2 fun x=>hd x≠i\/x∈xs.take (j+1)from fun hk=>
    (jzi B1 g ga ck gb cp N vO K P O (tl a) (key+ca) qo HA.o HM.o hk (by omega)).mono fun e w' h=>⟨h.1,_,I4.o.frb h.2.1,h.2.2,by
     have h1:=D2.o.put (rel':=fun x=>hd x≠i\/x∈xs.take (j+1)) (fun b hb=>(CS.o b hb).1) HG.o.2.1 qe.o.1 qj.o (by rw[HO.o qj.o];exact K0.o) (fun n hn=>by rw[qe.o.2];exact TP.o n hn) Z0.o HB.o (fun k hk2=>by
      rw[HO.o qj.o,qw.o];exact hk k ((HQ.o _).trans hk2)) fun b _ hr=>by
       rcases hr with hr|hr
       ·exact .inl (.inl hr)
       rcases TK.o b hr with hr|hr
       ·exact .inl (.inr hr)
       exact .inr hr
     rw[HO.o qj.o,qw.o]at h1;have e1:(fun m=>if m=tl a then some (key+ca)else q2 m)=fun m=>if m=tl a then some (key+ca)else qP K P m:=funext fun m=>by rw[HQ.o m]
     rw[e1]at h1;exact h1⟩)
   cases hq:qP K P (tl a)with
   |none=>
    rw[hq]at qa;have HS:=Hx (qa.o fun k h=>by cases h);clear qa qh hq HK HA HQ D2 TK qj HO HB
    go_wp2_with fail
    refine HS.o.mono ?_;rintro e q1 ⟨rfl,qm⟩;have J9:=Hx qm;clear qm HS I4;go_wp2
    go_roundg (nx-(j+1))
    case measure=>omega
    exact⟨j+1,rfl,by omega,by go_num,J9⟩
   |some k=>
    obtain rfl:=HK.o k hq;by_cases q8:key+ca<kk
    ·rw[hq]at qa
     have HS:=Hx (qa.o fun k h=>by
      injection h with h
      omega)
     clear qa qh hq HK HA HQ D2 TK qj HO HB
     go_wp2_with fail
     refine HS.o.mono ?_;rintro e q1 ⟨rfl,qm⟩;have J9:=Hx qm;clear qm HS I4;go_wp2
     go_roundg (nx-(j+1))
     case measure=>omega
     exact⟨j+1,rfl,by omega,by go_num,J9⟩
    have J9:=Hx (qh.o kk ((HQ.o _).symm.trans hq) (by omega));clear qa qh hq HK HA HQ D2 TK qj HO HB I4;go_wp2
    go_roundg (nx-(j+1))
    case measure=>omega
    exact⟨j+1,rfl,by omega,by go_num,J9⟩
  obtain rfl:j=nx:=(by omega);have D9:=Hx (D2.o.skip (rel':=fun _=>True) fun a ha hoka h0 _=>by
   refine .inl ?_;by_cases e:hd a=i
   ·refine .inr ?_
    rw[yU (by rw[qI.o];exact yX _)];exact XA.o a ⟨ha,e⟩
   exact .inl e)
  clear D2 TP Z0 KE K0 KM RD qZ;go_wp2
  go_roundg (unN N l')
  case measure=>exact HU.o
  exact⟨l',q2,rfl,Hx ⟨⟨I2.o,Q2.o,D9.o⟩,BN.o⟩⟩
end Fo
def eK(t:Tp)(m n:Nat):LN:=(List.range m).filter fun a=>aJ t a==(n:Int)
def gL(t:Tp)(n:Nat):LN:=eK t (2*t.links.length) n
theorem jzg3 t(m n:Nat):eK t (m+1) n=if aJ t m==(n:Int)then eK t m n++[m]else eK t m n:=by
 unfold eK;rw[kZc,List.filter_append];by_cases h:aJ t m==(n:Int) <;> simp[h]
theorem jzr t(m n:Nat):(eK t m n).length<=m:=by
 unfold eK;exact yY (List.length_filter_le _ _) (by simp)
theorem jzg4 t AO(co:Nat)AL(cl:Nat)w(ht:aF w t AO co AL cl)(hv:aA t=true):
  Calls Tryz.prog 241 #[.agg #[vI t.nodes,.s AO t.over.length co,.s AL t.links.length cl]] w fun e w'=>∃g N:Nat,t.nodes=(N:Int)/\e=.returned (.s (sA g) N N)/\LL w' g N (gL t)/\Ext w w':=by
 have hN:∃N:Nat,t.nodes=(N:Int)/\1<=N/\N<=64/\t.links.length<=256:=(by unfold aA cX inB at hv;simp at hv;exact⟨t.nodes.toNat,by omega,by omega,by omega,by omega⟩);have qE:∀a,a<2*t.links.length->∃n:Nat,aJ t a=(n:Int)/\(n:Int)<t.nodes:=fun a ha=>(by unfold aA at hv;rw[vM]at hv;obtain⟨l,hl⟩:∃l,t.links[a/2]?=some l:=⟨_,yG (by omega)⟩;have qD:=xW.1 hv.2 l (yJ hl);unfold Lk.ok ndB at qD;simp at qD;unfold aJ;rw[hl];simp only[];split;{exact⟨l.b.toNat,by omega,by omega⟩};exact⟨l.a.toNat,by omega,by omega⟩);obtain⟨N,qw,qY,qW,qX⟩:=hN;have HN:=Hx (qw);have HT:=Hx (ht);have TL:=Hx (qE);have h3:=ht.ll;have h4:=ht.cl;clear ht hv qE;obtain⟨ti,hi,qN,qQ,qL⟩:=info_parts Tryz.info3;obtain⟨qh,e0⟩:=bF w #[vI (N:Int),.s AO t.over.length co,.s AL t.links.length cl] 25;have qR:=run_make_row' (P:=Tryz.prog) 114 28 zN 24 Tryz.underlying114 Tryz.info39 rfl .i64 .i64 N (by omega) (by omega);have qn:(Value.agg #[vI t.nodes,.s AO t.over.length co,.s AL t.links.length cl])=.agg #[vI (N:Int),.s AO t.over.length co,.s AL t.links.length cl]:=(by rw[qw]);rw[qn];clear qn;have qk:∀(W:World),Ext w W->Calls Tryz.prog 76 #[.agg #[vI (N:Int),.s AO t.over.length co,.s AL t.links.length cl]] W fun e w'=>e=.returned (vI (2*(t.links.length:Int)))/\Ext W w':=fun W hW=>(by have:=fN t AO co AL cl W (HT.o.K hW);rw[qw]at this;exact this);have qm:∀(W:World) (a:Nat),Ext w W->a/2<t.links.length->Calls Tryz.prog 87 #[.agg #[vI (N:Int),.s AO t.over.length co,.s AL t.links.length cl],vI a] W fun e w'=>e=.returned (vI (aJ t a))/\Ext W w':=fun W a hW ha=>(by have:=fM t AO co AL cl a W (HT.o.K hW) ha;rw[qw]at this;exact this);have qt:=Hx (qk);have qB:=Hx (qm);clear qk qm qw;go_enter Tryz.func241,Tryz.ntmps241;(go_wp2_with fail);refine(qt.o _ (e0.alloc _)).mono ?_;rintro e w1 ⟨rfl,qu⟩;have E1:=Hx ((e0.alloc _).tr qu);have qe:Fam ((w.alloc (.cells #[vI (N:Int),.s AO t.over.length co,.s AL t.links.length cl] 25)).alloc (.cells (madeCells #[zN] N) 28)) (w.heap.size+1) (w.heap.size+2) N (fun _=>zN) (fun _=>[]):=(by refine⟨?_,fun i hi=>World.ownsRow_nil _ _ _ _,fun i j _ _ _=>.inl rfl⟩;have e:((List.range N).map fun _=>Value.slice none 0 0).toArray=madeCells #[zN] N:=(by apply Array.toList_inj.1;rw[toList_madeCells_one];simp only[List.map_const',kZm]);rw[e];exact Blk.new' _ _ _ (by simp));have qe:=qe.K qu;have qh:=(qh.alloc (.cells (madeCells #[zN] N) 28)).K qu;have z1:w.heap.size+2<=w1.heap.size:=(by have:=qu.size;simp at this;omega);clear qu e0 qR qt;go_wp2;(go_loopw [11] (fun it wr=>∃(m:Nat) (V:Nat->Value),m<=2*t.links.length/\it=vI m/\Fam wr (w.heap.size+1) (w.heap.size+2) N V (eK t m)/\Blk wr w.heap.size 25 #[vI (N:Int),.s AO t.over.length co,.s AL t.links.length cl]/\Ext w wr) (fun i _=>2*t.links.length-(intOf i).toNat));(case atStart=>exact⟨0,_,yZ _,rfl,qe,qh,E1.o⟩);clear qe qh E1;obtain⟨m,V,hm,rfl,qe,qh,hx⟩:=hrel;obtain⟨⟨i0,i1,i2⟩,g0,g1,g2⟩:=qh.t3;by_cases qS:m<2*t.links.length;{obtain⟨n,qC,qH⟩:=TL.o m qS;rw[HN.o]at qH;have hn:n<N:=(by omega);have TN:=Hx qC;have qG:=Hx qe;have E:=Hx hx;clear qC qH qe hx;(go_wp2_with fail);refine(qB.o _ m E.o (by omega)).mono ?_;rintro e w2 ⟨rfl,qx⟩;rw[TN.o];have qf:=Hx (qG.o.K qx);have qh:=qh.K qx;have E2:=Hx (E.o.tr qx);have qV:w.heap.size+2<=w2.heap.size:=(by have:=qf.o.row.lt;omega);have qI:w2.cell? (aD (w.heap.size+1) n)=some (V n):=(qf.o.row.cell n).trans (iA N V n hn);have qj:=qf.o.own n hn;have qK:=jzr t m n;have j1:(n:Int)<(N:Int):=(by omega);obtain⟨A,c,hV,_,_⟩:=iT qj rfl;rw[hV]at qI qj;have HV:=Hx hV;have qF:=Hx qj;clear hV qj qx;generalize hL:(eK t m n).length=L at*;have HL:=Hx hL;clear hL;(go_wp2_with (at_builtin;go_must (refine wpList_append_own_at _ rfl (.tmp 22) (.tmp 24) 28 rfl (w.heap.size+2) 3 ti (vI 0) 1 8 Tryz.underlying28 hi qN qQ qL rfl (by decide) (.s A L c) L (ints (eK t m n)) rfl (qF.o.alloc _) (aD w2.heap.size 0) 1 1 [vI (m:Int)] rfl rfl ?c1 ?c2 ?c3 ?c4 ?c5 ?_)));(case c1=>intro j u hj;(match j,hj with|0,hj=>simp at hj;subst hj;simp[Addr.add]));(case c2=>intro u hu;simp at hu;subst hu;rfl);(case c3=>unfold maxLen;omega);(case c4=>omega);(case c5=>simp;omega);intro v' w3 qi qa _ qA;have qo:=Hx (qf.o.alloc (.cells #[vI (m:Int)] 3));rw[<-HV.o]at qa qA;have qg:=qo.o.rowG hn qa;have qU:w3.cell? (aD (w.heap.size+1) n)=some (V n):=(qg.cell n).trans (iA N V n hn);have qZ:=qg.frozen n;rw[HV.o]at qU;have qy:Below w.heap.size w w3:=(E2.o.alloc (.cells #[vI (m:Int)] 3)).grown qa (by simp;omega) (fun k hk=>by have:=(qf.o.own n hn).lt k hk;omega);have qz:Blk w3 w.heap.size 25 #[vI (N:Int),.s AO t.over.length co,.s AL t.links.length cl]:=(qa.block w.heap.size (by have:=qh.lt;simp;omega) (fun e=>by have:=(qf.o.own n hn).lt _ e.symm;omega)).trans (qh.alloc _);have qT:∃g' cap,v'=.s (sA g') (L+1) cap:=(by (rcases qi.2 with⟨_,h⟩|⟨g',cap,_,h,_⟩);{omega};exact⟨g',cap,h⟩);obtain⟨g',cap,qO⟩:=qT;subst qO;have qp:=Hx (qo.o.app (a:=m) hn (by rw[HL.o];exact qi) qa (by simpa using qA));have hX:(fun i=>if i=n then eK t m n++[m]else eK t m i)=eK t (m+1):=(by funext i;rw[jzg3,TN.o];by_cases e:i=n;{subst e;simp};rw[if_neg e,if_neg (by simp;omega)]);rw[hX]at qp;clear hX qa qA qi qg qF qG qf qo qh;go_wp2;go_roundw;(case rel=>exact⟨m+1,_,by omega,by go_num,qp.o,qz.far (by simp) _,Ext.sT qy (by simp) _⟩);simp[intOf];omega};have qM:m=2*t.links.length:=(by omega);subst qM;have qJ:=Hx qe.ll;have E:=Hx hx;clear qe hx;go_wp2;go_ret;exact⟨_,N,HN.o,rfl,qJ.o,E.o⟩
end Go.Proofs.YtllmekijiohgmaaGreatDoor
