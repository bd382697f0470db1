/- Part 25 of 26 of what the Flows claims share (the white space is struck, the texts are joined). -/
import Derived.Test.YtojpooidhilnfaaGreatDoorH24
set_option linter.unusedVariables false
set_option linter.unusedSimpArgs false
set_option maxRecDepth 100000
set_option maxHeartbeats 8000000
namespace Go.Proofs.YtojpooidhilnfaaGreatDoor
open Go.Proofs.Tryz
open Go.RowKit
open Sx
def srch(t:Tp):Nat->LN->Nat->Nat->List (LN)
 |0,_,_,_=>[]
 |f+1,seen,u,v=>if u∈seen then []else(if u=v then [[]]else [])++(aM t u).flatMap fun a=>(srch t f (u::seen) (aH t a).toNat v).map (a:: ·)
theorem jzgf t(u:Nat)(x:LN):u∈nds t u x:=by
 rw[lX];simp
theorem jzgg{t}{v:Nat}:∀(x:LN) (f:Nat) (seen:LN) (u:Nat) (first:Bool),x.length<f->PO t u first x v->(nds t u x).Nodup->(∀s∈seen,s∉nds t u x)->x∈srch t f seen u v
 |x,0,_,_,_,h,_,_,_=>absurd h (Nat.not_lt_zero _)
 | [],f+1,seen,u,first,_,hp,_,hs=>by
   have hu:u∉seen:=fun hm=>hs u hm (jzgf t u []);have hp:u=v:=hp;unfold srch;rw[if_neg hu,if_pos hp];simp
 |a::x,f+1,seen,u,first,hl,hp,hn,hs=>by
  have hu:u∉seen:=fun hm=>hs u hm (jzgf t u (a::x));obtain⟨h1,_,h3⟩:=hp;have hn:(u::nds t (aH t a).toNat x).Nodup:=hn;rw[kZo]at hn;unfold srch;rw[if_neg hu];refine xY.2 (.inr (kZx.2 ⟨a,h1,kQl.2 ⟨x,?_,rfl⟩⟩));refine jzgg x f (u::seen) _ false (by have:x.length+1<f+1:=hl;omega) h3 hn.2 fun s hs2=>?_;rcases xZ.1 hs2 with e|e
  ·rw[e];exact hn.1
  ·intro hm
   exact hs s e (xO u hm)
theorem Lpl.srch{t}(hv:aI t=true){s d:Nat}{x:LN}(hs:s<t.nodes.toNat)(h:Lpl t s d x):x∈Go.Proofs.YtojpooidhilnfaaGreatDoor.srch t t.nodes.toNat [] s d:=
 jzgg x _ [] s true (by have:=h.len hv hs;omega) h.1 h.2 (fun _ h=>by cases h)
def rgT:Tp:=⟨4,[],[⟨0,1,1,1,3,1,0⟩,⟨1,2,1,1,3,1,0⟩,⟨2,3,1,1,3,1,0⟩,⟨3,0,1,1,3,1,0⟩]⟩
def rgA:Dm:=⟨0,2,4,0⟩
def rgB:Dm:=⟨2,0,4,0⟩
theorem sR:aI rgT=true:=by decide
theorem jzgh{x:LN}(h:Lpl rgT 0 2 x):x=[0,2]\/x=[7,5]:=by
 have h1:=h.srch sR (by decide);rw[show Go.Proofs.YtojpooidhilnfaaGreatDoor.srch rgT rgT.nodes.toNat [] 0 2=[[0,2],[7,5]]from by decide]at h1;simpa using h1
theorem sS{t}{s d a b m:Nat}(ha:a∈aM t s)(hb:b∈aM t m)(e1:(aH t a).toNat=m)(e2:(aH t b).toNat=d)(ho:bH t (m:Int)=false)(hn:([s,m,d]:LN).Nodup):Lpl t s d [a,b]:=by
 refine⟨⟨ha,.inl rfl,?_⟩,?_⟩;{rw[e1];exact⟨hb,.inr ho,e2⟩};rw[lX];simp only[kZa,List.map_nil,e1,e2];exact hn
theorem pJ:Lpl rgT 0 2 [0,2]:=sS (m:=1) (by decide) (by decide) (by decide) (by decide) (by decide) (by decide)
theorem jzgi:Lpl rgT 0 2 [7,5]:=sS (m:=3) (by decide) (by decide) (by decide) (by decide) (by decide) (by decide)
theorem jzgj:Lpl rgT 2 0 [3,1]:=sS (m:=1) (by decide) (by decide) (by decide) (by decide) (by decide) (by decide)
theorem jzqf:Lpl rgT 2 0 [4,6]:=sS (m:=3) (by decide) (by decide) (by decide) (by decide) (by decide) (by decide)
def rgP:LQ:=[1/4,0,0,0,0,0,0,1/4]
theorem sT:∀q∈rgP,0<=q:=by decide+kernel
theorem jzgk:chQ rgT rgP 0 2=1/4:=by
 (unfold chQ;rcases iR sR (iT (pr:=rgP) rfl sT) (s:=0) (d:=2) (by decide) (by decide)with⟨x,e,h,_⟩|⟨_,h⟩);{rw[e];rcases jzgh h with rfl|rfl <;> decide+kernel};exact absurd pJ (h _)
theorem jzqg:0<=chQ rgT rgP 2 0:=uL (oF (iT (t:=rgT) rfl sT)) _
theorem jzgl{l:List Dm}(hn:0<l.length)(h:∀x∈l,x=rgA\/x=rgB):Fit rgT l:=⟨sR,hn,fun x hx=>by rcases h x hx with rfl|rfl <;> decide⟩
theorem sU:Fit rgT [rgA]:=jzgl (by decide) (by simp)
theorem jz4:Fit rgT [rgA,rgB]:=jzgl (by decide) (by simp)
def sV:List ((Nat×LN)×Rat):=[((0,[0,2]),3),((0,[7,5]),3)]
def rgZ2:List ((Nat×LN)×Rat):=sV++[((1,[3,1]),3),((1,[4,6]),3)]
theorem pK(n:Nat){p:Nat->Bool}(h:(List.range n).all p=true):∀k,k<n->p k=true:=fun k hk=>xW.1 h k (vX.2 hk)
theorem jz5:bP rgT [rgA] (3/2) sV rgP:=by
 refine⟨⟨by decide,by decide+kernel,by decide,fun d hd=>?_,fun a ha=>?_⟩,fun z hz=>?_,rfl,sT,by decide+kernel,?_,fun d hd=>?_⟩;{exact of_decide_eq_true (pK 1 (p:=fun d=>decide (ls (fun z=>if z.1.1=d then z.2 else 0) sV=3/2*amQ [rgA] d)) (by decide+kernel) d hd)};{exact of_decide_eq_true (pK 8 (p:=fun a=>decide (ls (fun z=>if a∈z.1.2 then z.2 else 0) sV<=aR rgT a)) (by decide+kernel) a ha)};{(rcases xZ.1 hz with rfl|hz);{exact pJ};rw[xD.1 hz];exact jzgi};{show(1:Rat)<=0+4*chQ rgT rgP 0 2;rw[jzgk];decide+kernel};have hd:d<1:=hd;obtain rfl:d=0:=(by omega);exact⟨_,pJ⟩
theorem jzgm:bP rgT [rgA,rgB] (3/2) rgZ2 rgP:=by
 refine⟨⟨by decide,by decide+kernel,by decide,fun d hd=>?_,fun a ha=>?_⟩,fun z hz=>?_,rfl,sT,by decide+kernel,?_,fun d hd=>?_⟩;{exact of_decide_eq_true (pK 2 (p:=fun d=>decide (ls (fun z=>if z.1.1=d then z.2 else 0) rgZ2=3/2*amQ [rgA,rgB] d)) (by decide+kernel) d hd)};{exact of_decide_eq_true (pK 8 (p:=fun a=>decide (ls (fun z=>if a∈z.1.2 then z.2 else 0) rgZ2<=aR rgT a)) (by decide+kernel) a ha)};{(rcases xZ.1 hz with rfl|hz);{exact pJ};(rcases xZ.1 hz with rfl|hz);{exact jzgi};(rcases xZ.1 hz with rfl|hz);{exact jzgj};rw[xD.1 hz];exact jzqf};{show(1:Rat)<=0+4*chQ rgT rgP 0 2+4*chQ rgT rgP 2 0;rw[jzgk];have:=jzqg;grind};(have hd:d<2:=hd;rcases(by omega:d=0\/d=1)with rfl|rfl);{exact⟨_,pJ⟩};exact⟨_,jzgj⟩
theorem jzqh{Z:List ((Nat×LN)×Rat)}{pr:LQ}{v:Rat}(h:bP rgT [rgA] v Z pr):(kD rgT (Z.map pzI)).length=4:=by
 have hv:v=3/2:=h.unique sU jz5;have qf:∀z∈Z,z.1.1=0/\(z.1.2=[0,2]\/z.1.2=[7,5]):=fun z hz=>(by have h1:z.1.1<1:=h.adm.dem z hz;have h2:z.1.1=0:=(by omega);have h3:=h.loop z hz;rw[h2]at h3;exact⟨h2,jzgh h3⟩);have hA:ls (fun z=>if(0:Nat)∈z.1.2 then z.2 else 0) Z<=3:=h.adm.cap 0 (by decide);have hB:ls (fun z=>if(7:Nat)∈z.1.2 then z.2 else 0) Z<=3:=h.adm.cap 7 (by decide);have hS:ls (fun z=>if z.1.1=0 then z.2 else 0) Z=v*4:=h.adm.sum 0 (by decide);have qg:ls (fun z:(Nat×LN)×Rat=>if z.1.1=0 then z.2 else 0) Z=ls (fun z=>if(0:Nat)∈z.1.2 then z.2 else 0) Z+ls (fun z=>if(7:Nat)∈z.1.2 then z.2 else 0) Z:=(by rw[<-jzc7];refine kX fun z hz=>?_;obtain⟨h1,h2|h2⟩:=qf z hz;{rw[if_pos h1,h2,if_pos (by decide),if_neg (by decide)];grind};rw[if_pos h1,h2,if_neg (by decide),if_pos (by decide)];grind);rw[hv]at hS;have h0:ls (fun z:(Nat×LN)×Rat=>if(0:Nat)∈z.1.2 then z.2 else 0) Z=3:=(by grind);have h7:ls (fun z:(Nat×LN)×Rat=>if(7:Nat)∈z.1.2 then z.2 else 0) Z=3:=(by grind);have qe:∀a b:Nat,(∀x:LN,x=[0,2]\/x=[7,5]->(a∈x↔b∈x))->ls (fun z:(Nat×LN)×Rat=>if a∈z.1.2 then z.2 else 0) Z=ls (fun z=>if b∈z.1.2 then z.2 else 0) Z:=fun a b hab=>kX fun z hz=>(by have:=hab _ (qf z hz).2;by_cases e:a∈z.1.2;{rw[if_pos e,if_pos (this.1 e)]};rw[if_neg e,if_neg (fun e2=>e (this.2 e2))]);have qa:∀a:Nat,(∀x:LN,x=[0,2]\/x=[7,5]->a∉x)->ls (fun z:(Nat×LN)×Rat=>if a∈z.1.2 then z.2 else 0) Z=0:=fun a hab=>jzc6 fun z hz=>if_neg (hab _ (qf z hz).2);have h2:=qe 2 0 (by rintro x (rfl|rfl) <;> decide);have h5:=qe 5 7 (by rintro x (rfl|rfl) <;> decide);have h1:=qa 1 (by rintro x (rfl|rfl) <;> decide);have h3:=qa 3 (by rintro x (rfl|rfl) <;> decide);have h4:=qa 4 (by rintro x (rfl|rfl) <;> decide);have h6:=qa 6 (by rintro x (rfl|rfl) <;> decide);rw[h0]at h2;rw[h7]at h5;obtain⟨ld,k1,k2,k3⟩:=jzgd sR (Z:=Z) fun z hz=>⟨_,_,h.loop z hz⟩;have k2:ld.length=8:=k2;have c0:∀a,a<8->aR rgT a=3:=fun a ha=>of_decide_eq_true (pK 8 (p:=fun a=>decide (aR rgT a=3)) (by decide+kernel) a ha);have p3:((3:Rat)<=0)=False:=(by rw[eq_iff_iff,iff_false];decide+kernel);have q3:((3:Rat)<=3)=True:=(by rw[eq_iff_iff,iff_true];decide+kernel);unfold kD dV;rw[k1,if_pos rfl];simp only[];rw[k2,show List.range 8=[0,1,2,3,4,5,6,7]from by decide];have e0:=k3 0 (by decide);have e1:=k3 1 (by decide);have e2:=k3 2 (by decide);have e3:=k3 3 (by decide);have e4:=k3 4 (by decide);have e5:=k3 5 (by decide);have e6:=k3 6 (by decide);have e7:=k3 7 (by decide);simp only[List.filter_cons,List.filter_nil,e0,e1,e2,e3,e4,e5,e6,e7,h0,h1,h2,h3,h4,h5,h6,h7,c0 0 (by decide),c0 1 (by decide),c0 2 (by decide),c0 3 (by decide),c0 4 (by decide),c0 5 (by decide),c0 6 (by decide),c0 7 (by decide),p3,q3,decide_true,decide_false,if_true,if_false,kZq];rfl
end Go.Proofs.YtojpooidhilnfaaGreatDoor
namespace Go.Proofs.YtojpooidhilnfaaGreatDoor
open Go.Proofs.Tryz
open Go.RowKit
theorem jzqi:(prog.info? 83).map (fun i=>(i.zero,i.size,i.bytes))=some (some (.agg #[vI 0,vI 0,vI 0,vI 0,vI 0,vI 0,vI 0]),7,56):=by kernel_rfl
def rgL(i:Nat):Lk:=⟨i,((i+1)%4:Nat),1,1,3,1,0⟩
theorem jzqj:(List.range 4).map rgL=rgT.links:=rfl
def rgC(k:Nat):List Value:=((List.range k).map rgL).flatMap Lk.cells
theorem jzqk(k:Nat):rgC (k+1)=rgC k++(rgL k).cells:=by
 unfold rgC;rw[kZc,List.map_append,List.flatMap_append];simp
theorem sW w:
  Calls prog 35 #[] w fun e w'=>∃(AL:OA) (cl:Nat),e=.returned (.agg #[vI 4,zN,.s AL 4 cl])/\aX w' rgT none 0 AL cl/\Ext w w':=by
 go_enter func35,ntmps35;go_wp2;(go_loopw [2] (fun it wr=>∃(k:Nat) (v:Value),k<=4/\it=vI k/\wr.ownsRow (w.heap.size+2) 83 7 v k (rgC k)/\Blk wr (w.heap.size+1) 25 #[vI 4,zN,v]/\Blk wr w.heap.size 25 #[vI 0,zN,zN]/\Ext w wr) (fun i _=>4-(intOf i).toNat));(case atStart=>exact⟨0,zN,by omega,rfl,World.ownsRow_nil _ _ _ _,Blk.new' _ _ _ (by simp),(eN w _ _).alloc _,((eR w).alloc _).alloc _⟩);obtain⟨k,v,hk,rfl,qe,qg,qh,hx⟩:=hrel;obtain⟨A,c,rfl,qn⟩:=mY qe;obtain⟨⟨i0,i1,i2⟩,g0,g1,g2⟩:=qg.t3;have OW:=Hx qe;have B1:=Hx qg;have B0:=Hx qh;have EX:=Hx hx;clear qe qg qh hx;by_cases qt:k<4;{have CS:=Hx (show(rgL k).cells=[vI (k:Int),vI (((k:Int)+1)%4),vI 1,vI 1,vI 3,vI 1,vI 0] by unfold rgL Lk.cells;simp);have BC:=Hx (eN wr 83 #[vI (k:Int),vI (((k:Int)+1)%4),vI 1,vI 1,vI 3,vI 1,vI 0]);have XC:=Hx ((eR wr).alloc (.cells #[vI (k:Int),vI (((k:Int)+1)%4),vI 1,vI 1,vI 3,vI 1,vI 0] 83));have VB:=Hx ((eE (S:=fun _=>False) XC.o).own OW.o (fun _ _ h=>h));have qw:=B1.o.lt;(go_wp2_with (at_builtin;refine kY _ 23 83 _ 7 56 rfl _ _ rfl underlying23 jzqi rfl (by decide) (w.heap.size+2) (.s A k c) k (rgC k) rfl VB.o [vI (k:Int),vI (((k:Int)+1)%4),vI 1,vI 1,vI 3,vI 1,vI 0] rfl (by simp[Value.oneCell']) wr.heap.size rfl BC.o (by unfold maxLen;omega) (by omega) (by simp;omega) ?_));intro g8 c8 w8 qf qa qk;have k8:=eG (S:=fun b=>(Value.slice A k c).ownBlock=some b) qa fun g e=>e;have qi:∀kk,(Value.slice A k c).ownBlock=some kk->w.heap.size+2<=kk:=fun kk hkk=>(OW.o.lt kk hkk).1;have qg:Blk w8 (w.heap.size+1) 25 #[vI 4,zN,.s A k c]:=(qa.block _ (B1.o.alloc _).lt (fun e=>by have:=qi _ e.symm;omega)).trans (B1.o.alloc _);have qh:Blk w8 w.heap.size 25 #[vI 0,zN,zN]:=(qa.block _ (B0.o.alloc _).lt (fun e=>by have:=qi _ e.symm;omega)).trans (B0.o.alloc _);have qm:Ext w w8:=Below.grown (EX.o.alloc _) qa (EX.o.alloc _).size (fun kk hkk=>by have:=qi kk hkk;omega);obtain⟨⟨i0,i1,i2⟩,g0,g1,g2⟩:=qg.t3;have qj:Hid (World.ownsRow (w8.setCell (aD (w.heap.size+1) 2) (.s (sA g8) (k+1) c8)) (w.heap.size+2) 83 7 (.s (sA g8) (k+1) c8) (k+1) (rgC (k+1))):=Hx (by rw[jzqk,CS.o];refine qf.kept (aO w8 (w.heap.size+1) 2 _) (.inr ?_);intro e;have:=(qf.lt _ e).1;omega);have N1:=Hx (qg.sT 2 (.s (sA g8) (k+1) c8));have N0:=Hx (qh.far (p:=(aD (w.heap.size+1) 2)) (by simp only;omega) (.s (sA g8) (k+1) c8));have NE:=Hx (Ext.sT qm (p:=(aD (w.heap.size+1) 2)) (by simp only;omega) (.s (sA g8) (k+1) c8));clear qf qa qk k8 qi qg qh qm;go_wp2;go_roundw;(case rel=>exact⟨k+1,_,by omega,by go_num,qj.o,N1.o,N0.o,NE.o⟩);simp[intOf];omega};have qo:k=4:=(by omega);subst qo;have qp:=B0.o.lt;obtain⟨_,z0,z1,z2⟩:=B0.o.t3;have TR:Hid (∀W:World,W.ownsRow (w.heap.size+2) 83 7 (.s A 4 c) 4 (rgC 4)->aX W rgT none 0 A c):=Hx (fun W h=>⟨(by unfold i64;decide),by decide,qn,by decide,by decide,Rd.nil _ _,(jzc h).rd,fun l hl=>by rw[<-jzqj]at hl;obtain⟨i,hi,rfl⟩:=kQl.1 hl;have:=vX.1 hi;unfold rgL Lk.wf i64;simp only[];omega⟩)
 have Q3:=Hx (((B0.o.sT 0 (vI 4)).sT 1 zN).sT 2 (.s A 4 c));have k3:FrS (fun b=>b=w.heap.size) wr (((wr.setCell (aD w.heap.size 0) (vI 4)).setCell (aD w.heap.size 1) zN).setCell (aD w.heap.size 2) (.s A 4 c)):=eG (fC wr w.heap.size 0 _ _ _) fun g e=>(by injection e with e;exact e.symm);have qj:=Hx (show aX (((wr.setCell (aD w.heap.size 0) (vI 4)).setCell (aD w.heap.size 1) zN).setCell (aD w.heap.size 2) (.s A 4 c)) rgT none 0 A c/\Ext w (((wr.setCell (aD w.heap.size 0) (vI 4)).setCell (aD w.heap.size 1) zN).setCell (aD w.heap.size 2) (.s A 4 c))from
  ⟨TR.o _ (k3.own OW.o fun g hg=>by have:=(OW.o.lt g hg).1;omega),k3.ext EX.o fun b hb=>by omega⟩)
 clear k3;go_wp2;have q3:=Q3.o;exact bodyPost_ret (v:=.agg #[vI 4,zN,.s A 4 c]) (by simp[results,results35,go_sem,q3.cell]) rfl ⟨A,c,rfl,qj.o.1,qj.o.2⟩
def RB(w:World)(g:Nat)(q:Rat):Prop:=QB w g [q]
section
variable {w w':World} {g:Nat} {q q':Rat} {neg:Bool} {A:Option Addr} {n c:Nat} {A':Option Addr} {n' c':Nat}
theorem RB.of(hb:Blk w g 35 #[.bool neg,.s A n c,.s A' n' c'])(hr:aE w neg A n c A' n' c' q):RB w g q:=by
 (refine⟨[[.bool neg,.s A n c,.s A' n' c']],rfl,fun cs h=>by rw[xD.1 h];rfl,hb,fun i p h=>?_⟩;cases i with|zero=>(injection h with h);subst h;exact⟨_,rfl,neg,A,n,c,A',n',c',rfl,hr⟩|succ i=>simp at h)
theorem RB.K(h:RB w g q)(hx:Ext w w'):RB w' g q:=QB.K h hx
theorem RB.lt(h:RB w g q):g<w.heap.size:=QB.lt h
theorem RB.at3(h:RB w g q):∃(neg:Bool) (A:OA) (n c:Nat) (A':OA) (n' c':Nat),
  (w.cell? (aD g 0)=some (.bool neg)/\w.cell? (aD g 1)=some (.s A n c)/\w.cell? (aD g 2)=some (.s A' n' c'))/\
  (w.frozen? (aD g 0)=false/\w.frozen? (aD g 1)=false/\w.frozen? (aD g 2)=false)/\aE w neg A n c A' n' c' q:=by
 obtain⟨neg,A,n,c,A',n',c',⟨h0,h1,h2⟩,⟨f0,f1,f2⟩,hr⟩:=QB.at_ h (i:=0) (q:=q) rfl;exact⟨neg,A,n,c,A',n',c',⟨h0,h1,h2⟩,⟨f0,f1,f2⟩,hr⟩
theorem RB.put3(h:RB w g q)(hr:aE w neg A n c A' n' c' q'):RB (((w.setCell (aD g 0) (.bool neg)).setCell (aD g 1) (.s A n c)).setCell (aD g 2) (.s A' n' c')) g q':=QB.put h (m:=0) (by simp) hr
end
structure ChI(W3 w:World)(g7 g8:Nat)(a b:Rat):Prop where
 r7:RB w g7 a
 r8:RB w g8 b
 fr:FrS (fun x=>x=g7\/x=g8) W3 w
section
variable {W3 w w':World} {g7 g8:Nat} {a b q:Rat} {neg:Bool} {A:Option Addr} {n c:Nat} {A':Option Addr} {n' c':Nat}
theorem ChI.K(h:ChI W3 w g7 g8 a b)(hx:Ext w w'):ChI W3 w' g7 g8 a b:=⟨h.r7.K hx,h.r8.K hx,h.fr.tr (eE (S:=fun x=>x=g7\/x=g8) hx) fun b hb=>.inl hb⟩
theorem ChI.put7(h:ChI W3 w g7 g8 a b)(hne:g8≠g7)(hr:aE w neg A n c A' n' c' q):ChI W3 (((w.setCell (aD g7 0) (.bool neg)).setCell (aD g7 1) (.s A n c)).setCell (aD g7 2) (.s A' n' c')) g7 g8 q b:=by
 have hg:=fC w g7 0 (.bool neg) (.s A n c) (.s A' n' c');obtain⟨cs,hb⟩:=QB.blk h.r7;exact⟨h.r7.put3 hr,QB.other h.r8 hg hb (by decide) hne,h.fr.tr (eG (S:=fun x=>x=g7\/x=g8) hg fun g e=>by injection e with e;exact .inl e.symm) fun b hb=>.inl hb⟩
theorem ChI.put8(h:ChI W3 w g7 g8 a b)(hne:g8≠g7)(hr:aE w neg A n c A' n' c' q):ChI W3 (((w.setCell (aD g8 0) (.bool neg)).setCell (aD g8 1) (.s A n c)).setCell (aD g8 2) (.s A' n' c')) g7 g8 a q:=by
 have hg:=fC w g8 0 (.bool neg) (.s A n c) (.s A' n' c');obtain⟨cs,hb⟩:=QB.blk h.r8;exact⟨QB.other h.r7 hg hb (by decide) (fun e=>hne e.symm),h.r8.put3 hr,h.fr.tr (eG (S:=fun x=>x=g7\/x=g8) hg fun g e=>by injection e with e;exact .inr e.symm) fun b hb=>.inl hb⟩
end
theorem jzql t AO(co:Nat)AL(cl:Nat)(l:List Dm)AD(cd:Nat)(v:Rat)(nv:Bool)V1(nv1 cv1:Nat)V2(nv2 cv2:Nat)(Z:List bA)PA(np cp:Nat)(qx:Z.length=np)(pr:LQ)PR(nr cr P:Nat)(hnr:pr.length=nr)w(ht:aX w t AO co AL cl)(hd:DmR w l AD cd)(hlD:l.length<=64)(qP:aE w nv V1 nv1 cv1 V2 nv2 cv2 v)(qJ:SzQ v 1000000)(hp:PLr w PA Z)
  (hq:QL w PR pr) (qZ:∀q∈pr,SzQ q P) (qp:np<=1000) (hsz:∀p∈Z,SzQ p.flow P) (hP1:1<=P) (hal:∀p∈Z,p.arcs.length<=1000) (hi64:∀p∈Z,i64 p.dem/\∀a∈p.arcs,i64 a) (hPb:P<=10000) (hK:1+cK Z*(P+1)<=50000000) (hta:Tab w):
  Calls prog 36 #[.agg #[vI t.nodes,.s AO t.over.length co,.s AL t.links.length cl],.s AD l.length cd,.agg #[.bool nv,.s V1 nv1 cv1,.s V2 nv2 cv2,.s PA np cp,.s PR nr cr]] w fun e w'=>e=.returned (.bool (fV t l v Z pr))/\Ext w w':=by
 have HT:=Hx (kQa ht hd);have HQ:=Hx (kQa hq qZ);have HV:=Hx (kQa qP qJ);have vg:=hd.len;have vi:=ht.ll;have vk:=ht.cl;obtain⟨q3,q0,e0⟩:=dH w #[vI t.nodes,.s AO t.over.length co,.s AL t.links.length cl] 25 #[.bool nv,.s V1 nv1 cv1,.s V2 nv2 cv2,.s PA np cp,.s PR nr cr] 39;have ve:((w.alloc (.cells #[vI t.nodes,.s AO t.over.length co,.s AL t.links.length cl] 25)).alloc (.cells #[.bool nv,.s V1 nv1 cv1,.s V2 nv2 cv2,.s PA np cp,.s PR nr cr] 39)).heap.size=w.heap.size+2:=(by simp);have E0:=Hx (kQa q3 (kQa q0 e0));have AC:=Hx (fun wx (hx:Ext w wx)=>jzo5 t AO co AL cl l AD cd v nv V1 nv1 cv1 V2 nv2 cv2 Z PA np cp qx PR nr cr P wx (ht.K hx) (hd.K hx) hlD (qP.K hx) qJ (hp.K hx fun cs x h=>h.K hx) qp hsz hP1 hal hi64 hPb hK (hta.K hx));have AR:=Hx (fun wx (hx:Ext w wx)=>fW t AO co AL cl wx (ht.K hx));clear ht hd qP qJ hp hq qZ hsz hal hi64 hta q3 q0 e0;go_enter func36,ntmps36;(go_upto_region 1 with fail);generalize (w.alloc (.cells #[vI t.nodes,.s AO t.over.length co,.s AL t.links.length cl] 25)).alloc (.cells #[.bool nv,.s V1 nv1 cv1,.s V2 nv2 cv2,.s PA np cp,.s PR nr cr] 39)=W0 at*;go_cut [28] (fun s wx=>s=.bool (!(cS t l v Z&&decide (nr=2*t.links.length)))/\Ext W0 wx);(case first=>have qo:w.heap.size<W0.heap.size:=E0.o.1.lt;have qi:w.heap.size+1<W0.heap.size:=E0.o.2.1.lt;have x0:=XW.cell _ _ _ qo (E0.o.1.cell 0);have x1:=XW.cell _ _ _ qo (E0.o.1.cell 1);have x2:=XW.cell _ _ _ qo (E0.o.1.cell 2);have y0:=XW.cell _ _ _ qi (E0.o.2.1.cell 0);have y1:=XW.cell _ _ _ qi (E0.o.2.1.cell 1);have y2:=XW.cell _ _ _ qi (E0.o.2.1.cell 2);have y3:=XW.cell _ _ _ qi (E0.o.2.1.cell 3);have y4:=XW.cell _ _ _ qi (E0.o.2.1.cell 4);cases hA:cS t l v Z;{rw[hA]at AC;refine cT (by kernel_rfl) (by kernel_rfl) ?_;(repeat (go_big_quiet_step ((go_at_call 69;exact Calls.ext_of (AC.o _ (E0.o.2.2.tr (XW.ext _)))))));refine wpQuiet_nil ?_;rintro _ ⟨x,rfl⟩;go_wp2;go_meet;rw[hA];exact⟨rfl,x.ext⟩};rw[hA]at AC;refine cT (by kernel_rfl) (by kernel_rfl) ?_;(repeat (go_big_quiet_step (first|(go_at_call 69;exact Calls.ext_of (AC.o _ (E0.o.2.2.tr (XW.ext _))))|(go_at_call 56;exact Calls.ext_of (AR.o _ (E0.o.2.2.tr (XW.ext _)))))));refine wpQuiet_nil ?_;rintro _ ⟨x,rfl⟩;by_cases hE:nr=2*t.links.length;{(have e1:((nr:Int) !=2*(t.links.length:Int))=false:=by rw[show(nr:Int)=2*(t.links.length:Int) by omega];simp);have FA:=Hx (show(!(cS t l v Z&&decide (nr=2*t.links.length)))=false by rw[hA,yO hE];rfl);clear hE;go_wp2;go_meet;rw[FA.o];exact⟨by rw[e1],x.ext⟩};have e0:¬(nr:Int)=2*(t.links.length:Int):=(by omega);have e1:((nr:Int) !=2*(t.links.length:Int))=true:=(by simpa using e0);have FA:=Hx (show(!(cS t l v Z&&decide (nr=2*t.links.length)))=true by rw[yP hE,Bool.and_false];rfl);go_wp2;go_meet;rw[FA.o];exact⟨by rw[e1],x.ext⟩);obtain⟨rfl,qR⟩:=hcut;generalize wc=W1 at*;have X1:=Hx (E0.o.2.2.tr qR);have XL:=Hx qR;clear qR;cases hB:(cS t l v Z&&decide (nr=2*t.links.length));{have FA:=Hx (show fV t l v Z pr=false by unfold fV;rw[hnr,hB];rfl);go_wp2;go_ret;rw[FA.o];exact⟨rfl,X1.o⟩};rw[vM]at hB;obtain⟨hA,hE⟩:=hB;have HR:=Hx (show fV t l v Z pr=(fS pr nr&&fU t l pr l.length&&decide (eH t pr nr=v)&&decide (1<=dX t l pr l.length)) by unfold fV;rw[hnr,hA,hE];rfl);have hE:=of_decide_eq_true hE;have qh:=Hx (jzpb hlD hA);have qm:=Hx hE;have qT:nr<=512:=(by have:=qh.o.v;unfold aI cG at this;simp at this;omega);clear hA hE AC AR;obtain⟨b7,b8,e3⟩:=dH W1 #[.bool false,zN,zN] 35 #[.bool false,zN,zN] 35;have E3:=Hx e3;have vc:((W1.alloc (.cells #[.bool false,zN,zN] 35)).alloc (.cells #[.bool false,zN,zN] 35)).heap.size=W1.heap.size+2:=(by simp);have I0:=Hx (ChI.mk (RB.of b7 (fA _)) (RB.of b8 (fA _)) (FrS.refl _ _));have P4:=Hx ((E0.o.2.1.K XL.o).K E3.o);have T4:=Hx ((E0.o.1.K XL.o).K E3.o);have X3:=Hx (X1.o.tr E3.o);have vd:w.heap.size+2<=W1.heap.size:=(by have:=XL.o.size;omega);have y4:=P4.o.cell 4;clear b7 b8 e3;(go_upto_region 4 with fail);generalize (W1.alloc (.cells #[.bool false,zN,zN] 35)).alloc (.cells #[.bool false,zN,zN] 35)=W3 at*;generalize W1.heap.size=g7 at*;have q6:g7+1≠g7:=(by omega);have S0:Hid (ChI W3 W3 g7 (g7+1) (eH t pr 0) (dX t l pr 0)/\fS pr 0=true):=Hx (⟨I0.o,rfl⟩);clear I0;go_wp2;go_loopg [9,10,32] nr (fun q _ _ it wx=>∃(n:Nat),nr-n=q/\n<=nr/\it=vI (n:Int)/\Hid (ChI W3 wx g7 (g7+1) (eH t pr n) (dX t l pr 0)/\fS pr n=true));(case atStart=>exact⟨0,rfl,yZ _,rfl,S0⟩);obtain⟨n,rfl,hn,rfl,I⟩:=hrel;clear S0;have XW:Hid (Ext w wr):=Hx (I.o.1.fr.ext X3.o fun b hb=>by omega);have TW:Hid (Blk wr w.heap.size 25 #[vI t.nodes,.s AO t.over.length co,.s AL t.links.length cl]):=Hx (I.o.1.fr.blk T4.o (by omega));by_cases qp:n<nr
 ·(have qx:n<pr.length:=by omega);obtain⟨b,o,neg,A1,n1,c1,A2,n2,c2,rfl,hb,a0,a1,a2,qE⟩:=(HQ.o.1.K XW.o).at_ (aY qx);have nN:(n:Int)<(nr:Int):=(by omega);have n0:(0:Int)<=(n:Int):=(by omega);have qB:=HQ.o.2 _ (yJ (aY qx));obtain⟨l1,q2⟩:=qE.lens qB;have RA:=Hx qE;have X8:Hid (Ext wr (wr.alloc (.cells #[.bool neg,.s A1 n1 c1,.s A2 n2 c2] 35))):=Hx ((eR wr).alloc _);have B8:=Hx (eN wr 35 #[.bool neg,.s A1 n1 c1,.s A2 n2 c2]);clear qE qB;(go_upto_region 7 with fail);clear a0 a1 a2;generalize wr.alloc (.cells #[.bool neg,.s A1 n1 c1,.s A2 n2 c2] 35)=W8 at*;generalize hbd:wr.heap.size=bd at*;have qt:Hid (Ext w W8):=Hx (XW.o.tr X8.o);have I8:=Hx (I.o.1.K X8.o);have C8:Hid (∀wx,Ext W8 wx->wx.cell? (aD bd 0)=some (.bool neg)/\wx.cell? (aD bd 1)=some (.s A1 n1 c1)/\wx.cell? (aD bd 2)=some (.s A2 n2 c2)):=Hx (fun wx hx=>⟨(B8.o.K hx).cell 0,(B8.o.K hx).cell 1,(B8.o.K hx).cell 2⟩);obtain⟨b0,b1,b2⟩:=C8.o _ (eR W8);(go_wp2_with fail);refine(dA neg A1 n1 c1 A2 n2 c2 (Sx.at_ pr n) _ (RA.o.K X8.o)).mono ?_;rintro e w5 ⟨rfl,x5⟩;have X5:=Hx x5;clear x5 b0 b1 b2;by_cases qC:0<=Sx.at_ pr n;(case neg=>have hs:=(oP (Sx.at_ pr n)).2 (Rat.not_le.1 qC);have hd:decide (aC (Sx.at_ pr n)<0)=true:=yO hs;have qf:=Hx (show fV t l v Z pr=false by rw[HR.o,jzo8 qC qp];rfl);clear hs;go_wp2;go_ret;rw[qf.o];exact⟨rfl,qt.o.tr X5.o⟩);have hs:¬aC (Sx.at_ pr n)<0:=fun h=>absurd ((oP _).1 h) (kQ4.2 qC);have hd:decide (aC (Sx.at_ pr n)<0)=false:=yP hs;clear hs;go_upto_region 9 with fail
  obtain⟨ny,Y1,my,fy,qn,qk,qj,⟨s0,s1,s2⟩,_,hy⟩:=(I8.o.K X5.o).r7.at3;obtain⟨l2,q5⟩:=hy.lens (jzr qh.o.v HQ.o.2 (by rw[hnr];exact qm.o) n (by omega));have qg:n*(P+2)<=512*(10000+2):=kQq (by omega) (by omega);have RY:=Hx hy;have qa:=Hx (show∀wx,Ext w5 wx->(wx.cell? (aD g7 0)=some (.bool ny)/\wx.cell? (aD g7 1)=some (.s Y1 my fy)/\wx.cell? (aD g7 2)=some (.s qn qk qj))/\(wx.cell? (aD bd 0)=some (.bool neg)/\wx.cell? (aD bd 1)=some (.s A1 n1 c1)/\wx.cell? (aD bd 2)=some (.s A2 n2 c2))/\
    wx.cell? (aD w.heap.size 0)=some (vI t.nodes)/\wx.cell? (aD w.heap.size 1)=some (.s AO t.over.length co)/\wx.cell? (aD w.heap.size 2)=some (.s AL t.links.length cl)from fun wx hx=>
   ⟨⟨aB hx s0,aB hx s1,aB hx s2⟩,C8.o _ (X5.o.tr hx),((TW.o.K X8.o).K (X5.o.tr hx)).cell 0,((TW.o.K X8.o).K (X5.o.tr hx)).cell 1,((TW.o.K X8.o).K (X5.o.tr hx)).cell 2⟩)
  (have XD:Hid (Ext w5 w5.drew):=Hx ((eR w5).drewN 1);have HSW:=Hx (qa.o _ XD.o);clear hy s0 s1 s2;refine wX qa 7 ?_;refine wV 0 rfl HSW.o ?_;try simp only[Act.put,yA,yB,yC,yD,yE,yF]);refine wV 1 rfl HSW.o ?_;refine wV 2 rfl HSW.o ?_;(refine wP 3 rfl HSW.o ?_;try simp only[Act.put,yA,yB,yC,yD,yE,yF]);(refine wC 4 rfl (fun KK hK=>?_);go_simp;refine(sH t AO co AL cl n _ (HT.o.1.K ((qt.o.tr X5.o).tr XD.o)) qh.o.v (by rw[<-qm.o];exact qp)).mono ?_;rintro e w6 ⟨n6,A6,l6,c6,qQ,qG,qH,rfl,h6,x6⟩;have E6:=Hx (XD.o.tr x6);have HSW:=Hx (qa.o _ E6.o);obtain⟨l3,q4⟩:=h6.lens (pF qh.o.v (show n<2*t.links.length by rw[<-qm.o];exact qp));have R6:=Hx h6;refine hK.o _ _ HSW.o ?_;clear hK KK x6 h6;try simp only[Act.put,yA,yB,yC,yD,yE,yF]);(refine wC 5 rfl (fun KK hK=>?_);go_simp;refine(iH neg n6 A1 n1 c1 A2 n2 c2 A6 l6 c6 qQ qG qH (Sx.at_ pr n) (aR t n) _ (RA.o.K ((X8.o.tr X5.o).tr E6.o)) R6.o (by omega) (by omega) (by omega) (by omega)).mono ?_;rintro e w7 ⟨n7,A7,l7,c7,qy,qz,qw,rfl,h7,x7⟩;have E7:=Hx (E6.o.tr x7);have HSW:=Hx (qa.o _ E7.o);obtain⟨l4,q1⟩:=h7.lens ((HQ.o.2 _ (yJ (aY qx))).mul (pF qh.o.v (show n<2*t.links.length by rw[<-qm.o];exact qp)));have R7:=Hx h7;refine hK.o _ _ HSW.o ?_;clear hK KK x7 h7;try simp only[Act.put,yA,yB,yC,yD,yE,yF]);(refine wC 6 rfl (fun KK hK=>?_);go_simp;refine(gE ny n7 Y1 my fy qn qk qj A7 l7 c7 qy qz qw (eH t pr n) (Sx.at_ pr n*aR t n) _ (RY.o.K E7.o) R7.o (by omega) (by omega) (by omega) (by omega) (fI (kQx (kQ7 _) (kQ7 _)))).mono ?_;rintro e w9 ⟨n9,A9,l9,c9,qL,qO,qF,rfl,h9,x9⟩;have E9:=Hx (E7.o.tr x9);have HSW:=Hx (qa.o _ E9.o);have Q9:=Hx ((I8.o.K X5.o).K E9.o);have qf:Hid (ChI W3 (((w9.setCell (aD g7 0) (.bool n9)).setCell (aD g7 1) (.s A9 l9 c9)).setCell (aD g7 2) (.s qL qO qF)) g7 (g7+1) (eH t pr (n+1)) (dX t l pr 0)/\fS pr (n+1)=true):=Hx (⟨Q9.o.put7 q6 h9,by rw[jzo6,I.o.2,yO qC];rfl⟩);obtain⟨_,_,_,_,_,_,_,_,⟨z0,z1,z2⟩,_⟩:=Q9.o.r7.at3;refine hK.o _ _ HSW.o ?_;clear hK KK x9 h9;try simp only[Act.put,yA,yB,yC,yD,yE,yF]);obtain⟨⟨s0,s1,s2⟩,⟨s3,s4,s5⟩,s6,s7,s8⟩:=HSW.o;refine bY (by kernel_rfl) rfl (by rfl) (fun KK hK=>?_);go_simp;refine hK.o _ _ ?_;clear hK KK;refine wpAny_done (by kernel_rfl) ?_ _;clear s0 s1 s2 s3 s4 s5 s6 s7 s8 z0 z1 z2 HSW qa XD RY RA Q9 E9 E7 E6 R6 R7 I8 C8 B8 I;go_wp2;go_roundg (nr-(n+1));(case measure=>omega);exact⟨n+1,rfl,by omega,by go_num,qf⟩
 obtain rfl:n=nr:=(by omega);have qM:Hid (fV t l v Z pr=(fU t l pr l.length&&decide (eH t pr n=v)&&decide (1<=dX t l pr l.length))):=Hx (by rw[HR.o,I.o.2];rfl);have qI:=Hx (jzpa (pr:=pr) (by rw[hnr];exact I.o.2));obtain⟨W9,rfl⟩:∃W,W=wr:=⟨_,rfl⟩;have S0:Hid (ChI W3 W9 g7 (g7+1) (eH t pr n) (dX t l pr 0)/\fU t l pr 0=true):=Hx (⟨I.o.1,rfl⟩);go_wp2;go_loopg [12,13,14,15,50] l.length (fun q _ _ _ _ it wx=>∃(k:Nat),l.length-k=q/\k<=l.length/\it=vI (k:Int)/\Hid (ChI W3 wx g7 (g7+1) (eH t pr n) (dX t l pr k)/\fU t l pr k=true));(case atStart=>exact⟨0,rfl,yZ _,rfl,S0⟩);obtain⟨k,rfl,hk,rfl,J⟩:=hrel;clear S0;have XJ:Hid (Ext w wr):=Hx (J.o.1.fr.ext X3.o fun b hb=>by omega);have TJ:Hid (Blk wr w.heap.size 25 #[vI t.nodes,.s AO t.over.length co,.s AL t.links.length cl]):=Hx (J.o.1.fr.blk T4.o (by omega));have PJ:Hid (Blk wr (w.heap.size+1) 39 #[.bool nv,.s V1 nv1 cv1,.s V2 nv2 cv2,.s PA np cp,.s PR n cr]):=Hx (J.o.1.fr.blk P4.o (by omega));by_cases qA:k<l.length
 ·obtain⟨d,hd⟩:∃d,l[k]?=some d:=⟨_,yG qA⟩;obtain⟨b',o',rfl,vh,a0,a1,a2,a3⟩:=(HT.o.2.K XJ.o).at_ hd;have AM:Hid (amQ l k=(d.amount:Rat)/\i64 d.amount/\chZ t l pr k=chP t [] pr d.src d.dst):=Hx (by refine⟨by unfold amQ;rw[hd],(HT.o.2.wf d (yJ hd)).2.2.1,?_⟩;unfold chZ kL kM;rw[hd]);have nN:(k:Int)<(l.length:Int):=(by omega);have n0:(0:Int)<=(k:Int):=(by omega);have X8:Hid (Ext wr (wr.alloc (.cells #[vI d.src,vI d.dst,vI d.amount,vI d.prio] 27))):=Hx ((eR wr).alloc _);have B8:=Hx (eN wr 27 #[vI d.src,vI d.dst,vI d.amount,vI d.prio]);clear hd;(go_upto_region 14 with fail);clear a0 a1 a2 a3;generalize wr.alloc (.cells #[vI d.src,vI d.dst,vI d.amount,vI d.prio] 27)=W8 at*;generalize hbd:wr.heap.size=bd at*;have qt:Hid (Ext w W8):=Hx (XJ.o.tr X8.o);have J8:=Hx (J.o.1.K X8.o);obtain⟨⟨i0,i1,i2⟩,_⟩:=(TJ.o.K X8.o).t3;have y4:=(PJ.o.K X8.o).cell 4;have b0:=B8.o.cell 0;have b1:=B8.o.cell 1;(go_wp2_with fail);refine(jzex t AO co AL cl PR n cr pr hnr P d.src d.dst _ (HT.o.1.K qt.o) (HQ.o.1.K qt.o) (by omega) hP1 (by omega) HQ.o.2).mono ?_;rintro e w5 ⟨Ac,cc,nb,G1,u1,v1,G2,u2,v2,rfl,vj,va,qY,x5⟩;have qe:=AM.o.2.2;generalize hR2:chP t [] pr d.src d.dst=r2 at*;have X9:Hid (Ext w5 (w5.alloc (.cells #[.bool nb,.s G1 u1 v1,.s G2 u2 v2] 35))):=Hx ((eR w5).alloc _);have B9:=Hx (eN w5 35 #[.bool nb,.s G1 u1 v1,.s G2 u2 v2]);have X5:=Hx x5;have R5:=Hx qY;clear x5 qY va i0 i1 i2 y4 b0 b1;by_cases he:r2.2=0;(case neg=>have qf:=Hx (show fV t l v Z pr=false by rw[qM.o,jzo9 (show¬(chZ t l pr k).2=0 by rw[qe];exact he) qA];rfl);have d1:(r2.2 !=0)=true:=(by simpa using he);go_wp2;go_ret;rw[qf.o];exact⟨rfl,(qt.o.tr X5.o).tr X9.o⟩);have d1:(r2.2 !=0)=false:=(by simpa using he);have q8:=Hx (show fU t l pr (k+1)=true by rw[jzo7,J.o.2,yO (show(chZ t l pr k).2=0 by rw[qe];exact he)];rfl);have q7:Hid (dX t l pr (k+1)=dX t l pr k+(d.amount:Rat)*prQ pr r2.1):=Hx (by show dX t l pr k+amQ l k*prQ pr (chZ t l pr k).1=_;rw[AM.o.1,qe]);have qV:Hid (SzQ (prQ pr r2.1) (1+64*(P+1))):=Hx (by have:=jzfp qh.o hP1 HQ.o.2 (by rw[hnr];exact qm.o) qI.o qA;rw[qe]at this;exact this);clear he qe;go_upto_region 17 with fail
  generalize w5.alloc (.cells #[.bool nb,.s G1 u1 v1,.s G2 u2 v2] 35)=W9' at*;generalize hbe:w5.heap.size=be at*;have qN:=Hx (X5.o.tr X9.o);obtain⟨ny,Y1,my,fy,qn,qk,qj,⟨s0,s1,s2⟩,_,hy⟩:=(J8.o.K qN.o).r8.at3;obtain⟨l2,q5⟩:=hy.lens (jzu qh.o hP1 HQ.o.2 (by rw[hnr];exact qm.o) qI.o k (by omega));have qg:k*(3+64*(P+1))<=64*(3+64*(10000+1)):=kQq (by omega) (by omega);obtain⟨l1,q2⟩:=R5.o.lens qV.o;have RY:=Hx (kQa hy (R5.o.K X9.o));have qa:=Hx (show∀wx,Ext W9' wx->(wx.cell? (aD (g7+1) 0)=some (.bool ny)/\wx.cell? (aD (g7+1) 1)=some (.s Y1 my fy)/\wx.cell? (aD (g7+1) 2)=some (.s qn qk qj))/\wx.cell? (aD bd 2)=some (vI d.amount)/\
    wx.cell? (aD be 0)=some (.bool nb)/\wx.cell? (aD be 1)=some (.s G1 u1 v1)/\wx.cell? (aD be 2)=some (.s G2 u2 v2)from fun wx hx=>
   ⟨⟨aB hx s0,aB hx s1,aB hx s2⟩,((B8.o.K qN.o).K hx).cell 2,(B9.o.K hx).cell 0,(B9.o.K hx).cell 1,(B9.o.K hx).cell 2⟩)
  (have XD:Hid (Ext W9' W9'.drew):=Hx ((eR W9').drewN 1);have HSW:=Hx (qa.o _ XD.o);clear hy s0 s1 s2;refine wX qa 7 ?_;refine wP 1 rfl HSW.o ?_;try simp only[Act.put,yA,yB,yC,yD,yE,yF]);refine wV 0 rfl HSW.o ?_;refine wV 2 rfl HSW.o ?_;(refine wV 4 rfl HSW.o ?_;try simp only[Act.put,yA,yB,yC,yD,yE,yF]);(refine wC 3 rfl (fun KK hK=>?_);go_simp;refine(kK d.amount _ AM.o.2.1).mono ?_;rintro e w6 ⟨n6,A6,l6,c6,qQ,qG,qH,rfl,h6,x6⟩;have E6:=Hx (XD.o.tr x6);have HSW:=Hx (qa.o _ E6.o);obtain⟨l3,q4⟩:=h6.lens (AM.o.1▸jzs qh.o qA);have R6:=Hx h6;refine hK.o _ _ HSW.o ?_;clear hK KK x6 h6;try simp only[Act.put,yA,yB,yC,yD,yE,yF]);(refine wC 5 rfl (fun KK hK=>?_);go_simp;refine(iH n6 nb A6 l6 c6 qQ qG qH G1 u1 v1 G2 u2 v2 (d.amount:Rat) (prQ pr r2.1) _ R6.o (RY.o.2.K E6.o) (by omega) (by omega) (by omega) (by omega)).mono ?_;rintro e w7 ⟨n7,A7,l7,c7,qy,qz,qw,rfl,h7,x7⟩;have E7:=Hx (E6.o.tr x7);have HSW:=Hx (qa.o _ E7.o);obtain⟨l4,q1⟩:=h7.lens ((AM.o.1▸jzs qh.o qA:SzQ (d.amount:Rat) 1).mul qV.o);have R7:=Hx h7;refine hK.o _ _ HSW.o ?_;clear hK KK x7 h7;try simp only[Act.put,yA,yB,yC,yD,yE,yF]);(refine wC 6 rfl (fun KK hK=>?_);go_simp;refine(gE ny n7 Y1 my fy qn qk qj A7 l7 c7 qy qz qw (dX t l pr k) ((d.amount:Rat)*prQ pr r2.1) _ (RY.o.1.K E7.o) R7.o (by omega) (by omega) (by omega) (by omega) (fI (kQx (kQ7 _) (kQ7 _)))).mono ?_;rintro e w9 ⟨n9,A9,l9,c9,qL,qO,qF,rfl,h9,x9⟩;have E9:=Hx (E7.o.tr x9);have HSW:=Hx (qa.o _ E9.o);have Q9:=Hx ((J8.o.K qN.o).K E9.o);have qf:Hid (ChI W3 (((w9.setCell (aD (g7+1) 0) (.bool n9)).setCell (aD (g7+1) 1) (.s A9 l9 c9)).setCell (aD (g7+1) 2) (.s qL qO qF)) g7 (g7+1) (eH t pr n) (dX t l pr (k+1))/\fU t l pr (k+1)=true):=Hx (⟨by rw[q7.o];exact Q9.o.put8 q6 h9,q8.o⟩);obtain⟨_,_,_,_,_,_,_,_,⟨z0,z1,z2⟩,_⟩:=Q9.o.r8.at3;refine hK.o _ _ HSW.o ?_;clear hK KK x9 h9;try simp only[Act.put,yA,yB,yC,yD,yE,yF]);obtain⟨⟨s0,s1,s2⟩,s3,s4,s5,s6⟩:=HSW.o;refine bY (by kernel_rfl) rfl (by rfl) (fun KK hK=>?_);go_simp;refine hK.o _ _ ?_;clear hK KK;refine wpAny_done (by kernel_rfl) ?_ _;clear s0 s1 s2 s3 s4 s5 s6 z0 z1 z2 HSW qa XD RY Q9 E9 E7 E6 R6 R7 J8 B8 J;go_wp2;go_roundg (l.length-(k+1));(case measure=>omega);exact⟨k+1,rfl,by omega,by go_num,qf⟩
 (obtain rfl:k=l.length:=by omega);(go_upto_region 19 with fail);obtain⟨ny,Y1,my,fy,qn,qk,qj,⟨s0,s1,s2⟩,_,hy⟩:=J.o.1.r7.at3;obtain⟨nz,Z1,mz,fz,qW,qS,qU,⟨s6,s7,s8⟩,_,hz⟩:=J.o.1.r8.at3;obtain⟨l2,q5⟩:=hy.lens (jzr qh.o.v HQ.o.2 (by rw[hnr];exact qm.o) n (by omega));have qg:n*(P+2)<=512*(10000+2):=kQq (by omega) (by omega);obtain⟨l3,q4⟩:=hz.lens (jzu qh.o hP1 HQ.o.2 (by rw[hnr];exact qm.o) qI.o l.length (yX _));have qD:l.length*(3+64*(P+1))<=64*(3+64*(10000+1)):=kQq (by omega) (by omega);obtain⟨l1,q2⟩:=HV.o.1.lens HV.o.2;have s3:=PJ.o.cell 0;have s4:=PJ.o.cell 1;have s5:=PJ.o.cell 2;have RY:=Hx (kQa hy hz);have h7:=J.o.1.r7.lt;have h8:=J.o.1.r8.lt;have h9:=PJ.o.lt;clear XW;have qX:=Hx (fun wx (hx:Ext wr wx)=>iB ny nv Y1 my fy qn qk qj V1 nv1 cv1 V2 nv2 cv2 (eH t pr n) v wx (hy.K hx) (HV.o.1.K (XJ.o.tr hx)) (by omega) (by omega) (by omega) (by omega));clear hy hz;by_cases hw:eH t pr n=v;(case neg=>have qf:=Hx (show fV t l v Z pr=false by rw[qM.o,J.o.2,yP hw];rfl);have q9:(aW (eH t pr n) v==0)=false:=yK.2 (fun h=>hw ((oX _ _).1 h));clear hw;have x0:=XW.cell _ _ _ h7 s0;have x1:=XW.cell _ _ _ h7 s1;have x2:=XW.cell _ _ _ h7 s2;have x3:=XW.cell _ _ _ h9 s3;have x4:=XW.cell _ _ _ h9 s4;have x5:=XW.cell _ _ _ h9 s5;refine cT (by kernel_rfl) (by kernel_rfl) ?_;(repeat (go_big_quiet_step ((go_at_call 30;exact Calls.ext_of (qX.o _ (XW.ext _))))));refine wpQuiet_nil ?_;rintro _ ⟨x,rfl⟩;go_wp2;go_ret;rw[qf.o];exact⟨rfl,XJ.o.tr x.ext⟩);have q9:(aW (eH t pr n) v==0)=true:=beq_iff_eq.2 ((oX _ _).2 hw);have qf:=Hx (show fV t l v Z pr=decide (0<=aW (dX t l pr l.length) 1) by rw[qM.o,J.o.2,yO hw];simp only[kZg];rw[decide_eq_decide];exact(jzq _ _).symm)
 clear hw;have qa:=Hx (show∀wx,Ext wr wx->(wx.cell? (aD g7 0)=some (.bool ny)/\wx.cell? (aD g7 1)=some (.s Y1 my fy)/\wx.cell? (aD g7 2)=some (.s qn qk qj))/\(wx.cell? (aD (w.heap.size+1) 0)=some (.bool nv)/\wx.cell? (aD (w.heap.size+1) 1)=some (.s V1 nv1 cv1)/\wx.cell? (aD (w.heap.size+1) 2)=some (.s V2 nv2 cv2))/\
   wx.cell? (aD (g7+1) 0)=some (.bool nz)/\wx.cell? (aD (g7+1) 1)=some (.s Z1 mz fz)/\wx.cell? (aD (g7+1) 2)=some (.s qW qS qU)from fun wx hx=>
  ⟨⟨aB hx s0,aB hx s1,aB hx s2⟩,⟨aB hx s3,aB hx s4,aB hx s5⟩,aB hx s6,aB hx s7,aB hx s8⟩)
 (have XD:Hid (Ext wr wr.drew):=Hx ((eR wr).drewN 1);have HSW:=Hx (qa.o _ XD.o);clear s0 s1 s2 s3 s4 s5 s6 s7 s8;refine wX qa 11 ?_;refine wP 1 rfl HSW.o ?_;try simp only[Act.put,yA,yB,yC,yD,yE,yF]);refine wV 0 rfl HSW.o ?_;(refine wV 2 rfl HSW.o ?_;try simp only[Act.put,yA,yB,yC,yD,yE,yF]);(refine wC 3 rfl (fun KK hK=>?_);go_simp;refine(qX.o _ XD.o).mono ?_;rintro e w6 ⟨rfl,x6⟩;have E6:=Hx (XD.o.tr x6);have HSW:=Hx (qa.o _ E6.o);refine hK.o _ _ HSW.o ?_;clear hK KK x6;try simp only[Act.put,yA,yB,yC,yD,yE,yF]);refine wP 4 rfl HSW.o ?_;refine wP 5 rfl HSW.o ?_;(refine wV 6 rfl HSW.o ?_;try simp only[Act.put,yA,yB,yC,yD,yE,yF]);(refine wC 7 rfl (fun KK hK=>?_);go_simp;refine(kK 1 _ (by unfold i64;decide)).mono ?_;rintro e w7 ⟨n7,A7,l7,c7,qy,qz,qw,rfl,qK,x7⟩;have E7:=Hx (E6.o.tr x7);have HSW:=Hx (qa.o _ E7.o);obtain⟨l4,q1⟩:=qK.lens (SzQ.int (n:=1) (by decide));have R7:=Hx qK;refine hK.o _ _ HSW.o ?_;clear hK KK x7 qK;try simp only[Act.put,yA,yB,yC,yD,yE,yF]);(refine wC 8 rfl (fun KK hK=>?_);go_simp;refine(iB nz n7 Z1 mz fz qW qS qU A7 l7 c7 qy qz qw (dX t l pr l.length) ((1:Int):Rat) _ (RY.o.2.K E7.o) R7.o (by omega) (by omega) (by omega) (by omega)).mono ?_;rintro e w8 ⟨rfl,x8⟩;have E8:=Hx (E7.o.tr x8);have HSW:=Hx (qa.o _ E8.o);refine hK.o _ _ HSW.o ?_;clear hK KK x8;try simp only[Act.put,yA,yB,yC,yD,yE,yF]);refine wP 9 rfl HSW.o ?_;(refine wP 10 rfl HSW.o ?_;try simp only[Act.put,yA,yB,yC,yD,yE,yF]);refine bY (by kernel_rfl) rfl (by rfl) (fun KK hK=>?_);go_simp;refine hK.o _ _ ?_;clear hK KK;refine wpAny_done (by kernel_rfl) ?_ _;go_wp2;go_ret;rw[qf.o];exact⟨rfl,XJ.o.tr E8.o⟩
open Sx
theorem jzqm{w w':World}{b:Nat}(h:w'.heap[b]?=w.heap[b]?)(o:Nat):w'.cell? (aD b o)=w.cell? (aD b o):=by
 unfold World.cell?;simp only[h]
theorem Rd.frN{S:Nat->Prop}{w w'}{A}{xs:List Value}(h:Rd w A xs)(k:FrS S w w')(hn:∀b o:Nat,A=some (aD b o)->(∀i,i<xs.length->w.cell? (aD b (o+i))=xs[i]?)->xs≠ []->¬S b):Rd w' A xs:=fun hx=>by
 obtain⟨b,o,e,hb,hc⟩:=h hx;refine⟨b,o,e,yL hb k.size,fun i hi=>?_⟩;rw[<-hc i hi];exact jzqm (k.block b hb (hn b o e hc hx)) _
structure dR(w:World)(t:Tp)(l:List Dm)(neg:Bool)(A1:OA)(n1 c1:Nat)(A2:OA)(n2 c2:Nat)(AP:OA)(cp gp:Nat)(v:Rat)(Z:List ((Nat×LN)×Rat))(pr:LQ):Prop where
 ok:bP t l v Z pr
 sv:SzQ v 20
 sz:∀z∈Z,SzQ z.2 41
 sp:∀q∈pr,SzQ q 20
 len:Z.length<=24
 cap:Z.length<=cp
 val:aE w neg A1 n1 c1 A2 n2 c2 v
 pat:PLr w AP (Z.map pzI)
 prs:QL w (sA gp) pr
section
variable {w w':World} {t:Tp} {l:List Dm} {neg:Bool} {A1:Option Addr} {n1 c1:Nat} {A2:Option Addr} {n2 c2:Nat} {AP:Option Addr} {cp gp:Nat} {v:Rat} {Z:List ((Nat×List Nat)×Rat)} {pr:List Rat}
theorem dR.K(h:dR w t l neg A1 n1 c1 A2 n2 c2 AP cp gp v Z pr)(hx:Ext w w'):dR w' t l neg A1 n1 c1 A2 n2 c2 AP cp gp v Z pr:=
 ⟨h.ok,h.sv,h.sz,h.sp,h.len,h.cap,h.val.K hx,RdL.K h.pat hx fun cs x hq=>hq.K hx,h.prs.K hx⟩
theorem jzgn{b o:Nat}(hb:Blk w b 39 #[.bool false,zN,zN,zN,zN]){k:IntKind}{x:Int}(h:w.cell? (aD b o)=some (.int k x)):False:=by
 rw[hb.cell]at h;(match o,h with|0,h=>cases h|1,h=>cases h|2,h=>cases h|3,h=>cases h|4,h=>cases h|o+5,h=>simp at h)
theorem jzqn{b:Nat}(hb:Blk w b 39 #[.bool false,zN,zN,zN,zN]):w.cell? (aD b 5)=none:=by
 rw[hb.cell];rfl
theorem dR.fill{b:Nat}(h:dR w t l neg A1 n1 c1 A2 n2 c2 AP cp gp v Z pr)(hb:Blk w b 39 #[.bool false,zN,zN,zN,zN])(k:FrS (fun x=>x=b) w w'):dR w' t l neg A1 n1 c1 A2 n2 c2 AP cp gp v Z pr:=by
 have hn:NoT (fun x=>x=b) w 188:=NoT.one hb (by decide);refine⟨h.ok,h.sv,h.sz,h.sp,h.len,h.cap,k.ratR hn h.val,?_,?_⟩;{obtain⟨css,h1,h2,h3,h4⟩:=h.pat;refine⟨css,h1,h2,h3.frN k fun g o e hc hx hg=>?_,fun i p hp=>?_⟩;{subst hg;(cases css with|nil=>exact hx rfl|cons c1 css=>have hp:∃p,(Z.map pzI)[0]?=some p:=(by (cases hz:Z.map pzI with|nil=>rw[hz]at h1;simp at h1|cons p r=>exact⟨p,rfl⟩));obtain⟨p,hp⟩:=hp;obtain⟨cs,k1,A,c,ng,B1,m1,d1,B2,m2,d2,rfl,_⟩:=h4 0 p hp;have k1:some c1=some _:=k1;injection k1 with k1;subst k1;have:=hc 0 (by simp);exact jzgn hb this)};(obtain⟨cs,k1,A,c,ng,B1,m1,d1,B2,m2,d2,k2,k3,k4,k5⟩:=h4 i p hp;refine⟨cs,k1,A,c,ng,B1,m1,d1,B2,m2,d2,k2,k3,k4.frN k fun g o e hc hx hg=>?_,k.ratR hn k5⟩;subst hg;cases ha:p.arcs with|nil=>rw[ha]at hx;exact hx rfl|cons a r=>rw[ha]at hc;exact jzgn hb (hc 0 (by simp[gA])))};obtain⟨css,h1,h2,h3,h4⟩:=h.prs;refine⟨css,h1,h2,h3.frN k fun g o e hc hx hg=>?_,fun i q hq=>?_⟩;{subst hg;(injection e with e);(injection e with _ e2);subst e2;have hl:=gH css h2;have h6:6<=css.flatten.length:=(by have h7:=h.ok.plen;have h8:css.flatten.length≠0:=fun h9=>hx (kQz h9);omega);have h5:=hc 5 (by omega);rw[kQu,jzqn hb,yG (by omega)]at h5;cases h5};obtain⟨cs,k1,k2⟩:=h4 i q hq;exact⟨cs,k1,k.qr hn k2⟩
end
theorem mD.cases{w}{t}{l:List Dm}{e:Ending}{w'}(hf:Fit t l)(hD:l.length<=4)(h:mD w t l e w'):
  (¬connL t l/\e=.returned (.tuple #[.agg #[.bool false,zN,zN,zN,zN],vI 11])/\Ext w w')\/
  ∃(neg:Bool) (A1:OA) (n1 c1:Nat) (A2:OA) (n2 c2:Nat) (AP:OA) (cp gp:Nat) (v:Rat) (Z:List ((Nat×LN)×Rat)) (pr:LQ),
   e=.returned (.tuple #[.agg #[.bool neg,.s A1 n1 c1,.s A2 n2 c2,.s AP Z.length cp,.s (sA gp) (2*t.links.length) (2*t.links.length)],vI 0])/\dR w' t l neg A1 n1 c1 A2 n2 c2 AP cp gp v Z pr/\Ext w w':=by
 (rcases h with⟨h1,_⟩|⟨_,⟨d,hd,h1⟩,h2,h3⟩|⟨_,v,Z,pr,neg,A1,n1,c1,A2,n2,c2,AP,cp,gp,h1,h2,s1,s2,s3,h3,h4,s4,s5,s6,h5⟩);{rw[(lZ (show l.length<=64 by omega)).2 hf]at h1;cases h1};{exact .inl ⟨fun hc=>by obtain⟨y,hy⟩:=jzv.1 hc d hd;exact h1 y hy,h2,h3⟩};exact .inr ⟨neg,A1,n1,c1,A2,n2,c2,AP,cp,gp,v,Z,pr,h3,⟨h1,h2,s1,s2,s3,s4,h4,s5,s6⟩,h5⟩
theorem jzgo{k:Nat}:∀(Z:List bA),(∀p∈Z,p.arcs.length<=k)->cK Z<=Z.length*k
 | [],_=>yZ _
 |p::Z,h=>by
  have h1:=h p (by simp);have h2:=jzgo Z fun q hq=>h q (xO _ hq);show p.arcs.length+cK Z<=(Z.length+1)*k;rw[xP,xQ];omega
section
variable {t:Tp} {l:List Dm} {v:Rat} {Z:List ((Nat×List Nat)×Rat)} {pr:List Rat}
theorem jzqo(hf:Fit t l)(hD:l.length<=64)(h1:∀z∈Z,z.1.1<l.length)(h2:∀z∈Z,Lpl t (bE l z.1.1) (bC l z.1.1) z.1.2):∀p∈Z.map pzI,p.arcs.length<=64/\i64 p.dem/\∀a∈p.arcs,i64 a:=fun p hp=>by
 obtain⟨z,hz,rfl⟩:=kQl.1 hp;have k1:=h1 z hz;have k2:=h2 z hz;have hv:=hf.v;unfold aI cG inB at hv;simp at hv;have k3:=k2.len hf.v (hf.nodes k1).1;refine⟨by simp[pzI];omega,by unfold i64 pzI;simp only[];omega,fun a ha=>?_⟩;obtain⟨b,hb,rfl⟩:=kQl.1 ha;have:=gT _ k2.1 b hb;unfold i64;omega
end
section
variable {w:World} {t:Tp} {l:List Dm} {neg:Bool} {A1:Option Addr} {n1 c1:Nat} {A2:Option Addr} {n2 c2:Nat} {AP:Option Addr} {cp gp:Nat} {v:Rat} {Z:List ((Nat×List Nat)×Rat)} {pr:List Rat}
theorem dR.flows(h:dR w t l neg A1 n1 c1 A2 n2 c2 AP cp gp v Z pr):∀p∈Z.map pzI,SzQ p.flow 41:=fun p hp=>by
 obtain⟨z,hz,rfl⟩:=kQl.1 hp;exact h.sz z hz
theorem dR.arcs(h:dR w t l neg A1 n1 c1 A2 n2 c2 AP cp gp v Z pr)(hf:Fit t l)(hD:l.length<=4):(∀p∈Z.map pzI,p.arcs.length<=64/\i64 p.dem/\∀a∈p.arcs,i64 a)/\cK (Z.map pzI)<=1536:=by
 have h1:=jzqo hf (by omega) h.ok.adm.dem h.ok.loop;refine⟨h1,?_⟩;have h2:=jzgo (k:=64) (Z.map pzI) fun p hp=>(h1 p hp).1;have h3:=h.len;rw[xV]at h2;have h4:Z.length*64<=24*64:=xS _ h3;omega
theorem dR.full(h:dR w t l neg A1 n1 c1 A2 n2 c2 AP cp gp v Z pr)(hf:Fit t l)(hD:l.length<=4){AO}{co:Nat}{AL}{cl np:Nat}(hnp:Z.length=np)(ht:aX w t AO co AL cl):
  Calls prog 21 #[.agg #[vI t.nodes,.s AO t.over.length co,.s AL t.links.length cl],.s AP np cp] w fun e w'=>∃(A:OA) (c:Nat),e=.returned (.s A (kD t (Z.map pzI)).length c)/\Ext w w':=by
 obtain⟨h1,h2⟩:=h.arcs hf hD;have h3:=h.len;refine(jzor t AO co AL cl (Z.map pzI) AP np cp 41 (by rw[xV];exact hnp) w ht h.pat (by omega) h.flows (by decide) (fun p hp=>by have:=(h1 p hp).1;omega) (by omega) (by decide)).mono ?_;rintro e w' ⟨A,c,h1,_,_,h2⟩;exact⟨A,c,h1,h2⟩
theorem dR.check(h:dR w t l neg A1 n1 c1 A2 n2 c2 AP cp gp v Z pr)(hf:Fit t l)(hD:l.length<=4){AO}{co:Nat}{AL}{cl np nr cr cd:Nat}{AD}(hnp:Z.length=np)(hnr:pr.length=nr)(ht:aX w t AO co AL cl)(hd:DmR w l AD cd)(hta:Tab w):
  Calls prog 36 #[.agg #[vI t.nodes,.s AO t.over.length co,.s AL t.links.length cl],.s AD l.length cd,.agg #[.bool neg,.s A1 n1 c1,.s A2 n2 c2,.s AP np cp,.s (sA gp) nr cr]] w fun e w'=>e=.returned (.bool true)/\Ext w w':=by
 obtain⟨h1,h2⟩:=h.arcs hf hD;have h3:=h.len;have:=jzql t AO co AL cl l AD cd v neg A1 n1 c1 A2 n2 c2 (Z.map pzI) AP np cp (by rw[xV];exact hnp) pr (sA gp) nr cr 41 hnr w ht hd (by omega) h.val (h.sv.mono (by decide)) h.pat h.prs (fun q hq=>(h.sp q hq).mono (by decide)) (by omega) h.flows (by decide) (fun p hp=>by have:=(h1 p hp).1;omega) (fun p hp=>(h1 p hp).2) (by decide) (by omega) hta;rw[h.ok.checks (by omega) hf]at this;exact this
end
theorem jzqp:eA (3/2)=[51,47,50]:=by
 unfold eA;rw[show(3/2:Rat).num=3 from by decide+kernel,show(3/2:Rat).den=2 from by decide+kernel];simp[Lib.decDigits]
theorem jzgp(neg:Bool)A(n c:Nat)A'(n' c':Nat)(q:Rat)(hq:q=3/2)w(h:aE w neg A n c A' n' c' q)(ht:Tab w):
  Calls prog 23 #[.agg #[.bool neg,.s A n c,.s A' n' c']] w fun e w'=>e=.returned (.string ⟨#[51,47,50]⟩)/\Ext w w':=by
 subst hq;obtain⟨h1,h2⟩:=h.lens (k:=1) (by unfold SzQ;decide+kernel);have:=jzbc neg A n c A' n' c' (3/2) w h (by omega) (by omega) ht;rw[jzqp]at this;exact this
theorem jzqq:connL rgT [rgA]:=jz5.connL
theorem jzqr:connL rgT [rgA,rgB]:=jzgm.connL
theorem jz6(l:List Dm)(hl:l=[rgA]\/l=[rgA,rgB])AL(cl:Nat)AD(nd cd:Nat)(hnd:l.length=nd)w(ht:aX w rgT none 0 AL cl)(hd:DmR w l AD cd)(hta:Tab w):
  Calls prog 10 #[.agg #[vI 4,zN,.s AL 4 cl],.s AD nd cd] w fun e w'=>∃(neg:Bool) (A1:OA) (n1 c1:Nat) (A2:OA) (n2 c2:Nat) (AP:OA) (np cp gp:Nat) (Z:List ((Nat×LN)×Rat)) (pr:LQ),
   e=.returned (.tuple #[.agg #[.bool neg,.s A1 n1 c1,.s A2 n2 c2,.s AP np cp,.s (sA gp) 8 8],vI 0])/\Hid (Z.length=np)/\dR w' rgT l neg A1 n1 c1 A2 n2 c2 AP cp gp (3/2) Z pr/\Ext w w':=by
 subst hnd
 have hf:Fit rgT l:=by rcases hl with rfl|rfl; ·exact sU
                       ·exact jz4
 have hD:l.length<=4:=(by rcases hl with rfl|rfl <;> decide);refine(jzfi rgT none 0 AL cl l AD cd w ht hd (by decide) hD (fun _=>by decide) hta).mono ?_;intro e w' h;rcases h.cases hf hD with⟨h1,_⟩|⟨neg,A1,n1,c1,A2,n2,c2,AP,cp,gp,v,Z,pr,h1,h2,h3⟩
 ·rcases hl with rfl|rfl
  ·exact absurd jzqq h1
  exact absurd jzqr h1
 have hv:v=3/2:=by
  rcases hl with rfl|rfl
  ·exact h2.ok.unique sU jz5
  exact h2.ok.unique jz4 jzgm
 subst hv;exact⟨neg,A1,n1,c1,A2,n2,c2,AP,_,cp,gp,Z,pr,h1,Hx rfl,h2,h3⟩
theorem jzqs{w}{A}{c:Nat}(h:Rd w A ([rgA,rgB].flatMap Dm.cells))(hc:2<=c):DmR w [rgA,rgB] A c:=⟨hc,by decide,h,fun d hd=>by
 rcases xZ.1 hd with rfl|hd
 ·unfold Dm.wf i64 rgA;simp
 ·rw[xD.1 hd];unfold Dm.wf i64 rgB;simp⟩
theorem DmR.first{w}{A}{c:Nat}(h:DmR w [rgA,rgB] A c):DmR w [rgA] A c:=⟨by have:=h.len;simp at this⊢;omega,by decide,fun _=>by
 obtain⟨b,o,e,hb,hc⟩:=h.rd (by simp[Dm.cells]);refine⟨b,o,e,hb,fun i hi=>?_⟩;have qa:i<4:=hi;rw[hc i (by show i<8;omega)];show(rgA.cells++(rgB.cells++[]))[i]?=(rgA.cells++[])[i]?;rw[yR (by show i<4;omega),yR (by show i<4;omega)],fun d hd=>h.wf d (by rw[xD.1 hd];simp)⟩
theorem jzqt{W0 w5}{g:Nat}{t}{l:List Dm}{neg:Bool}{A1}{n1 c1:Nat}{A2}{n2 c2:Nat}{AP}{cp gp:Nat}{v:Rat}{Z:List ((Nat×LN)×Rat)}{pr:LQ}(np nr:Nat)
  (h5:Blk w5 g 39 #[.bool false,zN,zN,zN,zN]) (hS:dR w5 t l neg A1 n1 c1 A2 n2 c2 AP cp gp v Z pr) (hx:Ext W0 w5) (hg:W0.heap.size<=g):
  Blk (((((w5.setCell (aD g 0) (.bool neg)).setCell (aD g 1) (.s A1 n1 c1)).setCell (aD g 2) (.s A2 n2 c2)).setCell (aD g 3) (.s AP np cp)).setCell (aD g 4) (.s (sA gp) nr nr)) g 39 #[.bool neg,.s A1 n1 c1,.s A2 n2 c2,.s AP np cp,.s (sA gp) nr nr]/\
  dR (((((w5.setCell (aD g 0) (.bool neg)).setCell (aD g 1) (.s A1 n1 c1)).setCell (aD g 2) (.s A2 n2 c2)).setCell (aD g 3) (.s AP np cp)).setCell (aD g 4) (.s (sA gp) nr nr)) t l neg A1 n1 c1 A2 n2 c2 AP cp gp v Z pr/\
  Ext W0 (((((w5.setCell (aD g 0) (.bool neg)).setCell (aD g 1) (.s A1 n1 c1)).setCell (aD g 2) (.s A2 n2 c2)).setCell (aD g 3) (.s AP np cp)).setCell (aD g 4) (.s (sA gp) nr nr)):=by
 have b0:=h5.sT 0 (.bool neg);have b1:=b0.sT 1 (.s A1 n1 c1);have b2:=b1.sT 2 (.s A2 n2 c2);have b3:=b2.sT 3 (.s AP np cp);have b4:=b3.sT 4 (.s (sA gp) nr nr);have k:FrS (fun x=>x=g) w5 (((((w5.setCell (aD g 0) (.bool neg)).setCell (aD g 1) (.s A1 n1 c1)).setCell (aD g 2) (.s A2 n2 c2)).setCell (aD g 3) (.s AP np cp)).setCell (aD g 4) (.s (sA gp) nr nr)):=eG (S:=fun x=>x=g) (oY w5 g (.bool neg) (.s A1 n1 c1) (.s A2 n2 c2) (.s AP np cp) (.s (sA gp) nr nr)) fun y e=>(Option.some.inj e).symm;exact⟨b4,hS.fill h5 k,k.ext hx fun b hb=>by rw[hb];exact hg⟩
theorem jzqu w(ht:Tab w):
  Calls prog 7 #[] w fun e w'=>e=.returned (.bool true)/\Ext w w':=by
 have HT:=Hx ht;clear ht
 go_enter func7,ntmps7
 go_upto_region 2 with fail
 have D0:=Hx (jzqs (w:=w.alloc (.cells #[vI 0,vI 2,vI 4,vI 0,vI 2,vI 0,vI 4,vI 0] 27)) (A:=(sA w.heap.size)) (c:=2) (Rd.new w 27 #[vI 0,vI 2,vI 4,vI 0,vI 2,vI 0,vI 4,vI 0] (xs:=[rgA,rgB].flatMap Dm.cells) rfl rfl) (yX _));have X0:=Hx ((eR w).alloc (.cells #[vI 0,vI 2,vI 4,vI 0,vI 2,vI 0,vI 4,vI 0] 27));generalize w.alloc (.cells #[vI 0,vI 2,vI 4,vI 0,vI 2,vI 0,vI 4,vI 0] 27)=W0 at*;generalize w.heap.size=gd at*;have XD:Hid (Ext W0 W0.drew):=Hx ((eR W0).drewN 1);have XA:Hid (Ext W0 (W0.alloc (.cells #[.bool false,zN,zN,zN,zN] 39)).drew):=Hx (((eR W0).alloc _).drewN 1);have BA:Hid (Blk (W0.alloc (.cells #[.bool false,zN,zN,zN,zN] 39)).drew W0.heap.size 39 #[.bool false,zN,zN,zN,zN]):=Hx (eN W0 _ _)
 go_cut [2,3] (fun s2 s3 wx=>∃(b:Nat) (neg:Bool) (A1:OA) (n1 c1:Nat) (A2:OA) (n2 c2:Nat) (AP:OA) (np cp gp:Nat),s2=.pointer (sA b)/\s3=vI 0/\Hid (∃(Z:List ((Nat×LN)×Rat)) (pr:LQ),Z.length=np/\Blk wx b 39 #[.bool neg,.s A1 n1 c1,.s A2 n2 c2,.s AP np cp,.s (sA gp) 8 8]/\dR wx rgT [rgA] neg A1 n1 c1 A2 n2 c2 AP cp gp (3/2) Z pr)/\Hid (Ext W0 wx))
 case first=>
  go_region_held3 (fun _=>True)
   (trivial)
   (first
    |(go_at_call 35
      refine(sW _).mono ?_;rintro e w1 ⟨AL,cl,rfl,T1,x1⟩
      first
      |(have E1:=Hx (kQa T1 (show Ext W0 w1 by with_reducible exact XD.o.tr x1)))
      |(have E1:=Hx (kQa T1 (show Ext W0 w1 by with_reducible exact XA.o.tr x1))
        have B1:=Hx (BA.o.K x1))
      clear T1 x1)
    |(go_at_call 10
      first
      |(with_reducible refine(jz6 [rgA] (.inl rfl) AL cl (sA gd) 1 2 rfl _ E1.o.1 (D0.o.first.K E1.o.2) (HT.o.K (X0.o.tr E1.o.2))).mono ?_
        rintro e w5 ⟨neg,A1,n1,c1,A2,n2,c2,AP,np,cp,gp,Z,pr,rfl,HZ,S5,x5⟩;have E5:=Hx (kQa S5 (E1.o.2.tr x5))
        first
        |(have B5:=Hx (B1.o.K x5)
          have f0:=B5.o.frozen 0;have f1:=B5.o.frozen 1;have f2:=B5.o.frozen 2;have f3:=B5.o.frozen 3;have f4:=B5.o.frozen 4;have u0:=B5.o.cell 0;have u1:=B5.o.cell 1;have u2:=B5.o.cell 2;have u3:=B5.o.cell 3;have u4:=B5.o.cell 4)
        |skip)
      |(with_reducible refine(jz6 [rgA] (.inl rfl) AL cl (sA gd) 1 2 rfl _ (E1.o.1.K ((eR w1).alloc _)) (D0.o.first.K (E1.o.2.alloc _)) (HT.o.K (X0.o.tr (E1.o.2.alloc _)))).mono ?_
        rintro e w5 ⟨neg,A1,n1,c1,A2,n2,c2,AP,np,cp,gp,Z,pr,rfl,HZ,S5,x5⟩;have E5:=Hx (kQa S5 ((E1.o.2.alloc (.cells #[.bool false,zN,zN,zN,zN] 39)).tr x5));have B5:=Hx (Blk.K (eN w1 39 #[.bool false,zN,zN,zN,zN]) x5);have f0:=B5.o.frozen 0;have f1:=B5.o.frozen 1;have f2:=B5.o.frozen 2;have f3:=B5.o.frozen 3;have f4:=B5.o.frozen 4;have u0:=B5.o.cell 0;have u1:=B5.o.cell 1;have u2:=B5.o.cell 2;have u3:=B5.o.cell 3;have u4:=B5.o.cell 4)
      clear S5 x5)
    |fail)
  all_goals
   go_wp2;go_meet;have qg:=E1.o.2.size
   first
   |(have F:=jzqt np 8 B5.o E5.o.1 E5.o.2 (by omega)
     exact⟨_,neg,A1,n1,c1,A2,n2,c2,AP,np,cp,gp,rfl,rfl,Hx ⟨Z,pr,HZ.o,F.1,F.2.1⟩,Hx F.2.2⟩)
   |exact⟨_,neg,A1,n1,c1,A2,n2,c2,AP,np,cp,gp,rfl,rfl,Hx ⟨Z,pr,HZ.o,eN w5 _ _,E5.o.1.K ((eR w5).alloc _)⟩,Hx (E5.o.2.alloc _)⟩
 obtain⟨b1,neg,A1,n1,c1,A2,n2,c2,AP,np,cp,gp,rfl,rfl,P1,X1⟩:=hcut;clear XD XA BA
 go_wp2_with fail
 refine(sW _).mono ?_;rintro e w3 ⟨AL,cl,rfl,T3,x3⟩;have E3:=Hx (kQa T3 (X1.o.tr x3));have X3:=Hx x3;clear T3 x3
 go_wp2_with fail
 refine(jz6 [rgA,rgB] (.inr rfl) AL cl (sA gd) 2 2 rfl _ E3.o.1 (D0.o.K E3.o.2) (HT.o.K (X0.o.tr E3.o.2))).mono ?_;rintro e w5 ⟨ng,G1,u1,v1,G2,u2,v2,GP,mp,dp,hp,Z,pr,rfl,HZ,S5,x5⟩;have B6:=Hx (eN w5 39 #[.bool ng,.s G1 u1 v1,.s G2 u2 v2,.s GP mp dp,.s (sA hp) 8 8]);have X6:=Hx ((eR w5).alloc (.cells #[.bool ng,.s G1 u1 v1,.s G2 u2 v2,.s GP mp dp,.s (sA hp) 8 8] 39));have S6:=Hx (S5.K X6.o);have qi:=Hx ((X3.o.tr x5).tr X6.o);have E6:=Hx (X0.o.tr ((E3.o.2.tr x5).tr X6.o));have D6:=Hx (D0.o.K ((E3.o.2.tr x5).tr X6.o));clear S5 x5 X3 E3
 go_upto_region 4 with fail
 generalize w5.alloc (.cells #[.bool ng,.s G1 u1 v1,.s G2 u2 v2,.s GP mp dp,.s (sA hp) 8 8] 39)=W6 at*;generalize w5.heap.size=b6 at*;obtain⟨Z1,qB,qm,qw,qg⟩:=P1.o;have B1:=Hx (qw.K qi.o);have S1:=Hx (kQa qm (qg.K qi.o));have qa:=Hx (show∀wx,Ext W6 wx->(wx.cell? (aD b1 0)=some (.bool neg)/\wx.cell? (aD b1 1)=some (.s A1 n1 c1)/\wx.cell? (aD b1 2)=some (.s A2 n2 c2)/\wx.cell? (aD b1 3)=some (.s AP np cp))/\
   wx.cell? (aD b6 0)=some (.bool ng)/\wx.cell? (aD b6 1)=some (.s G1 u1 v1)/\wx.cell? (aD b6 2)=some (.s G2 u2 v2)/\wx.cell? (aD b6 3)=some (.s GP mp dp)/\wx.cell? (aD b6 4)=some (.s (sA hp) 8 8)from fun wx hx=>
  ⟨⟨(B1.o.K hx).cell 0,(B1.o.K hx).cell 1,(B1.o.K hx).cell 2,(B1.o.K hx).cell 3⟩,(B6.o.K hx).cell 0,(B6.o.K hx).cell 1,(B6.o.K hx).cell 2,(B6.o.K hx).cell 3,(B6.o.K hx).cell 4⟩)
 have XD:Hid (Ext W6 W6.drew):=Hx ((eR W6).drewN 1);have HSW:=Hx (qa.o _ XD.o);clear qw qg qm P1 X1;refine wX qa 32 ?_;refine wP 0 rfl HSW.o ?_;try simp only[Act.put,yA,yB,yC,yD,yE,yF]
 refine wP 1 rfl HSW.o ?_;try simp only[Act.put,yA,yB,yC,yD,yE,yF]
 refine wP 2 rfl HSW.o ?_;try simp only[Act.put,yA,yB,yC,yD,yE,yF]
 refine wP 3 rfl HSW.o ?_;try simp only[Act.put,yA,yB,yC,yD,yE,yF]
 refine wP 4 rfl HSW.o ?_;try simp only[Act.put,yA,yB,yC,yD,yE,yF]
 refine wP 5 rfl HSW.o ?_;try simp only[Act.put,yA,yB,yC,yD,yE,yF]
 refine wP 6 rfl HSW.o ?_;try simp only[Act.put,yA,yB,yC,yD,yE,yF]
 refine wP 7 rfl HSW.o ?_;try simp only[Act.put,yA,yB,yC,yD,yE,yF]
 refine wV 8 rfl HSW.o ?_;try simp only[Act.put,yA,yB,yC,yD,yE,yF]
 refine wC 9 rfl (fun KK hK=>?_);go_simp;refine(jzgp neg A1 n1 c1 A2 n2 c2 (3/2) rfl _ (S1.o.2.val.K XD.o) (HT.o.K (E6.o.tr XD.o))).mono ?_;rintro e w7 ⟨rfl,x7⟩;have E7:=Hx (XD.o.tr x7);have HSW:=Hx (qa.o _ E7.o);refine hK.o _ _ HSW.o ?_;clear hK KK x7;try simp only[Act.put,yA,yB,yC,yD,yE,yF]
 refine wP 10 rfl HSW.o ?_;try simp only[Act.put,yA,yB,yC,yD,yE,yF]
 refine wP 11 rfl HSW.o ?_;try simp only[Act.put,yA,yB,yC,yD,yE,yF]
 refine wP 12 rfl HSW.o ?_;try simp only[Act.put,yA,yB,yC,yD,yE,yF]
 refine wP 13 rfl HSW.o ?_;try simp only[Act.put,yA,yB,yC,yD,yE,yF]
 refine wV 14 rfl HSW.o ?_;try simp only[Act.put,yA,yB,yC,yD,yE,yF]
 refine wC 15 rfl (fun KK hK=>?_);go_simp;refine(jzgp ng G1 u1 v1 G2 u2 v2 (3/2) rfl _ (S6.o.val.K E7.o) (HT.o.K (E6.o.tr E7.o))).mono ?_;rintro e w8 ⟨rfl,x8⟩;have E8:=Hx (E7.o.tr x8);have HSW:=Hx (qa.o _ E8.o);refine hK.o _ _ HSW.o ?_;clear hK KK x8;try simp only[Act.put,yA,yB,yC,yD,yE,yF]
 refine wP 16 rfl HSW.o ?_;try simp only[Act.put,yA,yB,yC,yD,yE,yF]
 refine wP 17 rfl HSW.o ?_;try simp only[Act.put,yA,yB,yC,yD,yE,yF]
 refine wP 18 rfl HSW.o ?_;try simp only[Act.put,yA,yB,yC,yD,yE,yF]
 refine wP 20 rfl HSW.o ?_;try simp only[Act.put,yA,yB,yC,yD,yE,yF]
 refine wV 21 rfl HSW.o ?_;try simp only[Act.put,yA,yB,yC,yD,yE,yF]
 refine wC 19 rfl (fun KK hK=>?_);go_simp;refine(sW _).mono ?_;rintro e w9 ⟨qy,qx,rfl,T9,x9⟩;have E9:=Hx (kQa T9 (E8.o.tr x9));have HSW:=Hx (qa.o _ E9.o.2);refine hK.o _ _ HSW.o ?_;clear hK KK x9 T9;try simp only[Act.put,yA,yB,yC,yD,yE,yF]
 refine wC 22 rfl (fun KK hK=>?_);go_simp;refine((S6.o.K E9.o.2).check (t:=rgT) (AO:=none) (co:=0) (AL:=qy) (cl:=qx) (AD:=(sA gd)) (cd:=2) (nr:=8) (cr:=8) jz4 (by decide) HZ.o S6.o.ok.plen E9.o.1 (D6.o.K E9.o.2) (HT.o.K (E6.o.tr E9.o.2))).mono ?_;rintro e qA ⟨rfl,qp⟩;have qj:=Hx (E9.o.2.tr qp);have HSW:=Hx (qa.o _ qj.o);refine hK.o _ _ HSW.o ?_;clear hK KK qp;try simp only[Act.put,yA,yB,yC,yD,yE,yF]
 refine wP 23 rfl HSW.o ?_;try simp only[Act.put,yA,yB,yC,yD,yE,yF]
 refine wP 24 rfl HSW.o ?_;try simp only[Act.put,yA,yB,yC,yD,yE,yF]
 refine wP 26 rfl HSW.o ?_;try simp only[Act.put,yA,yB,yC,yD,yE,yF]
 refine wV 27 rfl HSW.o ?_;try simp only[Act.put,yA,yB,yC,yD,yE,yF]
 refine wC 25 rfl (fun KK hK=>?_);go_simp;refine(sW _).mono ?_;rintro e qz ⟨qf,qh,rfl,qn,qk⟩;have qe:=Hx (kQa qn (qj.o.tr qk));have HSW:=Hx (qa.o _ qe.o.2);refine hK.o _ _ HSW.o ?_;clear hK KK qk qn;try simp only[Act.put,yA,yB,yC,yD,yE,yF]
 refine wC 28 rfl (fun KK hK=>?_);go_simp;have h4:=jzqh S1.o.2.ok;refine((S1.o.2.K qe.o.2).full (t:=rgT) (AO:=none) (co:=0) (AL:=qf) (cl:=qh) sU (by decide) S1.o.1 qe.o.1).mono ?_;rw[h4];rintro e qC ⟨AF,cf,rfl,qo⟩;have qt:=Hx (qe.o.2.tr qo);have HSW:=Hx (qa.o _ qt.o);refine hK.o _ _ HSW.o ?_;clear hK KK qo;try simp only[Act.put,yA,yB,yC,yD,yE,yF]
 refine wP 29 rfl HSW.o ?_;try simp only[Act.put,yA,yB,yC,yD,yE,yF]
 refine wP 30 rfl HSW.o ?_;try simp only[Act.put,yA,yB,yC,yD,yE,yF]
 refine wP 31 rfl HSW.o ?_;try simp only[Act.put,yA,yB,yC,yD,yE,yF]
 refine bY (by kernel_rfl) rfl (by rfl) (fun KK hK=>?_);go_simp;refine hK.o _ _ ?_;clear hK KK;refine wpAny_done (by kernel_rfl) ?_ _;go_wp2;go_ret;exact⟨rfl,E6.o.tr qt.o⟩
end Go.Proofs.YtojpooidhilnfaaGreatDoor
namespace Go.Proofs.YtojpooidhilnfaaGreatDoor
open Go.Proofs.Tryz
open Go.RowKit
theorem kO{N:Int}{d:Dm}(h:¬(0<=d.src/\d.src<N/\0<=d.dst/\d.dst<N/\d.src≠d.dst/\1<=d.amount/\d.amount<=1048576/\0<=d.prio/\d.prio<=7)):d.ok N=false:=by
 (cases h1:d.ok N with|false=>rfl|true=>exfalso;unfold Dm.ok inB at h1;simp at h1;omega)
theorem jzqv(N:Int)A(c:Nat)(l:List Dm)w(hd:DmR w l A c):
  Calls prog 38 #[vI N,.s A l.length c] w fun e w'=>e=.returned (.bool (dF N l))/\Ext w w':=by
 have HD:=Hx hd;have qf:=hd.len;have qa:=hd.cap;clear hd;by_cases a1:N<0;{have HR:=Hx (show dF N l=false by unfold dF inB;rw[yP (show¬(0<=N/\N<=64) by omega)];rfl);have d1:decide (N<0)=true:=yO a1;go_enter func38,ntmps38;go_wp2;go_ret;rw[HR.o];exact⟨rfl,eR _⟩};have b1:decide (N<0)=false:=yP a1;by_cases a2:64<N;{have HR:=Hx (show dF N l=false by unfold dF inB;rw[yP (show¬(0<=N/\N<=64) by omega)];rfl);have d2:decide (64<N)=true:=yO a2;go_enter func38,ntmps38;go_wp2;go_ret;rw[HR.o];exact⟨rfl,eR _⟩};have b2:decide (64<N)=false:=yP a2;by_cases a3:l.length<=64;(case neg=>have HR:=Hx (show dF N l=false by unfold dF;rw[yP a3];simp);have d3:decide (64<(l.length:Int))=true:=yO (by omega);go_enter func38,ntmps38;go_wp2;go_ret;rw[HR.o];exact⟨rfl,eR _⟩);have b3:decide (64<(l.length:Int))=false:=yP (by omega);have HR:=Hx (show dF N l=l.all (Dm.ok N) by unfold dF inB;rw[yO (show 0<=N/\N<=64 by omega),yO a3];rfl);go_enter func38,ntmps38;go_wp2;clear b1 b2 b3;go_loopg [5] l.length (fun q it wx=>∃n:Nat,l.length-n=q/\n<=l.length/\it=vI (n:Int)/\Hid ((∀j d,j<n->l[j]?=some d->d.ok N=true)/\Ext w wx));(case atStart=>exact⟨0,rfl,yZ _,rfl,Hx ⟨fun j d h=>by omega,eR _⟩⟩);obtain⟨n,rfl,hn,rfl,I⟩:=hrel;by_cases qe:n<l.length
 ·obtain⟨d,hd⟩:∃d,l[n]?=some d:=⟨_,yG qe⟩;have HL:=Hx hd;obtain⟨b,o,rfl,hb,c0,c1,c2,c3⟩:=(HD.o.K I.o.2).at_ hd;have nN:(n:Int)<(l.length:Int):=(by omega);have n0:(0:Int)<=(n:Int):=(by omega);have X9:=Hx (I.o.2.alloc (.cells #[vI d.src,vI d.dst,vI d.amount,vI d.prio] 27));clear hd;by_cases h1:d.src<0;{have HF:=Hx (gU HL.o (kO (N:=N) (d:=d) (by omega)));have d1:decide (d.src<0)=true:=yO h1;clear h1;go_wp2;go_ret;rw[HR.o,HF.o];exact⟨rfl,X9.o⟩};have d1:decide (d.src<0)=false:=yP h1;have H1:=Hx h1;clear h1;by_cases h2:N<=d.src;{have HF:=Hx (gU HL.o (kO (N:=N) (d:=d) (by omega)));have d2:decide (N<=d.src)=true:=yO h2;clear h2;go_wp2;go_ret;rw[HR.o,HF.o];exact⟨rfl,X9.o⟩};have d2:decide (N<=d.src)=false:=yP h2;have H2:=Hx h2;clear h2;by_cases h3:d.dst<0;{have HF:=Hx (gU HL.o (kO (N:=N) (d:=d) (by omega)));have d3:decide (d.dst<0)=true:=yO h3;clear h3;go_wp2;go_ret;rw[HR.o,HF.o];exact⟨rfl,X9.o⟩};have d3:decide (d.dst<0)=false:=yP h3;have H3:=Hx h3;clear h3;by_cases h4:N<=d.dst;{have HF:=Hx (gU HL.o (kO (N:=N) (d:=d) (by omega)));have d4:decide (N<=d.dst)=true:=yO h4;clear h4;go_wp2;go_ret;rw[HR.o,HF.o];exact⟨rfl,X9.o⟩};have d4:decide (N<=d.dst)=false:=yP h4;have H4:=Hx h4;clear h4;by_cases h5:d.src=d.dst;{have HF:=Hx (gU HL.o (kO (N:=N) (d:=d) (by omega)));have d5:(d.src==d.dst)=true:=beq_iff_eq.2 h5;clear h5;go_wp2;go_ret;rw[HR.o,HF.o];exact⟨rfl,X9.o⟩};have d5:(d.src==d.dst)=false:=yK.2 h5;have H5:=Hx h5;clear h5;by_cases h6:d.amount<1;{have HF:=Hx (gU HL.o (kO (N:=N) (d:=d) (by omega)));have d6:decide (d.amount<1)=true:=yO h6;clear h6;go_wp2;go_ret;rw[HR.o,HF.o];exact⟨rfl,X9.o⟩};have d6:decide (d.amount<1)=false:=yP h6;have H6:=Hx h6;clear h6;by_cases h7:1048576<d.amount;{have HF:=Hx (gU HL.o (kO (N:=N) (d:=d) (by omega)));have d7:decide (1048576<d.amount)=true:=yO h7;clear h7;go_wp2;go_ret;rw[HR.o,HF.o];exact⟨rfl,X9.o⟩};have d7:decide (1048576<d.amount)=false:=yP h7;have H7:=Hx h7;clear h7;by_cases h8:d.prio<0;{have HF:=Hx (gU HL.o (kO (N:=N) (d:=d) (by omega)));have d8:decide (d.prio<0)=true:=yO h8;clear h8;go_wp2;go_ret;rw[HR.o,HF.o];exact⟨rfl,X9.o⟩};have d8:decide (d.prio<0)=false:=yP h8;have H8:=Hx h8;clear h8;by_cases h9:7<d.prio;{have HF:=Hx (gU HL.o (kO (N:=N) (d:=d) (by omega)));have d9:decide (7<d.prio)=true:=yO h9;clear h9;go_wp2;go_ret;rw[HR.o,HF.o];exact⟨rfl,X9.o⟩};have d9:decide (7<d.prio)=false:=yP h9;have H9:=Hx h9;clear h9;have OK:=Hx (show d.ok N=true by have g1:=H1.o;have g2:=H2.o;have g3:=H3.o;have g4:=H4.o;have g5:=H5.o;have g6:=H6.o;have g7:=H7.o;have g8:=H8.o;have g9:=H9.o;unfold Dm.ok inB;simp;omega);go_wp2;go_roundg (l.length-(n+1));(case measure=>omega)
  case rel=>
   exact⟨n+1,rfl,by omega,by go_num,Hx ⟨fun j d' hj hd'=>by
   by_cases e:j=n;{subst e;have:=HL.o;rw[this]at hd';injection hd' with hd';subst hd';exact OK.o}
   exact I.o.1 j d' (by omega) hd',X9.o⟩⟩
 obtain rfl:n=l.length:=(by omega);have HF:=Hx (jzdk (l:=l) (N:=N) (fun j d hj=>I.o.1 j d (yH.1 hj).1 hj));go_wp2;go_ret;rw[HR.o,HF.o];exact⟨rfl,I.o.2⟩
theorem jzqw t AO(co:Nat)AL(cl:Nat)(l:List Dm)A(c:Nat)w(ht:aX w t AO co AL cl)(hd:DmR w l A c):
  Calls prog 9 #[.agg #[vI t.nodes,.s AO t.over.length co,.s AL t.links.length cl],.s A l.length c] w fun e w'=>e=.returned (.bool (cY t l))/\Ext w w':=by
 have HT:=Hx (kQa ht hd);clear ht hd;obtain⟨qa,e0⟩:=aV w #[vI t.nodes,.s AO t.over.length co,.s AL t.links.length cl] 25;have BA:=Hx (kQa qa e0);obtain⟨⟨i0,i1,i2⟩,_⟩:=qa.t3;clear qa e0;go_enter func9,ntmps9;(go_wp2_with fail);refine(nH t AO co AL cl _ (HT.o.1.K BA.o.2)).mono ?_;rintro e w1 ⟨rfl,qe⟩;have E1:=Hx (kQa (BA.o.1.K qe) (BA.o.2.tr qe));clear qe BA i0 i1 i2;obtain⟨⟨i0,i1,i2⟩,_⟩:=E1.o.1.t3;cases hv:aI t;{have HR:=Hx (show cY t l=false by unfold cY;rw[hv];rfl);(go_wp2_with fail);go_ret;rw[HR.o];exact⟨rfl,E1.o.2⟩};by_cases hl:0<l.length;{have HR:=Hx (show cY t l=dF t.nodes l by unfold cY;rw[hv,yO hl];rfl);have qg:decide ((0:Int)<(l.length:Int))=true:=yO (by omega);(go_wp2_with fail);refine(jzqv t.nodes A c l _ (HT.o.2.K E1.o.2)).mono ?_;rintro e w2 ⟨rfl,qf⟩;have E2:=Hx (E1.o.2.tr qf);clear qf;(go_wp2_with fail);go_ret;rw[HR.o];exact⟨rfl,E2.o⟩};have HR:=Hx (show cY t l=false by unfold cY;rw[yP hl];simp);have qg:decide ((0:Int)<(l.length:Int))=false:=yP (by omega);(go_wp2_with fail);go_ret;rw[HR.o];exact⟨rfl,E1.o.2⟩
end Go.Proofs.YtojpooidhilnfaaGreatDoor
