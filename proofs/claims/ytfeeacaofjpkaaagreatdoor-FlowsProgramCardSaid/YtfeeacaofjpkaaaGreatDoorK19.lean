/- Walks, part 19. -/
import Derived.Test.YtfeeacaofjpkaaaGreatDoorK17
import Derived.Test.YtfeeacaofjpkaaaGreatDoorK18
set_option linter.unusedVariables false
set_option linter.unusedSimpArgs false
set_option maxRecDepth 100000
set_option maxHeartbeats 8000000
namespace Go.Proofs.YtfeeacaofjpkaaaGreatDoor
open Go.Proofs.Tryz
open Go.RowKit
def wZ(t:Tp)(down:List Bool)(s d:Nat)(w:World)(e:Ending)(w':World):Prop:=
 (∃(x:LN) (A:OA) (k:Nat),e=.returned (.tuple #[.s A x.length k,.bool true])/\x.length<=k/\RdF w.heap.size w' A (ints x)/\FW t down d s x d/\(∀p,FW t down d s p d->leL (bS t) x p)/\Ext w w')\/
 (e=.returned (.tuple #[zN,bF])/\(∀p,¬FW t down d s p d)/\Ext w w')
def lsV(V:List Bool):List Value:=V.map fun b=>vI (if b then 0 else-1)
structure DvS(F:Array Value)(w wr:World)(L:List Value):Prop where
 fin:Blk wr w.heap.size 134 F
 lst:Blk wr (w.heap.size+1) 3 L.toArray
 ext:Ext w wr
theorem DvS.K{F:Array Value}{w wr w'}{L:List Value}(h:DvS F w wr L)(hx:Ext wr w'):DvS F w w' L:=⟨h.fin.K hx,h.lst.K hx,h.ext.tr hx⟩
theorem DvS.grow(F:Array Value){w wr}{L:List Value}(h:DvS F w wr L)(k:Nat)(u:Value):wr.grownBy (wr.setCell (aD (w.heap.size+1) k) u) (some (w.heap.size+1)):=aM _ _ _ _
theorem DvS.set{F:Array Value}{w wr}{L:List Value}(h:DvS F w wr L)(k:Nat)(u:Value):DvS F w (wr.setCell (aD (w.heap.size+1) k) u) (L.set k u):=by
 have hg:=aM wr (w.heap.size+1) k u;refine⟨(hg.block _ h.fin.lt (fun e=>by injection e with e;omega)).trans h.fin,?_,Below.grown h.ext hg h.ext.size (fun q hq=>by injection hq with hq;omega)⟩;have:=h.lst.sT k u;rw[yD]at this;exact this
theorem DvS.kf{F:Array Value}{w wr w'}{L:List Value}{q g g':Nat}(h:DvS F w wr L)(k:KF wr w' q g g')(hq:w.heap.size+2<=q)(hg:w.heap.size+2<=g):DvS F w w' L:=
 ⟨k.blk h.fin qO qO,k.blk h.lst qO qO,k.ext h.ext qO qO⟩
theorem jzm6(V:List Bool)(n:Nat):(lsV V).set n (vI 0)=lsV (V.set n true):=by
 unfold lsV;rw[List.map_set];rfl
theorem KQu.start t(w:World)(B s:Nat)(hB:B<=w.heap.size):KQu t ((w.alloc (.cells #[vI (s:Int),vI 0,vI 0,zN] 212)).alloc (.cells #[.s (sA w.heap.size) 1 1] 214)) B (w.heap.size+1) w.heap.size 1 1 [(s,[])]:=by
 (have hb:=(eN w 212 #[vI (s:Int),vI 0,vI 0,zN]).K ((eR _).alloc (.cells #[.s (sA w.heap.size) 1 1] 214));refine⟨Blk.new' (w.alloc _) _ _ qS,rfl,[[vI (s:Int),vI 0,vI 0,zN]],rfl,fun cs h=>by simp at h;rw[h];rfl,⟨rfl,.inr ⟨_,_,_,rfl,hB,hb,yX _,qD,rfl,rfl⟩⟩,fun i z hz=>?_⟩;cases i with|zero=>(injection hz with hz);subst hz;exact⟨_,rfl,none,0,rfl,yX _,RdT.nil _ _ _,fun p hp=>by cases hp⟩|succ i=>cases hz)
def iY(N i:Nat):List Value:=(List.range N).map fun j=>vI (if j<i then-1 else 0)
theorem jzm7(N:Nat):madeCells #[vI 0] N=(iY N 0).toArray:=by
 apply Array.ext';apply uK;intro i;unfold iY;by_cases hi:i<N;{simp[madeCells,hi,Nat.mod_one]};rw[yI (by simp[madeCells];omega),yI (by simp;omega)]
theorem jzm8(N i:Nat):(iY N i).set i (vI (-1))=iY N (i+1):=by
 unfold iY;apply uK;intro j;rw[kZs];by_cases e:i=j;{subst e;by_cases hi:i<N;{rw[qE rfl,qE (by simpa using hi),yW,xJ hi];simp};rw[qE rfl,qF (by simpa using hi),yW,yI (by simp;omega)];rfl};rw[qF e,yW,yW];by_cases hj:j<N;{rw[xJ hj];simp only[kQ9];have h1:(j<i↔j<i+1):=qO;by_cases h2:j<i;{rw[qE h2,qE (h1.1 h2)]};rw[qF h2,qF (fun h3=>h2 (h1.2 h3))]};rw[yI (by simp;omega)];rfl
theorem jzm9(N:Nat):iY N N=lsV (List.replicate N false):=by
 unfold iY lsV;apply uK;intro j;rw[yW,yW];by_cases hj:j<N;{rw[xJ hj,xB,qE hj];simp[hj]};rw[yI (by simp;omega),yI (by simp;omega)];rfl
theorem jzeg t:LeO (leK t):=by
 have h:leK t=fun x y=>leL (bS t) x.2 y.2:=(by funext x y;exact propext (jzcz t x.2 y.2).symm);rw[h];exact jzk8 t
theorem jzna{t}(hv:aH t=true){n:Nat}(hn:(n:Int)<t.nodes):t.over=[]\/(n:Int)<t.over.length:=by
 unfold aH cS at hv;simp at hv;rcases hv.1.2 with h|h
 ·exact .inl h
 right;omega
theorem jznb{t}{down:List Bool}(hf:dX t down=true){a:Nat}(ha:a<2*t.links.length):down=[]\/a<down.length:=by
 unfold dX at hf;rcases of_decide_eq_true hf with h|h
 ·exact .inl (kQp.1 h)
 right;omega
theorem jza{w}{g:Nat}{t:TypeId}{a b c d:Value}(h:Blk w g t #[a,b,c,d]):(w.cell? (aD g 0)=some a/\w.cell? (aD g 1)=some b/\w.cell? (aD g 2)=some c/\w.cell? (aD g 3)=some d)/\w.frozen? (aD g 0)=false/\w.frozen? (aD g 1)=false/\w.frozen? (aD g 2)=false/\w.frozen? (aD g 3)=false:=
 ⟨⟨(h.cell 0).trans rfl,(h.cell 1).trans rfl,(h.cell 2).trans rfl,(h.cell 3).trans rfl⟩,h.frozen 0,h.frozen 1,h.frozen 2,h.frozen 3⟩
theorem jznc{w0 w:World}{g:Nat}{t:TypeId}{cs:Array Value}(h:Blk w g t cs)(hg:w0.heap.size<=g)(hx:Ext w0 w)(v0 v1 v2 v3:Value):Ext w0 ((((w.setCell (aD g 0) v0).setCell (aD g 1) v1).setCell (aD g 2) v2).setCell (aD g 3) v3):=
 Ext.sT (Ext.sT (Ext.sT (Ext.sT hx hg v0) hg v1) hg v2) hg v3
structure DvI(t:Tp)(down:List Bool)(s d N:Nat)(F:Array Value)(w wx:World)(q:Nat)(V:List Bool)(fin:Nat->LN)(hs:List (Nat×LN))(g c n k:Nat)(todo:LN):Prop where
 ki:KI t down (bS t) s d V fin hs k todo
 hp:cT (leK t) hs n
 qu:KQu t wx (w.heap.size+2) q g n c hs
 st:DvS F w wx (lsV V)
 nn:n+todo.length+V.count false*(2*t.links.length+1)<=N*(2*t.links.length+1)+1
 hq:w.heap.size+2<=q
 hc:n<=c
theorem jznd t AO(co:Nat)AL(cl:Nat)AD(cd:Nat)(down:List Bool)(gO N s d:Nat)w(ht:bD w t AO co AL cl)(hv:aH t=true)(hN:t.nodes=(N:Int))(hll:t.links.length<=256)(vz:Rd w AD (bH down))(hdl:down.length<=cd)(hdc:down.length<=600)(hfit:dX t down=true)(hO:LL w gO N (aL t))(hs:s<N)(hd:d<N)(hN64:N<=64):
  Calls prog 76 #[.agg #[vI t.nodes,.s AO t.over.length co,.s AL t.links.length cl,.s AD down.length cd,vI (d:Int),vI 0,.s (sA gO) N N],vI (s:Int),zN,.map none] w (wZ t down s d w):=by
 have HT:=Hx (kQa ht (kQa hv (kQa vz hO)));have HF:=Hx hfit;have qB:=Hx hN;rw[hN];clear ht hv vz hO hfit hN;have zu:=run_make_row' (P:=prog) 42 3 (vI 0) 8 underlying42 Tryz.info3 rfl .i64 .i64 N qO qO
 go_enter func76,ntmps76
 go_wp2
 go_loopg [11,27] N (fun j _ it wr=>∃i:Nat,N-i=j/\i<=N/\it=vI (i:Int)/\Hid (DvS #[vI (N:Int),.s AO t.over.length co,.s AL t.links.length cl,.s AD down.length cd,vI (d:Int),vI 0,.s (sA gO) N N] w wr (iY N i)))
 case atStart=>exact⟨0,rfl,yZ _,rfl,Hx ⟨(eN w _ _).K ((eR _).alloc _),by rw[<-jzm7];exact Blk.new' (w.alloc _) _ _ qS,((eR w).alloc _).alloc _⟩⟩
 obtain⟨i,rfl,hi,rfl,S⟩:=hrel;by_cases zz:i<N
 ·have iN:(i:Int)<(N:Int):=by omega
  have S2:Hid (DvS _ w (wr.setCell (aD (w.heap.size+1) i) (vI (-1))) (iY N (i+1))):=Hx (by rw[<-jzm8];exact S.o.set i _);obtain⟨v0,c0⟩:∃v,wr.cell? (aD (w.heap.size+1) i)=some v:=by
   rw[S.o.lst.cell];exact⟨_,Array.getElem?_eq_getElem (by simp[iY];exact zz)⟩
  have f0:=S.o.lst.frozen i;go_wp2
  go_roundg (N-(i+1))
  case measure=>omega
  exact⟨i+1,rfl,qO,by go_num,S2⟩
 obtain rfl:N=i:=qO;have zU:¬(N:Int)<(N:Int):=qO;have S1:Hid (DvS _ w wr (lsV (List.replicate N false))):=Hx (by rw[<-jzm9];exact S.o);clear S;go_wp2
 go_loopg [12,14,36] 0 (fun k dt at_ it wx=>it=vI 0/\dt=vI 0/\at_=undef/\wr=wx)
 case atStart=>exact⟨rfl,rfl,rfl,rfl⟩
 obtain⟨rfl,rfl,rfl,rfl⟩:=hrel;have zA:w.heap.size+2<=wr.heap.size:=(by have:=S1.o.lst.lt;omega);have XA:=((eR wr).alloc (.cells #[vI (s:Int),vI 0,vI 0,zN] 212)).alloc (.cells #[.s (sA wr.heap.size) 1 1] 214);have S2:=Hx (S1.o.K XA);have Q2:=Hx (KQu.start t wr (w.heap.size+2) s zA);clear XA;have I0:=Hx (show DvI t down s d N _ w _ (wr.heap.size+1) (List.replicate N false) (fun _=>[]) [(s,[])] wr.heap.size 1 1 0 []from by
  have qf:t.nodes.toNat=N:=(by rw[qB.o];simp);refine⟨?_,fun k a b h0 hk=>qO,Q2.o,S2.o,?_,qO,yX _⟩
  ·have:=KI.start (t:=t) (down:=down) (ps:=bS t) (s:=s) (d:=d) (fin:=fun _=>[]) (by rw[qf];exact hs) (by rw[qf];exact hd) 0
   rw[qf]at this;exact this
  simp;omega)
 clear S2 Q2 S1 zu;go_wp2;generalize wr.heap.size+1=q at*
 go_loopg [8,9,16,17,19,20] (N*(2*t.links.length+1)+1) (fun m _ _ _ _ _ _ wx=>∃(V:List Bool) (fin:Nat->LN) (hs:List (Nat×LN)) (g c n:Nat),n+V.count false*(2*t.links.length+1)<=m/\Hid (DvI t down s d N #[vI (N:Int),.s AO t.over.length co,.s AL t.links.length cl,.s AD down.length cd,vI (d:Int),vI 0,.s (sA gO) N N] w wx q V fin hs g c n 0 []))
 case atStart=>exact⟨_,_,_,_,_,_,by have:=I0.o.nn;simpa using this,I0⟩
 obtain⟨V,fin,qH,g,c,n,v9,I⟩:=hrel;have qf:t.nodes.toNat=N:=(by rw[qB.o];simp);have c0:=I.o.qu.box.one.1;cases n with
 |zero=>
  have HE:Hid (qH=[]):=Hx (kQp.1 I.o.qu.row.len)
  go_wp2_with fail
  refine(rS _ 0 c _).mono ?_;rintro e w1 ⟨rfl,rfl⟩;have z1:¬((0:Int)>0):=qD;have zO:¬(((0:Nat):Int)>0):=qD;have zP:¬((0:Int)<0):=qD;have vg:=Hx (show wZ t down s d w (.returned (.tuple #[zN,bF])) wr from .inr ⟨rfl,fun p=>by
   have:=I.o.ki;rw[HE.o]at this;exact this.none_ HT.o.2.1 (oC t) (by rw[qf];exact hs) p,I.o.st.ext⟩)
  clear I;go_wp2;exact bodyPost_ret (v:=.tuple #[zN,bF]) (by simp[results,results76,go_sem]) rfl vg.o
 |succ n=>
  go_wp2_with fail
  refine(rS _ (n+1) c _).mono ?_;rintro e w1 ⟨rfl,rfl⟩;have zX:((n+1:Nat):Int)>0:=qO;have zH:((n:Int)+1)>0:=by omega
  go_wp2_with fail
  have O:=jzeg t;have vO:Hid (n+1<=1000000):=Hx (by have:=I.o.nn;have h8:N*(2*t.links.length+1)<=64*513:=kQq hN64 qO;omega);have vn:=Hx (show∀z∈qH,z.2.length<=1000000 from fun z hz=>by
   have h1:=I.o.ki.size z.1 z.2 hz;have h2:=List.count_le_length (a:=true) (l:=V);rw[I.o.ki.len,qf]at h2;omega)
  refine(jzm1 t O (w.heap.size+2) q g n c qH _ I.o.qu I.o.hp vn.o vO.o I.o.hc).mono ?_;rintro e w2 ⟨z,qn,vy,vV,v5,A,k,rfl,hk,hA,v8,v7⟩;have P2:=Hx (kQa vy (kQa vV (kQa v5 (kQa hk (kQa hA (kQa v8 v7))))));clear vy vV v5 hk hA v8 v7 O c0;obtain⟨zn,zx⟩:=z;have zy:∀W:World,(Instr.typeAssert (.iface 212 (.agg #[vI (zn:Int),vI (bI t zx:Nat),vI 0,.s A zx.length k])) 20 212 true).run prog W=.ok (.tuple #[.agg #[vI (zn:Int),vI (bI t zx:Nat),vI 0,.s A zx.length k],.bool true]) W:=fun W=>qR;unfold iX;simp only;generalize hkc:bI t zx=kc at*;have qa:(zn,zx)∈qH:=P2.o.1.mem_iff.2 List.mem_cons_self;have qz:zn<N:=by
   rw[<-qf];rcases I.o.ki.lab _ _ qa with⟨_,h1⟩|⟨y,a,u,_,_,h2,_,h3⟩
   ·rw[h1,qf];exact hs
   rw[h3];exact(gW HT.o.2.1 h2).2.2.1
  obtain⟨b,hb⟩:∃b,V[zn]?=some b:=⟨_,yG (by rw[I.o.ki.len,qf];exact qz)⟩;have S2:=Hx (I.o.st.kf P2.o.2.2.2.2.2.2 I.o.hq I.o.qu.row.lo);have X3:=(eR w2).alloc (.cells #[vI (zn:Int),vI (kc:Nat),vI 0,.s A zx.length k] 212);have qC:=eN w2 212 #[vI (zn:Int),vI (kc:Nat),vI 0,.s A zx.length k];have i0:(w2.alloc (.cells #[vI (zn:Int),vI (kc:Nat),vI 0,.s A zx.length k] 212)).drew.cell? (aD (w.heap.size+1) zn)=some (vI (if b then 0 else-1)):=by
   have h1:=(S2.o.K X3).lst.cell zn;refine Eq.trans h1 ?_;unfold lsV;simp[hb]
  have l0:(w2.alloc (.cells #[vI (zn:Int),vI (kc:Nat),vI 0,.s A zx.length k] 212)).drew.cell? (aD w2.heap.size 0)=some (vI (zn:Int)):=(qC.cell 0).trans rfl;have l2:(w2.alloc (.cells #[vI (zn:Int),vI (kc:Nat),vI 0,.s A zx.length k] 212)).drew.cell? (aD w2.heap.size 2)=some (vI 0):=(qC.cell 2).trans rfl;have iN:(zn:Int)<(N:Int):=qO;cases b with
  |true=>
   simp only[if_true]at i0;have I3:=Hx (show DvI t down s d N _ w (w2.alloc (.cells #[vI (zn:Int),vI (kc:Nat),vI 0,.s A zx.length k] 212)).drew q V fin qn g c n 0 []from
    ⟨I.o.ki.skip (fun z hz=>by simpa using P2.o.1.mem_iff.1 hz) (fun z hz=>P2.o.1.mem_iff.2 (xO _ hz)) hb 0,P2.o.2.2.1,(P2.o.2.2.2.2.2.1.K X3).K ((eR _).drewN 1),(S2.o.K X3).K ((eR _).drewN 1),by have:=I.o.nn;simp at this⊢;omega,I.o.hq,by have:=I.o.hc;omega⟩)
   clear I P2 S2 X3 qC
   go_wp2_with fail
   go_region
   go_wp2
   go_roundg (gk-1)
   case measure=>omega
   exact⟨V,fin,qn,g,c,n,qO,I3⟩
  |false=>
   simp only[kZq,if_false]at i0;have f0:(w2.alloc (.cells #[vI (zn:Int),vI (kc:Nat),vI 0,.s A zx.length k] 212)).frozen? (aD (w.heap.size+1) zn)=false:=(S2.o.K X3).lst.frozen zn;have zf:decide ((-1:Int)≥0)=false:=qD;have vi:¬((0:Int)<= -1):=by decide
   go_wp2_with fail
   go_region
   go_upto_region 20 with fail
   have zp:w.heap.size+1<w2.heap.size:=S2.o.lst.lt;have q4:=aM (w2.alloc (.cells #[vI (zn:Int),vI (kc:Nat),vI 0,.s A zx.length k] 212)) (w.heap.size+1) zn (vI 0);have XD:=(eR ((w2.alloc (.cells #[vI (zn:Int),vI (kc:Nat),vI 0,.s A zx.length k] 212)).setCell (aD (w.heap.size+1) zn) (vI 0))).drewN 1;have J3:=Hx (show DvS _ w (((w2.alloc (.cells #[vI (zn:Int),vI (kc:Nat),vI 0,.s A zx.length k] 212)).setCell (aD (w.heap.size+1) zn) (vI 0))).drew (lsV (V.set zn true))/\KQu t (((w2.alloc (.cells #[vI (zn:Int),vI (kc:Nat),vI 0,.s A zx.length k] 212)).setCell (aD (w.heap.size+1) zn) (vI 0))).drew (w.heap.size+2) q g n c qn/\RdF (w.heap.size+2) (((w2.alloc (.cells #[vI (zn:Int),vI (kc:Nat),vI 0,.s A zx.length k] 212)).setCell (aD (w.heap.size+1) zn) (vI 0))).drew A (ints zx)/\Blk (((w2.alloc (.cells #[vI (zn:Int),vI (kc:Nat),vI 0,.s A zx.length k] 212)).setCell (aD (w.heap.size+1) zn) (vI 0))).drew w2.heap.size 212 #[vI (zn:Int),vI (kc:Nat),vI 0,.s A zx.length k]from
    ⟨by rw[<-jzm6];exact((S2.o.K X3).set zn _).K XD,((P2.o.2.2.2.2.2.1.K X3).below q4 (S2.o.K X3).lst qO).K XD,((P2.o.2.2.2.2.1.K X3).below q4 qO).K XD,(show Blk _ _ _ _ from(q4.block _ qC.lt (fun e=>by injection e with e;omega)).trans qC).K XD⟩)
   clear q4 XD i0 l0 l2 f0 zy qC X3 zf vi;generalize ((w2.alloc (.cells #[vI (zn:Int),vI (kc:Nat),vI 0,.s A zx.length k] 212)).setCell (aD (w.heap.size+1) zn) (vI 0)).drew=W3 at*;have vZ:=Hx hkc;have F4:W3.cell? (aD w.heap.size 4)=some (vI (d:Int)):=(J3.o.1.fin.cell 4).trans rfl;have L0:W3.cell? (aD w2.heap.size 0)=some (vI (zn:Int)):=(J3.o.2.2.2.cell 0).trans rfl;have L3:W3.cell? (aD w2.heap.size 3)=some (.s A zx.length k):=(J3.o.2.2.2.cell 3).trans rfl;have HM:Hid (∀m y,(m,y)∈qH->leL (bS t) zx y):=Hx (fun m y h=>(jzcz t zx y).2 (P2.o.2.1 (m,y) h));clear hkc;by_cases vm:zn=d
   ·obtain rfl:d=zn:=vm.symm
    have vo:=Hx (I.o.ki.found HT.o.2.1 (oC t) (by rw[qf];exact hs) qa HM.o);have HZ:Hid (zx.length<=1000000):=Hx (vn.o _ qa);clear hb qa
    go_wp2_with fail
    refine(jzmp [(none,[],0),(A,zx,k)] 2 _ _ rfl (eN W3 42 #[zN,.s A zx.length k]) (fun r hr=>by
     rcases xZ.1 hr with rfl|hr
     ·exact RdT.nil _ _ _
     obtain rfl:r=(A,zx,k):=(by simpa using hr);exact(J3.o.2.2.1.K ((eR _).alloc _)).1) qO (by have:=HZ.o;simp[eU];omega)).mono ?_
    rintro e w4 ⟨v,rfl,qj,x4⟩;have qX:eV [(none,[],0),(A,zx,k)]=zx:=(by simp[eV]);rw[qX]at qj;obtain⟨A4,c4,rfl,vR,r4⟩:=iE qj rfl;have vg:=Hx (show wZ t down s d w (.returned (.tuple #[.s A4 zx.length c4,.bool true])) w4 from .inl ⟨zx,A4,c4,rfl,vR,⟨r4,fun p hp=>by
     subst hp;have h1:=(qj.lt p.block rfl).1;have h2:=(J3.o.1.ext.alloc (.cells #[zN,.s A zx.length k] 42)).size;omega⟩,vo.o.1,vo.o.2,(J3.o.1.ext.alloc _).tr x4⟩)
    clear qj x4 r4 qX vR I J3 vo;go_wp2;exact bodyPost_ret (v:=.tuple #[.s A4 zx.length c4,.bool true]) (by simp[results,results76,go_sem]) rfl vg.o
   have zY:¬((zn:Int)=(d:Int)):=qO;have zj:=Hx (show zn=s->zx=[]from fun e=>by
    subst e;exact(HM.o _ _ (I.o.ki.src hb)).anti (leL.nil (oC t) zx))
   have q6:V.count false=(V.set zn true).count false+1:=by
    have hl:=(yH.1 hb).1;have he:=(yH.1 hb).2;have zs:0<V.count false:=List.count_pos_iff.2 (yJ hb);rw[List.count_set hl,he];simp;omega
   have D3:=Hx (show DvI t down s d N _ w W3 q (V.set zn true) (fun u=>if u=zn then zx else fin u) qn g c n zn (aL t zn)from
    ⟨I.o.ki.reach HT.o.2.1 (oC t) (by rw[qf];exact hs) qa (fun z hz=>by simpa using P2.o.1.mem_iff.1 hz) (fun z hz=>P2.o.1.mem_iff.2 (xO _ hz)) HM.o hb vm,P2.o.2.2.1,J3.o.2.1,J3.o.1,by
     have h1:=I.o.nn;have h2:=lK t (2*t.links.length) zn;change (aL t zn).length<=_ at h2;rw[q6,xP]at h1;simp at h1;omega,I.o.hq,by have:=I.o.hc;omega⟩)
   have zC:n+(V.set zn true).count false*(2*t.links.length+1)+2*t.links.length+2<=gk:=by
    rw[q6,xP]at v9;omega
   have q1:=Hx (kQa J3.o.2.2.1 J3.o.2.2.2);have vT:=Hx (show g≠w2.heap.size from fun e=>by
    obtain⟨cb,q3⟩:=P2.o.2.2.2.2.2.1.row.blk;have:=q3.lt;omega)
   have zh:=Hx (show zx=[]->zn=s from fun e=>by
    rcases I.o.ki.lab _ _ qa with⟨_,h1⟩|⟨y,a,u,h1,_⟩
    ·exact h1
    rw[e]at h1;simp at h1)
   have zi:zx.length<=64:=by
    have h1:=I.o.ki.size _ _ qa;have h2:=List.count_le_length (a:=true) (l:=V);rw[I.o.ki.len,qf]at h2;omega
   have zw:=Hx (show(zn,zx)∈qH/\kc<=65535*64 from⟨qa,by
    have:=jzk5 HT.o.2.1 zx;rw[vZ.o]at this;exact yY this (kQh _ zi)⟩)
   have zE:Hid ((V.set zn true)[zn]?=some true):=Hx (yM (yH.1 hb).1);clear I J3 HM P2 S2 hb q6 v9 qa vn vm vO;generalize V.set zn true=V2 at*;have zI:Hid ((fun u=>if u=zn then zx else fin u) zn=zx):=Hx (qE rfl);generalize (fun u=>if u=zn then zx else fin u)=fin2 at*;generalize w2.heap.size=g2 at*;clear zp
   go_upto_region 22 with fail
   go_cut [119] (fun sl wx=>sl=.bool (decide (0<zx.length)&&bT t (zn:Int))/\Hid (DvI t down s d N #[vI (N:Int),.s AO t.over.length co,.s AL t.links.length cl,.s AD down.length cd,vI (d:Int),vI 0,.s (sA gO) N N] w wx q V2 fin2 qn g c n zn (aL t zn))/\Hid (RdF (w.heap.size+2) wx A (ints zx)/\Blk wx g2 212 #[vI (zn:Int),vI (kc:Nat),vI 0,.s A zx.length k]))
   case first=>
    by_cases hz:zx.length=0
    ·have HZ:=Hx hz
     have qI:¬((zx.length:Int)>0):=qO;have qV:¬((0:Int)<(zx.length:Int)):=qO;clear hz;go_wp2;go_meet;exact⟨by rw[HZ.o];rfl,D3,q1⟩
    have qI:((zx.length:Int)>0):=qO;have HZ:=Hx (show 0<zx.length by omega);have F0:W3.cell? (aD w.heap.size 0)=some (vI (N:Int)):=(D3.o.st.fin.cell 0).trans rfl;have F1:W3.cell? (aD w.heap.size 1)=some (.s AO t.over.length co):=(D3.o.st.fin.cell 1).trans rfl;have F2:W3.cell? (aD w.heap.size 2)=some (.s AL t.links.length cl):=(D3.o.st.fin.cell 2).trans rfl;have zG:=Hx (show Calls prog 116 #[.agg #[vI (N:Int),.s AO t.over.length co,.s AL t.links.length cl],vI (zn:Int)] W3 fun e w'=>e=.returned (.bool (bT t (zn:Int)))/\Ext W3 w' from by
     have h1:=sW t AO co AL cl (zn:Int) W3 (HT.o.1.K D3.o.st.ext) qO (jzna HT.o.2.1 (by rw[qB.o];omega));rw[qB.o]at h1;exact h1)
    go_wp2_with fail
    refine zG.o.mono ?_;rintro e w4 ⟨rfl,x4⟩;have X4:=Hx x4;clear x4;go_wp2;go_meet;exact⟨by rw[yO HZ.o];rfl,Hx ⟨D3.o.ki,D3.o.hp,D3.o.qu.K X4.o,D3.o.st.K X4.o,D3.o.nn,D3.o.hq,D3.o.hc⟩,Hx ⟨q1.o.1.K X4.o,q1.o.2.K X4.o⟩⟩
   obtain⟨rfl,D4,B4⟩:=hcut;clear D3 q1 F4 L0 L3;obtain⟨bo,va⟩:∃bo,(decide (0<zx.length)&&bT t (zn:Int))=bo:=⟨_,rfl⟩;have vL:=Hx va;rw[va];clear va;cases bo with
   |true=>
    have I5:=Hx (show DvI t down s d N _ w wc q V2 fin2 qn g c n 0 []from by
     have h1:=vL.o;rw[vM,decide_eq_true_eq]at h1;have h2:=D4.o;exact⟨h2.ki.dead (fun e=>by have h3:=zj.o e;rw[h3]at h1;simp at h1) h1.2 0,h2.hp,h2.qu,h2.st,by have:=h2.nn;simp;omega,h2.hq,h2.hc⟩)
    clear D4 B4;go_wp2
    go_roundg (gk-1)
    case measure=>omega
    exact⟨V2,fin2,qn,g,c,n,qO,I5⟩
   |false=>
    have zF:=Hx (show zn=s\/bT t (zn:Int)=false from by
     by_cases h0:zx=[]
     ·exact .inl (zh.o h0)
     right
     have h1:=vL.o;have h2:0<zx.length:=List.length_pos_iff.2 h0;rw[yO h2]at h1;exact h1)
    have F6:wc.cell? (aD w.heap.size 6)=some (.s (sA gO) N N):=(D4.o.st.fin.cell 6).trans rfl;have L0:wc.cell? (aD g2 0)=some (vI (zn:Int)):=(B4.o.2.cell 0).trans rfl;obtain⟨V0,v1,v2⟩:=HT.o.2.2.2;have vq:=((v1.K D4.o.st.ext).cell zn).trans (pJ _ V0 zn qz);obtain⟨AR,cr,v3,zc,zb⟩:=v2 zn qz;rw[v3]at vq;have zJ:=Hx zb;have qJ:=lK t (2*t.links.length) zn;change (aL t zn).length<=_ at qJ;have vk:=zc;obtain⟨M,hM⟩:∃M,(aL t zn).length=M:=⟨_,rfl⟩;have q2:=Hx hM;rw[hM]at vq qJ zc;clear v1 v2 v3 zb vk hM;go_wp2;have I5:=Hx (kQa D4.o (kQa B4.o vT.o));have zB:q≠g2:=B4.o.2.ne_ D4.o.qu.box qD |> fun h e=>h e.symm;clear D4 B4 vT F6 L0 vq
    go_loopg [19,20,127] M (fun j _ _ it wy=>∃(i:Nat) (hs:List (Nat×LN)) (gi ci ni:Nat),M-i=j/\i<=M/\it=vI (i:Int)/\Hid (DvI t down s d N #[vI (N:Int),.s AO t.over.length co,.s AL t.links.length cl,.s AD down.length cd,vI (d:Int),vI 0,.s (sA gO) N N] w wy q V2 fin2 hs gi ci ni zn ((aL t zn).drop i)/\(RdF (w.heap.size+2) wy A (ints zx)/\Blk wy g2 212 #[vI (zn:Int),vI (kc:Nat),vI 0,.s A zx.length k])/\gi≠g2/\ni+(M-i)<=n+M))
    case atStart=>exact⟨0,qn,g,c,n,rfl,yZ _,rfl,Hx ⟨I5.o.1,I5.o.2.1,I5.o.2.2,qO⟩⟩
    obtain⟨i,qm,gi,ci,ni,rfl,zS,rfl,I6⟩:=hrel;clear I5;by_cases vp:i<M
    ·obtain⟨a,ha⟩:∃a,(aL t zn)[i]?=some a:=⟨_,yG (by rw[q2.o];exact vp)⟩
     have qw:(aL t zn).drop i=a::(aL t zn).drop (i+1):=by
      obtain⟨h1,h2⟩:=yH.1 ha;rw[<-h2];exact kQ6 h1
     have vU:=Hx (yJ ha);have vG:a<2*t.links.length:=vX.1 (List.mem_filter.1 vU.o).1;have qU:a/2<t.links.length:=qO;have I7:Hid (DvI t down s d N _ w _ q V2 fin2 qm gi ci ni zn (a::(aL t zn).drop (i+1))):=Hx (by rw[<-qw];exact I6.o.1);obtain⟨bR,oR,eR,zq,q9⟩:=zJ.o.rd.at_ (i:=i) (by rw[cW,q2.o];exact vp);have cR:wr.cell? (aD bR (oR+i))=some (vI (a:Int)):=by
      rw[I7.o.st.ext.cell (p:=(aD bR (oR+i))) zq];refine(q9 i (by rw[cW,q2.o];exact vp)).trans ?_;simp[ints,ha]
     have iM:(i:Int)<(M:Int):=qO;have F3:wr.cell? (aD w.heap.size 3)=some (.s AD down.length cd):=(I7.o.st.fin.cell 3).trans rfl;have L3:wr.cell? (aD g2 3)=some (.s A zx.length k):=(I6.o.2.1.2.cell 3).trans rfl;have vu:=Hx (pG AD cd down a wr (HT.o.2.2.1.K I7.o.st.ext) hdl qO (jznb HF.o vG) qO);subst eR;clear q9 qw ha;obtain⟨bd,q8⟩:∃bd,bZ down a=bd:=⟨_,rfl⟩;have vK:=Hx q8;rw[q8]at vu;clear q8
     go_upto_region 26 with fail
     go_cut [145] (fun sl wy=>sl=.bool bd/\wr=wy)
     case first=>
      go_wp2_with fail
      refine vu.o.mono ?_;rintro e w5 ⟨rfl,rfl⟩;cases bd with
      |true=>
       go_wp2;go_meet;exact⟨rfl,rfl⟩
      |false=>
       by_cases hz:zx.length=0
       ·have HZ:=Hx hz
        have qI:decide ((zx.length:Int)=0)=true:=(by rw[decide_eq_true_eq];omega);have qV:((zx.length:Int)==0)=true:=(by rw[beq_iff_eq];omega);have zm:(zx.length:Int)=0:=qO;have zR:(Instr.lookup 209 (.map none) (vI (a:Int)) false).run prog wr=.ok bF wr:=qK;clear hz;go_wp2;go_meet;exact⟨rfl,rfl⟩
       have qI:decide ((zx.length:Int)=0)=false:=(by rw[decide_eq_false_iff_not];omega);have qV:((zx.length:Int)==0)=false:=(by rw[yK];omega);have zm:¬(zx.length:Int)=0:=qO;go_wp2;go_meet;exact⟨rfl,rfl⟩
     obtain⟨rfl,rfl⟩:=hcut;clear vu;cases bd with
     |true=>
      have I8:=Hx (show DvI t down s d N _ w _ q V2 fin2 qm gi ci ni zn ((aL t zn).drop (i+1))from
       ⟨I7.o.ki.off vK.o,I7.o.hp,I7.o.qu,I7.o.st,by have:=I7.o.nn;simp at this⊢;omega,I7.o.hq,I7.o.hc⟩)
      have J8:=Hx (kQa I6.o.2.1 (kQa I6.o.2.2.1 I6.o.2.2.2));clear I6 I7;go_wp2
      go_roundg (M-(i+1))
      case measure=>omega
      exact⟨i+1,qm,gi,ci,ni,rfl,qO,by go_num,Hx ⟨I8.o,J8.o.1,J8.o.2.1,by have:=J8.o.2.2;omega⟩⟩
     |false=>
      clear cR F3 L3;have lw:w.heap.size<wr.heap.size:=I7.o.st.fin.lt;have lg:g2<wr.heap.size:=I6.o.2.1.2.lt;have qh:=Hx (show∀wx,Ext wr wx->(wx.cell? (aD w.heap.size 0)=some (vI (N:Int))/\wx.cell? (aD w.heap.size 1)=some (.s AO t.over.length co)/\wx.cell? (aD w.heap.size 2)=some (.s AL t.links.length cl)/\wx.cell? (aD g2 1)=some (vI (kc:Nat))/\wx.cell? (aD g2 2)=some (vI 0))from fun wx hx=>
       have hb:=I6.o.2.1.2.K hx;have hf:=I7.o.st.fin.K hx
       ⟨(hf.cell 0).trans rfl,(hf.cell 1).trans rfl,(hf.cell 2).trans rfl,(hb.cell 1).trans rfl,(hb.cell 2).trans rfl⟩)
      obtain⟨hh,qi,z3⟩:=tA HT.o.2.1 vG;have qx:=Hx (show∀wx,Ext wr wx->Calls prog 106 #[.agg #[vI (N:Int),.s AO t.over.length co,.s AL t.links.length cl],vI a] wx fun e w'=>e=.returned (vI (hh:Int))/\Ext wx w' from fun wx hx=>by
       have h1:=mA t AO co AL cl a wx ((HT.o.1.K I7.o.st.ext).K hx) qU;rw[qB.o,qi]at h1;exact h1)
      obtain⟨ca,qZ⟩:∃ca,eQ t a=ca:=⟨_,rfl⟩;have qy:=Hx (show∀wx,Ext wr wx->Calls prog 141 #[.agg #[vI (N:Int),.s AO t.over.length co,.s AL t.links.length cl],vI a] wx fun e w'=>e=.returned (vI (ca:Int))/\Ext wx w' from fun wx hx=>by
       have h1:=jzml t AO co AL cl a wx ((HT.o.1.K I7.o.st.ext).K hx) HT.o.2.1 qU;rw[qB.o,qZ]at h1;exact h1)
      have zg:=Hx qi;have zt:=Hx qZ;have q3:ca<=65535:=(by rw[<-qZ];exact jzcx HT.o.2.1 a);have zQ:=zw.o.2;have zk:IntKind.i64.wrap ((kc:Int)+(ca:Int))=(kc:Int)+(ca:Int):=IntWalk.i64_in _ qO;have XD:Hid (Ext wr wr.drew):=Hx ((eR wr).drewN 1);have XA:Hid (Ext wr (wr.alloc (.cells #[vI 0,vI 0,vI 0,zN] 212)).drew):=Hx (((eR wr).alloc _).drewN 1);have BN:Hid (Blk (wr.alloc (.cells #[vI 0,vI 0,vI 0,zN] 212)).drew wr.heap.size 212 #[vI 0,vI 0,vI 0,zN]):=Hx (eN wr _ _);obtain⟨i0,i1,i2,i3,i4⟩:=qh.o _ XD.o;obtain⟨y0,y1,y2,y3,y4⟩:=qh.o _ XA.o;clear qi qZ
      go_upto_region 27 with fail
      go_cut [20] (fun sl wx=>∃g3:Nat,sl=.pointer (sA g3)/\Hid (wr.heap.size<=g3/\Blk wx g3 212 #[vI (hh:Int),vI ((kc:Int)+(ca:Int)),vI 0,zN]/\Ext wr wx))
      case first=>
       go_region_held3 (fun w'=>w'.cell? (aD w.heap.size 0)=some (vI (N:Int))/\w'.cell? (aD w.heap.size 1)=some (.s AO t.over.length co)/\w'.cell? (aD w.heap.size 2)=some (.s AL t.links.length cl)/\w'.cell? (aD g2 1)=some (vI (kc:Nat))/\w'.cell? (aD g2 2)=some (vI 0))
        (first|with_reducible exact⟨i0,i1,i2,i3,i4⟩|with_reducible exact⟨y0,y1,y2,y3,y4⟩|with_reducible exact⟨aU i0 _,aU i1 _,aU i2 _,aU i3 _,aU i4 _⟩|exact⟨aG (aG (aG (aG i0 fT) fT) fT) fT,aG (aG (aG (aG i1 fT) fT) fT) fT,aG (aG (aG (aG i2 fT) fT) fT) fT,aG (aG (aG (aG i3 fG) fG) fG) fG,aG (aG (aG (aG i4 fG) fG) fG) fG⟩|fail)
        (first
         |(go_at_call 106
           first
           |(with_reducible refine(qx.o _ (by with_reducible exact XD.o)).mono ?_
             rintro e w8 ⟨rfl,x8⟩;have E8:=Hx (XD.o.tr x8))
           |(with_reducible refine(qx.o _ (by with_reducible exact XA.o)).mono ?_
             rintro e w8 ⟨rfl,x8⟩;have E8:=Hx (XA.o.tr x8);have B8:=Hx (BN.o.K x8))
           obtain⟨i0,i1,i2,i3,i4⟩:=qh.o _ E8.o;clear x8)
         |(go_at_call 141
           first
           |(with_reducible refine(qy.o _ (by with_reducible exact E8.o)).mono ?_
             rintro e w9 ⟨rfl,x9⟩;have E9:=Hx (E8.o.tr x9);have z2:wr.heap.size<=w8.heap.size:=E8.o.size
             first
             |(have B9:=Hx (B8.o.K x9)
               obtain⟨⟨v0,v1,v2,v3⟩,r0,r1,r2,r3⟩:=jza B9.o;have gg:wr.heap.size<=wr.heap.size:=yX _;have fT:w.heap.size≠wr.heap.size:=kQb lw;have fG:g2≠wr.heap.size:=kQb lg)
             |skip)
           |(with_reducible refine(qy.o _ (by with_reducible exact E8.o.alloc (.cells #[vI 0,vI 0,vI 0,zN] 212))).mono ?_
             rintro e w9 ⟨rfl,x9⟩;have E9:=Hx ((E8.o.alloc (.cells #[vI 0,vI 0,vI 0,zN] 212)).tr x9);have gg:wr.heap.size<=w8.heap.size:=E8.o.size;have fT:w.heap.size≠w8.heap.size:=kQb (yL lw gg);have fG:g2≠w8.heap.size:=kQb (yL lg gg);have B9:=Hx ((eN w8 212 #[vI 0,vI 0,vI 0,zN]).K x9);obtain⟨⟨v0,v1,v2,v3⟩,r0,r1,r2,r3⟩:=jza B9.o)
           obtain⟨i0,i1,i2,i3,i4⟩:=qh.o _ E9.o;clear x9)
         |fail)
       all_goals
        go_wp2;go_meet
        first
        |exact⟨_,rfl,Hx ⟨gg,(((B9.o.sT 0 _).sT 1 _).sT 2 _).sT 3 _,jznc B9.o gg E9.o _ _ _ _⟩⟩
        |exact⟨w9.heap.size,rfl,Hx ⟨E9.o.size,eN w9 _ _,E9.o.alloc _⟩⟩
      obtain⟨g3,rfl,B9⟩:=hcut;clear XD XA BN qh qx qy i0 i1 i2 i3 i4 y0 y1 y2 y3 y4 zk;have F5:wc.cell? (aD w.heap.size 5)=some (vI 0):=((I7.o.st.K B9.o.2.2).fin.cell 5).trans rfl;have L2:wc.cell? (aD g3 2)=some (vI 0):=(B9.o.2.1.cell 2).trans rfl;have L3:wc.cell? (aD g2 3)=some (.s A zx.length k):=((I6.o.2.1.2.K B9.o.2.2).cell 3).trans rfl;have vW:=Hx (jza2 A k zx wc (I6.o.2.1.1.K B9.o.2.2).1 qO);obtain⟨ti,hi,vJ,qI,qV⟩:=info_parts Tryz.info3;have zZ:wr.heap.size<=wc.heap.size:=B9.o.2.2.size;have zV:g3<wc.heap.size:=B9.o.2.1.lt
      go_wp2_with fail
      refine vW.o.mono ?_;rintro e v6 ⟨zD,rfl,qo,vd⟩;have vw:=Hx qo;have za:=Hx vd;have zv:wc.heap.size<=v6.heap.size:=vd.size;clear qo vd vW F5 L2 L3
      go_wp2_with (at_builtin;go_must (refine wpList_append_own_at _ rfl (.tmp 182) (.tmp 184) 42 rfl wc.heap.size 3 ti (vI 0) 1 8 underlying42 hi vJ qI qV rfl qD zD zx.length (ints zx) rfl (vw.o.alloc _) (aD v6.heap.size 0) 1 1 [vI (a:Int)] rfl rfl ?c1 ?c2 ?c3 ?c4 ?c5 ?_))
      case c1=>
       intro j u hj
       match j,hj with
       |0,hj=>simp at hj;subst hj;simp[Addr.add]
      case c2=>intro u hu;simp at hu;subst hu;rfl
      case c3=>unfold maxLen;omega
      case c4=>omega
      case c5=>simp;omega
      intro zT qt qe qp _ _;have q7:Hid (Ext wc qt):=Hx (Below.grown (za.o.alloc (.cells #[vI (a:Int)] 3)) qp (by simp;omega) (fun q hq=>(vw.o.lt q hq).1));have qY:=Hx (B9.o.2.1.K q7.o);obtain⟨qg,qk,ve,vc⟩:=jzed qe;subst ve;have vF:=Hx (show RdF (w.heap.size+2) qt (sA qg) (ints (zx++[a]))from by
       have e1:ints zx++[vI (a:Int)]=ints (zx++[a]):=(by rw[jzeb];rfl);rw[e1]at qe;obtain⟨A5,c5,e5,_,r5⟩:=iE qe qS;injection e5 with e5
       subst e5;refine⟨r5,fun p hp=>?_⟩;injection hp with hp
       subst hp;have:=(qe.lt qg rfl).1;have h2:=I7.o.st.lst.lt;simp only;omega)
      have q5:qt.cell? (aD g3 3)=some zN:=(qY.o.cell 3).trans rfl;have zL:qt.frozen? (aD g3 3)=false:=qY.o.frozen 3;clear qp qe vw hi vJ qI qV
      go_upto_region 32 with fail
      have qA:Hid (Ext wr (qt.setCell (aD g3 3) (.s (sA qg) (zx.length+1) qk))):=Hx (Ext.sT (B9.o.2.2.tr q7.o) B9.o.1 _);have zd:Hid (Blk (qt.setCell (aD g3 3) (.s (sA qg) (zx.length+1) qk)) g3 212 #[vI (hh:Int),vI ((kc:Int)+(ca:Int)),vI 0,.s (sA qg) (zx.length+1) qk]):=Hx (qY.o.sT 3 _);have ze:Hid (RdF (w.heap.size+2) (qt.setCell (aD g3 3) (.s (sA qg) (zx.length+1) qk)) (sA qg) (ints (zx++[a]))):=Hx (vF.o.other (aM _ _ _ _) qY.o qD);clear q5 zL vF qY q7 za B9;generalize qt.setCell (aD g3 3) (.s (sA qg) (zx.length+1) qk)=w12 at*;have qT:iX t (hh,zx++[a]) (sA qg) qk=.agg #[vI (hh:Int),vI ((kc:Int)+(ca:Int)),vI 0,.s (sA qg) (zx.length+1) qk]:=by
       unfold iX;simp[jzkk,vZ.o,zt.o]
      have vh:ni+1<=1000000:=by
       have h1:=I7.o.nn;have h8:N*(2*t.links.length+1)<=64*513:=kQq hN64 qO;simp at h1;omega
      have qM:=Hx (show Calls prog 142 #[.iface 210 (.pointer (sA q)),.iface 212 (.agg #[vI (hh:Int),vI ((kc:Int)+(ca:Int)),vI 0,.s (sA qg) (zx.length+1) qk])] w12 (wY t w12 (w.heap.size+2) q gi (ni+1) ((hh,zx++[a])::qm))from by
       have h1:=jzm5 t (jzeg t) (w.heap.size+2) q gi ni ci qm (hh,zx++[a]) (sA qg) qk w12 (I7.o.qu.K qA.o) I7.o.hp (fun y hy=>by
        rcases xZ.1 hy with rfl|hy
        ·simp;omega
        have h2:=I7.o.ki.size y.1 y.2 hy;have h3:=List.count_le_length (a:=true) (l:=V2);rw[I7.o.ki.len,qf]at h3;omega) (by simpa using vc) ze.o vh (by have:=(I7.o.st.K qA.o).lst.lt;omega)
       rw[qT]at h1;exact h1)
      obtain⟨⟨l0,l1,l2,l3⟩,_⟩:=jza zd.o;clear qT ze zd
      go_wp2_with fail
      refine qM.o.mono ?_;rintro e vl ⟨rfl,vt,q5,qQ,vH,vx,vj,v4,qW⟩;have I9:=Hx (show DvI t down s d N _ w vl q V2 fin2 qQ vt q5 (ni+1) zn ((aL t zn).drop (i+1))from
       ⟨I7.o.ki.push zE.o zF.o vU.o vK.o (fun z=>by
        rw[vH.mem_iff,xZ,zI.o,zg.o,xL]),vx,v4,(I7.o.st.K qA.o).kf qW I7.o.hq I7.o.qu.row.lo,by have:=I7.o.nn;simp at this⊢;omega,I7.o.hq,vj⟩)
      have J9:=Hx (show(RdF (w.heap.size+2) vl A (ints zx)/\Blk vl g2 212 #[vI (zn:Int),vI (kc:Nat),vI 0,.s A zx.length k])/\vt≠g2/\ni+1+(M-(i+1))<=n+M from by
       have K:=I7.o.qu.K qA.o;obtain⟨cb,q3⟩:=K.row.blk;refine⟨⟨qW.rdF K.box q3 (I6.o.2.1.1.K qA.o),qW.blk (I6.o.2.1.2.K qA.o) (fun e=>zB e.symm) (fun e=>I6.o.2.2.1 e.symm)⟩,fun e=>?_,by have:=I6.o.2.2.2;omega⟩;rcases qW.row with e2|e2
       ·exact I6.o.2.2.1 (by rw[<-e2,e])
       have:=qA.o.size;omega)
      clear vH vx v4 qW qM l0 l1 l2 l3 I6 I7;go_wp2
      go_roundg (M-(i+1))
      case measure=>omega
      exact⟨i+1,qQ,vt,q5,ni+1,rfl,qO,by go_num,Hx ⟨I9.o,J9.o.1,J9.o.2.1,J9.o.2.2⟩⟩
    obtain rfl:i=M:=qO;have zo:¬((i:Int)<(i:Int)):=qO;have zK:¬(i<i):=kZr i;have I7:=Hx (show DvI t down s d N _ w _ q V2 fin2 qm gi ci ni zn []from by
     have h1:=I6.o.1;rw[kQf (by rw[q2.o];exact yX _)]at h1;exact h1)
    have z0:ni<=n+i:=(by have:=I6.o.2.2.2;omega);have I8:=Hx (show DvI t down s d N _ w _ q V2 fin2 qm gi ci ni 0 []from
     ⟨⟨I7.o.ki.len,I7.o.ki.lab,I7.o.ki.size,I7.o.ki.best,fun u a h1 h2 h3 h4 h5=>by
       rcases I7.o.ki.front u a h1 h2 h3 h4 h5 with⟨_,h6⟩|h6
       ·cases h6
       exact .inr h6,I7.o.ki.src,I7.o.ki.dd⟩,I7.o.hp,I7.o.qu,I7.o.st,I7.o.nn,I7.o.hq,I7.o.hc⟩)
    clear I6 I7;go_wp2
    go_roundg (gk-1)
    case measure=>omega
    exact⟨V2,fin2,qm,gi,ci,ni,qO,I8⟩
theorem jzeh{w}{g:Nat}{t:TypeId}{a b c d e f h:Value}(hb:Blk w g t #[a,b,c,d,e,f,h]):(w.cell? (aD g 0)=some a/\w.cell? (aD g 1)=some b/\w.cell? (aD g 2)=some c/\w.cell? (aD g 3)=some d/\w.cell? (aD g 4)=some e/\w.cell? (aD g 5)=some f/\w.cell? (aD g 6)=some h)/\w.frozen? (aD g 0)=false/\w.frozen? (aD g 1)=false/\w.frozen? (aD g 2)=false/\w.frozen? (aD g 3)=false/\w.frozen? (aD g 4)=false/\w.frozen? (aD g 5)=false/\w.frozen? (aD g 6)=false:=
 ⟨⟨(hb.cell 0).trans rfl,(hb.cell 1).trans rfl,(hb.cell 2).trans rfl,(hb.cell 3).trans rfl,(hb.cell 4).trans rfl,(hb.cell 5).trans rfl,(hb.cell 6).trans rfl⟩,hb.frozen 0,hb.frozen 1,hb.frozen 2,hb.frozen 3,hb.frozen 4,hb.frozen 5,hb.frozen 6⟩
theorem jzne{w0 w:World}{g:Nat}(hg:w0.heap.size<=g)(hx:Ext w0 w)(v0 v1 v2 v3 v4 v5 v6:Value):Ext w0 (((((((w.setCell (aD g 0) v0).setCell (aD g 1) v1).setCell (aD g 2) v2).setCell (aD g 3) v3).setCell (aD g 4) v4).setCell (aD g 5) v5).setCell (aD g 6) v6):=
 Ext.sT (Ext.sT (Ext.sT (Ext.sT (Ext.sT (Ext.sT (Ext.sT hx hg v0) hg v1) hg v2) hg v3) hg v4) hg v5) hg v6
theorem jznf(w:World)(g:Nat)(v0 v1 v2 v3 v4 v5 v6:Value):w.grownBy (((((((w.setCell (aD g 0) v0).setCell (aD g 1) v1).setCell (aD g 2) v2).setCell (aD g 3) v3).setCell (aD g 4) v4).setCell (aD g 5) v5).setCell (aD g 6) v6) (some g):=
 ((((((aM w g 0 v0).trans (aM _ g 1 v1)).trans (aM _ g 2 v2)).trans (aM _ g 3 v3)).trans (aM _ g 4 v4)).trans (aM _ g 5 v5)).trans (aM _ g 6 v6)
def jzng(w:World)(r:LN×Int)(e:Ending)(w':World):Prop:=
 (r.2=0/\∃(g:Nat) (A:OA) (k:Nat),e=.returned (.tuple #[.s (sA g) 1 1,vI 0])/\w'.cell? (aD g 0)=some (.s A r.1.length k)/\r.1.length<=k/\RdT w' 3 A (ints r.1)/\Ext w w')\/
 (r.2≠0/\e=.returned (.tuple #[zN,vI r.2])/\Ext w w')
def oP(w:World)(r:LN×Int)(e:Ending)(w':World):Prop:=
 (r.2=0/\∃(g:Nat) (A:OA) (k:Nat),e=.returned (.tuple #[.s (sA g) 1 1,vI 0])/\w'.cell? (aD g 0)=some (.s A r.1.length k)/\r.1.length<=k/\RdF w.heap.size w' A (ints r.1)/\Ext w w')\/
 (r.2≠0/\e=.returned (.tuple #[zN,vI r.2])/\Ext w w')
theorem oP.weak{w}{r:LN×Int}{e:Ending}{w'}(h:oP w r e w'):jzng w r e w':=by
 rcases h with⟨h1,g,A,k,h2,h3,h4,h5,h6⟩|h
 ·exact .inl ⟨h1,g,A,k,h2,h3,h4,h5.1,h6⟩
 exact .inr h
theorem jznh{t}(hv:aH t=true):1<=t.nodes/\t.nodes<=64:=by
 unfold aH cS inB at hv;simp at hv;exact hv.1.1.1
theorem jzni t AO(co:Nat)AL(cl:Nat)AD(cd:Nat)(down:List Bool)(s d:Int)w(ht:bD w t AO co AL cl)(hll:t.links.length<=256)(hdn:Rd w AD (bH down))(hdl:down.length<=cd)(hdc:down.length<=600):
  Calls prog 28 #[.agg #[vI t.nodes,.s AO t.over.length co,.s AL t.links.length cl],.s AD down.length cd,vI s,vI d,vI 1,vI 0] w (oP w (chP t down (bS t) s d)):=by
 have HT:=Hx (ht);have qJ:=Hx (hdn);have h3:=ht.ll;have h4:=ht.cl;clear ht hdn;generalize hR:chP t down (bS t) s d=R;have HR:=Hx (hR);clear hR;obtain⟨b0,e0⟩:=bA w #[vI t.nodes,.s AO t.over.length co,.s AL t.links.length cl] 25;obtain⟨⟨i0,i1,i2⟩,g0,g1,g2⟩:=b0.t3;have BB:=Hx b0;clear b0;go_enter func28,ntmps28;(go_upto_region 1 with fail);go_cut [39] (fun s wx=>s=.bool (!aH t||!dX t down)/\Hid (Blk wx w.heap.size 25 #[vI t.nodes,.s AO t.over.length co,.s AL t.links.length cl]/\Ext w wx));(case first=>(go_wp2_with fail);refine(pH t AO co AL cl _ (HT.o.K e0)).mono ?_;rintro e w1 ⟨rfl,qg⟩;have qn:=BB.o.K qg;obtain⟨⟨i0,i1,i2⟩,g0,g1,g2⟩:=qn.t3;have E1:=Hx (kQa qn (e0.tr qg));clear qg qn;cases hv:aH t;(case false=>go_wp2;go_meet;exact⟨by simp[hv],E1⟩);have HV:=Hx (hv);go_wp2_with fail;refine(jz9 t AO co AL cl AD cd down _ (HT.o.K E1.o.2)).mono ?_;rintro e w2 ⟨rfl,qf⟩;have E2:=Hx (kQa (E1.o.1.K qf) (E1.o.2.tr qf));clear qf;cases hf:dX t down;(case false=>go_wp2;go_meet;exact⟨by simp[hf],E2⟩);have HF:=Hx (hf);go_wp2;go_meet;exact⟨by simp[HV.o,HF.o],E2⟩);obtain⟨rfl,E3⟩:=hcut;clear i0 i1 i2 g0 g1 g2 e0 BB;obtain⟨⟨i0,i1,i2⟩,g0,g1,g2⟩:=E3.o.1.t3;obtain⟨b1,qt⟩:∃b,(!aH t||!dX t down)=b:=⟨_,rfl⟩;have qy:=Hx qt;rw[qt];clear qt;cases b1;(case true=>have hr:R=([],1):=(by rw[<-HR.o];have:fR t down (bS t)=true:=(by unfold fR;rw[qy.o];rfl);unfold chP;rw[this];rfl);subst hr;go_wp2;exact bodyPost_ret (v:=.tuple #[zN,vI 1]) (by simp[results,results28,go_sem]) rfl (.inr ⟨qD,rfl,E3.o.2⟩));have qe:Hid (aH t=true/\dX t down=true):=Hx (by have:=qy.o;simpa using this);have qj:fK t s d= !(ndB t.nodes s&&ndB t.nodes d):=(by unfold fK ndB;rw[Bool.eq_iff_iff];simp;omega);have qi:=Hx (qj);clear qj;(go_upto_region 3 with fail);go_cut [49] (fun x wx=>x=.bool (fK t s d)/\Hid (Blk wx w.heap.size 25 #[vI t.nodes,.s AO t.over.length co,.s AL t.links.length cl]/\Ext w wx));(case first=>(go_wp2_with fail);refine(lJ t AO co AL cl s _).mono ?_;rintro e w1 ⟨rfl,qg⟩;have E4:=Hx (kQa (E3.o.1.K qg) (E3.o.2.tr qg));obtain⟨⟨i0,i1,i2⟩,g0,g1,g2⟩:=E4.o.1.t3;clear qg;cases hn:ndB t.nodes s;(case false=>go_wp2;go_meet;exact⟨by rw[qi.o,hn];rfl,E4⟩);have HN:=Hx hn;clear hn;go_wp2_with fail;refine(lJ t AO co AL cl d _).mono ?_;rintro e w2 ⟨rfl,qf⟩;have E5:=Hx (kQa (E4.o.1.K qf) (E4.o.2.tr qf));clear qf;go_wp2;go_meet;exact⟨by rw[qi.o,HN.o];simp,E5⟩);obtain⟨rfl,E6⟩:=hcut;clear i0 i1 i2 g0 g1 g2 E3;obtain⟨⟨i0,i1,i2⟩,g0,g1,g2⟩:=E6.o.1.t3;have qx:Hid (fR t down (bS t)=false):=Hx (by unfold fR;rw[qe.o.1,qe.o.2,jzcw];rfl);cases hb2:fK t s d;(case true=>have hr:R=([],2):=(by rw[<-HR.o];unfold chP;rw[qx.o,hb2];rfl);subst hr;go_wp2;exact bodyPost_ret (v:=.tuple #[zN,vI 2]) (by simp[results,results28,go_sem]) rfl (.inr ⟨qD,rfl,E6.o.2⟩))
 obtain⟨k1,k2,k3,k4⟩:0<=s/\s<t.nodes/\0<=d/\d<t.nodes:=(by unfold fK at hb2;simp at hb2;omega);have qQ:=Hx hb2;obtain⟨s',rfl⟩:=kQj k1;obtain⟨d',rfl⟩:=kQj k3;have qp:=jznh qe.o.1;obtain⟨N,hN⟩:=kQj (show 0<=t.nodes by omega);have qm:=Hx hN;have qC:s'<N:=qO;have qI:d'<N:=qO;have qo:N<=64:=qO;have qH:=Hx (show R=match fF t down (bS t) s' d' with
  |none=>([],11)
  |some l=>(l,0)from by rw[<-HR.o];unfold chP;rw[qx.o,qQ.o];rfl)
 clear hb2 hN k1 k2 k3 k4 HR qp;have XD:Hid (Ext wc wc.drew):=Hx ((eR wc).drewN 1);have XA:Hid (Ext wc (wc.alloc (.cells #[vI 0,zN,zN,zN,vI 0,vI 0,zN] 134)).drew):=Hx (((eR wc).alloc _).drewN 1);have BN:Hid (Blk (wc.alloc (.cells #[vI 0,zN,zN,zN,vI 0,vI 0,zN] 134)).drew wc.heap.size 134 #[vI 0,zN,zN,zN,vI 0,vI 0,zN]):=Hx (eN wc _ _);have qa:Hid (∀wx,Ext wc wx->(wx.cell? (aD w.heap.size 0)=some (vI t.nodes)/\wx.cell? (aD w.heap.size 1)=some (.s AO t.over.length co)/\wx.cell? (aD w.heap.size 2)=some (.s AL t.links.length cl))):=Hx (fun wx hx=>(E6.o.1.K hx).t3.1);obtain⟨i0,i1,i2⟩:=qa.o _ XD.o;obtain⟨y0,y1,y2⟩:=qa.o _ XA.o;have lw:w.heap.size<wc.heap.size:=E6.o.1.lt;(go_upto_region 5 with fail);go_cut [14] (fun sl wx=>∃g gL:Nat,sl=.pointer (sA g)/\Hid (wc.heap.size<=g/\Blk wx g 134 #[vI t.nodes,.s AO t.over.length co,.s AL t.links.length cl,.s AD down.length cd,vI (d':Int),vI 0,.s (sA gL) N N]/\LL wx gL N (aL t)/\Ext wc wx))
 case first=>
  go_region_held3 (fun w'=>w'.cell? (aD w.heap.size 0)=some (vI t.nodes)/\w'.cell? (aD w.heap.size 1)=some (.s AO t.over.length co)/\w'.cell? (aD w.heap.size 2)=some (.s AL t.links.length cl))
   (first|with_reducible exact⟨i0,i1,i2⟩|with_reducible exact⟨y0,y1,y2⟩|with_reducible exact⟨aU i0 _,aU i1 _,aU i2 _⟩|exact⟨aG (aG (aG (aG (aG (aG (aG i0 fT) fT) fT) fT) fT) fT) fT,aG (aG (aG (aG (aG (aG (aG i1 fT) fT) fT) fT) fT) fT) fT,aG (aG (aG (aG (aG (aG (aG i2 fT) fT) fT) fT) fT) fT) fT⟩|fail)
   (first
    |(go_at_call 75
      first
      |(with_reducible refine(sZ t AO co AL cl _ ((HT.o.K E6.o.2).K (by with_reducible exact XD.o)) qe.o.1).mono ?_
        rintro e w8 ⟨gL,N',qB,rfl,qw,x8⟩;have E8:=Hx (XD.o.tr x8))
      |(with_reducible refine(sZ t AO co AL cl _ ((HT.o.K E6.o.2).K (by with_reducible exact XA.o)) qe.o.1).mono ?_
        rintro e w8 ⟨gL,N',qB,rfl,qw,x8⟩;have E8:=Hx (XA.o.tr x8);have B8:=Hx (BN.o.K x8);obtain⟨⟨v0,v1,v2,v3,v4,v5,v6⟩,r0,r1,r2,r3,r4,r5,r6⟩:=jzeh B8.o;have gg:wc.heap.size<=wc.heap.size:=yX _;have fT:w.heap.size≠wc.heap.size:=kQb lw)
      obtain rfl:N'=N:=(by have:=qm.o;omega);have L8:=Hx qw;obtain⟨i0,i1,i2⟩:=qa.o _ E8.o;clear x8 qw qB)
    |fail)
  all_goals
   go_wp2;go_meet
   first
   |exact⟨_,gL,rfl,Hx ⟨gg,(((((((B8.o.sT 0 _).sT 1 _).sT 2 _).sT 3 _).sT 4 _).sT 5 _).sT 6 _),L8.o.other (jznf _ _ _ _ _ _ _ _ _) B8.o qD qD,jzne gg E8.o _ _ _ _ _ _ _⟩⟩
   |exact⟨w8.heap.size,gL,rfl,Hx ⟨E8.o.size,eN w8 _ _,L8.o.K ((eR w8).alloc _),E8.o.alloc _⟩⟩
 (obtain⟨g,gL,rfl,E9⟩:=hcut;clear XD XA BN qa i0 i1 i2 y0 y1 y2 g0 g1 g2;obtain⟨⟨v0,v1,v2,v3,v4,v5,v6⟩,_⟩:=jzeh E9.o.2.1;have qA:=Hx (jznd t AO co AL cl AD cd down gL N s' d' _ ((HT.o.K E6.o.2).K E9.o.2.2.2) qe.o.1 qm.o hll ((qJ.o.K E6.o.2).K E9.o.2.2.2) hdl hdc qe.o.2 E9.o.2.2.1 qC qI qo);have qM:¬((1:Int)<1):=qD;have qz:s'<t.nodes.toNat:=(by rw[qm.o];simpa using qC);have qT:d'<t.nodes.toNat:=by rw[qm.o];simpa using qI);go_wp2_with fail;refine qA.o.mono ?_;rintro e w3 qk;rcases qk with⟨x,A,k,rfl,hk,rx,hle,hbest,x3⟩|⟨rfl,hno,x3⟩
 ·have qh:Hid (R.2=0/\R.1=x):=Hx (by have h1:=qH.o;rw[jzk6 qe.o.1 qz hle hbest]at h1;rw[h1];exact⟨rfl,rfl⟩);have FX:Hid (x.length<=k/\RdF w.heap.size w3 A (ints x)/\Ext w w3):=Hx (⟨hk,⟨rx.1,fun p hp=>yY (E6.o.2.tr E9.o.2.2.2).size (rx.2 p hp)⟩,(E6.o.2.tr E9.o.2.2.2).tr x3⟩);clear hk rx hle hbest x3 qA;go_wp2;go_loopg [17] 0 (fun j s17 wx=>s17=.s (sA w3.heap.size) 1 1/\w3.alloc (.cells #[.s A x.length k] 42)=wx);exact⟨rfl,rfl⟩
  obtain⟨rfl,rfl⟩:=hrel;have BX:=Hx (show oP w R (.returned (.tuple #[.s (sA w3.heap.size) 1 1,vI 0])) (w3.alloc (.cells #[.s A x.length k] 42))from
   .inl ⟨qh.o.1,w3.heap.size,A,k,rfl,by rw[qh.o.2];exact(eN w3 42 #[.s A x.length k]).cell 0,by rw[qh.o.2];exact FX.o.1,by rw[qh.o.2];exact⟨FX.o.2.1.1.K ((eR _).alloc _),FX.o.2.1.2⟩,FX.o.2.2.alloc _⟩)
  go_wp2;exact bodyPost_ret (v:=.tuple #[.s (sA w3.heap.size) 1 1,vI 0]) (by simp[results,results28,go_sem]) rfl BX.o
 have qh:Hid (oP w R (.returned (.tuple #[zN,vI 11])) w3):=Hx (by have h1:=qH.o;rw[jzk7 qe.o.1 qz hno]at h1;rw[h1];exact .inr ⟨qD,rfl,(E6.o.2.tr E9.o.2.2.2).tr x3⟩);clear x3 hno;go_wp2;exact bodyPost_ret (v:=.tuple #[zN,vI 11]) (by simp[results,results28,go_sem]) rfl qh.o
theorem cmp3(a b:Rat):(bG a b= -1/\a<b)\/(bG a b=0/\a=b)\/(bG a b=1/\b<a):=by
 unfold bG;by_cases h:a<b;{exact .inl ⟨by rw[qE h],h⟩};by_cases h2:a=b;{exact .inr (.inl ⟨by rw[qF h,qE h2],h2⟩)};exact .inr (.inr ⟨by rw[qF h,qF h2],qG⟩)
def eW(T:Sx.Tb)(j i:Nat):Bool:=decide (0<Sx.at_ (T.row i).co j)&&(match Sx.levN T j i with
 |none=>true
 |some b=>decide (Sx.quo T j i<Sx.quo T j b\/Sx.quo T j i=Sx.quo T j b/\Sx.atN T.bas i<Sx.atN T.bas b))
theorem jznj(T:Sx.Tb)(j i:Nat):Sx.levN T j (i+1)=if eW T j i=true then some i else Sx.levN T j i:=by
 show(if 0<Sx.at_ (T.row i).co j then(match Sx.levN T j i with
  |none=>some i
  |some b=>if Sx.quo T j i<Sx.quo T j b\/Sx.quo T j i=Sx.quo T j b/\Sx.atN T.bas i<Sx.atN T.bas b then some i else some b)else Sx.levN T j i)=_
 unfold eW;by_cases h:0<Sx.at_ (T.row i).co j;{rw[qE h,yO h,kZg];(cases Sx.levN T j i with|none=>simp|some b=>by_cases h2:Sx.quo T j i<Sx.quo T j b\/Sx.quo T j i=Sx.quo T j b/\Sx.atN T.bas i<Sx.atN T.bas b;{simp[h2]};simp[h2])};rw[qF h,yP h];simp
def lq(T:Sx.Tb)(j i:Nat):Rat:=match Sx.levN T j i with
 |none=>0
 |some b=>Sx.quo T j b
theorem jzei(q:Rat):aC q<=0↔¬0<q:=by
 have h:q.num<0↔q<0:=(by rw[<-Int.not_le,Rat.num_nonneg,Rat.not_le]);unfold aC;by_cases h0:q.num=0;{rw[qE h0];have:q=0:=Rat.num_eq_zero.1 h0;rw[this];decide};rw[qF h0];have h3:q≠0:=fun e=>h0 (by rw[e];rfl);by_cases h1:q.num<0;{rw[qE h1];have:=h.1 h1;exact⟨fun _=>qG,fun _=>qD⟩};rw[qF h1];have:¬q<0:=fun x=>h1 (h.2 x);exact⟨fun h=>qO,fun h=>absurd qG h⟩
theorem jznk(B j P:Nat)(L:aT)(T:Sx.Tb)w(h:aF w B L T)(q7:OkT T)(q6:SzT T P)(hP:P<=100000)(hj:j<T.fre.length)(hm0:0<L.m)(hm:L.m<=1000000)(hK:T.fre.length<=1000000000000):
  Calls prog 82 #[.pointer (sA L.p),vI (j:Int)] w fun e w'=>e=.returned (vI (iS (Sx.levT T j)))/\Ext w w':=by
 obtain⟨g,cr,q2,vw⟩:=h.vr_form hm0;obtain⟨gb,cb,q4,vu⟩:=h.vb_form hm0;obtain⟨cp,qX,_,p0,p1,_,_⟩:=h.goa;rw[q2]at p0;rw[q4]at p1;have q0:=(qX.cell 0).trans p0;have Q1:=Hx ((qX.cell 1).trans p1);have qh:=h.bas;rw[q4]at qh;have HE:=Hx (show Sx.levT T j=Sx.levN T j L.m by unfold Sx.levT;rw[h.rl]);have q3:=qX.lt;have qM:gb<w.heap.size:=pZ (gT qh hm0);have vc:=Hx qh;have H:=Hx (kQa h (kQa q7 q6));have HV:=Hx q2;have vi:=h.rl;clear h q7 q6 q2 q4 qX p0 p1 qh;generalize hKK:T.fre.length=K at*;have q5:=Hx hKK;clear hKK;have jN:(j:Int)<(K:Int):=qO;have j0:(0:Int)<=(j:Int):=qO;have L0:=Hx (eN w 33 rV);have LX:=Hx ((eR w).alloc (.cells rV 33))
 go_enter func82,ntmps82
 go_wp2
 go_loopg [5,7,8,9,10,11,17] L.m (fun q bt _ _ _ _ _ it wr=>∃i:Nat,L.m-i=q/\i<=L.m/\it=vI (i:Int)/\bt=vI (iS (Sx.levN T j i))/\Hid (Ext w wr/\∃nl Al ll cl qi qj qm,Blk wr w.heap.size 33 #[.bool nl,.s Al ll cl,.s qi qj qm]/\aB wr nl Al ll cl qi qj qm (lq T j i)))
 case atStart=>exact⟨0,rfl,yZ _,rfl,rfl,Hx ⟨LX.o,_,_,_,_,_,_,_,L0.o,eJ _⟩⟩
 obtain⟨i,rfl,hi,rfl,rfl,I⟩:=hrel;clear q0 L0 LX;by_cases qA:i<L.m
 ·have iN:(i:Int)<(L.m:Int):=by omega
  have i0:(0:Int)<=(i:Int):=qO;have qY:i<T.rows.length:=(by rw[vi];exact qA);have qJ:(T.row i).co.length=K:=(by rw[H.o.2.1.cl i qY,q5.o]);obtain⟨gv,cv,hV,q9,qB⟩:=(H.o.1.co i qA).form (by rw[qJ];omega);rw[qJ]at hV q9;obtain⟨ca,hb,nr,R1,m1,d1,qy,qC,qz,r0,r1,r2,r3,rr⟩:=H.o.1.rwa qA HV.o;rw[hV]at r0;have qZ:=H.o.1.co i qA;rw[hV]at qZ;obtain⟨nf,F1,f1,e1,qH,qI,qQ,⟨x0,x1,x2⟩,_,rf⟩:=qZ.cell (aO (show j<(T.row i).co.length by rw[qJ];exact hj));have EX:=Hx I.o.1;have k0:=aA EX.o ((hb.cell _).trans r0);have k1:=aA EX.o ((hb.cell _).trans r1);have k2:=aA EX.o ((hb.cell _).trans r2);have k3:=aA EX.o ((hb.cell _).trans r3);have x0:=aA EX.o x0;have x1:=aA EX.o x1;have x2:=aA EX.o x2;have RR:=Hx (kQa (rr.K EX.o) (rf.K EX.o));have vl:=Hx (H.o.2.2.co i qY _ (yJ (aO (show j<(T.row i).co.length by rw[qJ];exact hj))));have vh:=Hx (H.o.2.2.re i qY);have HS:=Hx (jznj T j i);obtain⟨bx,e0⟩:=bA wr #[.s (sA gv) K cv,.bool nr,.s R1 m1 d1,.s qy qC qz] 145;have SG:=Hx (cV nf F1 f1 e1 qH qI qQ (Sx.at_ (T.row i).co j) _ (RR.o.2.K e0));have BX:=Hx (kQa bx e0);have vd:gv<wr.heap.size:=yL qB EX.o.size;clear hV hb r0 r1 r2 r3 rr rf qZ bx e0 qJ q9 qB
  go_wp2_with fail
  refine SG.o.mono ?_;rintro e w4 ⟨rfl,x4⟩;have E4:=Hx (BX.o.2.tr x4);have B4:=Hx (BX.o.1.K x4);clear SG x4;by_cases hx:0<Sx.at_ (T.row i).co j
  ·have HX:=Hx hx
   have HP:Hid (Sx.at_ (T.row i).co j≠0):=Hx (fun e=>by rw[e]at hx;exact absurd hx kZf);have hs:decide (aC (Sx.at_ (T.row i).co j)<=0)=false:=yP fun h=>(jzei _).1 h hx;clear hx;generalize aC (Sx.at_ (T.row i).co j)=sg at*
   go_upto_region 7 with fail
   have qf:=Hx (show∀wx,Ext w4 wx->((wx.cell? (aD wr.heap.size 0)=some (.s (sA gv) K cv)/\wx.cell? (aD wr.heap.size 1)=some (.bool nr)/\wx.cell? (aD wr.heap.size 2)=some (.s R1 m1 d1)/\wx.cell? (aD wr.heap.size 3)=some (.s qy qC qz))/\wx.cell? (aD gv (j*3))=some (.bool nf)/\wx.cell? (aD gv (j*3+1))=some (.s F1 f1 e1)/\wx.cell? (aD gv (j*3+2))=some (.s qH qI qQ))from fun wx hx=>
    ⟨⟨(B4.o.K hx).cell 0,(B4.o.K hx).cell 1,(B4.o.K hx).cell 2,(B4.o.K hx).cell 3⟩,aA (E4.o.tr hx) x0,aA (E4.o.tr hx) x1,aA (E4.o.tr hx) x2⟩)
   have XD:Hid (Ext w4 w4.drew):=Hx ((eR w4).drewN 1);have XA:Hid (Ext w4 (w4.alloc (.cells rV 33)).drew):=Hx (((eR w4).alloc _).drewN 1);have BN:Hid (Blk (w4.alloc (.cells rV 33)).drew w4.heap.size 33 rV):=Hx (eN w4 _ _);have IC:=Hx (qf.o _ XD.o);have UC:=Hx (qf.o _ XA.o);obtain⟨⟨a0,a1,a2,a3⟩,a4,a5,a6⟩:=IC.o;obtain⟨⟨u0,u1,u2,u3⟩,u4,u5,u6⟩:=UC.o;obtain⟨vp,vt⟩:=RR.o.1.lens vh.o;obtain⟨vq,vo⟩:=RR.o.2.lens vl.o;clear x0 x1 x2 k0 k1 k2 k3
   go_cut [9] (fun sl wx=>∃(gs:Nat) (ns:Bool) (A3:OA) (l3 c3:Nat) (qw:OA) (qt qx:Nat),sl=.pointer (sA gs)/\Hid (w4.heap.size<=gs/\Blk wx gs 33 #[.bool ns,.s A3 l3 c3,.s qw qt qx]/\aB wx ns A3 l3 c3 qw qt qx (Sx.quo T j i)/\Ext w4 wx))
   case first=>
    go_region_held3 (fun wx=>(wx.cell? (aD wr.heap.size 0)=some (.s (sA gv) K cv)/\wx.cell? (aD wr.heap.size 1)=some (.bool nr)/\wx.cell? (aD wr.heap.size 2)=some (.s R1 m1 d1)/\wx.cell? (aD wr.heap.size 3)=some (.s qy qC qz))/\wx.cell? (aD gv (j*3))=some (.bool nf)/\wx.cell? (aD gv (j*3+1))=some (.s F1 f1 e1)/\wx.cell? (aD gv (j*3+2))=some (.s qH qI qQ))
     (first|with_reducible exact IC.o|with_reducible exact UC.o|with_reducible exact I9.o|with_reducible exact S9.o|exact qf.o _ (E9.o.alloc _)|fail)
     (first
      |(go_at_call 150
        first
        |(with_reducible refine(pS nr nf R1 m1 d1 qy qC qz F1 f1 e1 qH qI qQ (T.row i).re (Sx.at_ (T.row i).co j) w4.drew (RR.o.1.K (E4.o.tr XD.o)) (RR.o.2.K (E4.o.tr XD.o)) HP.o qO qO qO qO).mono ?_
          rintro e w9 ⟨n9,A9,l9,c9,qV,qW,qT,rfl,h9,x9⟩;have E9:=Hx (XD.o.tr x9))
        |(with_reducible refine(pS nr nf R1 m1 d1 qy qC qz F1 f1 e1 qH qI qQ (T.row i).re (Sx.at_ (T.row i).co j) (w4.alloc (.cells rV 33)).drew (RR.o.1.K (E4.o.tr XA.o)) (RR.o.2.K (E4.o.tr XA.o)) HP.o qO qO qO qO).mono ?_
          rintro e w9 ⟨n9,A9,l9,c9,qV,qW,qT,rfl,h9,x9⟩;have E9:=Hx (XA.o.tr x9);have B9:=Hx (BN.o.K x9);obtain⟨⟨v0,v1,v2⟩,z0,z1,z2⟩:=B9.o.t3;have gg:w4.heap.size<=w4.heap.size:=yX _;have S9:=Hx (qf.o _ (dH (w:=w4) h9 B9.o gg E9.o).2))
        have R9:=Hx h9;have I9:=Hx (qf.o _ E9.o);obtain⟨⟨a0,a1,a2,a3⟩,a4,a5,a6⟩:=I9.o;clear x9 h9)
      |fail)
    all_goals
     go_wp2;go_meet
     first
     |(obtain⟨k1,k2⟩:=dH (w:=w4) R9.o B9.o gg E9.o
       exact⟨_,n9,A9,l9,c9,qV,qW,qT,rfl,Hx ⟨gg,((B9.o.sT 0 _).sT 1 _).sT 2 _,k1,k2⟩⟩)
     |(have xb:=(eR w9).alloc (.cells #[.bool n9,.s A9 l9 c9,.s qV qW qT] 33)
       exact⟨w9.heap.size,n9,A9,l9,c9,qV,qW,qT,rfl,Hx ⟨E9.o.size,eN w9 _ _,R9.o.K xb,E9.o.tr xb⟩⟩)
   obtain⟨gs,ns,A3,l3,c3,qw,qt,qx,rfl,G⟩:=hcut;obtain⟨EI,nl,Al,ll,cl,qi,qj,qm,qn,qk⟩:=I.o;have EC:=Hx (EX.o.tr (E4.o.tr G.o.2.2.2));have LC:=Hx (kQa (qn.K (E4.o.tr G.o.2.2.2)) (qk.K (E4.o.tr G.o.2.2.2)));clear EI qn qk XD XA BN qf IC UC I a0 a1 a2 a3 a4 a5 a6 u0 u1 u2 u3 u4 u5 u6;cases hlv:Sx.levN T j i with
   |none=>
    have qo:=Hx hlv;have E5:=EC;have G5:=Hx (kQa G.o.2.1 G.o.2.2.1);have L5:=LC;clear hlv G EC LC;have ve:iS none= -1:=rfl;rw[ve];have vk:decide ((0:Int)<= -1)=false:=rfl
    go_upto_region 11 with fail
    go_cut [67] (fun s wx=>s=.bool (eW T j i)/\Ext wc wx)
    case first=>
     have HB:=Hx (show eW T j i=true by unfold eW;rw[qo.o,yO HX.o];rfl);have q1:decide ((-1:Int)<0)=true:=rfl;refine dG qK qK ?_
     repeat (go_big_quiet_step (fail))
     refine wpQuiet_nil ?_;rintro _ ⟨x,rfl⟩;go_wp2;go_meet;exact⟨by rw[HB.o],x.ext⟩
    obtain⟨rfl,qe⟩:=hcut;have E2:=Hx (E5.o.tr qe);have G2:=Hx (kQa (G5.o.1.K qe) (G5.o.2.K qe));have L2:=Hx (kQa (L5.o.1.K qe) (L5.o.2.K qe));clear qe E5 G5 L5;cases hc:eW T j i with
    |false=>
     have qa:=Hx (show Sx.levN T j (i+1)=Sx.levN T j i by rw[HS.o,hc];rfl);have qg:=Hx (show lq T j (i+1)=lq T j i by unfold lq;rw[qa.o]);go_wp2
     go_roundg (L.m-(i+1))
     case measure=>omega
     exact⟨i+1,rfl,qO,by go_num,by rw[qa.o,qo.o];rfl,Hx ⟨E2.o,_,_,_,_,_,_,_,L2.o.1,by rw[qg.o];exact L2.o.2⟩⟩
    |true=>
     have qa:=Hx (show Sx.levN T j (i+1)=some i by rw[HS.o,hc];rfl);have qg:=Hx (show lq T j (i+1)=Sx.quo T j i by unfold lq;rw[qa.o]);obtain⟨⟨s0,s1,s2⟩,_⟩:=G2.o.1.t3;obtain⟨⟨p0,p1,p2⟩,f0,f1,f2⟩:=L2.o.1.t3;obtain⟨r1,r2⟩:=dH (w:=w) G2.o.2 L2.o.1 (yX _) E2.o;have b3:=((L2.o.1.sT 0 (.bool ns)).sT 1 (.s A3 l3 c3)).sT 2 (.s qw qt qx);have RF:=Hx (fun wx (hx:Ext _ wx)=>kQa (b3.K hx) (kQa (r1.K hx) (r2.tr hx)));clear r1 r2 hc b3;go_wp2
     go_region
     all_goals
      go_wp2
      go_roundg (L.m-(i+1))
      case measure=>omega
      case rel=>exact⟨i+1,rfl,qO,by go_num,by rw[qa.o];rfl,Hx (by
       first
       |(obtain⟨u1,u2,u3⟩:=RF.o _ ((eR _).drewN 1)
         exact⟨u3,_,_,_,_,_,_,_,u1,by rw[qg.o];exact u2⟩)
       |(obtain⟨u1,u2,u3⟩:=RF.o _ (eR _)
         exact⟨u3,_,_,_,_,_,_,_,u1,by rw[qg.o];exact u2⟩))⟩
   |some b=>
    have qo:=Hx hlv;have vn:b<i:=(Sx.levN_some T j i hlv).1;have vg:=Hx (show lq T j i=Sx.quo T j b by unfold lq;rw[hlv]);have SQ:=Hx (show SzQ (Sx.quo T j i) (2*P)/\SzQ (Sx.quo T j b) (2*P)from by
     have q3:b<T.rows.length:=qO;have h1:∀k,k<T.rows.length->0<Sx.at_ (T.row k).co j->SzQ (Sx.quo T j k) (2*P):=fun k hk hp=>by
      have:=(H.o.2.2.re k hk).div (H.o.2.2.co k hk _ (yJ (aO (show j<(T.row k).co.length by rw[H.o.2.1.cl k hk,q5.o];exact hj)))) (fun e=>by rw[e]at hp;exact absurd hp kZf);exact this.mono qO
     exact⟨h1 i qY HX.o,h1 b q3 (Sx.levN_some T j i hlv).2.1⟩)
    have vj:iS (some b)=(b:Int):=rfl;rw[vj];have vk:decide ((0:Int)<=(b:Int))=true:=yO qO;obtain⟨⟨s0,s1,s2⟩,_⟩:=G.o.2.1.t3;obtain⟨⟨p0,p1,p2⟩,_⟩:=LC.o.1.t3;obtain⟨g1,g2⟩:=G.o.2.2.1.lens SQ.o.1;have qU:=LC.o.2;rw[vg.o]at qU;obtain⟨g3,g4⟩:=qU.lens SQ.o.2;have va:=Hx qU;clear hlv qU
    go_wp2_with fail
    refine(fE ns nl A3 l3 c3 qw qt qx Al ll cl qi qj qm (Sx.quo T j i) (Sx.quo T j b) wc G.o.2.2.1 va.o qO qO qO qO).mono ?_;rintro e w5 ⟨rfl,x5⟩;generalize hord:bG (Sx.quo T j i) (Sx.quo T j b)=ord;have qp:=Hx hord;clear hord;have E5:=Hx (EC.o.tr x5);have G5:=Hx (kQa (G.o.2.1.K x5) (G.o.2.2.1.K x5));have L5:=Hx (kQa (LC.o.1.K x5) (LC.o.2.K x5));clear x5 G EC LC va s0 s1 s2 p0 p1 p2
    go_upto_region 11 with fail
    go_cut [67] (fun s wx=>s=.bool (eW T j i)/\Ext w5 wx)
    case first=>
     rcases cmp3 (Sx.quo T j i) (Sx.quo T j b)with⟨e,hlt⟩|⟨e,heq⟩|⟨e,hgt⟩
     ·obtain rfl:=qp.o.symm.trans e
      have HB:=Hx (show eW T j i=true by
       unfold eW;rw[qo.o,yO HX.o,kZg];exact yO (.inl hlt))
      have q1:decide ((-1:Int)<0)=true:=rfl;refine dG qK qK ?_
      repeat (go_big_quiet_step (fail))
      refine wpQuiet_nil ?_;rintro _ ⟨x,rfl⟩;go_wp2;go_meet;exact⟨by rw[HB.o],x.ext⟩
     ·obtain rfl:=qp.o.symm.trans e
      have HB:=Hx (show decide (((Sx.atN T.bas i:Nat):Int)<((Sx.atN T.bas b:Nat):Int))=eW T j i by
       unfold eW;rw[qo.o,yO HX.o,kZg,heq];simp[kZf])
      have q1:decide ((0:Int)<0)=false:=rfl;have vm:decide ((0:Int)=0)=true:=rfl;have z1:=XW.cell _ _ _ (yL q3 E5.o.size) (aA E5.o Q1.o);have zi:=XW.cell _ _ _ (yL qM E5.o.size) (aA E5.o (gT vc.o qA));have zb:=XW.cell _ _ _ (yL qM E5.o.size) (aA E5.o (gT vc.o (show b<L.m by omega)));refine dG qK qK ?_
      repeat (go_big_quiet_step (fail))
      refine wpQuiet_nil ?_;rintro _ ⟨x,rfl⟩;go_wp2;go_meet;refine⟨?_,x.ext⟩;rw[<-HB.o]
      first|rfl|simp
     obtain rfl:=qp.o.symm.trans e;have HB:=Hx (show eW T j i=false by
      unfold eW;rw[qo.o,yO HX.o,kZg];refine yP fun h=>?_;rcases h with h|⟨h,_⟩
      ·grind
      grind)
     have q1:decide ((1:Int)<0)=false:=rfl;have vm:decide ((1:Int)=0)=false:=rfl;refine dG qK qK ?_
     repeat (go_big_quiet_step (fail))
     refine wpQuiet_nil ?_;rintro _ ⟨x,rfl⟩;go_wp2;go_meet;exact⟨by rw[HB.o],x.ext⟩
    obtain⟨rfl,qe⟩:=hcut;have E2:=Hx (E5.o.tr qe);have G2:=Hx (kQa (G5.o.1.K qe) (G5.o.2.K qe));have L2:=Hx (kQa (L5.o.1.K qe) (L5.o.2.K qe));clear qe E5 G5 L5;cases hc:eW T j i with
    |false=>
     have qa:=Hx (show Sx.levN T j (i+1)=Sx.levN T j i by rw[HS.o,hc];rfl);have qg:=Hx (show lq T j (i+1)=lq T j i by unfold lq;rw[qa.o]);go_wp2
     go_roundg (L.m-(i+1))
     case measure=>omega
     exact⟨i+1,rfl,qO,by go_num,by rw[qa.o,qo.o];rfl,Hx ⟨E2.o,_,_,_,_,_,_,_,L2.o.1,by rw[qg.o];exact L2.o.2⟩⟩
    |true=>
     have qa:=Hx (show Sx.levN T j (i+1)=some i by rw[HS.o,hc];rfl);have qg:=Hx (show lq T j (i+1)=Sx.quo T j i by unfold lq;rw[qa.o]);obtain⟨⟨s0,s1,s2⟩,_⟩:=G2.o.1.t3;obtain⟨⟨p0,p1,p2⟩,f0,f1,f2⟩:=L2.o.1.t3;obtain⟨r1,r2⟩:=dH (w:=w) G2.o.2 L2.o.1 (yX _) E2.o;have b3:=((L2.o.1.sT 0 (.bool ns)).sT 1 (.s A3 l3 c3)).sT 2 (.s qw qt qx);have RF:=Hx (fun wx (hx:Ext _ wx)=>kQa (b3.K hx) (kQa (r1.K hx) (r2.tr hx)));clear r1 r2 hc b3;go_wp2
     go_region
     all_goals
      go_wp2
      go_roundg (L.m-(i+1))
      case measure=>omega
      case rel=>exact⟨i+1,rfl,qO,by go_num,by rw[qa.o];rfl,Hx (by
       first
       |(obtain⟨u1,u2,u3⟩:=RF.o _ ((eR _).drewN 1)
         exact⟨u3,_,_,_,_,_,_,_,u1,by rw[qg.o];exact u2⟩)
       |(obtain⟨u1,u2,u3⟩:=RF.o _ (eR _)
         exact⟨u3,_,_,_,_,_,_,_,u1,by rw[qg.o];exact u2⟩))⟩
  have hs:decide (aC (Sx.at_ (T.row i).co j)<=0)=true:=yO ((jzei _).2 hx);have q8:eW T j i=false:=(by unfold eW;rw[yP hx];rfl);have qa:=Hx (show Sx.levN T j (i+1)=Sx.levN T j i by rw[HS.o,q8];rfl);have qg:=Hx (show lq T j (i+1)=lq T j i by unfold lq;rw[qa.o]);have I2:=Hx (show Ext w w4/\∃nl Al ll cl qi qj qm,Blk w4 w.heap.size 33 #[.bool nl,.s Al ll cl,.s qi qj qm]/\aB w4 nl Al ll cl qi qj qm (lq T j (i+1))from by
   obtain⟨EI,nl,Al,ll,cl,qi,qj,qm,qn,qk⟩:=I.o;exact⟨EX.o.tr E4.o,nl,Al,ll,cl,qi,qj,qm,qn.K E4.o,by rw[qg.o];exact qk.K E4.o⟩)
  clear hx q8 I;generalize aC (Sx.at_ (T.row i).co j)=sg at*;go_wp2
  go_roundg (L.m-(i+1))
  case measure=>omega
  exact⟨i+1,rfl,qO,by go_num,by rw[qa.o],I2⟩
 obtain rfl:i=L.m:=qO;go_wp2;go_ret;exact⟨by rw[HE.o];rfl,I.o.1⟩
theorem jznl(T:Sx.Tb)(i j:Nat):(Sx.pivT T i j).fre.length=T.fre.length:=by
 show(T.fre.set j _).length=_;rw[yV]
theorem lC(T:Sx.Tb):∀n,(Sx.iterT n T).fre.length=T.fre.length
 |0=>rfl
 |n+1=>by
  have ih:=lC T n;show((Sx.stepT (Sx.iterT n T)).getD (Sx.iterT n T)).fre.length=_;cases h:Sx.stepT (Sx.iterT n T)with
  |none=>exact ih
  |some T'=>
   obtain⟨i,j,_,_,e⟩:=Sx.stepT_some h;show T'.fre.length=_;rw[e,jznl,ih]
theorem jznm(T:Sx.Tb){n i j:Nat}(h1:Sx.entT (Sx.iterT n T)=some j)(h2:Sx.levT (Sx.iterT n T) j=some i):Sx.iterT (n+1) T=Sx.pivT (Sx.iterT n T) i j:=by
 show(Sx.stepT (Sx.iterT n T)).getD (Sx.iterT n T)=_;unfold Sx.stepT;rw[h1];simp only[];rw[h2];rfl
theorem jznn(B P N:Nat)(L:aT)(T:Sx.Tb)w(h:aF w B L T)(he:Sx.entT (Sx.iterT N T)=none)(hs:∀n,n<N->∃j i,Sx.entT (Sx.iterT n T)=some j/\Sx.levT (Sx.iterT n T) j=some i)
  (qi:∀n,n<=N->OkT (Sx.iterT n T)/\SzT (Sx.iterT n T) P) (hP:P<=100000) (hm0:0<L.m) (hm:L.m<=1000000) (hK0:0<T.fre.length) (hK:T.fre.length<=1000000000000):
  Calls prog 30 #[.pointer (sA L.p)] w fun e w'=>e=.returned (.bool true)/\aF w' B L (Sx.iterT N T)/\FrS L.S w w':=by
 have H0:Hid (aF w B L (Sx.iterT 0 T)/\FrS L.S w w):=Hx (⟨h,FrS.refl _ _⟩);have HH:=Hx (kQa he (kQa hs qi));clear h he hs qi;go_enter func30,ntmps30;go_wp2;go_loopg [3,4] N (fun q _ _ wr=>∃n:Nat,N-n=q/\n<=N/\Hid (aF wr B L (Sx.iterT n T)/\FrS L.S w wr));exact⟨0,rfl,yZ _,H0⟩;obtain⟨n,rfl,hn,I⟩:=hrel;clear H0;have qe:=Hx (jzjy B L (Sx.iterT n T) wr I.o.1 (HH.o.2.2 n hn).1.gl (by rw[lC];exact hK0) (by rw[lC];exact hK));go_wp2_with fail;refine qe.o.mono ?_;rintro e w2 ⟨rfl,x2⟩;have I2:Hid (aF w2 B L (Sx.iterT n T)/\FrS L.S w w2):=Hx (⟨I.o.1.K x2,I.o.2.tr (eE (S:=L.S) x2) fun b hb=>.inl hb⟩);clear qe I x2;by_cases qt:n<N;{obtain⟨j,i,hj,hi⟩:=HH.o.2.1 n qt;rw[hj];have qf:j<T.fre.length:=(by have:=(Sx.entN_some _ _ hj).1;rw[(HH.o.2.2 n hn).1.gl,lC]at this;exact this);have qn:i<L.m:=(by have:=(Sx.levN_some _ _ _ hi).1;rw[I2.o.1.rl]at this;exact this);have qj:Sx.at_ ((Sx.iterT n T).row i).co j≠0:=fun e=>(by have:=(Sx.levN_some _ _ _ hi).2.1;rw[e]at this;exact absurd this kZf);have qh:=Hx (jznk B j P L (Sx.iterT n T) w2 I2.o.1 (HH.o.2.2 n hn).1 (HH.o.2.2 n hn).2 hP (by rw[lC];exact qf) hm0 hm (by rw[lC];exact hK));have qp:iS (some j)=(j:Int):=rfl;rw[qp];have qk:decide ((j:Int)<0)=false:=yP qO;go_wp2_with fail;refine qh.o.mono ?_;rintro e w3 ⟨rfl,x3⟩;rw[hi];have qa:iS (some i)=(i:Int):=rfl;rw[qa];have qo:decide ((i:Int)<0)=false:=yP qO;have I3:Hid (aF w3 B L (Sx.iterT n T)/\FrS L.S w w3):=Hx (⟨I2.o.1.K x3,I2.o.2.tr (eE (S:=L.S) x3) fun b hb=>.inl hb⟩);have BG:=Hx (eN w3 142 #[.pointer (some (aD L.p 3))]);have XB:=Hx ((eR w3).alloc (.cells #[.pointer (some (aD L.p 3))] 142));have qg:=Hx (jzkj B i j w3.heap.size P L (Sx.iterT n T) _ (I3.o.1.K XB.o) (HH.o.2.2 n hn).1 (HH.o.2.2 n hn).2 hP qn (by rw[lC];exact qf) qj hm (by rw[lC];exact hK) BG.o);have ST:=Hx (jznm T hj hi);clear qh I2 x3 hj hi qj;go_wp2_with fail;refine qg.o.mono ?_;rintro e w4 ⟨rfl,h4,k4⟩;have I4:Hid (aF w4 B L (Sx.iterT (n+1) T)/\FrS L.S w w4):=Hx (⟨by rw[ST.o];exact h4,(I3.o.2.tr (eE (S:=L.S) XB.o) fun b hb=>.inl hb).tr k4 fun b hb=>.inl hb⟩);clear h4 k4 qg BG XB I3;go_wp2;go_roundg (N-(n+1));exact⟨n+1,rfl,qO,I4⟩;omega};obtain rfl:n=N:=qO;rw[HH.o.1];have qm:iS none= -1:=rfl;rw[qm];have qk:decide ((-1:Int)<0)=true:=rfl;go_wp2;go_ret;exact⟨rfl,I2.o⟩
end Go.Proofs.YtfeeacaofjpkaaaGreatDoor
