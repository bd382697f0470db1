/- Part 21 of 24 of what the Flows claims share (the white space is struck, the texts are joined). -/
import Derived.Test.YthbmikapohlikaaGreatDoorZ20
set_option linter.unusedVariables false
set_option linter.unusedSimpArgs false
set_option maxRecDepth 100000
set_option maxHeartbeats 8000000
namespace Go.Proofs.YthbmikapohlikaaGreatDoor
open Go.RowKit
def DvPost(t:Tp)(down:List Bool)(s d:Nat)(w:World)(e:Ending)(w':World):Prop:=
 (∃(x:List Nat) (A:Option Addr) (k:Nat),e=.returned (.tuple #[.slice A x.length k,.bool true])/\x.length<=k/\RdF w.heap.size w' A (ints x)/\FW t down d s x d/\(∀p,FW t down d s p d->leL (costL t) x p)/\Ext w w')\/
 (e=.returned (.tuple #[.slice none 0 0,.bool false])/\(∀p,¬FW t down d s p d)/\Ext w w')
def lsV(V:List Bool):List Value:=V.map fun b=>.int .i64 (if b then 0 else-1)
structure DvS(F:Array Value)(w wr:World)(L:List Value):Prop where
 fin:Blk wr w.heap.size 142 F
 lst:Blk wr (w.heap.size+1) 3 L.toArray
 ext:Ext w wr
theorem DvS.keep{F:Array Value}{w wr w':World}{L:List Value}(h:DvS F w wr L)(hx:Ext wr w'):DvS F w w' L:=⟨h.fin.keep hx,h.lst.keep hx,h.ext.tr hx⟩
theorem DvS.grow(F:Array Value){w wr:World}{L:List Value}(h:DvS F w wr L)(k:Nat)(u:Value):wr.grownBy (wr.setCell ⟨w.heap.size+1,k,none⟩ u) (some (w.heap.size+1)):=jze _ _ _ _
theorem DvS.set{F:Array Value}{w wr:World}{L:List Value}(h:DvS F w wr L)(k:Nat)(u:Value):DvS F w (wr.setCell ⟨w.heap.size+1,k,none⟩ u) (L.set k u):=by
 have hg:=jze wr (w.heap.size+1) k u;refine⟨(hg.block _ h.fin.lt (fun e=>by injection e with e;omega)).trans h.fin,?_,Below.grown h.ext hg h.ext.size (fun q hq=>by injection hq with hq;omega)⟩;have:=h.lst.set_ k u;rw [yD]at this;exact this
theorem DvS.kf{F:Array Value}{w wr w':World}{L:List Value}{q g g':Nat}(h:DvS F w wr L)(k:KF wr w' q g g')(hq:w.heap.size+2<=q)(hg:w.heap.size+2<=g):DvS F w w' L:=
 ⟨k.blk h.fin (by omega) (by omega),k.blk h.lst (by omega) (by omega),k.ext h.ext (by omega) (by omega)⟩
theorem lsV_set(V:List Bool)(n:Nat):(lsV V).set n (.int .i64 0)=lsV (V.set n true):=by
 unfold lsV;rw [List.map_set];rfl
theorem KQu.start(t:Tp)(w:World)(B s:Nat)(hB:B<=w.heap.size):KQu t ((w.alloc (.cells #[.int .i64 (s:Int),.int .i64 0,.int .i64 0,.slice none 0 0] 210)).alloc (.cells #[.slice (some ⟨w.heap.size,0,none⟩) 1 1] 212)) B (w.heap.size+1) w.heap.size 1 1 [(s,[])]:=by
 have hb:=(Blk.new w 210 #[.int .i64 (s:Int),.int .i64 0,.int .i64 0,.slice none 0 0]).keep ((Ext.refl _).alloc (.cells #[.slice (some ⟨w.heap.size,0,none⟩) 1 1] 212));refine⟨Blk.new' (w.alloc _) _ _ (by simp),rfl,[[.int .i64 (s:Int),.int .i64 0,.int .i64 0,.slice none 0 0]],rfl,fun cs h=>by simp at h;rw [h];rfl,⟨rfl,.inr ⟨_,_,_,rfl,hB,hb,yX _,by decide,rfl,rfl⟩⟩,fun i z hz=>?_⟩;cases i with
 |zero=>
  injection hz with hz
  subst hz;exact⟨_,rfl,none,0,rfl,yX _,RdT.nil _ _ _,fun p hp=>by cases hp⟩
 |succ i=>cases hz
def iniL(N i:Nat):List Value:=(List.range N).map fun j=>.int .i64 (if j<i then-1 else 0)
theorem iniL_zero(N:Nat):madeCells #[.int .i64 0] N=(iniL N 0).toArray:=by
 apply Array.ext';apply uK;intro i;unfold iniL;by_cases hi:i<N
 ·simp [madeCells,hi,Nat.mod_one]
 ·rw [yI (by simp [madeCells];omega),yI (by simp;omega)]
theorem iniL_step(N i:Nat):(iniL N i).set i (.int .i64 (-1))=iniL N (i+1):=by
 unfold iniL;apply uK;intro j;rw [List.getElem?_set];by_cases e:i=j
 ·subst e
  by_cases hi:i<N
  ·rw [if_pos rfl,if_pos (by simpa using hi),yW,xJ hi];simp
  ·rw [if_pos rfl,if_neg (by simpa using hi),yW,yI (by simp;omega)];rfl
 ·rw [if_neg e,yW,yW]
  by_cases hj:j<N
  ·rw [xJ hj]
   simp only [Option.map_some];have h1:(j<i↔j<i+1):=(by omega);by_cases h2:j<i
   ·rw [if_pos h2,if_pos (h1.1 h2)]
   ·rw [if_neg h2,if_neg (fun h3=>h2 (h1.2 h3))]
  ·rw [yI (by simp;omega)];rfl
theorem iniL_all(N:Nat):iniL N N=lsV (List.replicate N false):=by
 unfold iniL lsV;apply uK;intro j;rw [yW,yW];by_cases hj:j<N
 ·rw [xJ hj,xB,if_pos hj];simp [hj]
 ·rw [yI (by simp;omega),yI (by simp;omega)];rfl
theorem leO_K(t:Tp):LeO (leK t):=by
 have h:leK t=fun x y=>leL (costL t) x.2 y.2:=by
  funext x y
  exact propext (leK_iff t x.2 y.2).symm
 rw [h];exact leO_cost t
theorem over_ok{t:Tp}(hv:validP t=true){n:Nat}(hn:(n:Int)<t.nodes):t.over=[]\/(n:Int)<t.over.length:=by
 unfold validP headOk at hv;simp at hv;rcases hv.1.2 with h|h
 ·exact .inl h
 ·right;omega
theorem down_ok{t:Tp}{down:List Bool}(hf:fitsP t down=true){a:Nat}(ha:a<2*t.links.length):down=[]\/a<down.length:=by
 unfold fitsP at hf;rcases of_decide_eq_true hf with h|h
 ·exact .inl (List.length_eq_zero_iff.1 h)
 ·right;omega
theorem four_{w:World}{g:Nat}{t:TypeId}{a b c d:Value}(h:Blk w g t #[a,b,c,d]):(w.cell? ⟨g,0,none⟩=some a/\w.cell? ⟨g,1,none⟩=some b/\w.cell? ⟨g,2,none⟩=some c/\w.cell? ⟨g,3,none⟩=some d)/\w.frozen? ⟨g,0,none⟩=false/\w.frozen? ⟨g,1,none⟩=false/\w.frozen? ⟨g,2,none⟩=false/\w.frozen? ⟨g,3,none⟩=false:=
 ⟨⟨(h.cell 0).trans rfl,(h.cell 1).trans rfl,(h.cell 2).trans rfl,(h.cell 3).trans rfl⟩,h.frozen 0,h.frozen 1,h.frozen 2,h.frozen 3⟩
theorem set4_{w0 w:World}{g:Nat}{t:TypeId}{cs:Array Value}(h:Blk w g t cs)(hg:w0.heap.size<=g)(hx:Ext w0 w)(v0 v1 v2 v3:Value):Ext w0 ((((w.setCell ⟨g,0,none⟩ v0).setCell ⟨g,1,none⟩ v1).setCell ⟨g,2,none⟩ v2).setCell ⟨g,3,none⟩ v3):=
 Ext.set_ (Ext.set_ (Ext.set_ (Ext.set_ hx hg v0) hg v1) hg v2) hg v3
structure DvI(t:Tp)(down:List Bool)(s d N:Nat)(F:Array Value)(w wx:World)(q:Nat)(V:List Bool)(fin:Nat->List Nat)(hs:List (Nat×List Nat))(g c n k:Nat)(todo:List Nat):Prop where
 ki:KI t down (costL t) s d V fin hs k todo
 hp:HeapN (leK t) hs n
 qu:KQu t wx (w.heap.size+2) q g n c hs
 st:DvS F w wx (lsV V)
 nn:n+todo.length+V.count false*(2*t.links.length+1)<=N*(2*t.links.length+1)+1
 hq:w.heap.size+2<=q
 hc:n<=c
theorem jzgw(t:Tp)(AO:Option Addr)(co:Nat)(AL:Option Addr)(cl:Nat)(AD:Option Addr)(cd:Nat)(down:List Bool)(gO N s d:Nat)(w:World)(ht:TopR w t AO co AL cl)(hv:validP t=true)(hN:t.nodes=(N:Int))(hll:t.links.length<=256)(vU:Rd w AD (bools down))(hdl:down.length<=cd)(hdc:down.length<=600)(hfit:fitsP t down=true)(hO:LL w gO N (leavP t))(hs:s<N)(hd:d<N)(hN64:N<=64):
  Calls Tryz.prog 83 #[.agg #[.int .i64 t.nodes,.slice AO t.over.length co,.slice AL t.links.length cl,.slice AD down.length cd,.int .i64 (d:Int),.int .i64 0,.slice (some ⟨gO,0,none⟩) N N],.int .i64 (s:Int),.slice none 0 0,.map none] w (DvPost t down s d w):=by
 have HT:=Hx (And.intro ht (And.intro hv (And.intro vU hO)));have HF:=Hx hfit;have qC:=Hx hN;rw [hN];clear ht hv vU hO hfit hN;have zs:=run_make_row' (P:=Tryz.prog) 44 3 (.int .i64 0) 8 Tryz.underlying44 Tryz.info3 rfl .i64 .i64 N (by omega) (by omega)
 go_enter Tryz.func83,Tryz.ntmps83
 go_wp2
 go_loopg [11,27] N (fun j _ it wr=>∃i:Nat,N-i=j/\i<=N/\it=.int .i64 (i:Int)/\Hid (DvS #[.int .i64 (N:Int),.slice AO t.over.length co,.slice AL t.links.length cl,.slice AD down.length cd,.int .i64 (d:Int),.int .i64 0,.slice (some ⟨gO,0,none⟩) N N] w wr (iniL N i)))
 case atStart=>exact⟨0,rfl,yZ _,rfl,Hx ⟨(Blk.new w _ _).keep ((Ext.refl _).alloc _),by rw [<-iniL_zero];exact Blk.new' (w.alloc _) _ _ (by simp),((Ext.refl w).alloc _).alloc _⟩⟩
 case round=>
  obtain⟨i,rfl,hi,rfl,S⟩:=hrel;by_cases zp:i<N
  ·have iN:(i:Int)<(N:Int):=by omega
   have S2:=Hx (show DvS _ w (wr.setCell ⟨w.heap.size+1,i,none⟩ (.int .i64 (-1))) (iniL N (i+1))from by rw [<-iniL_step];exact S.out.set i _);obtain⟨v0,c0⟩:∃v,wr.cell? ⟨w.heap.size+1,i,none⟩=some v:=by
    rw [S.out.lst.cell];exact⟨_,Array.getElem?_eq_getElem (by simp [iniL];exact zp)⟩
   have f0:=S.out.lst.frozen i;go_wp2
   go_roundg (N-(i+1))
   case measure=>omega
   case rel=>exact⟨i+1,rfl,by omega,by go_num,S2⟩
  ·obtain rfl:N=i:=by omega
   have zH:¬(N:Int)<(N:Int):=(by omega);have S1:=Hx (show DvS _ w wr (lsV (List.replicate N false))from by rw [<-iniL_all];exact S.out);clear S;go_wp2
   go_loopg [12,14,36] 0 (fun k dt at_ it wx=>it=.int .i64 0/\dt=.int .i64 0/\at_=undef/\wr=wx)
   case atStart=>exact⟨rfl,rfl,rfl,rfl⟩
   case round=>
    obtain⟨rfl,rfl,rfl,rfl⟩:=hrel;have zd:w.heap.size+2<=wr.heap.size:=(by have:=S1.out.lst.lt;omega);have XA:=((Ext.refl wr).alloc (.cells #[.int .i64 (s:Int),.int .i64 0,.int .i64 0,.slice none 0 0] 210)).alloc (.cells #[.slice (some ⟨wr.heap.size,0,none⟩) 1 1] 212);have S2:=Hx (S1.out.keep XA);have Q2:=Hx (KQu.start t wr (w.heap.size+2) s zd);clear XA;have I0:=Hx (show DvI t down s d N _ w _ (wr.heap.size+1) (List.replicate N false) (fun _=>[]) [(s,[])] wr.heap.size 1 1 0 []from by
     have qf:t.nodes.toNat=N:=(by rw [qC.out];simp);refine⟨?_,fun k a b h0 hk=>by omega,Q2.out,S2.out,?_,by omega,yX _⟩
     ·have:=KI.start (t:=t) (down:=down) (ps:=costL t) (s:=s) (d:=d) (fin:=fun _=>[]) (by rw [qf];exact hs) (by rw [qf];exact hd) 0
      rw [qf]at this;exact this
     ·simp;omega)
    clear S2 Q2 S1 zs;go_wp2;generalize wr.heap.size+1=q at*
    go_loopg [8,9,16,17,19,20] (N*(2*t.links.length+1)+1) (fun m _ _ _ _ _ _ wx=>∃(V:List Bool) (fin:Nat->List Nat) (hs:List (Nat×List Nat)) (g c n:Nat),n+V.count false*(2*t.links.length+1)<=m/\Hid (DvI t down s d N #[.int .i64 (N:Int),.slice AO t.over.length co,.slice AL t.links.length cl,.slice AD down.length cd,.int .i64 (d:Int),.int .i64 0,.slice (some ⟨gO,0,none⟩) N N] w wx q V fin hs g c n 0 []))
    case atStart=>exact⟨_,_,_,_,_,_,by have:=I0.out.nn;simpa using this,I0⟩
    case round=>
     obtain⟨V,fin,qD,g,c,n,vz,I⟩:=hrel;have qf:t.nodes.toNat=N:=(by rw [qC.out];simp);have c0:=I.out.qu.box.one.1;cases n with
     |zero=>
      have HE:=Hx (show qD=[]from List.length_eq_zero_iff.1 I.out.qu.row.len)
      go_wp2_with fail
      refine(jzh5 _ 0 c _).mono ?_;rintro e w1 ⟨rfl,rfl⟩;have zG:¬((0:Int)>0):=(by decide);have zJ:¬(((0:Nat):Int)>0):=(by decide);have zK:¬((0:Int)<0):=(by decide);have qV:=Hx (show DvPost t down s d w (.returned (.tuple #[.slice none 0 0,.bool false])) wr from .inr ⟨rfl,fun p=>by
       have:=I.out.ki;rw [HE.out]at this;exact this.none_ HT.out.2.1 (jzcf t) (by rw [qf];exact hs) p,I.out.st.ext⟩)
      clear I;go_wp2;exact bodyPost_ret (v:=.tuple #[.slice none 0 0,.bool false]) (by simp [results,Tryz.results83,go_sem]) rfl qV.out
     |succ n=>
      go_wp2_with fail
      refine(jzh5 _ (n+1) c _).mono ?_;rintro e w1 ⟨rfl,rfl⟩;have zB:((n+1:Nat):Int)>0:=(by omega);have v9:((n:Int)+1)>0:=by omega
      go_wp2_with fail
      have O:=leO_K t;have vm:=Hx (show n+1<=1000000 from by have:=I.out.nn;have h8:N*(2*t.links.length+1)<=64*513:=Nat.mul_le_mul hN64 (by omega);omega);have q8:=Hx (show∀z∈qD,z.2.length<=1000000 from fun z hz=>by
       have h1:=I.out.ki.size z.1 z.2 hz;have h2:=List.count_le_length (a:=true) (l:=V);rw [I.out.ki.len,qf]at h2;omega)
      refine(hPop_ok t O (w.heap.size+2) q g n c qD _ I.out.qu I.out.hp q8.out vm.out I.out.hc).mono ?_;rintro e w2 ⟨z,qm,vi,vL,vn,A,k,rfl,hk,hA,vj,vy⟩;have P2:=Hx (And.intro vi (And.intro vL (And.intro vn (And.intro hk (And.intro hA (And.intro vj vy))))));clear vi vL vn hk hA vj vy O c0;obtain⟨zn,zx⟩:=z;have zq:∀W:World,(Instr.typeAssert (.iface 210 (.agg #[.int .i64 (zn:Int),.int .i64 (kcost t zx:Nat),.int .i64 0,.slice A zx.length k])) 20 210 true).run Tryz.prog W=.ok (.tuple #[.agg #[.int .i64 (zn:Int),.int .i64 (kcost t zx:Nat),.int .i64 0,.slice A zx.length k],.bool true]) W:=fun W=>(by rfl);unfold kAgg;simp only;generalize hkc:kcost t zx=kc at*;have qa:(zn,zx)∈qD:=P2.out.1.mem_iff.2 List.mem_cons_self;have qA:zn<N:=by
       rw [<-qf];rcases I.out.ki.lab _ _ qa with⟨_,h1⟩|⟨y,a,u,_,_,h2,_,h3⟩
       ·rw [h1,qf];exact hs
       ·rw [h3];exact(jzag HT.out.2.1 h2).2.2.1
      obtain⟨b,hb⟩:∃b,V[zn]?=some b:=⟨_,yG (by rw [I.out.ki.len,qf];exact qA)⟩;have S2:=Hx (I.out.st.kf P2.out.2.2.2.2.2.2 I.out.hq I.out.qu.row.lo);have X3:=(Ext.refl w2).alloc (.cells #[.int .i64 (zn:Int),.int .i64 (kc:Nat),.int .i64 0,.slice A zx.length k] 210);have qE:=Blk.new w2 210 #[.int .i64 (zn:Int),.int .i64 (kc:Nat),.int .i64 0,.slice A zx.length k];have i0:(w2.alloc (.cells #[.int .i64 (zn:Int),.int .i64 (kc:Nat),.int .i64 0,.slice A zx.length k] 210)).drew.cell? ⟨w.heap.size+1,zn,none⟩=some (.int .i64 (if b then 0 else-1)):=by
       have h1:=(S2.out.keep X3).lst.cell zn;refine Eq.trans h1 ?_;unfold lsV;simp [hb]
      have l0:(w2.alloc (.cells #[.int .i64 (zn:Int),.int .i64 (kc:Nat),.int .i64 0,.slice A zx.length k] 210)).drew.cell? ⟨w2.heap.size,0,none⟩=some (.int .i64 (zn:Int)):=(qE.cell 0).trans rfl;have l2:(w2.alloc (.cells #[.int .i64 (zn:Int),.int .i64 (kc:Nat),.int .i64 0,.slice A zx.length k] 210)).drew.cell? ⟨w2.heap.size,2,none⟩=some (.int .i64 0):=(qE.cell 2).trans rfl;have iN:(zn:Int)<(N:Int):=(by omega);cases b with
      |true=>
       simp only [if_true]at i0;have I3:=Hx (show DvI t down s d N _ w (w2.alloc (.cells #[.int .i64 (zn:Int),.int .i64 (kc:Nat),.int .i64 0,.slice A zx.length k] 210)).drew q V fin qm g c n 0 []from
        ⟨I.out.ki.skip (fun z hz=>by simpa using P2.out.1.mem_iff.1 hz) (fun z hz=>P2.out.1.mem_iff.2 (xO _ hz)) hb 0,P2.out.2.2.1,(P2.out.2.2.2.2.2.1.keep X3).keep ((Ext.refl _).drewN 1),(S2.out.keep X3).keep ((Ext.refl _).drewN 1),by have:=I.out.nn;simp at this⊢;omega,I.out.hq,by have:=I.out.hc;omega⟩)
       clear I P2 S2 X3 qE
       go_wp2_with fail
       go_region
       go_wp2
       go_roundg (gk-1)
       case measure=>omega
       case rel=>exact⟨V,fin,qm,g,c,n,by omega,I3⟩
      |false=>
       simp only [Bool.false_eq_true,if_false]at i0;have f0:(w2.alloc (.cells #[.int .i64 (zn:Int),.int .i64 (kc:Nat),.int .i64 0,.slice A zx.length k] 210)).frozen? ⟨w.heap.size+1,zn,none⟩=false:=(S2.out.keep X3).lst.frozen zn;have zf:decide ((-1:Int)≥0)=false:=(by decide);have q1:¬((0:Int)<= -1):=by decide
       go_wp2_with fail
       go_region
       go_upto_region 20 with fail
       have vY:w.heap.size+1<w2.heap.size:=S2.out.lst.lt;have qQ:=jze (w2.alloc (.cells #[.int .i64 (zn:Int),.int .i64 (kc:Nat),.int .i64 0,.slice A zx.length k] 210)) (w.heap.size+1) zn (.int .i64 0);have XD:=(Ext.refl ((w2.alloc (.cells #[.int .i64 (zn:Int),.int .i64 (kc:Nat),.int .i64 0,.slice A zx.length k] 210)).setCell ⟨w.heap.size+1,zn,none⟩ (.int .i64 0))).drewN 1;have J3:=Hx (show DvS _ w (((w2.alloc (.cells #[.int .i64 (zn:Int),.int .i64 (kc:Nat),.int .i64 0,.slice A zx.length k] 210)).setCell ⟨w.heap.size+1,zn,none⟩ (.int .i64 0))).drew (lsV (V.set zn true))/\KQu t (((w2.alloc (.cells #[.int .i64 (zn:Int),.int .i64 (kc:Nat),.int .i64 0,.slice A zx.length k] 210)).setCell ⟨w.heap.size+1,zn,none⟩ (.int .i64 0))).drew (w.heap.size+2) q g n c qm/\RdF (w.heap.size+2) (((w2.alloc (.cells #[.int .i64 (zn:Int),.int .i64 (kc:Nat),.int .i64 0,.slice A zx.length k] 210)).setCell ⟨w.heap.size+1,zn,none⟩ (.int .i64 0))).drew A (ints zx)/\Blk (((w2.alloc (.cells #[.int .i64 (zn:Int),.int .i64 (kc:Nat),.int .i64 0,.slice A zx.length k] 210)).setCell ⟨w.heap.size+1,zn,none⟩ (.int .i64 0))).drew w2.heap.size 210 #[.int .i64 (zn:Int),.int .i64 (kc:Nat),.int .i64 0,.slice A zx.length k]from
        ⟨by rw [<-lsV_set];exact((S2.out.keep X3).set zn _).keep XD,((P2.out.2.2.2.2.2.1.keep X3).below qQ (S2.out.keep X3).lst (by omega)).keep XD,((P2.out.2.2.2.2.1.keep X3).below qQ (by omega)).keep XD,(show Blk _ _ _ _ from(qQ.block _ qE.lt (fun e=>by injection e with e;omega)).trans qE).keep XD⟩)
       clear qQ XD i0 l0 l2 f0 zq qE X3 zf q1;generalize ((w2.alloc (.cells #[.int .i64 (zn:Int),.int .i64 (kc:Nat),.int .i64 0,.slice A zx.length k] 210)).setCell ⟨w.heap.size+1,zn,none⟩ (.int .i64 0)).drew=W3 at*;have vO:=Hx hkc;have F4:W3.cell? ⟨w.heap.size,4,none⟩=some (.int .i64 (d:Int)):=(J3.out.1.fin.cell 4).trans rfl;have L0:W3.cell? ⟨w2.heap.size,0,none⟩=some (.int .i64 (zn:Int)):=(J3.out.2.2.2.cell 0).trans rfl;have L3:W3.cell? ⟨w2.heap.size,3,none⟩=some (.slice A zx.length k):=(J3.out.2.2.2.cell 3).trans rfl;have HM:=Hx (show∀m y,(m,y)∈qD->leL (costL t) zx y from fun m y h=>(leK_iff t zx y).2 (P2.out.2.1 (m,y) h));clear hkc;by_cases q7:zn=d
       ·obtain rfl:d=zn:=q7.symm
        have q9:=Hx (I.out.ki.found HT.out.2.1 (jzcf t) (by rw [qf];exact hs) qa HM.out);have HZ:=Hx (show zx.length<=1000000 from q8.out _ qa);clear hb qa
        go_wp2_with fail
        refine(concat_ok [(none,[],0),(A,zx,k)] 2 _ _ rfl (Blk.new W3 44 #[.slice none 0 0,.slice A zx.length k]) (fun r hr=>by
         rcases xZ.1 hr with rfl|hr
         ·exact RdT.nil _ _ _
         ·obtain rfl:r=(A,zx,k):=by simpa using hr
          exact(J3.out.2.2.1.keep ((Ext.refl _).alloc _)).1) (by omega) (by have:=HZ.out;simp [catS];omega)).mono ?_
        rintro e w4 ⟨v,rfl,qj,x4⟩;have qH:catL [(none,[],0),(A,zx,k)]=zx:=(by simp [catL]);rw [qH]at qj;obtain⟨A4,c4,rfl,vo,r4⟩:=jzai qj rfl;have qV:=Hx (show DvPost t down s d w (.returned (.tuple #[.slice A4 zx.length c4,.bool true])) w4 from .inl ⟨zx,A4,c4,rfl,vo,⟨r4,fun p hp=>by
         subst hp;have h1:=(qj.lt p.block rfl).1;have h2:=(J3.out.1.ext.alloc (.cells #[.slice none 0 0,.slice A zx.length k] 44)).size;omega⟩,q9.out.1,q9.out.2,(J3.out.1.ext.alloc _).tr x4⟩)
        clear qj x4 r4 qH vo I J3 q9;go_wp2;exact bodyPost_ret (v:=.tuple #[.slice A4 zx.length c4,.bool true]) (by simp [results,Tryz.results83,go_sem]) rfl qV.out
       ·have zF:¬((zn:Int)=(d:Int)):=by omega
        have v5:=Hx (show zn=s->zx=[]from fun e=>by
         subst e;exact(HM.out _ _ (I.out.ki.src hb)).anti (leL.nil (jzcf t) zx))
        have vh:V.count false=(V.set zn true).count false+1:=by
         have hl:=(yH.1 hb).1;have he:=(yH.1 hb).2;have zv:0<V.count false:=List.count_pos_iff.2 (yJ hb);rw [List.count_set hl,he];simp;omega
        have D3:=Hx (show DvI t down s d N _ w W3 q (V.set zn true) (fun u=>if u=zn then zx else fin u) qm g c n zn (leavP t zn)from
         ⟨I.out.ki.reach HT.out.2.1 (jzcf t) (by rw [qf];exact hs) qa (fun z hz=>by simpa using P2.out.1.mem_iff.1 hz) (fun z hz=>P2.out.1.mem_iff.2 (xO _ hz)) HM.out hb q7,P2.out.2.2.1,J3.out.2.1,J3.out.1,by
          have h1:=I.out.nn;have h2:=jzb8 t (2*t.links.length) zn;change (leavP t zn).length<=_ at h2;rw [vh,xP]at h1;simp at h1;omega,I.out.hq,by have:=I.out.hc;omega⟩)
        have zj:n+(V.set zn true).count false*(2*t.links.length+1)+2*t.links.length+2<=gk:=by
         rw [vh,xP]at vz;omega
        have qS:=Hx (And.intro J3.out.2.2.1 J3.out.2.2.2);have vG:=Hx (show g≠w2.heap.size from fun e=>by
         obtain⟨cb,qR⟩:=P2.out.2.2.2.2.2.1.row.blk;have:=qR.lt;omega)
        have zo:=Hx (show zx=[]->zn=s from fun e=>by
         rcases I.out.ki.lab _ _ qa with⟨_,h1⟩|⟨y,a,u,h1,_⟩
         ·exact h1
         ·rw [e]at h1;simp at h1)
        have za:zx.length<=64:=by
         have h1:=I.out.ki.size _ _ qa;have h2:=List.count_le_length (a:=true) (l:=V);rw [I.out.ki.len,qf]at h2;omega
        have vZ:=Hx (show(zn,zx)∈qD/\kc<=65535*64 from⟨qa,by
         have:=kcost_le HT.out.2.1 zx;rw [vO.out]at this;exact yY this (Nat.mul_le_mul_left _ za)⟩)
        have vW:=Hx (show(V.set zn true)[zn]?=some true from yM (yH.1 hb).1);clear I J3 HM P2 S2 hb vh vz qa q8 q7 vm;generalize V.set zn true=V2 at*;have zm:=Hx (show(fun u=>if u=zn then zx else fin u) zn=zx from if_pos rfl);generalize (fun u=>if u=zn then zx else fin u)=fin2 at*;generalize w2.heap.size=g2 at*;clear vY
        go_upto_region 22 with fail
        go_cut [119] (fun sl wx=>sl=.bool (decide (0<zx.length)&&overP t (zn:Int))/\Hid (DvI t down s d N #[.int .i64 (N:Int),.slice AO t.over.length co,.slice AL t.links.length cl,.slice AD down.length cd,.int .i64 (d:Int),.int .i64 0,.slice (some ⟨gO,0,none⟩) N N] w wx q V2 fin2 qm g c n zn (leavP t zn))/\Hid (RdF (w.heap.size+2) wx A (ints zx)/\Blk wx g2 210 #[.int .i64 (zn:Int),.int .i64 (kc:Nat),.int .i64 0,.slice A zx.length k]))
        case first=>
         by_cases hz:zx.length=0
         ·have HZ:=Hx hz
          have qB:¬((zx.length:Int)>0):=(by omega);have qJ:¬((0:Int)<(zx.length:Int)):=(by omega);clear hz;go_wp2;go_meet;exact⟨by rw [HZ.out];rfl,D3,qS⟩
         ·have qB:((zx.length:Int)>0):=by omega
          have HZ:=Hx (show 0<zx.length by omega);have F0:W3.cell? ⟨w.heap.size,0,none⟩=some (.int .i64 (N:Int)):=(D3.out.st.fin.cell 0).trans rfl;have F1:W3.cell? ⟨w.heap.size,1,none⟩=some (.slice AO t.over.length co):=(D3.out.st.fin.cell 1).trans rfl;have F2:W3.cell? ⟨w.heap.size,2,none⟩=some (.slice AL t.links.length cl):=(D3.out.st.fin.cell 2).trans rfl;have zw:=Hx (show Calls Tryz.prog 112 #[.agg #[.int .i64 (N:Int),.slice AO t.over.length co,.slice AL t.links.length cl],.int .i64 (zn:Int)] W3 fun e w'=>e=.returned (.bool (overP t (zn:Int)))/\Ext W3 w' from by
           have h1:=jzek t AO co AL cl (zn:Int) W3 (HT.out.1.keep D3.out.st.ext) (by omega) (over_ok HT.out.2.1 (by rw [qC.out];omega));rw [qC.out]at h1;exact h1)
          go_wp2_with fail
          refine zw.out.mono ?_;rintro e w4 ⟨rfl,x4⟩;have X4:=Hx x4;clear x4;go_wp2;go_meet;exact⟨by rw [yO HZ.out];rfl,Hx ⟨D3.out.ki,D3.out.hp,D3.out.qu.keep X4.out,D3.out.st.keep X4.out,D3.out.nn,D3.out.hq,D3.out.hc⟩,Hx ⟨qS.out.1.keep X4.out,qS.out.2.keep X4.out⟩⟩
        case rest=>
         obtain⟨rfl,D4,B4⟩:=hcut;clear D3 qS F4 L0 L3;obtain⟨bo,qW⟩:∃bo,(decide (0<zx.length)&&overP t (zn:Int))=bo:=⟨_,rfl⟩;have vt:=Hx qW;rw [qW];clear qW;cases bo with
         |true=>
          have I5:=Hx (show DvI t down s d N _ w wc q V2 fin2 qm g c n 0 []from by
           have h1:=vt.out;rw [vM,decide_eq_true_eq]at h1;have h2:=D4.out;exact⟨h2.ki.dead (fun e=>by have h3:=v5.out e;rw [h3]at h1;simp at h1) h1.2 0,h2.hp,h2.qu,h2.st,by have:=h2.nn;simp;omega,h2.hq,h2.hc⟩)
          clear D4 B4;go_wp2
          go_roundg (gk-1)
          case measure=>omega
          case rel=>exact⟨V2,fin2,qm,g,c,n,by omega,I5⟩
         |false=>
          have ze:=Hx (show zn=s\/overP t (zn:Int)=false from by
           by_cases h0:zx=[]
           ·exact .inl (zo.out h0)
           ·right
            have h1:=vt.out;have h2:0<zx.length:=List.length_pos_iff.2 h0;rw [yO h2]at h1;exact h1)
          have F6:wc.cell? ⟨w.heap.size,6,none⟩=some (.slice (some ⟨gO,0,none⟩) N N):=(D4.out.st.fin.cell 6).trans rfl;have L0:wc.cell? ⟨g2,0,none⟩=some (.int .i64 (zn:Int)):=(B4.out.2.cell 0).trans rfl;obtain⟨V0,v1,v2⟩:=HT.out.2.2.2;have vd:=((v1.keep D4.out.st.ext).cell zn).trans (jzav _ V0 zn qA);obtain⟨AR,cr,v3,vu,vq⟩:=v2 zn qA;rw [v3]at vd;have zh:=Hx vq;have qM:=jzb8 t (2*t.links.length) zn;change (leavP t zn).length<=_ at qM;have q3:=vu;obtain⟨M,hM⟩:∃M,(leavP t zn).length=M:=⟨_,rfl⟩;have qT:=Hx hM;rw [hM]at vd qM vu;clear v1 v2 v3 vq q3 hM;go_wp2;have I5:=Hx (And.intro D4.out (And.intro B4.out vG.out));have zt:q≠g2:=B4.out.2.ne_ D4.out.qu.box (by decide) |> fun h e=>h e.symm;clear D4 B4 vG F6 L0 vd
          go_loopg [19,20,127] M (fun j _ _ it wy=>∃(i:Nat) (hs:List (Nat×List Nat)) (gi ci ni:Nat),M-i=j/\i<=M/\it=.int .i64 (i:Int)/\Hid (DvI t down s d N #[.int .i64 (N:Int),.slice AO t.over.length co,.slice AL t.links.length cl,.slice AD down.length cd,.int .i64 (d:Int),.int .i64 0,.slice (some ⟨gO,0,none⟩) N N] w wy q V2 fin2 hs gi ci ni zn ((leavP t zn).drop i)/\(RdF (w.heap.size+2) wy A (ints zx)/\Blk wy g2 210 #[.int .i64 (zn:Int),.int .i64 (kc:Nat),.int .i64 0,.slice A zx.length k])/\gi≠g2/\ni+(M-i)<=n+M))
          case atStart=>exact⟨0,qm,g,c,n,rfl,yZ _,rfl,Hx ⟨I5.out.1,I5.out.2.1,I5.out.2.2,by omega⟩⟩
          case round=>
           obtain⟨i,qn,gi,ci,ni,rfl,zz,rfl,I6⟩:=hrel;clear I5;by_cases vc:i<M
           ·obtain⟨a,ha⟩:∃a,(leavP t zn)[i]?=some a:=⟨_,yG (by rw [qT.out];exact vc)⟩
            have qo:(leavP t zn).drop i=a::(leavP t zn).drop (i+1):=by
             obtain⟨h1,h2⟩:=yH.1 ha;rw [<-h2];exact List.drop_eq_getElem_cons h1
            have zE:=Hx (jzag HT.out.2.1 (yJ ha));have vR:=Hx (yJ ha);have vH:a<2*t.links.length:=vX.1 (List.mem_filter.1 vR.out).1;have qL:a/2<t.links.length:=(by omega);have I7:=Hx (show DvI t down s d N _ w _ q V2 fin2 qn gi ci ni zn (a::(leavP t zn).drop (i+1))from by rw [<-qo];exact I6.out.1);obtain⟨bR,oR,eR,v6,vg⟩:=zh.out.rd.at_ (i:=i) (by rw [jzx,qT.out];exact vc);have cR:wr.cell? ⟨bR,oR+i,none⟩=some (.int .i64 (a:Int)):=by
             rw [I7.out.st.ext.cell (p:=⟨bR,oR+i,none⟩) v6];refine(vg i (by rw [jzx,qT.out];exact vc)).trans ?_;simp [ints,ha]
            have iM:(i:Int)<(M:Int):=(by omega);have F3:wr.cell? ⟨w.heap.size,3,none⟩=some (.slice AD down.length cd):=(I7.out.st.fin.cell 3).trans rfl;have L3:wr.cell? ⟨g2,3,none⟩=some (.slice A zx.length k):=(I6.out.2.1.2.cell 3).trans rfl;have q0:=Hx (jzc3 AD cd down a wr (HT.out.2.2.1.keep I7.out.st.ext) hdl (by omega) (down_ok HF.out vH) (by omega));subst eR;have zu:=Hx vg;clear vg qo ha;obtain⟨bd,q2⟩:∃bd,downP down a=bd:=⟨_,rfl⟩;have vI:=Hx q2;rw [q2]at q0;clear q2
            go_upto_region 26 with fail
            go_cut [145] (fun sl wy=>sl=.bool bd/\wr=wy)
            case first=>
             go_wp2_with fail
             refine q0.out.mono ?_;rintro e w5 ⟨rfl,rfl⟩;cases bd with
             |true=>
              go_wp2;go_meet;exact⟨rfl,rfl⟩
             |false=>
              by_cases hz:zx.length=0
              ·have HZ:=Hx hz
               have qB:decide ((zx.length:Int)=0)=true:=(by rw [decide_eq_true_eq];omega);have qJ:((zx.length:Int)==0)=true:=(by rw [beq_iff_eq];omega);have zi:(zx.length:Int)=0:=(by omega);have zM:(Instr.lookup 207 (.map none) (.int .i64 (a:Int)) false).run Tryz.prog wr=.ok (.bool false) wr:=(by kernel_rfl);clear hz;go_wp2;go_meet;exact⟨rfl,rfl⟩
              ·have qB:decide ((zx.length:Int)=0)=false:=by rw [decide_eq_false_iff_not];omega
               have qJ:((zx.length:Int)==0)=false:=(by rw [yK];omega);have zi:¬(zx.length:Int)=0:=(by omega);go_wp2;go_meet;exact⟨rfl,rfl⟩
            case rest=>
             obtain⟨rfl,rfl⟩:=hcut;clear q0;cases bd with
             |true=>
              have I8:=Hx (show DvI t down s d N _ w _ q V2 fin2 qn gi ci ni zn ((leavP t zn).drop (i+1))from
               ⟨I7.out.ki.off vI.out,I7.out.hp,I7.out.qu,I7.out.st,by have:=I7.out.nn;simp at this⊢;omega,I7.out.hq,I7.out.hc⟩)
              have J8:=Hx (And.intro I6.out.2.1 (And.intro I6.out.2.2.1 I6.out.2.2.2));clear I6 I7;go_wp2
              go_roundg (M-(i+1))
              case measure=>omega
              case rel=>exact⟨i+1,qn,gi,ci,ni,rfl,by omega,by go_num,Hx ⟨I8.out,J8.out.1,J8.out.2.1,by have:=J8.out.2.2;omega⟩⟩
             |false=>
              clear cR F3 L3 zu;have lw:w.heap.size<wr.heap.size:=I7.out.st.fin.lt;have lg:g2<wr.heap.size:=I6.out.2.1.2.lt;have qh:=Hx (show∀wx,Ext wr wx->(wx.cell? ⟨w.heap.size,0,none⟩=some (.int .i64 (N:Int))/\wx.cell? ⟨w.heap.size,1,none⟩=some (.slice AO t.over.length co)/\wx.cell? ⟨w.heap.size,2,none⟩=some (.slice AL t.links.length cl)/\wx.cell? ⟨g2,1,none⟩=some (.int .i64 (kc:Nat))/\wx.cell? ⟨g2,2,none⟩=some (.int .i64 0))from fun wx hx=>
               have hb:=I6.out.2.1.2.keep hx;have hf:=I7.out.st.fin.keep hx
               ⟨(hf.cell 0).trans rfl,(hf.cell 1).trans rfl,(hf.cell 2).trans rfl,(hb.cell 1).trans rfl,(hb.cell 2).trans rfl⟩)
              obtain⟨hh,qi,zL⟩:=jzj2 HT.out.2.1 vH;have qz:=Hx (show∀wx,Ext wr wx->Calls Tryz.prog 113 #[.agg #[.int .i64 (N:Int),.slice AO t.over.length co,.slice AL t.links.length cl],.int .i64 a] wx fun e w'=>e=.returned (.int .i64 (hh:Int))/\Ext wx w' from fun wx hx=>by
               have h1:=jzbq t AO co AL cl a wx ((HT.out.1.keep I7.out.st.ext).keep hx) qL;rw [qC.out,qi]at h1;exact h1)
              obtain⟨ca,qP⟩:∃ca,costP t a=ca:=⟨_,rfl⟩;have qx:=Hx (show∀wx,Ext wr wx->Calls Tryz.prog 136 #[.agg #[.int .i64 (N:Int),.slice AO t.over.length co,.slice AL t.links.length cl],.int .i64 a] wx fun e w'=>e=.returned (.int .i64 (ca:Int))/\Ext wx w' from fun wx hx=>by
               have h1:=gCost_any t AO co AL cl a wx ((HT.out.1.keep I7.out.st.ext).keep hx) HT.out.2.1 qL;rw [qC.out,qP]at h1;exact h1)
              have zb:=Hx qi;have zc:=Hx qP;have qR:ca<=65535:=(by rw [<-qP];exact jzk8 HT.out.2.1 a);have zA:=vZ.out.2;have zk:IntKind.i64.wrap ((kc:Int)+(ca:Int))=(kc:Int)+(ca:Int):=IntWalk.i64_in _ (by omega);have XD:=Hx (show Ext wr wr.drew from(Ext.refl wr).drewN 1);have XA:=Hx (show Ext wr (wr.alloc (.cells #[.int .i64 0,.int .i64 0,.int .i64 0,.slice none 0 0] 210)).drew from((Ext.refl wr).alloc _).drewN 1);have BN:=Hx (show Blk (wr.alloc (.cells #[.int .i64 0,.int .i64 0,.int .i64 0,.slice none 0 0] 210)).drew wr.heap.size 210 #[.int .i64 0,.int .i64 0,.int .i64 0,.slice none 0 0]from Blk.new wr _ _);obtain⟨i0,i1,i2,i3,i4⟩:=qh.out _ XD.out;obtain⟨y0,y1,y2,y3,y4⟩:=qh.out _ XA.out;clear qi qP
              go_upto_region 27 with fail
              go_cut [20] (fun sl wx=>∃g3:Nat,sl=.pointer (some ⟨g3,0,none⟩)/\Hid (wr.heap.size<=g3/\Blk wx g3 210 #[.int .i64 (hh:Int),.int .i64 ((kc:Int)+(ca:Int)),.int .i64 0,.slice none 0 0]/\Ext wr wx))
              case first=>
               go_region_held3 (fun w'=>w'.cell? ⟨w.heap.size,0,none⟩=some (.int .i64 (N:Int))/\w'.cell? ⟨w.heap.size,1,none⟩=some (.slice AO t.over.length co)/\w'.cell? ⟨w.heap.size,2,none⟩=some (.slice AL t.links.length cl)/\w'.cell? ⟨g2,1,none⟩=some (.int .i64 (kc:Nat))/\w'.cell? ⟨g2,2,none⟩=some (.int .i64 0))
                (first|with_reducible exact⟨i0,i1,i2,i3,i4⟩|with_reducible exact⟨y0,y1,y2,y3,y4⟩|with_reducible exact⟨jzc i0 _,jzc i1 _,jzc i2 _,jzc i3 _,jzc i4 _⟩|exact⟨jzb (jzb (jzb (jzb i0 fT) fT) fT) fT,jzb (jzb (jzb (jzb i1 fT) fT) fT) fT,jzb (jzb (jzb (jzb i2 fT) fT) fT) fT,jzb (jzb (jzb (jzb i3 fG) fG) fG) fG,jzb (jzb (jzb (jzb i4 fG) fG) fG) fG⟩|fail)
                (first
                 |(go_at_call 113
                   first
                   |(with_reducible refine(qz.out _ (by with_reducible exact XD.out)).mono ?_
                     rintro e w8 ⟨rfl,x8⟩;have E8:=Hx (XD.out.tr x8))
                   |(with_reducible refine(qz.out _ (by with_reducible exact XA.out)).mono ?_
                     rintro e w8 ⟨rfl,x8⟩;have E8:=Hx (XA.out.tr x8);have B8:=Hx (BN.out.keep x8))
                   obtain⟨i0,i1,i2,i3,i4⟩:=qh.out _ E8.out;clear x8)
                 |(go_at_call 136
                   first
                   |(with_reducible refine(qx.out _ (by with_reducible exact E8.out)).mono ?_
                     rintro e w9 ⟨rfl,x9⟩;have E9:=Hx (E8.out.tr x9);have zC:wr.heap.size<=w8.heap.size:=E8.out.size
                     first
                     |(have B9:=Hx (B8.out.keep x9)
                       obtain⟨⟨v0,v1,v2,v3⟩,r0,r1,r2,r3⟩:=four_ B9.out;have gg:wr.heap.size<=wr.heap.size:=yX _;have fT:w.heap.size≠wr.heap.size:=Nat.ne_of_lt lw;have fG:g2≠wr.heap.size:=Nat.ne_of_lt lg)
                     |skip)
                   |(with_reducible refine(qx.out _ (by with_reducible exact E8.out.alloc (.cells #[.int .i64 0,.int .i64 0,.int .i64 0,.slice none 0 0] 210))).mono ?_
                     rintro e w9 ⟨rfl,x9⟩;have E9:=Hx ((E8.out.alloc (.cells #[.int .i64 0,.int .i64 0,.int .i64 0,.slice none 0 0] 210)).tr x9);have gg:wr.heap.size<=w8.heap.size:=E8.out.size;have fT:w.heap.size≠w8.heap.size:=Nat.ne_of_lt (yL lw gg);have fG:g2≠w8.heap.size:=Nat.ne_of_lt (yL lg gg);have B9:=Hx ((Blk.new w8 210 #[.int .i64 0,.int .i64 0,.int .i64 0,.slice none 0 0]).keep x9);obtain⟨⟨v0,v1,v2,v3⟩,r0,r1,r2,r3⟩:=four_ B9.out)
                   obtain⟨i0,i1,i2,i3,i4⟩:=qh.out _ E9.out;clear x9)
                 |fail)
               all_goals
                go_wp2;go_meet
                first
                |exact⟨_,rfl,Hx ⟨gg,(((B9.out.set_ 0 _).set_ 1 _).set_ 2 _).set_ 3 _,set4_ B9.out gg E9.out _ _ _ _⟩⟩
                |exact⟨w9.heap.size,rfl,Hx ⟨E9.out.size,Blk.new w9 _ _,E9.out.alloc _⟩⟩
              case rest=>
               obtain⟨g3,rfl,B9⟩:=hcut;clear XD XA BN qh qz qx i0 i1 i2 i3 i4 y0 y1 y2 y3 y4 zk;have F5:wc.cell? ⟨w.heap.size,5,none⟩=some (.int .i64 0):=((I7.out.st.keep B9.out.2.2).fin.cell 5).trans rfl;have L2:wc.cell? ⟨g3,2,none⟩=some (.int .i64 0):=(B9.out.2.1.cell 2).trans rfl;have L3:wc.cell? ⟨g2,3,none⟩=some (.slice A zx.length k):=((I6.out.2.1.2.keep B9.out.2.2).cell 3).trans rfl;have vF:=Hx (jzbu A k zx wc (I6.out.2.1.1.keep B9.out.2.2).1 (by omega));obtain⟨ti,hi,vp,qB,qJ⟩:=info_parts Tryz.info3;have zO:wr.heap.size<=wc.heap.size:=B9.out.2.2.size;have zN:g3<wc.heap.size:=B9.out.2.1.lt
               go_wp2_with fail
               refine vF.out.mono ?_;rintro e vk ⟨zy,rfl,qp,q6⟩;have qZ:=Hx qp;have vK:=Hx q6;have zg:wc.heap.size<=vk.heap.size:=q6.size;clear qp q6 vF F5 L2 L3
               go_wp2_with (at_builtin;go_must (refine wpList_append_own_at _ rfl (.tmp 182) (.tmp 184) 44 rfl wc.heap.size 3 ti (.int .i64 0) 1 8 Tryz.underlying44 hi vp qB qJ rfl (by decide) zy zx.length (ints zx) rfl (qZ.out.alloc _) ⟨vk.heap.size,0,none⟩ 1 1 [.int .i64 (a:Int)] rfl rfl ?c1 ?c2 ?c3 ?c4 ?c5 ?_))
               case c1=>
                intro j u hj
                match j,hj with
                |0,hj=>simp at hj;subst hj;simp [Addr.add]
               case c2=>intro u hu;simp at hu;subst hu;rfl
               case c3=>unfold maxLen;omega
               case c4=>omega
               case c5=>simp;omega
               intro zI qt qe qw _ _;have va:=Hx (show Ext wc qt from Below.grown (vK.out.alloc (.cells #[.int .i64 (a:Int)] 3)) qw (by simp;omega) (fun q hq=>(qZ.out.lt q hq).1));have qI:=Hx (B9.out.2.1.keep va.out);obtain⟨qg,qk,ve,qY⟩:=jzh6 qe;subst ve;have vx:=Hx (show RdF (w.heap.size+2) qt (some ⟨qg,0,none⟩) (ints (zx++[a]))from by
                have e1:ints zx++[.int .i64 (a:Int)]=ints (zx++[a]):=(by rw [jzlt];rfl);rw [e1]at qe;obtain⟨A5,c5,e5,_,r5⟩:=jzai qe (by simp);injection e5 with e5
                subst e5;refine⟨r5,fun p hp=>?_⟩;injection hp with hp
                subst hp;have:=(qe.lt qg rfl).1;have h2:=I7.out.st.lst.lt;simp only;omega)
               have qO:qt.cell? ⟨g3,3,none⟩=some (.slice none 0 0):=(qI.out.cell 3).trans rfl;have v4:qt.frozen? ⟨g3,3,none⟩=false:=qI.out.frozen 3;clear qw qe qZ hi vp qB qJ
               go_upto_region 32 with fail
               have qy:=Hx (show Ext wr (qt.setCell ⟨g3,3,none⟩ (.slice (some ⟨qg,0,none⟩) (zx.length+1) qk))from Ext.set_ (B9.out.2.2.tr va.out) B9.out.1 _);have vV:=Hx (show Blk (qt.setCell ⟨g3,3,none⟩ (.slice (some ⟨qg,0,none⟩) (zx.length+1) qk)) g3 210 #[.int .i64 (hh:Int),.int .i64 ((kc:Int)+(ca:Int)),.int .i64 0,.slice (some ⟨qg,0,none⟩) (zx.length+1) qk]from qI.out.set_ 3 _);have vJ:=Hx (show RdF (w.heap.size+2) (qt.setCell ⟨g3,3,none⟩ (.slice (some ⟨qg,0,none⟩) (zx.length+1) qk)) (some ⟨qg,0,none⟩) (ints (zx++[a]))from vx.out.other (jze _ _ _ _) qI.out (by decide));clear qO v4 vx qI va vK B9;generalize qt.setCell ⟨g3,3,none⟩ (.slice (some ⟨qg,0,none⟩) (zx.length+1) qk)=w12 at*;have qK:kAgg t (hh,zx++[a]) (some ⟨qg,0,none⟩) qk=.agg #[.int .i64 (hh:Int),.int .i64 ((kc:Int)+(ca:Int)),.int .i64 0,.slice (some ⟨qg,0,none⟩) (zx.length+1) qk]:=by
                unfold kAgg;simp [jzk1,vO.out,zc.out]
               have qX:ni+1<=1000000:=by
                have h1:=I7.out.nn;have h8:N*(2*t.links.length+1)<=64*513:=Nat.mul_le_mul hN64 (by omega);simp at h1;omega
               have qG:=Hx (show Calls Tryz.prog 137 #[.iface 208 (.pointer (some ⟨q,0,none⟩)),.iface 210 (.agg #[.int .i64 (hh:Int),.int .i64 ((kc:Int)+(ca:Int)),.int .i64 0,.slice (some ⟨qg,0,none⟩) (zx.length+1) qk])] w12 (HPushPost t w12 (w.heap.size+2) q gi (ni+1) ((hh,zx++[a])::qn))from by
                have h1:=hPush_ok t (leO_K t) (w.heap.size+2) q gi ni ci qn (hh,zx++[a]) (some ⟨qg,0,none⟩) qk w12 (I7.out.qu.keep qy.out) I7.out.hp (fun y hy=>by
                 rcases xZ.1 hy with rfl|hy
                 ·simp;omega
                 ·have h2:=I7.out.ki.size y.1 y.2 hy
                  have h3:=List.count_le_length (a:=true) (l:=V2);rw [I7.out.ki.len,qf]at h3;omega) (by simpa using qY) vJ.out qX (by have:=(I7.out.st.keep qy.out).lst.lt;omega)
                rw [qK]at h1;exact h1)
               obtain⟨⟨l0,l1,l2,l3⟩,_⟩:=four_ vV.out;clear qK vJ vV
               go_wp2_with fail
               refine qG.out.mono ?_;rintro e q4 ⟨rfl,q5,qO,qF,vl,vw,qU,vT,qN⟩;have I9:=Hx (show DvI t down s d N _ w q4 q V2 fin2 qF q5 qO (ni+1) zn ((leavP t zn).drop (i+1))from
                ⟨I7.out.ki.push vW.out ze.out vR.out vI.out (fun z=>by
                 rw [vl.mem_iff,xZ,zm.out,zb.out,xL]),vw,vT,(I7.out.st.keep qy.out).kf qN I7.out.hq I7.out.qu.row.lo,by have:=I7.out.nn;simp at this⊢;omega,I7.out.hq,qU⟩)
               have J9:=Hx (show(RdF (w.heap.size+2) q4 A (ints zx)/\Blk q4 g2 210 #[.int .i64 (zn:Int),.int .i64 (kc:Nat),.int .i64 0,.slice A zx.length k])/\q5≠g2/\ni+1+(M-(i+1))<=n+M from by
                have K:=I7.out.qu.keep qy.out;obtain⟨cb,qR⟩:=K.row.blk;refine⟨⟨qN.rdF K.box qR (I6.out.2.1.1.keep qy.out),qN.blk (I6.out.2.1.2.keep qy.out) (fun e=>zt e.symm) (fun e=>I6.out.2.2.1 e.symm)⟩,fun e=>?_,by have:=I6.out.2.2.2;omega⟩;rcases qN.row with e2|e2
                ·exact I6.out.2.2.1 (by rw [<-e2,e])
                ·have:=qy.out.size;omega)
               clear vl vw vT qN qG l0 l1 l2 l3 I6 I7;go_wp2
               go_roundg (M-(i+1))
               case measure=>omega
               case rel=>exact⟨i+1,qF,q5,qO,ni+1,rfl,by omega,by go_num,Hx ⟨I9.out,J9.out.1,J9.out.2.1,J9.out.2.2⟩⟩
           ·obtain rfl:i=M:=by omega
            have v8:¬((i:Int)<(i:Int)):=(by omega);have v7:¬(i<i):=Nat.lt_irrefl i;have I7:=Hx (show DvI t down s d N _ w _ q V2 fin2 qn gi ci ni zn []from by
             have h1:=I6.out.1;rw [List.drop_of_length_le (by rw [qT.out];exact yX _)]at h1;exact h1)
            have zD:ni<=n+i:=(by have:=I6.out.2.2.2;omega);have I8:=Hx (show DvI t down s d N _ w _ q V2 fin2 qn gi ci ni 0 []from
             ⟨⟨I7.out.ki.len,I7.out.ki.lab,I7.out.ki.size,I7.out.ki.best,fun u a h1 h2 h3 h4 h5=>by
               rcases I7.out.ki.front u a h1 h2 h3 h4 h5 with⟨_,h6⟩|h6
               ·cases h6
               ·exact .inr h6,I7.out.ki.src,I7.out.ki.dd⟩,I7.out.hp,I7.out.qu,I7.out.st,I7.out.nn,I7.out.hq,I7.out.hc⟩)
            clear I6 I7;go_wp2
            go_roundg (gk-1)
            case measure=>omega
            case rel=>exact⟨V2,fin2,qn,gi,ci,ni,by omega,I8⟩
theorem seven_{w:World}{g:Nat}{t:TypeId}{a b c d e f h:Value}(hb:Blk w g t #[a,b,c,d,e,f,h]):(w.cell? ⟨g,0,none⟩=some a/\w.cell? ⟨g,1,none⟩=some b/\w.cell? ⟨g,2,none⟩=some c/\w.cell? ⟨g,3,none⟩=some d/\w.cell? ⟨g,4,none⟩=some e/\w.cell? ⟨g,5,none⟩=some f/\w.cell? ⟨g,6,none⟩=some h)/\w.frozen? ⟨g,0,none⟩=false/\w.frozen? ⟨g,1,none⟩=false/\w.frozen? ⟨g,2,none⟩=false/\w.frozen? ⟨g,3,none⟩=false/\w.frozen? ⟨g,4,none⟩=false/\w.frozen? ⟨g,5,none⟩=false/\w.frozen? ⟨g,6,none⟩=false:=
 ⟨⟨(hb.cell 0).trans rfl,(hb.cell 1).trans rfl,(hb.cell 2).trans rfl,(hb.cell 3).trans rfl,(hb.cell 4).trans rfl,(hb.cell 5).trans rfl,(hb.cell 6).trans rfl⟩,hb.frozen 0,hb.frozen 1,hb.frozen 2,hb.frozen 3,hb.frozen 4,hb.frozen 5,hb.frozen 6⟩
theorem set7_{w0 w:World}{g:Nat}(hg:w0.heap.size<=g)(hx:Ext w0 w)(v0 v1 v2 v3 v4 v5 v6:Value):Ext w0 (((((((w.setCell ⟨g,0,none⟩ v0).setCell ⟨g,1,none⟩ v1).setCell ⟨g,2,none⟩ v2).setCell ⟨g,3,none⟩ v3).setCell ⟨g,4,none⟩ v4).setCell ⟨g,5,none⟩ v5).setCell ⟨g,6,none⟩ v6):=
 Ext.set_ (Ext.set_ (Ext.set_ (Ext.set_ (Ext.set_ (Ext.set_ (Ext.set_ hx hg v0) hg v1) hg v2) hg v3) hg v4) hg v5) hg v6
theorem grown7(w:World)(g:Nat)(v0 v1 v2 v3 v4 v5 v6:Value):w.grownBy (((((((w.setCell ⟨g,0,none⟩ v0).setCell ⟨g,1,none⟩ v1).setCell ⟨g,2,none⟩ v2).setCell ⟨g,3,none⟩ v3).setCell ⟨g,4,none⟩ v4).setCell ⟨g,5,none⟩ v5).setCell ⟨g,6,none⟩ v6) (some g):=
 ((((((jze w g 0 v0).trans (jze _ g 1 v1)).trans (jze _ g 2 v2)).trans (jze _ g 3 v3)).trans (jze _ g 4 v4)).trans (jze _ g 5 v5)).trans (jze _ g 6 v6)
def ShPost(w:World)(r:List Nat×Int)(e:Ending)(w':World):Prop:=
 (r.2=0/\∃(g:Nat) (A:Option Addr) (k:Nat),e=.returned (.tuple #[.slice (some ⟨g,0,none⟩) 1 1,.int .i64 0])/\w'.cell? ⟨g,0,none⟩=some (.slice A r.1.length k)/\r.1.length<=k/\RdT w' 3 A (ints r.1)/\Ext w w')\/
 (r.2≠0/\e=.returned (.tuple #[.slice none 0 0,.int .i64 r.2])/\Ext w w')
def ShPostF(w:World)(r:List Nat×Int)(e:Ending)(w':World):Prop:=
 (r.2=0/\∃(g:Nat) (A:Option Addr) (k:Nat),e=.returned (.tuple #[.slice (some ⟨g,0,none⟩) 1 1,.int .i64 0])/\w'.cell? ⟨g,0,none⟩=some (.slice A r.1.length k)/\r.1.length<=k/\RdF w.heap.size w' A (ints r.1)/\Ext w w')\/
 (r.2≠0/\e=.returned (.tuple #[.slice none 0 0,.int .i64 r.2])/\Ext w w')
theorem ShPostF.weak{w:World}{r:List Nat×Int}{e:Ending}{w':World}(h:ShPostF w r e w'):ShPost w r e w':=by
 rcases h with⟨h1,g,A,k,h2,h3,h4,h5,h6⟩|h
 ·exact .inl ⟨h1,g,A,k,h2,h3,h4,h5.1,h6⟩
 ·exact .inr h
theorem tp_nodes{t:Tp}(hv:validP t=true):1<=t.nodes/\t.nodes<=64:=by
 unfold validP headOk inB at hv;simp at hv;exact hv.1.1.1
theorem jzgx(t:Tp)(AO:Option Addr)(co:Nat)(AL:Option Addr)(cl:Nat)(AD:Option Addr)(cd:Nat)(down:List Bool)(s d:Int)(w:World)(ht:TopR w t AO co AL cl)(hll:t.links.length<=256)(hdn:Rd w AD (bools down))(hdl:down.length<=cd)(hdc:down.length<=600):
  Calls Tryz.prog 40 #[.agg #[.int .i64 t.nodes,.slice AO t.over.length co,.slice AL t.links.length cl],.slice AD down.length cd,.int .i64 s,.int .i64 d,.int .i64 1,.int .i64 0] w (ShPostF w (chP t down (costL t) s d)):=by
 have HT:=Hx (ht);have qF:=Hx (hdn);have h3:=ht.ll;have h4:=ht.cl;clear ht hdn;generalize hR:chP t down (costL t) s d=R;have HR:=Hx (hR);clear hR;obtain⟨b0,e0⟩:=boxes1 w #[.int .i64 t.nodes,.slice AO t.over.length co,.slice AL t.links.length cl] 25;obtain⟨⟨i0,i1,i2⟩,g0,g1,g2⟩:=b0.three;have BB:=Hx b0;clear b0
 go_enter Tryz.func40,Tryz.ntmps40
 go_upto_region 1 with fail
 go_cut [39] (fun s wx=>s=.bool (!validP t||!fitsP t down)/\Hid (Blk wx w.heap.size 25 #[.int .i64 t.nodes,.slice AO t.over.length co,.slice AL t.links.length cl]/\Ext w wx))
 case first=>
  go_wp2_with fail
  refine(jzb7 t AO co AL cl _ (HT.out.keep e0)).mono ?_;rintro e w1 ⟨rfl,qf⟩;have qp:=BB.out.keep qf;obtain⟨⟨i0,i1,i2⟩,g0,g1,g2⟩:=qp.three;have E1:=Hx (And.intro qp (e0.tr qf));clear qf qp;cases hv:validP t
  case false=>
   go_wp2;go_meet;exact⟨by simp [hv],E1⟩
  case true=>
   have HV:=Hx (hv)
   go_wp2_with fail
   refine(jzg5 t AO co AL cl AD cd down _ (HT.out.keep E1.out.2)).mono ?_;rintro e w2 ⟨rfl,qg⟩;have E2:=Hx (And.intro (E1.out.1.keep qg) (E1.out.2.tr qg));clear qg;cases hf:fitsP t down
   case false=>
    go_wp2;go_meet;exact⟨by simp [hf],E2⟩
   case true=>
    have HF:=Hx (hf);go_wp2;go_meet;exact⟨by simp [HV.out,HF.out],E2⟩
 case rest=>
  obtain⟨rfl,E3⟩:=hcut;clear i0 i1 i2 g0 g1 g2 e0 BB;obtain⟨⟨i0,i1,i2⟩,g0,g1,g2⟩:=E3.out.1.three;obtain⟨b1,qw⟩:∃b,(!validP t||!fitsP t down)=b:=⟨_,rfl⟩;have qC:=Hx qw;rw [qw];clear qw;cases b1
  case true=>
   have hr:R=([],1):=by
    rw [<-HR.out];have:bad1 t down (costL t)=true:=(by unfold bad1;rw [qC.out];rfl);unfold chP;rw [this];rfl
   subst hr;go_wp2;exact bodyPost_ret (v:=.tuple #[.slice none 0 0,.int .i64 1]) (by simp [results,Tryz.results40,go_sem]) rfl (.inr ⟨by decide,rfl,E3.out.2⟩)
  case false=>
   have qe:=Hx (show validP t=true/\fitsP t down=true from by have:=qC.out;simpa using this);have qj:simBad2 t s d= !(ndB t.nodes s&&ndB t.nodes d):=by
    unfold simBad2 ndB;rw [Bool.eq_iff_iff];simp;omega
   have qk:=Hx (qj);clear qj
   go_upto_region 3 with fail
   go_cut [49] (fun x wx=>x=.bool (simBad2 t s d)/\Hid (Blk wx w.heap.size 25 #[.int .i64 t.nodes,.slice AO t.over.length co,.slice AL t.links.length cl]/\Ext w wx))
   case first=>
    go_wp2_with fail
    refine(jzdb t AO co AL cl s _).mono ?_;rintro e w1 ⟨rfl,qf⟩;have E4:=Hx (And.intro (E3.out.1.keep qf) (E3.out.2.tr qf));obtain⟨⟨i0,i1,i2⟩,g0,g1,g2⟩:=E4.out.1.three;clear qf;cases hn:ndB t.nodes s
    case false=>
     go_wp2;go_meet;exact⟨by rw [qk.out,hn];rfl,E4⟩
    case true=>
     have HN:=Hx hn;clear hn
     go_wp2_with fail
     refine(jzdb t AO co AL cl d _).mono ?_;rintro e w2 ⟨rfl,qg⟩;have E5:=Hx (And.intro (E4.out.1.keep qg) (E4.out.2.tr qg));clear qg;go_wp2;go_meet;exact⟨by rw [qk.out,HN.out];simp,E5⟩
   case rest=>
    obtain⟨rfl,E6⟩:=hcut;clear i0 i1 i2 g0 g1 g2 E3;obtain⟨⟨i0,i1,i2⟩,g0,g1,g2⟩:=E6.out.1.three;have qD:=Hx (show bad1 t down (costL t)=false from by unfold bad1;rw [qe.out.1,qe.out.2,jzdp];rfl);cases hb2:simBad2 t s d
    case true=>
     have hr:R=([],2):=(by rw [<-HR.out];unfold chP;rw [qD.out,hb2];rfl);subst hr;go_wp2;exact bodyPost_ret (v:=.tuple #[.slice none 0 0,.int .i64 2]) (by simp [results,Tryz.results40,go_sem]) rfl (.inr ⟨by decide,rfl,E6.out.2⟩)
    case false=>
     obtain⟨k1,k2,k3,k4⟩:0<=s/\s<t.nodes/\0<=d/\d<t.nodes:=(by unfold simBad2 at hb2;simp at hb2;omega);have qI:=Hx hb2;obtain⟨s',rfl⟩:=Int.eq_ofNat_of_zero_le k1;obtain⟨d',rfl⟩:=Int.eq_ofNat_of_zero_le k3;have qo:=tp_nodes qe.out.1;obtain⟨N,hN⟩:=Int.eq_ofNat_of_zero_le (show 0<=t.nodes by omega);have qm:=Hx hN;have qB:s'<N:=(by omega);have qy:d'<N:=(by omega);have qn:N<=64:=(by omega);have qA:=Hx (show R=match cheapP t down (costL t) s' d' with
      |none=>([],11)
      |some l=>(l,0)from by rw [<-HR.out];unfold chP;rw [qD.out,qI.out];rfl)
     clear hb2 hN k1 k2 k3 k4 HR qo;have XD:=Hx (show Ext wc wc.drew from(Ext.refl wc).drewN 1);have XA:=Hx (show Ext wc (wc.alloc (.cells #[.int .i64 0,.slice none 0 0,.slice none 0 0,.slice none 0 0,.int .i64 0,.int .i64 0,.slice none 0 0] 142)).drew from((Ext.refl wc).alloc _).drewN 1);have BN:=Hx (show Blk (wc.alloc (.cells #[.int .i64 0,.slice none 0 0,.slice none 0 0,.slice none 0 0,.int .i64 0,.int .i64 0,.slice none 0 0] 142)).drew wc.heap.size 142 #[.int .i64 0,.slice none 0 0,.slice none 0 0,.slice none 0 0,.int .i64 0,.int .i64 0,.slice none 0 0]from Blk.new wc _ _);have qa:=Hx (show∀wx,Ext wc wx->(wx.cell? ⟨w.heap.size,0,none⟩=some (.int .i64 t.nodes)/\wx.cell? ⟨w.heap.size,1,none⟩=some (.slice AO t.over.length co)/\wx.cell? ⟨w.heap.size,2,none⟩=some (.slice AL t.links.length cl))from fun wx hx=>(E6.out.1.keep hx).three.1);obtain⟨i0,i1,i2⟩:=qa.out _ XD.out;obtain⟨y0,y1,y2⟩:=qa.out _ XA.out;have lw:w.heap.size<wc.heap.size:=E6.out.1.lt
     go_upto_region 5 with fail
     go_cut [14] (fun sl wx=>∃g gL:Nat,sl=.pointer (some ⟨g,0,none⟩)/\Hid (wc.heap.size<=g/\Blk wx g 142 #[.int .i64 t.nodes,.slice AO t.over.length co,.slice AL t.links.length cl,.slice AD down.length cd,.int .i64 (d':Int),.int .i64 0,.slice (some ⟨gL,0,none⟩) N N]/\LL wx gL N (leavP t)/\Ext wc wx))
     case first=>
      go_region_held3 (fun w'=>w'.cell? ⟨w.heap.size,0,none⟩=some (.int .i64 t.nodes)/\w'.cell? ⟨w.heap.size,1,none⟩=some (.slice AO t.over.length co)/\w'.cell? ⟨w.heap.size,2,none⟩=some (.slice AL t.links.length cl))
       (first|with_reducible exact⟨i0,i1,i2⟩|with_reducible exact⟨y0,y1,y2⟩|with_reducible exact⟨jzc i0 _,jzc i1 _,jzc i2 _⟩|exact⟨jzb (jzb (jzb (jzb (jzb (jzb (jzb i0 fT) fT) fT) fT) fT) fT) fT,jzb (jzb (jzb (jzb (jzb (jzb (jzb i1 fT) fT) fT) fT) fT) fT) fT,jzb (jzb (jzb (jzb (jzb (jzb (jzb i2 fT) fT) fT) fT) fT) fT) fT⟩|fail)
       (first
        |(go_at_call 82
          first
          |(with_reducible refine(jzco t AO co AL cl _ ((HT.out.keep E6.out.2).keep (by with_reducible exact XD.out)) qe.out.1).mono ?_
            rintro e w8 ⟨gL,N',qz,rfl,qt,x8⟩;have E8:=Hx (XD.out.tr x8))
          |(with_reducible refine(jzco t AO co AL cl _ ((HT.out.keep E6.out.2).keep (by with_reducible exact XA.out)) qe.out.1).mono ?_
            rintro e w8 ⟨gL,N',qz,rfl,qt,x8⟩;have E8:=Hx (XA.out.tr x8);have B8:=Hx (BN.out.keep x8);obtain⟨⟨v0,v1,v2,v3,v4,v5,v6⟩,r0,r1,r2,r3,r4,r5,r6⟩:=seven_ B8.out;have gg:wc.heap.size<=wc.heap.size:=yX _;have fT:w.heap.size≠wc.heap.size:=Nat.ne_of_lt lw)
          obtain rfl:N'=N:=(by have:=qm.out;omega);have L8:=Hx qt;obtain⟨i0,i1,i2⟩:=qa.out _ E8.out;clear x8 qt qz)
        |fail)
      all_goals
       go_wp2;go_meet
       first
       |exact⟨_,gL,rfl,Hx ⟨gg,(((((((B8.out.set_ 0 _).set_ 1 _).set_ 2 _).set_ 3 _).set_ 4 _).set_ 5 _).set_ 6 _),L8.out.other (grown7 _ _ _ _ _ _ _ _ _) B8.out (by decide) (by decide),set7_ gg E8.out _ _ _ _ _ _ _⟩⟩
       |exact⟨w8.heap.size,gL,rfl,Hx ⟨E8.out.size,Blk.new w8 _ _,L8.out.keep ((Ext.refl w8).alloc _),E8.out.alloc _⟩⟩
     case rest=>
      obtain⟨g,gL,rfl,E9⟩:=hcut;clear XD XA BN qa i0 i1 i2 y0 y1 y2 g0 g1 g2;obtain⟨⟨v0,v1,v2,v3,v4,v5,v6⟩,_⟩:=seven_ E9.out.2.1;have qx:=Hx (jzgw t AO co AL cl AD cd down gL N s' d' _ ((HT.out.keep E6.out.2).keep E9.out.2.2.2) qe.out.1 qm.out hll ((qF.out.keep E6.out.2).keep E9.out.2.2.2) hdl hdc qe.out.2 E9.out.2.2.1 qB qy qn);have qG:¬((1:Int)<1):=(by decide);have qE:s'<t.nodes.toNat:=(by rw [qm.out];simpa using qB);have qH:d'<t.nodes.toNat:=by rw [qm.out];simpa using qy
      go_wp2_with fail
      refine qx.out.mono ?_;rintro e w3 qi;rcases qi with⟨x,A,k,rfl,hk,rx,hle,hbest,x3⟩|⟨rfl,hno,x3⟩
      ·have qh:=Hx (show R.2=0/\R.1=x from by
        have h1:=qA.out;rw [cheap_is qe.out.1 qE hle hbest]at h1;rw [h1];exact⟨rfl,rfl⟩)
       have FX:=Hx (show x.length<=k/\RdF w.heap.size w3 A (ints x)/\Ext w w3 from⟨hk,⟨rx.1,fun p hp=>yY (E6.out.2.tr E9.out.2.2.2).size (rx.2 p hp)⟩,(E6.out.2.tr E9.out.2.2.2).tr x3⟩);clear hk rx hle hbest x3 qx;go_wp2
       go_loopg [17] 0 (fun j s17 wx=>s17=.slice (some ⟨w3.heap.size,0,none⟩) 1 1/\w3.alloc (.cells #[.slice A x.length k] 44)=wx)
       case atStart=>exact⟨rfl,rfl⟩
       case round=>
        obtain⟨rfl,rfl⟩:=hrel;have BX:=Hx (show ShPostF w R (.returned (.tuple #[.slice (some ⟨w3.heap.size,0,none⟩) 1 1,.int .i64 0])) (w3.alloc (.cells #[.slice A x.length k] 44))from
         .inl ⟨qh.out.1,w3.heap.size,A,k,rfl,by rw [qh.out.2];exact(Blk.new w3 44 #[.slice A x.length k]).cell 0,by rw [qh.out.2];exact FX.out.1,by rw [qh.out.2];exact⟨FX.out.2.1.1.keep ((Ext.refl _).alloc _),FX.out.2.1.2⟩,FX.out.2.2.alloc _⟩)
        go_wp2;exact bodyPost_ret (v:=.tuple #[.slice (some ⟨w3.heap.size,0,none⟩) 1 1,.int .i64 0]) (by simp [results,Tryz.results40,go_sem]) rfl BX.out
      ·have qh:=Hx (show ShPostF w R (.returned (.tuple #[.slice none 0 0,.int .i64 11])) w3 from by
        have h1:=qA.out;rw [cheap_no qe.out.1 qE hno]at h1;rw [h1];exact .inr ⟨by decide,rfl,(E6.out.2.tr E9.out.2.2.2).tr x3⟩)
       clear x3 hno;go_wp2;exact bodyPost_ret (v:=.tuple #[.slice none 0 0,.int .i64 11]) (by simp [results,Tryz.results40,go_sem]) rfl qh.out
theorem cmp3(a b:Rat):(cmpQ a b= -1/\a<b)\/(cmpQ a b=0/\a=b)\/(cmpQ a b=1/\b<a):=by
 unfold cmpQ;by_cases h:a<b
 ·exact .inl ⟨by rw [if_pos h],h⟩
 ·by_cases h2:a=b
  ·exact .inr (.inl ⟨by rw [if_neg h,if_pos h2],h2⟩)
  ·exact .inr (.inr ⟨by rw [if_neg h,if_neg h2],by grind⟩)
def levB(T:Sx.Tb)(j i:Nat):Bool:=decide (0<Sx.at_ (T.row i).co j)&&(match Sx.levN T j i with
 |none=>true
 |some b=>decide (Sx.quo T j i<Sx.quo T j b\/Sx.quo T j i=Sx.quo T j b/\Sx.atN T.bas i<Sx.atN T.bas b))
theorem levN_succ(T:Sx.Tb)(j i:Nat):Sx.levN T j (i+1)=if levB T j i=true then some i else Sx.levN T j i:=by
 show(if 0<Sx.at_ (T.row i).co j then(match Sx.levN T j i with
  |none=>some i
  |some b=>if Sx.quo T j i<Sx.quo T j b\/Sx.quo T j i=Sx.quo T j b/\Sx.atN T.bas i<Sx.atN T.bas b then some i else some b)else Sx.levN T j i)=_
 unfold levB;by_cases h:0<Sx.at_ (T.row i).co j
 ·rw [if_pos h,yO h,Bool.true_and]
  cases Sx.levN T j i with
  |none=>simp
  |some b=>
   by_cases h2:Sx.quo T j i<Sx.quo T j b\/Sx.quo T j i=Sx.quo T j b/\Sx.atN T.bas i<Sx.atN T.bas b
   ·simp [h2]
   ·simp [h2]
 ·rw [if_neg h,yP h];simp
def lq(T:Sx.Tb)(j i:Nat):Rat:=match Sx.levN T j i with
 |none=>0
 |some b=>Sx.quo T j b
theorem sgn_le(q:Rat):sgnI q<=0↔¬0<q:=by
 have h:q.num<0↔q<0:=(by rw [<-Int.not_le,Rat.num_nonneg,Rat.not_le]);unfold sgnI;by_cases h0:q.num=0
 ·rw [if_pos h0]
  have:q=0:=Rat.num_eq_zero.1 h0;rw [this];decide
 ·rw [if_neg h0]
  have h3:q≠0:=fun e=>h0 (by rw [e];rfl);by_cases h1:q.num<0
  ·rw [if_pos h1]
   have:=h.1 h1;exact⟨fun _=>by grind,fun _=>by decide⟩
  ·rw [if_neg h1]
   have:¬q<0:=fun x=>h1 (h.2 x);exact⟨fun h=>by omega,fun h=>absurd (by grind) h⟩
theorem jzlw(B j P:Nat)(L:TLoc)(T:Sx.Tb)(w:World)(h:TabR w B L T)(qZ:OkT T)(qW:SzT T P)(hP:P<=100000)(hj:j<T.fre.length)(hm0:0<L.m)(hm:L.m<=1000000)(hK:T.fre.length<=1000000000000):
  Calls Tryz.prog 89 #[.pointer (some ⟨L.p,0,none⟩),.int .i64 (j:Int)] w fun e w'=>e=.returned (.int .i64 (optN (Sx.levT T j)))/\Ext w w':=by
 obtain⟨g,cr,qQ,vd⟩:=h.vr_form hm0;obtain⟨gb,cb,qS,vh⟩:=h.vb_form hm0;obtain⟨cp,qN,_,p0,p1,_,_⟩:=h.goa;rw [qQ]at p0;rw [qS]at p1;have q0:=(qN.cell 0).trans p0;have Q1:=Hx ((qN.cell 1).trans p1);have qi:=h.bas;rw [qS]at qi;have HE:=Hx (show Sx.levT T j=Sx.levN T j L.m by unfold Sx.levT;rw [h.rl]);have qO:=qN.lt;have qB:gb<w.heap.size:=cellT (jzbm qi hm0);have qX:=Hx qi;have H:=Hx (And.intro h (And.intro qZ qW));have HV:=Hx qQ;have q5:=h.rl;clear h qZ qW qQ qS qN p0 p1 qi;generalize hKK:T.fre.length=K at*;have qY:=Hx hKK;clear hKK;have jN:(j:Int)<(K:Int):=(by omega);have j0:(0:Int)<=(j:Int):=(by omega);have L0:=Hx (Blk.new w 35 #[.bool false,.slice none 0 0,.slice none 0 0]);have LX:=Hx ((Ext.refl w).alloc (.cells #[.bool false,.slice none 0 0,.slice none 0 0] 35))
 go_enter Tryz.func89,Tryz.ntmps89
 go_wp2
 go_loopg [5,7,8,9,10,11,17] L.m (fun q bt _ _ _ _ _ it wr=>∃i:Nat,L.m-i=q/\i<=L.m/\it=.int .i64 (i:Int)/\bt=.int .i64 (optN (Sx.levN T j i))/\Hid (Ext w wr/\∃nl Al ll cl qj qm qn,Blk wr w.heap.size 35 #[.bool nl,.slice Al ll cl,.slice qj qm qn]/\RatR wr nl Al ll cl qj qm qn (lq T j i)))
 case atStart=>exact⟨0,rfl,yZ _,rfl,rfl,Hx ⟨LX.out,_,_,_,_,_,_,_,L0.out,jz6 _⟩⟩
 case round=>
  obtain⟨i,rfl,hi,rfl,rfl,I⟩:=hrel;clear q0 L0 LX;by_cases qy:i<L.m
  ·have iN:(i:Int)<(L.m:Int):=by omega
   have i0:(0:Int)<=(i:Int):=(by omega);have qI:i<T.rows.length:=(by rw [q5];exact qy);have qE:(T.row i).co.length=K:=(by rw [H.out.2.1.cl i qI,qY.out]);obtain⟨gv,cv,hV,qU,qC⟩:=(H.out.1.co i qy).form (by rw [qE];omega);rw [qE]at hV qU;obtain⟨ca,hb,nr,R1,m1,d1,qH,qF,qz,r0,r1,r2,r3,rr⟩:=H.out.1.rwa qy HV.out;rw [hV]at r0;have qR:=H.out.1.co i qy;rw [hV]at qR;obtain⟨nf,F1,f1,e1,qG,qD,qA,⟨x0,x1,x2⟩,_,rf⟩:=qR.cell (jzv (show j<(T.row i).co.length by rw [qE];exact hj));have EX:=Hx I.out.1;have k0:=cellK EX.out ((hb.cell _).trans r0);have k1:=cellK EX.out ((hb.cell _).trans r1);have k2:=cellK EX.out ((hb.cell _).trans r2);have k3:=cellK EX.out ((hb.cell _).trans r3);have x0:=cellK EX.out x0;have x1:=cellK EX.out x1;have x2:=cellK EX.out x2;have RR:=Hx (And.intro (rr.keep EX.out) (rf.keep EX.out));have q8:=Hx (H.out.2.2.co i qI _ (yJ (jzv (show j<(T.row i).co.length by rw [qE];exact hj))));have q3:=Hx (H.out.2.2.re i qI);have HS:=Hx (levN_succ T j i);obtain⟨bx,e0⟩:=boxes1 wr #[.slice (some ⟨gv,0,none⟩) K cv,.bool nr,.slice R1 m1 d1,.slice qH qF qz] 153;have SG:=Hx (jzz nf F1 f1 e1 qG qD qA (Sx.at_ (T.row i).co j) _ (RR.out.2.keep e0));have BX:=Hx (And.intro bx e0);have q6:gv<wr.heap.size:=yL qC EX.out.size;clear hV hb r0 r1 r2 r3 rr rf qR bx e0 qE qU qC
   go_wp2_with fail
   refine SG.out.mono ?_;rintro e w4 ⟨rfl,x4⟩;have E4:=Hx (BX.out.2.tr x4);have B4:=Hx (BX.out.1.keep x4);clear SG x4;by_cases hx:0<Sx.at_ (T.row i).co j
   ·have HX:=Hx hx
    have HP:=Hx (show Sx.at_ (T.row i).co j≠0 from fun e=>by rw [e]at hx;exact absurd hx Rat.lt_irrefl);have hs:decide (sgnI (Sx.at_ (T.row i).co j)<=0)=false:=yP fun h=>(sgn_le _).1 h hx;clear hx;generalize sgnI (Sx.at_ (T.row i).co j)=sg at*
    go_upto_region 7 with fail
    have qf:=Hx (show∀wx,Ext w4 wx->((wx.cell? ⟨wr.heap.size,0,none⟩=some (.slice (some ⟨gv,0,none⟩) K cv)/\wx.cell? ⟨wr.heap.size,1,none⟩=some (.bool nr)/\wx.cell? ⟨wr.heap.size,2,none⟩=some (.slice R1 m1 d1)/\wx.cell? ⟨wr.heap.size,3,none⟩=some (.slice qH qF qz))/\wx.cell? ⟨gv,j*3,none⟩=some (.bool nf)/\wx.cell? ⟨gv,j*3+1,none⟩=some (.slice F1 f1 e1)/\wx.cell? ⟨gv,j*3+2,none⟩=some (.slice qG qD qA))from fun wx hx=>
     ⟨⟨(B4.out.keep hx).cell 0,(B4.out.keep hx).cell 1,(B4.out.keep hx).cell 2,(B4.out.keep hx).cell 3⟩,cellK (E4.out.tr hx) x0,cellK (E4.out.tr hx) x1,cellK (E4.out.tr hx) x2⟩)
    have XD:=Hx (show Ext w4 w4.drew from(Ext.refl w4).drewN 1);have XA:=Hx (show Ext w4 (w4.alloc (.cells #[.bool false,.slice none 0 0,.slice none 0 0] 35)).drew from((Ext.refl w4).alloc _).drewN 1);have BN:=Hx (show Blk (w4.alloc (.cells #[.bool false,.slice none 0 0,.slice none 0 0] 35)).drew w4.heap.size 35 #[.bool false,.slice none 0 0,.slice none 0 0]from Blk.new w4 _ _);have IC:=Hx (qf.out _ XD.out);have UC:=Hx (qf.out _ XA.out);obtain⟨⟨a0,a1,a2,a3⟩,a4,a5,a6⟩:=IC.out;obtain⟨⟨u0,u1,u2,u3⟩,u4,u5,u6⟩:=UC.out;obtain⟨vg,va⟩:=RR.out.1.lens q3.out;obtain⟨vc,vi⟩:=RR.out.2.lens q8.out;clear x0 x1 x2 k0 k1 k2 k3
    go_cut [9] (fun sl wx=>∃(gs:Nat) (ns:Bool) (A3:Option Addr) (l3 c3:Nat) (qt:Option Addr) (qw qx:Nat),sl=.pointer (some ⟨gs,0,none⟩)/\Hid (w4.heap.size<=gs/\Blk wx gs 35 #[.bool ns,.slice A3 l3 c3,.slice qt qw qx]/\RatR wx ns A3 l3 c3 qt qw qx (Sx.quo T j i)/\Ext w4 wx))
    case first=>
     go_region_held3 (fun wx=>(wx.cell? ⟨wr.heap.size,0,none⟩=some (.slice (some ⟨gv,0,none⟩) K cv)/\wx.cell? ⟨wr.heap.size,1,none⟩=some (.bool nr)/\wx.cell? ⟨wr.heap.size,2,none⟩=some (.slice R1 m1 d1)/\wx.cell? ⟨wr.heap.size,3,none⟩=some (.slice qH qF qz))/\wx.cell? ⟨gv,j*3,none⟩=some (.bool nf)/\wx.cell? ⟨gv,j*3+1,none⟩=some (.slice F1 f1 e1)/\wx.cell? ⟨gv,j*3+2,none⟩=some (.slice qG qD qA))
      (first|with_reducible exact IC.out|with_reducible exact UC.out|with_reducible exact I9.out|with_reducible exact S9.out|exact qf.out _ (E9.out.alloc _)|fail)
      (first
       |(go_at_call 145
         first
         |(with_reducible refine(jzcb nr nf R1 m1 d1 qH qF qz F1 f1 e1 qG qD qA (T.row i).re (Sx.at_ (T.row i).co j) w4.drew (RR.out.1.keep (E4.out.tr XD.out)) (RR.out.2.keep (E4.out.tr XD.out)) HP.out (by omega) (by omega) (by omega) (by omega)).mono ?_
           rintro e w9 ⟨n9,A9,l9,c9,qJ,qK,qM,rfl,h9,x9⟩;have E9:=Hx (XD.out.tr x9))
         |(with_reducible refine(jzcb nr nf R1 m1 d1 qH qF qz F1 f1 e1 qG qD qA (T.row i).re (Sx.at_ (T.row i).co j) (w4.alloc (.cells #[.bool false,.slice none 0 0,.slice none 0 0] 35)).drew (RR.out.1.keep (E4.out.tr XA.out)) (RR.out.2.keep (E4.out.tr XA.out)) HP.out (by omega) (by omega) (by omega) (by omega)).mono ?_
           rintro e w9 ⟨n9,A9,l9,c9,qJ,qK,qM,rfl,h9,x9⟩;have E9:=Hx (XA.out.tr x9);have B9:=Hx (BN.out.keep x9);obtain⟨⟨v0,v1,v2⟩,z0,z1,z2⟩:=B9.out.three;have gg:w4.heap.size<=w4.heap.size:=yX _;have S9:=Hx (qf.out _ (jzae (w:=w4) h9 B9.out gg E9.out).2))
         have R9:=Hx h9;have I9:=Hx (qf.out _ E9.out);obtain⟨⟨a0,a1,a2,a3⟩,a4,a5,a6⟩:=I9.out;clear x9 h9)
       |fail)
     all_goals
      go_wp2;go_meet
      first
      |(obtain⟨k1,k2⟩:=jzae (w:=w4) R9.out B9.out gg E9.out
        exact⟨_,n9,A9,l9,c9,qJ,qK,qM,rfl,Hx ⟨gg,((B9.out.set_ 0 _).set_ 1 _).set_ 2 _,k1,k2⟩⟩)
      |(have xb:=(Ext.refl w9).alloc (.cells #[.bool n9,.slice A9 l9 c9,.slice qJ qK qM] 35)
        exact⟨w9.heap.size,n9,A9,l9,c9,qJ,qK,qM,rfl,Hx ⟨E9.out.size,Blk.new w9 _ _,R9.out.keep xb,E9.out.tr xb⟩⟩)
    case rest=>
     obtain⟨gs,ns,A3,l3,c3,qt,qw,qx,rfl,G⟩:=hcut;obtain⟨EI,nl,Al,ll,cl,qj,qm,qn,qh,qk⟩:=I.out;have EC:=Hx (EX.out.tr (E4.out.tr G.out.2.2.2));have LC:=Hx (And.intro (qh.keep (E4.out.tr G.out.2.2.2)) (qk.keep (E4.out.tr G.out.2.2.2)));clear EI qh qk XD XA BN qf IC UC I a0 a1 a2 a3 a4 a5 a6 u0 u1 u2 u3 u4 u5 u6;cases hlv:Sx.levN T j i with
     |none=>
      have qo:=Hx hlv;have E5:=EC;have G5:=Hx (And.intro G.out.2.1 G.out.2.2.1);have L5:=LC;clear hlv G EC LC;have q7:optN none= -1:=rfl;rw [q7];have q1:decide ((0:Int)<= -1)=false:=rfl
      go_upto_region 11 with fail
      go_cut [67] (fun s wx=>s=.bool (levB T j i)/\Ext wc wx)
      case first=>
       have HB:=Hx (show levB T j i=true by unfold levB;rw [qo.out,yO HX.out];rfl);have qP:decide ((-1:Int)<0)=true:=rfl;refine jzh (by kernel_rfl) (by kernel_rfl) ?_
       repeat (go_big_quiet_step (fail))
       refine wpQuiet_nil ?_;rintro _ ⟨x,rfl⟩;go_wp2;go_meet;exact⟨by rw [HB.out],x.ext⟩
      case rest=>
       obtain⟨rfl,qe⟩:=hcut;have E2:=Hx (E5.out.tr qe);have G2:=Hx (And.intro (G5.out.1.keep qe) (G5.out.2.keep qe));have L2:=Hx (And.intro (L5.out.1.keep qe) (L5.out.2.keep qe));clear qe E5 G5 L5;cases hc:levB T j i with
       |false=>
        have qa:=Hx (show Sx.levN T j (i+1)=Sx.levN T j i by rw [HS.out,hc];rfl);have qg:=Hx (show lq T j (i+1)=lq T j i by unfold lq;rw [qa.out]);go_wp2
        go_roundg (L.m-(i+1))
        case measure=>omega
        case rel=>exact⟨i+1,rfl,by omega,by go_num,by rw [qa.out,qo.out];rfl,Hx ⟨E2.out,_,_,_,_,_,_,_,L2.out.1,by rw [qg.out];exact L2.out.2⟩⟩
       |true=>
        have qa:=Hx (show Sx.levN T j (i+1)=some i by rw [HS.out,hc];rfl);have qg:=Hx (show lq T j (i+1)=Sx.quo T j i by unfold lq;rw [qa.out]);obtain⟨⟨s0,s1,s2⟩,_⟩:=G2.out.1.three;obtain⟨⟨p0,p1,p2⟩,f0,f1,f2⟩:=L2.out.1.three;obtain⟨r1,r2⟩:=jzae (w:=w) G2.out.2 L2.out.1 (yX _) E2.out;have b3:=((L2.out.1.set_ 0 (.bool ns)).set_ 1 (.slice A3 l3 c3)).set_ 2 (.slice qt qw qx);have RF:=Hx (fun wx (hx:Ext _ wx)=>And.intro (b3.keep hx) (And.intro (r1.keep hx) (r2.tr hx)));clear r1 r2 hc b3;go_wp2
        go_region
        all_goals
         go_wp2
         go_roundg (L.m-(i+1))
         case measure=>omega
         case rel=>exact⟨i+1,rfl,by omega,by go_num,by rw [qa.out];rfl,Hx (by
          first
          |(obtain⟨u1,u2,u3⟩:=RF.out _ ((Ext.refl _).drewN 1)
            exact⟨u3,_,_,_,_,_,_,_,u1,by rw [qg.out];exact u2⟩)
          |(obtain⟨u1,u2,u3⟩:=RF.out _ (Ext.refl _)
            exact⟨u3,_,_,_,_,_,_,_,u1,by rw [qg.out];exact u2⟩))⟩
     |some b=>
      have qo:=Hx hlv;have ve:b<i:=(Sx.levN_some T j i hlv).1;have q9:=Hx (show lq T j i=Sx.quo T j b by unfold lq;rw [hlv]);have SQ:=Hx (show SzQ (Sx.quo T j i) (2*P)/\SzQ (Sx.quo T j b) (2*P)from by
       have qO:b<T.rows.length:=(by omega);have h1:∀k,k<T.rows.length->0<Sx.at_ (T.row k).co j->SzQ (Sx.quo T j k) (2*P):=fun k hk hp=>by
        have:=(H.out.2.2.re k hk).div (H.out.2.2.co k hk _ (yJ (jzv (show j<(T.row k).co.length by rw [H.out.2.1.cl k hk,qY.out];exact hj)))) (fun e=>by rw [e]at hp;exact absurd hp Rat.lt_irrefl);exact this.mono (by omega)
       exact⟨h1 i qI HX.out,h1 b qO (Sx.levN_some T j i hlv).2.1⟩)
      have q2:optN (some b)=(b:Int):=rfl;rw [q2];have q1:decide ((0:Int)<=(b:Int))=true:=yO (by omega);obtain⟨⟨s0,s1,s2⟩,_⟩:=G.out.2.1.three;obtain⟨⟨p0,p1,p2⟩,_⟩:=LC.out.1.three;obtain⟨g1,g2⟩:=G.out.2.2.1.lens SQ.out.1;have qL:=LC.out.2;rw [q9.out]at qL;obtain⟨g3,g4⟩:=qL.lens SQ.out.2;have qT:=Hx qL;clear hlv qL
      go_wp2_with fail
      refine(jz4 ns nl A3 l3 c3 qt qw qx Al ll cl qj qm qn (Sx.quo T j i) (Sx.quo T j b) wc G.out.2.2.1 qT.out (by omega) (by omega) (by omega) (by omega)).mono ?_;rintro e w5 ⟨rfl,x5⟩;generalize hord:cmpQ (Sx.quo T j i) (Sx.quo T j b)=ord;have qp:=Hx hord;clear hord;have E5:=Hx (EC.out.tr x5);have G5:=Hx (And.intro (G.out.2.1.keep x5) (G.out.2.2.1.keep x5));have L5:=Hx (And.intro (LC.out.1.keep x5) (LC.out.2.keep x5));clear x5 G EC LC qT s0 s1 s2 p0 p1 p2
      go_upto_region 11 with fail
      go_cut [67] (fun s wx=>s=.bool (levB T j i)/\Ext w5 wx)
      case first=>
       rcases cmp3 (Sx.quo T j i) (Sx.quo T j b)with⟨e,hlt⟩|⟨e,heq⟩|⟨e,hgt⟩
       ·obtain rfl:=qp.out.symm.trans e
        have HB:=Hx (show levB T j i=true by
         unfold levB;rw [qo.out,yO HX.out,Bool.true_and];exact yO (.inl hlt))
        have qP:decide ((-1:Int)<0)=true:=rfl;refine jzh (by kernel_rfl) (by kernel_rfl) ?_
        repeat (go_big_quiet_step (fail))
        refine wpQuiet_nil ?_;rintro _ ⟨x,rfl⟩;go_wp2;go_meet;exact⟨by rw [HB.out],x.ext⟩
       ·obtain rfl:=qp.out.symm.trans e
        have HB:=Hx (show decide (((Sx.atN T.bas i:Nat):Int)<((Sx.atN T.bas b:Nat):Int))=levB T j i by
         unfold levB;rw [qo.out,yO HX.out,Bool.true_and,heq];simp [Rat.lt_irrefl])
        have qP:decide ((0:Int)<0)=false:=rfl;have q4:decide ((0:Int)=0)=true:=rfl;have z1:=XW.cell _ _ _ (yL qO E5.out.size) (cellK E5.out Q1.out);have zi:=XW.cell _ _ _ (yL qB E5.out.size) (cellK E5.out (jzbm qX.out qy));have zb:=XW.cell _ _ _ (yL qB E5.out.size) (cellK E5.out (jzbm qX.out (show b<L.m by omega)));refine jzh (by kernel_rfl) (by kernel_rfl) ?_
        repeat (go_big_quiet_step (fail))
        refine wpQuiet_nil ?_;rintro _ ⟨x,rfl⟩;go_wp2;go_meet;refine⟨?_,x.ext⟩;rw [<-HB.out]
        first|rfl|simp
       ·obtain rfl:=qp.out.symm.trans e
        have HB:=Hx (show levB T j i=false by
         unfold levB;rw [qo.out,yO HX.out,Bool.true_and];refine yP fun h=>?_;rcases h with h|⟨h,_⟩
         ·grind
         ·grind)
        have qP:decide ((1:Int)<0)=false:=rfl;have q4:decide ((1:Int)=0)=false:=rfl;refine jzh (by kernel_rfl) (by kernel_rfl) ?_
        repeat (go_big_quiet_step (fail))
        refine wpQuiet_nil ?_;rintro _ ⟨x,rfl⟩;go_wp2;go_meet;exact⟨by rw [HB.out],x.ext⟩
      case rest=>
       obtain⟨rfl,qe⟩:=hcut;have E2:=Hx (E5.out.tr qe);have G2:=Hx (And.intro (G5.out.1.keep qe) (G5.out.2.keep qe));have L2:=Hx (And.intro (L5.out.1.keep qe) (L5.out.2.keep qe));clear qe E5 G5 L5;cases hc:levB T j i with
       |false=>
        have qa:=Hx (show Sx.levN T j (i+1)=Sx.levN T j i by rw [HS.out,hc];rfl);have qg:=Hx (show lq T j (i+1)=lq T j i by unfold lq;rw [qa.out]);go_wp2
        go_roundg (L.m-(i+1))
        case measure=>omega
        case rel=>exact⟨i+1,rfl,by omega,by go_num,by rw [qa.out,qo.out];rfl,Hx ⟨E2.out,_,_,_,_,_,_,_,L2.out.1,by rw [qg.out];exact L2.out.2⟩⟩
       |true=>
        have qa:=Hx (show Sx.levN T j (i+1)=some i by rw [HS.out,hc];rfl);have qg:=Hx (show lq T j (i+1)=Sx.quo T j i by unfold lq;rw [qa.out]);obtain⟨⟨s0,s1,s2⟩,_⟩:=G2.out.1.three;obtain⟨⟨p0,p1,p2⟩,f0,f1,f2⟩:=L2.out.1.three;obtain⟨r1,r2⟩:=jzae (w:=w) G2.out.2 L2.out.1 (yX _) E2.out;have b3:=((L2.out.1.set_ 0 (.bool ns)).set_ 1 (.slice A3 l3 c3)).set_ 2 (.slice qt qw qx);have RF:=Hx (fun wx (hx:Ext _ wx)=>And.intro (b3.keep hx) (And.intro (r1.keep hx) (r2.tr hx)));clear r1 r2 hc b3;go_wp2
        go_region
        all_goals
         go_wp2
         go_roundg (L.m-(i+1))
         case measure=>omega
         case rel=>exact⟨i+1,rfl,by omega,by go_num,by rw [qa.out];rfl,Hx (by
          first
          |(obtain⟨u1,u2,u3⟩:=RF.out _ ((Ext.refl _).drewN 1)
            exact⟨u3,_,_,_,_,_,_,_,u1,by rw [qg.out];exact u2⟩)
          |(obtain⟨u1,u2,u3⟩:=RF.out _ (Ext.refl _)
            exact⟨u3,_,_,_,_,_,_,_,u1,by rw [qg.out];exact u2⟩))⟩
   ·have hs:decide (sgnI (Sx.at_ (T.row i).co j)<=0)=true:=yO ((sgn_le _).2 hx)
    have qV:levB T j i=false:=(by unfold levB;rw [yP hx];rfl);have qa:=Hx (show Sx.levN T j (i+1)=Sx.levN T j i by rw [HS.out,qV];rfl);have qg:=Hx (show lq T j (i+1)=lq T j i by unfold lq;rw [qa.out]);have I2:=Hx (show Ext w w4/\∃nl Al ll cl qj qm qn,Blk w4 w.heap.size 35 #[.bool nl,.slice Al ll cl,.slice qj qm qn]/\RatR w4 nl Al ll cl qj qm qn (lq T j (i+1))from by
     obtain⟨EI,nl,Al,ll,cl,qj,qm,qn,qh,qk⟩:=I.out;exact⟨EX.out.tr E4.out,nl,Al,ll,cl,qj,qm,qn,qh.keep E4.out,by rw [qg.out];exact qk.keep E4.out⟩)
    clear hx qV I;generalize sgnI (Sx.at_ (T.row i).co j)=sg at*;go_wp2
    go_roundg (L.m-(i+1))
    case measure=>omega
    case rel=>exact⟨i+1,rfl,by omega,by go_num,by rw [qa.out],I2⟩
  ·obtain rfl:i=L.m:=by omega
   go_wp2;go_ret;exact⟨by rw [HE.out];rfl,I.out.1⟩
end Go.Proofs.YthbmikapohlikaaGreatDoor
