/- Part 20 of 24 of what the Flows claims share (the white space is struck, the texts are joined). -/
import Derived.Deep.MidRow
import Derived.Test.YthbmikapohlikaaGreatDoorZ19
set_option linter.unusedVariables false
set_option linter.unusedSimpArgs false
set_option maxRecDepth 100000
set_option maxHeartbeats 8000000
namespace Go.Proofs.YthbmikapohlikaaGreatDoor
open Go.RowKit
theorem Tryz.infoKLs:(Tryz.prog.info? 210).map (·.size)=some 4:=by kernel_rfl
theorem oc4{a b c d:Value}(h0:a.oneCell'=true)(h1:b.oneCell'=true)(h2:c.oneCell'=true)(h3:d.oneCell'=true):(#[a,b,c,d]:Array Value).all (·.oneCell')=true:=by simp [h0,h1,h2,h3]
theorem KRow.blkN{t:Tp}{w:World}{B g n c:Nat}{hs:List (Nat×List Nat)}(h:KRow t w B g n c hs){cs:Array Value}(hb:Blk w g 210 cs):n*4<=cs.size:=by
 obtain⟨css,_,_,h3,_⟩:=h.row;rcases h3.2 with⟨e,_⟩|⟨g',cap,cur,e,_,h5,h6,_,h8,_⟩
 ·cases e
 ·injection e with e e2 e3
  injection e with e
  injection e with e
  subst e e3;unfold Blk at hb;rw [show w.heap[g]?=_ from h5]at hb;injection hb with hb
  injection hb with hb
  subst hb;omega
theorem jzdu(t:Tp)(B g n c i j:Nat)(hs:List (Nat×List Nat))(x y:Nat×List Nat)(w:World)(h:KRow t w B g n c hs)(hx:hs[i]?=some x)(hy:hs[j]?=some y)(hn:n<=1000000):
  Calls Tryz.prog 256 #[.slice (some ⟨g,0,none⟩) n c,.int .i64 (i:Int),.int .i64 (j:Int)] w fun e w'=>e=.returned (.tuple #[])/\KRow t w' B g n c (swapG hs i j)/\w.grownBy w' (some g):=by
 obtain⟨AX,kx,⟨x0,x1,x2,x3⟩,⟨p0,p1,p2,p3⟩,qk,rx⟩:=h.at_ hx;obtain⟨AY,ky,⟨y0,y1,y2,y3⟩,⟨q0,q1,q2,q3⟩,qj,ry⟩:=h.at_ hy;have hi:i<n:=(by have:=(yH.1 hx).1;have:=h.len;omega);have hj:j<n:=(by have:=(yH.1 hy).1;have:=h.len;omega);have iN:(i:Int)<(n:Int):=(by omega);have jN:(j:Int)<(n:Int):=(by omega);obtain⟨cb,hb⟩:=h.blk;have qf:Blk w.drew g 210 cb:=hb;have TH:=fun(W:World) (cs:Array Value) (hB:Blk W g 210 cs) (hsz:cs.size=cb.size) (m:Nat) (hm:m<n)=>(show W.there g (m*4) 4 from fun q hq=>⟨by
  rw [hB.cell,Array.getElem?_eq_getElem (by rw [hsz];have:=h.blkN hb;omega)];rfl,hB.frozen _⟩)
 have T0:=Hx (TH _ _ qf rfl i hi);have T1:=Hx (TH _ _ ((((qf.set_ (i*4) (.int .i64 (y.1:Int))).set_ (i*4+1) (.int .i64 (kcost t y.2:Nat))).set_ (i*4+2) (.int .i64 0)).set_ (i*4+3) (.slice AY y.2.length ky)) (by simp) j hj);have qg:=grown4 w.drew g i (.int .i64 (y.1:Int)) (.int .i64 (kcost t y.2:Nat)) (.int .i64 0) (.slice AY y.2.length ky);have XD:=show Ext w w.drew from(Ext.refl w).drewN 1;have qa:=Hx (And.intro (((h.keep XD).put (z:=y) hi qj (ry.keep XD)).put (z:=x) hj qk ((rx.keep XD).other qg qf (by decide))) ((show w.grownBy w.drew (some g)from⟨XD.os,XD.tape,XD.output,XD.size,fun b hb _=>XD.block b hb⟩).trans (qg.trans (grown4 _ g j (.int .i64 (x.1:Int)) (.int .i64 (kcost t x.2:Nat)) (.int .i64 0) (.slice AX x.2.length kx)))));have SW:=Hx (jzgp hx hy);have HI:=Hx Tryz.infoKLs;obtain⟨px,x⟩:=x;obtain⟨py,y⟩:=y;simp only at x0 x1 x3 y0 y1 y3 qa SW T1⊢;generalize kcost t x=ca at*;generalize kcost t y=cb at*;clear qg rx ry hx hy h hb qf TH XD;obtain⟨W1,qe⟩:∃W1,W1=w.drew.setCells g (i*4) (#[.int .i64 (py:Int),.int .i64 (cb:Int),.int .i64 0,.slice AY y.length ky]:Array Value).toList:=⟨_,rfl⟩;obtain⟨W2,qh⟩:∃W2,W2=W1.setCells g (j*4) (#[.int .i64 (px:Int),.int .i64 (ca:Int),.int .i64 0,.slice AX x.length kx]:Array Value).toList:=⟨_,rfl⟩;have T1:=Hx (show W1.there g (j*4) 4 from by rw [qe];exact T1.out);have qa:=Hx (show KRow t W2 B g n c ((hs.set i (py,y)).set j (px,x))/\w.grownBy W2 (some g)from by rw [qh,qe];exact qa.out);have qi:=Hx qe;have qm:=Hx qh;clear qe qh
 go_enter Tryz.func256,Tryz.ntmps256
 go_wp2;refine wp_region_any (by kernel_rfl) ?_;try (change wpAny _ _ _ _ _ _ _ (World.drew _))
 refine wpAny_take (i:=0) (v:=?_) rfl (by kernel_rfl) (by kernel_rfl) (by kernel_rfl) (fun _ _ _ h=>h) (Or.inl ⟨by rfl,?_⟩) ?_;rotate_left
 focus (intro w;go_simp;try with_reducible rfl)
 refine wpAny_take (i:=1) (v:=?_) rfl (by kernel_rfl) (by kernel_rfl) (by kernel_rfl) (fun _ _ _ h=>h) (Or.inl ⟨by rfl,?_⟩) ?_;rotate_left
 focus (intro w;go_simp;try with_reducible rfl)
 refine wpAny_take (i:=2) (v:=?_) rfl (by kernel_rfl) (by kernel_rfl) (by kernel_rfl) (fun _ _ _ h=>h) (Or.inl ⟨by rfl,?_⟩) ?_;rotate_left
 focus (intro w;go_simp;try with_reducible rfl)
 refine wpAny_take (i:=3) (v:=?_) rfl (by kernel_rfl) (by kernel_rfl) (by kernel_rfl) (fun _ _ _ h=>h) (Or.inl ⟨by rfl,?_⟩) ?_;rotate_left
 focus (intro w;go_simp;try with_reducible rfl)
 refine wpAny_take (i:=4) (v:=?_) rfl (by kernel_rfl) (by kernel_rfl) (by kernel_rfl) (fun _ _ _ h=>h) (Or.inl ⟨by rfl,?_⟩) ?_;rotate_left
 focus (intro w;go_simp;try with_reducible rfl)
 refine wpAny_take (i:=5) (v:=?_) rfl (by kernel_rfl) (by kernel_rfl) (by kernel_rfl) (fun _ _ _ h=>h) (Or.inl ⟨by rfl,?_⟩) ?_;rotate_left
 focus (intro w;go_simp;try with_reducible rfl)
 refine wpAny_take (i:=6) (v:=?_) rfl (by kernel_rfl) (by kernel_rfl) (by kernel_rfl) (fun _ _ _ h=>h) (Or.inl ⟨by rfl,?_⟩) ?_;rotate_left
 focus (intro w;go_simp;try with_reducible rfl)
 refine wpAny_take (i:=8) (v:=?_) rfl (by kernel_rfl) (by kernel_rfl) (by kernel_rfl) (fun _ _ _ h=>h) (Or.inl ⟨by rfl,?_⟩) ?_;rotate_left
 focus (intro w;go_simp;try with_reducible rfl)
 refine wpAny_take (i:=9) (v:=?_) rfl (by kernel_rfl) (by kernel_rfl) (by kernel_rfl) (fun _ _ _ h=>h) (Or.inl ⟨by rfl,?_⟩) ?_;rotate_left
 focus (intro w;go_simp;try with_reducible rfl)
 refine wpAny_take (i:=10) (v:=?_) rfl (by kernel_rfl) (by kernel_rfl) (by kernel_rfl) (fun _ _ _ h=>h) (Or.inl ⟨by rfl,?_⟩) ?_;rotate_left
 focus (intro w;go_simp;try with_reducible rfl)
 refine wpAny_ready (rs:=[7,11]) (by kernel_rfl) (by simp) ?_;refine AllReady.cons rfl (fun K hK=>?_) (AllReady.cons rfl (fun K hK=>?_) AllReady.nil);rotate_left
 focus
  go_simp;refine hK _ _ ?_;clear hK K;refine wpAny_ready (rs:=[7]) (by kernel_rfl) (by simp) ?_;refine AllReady.cons rfl (fun K hK=>?_) AllReady.nil;go_simp;refine hK _ _ ?_;clear hK K
 rotate_left
 focus
  go_simp;refine hK _ _ ?_;clear hK K;refine wpAny_ready (rs:=[11]) (by kernel_rfl) (by simp) ?_;refine AllReady.cons rfl (fun K hK=>?_) AllReady.nil;go_simp;refine hK _ _ ?_;clear hK K
 all_goals
  refine wpAny_take (i:=12) (v:=?_) rfl (by kernel_rfl) (by kernel_rfl) (by kernel_rfl) (fun _ _ _ h=>h) (Or.inl ⟨by rfl,?_⟩) ?_;rotate_left
  focus (intro w;go_simp;try with_reducible rfl)
  refine wpAny_ready (rs:=[13]) (by kernel_rfl) (by simp) ?_;refine AllReady.cons rfl (fun K hK=>?_) AllReady.nil;rw [if_pos (by rfl)];refine wp_store_mid 210 (.tmp 18) (.tmp 13) (by rfl) g (i*4) #[.int .i64 (py:Int),.int .i64 (cb:Int),.int .i64 0,.slice AY y.length ky] (by rfl) (by rfl) T0.out HI.out (oc4 rfl rfl rfl rfl) ?_;rw [<-qi.out];refine hK _ _ ?_;clear hK K;refine wpAny_take (i:=14) (v:=?_) rfl (by kernel_rfl) (by kernel_rfl) (by kernel_rfl) (fun _ _ _ h=>h) (Or.inl ⟨by rfl,?_⟩) ?_;rotate_left
  focus (intro w;go_simp;try with_reducible rfl)
  refine wpAny_ready (rs:=[15]) (by kernel_rfl) (by simp) ?_;refine AllReady.cons rfl (fun K hK=>?_) AllReady.nil;rw [if_pos (by rfl)];refine wp_store_mid 210 (.tmp 19) (.tmp 17) (by rfl) g (j*4) #[.int .i64 (px:Int),.int .i64 (ca:Int),.int .i64 0,.slice AX x.length kx] (by rfl) (by rfl) T1.out HI.out (oc4 rfl rfl rfl rfl) ?_;rw [<-qm.out];refine hK _ _ ?_;clear hK K;refine wpAny_done (by kernel_rfl) ?_ _;go_wp2
  go_end0
  exact⟨rfl,by rw [SW.out];exact qa.out.1,qa.out.2⟩
theorem wrapChk(P:Program)(ts:Array TypeId)(xt:TypeId)(a:Addr)(x y:String)(w:World):(Builtin.ssaWrapNilChk_ ts xt #[.pointer (some a),strVal x,strVal y]).run P w=.ok (.pointer (some a)) w:=rfl
theorem jzlu{P:Program}{K t e f:Nat}{name:String}{i:TypeInfo}{m:Method}(hi:P.info? t=some i)(hm:i.methods.find? (fun x=>x.name==name)=some m)(hp:m.path=#[])(hf:m.func=some (f,false))(ht:P.underlying t=some (.pointer e))(a:Addr)(v:Value)(w:World)(hl:(loadVar e a).run P w=.ok v w):
  (method (K+1) t (.pointer (some a)) name).run P w=.ok (f,v) w:=by
 have qa:(method (K+1) t (.pointer (some a)) name).run P w=((loadVar e a).run P w).andThen fun v w'=>.ok (f,v) w':=by
  unfold method;simp [typeInfo,hi,hm,hp,hf,follow,receiverAt,run_underlying ht,Place.get,wrapChk,asAddr,go_sem]
 rw [qa,hl];rfl
theorem load_q(q n c:Nat)(A:Option Addr)(w:World)(hb:w.cell? ⟨q,0,none⟩=some (.slice A n c)):(loadVar 212 ⟨q,0,none⟩).run Tryz.prog w=.ok (.slice A n c) w:=by
 simp [loadVar,go_sem,hb]
theorem mVal(name:String)(f:Nat)(h:((Tryz.prog.info? 208).bind fun i=>(i.methods.find? (fun x=>x.name==name)).map fun m=>(m.path,m.func))=some (#[],some (f,false)))(q n c:Nat)(A:Option Addr)(w:World)(hb:w.cell? ⟨q,0,none⟩=some (.slice A n c)):(method 430 208 (.pointer (some ⟨q,0,none⟩)) name).run Tryz.prog w=.ok (f,.slice A n c) w:=by
 cases hi:Tryz.prog.info? 208 with
 |none=>rw [hi]at h;cases h
 |some i=>
  rw [hi]at h;cases hm:i.methods.find? (fun x=>x.name==name)with
  |none=>simp [hm]at h
  |some m=>
   simp [hm]at h;exact jzlu (K:=429) hi hm h.1 h.2 Tryz.underlying208 _ _ w (load_q q n c A w hb)
theorem mLen(q n c:Nat)(A:Option Addr)(w:World)(hb:w.cell? ⟨q,0,none⟩=some (.slice A n c)):(method 430 208 (.pointer (some ⟨q,0,none⟩)) "Len").run Tryz.prog w=.ok (132,.slice A n c) w:=mVal "Len" 132 (by kernel_rfl) q n c A w hb
theorem mLess(q n c:Nat)(A:Option Addr)(w:World)(hb:w.cell? ⟨q,0,none⟩=some (.slice A n c)):(method 430 208 (.pointer (some ⟨q,0,none⟩)) "Less").run Tryz.prog w=.ok (253,.slice A n c) w:=mVal "Less" 253 (by kernel_rfl) q n c A w hb
theorem mSwap(q n c:Nat)(A:Option Addr)(w:World)(hb:w.cell? ⟨q,0,none⟩=some (.slice A n c)):(method 430 208 (.pointer (some ⟨q,0,none⟩)) "Swap").run Tryz.prog w=.ok (256,.slice A n c) w:=mVal "Swap" 256 (by kernel_rfl) q n c A w hb
theorem mPush(q:Nat)(w:World):(method 430 208 (.pointer (some ⟨q,0,none⟩)) "Push").run Tryz.prog w=.ok (255,.pointer (some ⟨q,0,none⟩)) w:=by kernel_rfl
theorem mPop(q:Nat)(w:World):(method 430 208 (.pointer (some ⟨q,0,none⟩)) "Pop").run Tryz.prog w=.ok (254,.pointer (some ⟨q,0,none⟩)) w:=by kernel_rfl
theorem jzlv{t:Tp}(o:LeO (leK t)){x y:Nat×List Nat}(h:ordK t x.2 y.2<0):leK t x y:=by
 rcases o.tot x y with h1|h1
 ·exact h1
 ·exact absurd h h1
theorem KQu.swap{t:Tp}{w w':World}{B q g n c:Nat}{hs hs':List (Nat×List Nat)}(h:KQu t w B q g n c hs)(hr:KRow t w' B g n c hs')(hg:w.grownBy w' (some g)):KQu t w' B q g n c hs'/\KF w w' q g g:=by
 obtain⟨cg,qa⟩:=h.row.blk;exact⟨⟨(hg.block q h.box.lt (fun e=>by injection e with e;exact h.box.ne_ qa (by decide) e)).trans h.box,hr⟩,KF.of_row q hg⟩
theorem kUp_ok(t:Tp)(o:LeO (leK t))(B q g n c j:Nat)(hs:List (Nat×List Nat))(w:World)(h:KQu t w B q g n c hs)(hup:UpI (leK t) hs n j)(hj:j<n)(hlen:∀z∈hs,z.2.length<=1000000)(hn:n<=1000000):
  Calls Tryz.prog 179 #[.iface 208 (.pointer (some ⟨q,0,none⟩)),.int .i64 (j:Int)] w fun e w'=>e=.returned (.tuple #[])/\∃qa,qa.Perm hs/\HeapN (leK t) qa n/\KQu t w' B q g n c qa/\KF w w' q g g:=by
 have S0:=Hx (show hs.Perm hs/\UpI (leK t) hs n j/\KQu t w B q g n c hs/\KF w w q g g from⟨.refl _,hup,h,KF.of_ext q g (Ext.refl _)⟩);have HL:=Hx hlen;have O:=Hx o;clear h hup hlen o
 go_enter Tryz.func179,Tryz.ntmps179
 go_wp2
 go_loopg [1,4] j (fun m jt _ wr=>∃(k:Nat) (qa:List (Nat×List Nat)),k=m/\k<n/\jt=.int .i64 (k:Int)/\Hid (qa.Perm hs/\UpI (leK t) qa n k/\KQu t wr B q g n c qa/\KF w wr q g g))
 case atStart=>exact⟨j,hs,rfl,hj,rfl,S0⟩
 case round=>
  obtain⟨k,qa,rfl,hk,rfl,L⟩:=hrel;clear S0;by_cases h0:k=0
  ·subst h0
   have qf:=Hx (show∃qa,qa.Perm hs/\HeapN (leK t) qa n/\KQu t wr B q g n c qa/\KF w wr q g g from⟨qa,L.out.1,L.out.2.1.done (.inl rfl),L.out.2.2⟩);have qi:((0:Int)-1).tdiv 2=0:=(by decide);clear L;go_wp2
   go_end0
   exact⟨rfl,qf.out⟩
  ·obtain⟨i,hi⟩:∃i,i=(k-1)/2:=⟨_,rfl⟩
   have qm:i<k:=(by omega);have qk:((k:Int)-1).tdiv 2=(i:Int):=by
    rw [Int.tdiv_eq_ediv_of_nonneg (by omega)];omega
   have qj:((i:Int)==(k:Int))=false:=yK.2 (by omega);have HI:=Hx hi;have hl:=L.out.2.2.1.row.len;obtain⟨x,hx⟩:∃x,qa[k]?=some x:=⟨_,yG (by omega)⟩;obtain⟨y,hy⟩:∃y,qa[i]?=some y:=⟨_,yG (by omega)⟩;have qg:=HL.out x (L.out.1.mem_iff.1 (yJ hx));have qh:=HL.out y (L.out.1.mem_iff.1 (yJ hy));have hm:=mLess q n c (some ⟨g,0,none⟩) wr L.out.2.2.1.box.one.1;have HX:=Hx (And.intro hx hy);clear hi hl hx hy
   go_wp2_with fail
   refine(jzdt t B g n c k i qa x y _ L.out.2.2.1.row HX.out.1 HX.out.2 qg qh hn).mono ?_;rintro e w1 ⟨rfl,x1⟩;have L1:=Hx (show qa.Perm hs/\UpI (leK t) qa n k/\KQu t w1 B q g n c qa/\KF w w1 q g g from⟨L.out.1,L.out.2.1,L.out.2.2.1.keep x1,L.out.2.2.2.tr (KF.of_ext q g x1)⟩);clear L x1 hm;by_cases qe:ordK t x.2 y.2<0
   ·have hd:decide (ordK t x.2 y.2<0)=true:=yO qe
    rw [hd];have UP:=Hx (show UpI (leK t) (swapG qa i k) n i from by
     have:=L1.out.2.1.step O.out (by omega) hk (by rw [<-HI.out];exact HX.out.2) HX.out.1 (jzlv O.out qe);rw [<-HI.out]at this;exact this)
    have PM:=Hx ((jzbn HX.out.2 HX.out.1).trans L1.out.1);have hm:=mSwap q n c (some ⟨g,0,none⟩) w1 L1.out.2.2.1.box.one.1;clear qe hd
    go_wp2_with fail
    refine(jzdu t B g n c i k qa y x _ L1.out.2.2.1.row HX.out.2 HX.out.1 hn).mono ?_;rintro e w2 ⟨rfl,r2,g2⟩;have Q2:=L1.out.2.2.1.swap r2 g2;have L2:=Hx (show(swapG qa i k).Perm hs/\UpI (leK t) (swapG qa i k) n i/\KQu t w2 B q g n c (swapG qa i k)/\KF w w2 q g g from⟨PM.out,UP.out,Q2.1,L1.out.2.2.2.tr Q2.2⟩);clear r2 g2 Q2 L1 UP PM HX hm;go_wp2
    go_roundg i
    case measure=>omega
    case rel=>exact⟨i,swapG qa i k,rfl,by omega,rfl,L2⟩
   ·have hd:decide (ordK t x.2 y.2<0)=false:=yP qe
    rw [hd];have qf:=Hx (show∃qa,qa.Perm hs/\HeapN (leK t) qa n/\KQu t w1 B q g n c qa/\KF w w1 q g g from⟨qa,L1.out.1,L1.out.2.1.done (.inr (fun a b ha hb=>by
     rw [<-HI.out,HX.out.2]at ha;rw [HX.out.1]at hb;injection ha with ha;injection hb with hb
     subst ha hb;exact qe)),L1.out.2.2⟩)
    clear L1 HX qe hd;go_wp2
    go_end0
    exact⟨rfl,qf.out⟩
theorem kDown_ok(t:Tp)(o:LeO (leK t))(B q g n c m:Nat)(hs:List (Nat×List Nat))(w:World)(h:KQu t w B q g n c hs)(hdn:DownI (leK t) hs m 0)(hmn:m<=n)(hlen:∀z∈hs,z.2.length<=1000000)(hn:n<=1000000):
  Calls Tryz.prog 177 #[.iface 208 (.pointer (some ⟨q,0,none⟩)),.int .i64 0,.int .i64 (m:Int)] w fun e w'=>(∃b:Bool,e=.returned (.bool b))/\∃qa,qa.Perm hs/\HeapN (leK t) qa m/\(∀k,m<=k->qa[k]?=hs[k]?)/\KQu t w' B q g n c qa/\KF w w' q g g:=by
 have S0:=Hx (show DownI (leK t) hs m 0/\KQu t w B q g n c hs/\KF w w q g g from⟨hdn,h,KF.of_ext q g (Ext.refl _)⟩);have HL:=Hx hlen;have O:=Hx o;clear h hdn hlen o
 go_enter Tryz.func177,Tryz.ntmps177
 go_wp2
 go_loopg [7,8,9,10] m (fun mm it _ _ _ wr=>∃(i:Nat) (qa:List (Nat×List Nat)),m-i=mm/\i<=m/\it=.int .i64 (i:Int)/\Hid (qa.Perm hs/\DownI (leK t) qa m i/\(∀k,m<=k->qa[k]?=hs[k]?)/\KQu t wr B q g n c qa/\KF w wr q g g))
 case atStart=>exact⟨0,hs,rfl,yZ _,rfl,Hx ⟨.refl _,S0.out.1,fun _ _=>rfl,S0.out.2.1,S0.out.2.2⟩⟩
 case round=>
  obtain⟨i,qa,rfl,qF,rfl,L⟩:=hrel;clear S0;obtain⟨j1,qy⟩:∃j1,j1=2*i+1:=⟨_,rfl⟩;have qG:(2:Int)*(i:Int)+1=(j1:Int):=(by omega);have qi:=Hx qy;by_cases h1:m<=j1
  ·have qI:(m:Int)<=(j1:Int):=by omega
   have qh:=Hx (show∃qa,qa.Perm hs/\HeapN (leK t) qa m/\(∀k,m<=k->qa[k]?=hs[k]?)/\KQu t wr B q g n c qa/\KF w wr q g g from⟨qa,L.out.1,L.out.2.1.done (fun k a b hk0 hkm hki=>by omega),L.out.2.2⟩);clear L qy;go_wp2;go_ret;exact⟨⟨_,rfl⟩,qh.out⟩
  ·have qC:¬(m:Int)<=(j1:Int):=by omega
   have qD:¬((j1:Int)<0):=(by omega);have hl:=L.out.2.2.2.1.row.len;obtain⟨x,hx⟩:∃x,qa[i]?=some x:=⟨_,yG (by omega)⟩;obtain⟨y,hy⟩:∃y,qa[j1]?=some y:=⟨_,yG (by omega)⟩;have qt:=HL.out x (L.out.1.mem_iff.1 (yJ hx));have qE:=HL.out y (L.out.1.mem_iff.1 (yJ hy));have HX:=Hx (And.intro hx hy);have qm:j1<m:=(by omega);obtain⟨j2,qp⟩:∃j2,j2=j1+1:=⟨_,rfl⟩;have qH:(j1:Int)+1=(j2:Int):=(by omega);have qo:=Hx qp;clear hx hy qy h1;by_cases h2:j2<m
   ·have qz:(j2:Int)<(m:Int):=by omega
    obtain⟨y2,qx⟩:∃y2,qa[j2]?=some y2:=⟨_,yG (by omega)⟩;have qw:=HL.out y2 (L.out.1.mem_iff.1 (yJ qx));have qj:=Hx qx;have qA:=mLess q n c (some ⟨g,0,none⟩) wr L.out.2.2.2.1.box.one.1;clear hl qx qp
    go_wp2_with fail
    refine(jzdt t B g n c j2 j1 qa y2 y _ L.out.2.2.2.1.row qj.out HX.out.2 qw qE hn).mono ?_;rintro e wx ⟨rfl,x2⟩;have M:=Hx (show qa.Perm hs/\DownI (leK t) qa m i/\(∀k,m<=k->qa[k]?=hs[k]?)/\KQu t wx B q g n c qa/\KF w wx q g g from⟨L.out.1,L.out.2.1,L.out.2.2.1,L.out.2.2.2.1.keep x2,L.out.2.2.2.2.tr (KF.of_ext q g x2)⟩);clear L x2 qA;by_cases qf:ordK t y2.2 y.2<0
    ·have hd:decide (ordK t y2.2 y.2<0)=true:=yO qf
     rw [hd];obtain⟨z,hz⟩:∃z,z=y2:=⟨_,rfl⟩;have HZ:=Hx (show qa[j2]?=some z by rw [hz];exact qj.out);have qg:=Hx (show(j2-1)/2=i by have:=qi.out;have:=qo.out;omega);have qk:j2<m:=h2;have qe:=Hx (show∀(k:Nat) (c:Nat×List Nat),0<k->k<m->(k-1)/2=i->qa[k]?=some c->leK t z c from fun k c hk0 hkm hki hc=>by
      have:=qi.out;have:=qo.out;rcases(show k=j1\/k=j2 by omega)with e|e
      ·subst e
       rw [HX.out.2]at hc;injection hc with hc;subst hc
       rw [hz];exact jzlv O.out qf
      ·subst e
       rw [HZ.out]at hc;injection hc with hc;subst hc
       exact O.out.refl _)
     clear hd qf hz qj;have qn:=HL.out z (M.out.1.mem_iff.1 (yJ HZ.out));have hm:=mLess q n c (some ⟨g,0,none⟩) wx M.out.2.2.2.1.box.one.1
     go_wp2_with fail
     refine(jzdt t B g n c j2 i qa z x _ M.out.2.2.2.1.row HZ.out HX.out.1 qn qt hn).mono ?_;rintro e w3 ⟨rfl,x3⟩;have M3:=Hx (show qa.Perm hs/\DownI (leK t) qa m i/\(∀k,m<=k->qa[k]?=hs[k]?)/\KQu t w3 B q g n c qa/\KF w w3 q g g from⟨M.out.1,M.out.2.1,M.out.2.2.1,M.out.2.2.2.1.keep x3,M.out.2.2.2.2.tr (KF.of_ext q g x3)⟩);clear M x3 hm;by_cases qf:ordK t z.2 x.2<0
     ·have hd:decide (ordK t z.2 x.2<0)=true:=yO qf
      rw [hd];have DN:=Hx (show DownI (leK t) (swapG qa i j2) m j2 from M3.out.2.1.step O.out (by omega) qk qg.out HX.out.1 HZ.out (jzlv O.out qf) qe.out);have PM:=Hx ((jzbn HX.out.1 HZ.out).trans M3.out.1);have KP:=Hx (show∀k,m<=k->(swapG qa i j2)[k]?=hs[k]? from fun k hk=>by
       rw [jza9 HX.out.1 HZ.out,if_neg (by omega),if_neg (by omega)];exact M3.out.2.2.1 k hk)
      have hm:=mSwap q n c (some ⟨g,0,none⟩) w3 M3.out.2.2.2.1.box.one.1;clear qf hd
      go_wp2_with fail
      refine(jzdu t B g n c i j2 qa x z _ M3.out.2.2.2.1.row HX.out.1 HZ.out hn).mono ?_;rintro e w4 ⟨rfl,r4,g4⟩;have Q4:=M3.out.2.2.2.1.swap r4 g4;have L4:=Hx (show(swapG qa i j2).Perm hs/\DownI (leK t) (swapG qa i j2) m j2/\(∀k,m<=k->(swapG qa i j2)[k]?=hs[k]?)/\KQu t w4 B q g n c (swapG qa i j2)/\KF w w4 q g g from⟨PM.out,DN.out,KP.out,Q4.1,M3.out.2.2.2.2.tr Q4.2⟩);clear r4 g4 Q4 M3 DN PM KP HX HZ qe hm;go_wp2
      go_roundg (m-j2)
      case measure=>omega
      case rel=>exact⟨j2,swapG qa i j2,rfl,by omega,rfl,L4⟩
     ·have hd:decide (ordK t z.2 x.2<0)=false:=yP qf
      rw [hd];have qh:=Hx (show∃qa,qa.Perm hs/\HeapN (leK t) qa m/\(∀k,m<=k->qa[k]?=hs[k]?)/\KQu t w3 B q g n c qa/\KF w w3 q g g from⟨qa,M3.out.1,M3.out.2.1.done (fun k a b hk0 hkm hki ha hb=>by
       rw [HX.out.1]at ha;injection ha with ha
       subst ha;exact O.out.tr _ _ _ (show leK t x z from qf) (qe.out k b hk0 hkm hki hb)),M3.out.2.2⟩)
      clear M3 HX HZ qe qf hd;go_wp2;go_ret;exact⟨⟨_,rfl⟩,qh.out⟩
    ·have hd:decide (ordK t y2.2 y.2<0)=false:=yP qf
     rw [hd];obtain⟨z,hz⟩:∃z,z=y:=⟨_,rfl⟩;have HZ:=Hx (show qa[j1]?=some z by rw [hz];exact HX.out.2);have qg:=Hx (show(j1-1)/2=i by have:=qi.out;omega);have qk:j1<m:=qm;have qe:=Hx (show∀(k:Nat) (c:Nat×List Nat),0<k->k<m->(k-1)/2=i->qa[k]?=some c->leK t z c from fun k c hk0 hkm hki hc=>by
      have:=qi.out;have:=qo.out;rcases(show k=j1\/k=j2 by omega)with e|e
      ·subst e
       rw [HZ.out]at hc;injection hc with hc;subst hc
       exact O.out.refl _
      ·subst e
       rw [qj.out]at hc;injection hc with hc;subst hc
       rw [hz];exact qf)
     clear hd qf hz qj;have qn:=HL.out z (M.out.1.mem_iff.1 (yJ HZ.out));have hm:=mLess q n c (some ⟨g,0,none⟩) wx M.out.2.2.2.1.box.one.1
     go_wp2_with fail
     refine(jzdt t B g n c j1 i qa z x _ M.out.2.2.2.1.row HZ.out HX.out.1 qn qt hn).mono ?_;rintro e w3 ⟨rfl,x3⟩;have M3:=Hx (show qa.Perm hs/\DownI (leK t) qa m i/\(∀k,m<=k->qa[k]?=hs[k]?)/\KQu t w3 B q g n c qa/\KF w w3 q g g from⟨M.out.1,M.out.2.1,M.out.2.2.1,M.out.2.2.2.1.keep x3,M.out.2.2.2.2.tr (KF.of_ext q g x3)⟩);clear M x3 hm;by_cases qf:ordK t z.2 x.2<0
     ·have hd:decide (ordK t z.2 x.2<0)=true:=yO qf
      rw [hd];have DN:=Hx (show DownI (leK t) (swapG qa i j1) m j1 from M3.out.2.1.step O.out (by omega) qk qg.out HX.out.1 HZ.out (jzlv O.out qf) qe.out);have PM:=Hx ((jzbn HX.out.1 HZ.out).trans M3.out.1);have KP:=Hx (show∀k,m<=k->(swapG qa i j1)[k]?=hs[k]? from fun k hk=>by
       rw [jza9 HX.out.1 HZ.out,if_neg (by omega),if_neg (by omega)];exact M3.out.2.2.1 k hk)
      have hm:=mSwap q n c (some ⟨g,0,none⟩) w3 M3.out.2.2.2.1.box.one.1;clear qf hd
      go_wp2_with fail
      refine(jzdu t B g n c i j1 qa x z _ M3.out.2.2.2.1.row HX.out.1 HZ.out hn).mono ?_;rintro e w4 ⟨rfl,r4,g4⟩;have Q4:=M3.out.2.2.2.1.swap r4 g4;have L4:=Hx (show(swapG qa i j1).Perm hs/\DownI (leK t) (swapG qa i j1) m j1/\(∀k,m<=k->(swapG qa i j1)[k]?=hs[k]?)/\KQu t w4 B q g n c (swapG qa i j1)/\KF w w4 q g g from⟨PM.out,DN.out,KP.out,Q4.1,M3.out.2.2.2.2.tr Q4.2⟩);clear r4 g4 Q4 M3 DN PM KP HX HZ qe hm;go_wp2
      go_roundg (m-j1)
      case measure=>omega
      case rel=>exact⟨j1,swapG qa i j1,rfl,by omega,rfl,L4⟩
     ·have hd:decide (ordK t z.2 x.2<0)=false:=yP qf
      rw [hd];have qh:=Hx (show∃qa,qa.Perm hs/\HeapN (leK t) qa m/\(∀k,m<=k->qa[k]?=hs[k]?)/\KQu t w3 B q g n c qa/\KF w w3 q g g from⟨qa,M3.out.1,M3.out.2.1.done (fun k a b hk0 hkm hki ha hb=>by
       rw [HX.out.1]at ha;injection ha with ha
       subst ha;exact O.out.tr _ _ _ (show leK t x z from qf) (qe.out k b hk0 hkm hki hb)),M3.out.2.2⟩)
      clear M3 HX HZ qe qf hd;go_wp2;go_ret;exact⟨⟨_,rfl⟩,qh.out⟩
   ·have qz:¬(j2:Int)<(m:Int):=by omega
    obtain⟨z,hz⟩:∃z,z=y:=⟨_,rfl⟩;have HZ:=Hx (show qa[j1]?=some z by rw [hz];exact HX.out.2);have qg:=Hx (show(j1-1)/2=i by have:=qi.out;omega);have qk:j1<m:=qm;have qe:=Hx (show∀(k:Nat) (c:Nat×List Nat),0<k->k<m->(k-1)/2=i->qa[k]?=some c->leK t z c from fun k c hk0 hkm hki hc=>by
     have:=qi.out;have:=qo.out;obtain rfl:k=j1:=(by omega);rw [HZ.out]at hc;injection hc with hc;subst hc
     exact O.out.refl _)
    obtain⟨wx,qB⟩:∃wx,wr=wx:=⟨_,rfl⟩;subst qB;have M:=L;clear hz hl qp L;have qn:=HL.out z (M.out.1.mem_iff.1 (yJ HZ.out));have hm:=mLess q n c (some ⟨g,0,none⟩) wr M.out.2.2.2.1.box.one.1
    go_wp2_with fail
    refine(jzdt t B g n c j1 i qa z x _ M.out.2.2.2.1.row HZ.out HX.out.1 qn qt hn).mono ?_;rintro e w3 ⟨rfl,x3⟩;have M3:=Hx (show qa.Perm hs/\DownI (leK t) qa m i/\(∀k,m<=k->qa[k]?=hs[k]?)/\KQu t w3 B q g n c qa/\KF w w3 q g g from⟨M.out.1,M.out.2.1,M.out.2.2.1,M.out.2.2.2.1.keep x3,M.out.2.2.2.2.tr (KF.of_ext q g x3)⟩);clear M x3 hm;by_cases qf:ordK t z.2 x.2<0
    ·have hd:decide (ordK t z.2 x.2<0)=true:=yO qf
     rw [hd];have DN:=Hx (show DownI (leK t) (swapG qa i j1) m j1 from M3.out.2.1.step O.out (by omega) qk qg.out HX.out.1 HZ.out (jzlv O.out qf) qe.out);have PM:=Hx ((jzbn HX.out.1 HZ.out).trans M3.out.1);have KP:=Hx (show∀k,m<=k->(swapG qa i j1)[k]?=hs[k]? from fun k hk=>by
      rw [jza9 HX.out.1 HZ.out,if_neg (by omega),if_neg (by omega)];exact M3.out.2.2.1 k hk)
     have hm:=mSwap q n c (some ⟨g,0,none⟩) w3 M3.out.2.2.2.1.box.one.1;clear qf hd
     go_wp2_with fail
     refine(jzdu t B g n c i j1 qa x z _ M3.out.2.2.2.1.row HX.out.1 HZ.out hn).mono ?_;rintro e w4 ⟨rfl,r4,g4⟩;have Q4:=M3.out.2.2.2.1.swap r4 g4;have L4:=Hx (show(swapG qa i j1).Perm hs/\DownI (leK t) (swapG qa i j1) m j1/\(∀k,m<=k->(swapG qa i j1)[k]?=hs[k]?)/\KQu t w4 B q g n c (swapG qa i j1)/\KF w w4 q g g from⟨PM.out,DN.out,KP.out,Q4.1,M3.out.2.2.2.2.tr Q4.2⟩);clear r4 g4 Q4 M3 DN PM KP HX HZ qe hm;go_wp2
     go_roundg (m-j1)
     case measure=>omega
     case rel=>exact⟨j1,swapG qa i j1,rfl,by omega,rfl,L4⟩
    ·have hd:decide (ordK t z.2 x.2<0)=false:=yP qf
     rw [hd];have qh:=Hx (show∃qa,qa.Perm hs/\HeapN (leK t) qa m/\(∀k,m<=k->qa[k]?=hs[k]?)/\KQu t w3 B q g n c qa/\KF w w3 q g g from⟨qa,M3.out.1,M3.out.2.1.done (fun k a b hk0 hkm hki ha hb=>by
      rw [HX.out.1]at ha;injection ha with ha
      subst ha;exact O.out.tr _ _ _ (show leK t x z from qf) (qe.out k b hk0 hkm hki hb)),M3.out.2.2⟩)
     clear M3 HX HZ qe qf hd;go_wp2;go_ret;exact⟨⟨_,rfl⟩,qh.out⟩
def HPopPost(t:Tp)(w:World)(B q g n c:Nat)(hs:List (Nat×List Nat))(e:Ending)(w':World):Prop:=
 ∃(z:Nat×List Nat) (hs':List (Nat×List Nat)),hs.Perm (z::hs')/\(∀y∈hs,leK t z y)/\HeapN (leK t) hs' n/\KPopPost t w B q g n c z hs' e w'
theorem heap_take{le:Nat×List Nat->Nat×List Nat->Prop}{l:List (Nat×List Nat)}{n:Nat}(h:HeapN le l n):HeapN le (l.take n) n:=fun k a b h0 hk ha hb=>by
 rw [xG]at ha hb;rw [if_pos (by omega)]at ha hb;exact h k a b h0 hk ha hb
theorem hPop_ok(t:Tp)(o:LeO (leK t))(B q g n c:Nat)(hs:List (Nat×List Nat))(w:World)(h:KQu t w B q g (n+1) c hs)(hp:HeapN (leK t) hs (n+1))(hlen:∀z∈hs,z.2.length<=1000000)(hn:n+1<=1000000)(hc:n+1<=c):
  Calls Tryz.prog 133 #[.iface 208 (.pointer (some ⟨q,0,none⟩))] w (HPopPost t w B q g n c hs):=by
 have hl:=h.row.len;obtain⟨x,hx⟩:∃x,hs[0]?=some x:=⟨_,yG (by omega)⟩;obtain⟨y,hy⟩:∃y,hs[n]?=some y:=⟨_,yG (by omega)⟩;have HL:=Hx hlen;have O:=Hx o;have H:=Hx (And.intro h hp);have HX:=Hx (And.intro hx hy);have HN:=Hx hl;have qi:=mLen q (n+1) c (some ⟨g,0,none⟩) w h.box.one.1;have qk:((n+1:Nat):Int)-1=(n:Int):=(by omega);clear h hp hlen o hl hx hy
 go_enter Tryz.func133,Tryz.ntmps133
 go_wp2_with fail
 refine(jzh5 _ (n+1) c _).mono ?_;rintro e w1 ⟨rfl,rfl⟩;have qe:=mSwap q (n+1) c (some ⟨g,0,none⟩) w H.out.1.box.one.1;clear qi
 go_wp2_with fail
 refine(jzdu t B g (n+1) c 0 n hs x y _ H.out.1.row HX.out.1 HX.out.2 hn).mono ?_;rintro e w2 ⟨rfl,r2,g2⟩;have Q2:=H.out.1.swap r2 g2;have L2:=Hx (show KQu t w2 B q g (n+1) c (swapG hs 0 n)/\KF w w2 q g g from Q2);have DN:=Hx (HeapN.pop H.out.2 HN.out HX.out.1 HX.out.2);have PM:=Hx (jzbn HX.out.1 HX.out.2);clear r2 g2 Q2 qe
 go_wp2_with fail
 refine(kDown_ok t O.out B q g (n+1) c n (swapG hs 0 n) _ L2.out.1 DN.out (Nat.le_succ n) (fun z hz=>HL.out z (PM.out.mem_iff.1 hz)) hn).mono ?_;rintro e w3 ⟨⟨b,rfl⟩,qa,p3,h3,k3,q3,f3⟩;have L3:=Hx (show KQu t w3 B q g (n+1) c qa/\KF w w3 q g g from⟨q3,L2.out.2.tr f3⟩);have hz:qa[n]?=some x:=by
  rw [k3 n (yX n),jza9 HX.out.1 HX.out.2,if_pos rfl]
 have S3:=Hx (And.intro hz (And.intro (p3.trans PM.out) h3));clear p3 h3 k3 q3 f3 L2 hz DN PM;have qh:=mPop q w3
 go_wp2_with fail
 refine(kPop_ok t B q g n c qa x _ L3.out.1 S3.out.1 (by omega) hc).mono ?_;rintro e w4 ⟨A,k,rfl,hk,r4,q4,f4⟩
 have qg:=Hx (show HPopPost t w B q g n c hs (.returned (.iface 210 (kAgg t x A k))) w4 from by
  refine⟨x,qa.take n,?_,fun y hy=>?_,heap_take S3.out.2.2,A,k,rfl,hk,r4,q4,L3.out.2.tr f4⟩
  ·have e3:qa=qa.take n++[x]:=by
    apply uK;intro j;have qj:qa.length=n+1:=(by rw [S3.out.2.1.length_eq];exact HN.out);by_cases hj:j<n
    ·rw [yR (by rw [xF];omega),xG,if_pos hj]
    ·by_cases qf:j=n
     ·subst qf
      rw [yS (by rw [xF];omega),xF,S3.out.1,show j-min j qa.length=0 by omega];rfl
     ·rw [yI (by omega),yI (by rw [yQ,xF];simp;omega)]
   refine S3.out.2.1.symm.trans ?_;rw [e3];refine(List.perm_append_comm).trans ?_
   rw [List.take_append_of_le_length (by rw [xF];have:qa.length=n+1:=by rw [S3.out.2.1.length_eq];exact HN.out
                                         omega),List.take_take,Nat.min_self]
   exact .refl _
  ·obtain⟨j,hj⟩:=List.mem_iff_getElem?.1 hy
   exact H.out.2.top O.out (by rw [HN.out];exact yX _) j x y (by have:=(yH.1 hj).1;have:=HN.out;omega) HX.out.1 hj)
 clear r4 q4 f4 S3 L3 qh;go_wp2;go_ret;exact qg.out
theorem Tryz.infoKL:(Tryz.prog.info? 210).map (fun i=>(i.zero,i.size,i.bytes))=some (some (.agg #[.int .i64 0,.int .i64 0,.int .i64 0,.slice none 0 0]),4,48):=by kernel_rfl
theorem wp_push4{o:Oper}{a:Act}{K:Act->World->Prop}{Q:Exit->Act->World->Prop}(W:World)(s x:Operand)
  (ho:o.op=.call {callee:=.builtin .append,args:=#[s,x],argTypes:=#[212,212]})
  (B:Nat) (v:Value) (n:Nat) (xs:List Value) (hs:a.eval s=v) (hown:W.ownsRow B 210 4 v n xs) (u0 u1 u2 u3:Value) (h0:u0.oneCell'=true) (h1:u1.oneCell'=true) (h2:u2.oneCell'=true) (h3:u3.oneCell'=true) (g:Nat) (hx:a.eval x=.slice (some ⟨g,0,none⟩) 1 1)
  (hblk:Blk W g 210 #[u0,u1,u2,u3]) (hl:n<=1000000000) (hB:B<=W.heap.size)
  (h:∀v' w',w'.ownsRow B 210 4 v' (n+1) (xs++[u0,u1,u2,u3])->W.grownBy w' v.ownBlock->(v'.ownBlock=v.ownBlock\/v'.ownBlock=some W.heap.size)->K (a.put o.dst v') w'):o.wp Tryz.prog a W K Q:=by
 obtain⟨ti,hi,qg,qe,qf⟩:=info_parts Tryz.infoKL;obtain⟨v',w',qa,k1,k2,k3,k4⟩:=run_append_own_at (P:=Tryz.prog) W B 212 o.type 210 ti _ 4 48 Tryz.underlying212 hi qg qe qf rfl (by decide) v n xs hown ⟨g,0,none⟩ 1 1 [u0,u1,u2,u3] rfl (fun j u hj=>by
  rw [jzcp,Nat.zero_add];exact(hblk.cell j).trans (by simpa using hj)) (fun u hu=>by
  simp only [xZ,List.not_mem_nil,or_false]at hu;rcases hu with rfl|rfl|rfl|rfl
  ·exact h0
  ·exact h1
  ·exact h2
  ·exact h3) (by unfold maxLen;omega) (by omega) hB
 unfold Oper.wp execOp;simp only [ho,resolve,invoke,builtin,Sem.run_bind,Sem.run_pure,Result.andThen_ok,List.map_toArray,List.map_cons,List.map_nil,hs,hx,qa];exact h v' w' k1 k2 k4
theorem jzh6{w:World}{B n s:Nat}{e:TypeId}{v:Value}{xs:List Value}(h:w.ownsRow B e s v (n+1) xs):∃g c,v=.slice (some ⟨g,0,none⟩) (n+1) c/\n+1<=c:=by
 rcases h.2 with⟨_,h4⟩|⟨g',cap,cur,h3,h4,h5,h6,_⟩
 ·omega
 ·exact⟨g',cap,h3,h6⟩
theorem KF.grow{w w':World}{q g g':Nat}(h:w.grownBy w' (some g))(hg:g'=g\/w.heap.size<=g'):KF w w' q g g':=⟨h.os,h.tape,h.output,h.size,fun b hb _ hn=>h.block b hb (fun e=>hn (by injection e)),hg⟩
theorem jzh7{w:World}{B n s:Nat}{e:TypeId}{v:Value}{xs:List Value}(h:w.ownsRow B e s v n xs):∀k,v.ownBlock=some k->∃cs fr,w.heap[k]?=some (.cells cs e fr):=by
 intro k hk;rcases h.2 with⟨rfl,_⟩|⟨g,cap,cur,rfl,_,e3,_⟩
 ·cases hk
 ·have hk:some g=some k:=hk
  injection hk with hk
  subst hk;exact⟨cur,_,e3⟩
theorem KRow.push{t:Tp}{W w':World}{B g n c g' c':Nat}{hs:List (Nat×List Nat)}{z:Nat×List Nat}{A:Option Addr}{k:Nat}{css:List (List Value)}(hl:hs.length=n)(h1:css.length=n)(h2:∀cs∈css,cs.length=4)(hown:W.ownsRow B 210 4 (.slice (some ⟨g,0,none⟩) n c) n css.flatten)
  (h4:∀(i:Nat) (z:Nat×List Nat),hs[i]?=some z->∃cs,css[i]?=some cs/\KLb t B W cs z) (hk:z.2.length<=k) (hA:RdF B W A (ints z.2))
  (own':w'.ownsRow B 210 4 (.slice (some ⟨g',0,none⟩) (n+1) c') (n+1) (css.flatten++[.int .i64 (z.1:Int),.int .i64 (kcost t z.2:Nat),.int .i64 0,.slice A z.2.length k])) (grow:W.grownBy w' (Value.slice (some ⟨g,0,none⟩) n c).ownBlock):KRow t w' B g' (n+1) c' (hs++[z]):=by
 have qa:=jzh7 hown;refine⟨by simp [hl],css++[[.int .i64 (z.1:Int),.int .i64 (kcost t z.2:Nat),.int .i64 0,.slice A z.2.length k]],by simp [h1],fun cs hc=>?_,by rw [List.flatten_append];simpa using own',fun i y hy=>?_⟩
 ·rcases xY.1 hc with hc|hc
  ·exact h2 cs hc
  ·simp at hc;rw [hc];rfl
 ·by_cases hi:i<hs.length
  ·rw [yR hi]at hy
   obtain⟨cs,k1,k2⟩:=h4 i y hy;exact⟨cs,by rw [yR (by omega)];exact k1,k2.grownK grow qa (by decide)⟩
  ·rw [yS (by omega)]at hy
   have qe:i-hs.length=0:=by
    rcases Nat.eq_zero_or_pos (i-hs.length)with h0|h0
    ·exact h0
    ·rw [yI (by simp;omega)]at hy;cases hy
   rw [qe]at hy;simp at hy;subst hy;exact⟨_,by rw [yS (by omega),show i-css.length=0 by omega];rfl,KLb.grownK ⟨A,k,rfl,hk,hA⟩ grow qa (by decide)⟩
def KPushPost(t:Tp)(w:World)(B q g n:Nat)(hs:List (Nat×List Nat))(e:Ending)(w':World):Prop:=
 e=.returned (.tuple #[])/\∃g' c',n<=c'/\KQu t w' B q g' n c' hs/\KF w w' q g g'
theorem push_fin{t:Tp}{w W w':World}{B q g n c g' c':Nat}{hs:List (Nat×List Nat)}{z:Nat×List Nat}{A:Option Addr}{k:Nat}{css:List (List Value)}(X:Ext w W)(hqu:KQu t W B q g n c hs)(h1:css.length=n)(h2:∀cs∈css,cs.length=4)(hown:W.ownsRow B 210 4 (.slice (some ⟨g,0,none⟩) n c) n css.flatten)
  (h4:∀(i:Nat) (z:Nat×List Nat),hs[i]?=some z->∃cs,css[i]?=some cs/\KLb t B W cs z) (hk:z.2.length<=k) (hA:RdF B W A (ints z.2))
  (own':w'.ownsRow B 210 4 (.slice (some ⟨g',0,none⟩) (n+1) c') (n+1) (css.flatten++[.int .i64 (z.1:Int),.int .i64 (kcost t z.2:Nat),.int .i64 0,.slice A z.2.length k])) (grow:W.grownBy w' (Value.slice (some ⟨g,0,none⟩) n c).ownBlock)
  (hb:(Value.slice (some ⟨g',0,none⟩) (n+1) c').ownBlock=(Value.slice (some ⟨g,0,none⟩) n c).ownBlock\/(Value.slice (some ⟨g',0,none⟩) (n+1) c').ownBlock=some W.heap.size) (hc:n+1<=c'):
  (w'.cell? ⟨q,0,none⟩=some (.slice (some ⟨g,0,none⟩) n c)/\w'.frozen? ⟨q,0,none⟩=false)/\KPushPost t w B q g (n+1) (hs++[z]) (.returned (.tuple #[])) (w'.setCell ⟨q,0,none⟩ (.slice (some ⟨g',0,none⟩) (n+1) c')):=by
 have hR:=KRow.push hqu.row.len h1 h2 hown h4 hk hA own' grow;have qa:=hqu.box.grownK grow (jzh7 hown) (by decide);have gs:=jze w' q 0 (.slice (some ⟨g',0,none⟩) (n+1) c');have qe:g'=g\/W.heap.size<=g':=by
  rcases hb with hb|hb
  ·have hb:some g'=some g:=hb
   injection hb with hb
   exact .inl hb
  ·have hb:some g'=some W.heap.size:=hb
   injection hb with hb
   exact .inr (by omega)
 refine⟨qa.one,rfl,g',c',hc,⟨?_,hR.grown gs qa (by decide) (by decide)⟩,((KF.of_ext q g X).tr (KF.grow grow qe)).tr (KF.of_box g' gs)⟩;have:=qa.set_ 0 (.slice (some ⟨g',0,none⟩) (n+1) c')
 simpa using this
theorem kPush_ok(t:Tp)(B q g n c:Nat)(hs:List (Nat×List Nat))(z:Nat×List Nat)(A:Option Addr)(k:Nat)(w:World)(h:KQu t w B q g n c hs)(hk:z.2.length<=k)(hA:RdF B w A (ints z.2))(hn:n<=1000000)(hB:B<=w.heap.size):
  Calls Tryz.prog 255 #[.pointer (some ⟨q,0,none⟩),.iface 210 (kAgg t z A k)] w (KPushPost t w B q g (n+1) (hs++[z])):=by
 obtain⟨z1,z2⟩:=z;simp only at hk hA;have XB:=(Ext.refl w).alloc (.cells #[.int .i64 (z1:Int),.int .i64 (kcost t z2:Nat),.int .i64 0,.slice A z2.length k] 210);have HB:=(Blk.new w 210 #[.int .i64 (z1:Int),.int .i64 (kcost t z2:Nat),.int .i64 0,.slice A z2.length k]);obtain⟨W,hW⟩:∃W,W=w.alloc (.cells #[.int .i64 (z1:Int),.int .i64 (kcost t z2:Nat),.int .i64 0,.slice A z2.length k] 210):=⟨_,rfl⟩;have qk:=Hx (show W.heap.size=w.heap.size+1 from by rw [hW];simp);rw [<-hW]at HB XB;have X3:=XB.tr (((Ext.refl W).drewN 1).alloc (.cells #[.int .i64 (z1:Int),.int .i64 (kcost t z2:Nat),.int .i64 0,.slice A z2.length k] 210));have X3:Ext w (W.drew.alloc (.cells #[.int .i64 (z1:Int),.int .i64 (kcost t z2:Nat),.int .i64 0,.slice A z2.length k] 210)):=X3;have H3:=h.keep X3;obtain⟨css,h1,h2,qg,h4⟩:=H3.row.row;have HQ:=h.keep XB;obtain⟨V,hV⟩:∃V:Value,V=.slice (some ⟨g,0,none⟩) n c:=⟨_,rfl⟩;have qi:W.drew.cell? ⟨q,0,none⟩=some V:=(by rw [hV];exact HQ.box.one.1);have qm:(W.drew.alloc (.cells #[.int .i64 (z1:Int),.int .i64 (kcost t z2:Nat),.int .i64 0,.slice A z2.length k] 210)).cell? ⟨q,0,none⟩=some V:=jzc qi _;have qh:(W.alloc (.cells #[.int .i64 (z1:Int),.int .i64 (kcost t z2:Nat),.int .i64 0,.slice A z2.length k] 210)).drew.cell? ⟨q,0,none⟩=some V:=jzt (jzc (jzt qi) _);have qt:(W.alloc (.cells #[.int .i64 (z1:Int),.int .i64 (kcost t z2:Nat),.int .i64 0,.slice A z2.length k] 210)).cell? ⟨q,0,none⟩=some V:=qh;have OV:=Hx (show(W.drew.alloc (.cells #[.int .i64 (z1:Int),.int .i64 (kcost t z2:Nat),.int .i64 0,.slice A z2.length k] 210)).ownsRow B 210 4 V n css.flatten from by rw [hV];exact qg);have HV:=Hx hV;have l0:W.drew.cell? ⟨w.heap.size,0,none⟩=some (.int .i64 (z1:Int)):=(HB.cell 0).trans rfl;have l1:W.drew.cell? ⟨w.heap.size,1,none⟩=some (.int .i64 (kcost t z2:Nat)):=(HB.cell 1).trans rfl;have l2:W.drew.cell? ⟨w.heap.size,2,none⟩=some (.int .i64 0):=(HB.cell 2).trans rfl;have l3:W.drew.cell? ⟨w.heap.size,3,none⟩=some (.slice A z2.length k):=(HB.cell 3).trans rfl;have qp:q<W.heap.size:=HQ.box.lt;have qy:w.heap.size<W.heap.size:=HB.lt;have qo:¬q=W.heap.size:=Nat.ne_of_lt qp;have FN:=Hx (And.intro X3 (And.intro H3 (And.intro h1 (And.intro h2 (And.intro qg (And.intro h4 (And.intro hk (hA.keep X3))))))));unfold kAgg;simp only;generalize hkc:kcost t z2=kc at*;have qn:=Hx hkc.symm;clear hkc;have HW:=Hx hW;have qx:∀w:World,(Instr.typeAssert (.iface 210 (.agg #[.int .i64 (z1:Int),.int .i64 (kc:Nat),.int .i64 0,.slice A z2.length k])) 20 210 true).run Tryz.prog w=.ok (.tuple #[.agg #[.int .i64 (z1:Int),.int .i64 (kc:Nat),.int .i64 0,.slice A z2.length k],.bool true]) w:=fun w=>(by rfl);clear hV h hA XB hW HB HQ X3 H3 h1 h2 qg h4
 go_enter Tryz.func255,Tryz.ntmps255
 go_upto_region 2 with fail
 rw [<-HW.out];refine wp_region_any (by kernel_rfl) ?_;try (change wpAny _ _ _ _ _ _ _ (World.drew _))
 refine wpAny_take (i:=0) (v:=?_) rfl (by kernel_rfl) (by kernel_rfl) (by kernel_rfl) (fun _ _ _ h=>h) (Or.inl ⟨by rfl,?_⟩) ?_;rotate_left
 focus (intro w;go_simp;try with_reducible rfl)
 refine wpAny_take (i:=1) (v:=?_) rfl (by kernel_rfl) (by kernel_rfl) (by kernel_rfl) (fun _ _ _ h=>h) (Or.inl ⟨by rfl,?_⟩) ?_;rotate_left
 focus (intro w;go_simp;try with_reducible rfl)
 refine wpAny_take (i:=2) (v:=?_) rfl (by kernel_rfl) (by kernel_rfl) (by kernel_rfl) (fun _ _ _ h=>h) (Or.inl ⟨by rfl,?_⟩) ?_;rotate_left
 focus (intro w;go_simp;try with_reducible rfl)
 refine wpAny_ready (rs:=[3,4]) (by kernel_rfl) (by simp) ?_;refine AllReady.cons rfl (fun K hK=>?_) (AllReady.cons rfl (fun K hK=>?_) AllReady.nil)
 focus
  go_simp;refine hK _ _ ?_;clear hK K;refine wpAny_ready (rs:=[4]) (by kernel_rfl) (by simp) ?_;refine AllReady.cons rfl (fun K hK=>?_) AllReady.nil;go_simp;refine hK _ _ ?_;clear hK K;refine wpAny_ready (rs:=[5]) (by kernel_rfl) (by simp) ?_;refine AllReady.cons rfl (fun K hK=>?_) AllReady.nil;go_simp;refine hK _ _ ?_;clear hK K
 rotate_left
 focus
  go_simp;refine hK _ _ ?_;clear hK K;refine wpAny_ready (rs:=[3,5]) (by kernel_rfl) (by simp) ?_;refine AllReady.cons rfl (fun K hK=>?_) (AllReady.cons rfl (fun K hK=>?_) AllReady.nil)
  focus
   go_simp;refine hK _ _ ?_;clear hK K;refine wpAny_ready (rs:=[5]) (by kernel_rfl) (by simp) ?_;refine AllReady.cons rfl (fun K hK=>?_) AllReady.nil;go_simp;refine hK _ _ ?_;clear hK K
  rotate_left
  focus
   go_simp;refine hK _ _ ?_;clear hK K;refine wpAny_ready (rs:=[3]) (by kernel_rfl) (by simp) ?_;refine AllReady.cons rfl (fun K hK=>?_) AllReady.nil;go_simp;refine hK _ _ ?_;clear hK K
 all_goals
  refine wpAny_ready (rs:=[6]) (by kernel_rfl) (by simp) ?_;refine AllReady.cons rfl (fun K hK=>?_) AllReady.nil;rw [if_pos (by rfl)];refine wp_push4 (W.drew.alloc (.cells #[.int .i64 (z1:Int),.int .i64 (kc:Nat),.int .i64 0,.slice A z2.length k] 210)) (.tmp 15) (.tmp 17) (by rfl) B V n css.flatten (by rfl) OV.out _ _ _ _ rfl rfl rfl rfl (W.heap.size) (by rfl) (Blk.new W.drew _ _) (by omega) (by have:=qk.out;simp;omega) ?_;intro v' w' qf qa qe;rw [HV.out]at qa qe;rw [qn.out]at qf;obtain⟨g',c',rfl,qw⟩:=jzh6 qf;have qj:=Hx (push_fin (z:=(z1,z2)) FN.out.1 FN.out.2.1 FN.out.2.2.1 FN.out.2.2.2.1 FN.out.2.2.2.2.1 FN.out.2.2.2.2.2.1 FN.out.2.2.2.2.2.2.1 FN.out.2.2.2.2.2.2.2 qf qa qe qw);obtain⟨c9,f9⟩:=qj.out.1;clear qf qa qe;refine hK _ _ ?_;clear hK K;refine wpAny_take (i:=7) (v:=?_) rfl (by kernel_rfl) (by kernel_rfl) (by kernel_rfl) (fun _ _ _ h=>h) (Or.inl ⟨by rfl,?_⟩) ?_;rotate_left
  focus (intro w;go_simp;try with_reducible rfl)
  refine wpAny_ready (rs:=[8]) (by kernel_rfl) (by simp) ?_;refine AllReady.cons rfl (fun K hK=>?_) AllReady.nil;go_simp;refine hK _ _ ?_;clear hK K;refine wpAny_done (by kernel_rfl) ?_ _;go_wp2
  go_end0
  exact qj.out.2
def HPushPost(t:Tp)(w:World)(B q g n:Nat)(hs:List (Nat×List Nat))(e:Ending)(w':World):Prop:=
 e=.returned (.tuple #[])/\∃(g' c':Nat) (hs':List (Nat×List Nat)),hs'.Perm hs/\HeapN (leK t) hs' n/\n<=c'/\KQu t w' B q g' n c' hs'/\KF w w' q g g'
theorem hPush_ok(t:Tp)(o:LeO (leK t))(B q g n c:Nat)(hs:List (Nat×List Nat))(z:Nat×List Nat)(A:Option Addr)(k:Nat)(w:World)(h:KQu t w B q g n c hs)(hp:HeapN (leK t) hs n)(qa:∀y∈z::hs,y.2.length<=1000000)(hk:z.2.length<=k)(hA:RdF B w A (ints z.2))(hn:n+1<=1000000)(hB:B<=w.heap.size):
  Calls Tryz.prog 137 #[.iface 208 (.pointer (some ⟨q,0,none⟩)),.iface 210 (kAgg t z A k)] w (HPushPost t w B q g (n+1) (z::hs)):=by
 have hl:=h.row.len;have H:=Hx (And.intro h (And.intro hp (And.intro qa (And.intro hk hA))));have O:=Hx o;have HN:=Hx hl;have qi:=mPush q w;have qk:((n+1:Nat):Int)-1=(n:Int):=(by omega);clear h hp qa hk hA o hl;generalize hkg:kAgg t z A k=V;have qe:=Hx hkg;clear hkg
 go_enter Tryz.func137,Tryz.ntmps137
 go_wp2_with fail
 rw [<-qe.out];refine(kPush_ok t B q g n c hs z A k _ H.out.1 H.out.2.2.2.1 H.out.2.2.2.2 (by omega) hB).mono ?_;rintro e w1 ⟨rfl,g1,c1,qg,q1,f1⟩;have L1:=Hx (And.intro q1 f1);have UP:=Hx (show UpI (leK t) (hs++[z]) (n+1) n from by
  have:=HeapN.push (le:=leK t) (l:=hs) (by rw [HN.out];exact H.out.2.1) z;rw [HN.out]at this;exact this)
 have qf:=mLen q (n+1) c1 (some ⟨g1,0,none⟩) w1 q1.box.one.1;clear q1 f1 qi
 go_wp2_with fail
 refine(jzh5 _ (n+1) c1 _).mono ?_;rintro e w2 ⟨rfl,rfl⟩
 go_wp2_with fail
 refine(kUp_ok t O.out B q g1 (n+1) c1 n (hs++[z]) _ L1.out.1 UP.out (by omega) (fun y hy=>H.out.2.2.1 y (by
  rcases xY.1 hy with hy|hy
  ·exact xO _ hy
  ·simp at hy;rw [hy];exact List.mem_cons_self)) hn).mono ?_
 rintro e w3 ⟨rfl,qj,p3,h3,q3,f3⟩;have qh:=Hx (show HPushPost t w B q g (n+1) (z::hs) (.returned (.tuple #[])) w3 from
  ⟨rfl,g1,c1,qj,p3.trans (List.perm_append_singleton z hs),h3,qg,q3,L1.out.2.tr f3⟩)
 clear p3 h3 q3 f3 qf;go_wp2
 go_end0
 exact qh.out
end Go.Proofs.YthbmikapohlikaaGreatDoor
