/- Part 17 of 24 of what the Flows claims share (the white space is struck, the texts are joined). -/
import Derived.Test.YthbmikapohlikaaGreatDoorZ16
set_option linter.unusedVariables false
set_option linter.unusedSimpArgs false
set_option maxRecDepth 100000
set_option maxHeartbeats 8000000
namespace Go.Proofs.YthbmikapohlikaaGreatDoor
open Go.RowKit
theorem add_ok(B P nt ct:Nat)(L:TLoc)(T:Sx.Tb)(w:World)(h:TabR w B L T)(hB:B<=w.heap.size)(vO:OkT T)(vI:SzT T P)(hP1:1<=P)(hP:P<=10000)(hm0:0<L.m)(hm:L.m<=1000)(hK:T.fre.length<=100000000000)(hc:T.cols<=100000000000)
  (cost:Rat) (nc:Bool) (AC:Option Addr) (lc cc:Nat) (AC':Option Addr) (lc' cc':Nat) (qo:RatR w nc AC lc cc AC' lc' cc' cost) (hcsz:SzQ cost P)
  (PT:Option Addr) (ts:List (Nat×Rat)) (hnt:ts.length=nt) (ht:TmR w PT ts) (hnt2:nt<=1000000) (vy:∀t∈ts,t.1<L.m) (vq:∀q∈valsOf L.m ts,SzQ q P) (hfb:∀j,j<T.fre.length->Sx.atN T.fre j<=1000000000000) (hjl:(Sx.slk T (valsOf L.m ts) T.fre.length).length<=1000):
  Calls Tryz.prog 79 #[.pointer (some ⟨L.p,0,none⟩),.agg #[.bool nc,.slice AC lc cc,.slice AC' lc' cc'],.slice PT nt ct] w
   fun e w'=>∃L':TLoc,e=.returned (.tuple #[])/\L'.p=L.p/\L'.m=L.m/\TabR w' B L' (Sx.addT T cost (valsOf L.m ts))/\FrS L.S w w'/\∀b,L'.S b->L.S b\/w.heap.size<=b:=by
 obtain⟨g,cr,vg,ze⟩:=h.vr_form hm0;obtain⟨gb,cb,vl,zj⟩:=h.vb_form hm0;obtain⟨cp,qe,_,p0,p1,p2,p7⟩:=h.goa;rw [vg]at p0;have q0:=(qe.cell 0).trans p0;have q7:=(qe.cell 7).trans p7;have vz:=qe.lt;obtain⟨b0,b1,e0⟩:=boxes2 w #[.pointer (some ⟨L.p,0,none⟩)] 96 #[.bool nc,.slice AC lc cc,.slice AC' lc' cc'] 35;have H:=Hx (And.intro h (And.intro vO vI));have HV:=Hx (And.intro vg vl);have HT:=Hx (And.intro qo (And.intro ht (And.intro vy vq)));have E0:=Hx (And.intro e0 (And.intro b0 b1));have y0:=XW.cell _ _ _ b0.lt (b0.cell 0);have y1:=XW.cell _ _ _ (yL vz e0.size) (cellK e0 q0);have y2:=XW.cell _ _ _ (yL vz e0.size) (cellK e0 q7);have zf:=h.rl;clear h vO vI vg vl qo ht vy vq e0 b0 b1 qe p0 p1 p2 p7 q0 q7
 go_enter Tryz.func79,Tryz.ntmps79
 go_upto_region 1 with fail
 generalize (w.alloc (.cells #[.pointer (some ⟨L.p,0,none⟩)] 96)).alloc (.cells #[.bool nc,.slice AC lc cc,.slice AC' lc' cc'] 35)=W2 at*;have vc:IntKind.i64.wrap ((L.m:Int)+(T.cols:Int))=((L.m+T.cols:Nat):Int):=by rw [IntKind.wrap_i64];omega
 go_cut [6] (fun s wx=>s=.int .i64 ((L.m+T.cols:Nat):Int)/\Ext W2 wx)
 case first=>
  refine jzh (by kernel_rfl) (by kernel_rfl) ?_
  repeat (go_big_quiet_step (fail))
  refine wpQuiet_nil ?_;rintro _ ⟨x,rfl⟩;go_wp2;go_meet
  first|exact⟨rfl,x.ext⟩|exact⟨by simp,x.ext⟩
 case rest=>
  obtain⟨rfl,qX⟩:=hcut;clear y0 y1 y2 vc;have EC:=Hx (E0.out.1.tr qX);have BX:=Hx (And.intro (E0.out.2.1.keep qX) (E0.out.2.2.keep qX));clear E0 qX;generalize hgt:w.heap.size=gt at*;have HC:=Hx (H.out.1.keep EC.out);obtain⟨cp,qe,_,p0,p1,p2,p7⟩:=HC.out.goa;have q7:=(qe.cell 7).trans p7;have z7:wc.frozen? ⟨L.p,7,none⟩=false:=qe.frozen _;have t0:wc.cell? ⟨gt,0,none⟩=some (.pointer (some ⟨L.p,0,none⟩)):=BX.out.1.cell 0;have v7:=jzaa L.m (by omega);obtain⟨q4,qQ⟩:=HC.out.cols_set (T.cols+1);rw [show((T.cols+1:Nat):Int)=(T.cols:Int)+1 by omega]at q4 qQ;have PG:=Hx (show∀x,w.heap.size<=x->¬L.S x from fun x hx hs=>by
   have:=(H.out.1.ty hs).2.1;omega)
  have I3:=Hx (show TabR (wc.setCell ⟨L.p,7,none⟩ (.int .i64 ((T.cols:Int)+1))) B L (setCols T (T.cols+1))/\FrS L.S w (wc.setCell ⟨L.p,7,none⟩ (.int .i64 ((T.cols:Int)+1)))/\Blk (wc.setCell ⟨L.p,7,none⟩ (.int .i64 ((T.cols:Int)+1))) gt 96 #[.pointer (some ⟨L.p,0,none⟩)]/\
    Blk (wc.setCell ⟨L.p,7,none⟩ (.int .i64 ((T.cols:Int)+1))) (gt+1) 35 #[.bool nc,.slice AC lc cc,.slice AC' lc' cc']from
   ⟨q4,(FrS.of_ext EC.out).tr qQ fun b hb=>.inl hb,qQ.blk BX.out.1 (PG.out _ (by omega)),qQ.blk BX.out.2 (PG.out _ (by omega))⟩)
  clear q4 qQ HC qe p0 p1 p2 p7 BX EC
  go_upto_region 3 with fail
  generalize wc.setCell ⟨L.p,7,none⟩ (.int .i64 ((T.cols:Int)+1))=W3 at*;clear q7 z7 t0;have t0:W3.cell? ⟨gt,0,none⟩=some (.pointer (some ⟨L.p,0,none⟩)):=I3.out.2.2.1.cell 0;obtain⟨cp,qe,_,p0,p1,p2,p7⟩:=I3.out.1.goa;rw [HV.out.1]at p0;have q0:=(qe.cell 0).trans p0;have QM:=Hx (QB.made W3 L.m);have X4:=Hx ((Ext.refl W3).alloc (.cells (madeCells #[.bool false,.slice none 0 0,.slice none 0 0] (L.m*3)) 35));have vG:(W3.alloc (.cells (madeCells #[.bool false,.slice none 0 0,.slice none 0 0] (L.m*3)) 35)).heap.size=W3.heap.size+1:=(by simp);have zp:w.heap.size<=W3.heap.size:=I3.out.2.1.size;clear qe p0 p1 p2 p7
  go_upto_region 4 with fail
  generalize W3.alloc (.cells (madeCells #[.bool false,.slice none 0 0,.slice none 0 0] (L.m*3)) 35)=W4 at*;obtain⟨bv,e4⟩:=boxes1 W4 #[.slice (some ⟨W3.heap.size,0,none⟩) L.m L.m] 37;rw [vG]at bv;generalize qP:W3.heap.size=gl at*;have vh:gt+1<gl:=(by have:=I3.out.2.2.2.lt;omega);have I4:=Hx (show AddI w (W4.alloc (.cells #[.slice (some ⟨gl,0,none⟩) L.m L.m] 37)) B L (setCols T (T.cols+1)) gt gl nc AC lc cc AC' lc' cc' (valsOf L.m (ts.take 0))from
   ⟨(I3.out.1.keep X4.out).keep e4,I3.out.2.1.tr (FrS.of_ext (S:=L.S) (X4.out.tr e4)) fun b hb=>.inl hb,I3.out.2.2.1.keep (X4.out.tr e4),I3.out.2.2.2.keep (X4.out.tr e4),bv,QM.out.keep e4⟩)
  clear I3 X4 QM bv e4 q0 t0 v7;go_wp2
  go_loopg [9,41] nt (fun q _ it wx=>∃n:Nat,nt-n=q/\n<=nt/\it=.int .i64 (n:Int)/\Hid (AddI w wx B L (setCols T (T.cols+1)) gt gl nc AC lc cc AC' lc' cc' (valsOf L.m (ts.take n))))
  case atStart=>exact⟨0,rfl,yZ _,rfl,I4⟩
  case round=>
   obtain⟨n,rfl,hn,rfl,I⟩:=hrel;clear I4;by_cases q8:n<nt
   ·have nN:(n:Int)<(nt:Int):=by omega
    have n0:(0:Int)<=(n:Int):=(by omega);obtain⟨t,qY⟩:∃t,ts[n]?=some t:=⟨_,yG (by omega)⟩;have qR:TmR wr PT ts:=HT.out.2.1.fr I.out.fr (H.out.1.noT (by decide) (by decide) (by decide) (by decide)) H.out.1.no32;obtain⟨bq,oq,neg,A,l,c,A',l',c',rfl,vV,⟨i0,i1,i2,i3⟩,hR⟩:=qR.at_ qY;obtain⟨x,q⟩:=t;have qS:x<L.m:=HT.out.2.2.1 _ (yJ qY);have xN:(x:Int)<(L.m:Int):=(by omega);have x0:(0:Int)<=(x:Int):=(by omega);have VT:=Hx (jzi3 L.m ts qY);have vJ:x<(valsOf L.m (ts.take n)).length:=(by rw [jzaf];exact qS);obtain⟨bx,e0⟩:=boxes1 wr #[.int .i64 (x:Int),.bool neg,.slice A l c,.slice A' l' c'] 137;have v0:wr.cell? ⟨gl+1,0,none⟩=some (.slice (some ⟨gl,0,none⟩) L.m L.m):=I.out.bv.cell 0;obtain⟨ny,Y1,my,fy,qF,qD,qJ,⟨s0,s1,s2⟩,⟨z0,z1,z2⟩,_⟩:=I.out.qb.at_ (jzv vJ);have vl:=I.out.bv.lt;have vU:=I.out.qb.lt;have I9:=Hx ((I.out.put (by omega) vh (PG.out gl (by omega)) vJ hR).keep ((Ext.refl _).alloc (.cells #[.int .i64 (x:Int),.bool neg,.slice A l c,.slice A' l' c'] 137)));rw [<-VT.out]at I9;clear qR hR bx e0 I qY;go_wp2
    go_roundg (nt-(n+1))
    case measure=>omega
    case rel=>exact⟨n+1,rfl,by omega,by go_num,I9⟩
   ·obtain rfl:n=nt:=by omega
    rw [yU (by omega)]at I;clear hn q8;obtain⟨AF,cf,qW,v8⟩:=jzab I.out.tab.fre;obtain⟨cp,qe,_,p0,p1,p2,p7⟩:=I.out.tab.goa;rw [qW]at p2;have q2:=(qe.cell 2).trans p2;have t0:wr.cell? ⟨gt,0,none⟩=some (.pointer (some ⟨L.p,0,none⟩)):=I.out.bt.cell 0;have vd:gt<wr.heap.size:=I.out.bt.lt;have vo:L.p<wr.heap.size:=qe.lt;have vp:w.heap.size<=wr.heap.size:=I.out.fr.size;have BS:=Hx (Blk.new wr 44 #[.slice none 0 0]);have I5:=Hx (I.out.keep ((Ext.refl wr).alloc (.cells #[.slice none 0 0] 44)));have qp:(setCols T (T.cols+1)).fre.length=T.fre.length:=rfl;rw [qp]at qW v8 q2;have qj:=Hx qW;have GB:=Hx (show gt+1<wr.heap.size/\gl+1<wr.heap.size from⟨I.out.bc.lt,I.out.bv.lt⟩);clear qe p0 p1 p2 p7 I qW qp;have vY:=Hx hfb;clear hfb;generalize hgs:wr.heap.size=gs at*;generalize hKK:T.fre.length=K at*;have S0:=Hx (show(wr.alloc (.cells #[.slice none 0 0] 44)).ownsRow w.heap.size 3 1 (.slice none 0 0) (Sx.slk T (valsOf L.m ts) 0).length (ints (Sx.slk T (valsOf L.m ts) 0))from World.ownsRow_nil _ _ _ _)
    go_upto_region 10 with fail
    have q2:=jzc q2 (.cells #[.slice none 0 0] 44);have t0:=jzc t0 (.cells #[.slice none 0 0] 44);generalize wr.alloc (.cells #[.slice none 0 0] 44)=W5 at*;clear vd vo;go_wp2
    go_loopg [11,12,57] K (fun q _ _ it wx=>∃(n:Nat) (vS:Value),K-n=q/\n<=K/\it=.int .i64 (n:Int)/\Hid (AddI w wx B L (setCols T (T.cols+1)) gt gl nc AC lc cc AC' lc' cc' (valsOf L.m ts)/\Blk wx gs 44 #[vS]/\wx.ownsRow w.heap.size 3 1 vS (Sx.slk T (valsOf L.m ts) n).length (ints (Sx.slk T (valsOf L.m ts) n))/\∀b,vS.ownBlock=some b->gs<b))
    case atStart=>exact⟨0,_,rfl,yZ _,rfl,Hx ⟨I5.out,BS.out,S0.out,fun b hb=>by cases hb⟩⟩
    case round=>
     obtain⟨n2,vS,rfl,vT,rfl,J⟩:=hrel;clear I5 S0 q2 t0 BS;by_cases q9:n2<K
     ·have nN:(n2:Int)<(K:Int):=by omega
      have n0:(0:Int)<=(n2:Int):=(by omega);obtain⟨gf,v2⟩:∃gf,AF=some ⟨gf,0,none⟩:=by
       have qa:=J.out.1.tab.fre;rw [qj.out]at qa;obtain⟨g',c',zk,e1,_⟩:=jz9 qa (show 0<T.fre.length by omega);injection e1 with e1
       exact⟨g',e1⟩
      subst v2;have qa:=J.out.1.tab.fre;rw [qj.out,show(setCols T (T.cols+1)).fre.length=K from hKK]at qa;have qf:wr.cell? ⟨gf,n2,none⟩=some (.int .i64 (Sx.atN T.fre n2:Nat)):=jzbm qa q9;have NX:=Hx (jze6 T (valsOf L.m ts) n2);have zm:Sx.atN T.fre n2<=1000000000000:=vY.out n2 q9;generalize hx:Sx.atN T.fre n2=x at*;clear qa hx;have x0:decide ((0:Int)<=(x:Int))=true:=yO (by omega);have b7:wr.cell? ⟨gl+1,0,none⟩=some (.slice (some ⟨gl,0,none⟩) L.m L.m):=J.out.1.bv.cell 0;by_cases qS:x<L.m
      ·have x1:decide ((x:Int)<(L.m:Int))=true:=yO (by omega)
       have xN:(x:Int)<(L.m:Int):=(by omega);have xp:(0:Int)<=(x:Int):=(by omega);obtain⟨ny,Y1,my,fy,qF,qD,qJ,⟨s0,s1,s2⟩,_,hy⟩:=J.out.1.qb.at_ (jzv (show x<(valsOf L.m ts).length by rw [jzaf];exact qS));have SG:=Hx (jzz ny Y1 my fy qF qD qJ (Sx.at_ (valsOf L.m ts) x) wr hy);clear hy
       go_wp2_with fail
       refine SG.out.mono ?_;rintro e w6 ⟨rfl,x6⟩;by_cases qV:Sx.at_ (valsOf L.m ts) x=0
       ·have qH:sgnI (Sx.at_ (valsOf L.m ts) x)=0:=(sgn0 _).2 qV
        rw [qH];have J6:=Hx (show AddI w w6 B L (setCols T (T.cols+1)) gt gl nc AC lc cc AC' lc' cc' (valsOf L.m ts)/\Blk w6 gs 44 #[vS]/\w6.ownsRow w.heap.size 3 1 vS (Sx.slk T (valsOf L.m ts) (n2+1)).length (ints (Sx.slk T (valsOf L.m ts) (n2+1)))/\∀b,vS.ownBlock=some b->gs<b from by
         rw [NX.out,if_neg (fun h=>h.2 qV)];exact⟨J.out.1.keep x6,J.out.2.1.keep x6,(FrS.of_ext (S:=fun _=>False) x6).own J.out.2.2.1 (fun _ _ h=>h),J.out.2.2.2⟩)
        clear SG s0 s1 s2 J x6 qH qV;go_wp2
        go_roundg (K-(n2+1))
        case measure=>omega
        case rel=>exact⟨n2+1,vS,rfl,by omega,by go_num,J6⟩
       ·have qH:¬sgnI (Sx.at_ (valsOf L.m ts) x)=0:=fun h=>qV ((sgn0 _).1 h)
        have vG:(sgnI (Sx.at_ (valsOf L.m ts) x) !=0)=true:=(by simpa using qH);have zd:decide (sgnI (Sx.at_ (valsOf L.m ts) x)=0)=false:=yP qH;have zh:(sgnI (Sx.at_ (valsOf L.m ts) x)==0)=false:=(by simpa using qH);have vF:=Hx (show Sx.slk T (valsOf L.m ts) (n2+1)=Sx.slk T (valsOf L.m ts) n2++[n2] by rw [NX.out,if_pos ⟨by rw [jzaf];exact qS,qV⟩]);generalize sgnI (Sx.at_ (valsOf L.m ts) x)=sy at*;have J6:=Hx (show AddI w w6 B L (setCols T (T.cols+1)) gt gl nc AC lc cc AC' lc' cc' (valsOf L.m ts)/\Blk w6 gs 44 #[vS]/\w6.ownsRow w.heap.size 3 1 vS (Sx.slk T (valsOf L.m ts) n2).length (ints (Sx.slk T (valsOf L.m ts) n2))from
         ⟨J.out.1.keep x6,J.out.2.1.keep x6,(FrS.of_ext (S:=fun _=>False) x6).own J.out.2.2.1 (fun _ _ h=>h)⟩)
        have qZ:=Hx J.out.2.2.2;have v5:gs<w6.heap.size:=J6.out.2.1.lt;have g0:w6.cell? ⟨gs,0,none⟩=some vS:=J6.out.2.1.cell 0;have zo:(Sx.slk T (valsOf L.m ts) n2).length<=K:=(by have:=slk_len T (valsOf L.m ts) n2;omega);have XC:=Hx ((Ext.refl w6).alloc (.cells #[.int .i64 (n2:Int)] 3));have BC:=Hx (Blk.new w6 3 #[.int .i64 (n2:Int)]);have VB:=Hx ((FrS.of_ext (S:=fun _=>False) XC.out).own J6.out.2.2 (fun _ _ h=>h));clear SG s0 s1 s2 J x6
        go_wp2_with (at_builtin;refine jz2 _ 44 3 _ 1 8 rfl _ _ rfl Tryz.underlying44 Tryz.infoInt rfl (by decide) w.heap.size vS (Sx.slk T (valsOf L.m ts) n2).length (ints (Sx.slk T (valsOf L.m ts) n2)) rfl VB.out [.int .i64 (n2:Int)] rfl (by simp [Value.oneCell']) w6.heap.size rfl BC.out (by unfold maxLen;omega) (by omega) (by have:=J6.out.1.fr.size;have:=XC.out.size;omega) ?_)
        intro g9 c9 w9 qk qt qU;have qN:∀b,vS.ownBlock=some b->w.heap.size<=b:=fun b hb=>(VB.out.lt b hb).1;have k9:=FrS.of_grown (S:=fun b=>vS.ownBlock=some b) qt fun g e=>e;have n9:NoT (fun b=>vS.ownBlock=some b) (w6.alloc (.cells #[.int .i64 (n2:Int)] 3)) 167:=fun b hb=>jz3 VB.out hb (by decide);have J8:=Hx ((J6.out.1.keep XC.out).far k9 n9 fun b hb=>by
         have h1:=qN b hb;have h2:=qZ.out b hb;have h3:=GB.out;exact⟨h1,PG.out b h1,by omega,by omega,by omega,by omega⟩)
        have qI:=Hx (k9.blk (J6.out.2.1.keep XC.out) fun hb=>by have:=qZ.out gs hb;omega);have z9:w9.frozen? ⟨gs,0,none⟩=false:=qI.out.frozen _;have y9:w9.cell? ⟨gs,0,none⟩=some vS:=qI.out.cell 0;have vi:FrS (fun b=>b=gs) w9 (w9.setCell ⟨gs,0,none⟩ (.slice (some ⟨g9,0,none⟩) ((Sx.slk T (valsOf L.m ts) n2).length+1) c9)):=FrS.of_grown (jze w9 gs 0 _) fun g e=>(by injection e with e;exact e.symm);have v1:=Hx (show AddI w (w9.setCell ⟨gs,0,none⟩ (.slice (some ⟨g9,0,none⟩) ((Sx.slk T (valsOf L.m ts) n2).length+1) c9)) B L (setCols T (T.cols+1)) gt gl nc AC lc cc AC' lc' cc' (valsOf L.m ts)/\Blk (w9.setCell ⟨gs,0,none⟩ (.slice (some ⟨g9,0,none⟩) ((Sx.slk T (valsOf L.m ts) n2).length+1) c9)) gs 44 #[.slice (some ⟨g9,0,none⟩) ((Sx.slk T (valsOf L.m ts) n2).length+1) c9]/\
          (w9.setCell ⟨gs,0,none⟩ (.slice (some ⟨g9,0,none⟩) ((Sx.slk T (valsOf L.m ts) n2).length+1) c9)).ownsRow w.heap.size 3 1 (.slice (some ⟨g9,0,none⟩) ((Sx.slk T (valsOf L.m ts) n2).length+1) c9) (Sx.slk T (valsOf L.m ts) (n2+1)).length (ints (Sx.slk T (valsOf L.m ts) (n2+1)))/\
          ∀b,(Value.slice (some ⟨g9,0,none⟩) ((Sx.slk T (valsOf L.m ts) n2).length+1) c9).ownBlock=some b->gs<b from by
         refine⟨J8.out.far vi (NoT.one qI.out (by decide)) (fun b hb=>?_),qI.out.set_ 0 _,?_,fun b hb=>?_⟩
         ·subst hb
          have h3:=GB.out;exact⟨vp,PG.out _ vp,by omega,by omega,by omega,by omega⟩
         ·rw [<-hgt]at qk
          rw [vF.out,yQ,List.length_singleton,jzbs];refine vi.own qk fun b hb e=>?_;obtain⟨zb,qR⟩:=jzl qk hb;rw [e]at qR;exact absurd (jzq qR qI.out).2 (by decide)
         ·injection hb with hb
          have hb:g9=b:=hb;subst hb;rcases qU with h1|h1
          ·exact qZ.out _ h1.symm
          ·have:=XC.out.size
           omega)
        clear J8 qI k9 n9 vi qN qk qt qU VB XC BC J6 qZ NX vF g0;go_wp2
        go_roundg (K-(n2+1))
        case measure=>omega
        case rel=>exact⟨n2+1,_,rfl,by omega,by go_num,v1⟩
      ·have x1:decide ((x:Int)<(L.m:Int))=false:=yP (by omega)
       have J6:=Hx (show AddI w wr B L (setCols T (T.cols+1)) gt gl nc AC lc cc AC' lc' cc' (valsOf L.m ts)/\Blk wr gs 44 #[vS]/\wr.ownsRow w.heap.size 3 1 vS (Sx.slk T (valsOf L.m ts) (n2+1)).length (ints (Sx.slk T (valsOf L.m ts) (n2+1)))/\∀b,vS.ownBlock=some b->gs<b from by
        rw [NX.out,if_neg (fun h=>qS (by have:=h.1;rw [jzaf]at this;exact this))];exact J.out)
       clear J;go_wp2
       go_roundg (K-(n2+1))
       case measure=>omega
       case rel=>exact⟨n2+1,vS,rfl,by omega,by go_num,J6⟩
     ·obtain rfl:K=n2:=by omega
      clear vT q9;generalize wr=W6 at*;clear wr;have vx:=Hx (jzaf L.m ts);have ve:=Hx HT.out.2.2.2;generalize hvals:valsOf L.m ts=vals at*;have q1:=Hx (show Sx.slk T vals K=Sx.slk T vals T.fre.length by rw [hKK]);generalize Sx.slk T vals K=js at*;have q6:=Hx (show∀b,L.S b->b≠gt/\b≠gl/\b≠gl+1/\b≠gs/\vS.ownBlock≠some b from fun b hb=>by
       have h1:=(H.out.1.ty hb).2.1;refine⟨by omega,by omega,by omega,by omega,fun e=>?_⟩;have:=(J.out.2.2.1.lt b e).1;omega)
      have LT:=Hx (show∀b,W6.heap.size<=b->b≠gt/\b≠gl/\b≠gl+1/\b≠gs/\vS.ownBlock≠some b from fun b hb=>by
       have h1:=J.out.1.bt.lt;have h2:=J.out.1.bv.lt;have h3:=J.out.2.1.lt;refine⟨by omega,by omega,by omega,by omega,fun e=>?_⟩;have:=(J.out.2.2.1.lt b e).2;omega)
      have qA:T.rows.length=L.m:=H.out.1.rl;have R0:=Hx (show RowsI W6 W6 B L L (addTo T vals 0)/\AddB W6 w.heap.size L gt gl gs vals vS js from
       ⟨⟨by rw [jzku];exact J.out.1.tab,⟨rfl,rfl,rfl,rfl,rfl⟩,fun b hb=>.inl hb,FrS.refl _ _⟩,J.out.1.bt,J.out.1.bv,J.out.1.qb,J.out.2.1,J.out.2.2.1⟩)
      have vW:B<=W6.heap.size:=(by have:=J.out.1.fr.size;omega);obtain⟨cp,qe,_,p0,p1,p2,p7⟩:=J.out.1.tab.goa;rw [HV.out.1]at p0;have q0:=(qe.cell 0).trans p0;have t0:W6.cell? ⟨gt,0,none⟩=some (.pointer (some ⟨L.p,0,none⟩)):=J.out.1.bt.cell 0;clear qe p0 p1 p2 p7;go_wp2;clear q0 t0
      go_loopg [14,89] L.m (fun q _ it wx=>∃(n:Nat) (Ln:TLoc),L.m-n=q/\n<=L.m/\it=.int .i64 (n:Int)/\Hid (RowsI W6 wx B L Ln (addTo T vals n)/\AddB wx w.heap.size L gt gl gs vals vS js))
      case atStart=>exact⟨0,L,rfl,yZ _,rfl,R0⟩
      case round=>
       obtain⟨n,Ln,rfl,hn,rfl,I⟩:=hrel;clear R0;have vK:B<=wr.heap.size:=yY vW I.out.1.fr.size;have AK:=Hx (show∀wx,Ext wr wx->AddB wx w.heap.size L gt gl gs vals vS js from fun wx hx=>I.out.2.fr (S:=fun _=>False) (FrS.of_ext hx) (fun b hb=>hb.elim) (fun b hb=>hb.elim));by_cases vt:n<L.m
       ·have nN:(n:Int)<(L.m:Int):=by omega
        have n0:(0:Int)<=(n:Int):=(by omega);have qg:=Hx (show∀wx,Ext wr wx->wx.cell? ⟨gt,0,none⟩=some (.pointer (some ⟨L.p,0,none⟩))/\wx.cell? ⟨L.p,0,none⟩=some (.slice (some ⟨g,0,none⟩) L.m cr)/\wx.cell? ⟨L.p,1,none⟩=some (.slice (some ⟨gb,0,none⟩) L.m cb)/\wx.cell? ⟨gb,n,none⟩=some (.int .i64 (Sx.atN T.bas n:Nat))from fun wx hx=>by
         have I':=I.out.1.keep hx;obtain⟨e1,e2,e3,e4,e5⟩:=I'.loc;obtain⟨cp,qe,_,p0,p1,p2,p7⟩:=I'.tab.goa;have qa:=I'.tab.bas;rw [e1]at qe;rw [e2,HV.out.1]at p0;rw [e3,HV.out.2]at p1;rw [e3,HV.out.2,e5]at qa;exact⟨(AK.out wx hx).bt.cell 0,(qe.cell 0).trans p0,(qe.cell 1).trans p1,jzbm qa vt⟩)
        have vu:=Hx (show∀wx,Ext wr wx->Calls Tryz.prog 131 #[.pointer (some ⟨g,n*4,none⟩),.int .i64 (Sx.atN T.bas n:Nat),.pointer (some ⟨gl+1,0,none⟩),.pointer (some ⟨gs,0,none⟩),.pointer (some ⟨gt,0,none⟩)] wx
          (fun e w'=>e=.returned (.tuple #[])/\∃L2,RowsI W6 w' B L L2 (addTo T vals (n+1))/\AddB w' w.heap.size L gt gl gs vals vS js)from fun wx hx=>
         addRow_ok n g cr (I.out.1.keep hx) (AK.out wx hx) q1.out qA (yY vK hx.size) q6.out LT.out vt HV.out.1 H.out.2.1 H.out.2.2 hP1 hP hm (by omega) vx.out ve.out hjl)
        have XD:=Hx (show Ext wr wr.drew from(Ext.refl wr).drewN 1);have HSW:=Hx (qg.out _ XD.out)
        go_upto_region 20 with fail
        refine jzg (fun w'=>w'.cell? ⟨gt,0,none⟩=some (.pointer (some ⟨L.p,0,none⟩))/\w'.cell? ⟨L.p,0,none⟩=some (.slice (some ⟨g,0,none⟩) L.m cr)/\w'.cell? ⟨L.p,1,none⟩=some (.slice (some ⟨gb,0,none⟩) L.m cb)/\w'.cell? ⟨gb,n,none⟩=some (.int .i64 (Sx.atN T.bas n:Nat))) 14 (by kernel_rfl) ?_;refine wP 0 rfl HSW.out ?_;try simp only [Act.put,yD,yE,yF]
        refine jz5 (path:=[14,6,4,3,2]) (i:=1) (v:=?_) rfl (by kernel_rfl) (by kernel_rfl) (by kernel_rfl) (by decide) (by kernel_rfl) (by kernel_rfl) (by kernel_rfl) (fun _ _ _ h=>h) (Or.inl ⟨by rfl,?_⟩) HSW.out ?_;rotate_left
        focus (intro w hSw;obtain⟨s1,s2,s3,s4⟩:=hSw;go_simp;try with_reducible rfl)
        try simp only [Act.put,yD,yE,yF]
        refine wP 2 rfl HSW.out ?_;try simp only [Act.put,yD,yE,yF]
        refine wP 3 rfl HSW.out ?_;try simp only [Act.put,yD,yE,yF]
        refine jz5 (path:=[14,6]) (i:=4) (v:=?_) rfl (by kernel_rfl) (by kernel_rfl) (by kernel_rfl) (by decide) (by kernel_rfl) (by kernel_rfl) (by kernel_rfl) (fun _ _ _ h=>h) (Or.inl ⟨by rfl,?_⟩) HSW.out ?_;rotate_left
        focus (intro w hSw;obtain⟨s1,s2,s3,s4⟩:=hSw;go_simp;try with_reducible rfl)
        try simp only [Act.put,yD,yE,yF]
        refine wP 5 rfl HSW.out ?_;try simp only [Act.put,yD,yE,yF]
        refine wP 6 rfl HSW.out ?_;try simp only [Act.put,yD,yE,yF]
        refine jz5 (path:=[14,13,12,10,9,8]) (i:=7) (v:=?_) rfl (by kernel_rfl) (by kernel_rfl) (by kernel_rfl) (by decide) (by kernel_rfl) (by kernel_rfl) (by kernel_rfl) (fun _ _ _ h=>h) (Or.inl ⟨by rfl,?_⟩) HSW.out ?_;rotate_left
        focus (intro w hSw;obtain⟨s1,s2,s3,s4⟩:=hSw;go_simp;try with_reducible rfl)
        try simp only [Act.put,yD,yE,yF]
        refine wP 8 rfl HSW.out ?_;try simp only [Act.put,yD,yE,yF]
        refine wP 9 rfl HSW.out ?_;try simp only [Act.put,yD,yE,yF]
        refine jz5 (path:=[14,13,12]) (i:=10) (v:=?_) rfl (by kernel_rfl) (by kernel_rfl) (by kernel_rfl) (by decide) (by kernel_rfl) (by kernel_rfl) (by kernel_rfl) (fun _ _ _ h=>h) (Or.inl ⟨by rfl,?_⟩) HSW.out ?_;rotate_left
        focus (intro w hSw;obtain⟨s1,s2,s3,s4⟩:=hSw;go_simp;try with_reducible rfl)
        try simp only [Act.put,yD,yE,yF]
        refine wP 11 rfl HSW.out ?_;try simp only [Act.put,yD,yE,yF]
        refine wP 12 rfl HSW.out ?_;try simp only [Act.put,yD,yE,yF]
        refine wT 13 (v:=?_) rfl ?_ HSW.out ?_;rotate_left
        focus (intro w hSw;obtain⟨s1,s2,s3,s4⟩:=hSw;go_simp;try with_reducible rfl)
        try simp only [Act.put,yD,yE,yF]
        refine jzk (by kernel_rfl) rfl (by rfl) (fun KK hK=>?_);go_simp;refine(vu.out _ XD.out).mono ?_;rintro e w9 ⟨rfl,L2,I9,A9⟩;have I9:=Hx (And.intro I9 A9);refine hK.out _ _ ?_;clear hK KK vu qg HSW XD AK I;refine wpAny_done (by kernel_rfl) ?_ _;go_wp2
        go_roundg (L.m-(n+1))
        case measure=>omega
        case rel=>exact⟨n+1,L2,rfl,by omega,by go_num,I9⟩
       ·have e9:n=L.m:=by omega
        subst e9;have qT:=Hx (jzlj (B0:=w.heap.size) I.out.1 I.out.2 q1.out qA vK q6.out LT.out H.out.2.1 H.out.2.2 hP1 hP hm (by omega) vx.out ve.out hjl);have t0:wr.cell? ⟨gt,0,none⟩=some (.pointer (some ⟨L.p,0,none⟩)):=I.out.2.bt.cell 0
        go_wp2_with fail
        refine(qT.out).mono ?_;rintro e w9 ⟨rfl,L2,g2,c2,vk,I9,A9⟩;rw [hKK]at vk;obtain⟨e1,e2,e3,e4,e5⟩:=I9.loc;have I9:=Hx (And.intro vk (And.intro I9 A9));have E5:=Hx (And.intro e1 (And.intro e4 e5));clear qT I AK t0 vk;have t0:w9.cell? ⟨gt,0,none⟩=some (.pointer (some ⟨L.p,0,none⟩)):=I9.out.2.2.bt.cell 0;obtain⟨cp,qe,⟨nr,R1,m1,d1,zq,zn,zg,r0,r1,r2,r3,v4⟩,p0,p1,p2,p7⟩:=I9.out.2.1.tab.goa;rw [e1]at qe;rw [e4,qj.out]at p2;rw [e5,I9.out.1]at r0;have q2:w9.cell? ⟨L.p,2,none⟩=some (.slice AF K cf):=(qe.cell 2).trans p2;have q3:w9.cell? ⟨L.p,3,none⟩=some (.slice (some ⟨g2,0,none⟩) (K+1) c2):=(qe.cell 3).trans r0;have qP:T.goal.co.length=K:=(by rw [H.out.2.1.gl];exact hKK);have vZ:=Hx (show SzQ (Sx.addC T vals T.goal.co 0 js) 30000000 from by
         have h1:=jzkn (T:=T) (X:=T.goal.co) (vals:=vals) (base:=0) (js:=js) (P:=P) H.out.2.2.go ve.out ((show SzQ 0 1 from⟨by decide,by decide⟩).mono hP1) (fun j hj=>by
          have h2:=q1.out▸hj;have h3:=jzgu T vals _ j h2;rw [qP];omega) js.length (yX _)
         unfold addS at h1;rw [yU (yX _)]at h1;refine h1.mono ?_;have:js.length*(2*P+1)<=1000*20001:=Nat.mul_le_mul (by omega) (by omega);omega)
        have vj:(T.goal.co++[Sx.addC T vals T.goal.co 0 js])[K]?=some (Sx.addC T vals T.goal.co 0 js):=by
         rw [yS (by omega),qP,Nat.sub_self];rfl
        have qi:=I9.out.2.1.tab.go;rw [e5,I9.out.1]at qi;have qi:OQ QR 35 w9 B (.slice (some ⟨g2,0,none⟩) (K+1) c2) (T.goal.co++[Sx.addC T vals T.goal.co 0 js]):=qi;obtain⟨ny,Y1,my,fy,qF,qD,qJ,⟨s0,s1,s2⟩,_,hy⟩:=qi.cell vj;have FC:=Hx (show FrS L.S w w9/\RatR w9 nc AC lc cc AC' lc' cc' cost/\Blk w9 (gt+1) 35 #[.bool nc,.slice AC lc cc,.slice AC' lc' cc']from by
         have k1:=J.out.1.fr.tr I9.out.2.1.fr fun b hb=>.inl hb;exact⟨k1,k1.ratR H.out.1.no32 HT.out.1,I9.out.2.1.fr.blk J.out.1.bc (PG.out _ (by omega))⟩)
        obtain⟨l1,zi⟩:=hy.lens vZ.out;obtain⟨l2,zc⟩:=FC.out.2.1.lens hcsz;have RF:=Hx hy;have qg:=Hx (show∀wx,Ext w9 wx->wx.cell? ⟨gt,0,none⟩=some (.pointer (some ⟨L.p,0,none⟩))/\wx.cell? ⟨L.p,3,none⟩=some (.slice (some ⟨g2,0,none⟩) (K+1) c2)/\(wx.cell? ⟨g2,K*3,none⟩=some (.bool ny)/\wx.cell? ⟨g2,K*3+1,none⟩=some (.slice Y1 my fy)/\wx.cell? ⟨g2,K*3+2,none⟩=some (.slice qF qD qJ))/\
          (wx.cell? ⟨gt+1,0,none⟩=some (.bool nc)/\wx.cell? ⟨gt+1,1,none⟩=some (.slice AC lc cc)/\wx.cell? ⟨gt+1,2,none⟩=some (.slice AC' lc' cc'))from fun wx hx=>
         ⟨cellK hx t0,cellK hx q3,⟨cellK hx s0,cellK hx s1,cellK hx s2⟩,((FC.out.2.2.keep hx).three).1⟩)
        clear qe p0 p1 p2 p7 r0 r1 r2 r3 v4 qi hy s0 s1 s2 q3;have XD:=Hx (show Ext w9 w9.drew from(Ext.refl w9).drewN 1);have HSW:=Hx (qg.out _ XD.out);have v9:(K:Int)<(K:Int)+1:=(by omega);have za:(0:Int)<=(K:Int):=by omega
        go_upto_region 24 with fail
        clear t0 q2;refine jzg (fun w'=>w'.cell? ⟨gt,0,none⟩=some (.pointer (some ⟨L.p,0,none⟩))/\w'.cell? ⟨L.p,3,none⟩=some (.slice (some ⟨g2,0,none⟩) (K+1) c2)/\(w'.cell? ⟨g2,K*3,none⟩=some (.bool ny)/\w'.cell? ⟨g2,K*3+1,none⟩=some (.slice Y1 my fy)/\w'.cell? ⟨g2,K*3+2,none⟩=some (.slice qF qD qJ))/\
         (w'.cell? ⟨gt+1,0,none⟩=some (.bool nc)/\w'.cell? ⟨gt+1,1,none⟩=some (.slice AC lc cc)/\w'.cell? ⟨gt+1,2,none⟩=some (.slice AC' lc' cc'))) 17 (by kernel_rfl) ?_
        refine wT 0 (v:=?_) rfl ?_ HSW.out ?_;rotate_left
        focus (intro w hSw;obtain⟨s1,s2,⟨s3,s4,s5⟩,s6,s7,s8⟩:=hSw;go_simp;try with_reducible rfl)
        try simp only [Act.put,yD,yE,yF]
        refine wP 1 rfl HSW.out ?_;try simp only [Act.put,yD,yE,yF]
        refine wP 2 rfl HSW.out ?_;try simp only [Act.put,yD,yE,yF]
        refine wP 3 rfl HSW.out ?_;try simp only [Act.put,yD,yE,yF]
        refine wT 4 (v:=?_) rfl ?_ HSW.out ?_;rotate_left
        focus (intro w hSw;obtain⟨s1,s2,⟨s3,s4,s5⟩,s6,s7,s8⟩:=hSw;go_simp;try with_reducible rfl)
        try simp only [Act.put,yD,yE,yF]
        refine wP 5 rfl HSW.out ?_;try simp only [Act.put,yD,yE,yF]
        refine wT 6 (v:=?_) rfl ?_ HSW.out ?_;rotate_left
        focus (intro w hSw;obtain⟨s1,s2,⟨s3,s4,s5⟩,s6,s7,s8⟩:=hSw;go_simp;try with_reducible rfl)
        try simp only [Act.put,yD,yE,yF]
        refine wP 7 rfl HSW.out ?_;try simp only [Act.put,yD,yE,yF]
        refine wP 8 rfl HSW.out ?_;try simp only [Act.put,yD,yE,yF]
        refine wP 9 rfl HSW.out ?_;try simp only [Act.put,yD,yE,yF]
        refine wT 10 (v:=?_) rfl ?_ HSW.out ?_;rotate_left
        focus (intro w hSw;obtain⟨s1,s2,⟨s3,s4,s5⟩,s6,s7,s8⟩:=hSw;go_simp;try with_reducible rfl)
        try simp only [Act.put,yD,yE,yF]
        refine wP 11 rfl HSW.out ?_;try simp only [Act.put,yD,yE,yF]
        refine wP 12 rfl HSW.out ?_;try simp only [Act.put,yD,yE,yF]
        refine wT 13 (v:=?_) rfl ?_ HSW.out ?_;rotate_left
        focus (intro w hSw;obtain⟨s1,s2,⟨s3,s4,s5⟩,s6,s7,s8⟩:=hSw;go_simp;try with_reducible rfl)
        try simp only [Act.put,yD,yE,yF]
        refine wT 14 (v:=?_) rfl ?_ HSW.out ?_;rotate_left
        focus (intro w hSw;obtain⟨s1,s2,⟨s3,s4,s5⟩,s6,s7,s8⟩:=hSw;go_simp;try with_reducible rfl)
        try simp only [Act.put,yD,yE,yF]
        refine wC 15 rfl (fun KK hK=>?_);go_simp;refine(jzca ny nc Y1 my fy qF qD qJ AC lc cc AC' lc' cc' (Sx.addC T vals T.goal.co 0 js) cost _ (RF.out.keep XD.out) (FC.out.2.1.keep XD.out) (by omega) (by omega) (by omega) (by omega)).mono ?_;rintro e qE ⟨va,q5,vn,vm,qB,qw,qy,rfl,vL,vw⟩;have qG:=Hx (show Ext w9 qE from XD.out.tr vw);have HSW:=Hx (qg.out _ qG.out);have qM:=Hx (show TabR (((qE.setCell ⟨g2,K*3,none⟩ (.bool va)).setCell ⟨g2,K*3+1,none⟩ (.slice q5 vn vm)).setCell ⟨g2,K*3+2,none⟩ (.slice qB qw qy)) B L2 (setGoal (addTo T vals L.m) ⟨T.goal.co++[Sx.addC T vals T.goal.co 0 js-cost],T.goal.re⟩)/\FrS L2.S qE (((qE.setCell ⟨g2,K*3,none⟩ (.bool va)).setCell ⟨g2,K*3+1,none⟩ (.slice q5 vn vm)).setCell ⟨g2,K*3+2,none⟩ (.slice qB qw qy))from by
         have h1:=(I9.out.2.1.tab.keep qG.out).go_set (gv:=g2) (K:=K+1) (cv:=c2) (n:=K) (by rw [E5.out.2.2];exact I9.out.1) (by show(T.goal.co++[_]).length=_;rw [yQ,qP];rfl) (by omega) vL;have h2:(T.goal.co++[Sx.addC T vals T.goal.co 0 js]).set K (Sx.addC T vals T.goal.co 0 js-cost)=T.goal.co++[Sx.addC T vals T.goal.co 0 js-cost]:=by
          rw [List.set_append_right _ _ (by omega),qP,Nat.sub_self];rfl
         have h3:(setGoal (addTo T vals L.m) ⟨T.goal.co++[Sx.addC T vals T.goal.co 0 js],T.goal.re⟩).goal.co.set K (Sx.addC T vals T.goal.co 0 js-cost)=T.goal.co++[Sx.addC T vals T.goal.co 0 js-cost]:=h2;rw [h3]at h1;exact h1)
        have qi:=(I9.out.2.1.tab.keep qG.out).go;rw [E5.out.2.2,I9.out.1]at qi;have qi:OQ QR 35 qE B (.slice (some ⟨g2,0,none⟩) (K+1) c2) (T.goal.co++[Sx.addC T vals T.goal.co 0 js]):=qi;obtain⟨_,_,_,_,_,_,_,_,⟨z0,z1,z2⟩,_⟩:=qi.cell vj;refine hK.out _ _ HSW.out ?_;clear hK KK vL vw qi;refine wP 16 rfl HSW.out ?_;try simp only [Act.put,yD,yE,yF]
        obtain⟨_,_,⟨t0,t1,t2⟩,_⟩:=HSW.out;refine jzk (by kernel_rfl) rfl (by rfl) (fun KK hK=>?_);go_simp;refine hK.out _ _ ?_;clear hK KK;refine wpAny_done (by kernel_rfl) ?_ _;clear t0 t1 t2 z0 z1 z2 HSW RF qg XD vj;generalize ((qE.setCell ⟨g2,K*3,none⟩ (.bool va)).setCell ⟨g2,K*3+1,none⟩ (.slice q5 vn vm)).setCell ⟨g2,K*3+2,none⟩ (.slice qB qw qy)=W11 at*;have qK:=Hx (show∀b,L2.S b->b≠gt from fun b hb=>by
         rcases I9.out.2.1.far b hb with h1|h1
         ·exact(q6.out b h1).1
         ·exact(LT.out b h1).1)
        have vH:=Hx (qM.out.2.blk (I9.out.2.2.bt.keep qG.out) fun hb=>qK.out _ hb rfl);have t0:W11.cell? ⟨gt,0,none⟩=some (.pointer (some ⟨L.p,0,none⟩)):=vH.out.cell 0;have qg:=Hx (show∀wx,Ext W11 wx->wx.cell? ⟨gt,0,none⟩=some (.pointer (some ⟨L.p,0,none⟩))/\wx.cell? ⟨L.p,2,none⟩=some (.slice AF K cf)from fun wx hx=>by
         obtain⟨cp,qe,_,p0,p1,p2,p7⟩:=(qM.out.1.keep hx).goa;rw [E5.out.1]at qe;rw [E5.out.2.1,qj.out]at p2;exact⟨cellK hx t0,(qe.cell 2).trans p2⟩)
        have XD:=Hx (show Ext W11 W11.drew from(Ext.refl W11).drewN 1);have XB:=Hx (show Ext W11 (W11.alloc (.cells #[.int .i64 ((L.m:Int)+(T.cols:Int))] 3)).drew from((Ext.refl W11).alloc _).drewN 1);have HSW:=Hx (qg.out _ XD.out)
        go_upto_region 25 with fail
        refine jzg (fun w'=>w'.cell? ⟨gt,0,none⟩=some (.pointer (some ⟨L.p,0,none⟩))/\w'.cell? ⟨L.p,2,none⟩=some (.slice AF K cf)) 10 (by kernel_rfl) ?_;refine wT 0 (v:=?_) rfl ?_ HSW.out ?_;rotate_left
        focus (intro w hSw;obtain⟨s1,s2⟩:=hSw;go_simp;try with_reducible rfl)
        try simp only [Act.put,yD,yE,yF]
        refine wT 1 (v:=?_) rfl ?_ HSW.out ?_;rotate_left
        focus (intro w hSw;obtain⟨s1,s2⟩:=hSw;go_simp;try with_reducible rfl)
        try simp only [Act.put,yD,yE,yF]
        refine wP 2 rfl HSW.out ?_;try simp only [Act.put,yD,yE,yF]
        refine wP 3 rfl HSW.out ?_;try simp only [Act.put,yD,yE,yF]
        refine wT 4 (v:=?_) rfl ?_ HSW.out ?_;rotate_left
        focus (intro w hSw;obtain⟨s1,s2⟩:=hSw;go_simp;try with_reducible rfl)
        try simp only [Act.put,yD,yE,yF]
        refine wP 5 rfl HSW.out ?_;try simp only [Act.put,yD,yE,yF]
        refine wC 6 rfl (fun KK hK=>?_);go_simp;have qx:=Hx (qg.out _ XB.out);refine hK.out _ _ qx.out ?_;clear hK KK HSW t0;have HSW:=qx;have BW:=Hx (show Blk (W11.alloc (.cells #[.int .i64 ((L.m:Int)+(T.cols:Int))] 3)).drew W11.heap.size 3 #[.int .i64 ((L.m:Int)+(T.cols:Int))]from Blk.new W11 _ _);clear qx;generalize (W11.alloc (.cells #[.int .i64 ((L.m:Int)+(T.cols:Int))] 3)).drew=W12 at*;have qO:=Hx (qM.out.1.keep XB.out);have qa:=qO.out.fre;rw [E5.out.2.1,qj.out]at qa;have qa:W12.ownsRow B 3 1 (.slice AF K cf) T.fre.length (ints T.fre):=qa;rw [hKK]at qa;have v6:B<=W12.heap.size:=(by have:=qO.out.lo;have:=(qO.out.ty (.inl rfl)).2.1;omega);refine wC 7 rfl (fun KK hK=>?_);refine jzdl W12 44 3 _ 1 8 _ _ rfl Tryz.underlying44 Tryz.infoInt rfl (by decide) B (.slice AF K cf) K (ints T.fre) (by rfl) qa [.int .i64 ((L.m:Int)+(T.cols:Int))] rfl (by simp [Value.oneCell']) W11.heap.size (by rfl) BW.out (by unfold maxLen;omega) (by omega) v6 ?_;intro g7 c7 w7 qL qh qz;have k7:=Hx (show FrS (fun b=>(Value.slice AF K cf).ownBlock=some b) W12 w7 from FrS.of_grown qh fun g e=>e);have v3:=Hx (show∀b,(Value.slice AF K cf).ownBlock=some b->L2.S b from fun b hb=>.inr (.inr (.inr (.inl (by rw [E5.out.2.1,qj.out];exact hb)))));obtain⟨cp,qe,_,p0,p1,p2,p7⟩:=qO.out.goa;have qm:=k7.out.blk qe fun hb=>jz3 qa hb (by decide) _ _ qe;rw [E5.out.1]at qm;rw [E5.out.2.1,qj.out]at p2;have FP:=Hx (show TabR (w7.setCell ⟨L.p,2,none⟩ (.slice (some ⟨g7,0,none⟩) (K+1) c7)) B (L2.setF (.slice (some ⟨g7,0,none⟩) (K+1) c7)) (Sx.addT T cost vals)/\FrS L2.S W12 (w7.setCell ⟨L.p,2,none⟩ (.slice (some ⟨g7,0,none⟩) (K+1) c7))from by
         have h1:=qO.out.fre_push (g7:=g7) (c7:=c7) (num:=L.m+T.cols) (w7:=w7) (by
          show w7.ownsRow B 3 1 (.slice (some ⟨g7,0,none⟩) (T.fre.length+1) c7) (T.fre.length+1) (ints T.fre++[.int .i64 ((L.m+T.cols:Nat):Int)]);rw [hKK,Int.natCast_add];exact qL) (by rw [E5.out.2.1,qj.out];exact qh) (by rw [E5.out.2.1,qj.out];exact qz.imp id fun e=>Nat.le_of_eq e.symm)
         have h2:=addT_eq (vals:=vals) qA cost;rw [<-q1.out]at h2;have h3:(setGoal (addTo T vals L.m) ⟨T.goal.co++[Sx.addC T vals T.goal.co 0 js-cost],T.goal.re⟩).fre=T.fre:=rfl;rw [h3,h2,hKK,E5.out.1]at h1;exact h1)
        have qC:=Hx (show∀b,L2.S b->L.S b\/w.heap.size<=b from fun b hb=>(I9.out.2.1.far b hb).imp id fun h=>yY J.out.1.fr.size h);have vR:=Hx (show∃L':TLoc,L'.p=L.p/\L'.m=L.m/\TabR (w7.setCell ⟨L.p,2,none⟩ (.slice (some ⟨g7,0,none⟩) (K+1) c7)) B L' (Sx.addT T cost vals)/\FrS L.S w (w7.setCell ⟨L.p,2,none⟩ (.slice (some ⟨g7,0,none⟩) (K+1) c7))/\∀b,L'.S b->L.S b\/gt<=b from by
         rw [<-hgt];refine⟨L2.setF (.slice (some ⟨g7,0,none⟩) (K+1) c7),E5.out.1,E5.out.2.2,FP.out.1,((((FC.out.1.tr (FrS.of_ext (S:=L.S) qG.out) fun b hb=>.inl hb).tr qM.out.2 qC.out).tr (FrS.of_ext (S:=L.S) XB.out) fun b hb=>.inl hb).tr FP.out.2 qC.out),?_⟩;refine setF_far (W6:=w) (wx:=W12) qC.out ?_ ?_
         ·have h1:=FC.out.1.size
          have h2:=qG.out.size;have h3:=qM.out.2.size;have h4:=XB.out.size;omega
         ·rw [E5.out.2.1,qj.out]
          exact qz.imp id fun e=>Nat.le_of_eq e.symm)
        have qn:=Hx (show w7.cell? ⟨gt,0,none⟩=some (.pointer (some ⟨L.p,0,none⟩))/\w7.cell? ⟨L.p,2,none⟩=some (.slice AF K cf)from
         ⟨(k7.out.blk (vH.out.keep XB.out) fun hb=>qK.out _ (v3.out _ hb) rfl).cell 0,(qm.cell 2).trans p2⟩)
        have z0:w7.frozen? ⟨L.p,2,none⟩=false:=qm.frozen _;have t0:w7.cell? ⟨L.p,2,none⟩=some (.slice AF K cf):=qn.out.2;refine hK.out _ _ qn.out ?_;clear hK KK HSW qL qh qa qz qe qm p0 p1 p2 p7;have HSW:=qn;try simp only [Act.put,yD,yE,yF]
        refine wP 8 rfl HSW.out ?_;try simp only [Act.put,yD,yE,yF]
        refine wP 9 rfl HSW.out ?_;try simp only [Act.put,yD,yE,yF]
        refine jzk (by kernel_rfl) rfl (by rfl) (fun KK hK=>?_);go_simp;refine hK.out _ _ ?_;clear hK KK HSW qn z0 t0;refine wpAny_done (by kernel_rfl) ?_ _;go_wp2
        go_end0
        obtain⟨L9,f1,f2,f3,f4,f5⟩:=vR.out;refine⟨L9,rfl,f1,f2,?_,f4,?_⟩
        ·rw [hvals];exact f3
        ·rw [hgt];exact f5
theorem jzbw(t:Tp)(AO:Option Addr)(co:Nat)(AL:Option Addr)(cl:Nat)(a:Nat)(w:World)(ht:TopR w t AO co AL cl)(hv:validP t=true)(ha:a<2*t.links.length):
  Calls Tryz.prog 64 #[.agg #[.int .i64 t.nodes,.slice AO t.over.length co,.slice AL t.links.length cl],.int .i64 (a:Int)] w (RatPost w (capQ t a)):=by
 obtain⟨hl,_,_,_,k5,k6,k7⟩:=jzc0 hv ha;have qf:=ht.ll;have qg:=ht.cl;obtain⟨lk,qe⟩:∃lk,t.links[a/2]?=some lk:=⟨_,yG hl⟩;have e0:t.links[a/2]=lk:=(yH.1 qe).2;rw [e0]at k5 k6 k7;obtain⟨b,o,rfl,hb,_,_,_,_,c4,_,_⟩:=ht.link qe;have HQ:=Hx k5;obtain⟨b0,b1,e1⟩:=boxes2 w #[.int .i64 t.nodes,.slice AO t.over.length co,.slice (some ⟨b,o,none⟩) t.links.length cl] 25 #[.bool false,.slice none 0 0,.slice none 0 0] 35;have i2:=b0.cell 2;have BB:=Hx (And.intro b1 e1);have c4:=cellK e1 c4;clear ht hv qe e0 k5 b0 b1 e1
 go_enter Tryz.func64,Tryz.ntmps64
 go_wp2_with fail
 refine(jzar lk.cap _ ⟨by omega,by omega⟩).mono ?_;rintro e w1 ⟨neg,A,n,c,A',n',c',rfl,hR,hx⟩;have B1:=BB.out.1.keep hx;have F:=Hx (jzae (w:=w) hR B1 (by omega) (BB.out.2.tr hx));obtain⟨⟨j0,j1,j2⟩,z0,z1,z2⟩:=B1.three;have qa:=((B1.set_ 0 (.bool neg)).set_ 1 (.slice A n c)).set_ 2 (.slice A' n' c');have HB:=Hx qa;clear hR hx B1 BB qa;go_wp2;have qa:=HB.out;refine bodyPost_ret (v:=.agg #[.bool neg,.slice A n c,.slice A' n' c']) (by simp [results,Tryz.results64,go_sem,qa.cell]) rfl ⟨neg,A,n,c,A',n',c',rfl,?_⟩;rw [HQ.out];exact F.out
def bnds(L2 D:Nat)(cap:Nat->Rat)(n:Nat):List Rat:=(List.range (L2+D)).map fun i=>if i<n then cap i else 0
theorem jzlk(L2 D:Nat)(cap:Nat->Rat)(n:Nat):(bnds L2 D cap n).length=L2+D:=by unfold bnds;simp
theorem bnds_zero(L2 D:Nat)(cap:Nat->Rat):bnds L2 D cap 0=List.replicate (L2+D) 0:=by
 unfold bnds;apply uK;intro i;rw [yW,xB];by_cases h:i<L2+D
 ·rw [xJ h,if_pos h];simp
 ·rw [yI (by simp;omega),if_neg h];rfl
theorem bnds_step(L2 D:Nat)(cap:Nat->Rat){n:Nat}(hn:n<L2+D):(bnds L2 D cap n).set n (cap n)=bnds L2 D cap (n+1):=by
 unfold bnds;apply uK;intro i;by_cases h:i<L2+D
 ·rw [yW,xJ h]
  by_cases e:n=i
  ·subst e
   rw [yM (by simpa using h)];simp
  ·rw [vN e,yW,xJ h]
   simp only [Option.map_some];by_cases h2:i<n
   ·rw [if_pos h2,if_pos (by omega)]
   ·rw [if_neg h2,if_neg (by omega)]
 ·rw [yI (by simp;omega),yI (by simp;omega)]
theorem bnds_at(L2 D:Nat)(cap:Nat->Rat){i:Nat}(hi:i<L2+D):Sx.at_ (bnds L2 D cap L2) i=Sx.fb L2 cap i:=by
 unfold bnds Sx.at_ Sx.fb;rw [yW,xJ hi];rfl
theorem SzQ.int{n:Int}(h:n.natAbs<B32):SzQ (n:Rat) 1:=by
 refine⟨?_,?_⟩
 ·rw [Rat.num_intCast,Nat.pow_one];exact h
 ·rw [Rat.den_intCast,Nat.pow_one];unfold B32;omega
theorem newT_ok(bs:List Rat){P:Nat}(hP:1<=P)(h:∀q∈bs,SzQ q P):OkT (Sx.newT bs)/\SzT (Sx.newT bs) P:=by
 have h0:SzQ 0 P:=SzQ.zero.mono hP;have qa:∀i,i<(Sx.newT bs).rows.length->((Sx.newT bs).row i).co=[]/\SzQ ((Sx.newT bs).row i).re P:=fun i hi=>by
  have hi:i<(bs.map fun b=>(⟨[],b⟩:Sx.Rw)).length:=hi;rw [xV]at hi;have e:(Sx.newT bs).row i=⟨[],bs[i]⟩:=by
   show((bs.map fun b=>(⟨[],b⟩:Sx.Rw))[i]?).getD _=_;rw [yW,yG hi];rfl
  rw [e];exact⟨rfl,h _ (xR hi)⟩
 refine⟨⟨fun i hi=>by rw [(qa i hi).1];rfl,rfl⟩,⟨fun i hi q hq=>?_,fun i hi=>(qa i hi).2,(fun q hq=>by cases hq),h0⟩⟩;rw [(qa i hi).1]at hq;cases hq
theorem TabR.mono{w:World}{B B':Nat}{L:TLoc}{T:Sx.Tb}(h:TabR w B L T)(hB:B'<=B):TabR w B' L T:=by
 have oq:∀{v:Value} {qs:List Rat},OQ QR 35 w B v qs->OQ QR 35 w B' v qs:=fun hq=>by
  obtain⟨css,h1,h2,h3,h4⟩:=hq;exact⟨css,h1,h2,h3.mono hB,h4⟩
 obtain⟨css,h1,h2,h3,h4⟩:=h.rows;exact⟨h.rl,yY hB h.lo,h.box,⟨css,h1,h2,h3.mono hB,h4⟩,h.bl,h.bas.mono hB,h.fre.mono hB,h.bf,fun i hi=>oq (h.co i hi),oq h.go,h.sep⟩
theorem build_ok(t:Tp)(AO:Option Addr)(co:Nat)(AL:Option Addr)(cl:Nat)(l:List Dm)(AD:Option Addr)(cd:Nat)(w:World)(ht:TopR w t AO co AL cl)(hd:DmR w l AD cd)(hf:Fit t l)(hl:t.links.length<=10)(hD:l.length<=4):
  Calls Tryz.prog 39 #[.agg #[.int .i64 t.nodes,.slice AO t.over.length co,.slice AL t.links.length cl],.slice AD l.length cd] w fun e w'=>∃(x mb:Nat) (L:TLoc) (T:Sx.Tb),e=.returned (.pointer (some ⟨x,0,none⟩))/\FlR w w' x mb t AO co AL cl l AD cd L T (.slice none 0 0) [] []/\Sx.FLP (2*t.links.length) l.length (amQ l) (capQ t) T []:=by
 have HT:=Hx (And.intro ht (And.intro hd hf));have qS:=hd.len;have qT:=ht.ll;obtain⟨qw,e0⟩:=boxes1 w #[.int .i64 t.nodes,.slice AO t.over.length co,.slice AL t.links.length cl] 25;obtain⟨⟨i0,i1,i2⟩,_⟩:=qw.three;have E0:=Hx (And.intro qw e0);clear ht hd hf qw e0;have qp:IntKind.i64.wrap (2*(t.links.length:Int)+(l.length:Int))=2*(t.links.length:Int)+(l.length:Int):=(by rw [IntKind.wrap_i64];omega);have qE:=jzaa (2*t.links.length+l.length) (by omega);rw [show((2*t.links.length+l.length:Nat):Int)=2*(t.links.length:Int)+(l.length:Int) by omega]at qE
 go_enter Tryz.func39,Tryz.ntmps39
 go_upto_region 1 with fail
 generalize w.alloc (.cells #[.int .i64 t.nodes,.slice AO t.over.length co,.slice AL t.links.length cl] 25)=W0 at*;have qG:w.heap.size<W0.heap.size:=E0.out.1.lt
 go_wp2_with fail
 refine(jzac t AO co AL cl _ (HT.out.1.keep E0.out.2)).mono ?_;rintro e w1 ⟨rfl,qo⟩;have E1:=Hx (And.intro (E0.out.1.keep qo) (E0.out.2.tr qo));clear qo i0 i1 i2;obtain⟨⟨i0,i1,i2⟩,_⟩:=E1.out.1.three;have Q1:=Hx (show QB (w1.alloc (.cells (madeCells #[.bool false,.slice none 0 0,.slice none 0 0] ((2*t.links.length+l.length)*3)) 35)) w1.heap.size (bnds (2*t.links.length) l.length (capQ t) 0)from by rw [bnds_zero];exact QB.made w1 (2*t.links.length+l.length));have X1:=Hx ((Ext.refl w1).alloc (.cells (madeCells #[.bool false,.slice none 0 0,.slice none 0 0] ((2*t.links.length+l.length)*3)) 35))
 go_upto_region 2 with fail
 generalize w1.alloc (.cells (madeCells #[.bool false,.slice none 0 0,.slice none 0 0] ((2*t.links.length+l.length)*3)) 35)=W2 at*;have qP:w.heap.size<w1.heap.size:=E1.out.1.lt;have BX:=Hx (show Blk W2 w.heap.size 25 #[.int .i64 t.nodes,.slice AO t.over.length co,.slice AL t.links.length cl]/\Ext w W2 from⟨E1.out.1.keep X1.out,E1.out.2.tr X1.out⟩);clear qE qp i0 i1 i2 X1;generalize w1.heap.size=g at*;obtain⟨⟨i0,i1,i2⟩,_⟩:=BX.out.1.three
 go_wp2_with fail
 refine(jzac t AO co AL cl _ (HT.out.1.keep BX.out.2)).mono ?_;rintro e w3 ⟨rfl,qn⟩;have I3:=Hx (show QB w3 g (bnds (2*t.links.length) l.length (capQ t) 0)/\Blk w3 w.heap.size 25 #[.int .i64 t.nodes,.slice AO t.over.length co,.slice AL t.links.length cl]/\Ext w w3 from⟨Q1.out.keep qn,BX.out.1.keep qn,BX.out.2.tr qn⟩);clear qn i0 i1 i2 Q1 BX E1;go_wp2
 go_loopg [6,19] (2*t.links.length) (fun q _ it wx=>∃n:Nat,2*t.links.length-n=q/\n<=2*t.links.length/\it=.int .i64 (n:Int)/\Hid (QB wx g (bnds (2*t.links.length) l.length (capQ t) n)/\Blk wx w.heap.size 25 #[.int .i64 t.nodes,.slice AO t.over.length co,.slice AL t.links.length cl]/\Ext w wx))
 case atStart=>exact⟨0,rfl,yZ _,rfl,I3⟩
 case round=>
  obtain⟨n,rfl,hn,rfl,I⟩:=hrel;clear I3;obtain⟨⟨i0,i1,i2⟩,_⟩:=I.out.2.1.three;by_cases qC:n<2*t.links.length
  ·have nN:(n:Int)<2*(t.links.length:Int):=by omega
   have n0:(0:Int)<=(n:Int):=(by omega);have nM:(n:Int)<2*(t.links.length:Int)+(l.length:Int):=by omega
   go_wp2_with fail
   refine(jzbw t AO co AL cl n _ (HT.out.1.keep I.out.2.2) HT.out.2.2.v qC).mono ?_;rintro e w4 ⟨neg,A,k,c,A',k',c',rfl,hR,hx⟩;have qB:n<(bnds (2*t.links.length) l.length (capQ t) n).length:=(by rw [jzlk];omega);obtain⟨ny,Y1,my,fy,qN,qM,qV,⟨s0,s1,s2⟩,⟨z0,z1,z2⟩,_⟩:=(I.out.1.keep hx).at_ (jzv qB);have I4:=Hx (show QB (((w4.setCell ⟨g,n*3,none⟩ (.bool neg)).setCell ⟨g,n*3+1,none⟩ (.slice A k c)).setCell ⟨g,n*3+2,none⟩ (.slice A' k' c')) g (bnds (2*t.links.length) l.length (capQ t) (n+1))/\Blk (((w4.setCell ⟨g,n*3,none⟩ (.bool neg)).setCell ⟨g,n*3+1,none⟩ (.slice A k c)).setCell ⟨g,n*3+2,none⟩ (.slice A' k' c')) w.heap.size 25 #[.int .i64 t.nodes,.slice AO t.over.length co,.slice AL t.links.length cl]/\
     Ext w (((w4.setCell ⟨g,n*3,none⟩ (.bool neg)).setCell ⟨g,n*3+1,none⟩ (.slice A k c)).setCell ⟨g,n*3+2,none⟩ (.slice A' k' c'))from by
    have k3:FrS (fun b=>b=g) w4 (((w4.setCell ⟨g,n*3,none⟩ (.bool neg)).setCell ⟨g,n*3+1,none⟩ (.slice A k c)).setCell ⟨g,n*3+2,none⟩ (.slice A' k' c')):=FrS.of_grown (grown3 w4 g (n*3) _ _ _) fun g e=>(by injection e with e;exact e.symm);refine⟨?_,k3.blk (I.out.2.1.keep hx) (by omega),k3.ext (I.out.2.2.tr hx) fun b hb=>by rw [hb];omega⟩;rw [<-bnds_step _ _ _ (show n<2*t.links.length+l.length by omega)];exact(I.out.1.keep hx).put qB hR)
   clear hR hx I i0 i1 i2;go_wp2
   go_roundg (2*t.links.length-(n+1))
   case measure=>omega
   case rel=>exact⟨n+1,rfl,by omega,by go_num,I4⟩
  ·obtain rfl:2*t.links.length=n:=by omega
   have BL:=Hx (jzlk (2*t.links.length) l.length (capQ t) (2*t.links.length));have BA:=Hx (fun i (hi:i<2*t.links.length+l.length)=>bnds_at (2*t.links.length) l.length (capQ t) hi);generalize bnds (2*t.links.length) l.length (capQ t) (2*t.links.length)=bs at*;have XD:=Hx (show Ext wr wr.drew from(Ext.refl wr).drewN 1);have XA:=Hx (show Ext wr (wr.alloc (.map #[] 0)).drew from((Ext.refl wr).alloc _).drewN 1);have MA:=Hx (show MpS (wr.alloc (.map #[] 0)).drew wr.heap.size 0 []from MpS.made wr);have qt:w.heap.size<wr.heap.size:=I.out.2.1.lt;clear hn qC
   go_upto_region 7 with fail
   go_cut [7] (fun s wx=>∃(x mb:Nat) (L:TLoc),s=.pointer (some ⟨x,0,none⟩)/\Hid (Blk wx x 99 #[.int .i64 t.nodes,.slice AO t.over.length co,.slice AL t.links.length cl,.slice AD l.length cd,.pointer (some ⟨L.p,0,none⟩),.slice none 0 0,.map (some mb)]/\MpS wx mb 0 []/\TabR wx w.heap.size L (Sx.newT bs)/\L.m=2*t.links.length+l.length/\w.heap.size<=x/\w.heap.size<=mb/\
    Blk wx w.heap.size 25 #[.int .i64 t.nodes,.slice AO t.over.length co,.slice AL t.links.length cl]/\Ext w wx))
   case first=>
    have qa:=Hx (show∀wx,Ext wr wx->(wx.cell? ⟨w.heap.size,0,none⟩=some (.int .i64 t.nodes)/\wx.cell? ⟨w.heap.size,1,none⟩=some (.slice AO t.over.length co)/\wx.cell? ⟨w.heap.size,2,none⟩=some (.slice AL t.links.length cl))from fun wx hx=>(I.out.2.1.keep hx).three.1);have qU:∀W:World,(Instr.makeMap 97 none).run Tryz.prog W=.ok (.map (some W.heap.size)) (W.alloc (.map #[] 0)):=fun W=>rfl;obtain⟨c0,c1,c2⟩:=qa.out _ XD.out;obtain⟨y0,y1,y2⟩:=qa.out _ XA.out
    go_region_held3 (fun w'=>w'.cell? ⟨w.heap.size,0,none⟩=some (.int .i64 t.nodes)/\w'.cell? ⟨w.heap.size,1,none⟩=some (.slice AO t.over.length co)/\w'.cell? ⟨w.heap.size,2,none⟩=some (.slice AL t.links.length cl))
     (first|with_reducible exact⟨c0,c1,c2⟩|with_reducible exact⟨y0,y1,y2⟩|with_reducible exact⟨jzc c0 _,jzc c1 _,jzc c2 _⟩|with_reducible exact⟨jzc (jzc c0 _) _,jzc (jzc c1 _) _,jzc (jzc c2 _) _⟩|fail)
     (first
      |(go_at_call 78
        first
        |(with_reducible refine(new_ok (2*t.links.length+l.length) (2*t.links.length+l.length) (some ⟨g,0,none⟩) bs BL.out _ (I.out.1.ql.keep (by with_reducible exact XD.out)) (by omega)).mono ?_
          rintro e w5 ⟨L,rfl,qj,qF,hT,qm⟩;have E5:=Hx (And.intro (hT.mono (show w.heap.size<=wr.drew.heap.size from Nat.le_of_lt qt)) (And.intro qj (XD.out.tr qm))))
        |(with_reducible refine(new_ok (2*t.links.length+l.length) (2*t.links.length+l.length) (some ⟨g,0,none⟩) bs BL.out _ (I.out.1.ql.keep (by with_reducible exact XA.out)) (by omega)).mono ?_
          rintro e w5 ⟨L,rfl,qj,qF,hT,qm⟩;have E5:=Hx (And.intro (hT.mono (show w.heap.size<=(wr.alloc (.map #[] 0)).drew.heap.size from yY (Nat.le_of_lt qt) XA.out.size)) (And.intro qj (XA.out.tr qm)));have M5:=Hx (MA.out.keep qm))
        obtain⟨⟨c0,c1,c2⟩,_⟩:=(I.out.2.1.keep E5.out.2.2).three;clear qm hT qF qj)
      |fail)
    all_goals
     go_wp2;go_meet;have qQ:=E5.out.2.2.size
     first
     |exact⟨_,_,L,rfl,Hx ⟨Blk.new' (w5.alloc (.map #[] 0)) _ _ (by simp),(MpS.made w5).keep ((Ext.refl _).alloc _),(E5.out.1.keep ((Ext.refl w5).alloc (.map #[] 0))).keep ((Ext.refl _).alloc _),E5.out.2.1,by omega,by omega,((I.out.2.1.keep E5.out.2.2).keep ((Ext.refl w5).alloc (.map #[] 0))).keep ((Ext.refl _).alloc _),((I.out.2.2.tr E5.out.2.2).alloc _).alloc _⟩⟩
     |exact⟨_,_,L,rfl,Hx ⟨Blk.new w5 _ _,M5.out.keep ((Ext.refl w5).alloc _),E5.out.1.keep ((Ext.refl w5).alloc _),E5.out.2.1,by omega,by omega,(I.out.2.1.keep E5.out.2.2).keep ((Ext.refl w5).alloc _),(I.out.2.2.tr E5.out.2.2).alloc _⟩⟩
   case rest=>
    obtain⟨x,mb,L,rfl,I7⟩:=hcut;clear I XD XA MA i0 i1 i2 qt;have qR:w.heap.size<=wc.heap.size:=I7.out.2.2.2.2.2.2.2.size;have S0:=Hx (show TmO wc wc.heap.size (.slice none 0 0) (vTs (2*t.links.length) (amQ l) 0)from OwL.nil _ _ _ _ _);go_wp2
    go_loopg [8,9,10,38] l.length (fun q v8 _ _ it wx=>∃n:Nat,l.length-n=q/\n<=l.length/\it=.int .i64 (n:Int)/\Hid (TmO wx wc.heap.size v8 (vTs (2*t.links.length) (amQ l) n)/\Ext wc wx))
    case atStart=>exact⟨0,rfl,yZ _,rfl,Hx ⟨S0.out,Ext.refl _⟩⟩
    case round=>
     obtain⟨n,rfl,hn,rfl,I⟩:=hrel;clear S0;have qO:wc.heap.size<=wr.heap.size:=I.out.2.size;obtain⟨A8,c8,qy,qH⟩:=I.out.1.form;have qf:(vTs (2*t.links.length) (amQ l) n).length=n:=(by unfold vTs;simp);rw [qf]at qy qH;subst qy;by_cases qA:n<l.length
     ·obtain⟨d,hd⟩:∃d,l[n]?=some d:=⟨_,yG qA⟩
      have qI:=Hx (show((d.amount:Int):Rat)=amQ l n by unfold amQ;rw [hd]);have qJ:i64 d.amount:=(HT.out.2.1.wf d (yJ hd)).2.2.1;obtain⟨b,o,rfl,hb,a0,a1,a2,a3⟩:=(HT.out.2.1.keep (I7.out.2.2.2.2.2.2.2.tr I.out.2)).at_ hd;have nN:(n:Int)<(l.length:Int):=(by omega);have n0:(0:Int)<=(n:Int):=(by omega);have X8:=Hx (show Ext wr (wr.alloc (.cells #[.int .i64 d.src,.int .i64 d.dst,.int .i64 d.amount,.int .i64 d.prio] 27))from(Ext.refl wr).alloc _);have B8:=Hx (Blk.new wr 27 #[.int .i64 d.src,.int .i64 d.dst,.int .i64 d.amount,.int .i64 d.prio]);clear hd
      go_upto_region 12 with fail
      clear a0 a1 a2 a3;generalize wr.alloc (.cells #[.int .i64 d.src,.int .i64 d.dst,.int .i64 d.amount,.int .i64 d.prio] 27)=W8 at*;generalize hbd:wr.heap.size=bd at*;have qa:=Hx (show∀wx,Ext W8 wx->(wx.cell? ⟨w.heap.size,0,none⟩=some (.int .i64 t.nodes)/\wx.cell? ⟨w.heap.size,1,none⟩=some (.slice AO t.over.length co)/\wx.cell? ⟨w.heap.size,2,none⟩=some (.slice AL t.links.length cl))/\wx.cell? ⟨bd,2,none⟩=some (.int .i64 d.amount)from fun wx hx=>
       ⟨(((I7.out.2.2.2.2.2.2.1.keep I.out.2).keep (X8.out.tr hx)).three).1,(B8.out.keep hx).cell 2⟩)
      have XD:=Hx (show Ext W8 W8.drew from(Ext.refl W8).drewN 1);have HSW:=Hx (qa.out _ XD.out);refine jzg (fun w'=>(w'.cell? ⟨w.heap.size,0,none⟩=some (.int .i64 t.nodes)/\w'.cell? ⟨w.heap.size,1,none⟩=some (.slice AO t.over.length co)/\w'.cell? ⟨w.heap.size,2,none⟩=some (.slice AL t.links.length cl))/\w'.cell? ⟨bd,2,none⟩=some (.int .i64 d.amount)) 11 (by kernel_rfl) ?_;refine wP 0 rfl HSW.out ?_;try simp only [Act.put,yD,yE,yF]
      refine wT 1 (v:=?_) rfl ?_ HSW.out ?_;rotate_left
      focus (intro w hSw;obtain⟨⟨s1,s2,s3⟩,s4⟩:=hSw;go_simp;try with_reducible rfl)
      try simp only [Act.put,yD,yE,yF]
      refine wP 3 rfl HSW.out ?_;try simp only [Act.put,yD,yE,yF]
      refine wP 5 rfl HSW.out ?_;try simp only [Act.put,yD,yE,yF]
      refine wT 6 (v:=?_) rfl ?_ HSW.out ?_;rotate_left
      focus (intro w hSw;obtain⟨⟨s1,s2,s3⟩,s4⟩:=hSw;go_simp;try with_reducible rfl)
      try simp only [Act.put,yD,yE,yF]
      refine wC 2 rfl (fun KK hK=>?_);go_simp;refine(jzac t AO co AL cl _ (HT.out.1.keep ((I7.out.2.2.2.2.2.2.2.tr I.out.2).tr (X8.out.tr XD.out)))).mono ?_;rintro e w2 ⟨rfl,x2⟩;have E2:=Hx (XD.out.tr x2);have HSW:=Hx (qa.out _ E2.out);refine hK.out _ _ HSW.out ?_;clear hK KK x2;try simp only [Act.put,yD,yE,yF]
      have qK:IntKind.i64.wrap (2*(t.links.length:Int)+(n:Int))=2*(t.links.length:Int)+(n:Int):=(by rw [IntKind.wrap_i64];omega);refine wP 4 rfl HSW.out ?_;try simp only [Act.put,yD,yE,yF]
      refine wC 7 rfl (fun KK hK=>?_);go_simp;refine(jzar d.amount _ qJ).mono ?_;rintro e w5 ⟨neg,A,k,c,A',k',c',rfl,hR,x5⟩;have E5:=Hx (E2.out.tr x5);have HSW:=Hx (qa.out _ E5.out);have R5:=Hx (qI.out▸hR);refine hK.out _ _ HSW.out ?_;clear hK KK x5 hR;try simp only [Act.put,yD,yE,yF]
      refine wP 8 rfl HSW.out ?_;try simp only [Act.put,yD,yE,yF]
      refine wC 9 rfl (fun KK hK=>?_);go_simp;have XB:=Hx (show Ext w5 (w5.alloc (.cells #[.int .i64 (2*(t.links.length:Int)+(n:Int)),.bool neg,.slice A k c,.slice A' k' c'] 137))from(Ext.refl w5).alloc _);have qh:=Hx (qa.out _ (E5.out.tr XB.out));refine hK.out _ _ qh.out ?_;clear hK KK HSW;have HSW:=qh;clear qh;have BW:=Hx (Blk.new w5 137 #[.int .i64 (2*(t.links.length:Int)+(n:Int)),.bool neg,.slice A k c,.slice A' k' c']);have R6:=Hx (R5.out.keep XB.out);have E6:=Hx (E5.out.tr XB.out);generalize w5.alloc (.cells #[.int .i64 (2*(t.links.length:Int)+(n:Int)),.bool neg,.slice A k c,.slice A' k' c'] 137)=W6 at*;obtain⟨css,h1,h2,qe,h4⟩:=I.out.1.keep (X8.out.tr E6.out) fun cs y hy=>hy.keep (X8.out.tr E6.out);rw [qf]at h1 qe;have qL:wc.heap.size<=W6.heap.size:=(by have:=X8.out.size;have:=E6.out.size;omega);refine wC 10 rfl (fun KK hK=>?_);refine jzdl W6 135 137 _ 4 64 _ _ rfl Tryz.underlying135 jzhz rfl (by decide) wc.heap.size (.slice A8 n c8) n css.flatten (by rfl) qe [.int .i64 (2*(t.links.length:Int)+(n:Int)),.bool neg,.slice A k c,.slice A' k' c'] rfl (by simp [Value.oneCell']) w5.heap.size (by rfl) BW.out (by unfold maxLen;omega) (by omega) qL ?_;intro g7 c7 w7 qk qg qx;have k7:=Hx (show FrS (fun b=>(Value.slice A8 n c8).ownBlock=some b) W6 w7 from FrS.of_grown qg fun g e=>e);have n7:=Hx (show NoT (fun b=>(Value.slice A8 n c8).ownBlock=some b) W6 167 from fun b hb=>jz3 qe hb (by decide));have T7:=Hx (show TmO w7 wc.heap.size (.slice (some ⟨g7,0,none⟩) (n+1) c7) (vTs (2*t.links.length) (amQ l) (n+1))from by
       rw [jzlc];refine OwL.pushed (css:=css) (by rw [qf];exact h1) h2 h4 (us:=[.int .i64 (2*(t.links.length:Int)+(n:Int)),.bool neg,.slice A k c,.slice A' k' c']) rfl (fun cs y _ hy=>hy.fr k7.out n7.out) ⟨neg,A,k,c,A',k',c',?_,k7.out.ratR n7.out R6.out⟩ (by rw [qf];exact qk);have e9:((2*t.links.length+n:Nat):Int)=2*(t.links.length:Int)+(n:Int):=(by omega);simp only [e9])
      have X7:=Hx (show Ext wc w7 from k7.out.ext (I.out.2.tr (X8.out.tr E6.out)) fun b hb=>(qe.lt b hb).1);have qi:=Hx (show(w7.cell? ⟨w.heap.size,0,none⟩=some (.int .i64 t.nodes)/\w7.cell? ⟨w.heap.size,1,none⟩=some (.slice AO t.over.length co)/\w7.cell? ⟨w.heap.size,2,none⟩=some (.slice AL t.links.length cl))/\w7.cell? ⟨bd,2,none⟩=some (.int .i64 d.amount)from
       ⟨((I7.out.2.2.2.2.2.2.1.keep X7.out).three).1,(k7.out.blk (B8.out.keep E6.out) fun hb=>jz3 qe hb (by decide) _ _ (B8.out.keep E6.out)).cell 2⟩)
      refine hK.out _ _ qi.out ?_;clear hK KK HSW qk qg qe qx h1 h2 h4 css;have HSW:=qi;try simp only [Act.put,yD,yE,yF]
      refine jzk (by kernel_rfl) rfl (by rfl) (fun KK hK=>?_);go_simp;refine hK.out _ _ ?_;clear hK KK HSW qi k7 n7 qa XD E2 E5 XB;refine wpAny_done (by kernel_rfl) ?_ _;go_wp2
      go_roundg (l.length-(n+1))
      case measure=>omega
      case rel=>exact⟨n+1,rfl,by omega,by go_num,Hx ⟨T7.out,X7.out⟩⟩
     ·obtain rfl:l.length=n:=by omega
      clear hn qA;have qa:=Hx (show∀wx,Ext wr wx->wx.cell? ⟨x,4,none⟩=some (.pointer (some ⟨L.p,0,none⟩))/\True from fun wx hx=>⟨(I7.out.1.keep (I.out.2.tr hx)).cell 4,trivial⟩);have XD:=Hx (show Ext wr wr.drew from(Ext.refl wr).drewN 1);have HSW:=Hx (qa.out _ XD.out)
      go_upto_region 14 with fail
      refine jzg (fun w'=>w'.cell? ⟨x,4,none⟩=some (.pointer (some ⟨L.p,0,none⟩))/\True) 6 (by kernel_rfl) ?_;refine wP 0 rfl HSW.out ?_;try simp only [Act.put,yD,yE,yF]
      refine wP 1 rfl HSW.out ?_;try simp only [Act.put,yD,yE,yF]
      refine wP 2 rfl HSW.out ?_;try simp only [Act.put,yD,yE,yF]
      refine wT 3 (v:=?_) rfl ?_ HSW.out ?_;rotate_left
      focus (intro w hSw;obtain⟨s1,s2⟩:=hSw;go_simp;try with_reducible rfl)
      try simp only [Act.put,yD,yE,yF]
      refine wP 5 rfl HSW.out ?_;try simp only [Act.put,yD,yE,yF]
      refine wC 4 rfl (fun KK hK=>?_);go_simp;refine(jzar 1 _ (by unfold i64;omega)).mono ?_;rintro e w5 ⟨neg,A,k,c,A',k',c',rfl,hR,x5⟩;have E5:=Hx (XD.out.tr x5);have HSW:=Hx (qa.out _ E5.out);have R5:=Hx hR;refine hK.out _ _ HSW.out ?_;clear hK KK x5 hR;try simp only [Act.put,yD,yE,yF]
      have E7:=Hx (show Ext wc w5 from I.out.2.tr E5.out);have FL:=Hx (show FlR w w5 x mb t AO co AL cl l AD cd L (Sx.newT bs) (.slice none 0 0) [] []from
       ⟨I7.out.2.2.2.2.2.2.2.tr E7.out,HT.out.1,HT.out.2.1,I7.out.1.keep E7.out,I7.out.2.2.2.2.1,I7.out.2.2.1.keep E7.out,I7.out.2.2.2.1,OwL.nil _ _ _ _ _,I7.out.2.1.keep E7.out,I7.out.2.2.2.2.2.1⟩)
      have qj:L.m=2*t.links.length+l.length:=I7.out.2.2.2.1;have TM:=Hx (show TmR w5 A8 (vTs (2*t.links.length) (amQ l) l.length)from TmO.rd (B:=wc.heap.size) (c:=c8) (by rw [qf];exact I.out.1.keep E5.out fun cs y hy=>hy.keep E5.out));have SB:=Hx (show∀q∈bs,SzQ q 20 from fun q hq=>by
       obtain⟨i,hi,rfl⟩:=List.mem_iff_getElem.1 hq;have h1:i<2*t.links.length+l.length:=(by rw [<-BL.out];exact hi);have h2:=BA.out i h1;unfold Sx.at_ Sx.fb at h2;rw [yG hi]at h2;have h2:bs[i]=_:=h2;rw [h2]
       split
       ·rename_i h3
        obtain⟨h4,_,_,_,h5,h6,h7⟩:=jzc0 HT.out.2.2.v h3;rw [h5];exact(SzQ.int (by unfold B32;omega)).mono (by decide)
       ·exact SzQ.zero.mono (by decide))
      have AM:=Hx (show∀d,d<l.length->SzQ (amQ l d) 20 from fun d hd=>by
       obtain⟨_,_,_,h4,h5,h6⟩:=HT.out.2.2.am hd;rw [h4];exact(SzQ.int (by unfold B32;omega)).mono (by decide))
      have qD:=Hx (add_ok w.heap.size 20 l.length c8 L (Sx.newT bs) w5 FL.out.tab FL.out.ext.size (newT_ok bs (by decide) SB.out).1 (newT_ok bs (by decide) SB.out).2 (by decide) (by decide) (by have:=HT.out.2.2.n;omega) (by omega) (yZ _) (yZ _)
       1 neg A k c A' k' c' R5.out ((SzQ.int (n:=1) (by decide)).mono (by decide)) A8 (vTs (2*t.links.length) (amQ l) l.length) qf TM.out (by omega) (fun tt htt=>by
         unfold vTs at htt;obtain⟨d,hd,rfl⟩:=List.mem_map.1 htt;have:=vX.1 hd;simp only;omega) (jzf4 _ _ (SzQ.zero.mono (by decide)) fun tt htt=>by
         unfold vTs at htt;obtain⟨d,hd,rfl⟩:=List.mem_map.1 htt;exact AM.out d (vX.1 hd)) (fun j hj=>absurd hj (Nat.not_lt_zero _)) (yZ _))
      have qz:=Hx (show∀(L':TLoc) (w9:World),L'.p=L.p->L'.m=L.m->TabR w9 w.heap.size L' (Sx.addT (Sx.newT bs) 1 (valsOf L.m (vTs (2*t.links.length) (amQ l) l.length)))->FrS L.S w5 w9->(∀b,L'.S b->L.S b\/w5.heap.size<=b)->
        FlR w w9 x mb t AO co AL cl l AD cd L' (Sx.addT (Sx.newT bs) 1 (valsOf L.m (vTs (2*t.links.length) (amQ l) l.length))) (.slice none 0 0) [] []/\Sx.FLP (2*t.links.length) l.length (amQ l) (capQ t) (Sx.addT (Sx.newT bs) 1 (valsOf L.m (vTs (2*t.links.length) (amQ l) l.length))) []from fun L' w9 h1 h2 h3 h4 h5=>
       ⟨FL.out.tabbed h3 h4 h1 h2 h5,by
        rw [qj];exact Sx.FLP.start BL.out BA.out (fun a ha=>by
         obtain⟨_,h6,_⟩:=jzc0 HT.out.2.2.v ha;exact h6) (jzaf _ _) (fun i hi=>vTs_vals _ _ _ i hi)⟩)
      clear TM SB AM FL R5 E7;refine jzk (by kernel_rfl) rfl (by rfl) (fun KK hK=>?_);go_simp;refine(qD.out).mono ?_;rintro e w9 ⟨L',rfl,g1,g2,g3,g4,g5⟩;have F9:=Hx (qz.out L' w9 g1 g2 g3 g4 g5);refine hK.out _ _ ?_;clear hK KK qD qz g1 g2 g3 g4 g5 HSW qa XD;refine wpAny_done (by kernel_rfl) ?_ _;go_wp2;go_ret;exact⟨x,mb,L',_,rfl,F9.out.1,F9.out.2⟩
end Go.Proofs.YthbmikapohlikaaGreatDoor
