/- Walks, part 24. -/
import Derived.Test.YtojpooidhilnfaaGreatDoorT23
set_option linter.unusedVariables false
set_option linter.unusedSimpArgs false
set_option maxRecDepth 100000
set_option maxHeartbeats 8000000
namespace Go.Proofs.YtojpooidhilnfaaGreatDoor
open Go.Proofs.Tryz
open Go.RowKit
open Sx
theorem jzac{t}{ld:LQ}{K:Nat}(hv:aI t=true)(hl:ld.length=2*t.links.length)(h:∀q∈ld,SzQ q K):∀(n:Nat) {q:Rat},n<=2*t.links.length->bM t ld n=some q->SzQ q (1+K)
 |0,_,_,e=>by cases e
 |n+1,q,hn,e=>by
  unfold bM at e;by_cases e0:at_ ld n=0
  ·rw[qE e0]at e
   exact jzac hv hl h n qO e
  rw[qF e0]at e;have hd:SzQ (aJ t n/at_ ld n) (1+K):=by
   obtain⟨_,_,_,_,h5,h6,h7⟩:=iF hv (show n<2*t.links.length by omega);have hc:SzQ (aJ t n) 1:=(by rw[h5];exact SzQ.int (by unfold B32;omega));exact hc.div (h _ (yJ (aV (show n<ld.length by omega)))) e0
  cases ef:bM t ld n with
  |none=>
   rw[ef]at e;injection e with e
   rw[<-e];exact hd
  |some y=>
   rw[ef]at e;have e:(if aJ t n/at_ ld n<y then some (aJ t n/at_ ld n)else some y)=some q:=e
   split at e
   ·injection e with e
    rw[<-e];exact hd
   exact jzac hv hl h n qO (by rw[ef];exact e)
def Fc46(w:World)(t:Tp)(l:List Dm)(ss:List SpL)(e:Ending)(w':World):Prop:=∃(neg:Bool) (A1:OA) (n1 c1:Nat) (A2:OA) (n2 c2:Nat) (ld:LQ) (q:Rat),e=.returned (.tuple #[.agg #[.bool neg,.s A1 n1 c1,.s A2 n2 c2],vI 0])/\aC w' neg A1 n1 c1 A2 n2 c2 q/\ldP (2*t.links.length) (List.replicate (2*t.links.length) 0) ((bY l ss l.length).map pzI)=some ld/\bM t ld (2*t.links.length)=some q/\SzQ q 70001/\Ext w w'
theorem jzg6 t AO(co:Nat)AL(cl:Nat)(l:List Dm)AD(cd:Nat)(ss:List SpL)SA(sc:Nat)w(ht:bH w t AO co AL cl)(hd:DmR w l AD cd)(hf:Fit t l)(hs:eP t l ss)(hr:SpR w SA ss)(hD:l.length<=4)(hsc:l.length<=sc)
  (hq:∀ld,ldP (2*t.links.length) (List.replicate (2*t.links.length) 0) ((bY l ss l.length).map pzI)=some ld->∃q,bM t ld (2*t.links.length)=some q):
  Calls prog 29 #[.agg #[vI t.nodes,.s AO t.over.length co,.s AL t.links.length cl],.s AD l.length cd,.s SA l.length sc] w (Fc46 w t l ss):=by
 have vk:=hd.len;have vn:=ht.ll;have vt:=ht.cl;have qT:t.links.length<=256:=(by have:=hf.v;unfold aI cN at this;simp at this;exact this.1.1.2);have HT:=Hx (kQa ht (kQa hd (kQa hf (kQa hs (kQa hr hq)))));obtain⟨qQ,e0⟩:=bB w #[vI t.nodes,.s AO t.over.length co,.s AL t.links.length cl] 25;have E0:=Hx (kQa qQ e0);clear ht hd hf hs hr qQ e0 hq;go_enter func29,ntmps29;go_upto_region 1 with fail
 have E1:=Hx (show Blk ((w.alloc (.cells #[vI t.nodes,.s AO t.over.length co,.s AL t.links.length cl] 25)).alloc (.cells rV 35)) w.heap.size 25 #[vI t.nodes,.s AO t.over.length co,.s AL t.links.length cl]/\Blk ((w.alloc (.cells #[vI t.nodes,.s AO t.over.length co,.s AL t.links.length cl] 25)).alloc (.cells rV 35)) (w.heap.size+1) 35 rV/\Ext w ((w.alloc (.cells #[vI t.nodes,.s AO t.over.length co,.s AL t.links.length cl] 25)).alloc (.cells rV 35))from
  ⟨E0.o.1.K ((eR _).alloc _),Blk.new' (g:=w.heap.size+1) _ _ _ qS,E0.o.2.alloc _⟩)
 generalize (w.alloc (.cells #[vI t.nodes,.s AO t.over.length co,.s AL t.links.length cl] 25)).alloc (.cells rV 35)=W1 at*;clear E0;obtain⟨⟨i0,i1,i2⟩,_⟩:=E1.o.1.t3;go_wp2_with fail;refine(jzg5 t AO co AL cl l AD cd ss SA sc _ (HT.o.1.K E1.o.2.2) (HT.o.2.1.K E1.o.2.2) HT.o.2.2.1 HT.o.2.2.2.1 (HT.o.2.2.2.2.1.K E1.o.2.2 fun _ _ h=>h.K E1.o.2.2) hD hsc).mono ?_;rintro e w2 ⟨g,ld,rfl,qp,qw,qM,x2⟩;have E2:=Hx (kQa (E1.o.1.K x2) (kQa (E1.o.2.1.K x2) (E1.o.2.2.tr x2)));have qy:ld.length=2*t.links.length:=(by rw[nY _ qp,xC]);have HQ:=Hx (HT.o.2.2.2.2.2 ld qp);have LD:=Hx (kQa qp (kQa qw qM));have qI:Hid (∀n q,n<=2*t.links.length->bM t ld n=some q->SzQ q 70001):=Hx (fun n q hn h=>(jzac HT.o.2.2.1.v qy qw n hn h).mono qO);have ve:=E1.o.2.1.lt;have vg:w.heap.size+1<w2.heap.size:=E2.o.2.1.lt;clear qp qw qM x2 i0 i1 i2 E1;have B3:Hid (RB (w2.alloc (.cells rV 35)) w2.heap.size 0):=Hx (RB.of (eN w2 _ _) (fD _));have X3:=Hx ((eR w2).alloc (.cells rV 35));(go_upto_region 5 with fail);generalize w2.alloc (.cells rV 35)=W3 at*;generalize hgl:w2.heap.size=gl at*;have I0:Hid (RB W3 gl 0/\FrS (fun b=>b=gl) W3 W3):=Hx (⟨B3.o,FrS.refl _ _⟩);clear B3;go_wp2;go_loopg [11,29] (2*t.links.length) (fun q fb it wx=>∃n:Nat,2*t.links.length-n=q/\n<=2*t.links.length/\fb=.bool (bM t ld n).isSome/\it=vI (n:Int)/\Hid (RB wx gl ((bM t ld n).getD 0)/\FrS (fun b=>b=gl) W3 wx));exact⟨0,rfl,yZ _,rfl,rfl,I0⟩;obtain⟨n,rfl,hn,rfl,rfl,I⟩:=hrel;clear I0;have XR:Hid (Ext w2 wr):=Hx (I.o.2.ext X3.o fun b hb=>qO);by_cases vd:n<2*t.links.length
 ·obtain⟨b,o,neg,A,kn,kc,A',qe,qf,hP,hb,y0,y1,y2,hr⟩:=LD.o.2.2.at_ (aV (show n<ld.length by omega));(injection hP with hP);(injection hP with hP1 hP2);subst hP1;subst hP2;rw[kQu]at y0 y1 y2;have y0:=aB XR.o y0;have y1:=aB XR.o y1;have y2:=aB XR.o y2;have hb:g<wr.heap.size:=yL hb XR.o.size;have qB:SzQ (at_ ld n) 70000:=LD.o.2.1 _ (yJ (aV (show n<ld.length by omega)));obtain⟨l1,vo⟩:=hr.lens qB;have RA:=Hx (hr.K XR.o);have nN:(n:Int)<2*(t.links.length:Int):=qO;have n0:(0:Int)<=(n:Int):=qO;have X4:=Hx ((eR wr).alloc (.cells #[.bool neg,.s A kn kc,.s A' qe qf] 35));have B4:=Hx (eN wr 35 #[.bool neg,.s A kn kc,.s A' qe qf]);clear hr;(go_upto_region 9 with fail);generalize wr.alloc (.cells #[.bool neg,.s A kn kc,.s A' qe qf] 35)=W4 at*;have vp:gl<wr.heap.size:=I.o.1.lt;generalize wr.heap.size=g4 at*;clear y0 y1 y2;obtain⟨⟨i0,i1,i2⟩,_⟩:=B4.o.t3;go_wp2_with fail;refine(bW neg A kn kc A' qe qf (at_ ld n) _ (RA.o.K X4.o)).mono ?_;rintro e w5 ⟨rfl,x5⟩;have E5:=Hx (kQa (X4.o.tr x5) (XR.o.tr (X4.o.tr x5)));have B5:=Hx (B4.o.K x5);have I5:Hid (RB w5 gl ((bM t ld n).getD 0)/\FrS (fun b=>b=gl) W3 w5):=Hx (⟨I.o.1.K E5.o.1,I.o.2.tr (eE (S:=fun b=>b=gl) E5.o.1) fun b hb=>.inl hb⟩);clear x5 X4 B4 i0 i1 i2 I XR;by_cases hz:at_ ld n=0;{have qA:aE (at_ ld n)=0:=fU.2 hz;rw[qA];have HF:=Hx (show bM t ld (n+1)=bM t ld n by show(if _ then _ else _)=_;rw[qE hz]);clear qA;go_wp2;go_roundg (2*t.links.length-(n+1));exact⟨n+1,rfl,qO,by rw[HF.o],by go_num,by rw[HF.o];exact I5⟩;omega};have qZ:decide (aE (at_ ld n)=0)=false:=yP fun h=>hz (fU.1 h);have q9:(aE (at_ ld n)==0)=false:=yK.2 fun h=>hz (fU.1 h);obtain⟨hl,_,_,_,k5,k6,k7⟩:=iF HT.o.2.2.1.v vd;obtain⟨lk,qx⟩:∃lk,t.links[n/2]?=some lk:=⟨_,yG hl⟩;have e0:t.links[n/2]=lk:=(yH.1 qx).2;rw[e0]at k5 k6 k7;obtain⟨bL,oL,qU,qH,_,_,_,_,c4,_,_⟩:=HT.o.1.link qx;subst qU;have LK:=Hx (kQa c4 qH);have qz:=Hx k5;have HZ:=Hx hz;have qC:SzQ (aJ t n) 1:=(by rw[k5];exact SzQ.int (by unfold B32;omega));have qJ:=Hx qC;have B2:=Hx (E2.o.1.K E5.o.2);clear qx e0 k5 c4 qH qC;go_upto_region 10 with fail
  clear qZ q9;have q0:i64 lk.cap:=⟨qO,qO⟩;have q1:((n/2:Nat):Int)<(t.links.length:Int):=qO;have q2:(0:Int)<=((n/2:Nat):Int):=qO;have q3:(n:Int)/2<(t.links.length:Int):=qO;have q4:(0:Int)<=(n:Int)/2:=qO;have q5:((n:Int)/2).toNat=n/2:=qO;have q6:(n:Int).tdiv 2=(n:Int)/2:=Int.tdiv_eq_ediv_of_nonneg qO;have q7:IntKind.i64.wrap ((n:Int)/2)=(n:Int)/2:=IntWalk.i64_in _ qO;have XD:Hid (Ext w5 w5.drew):=Hx ((eR w5).drewN 1);have XA:Hid (Ext w5 (w5.alloc (.cells rV 35)).drew):=Hx (((eR w5).alloc _).drewN 1);have BA:Hid (Blk (w5.alloc (.cells rV 35)).drew w5.heap.size 35 rV):=Hx (eN w5 _ _);have qa:=Hx (show∀wx,Ext w5 wx->(wx.cell? (aD w.heap.size 2)=some (.s (some (aD bL oL)) t.links.length cl)/\wx.cell? (aD bL (oL+n/2*7+4))=some (vI lk.cap)/\wx.cell? (aD g4 0)=some (.bool neg)/\wx.cell? (aD g4 1)=some (.s A kn kc)/\wx.cell? (aD g4 2)=some (.s A' qe qf))from fun wx hx=>
   ⟨(B2.o.K hx).cell 2,aB (E2.o.2.2.tr (E5.o.2.tr hx)) LK.o.1,(B5.o.K hx).cell 0,(B5.o.K hx).cell 1,(B5.o.K hx).cell 2⟩)
  go_cut [14] (fun s wx=>∃(bf:Nat) (ng:Bool) (R1:OA) (m1 d1:Nat) (R2:OA) (m2 d2:Nat),s=.pointer (sA bf)/\Hid (Blk wx bf 35 #[.bool ng,.s R1 m1 d1,.s R2 m2 d2]/\aC wx ng R1 m1 d1 R2 m2 d2 (aJ t n/at_ ld n)/\w5.heap.size<=bf/\Ext w5 wx))
  case first=>
   have n1:w.heap.size≠w5.heap.size:=(by have:=B2.o.lt;omega);have n2:bL≠w5.heap.size:=(by have:=LK.o.2;have:=(E2.o.2.2.tr E5.o.2).size;omega);have n3:g4≠w5.heap.size:=(by have:=B5.o.lt;omega);obtain⟨c0,qo,qn,c3,c4⟩:=qa.o _ XD.o;obtain⟨y0,y1,y2,y3,y4⟩:=qa.o _ XA.o
   go_region_held3 (fun w'=>w'.cell? (aD w.heap.size 2)=some (.s (some (aD bL oL)) t.links.length cl)/\w'.cell? (aD bL (oL+n/2*7+4))=some (vI lk.cap)/\w'.cell? (aD g4 0)=some (.bool neg)/\w'.cell? (aD g4 1)=some (.s A kn kc)/\w'.cell? (aD g4 2)=some (.s A' qe qf))
    (first|with_reducible exact⟨c0,qo,qn,c3,c4⟩|with_reducible exact⟨y0,y1,y2,y3,y4⟩|with_reducible exact⟨aH c0 _,aH qo _,aH qn _,aH c3 _,aH c4 _⟩|exact⟨aA (aA (aA c0 n1) n1) n1,aA (aA (aA qo n2) n2) n2,aA (aA (aA qn n3) n3) n3,aA (aA (aA c3 n3) n3) n3,aA (aA (aA c4 n3) n3) n3⟩|fail)
    (first
     |(go_at_call 33
       first
       |(with_reducible refine(kV lk.cap _ q0).mono ?_
         rintro e w6 ⟨ng,R1,m1,d1,R2,m2,d2,rfl,hR,qt⟩
         first
         |(have E6:=Hx (show Ext w5 w6 by with_reducible exact XD.o.tr qt))
         |(have E6:=Hx (show Ext w5 w6 by with_reducible exact XA.o.tr qt)
           have B6:=Hx (BA.o.K qt)))
       have R6:Hid (aC w6 ng R1 m1 d1 R2 m2 d2 (aJ t n)):=Hx (qz.o▸hR);obtain⟨vh,vm⟩:=R6.o.lens qJ.o;obtain⟨c0,qo,qn,c3,c4⟩:=qa.o _ E6.o;clear hR qt)
     |(go_at_call 73
       first
       |(with_reducible refine(lB ng neg R1 m1 d1 R2 m2 d2 A kn kc A' qe qf (aJ t n) (at_ ld n) _ (by with_reducible exact R6.o) (RA.o.K (E5.o.1.tr (by with_reducible exact E6.o))) HZ.o qO qO qO qO).mono ?_
         rintro e w7 ⟨nh,S1,k1,e1,S2,k2,e2,rfl,hR,qj⟩;have E7:=Hx (E6.o.tr qj)
         first
         |(have B7:=Hx (B6.o.K qj)
           obtain⟨⟨u0,u1,u2⟩,r0,r1,r2⟩:=B7.o.t3)
         |skip)
       |(with_reducible refine(lB ng neg R1 m1 d1 R2 m2 d2 A kn kc A' qe qf (aJ t n) (at_ ld n) _ (R6.o.K ((eR w6).alloc _)) (RA.o.K (E5.o.1.tr (by with_reducible exact(E6.o.alloc _)))) HZ.o qO qO qO qO).mono ?_
         rintro e w7 ⟨nh,S1,k1,e1,S2,k2,e2,rfl,hR,qj⟩;have E7:=Hx ((E6.o.alloc (.cells rV 35)).tr qj);have B7:=Hx (Blk.K (show Blk (w6.alloc (.cells rV 35)) w6.heap.size 35 rV from eN w6 _ _) qj);have n1:w.heap.size≠w6.heap.size:=(by have:=B2.o.lt;have:=E6.o.size;omega);have n2:bL≠w6.heap.size:=(by have:=LK.o.2;have:=(E2.o.2.2.tr (E5.o.2.tr E6.o)).size;omega);have n3:g4≠w6.heap.size:=(by have:=B5.o.lt;have:=E6.o.size;omega);obtain⟨⟨u0,u1,u2⟩,r0,r1,r2⟩:=B7.o.t3)
       have R7:=Hx hR;obtain⟨c0,qo,qn,c3,c4⟩:=qa.o _ E7.o;clear hR qj)
     |fail)
   all_goals
    go_wp2;go_meet
    first
    |(have h5:=B6.o
      have h6:=dM (w:=w5) R7.o B7.o (yX _) E7.o;have b0:=B7.o.sT 0 (.bool nh);have b1:=b0.sT 1 (.s S1 k1 e1);exact⟨w5.heap.size,nh,S1,k1,e1,S2,k2,e2,rfl,Hx ⟨b1.sT 2 (.s S2 k2 e2),h6.1,yX _,h6.2⟩⟩)
    |(have h6:=dM (w:=w5) R7.o B7.o E6.o.size E7.o
      have b0:=B7.o.sT 0 (.bool nh);have b1:=b0.sT 1 (.s S1 k1 e1);exact⟨w6.heap.size,nh,S1,k1,e1,S2,k2,e2,rfl,Hx ⟨b1.sT 2 (.s S2 k2 e2),h6.1,E6.o.size,h6.2⟩⟩)
    |exact⟨w7.heap.size,nh,S1,k1,e1,S2,k2,e2,rfl,Hx ⟨eN w7 _ _,R7.o.K ((eR w7).alloc _),E7.o.size,E7.o.alloc _⟩⟩
  obtain⟨bf,ng,R1,m1,d1,R2,m2,d2,rfl,C⟩:=hcut;clear XD XA BA qa;have va:gl<w5.heap.size:=I5.o.1.lt;have IC:Hid (RB wc gl ((bM t ld n).getD 0)/\FrS (fun b=>b=gl) W3 wc):=Hx (⟨I5.o.1.K C.o.2.2.2,I5.o.2.tr (eE (S:=fun b=>b=gl) C.o.2.2.2) fun b hb=>.inl hb⟩);have vc:=C.o.1.lt;have qX:gl<wc.heap.size:=IC.o.1.lt;have qW:bf≠gl:=(by have:=C.o.2.2.1;omega);have qV:=Hx ((qJ.o.div qB hz).mono (show 1+70000<=70001 by omega));have vi:=C.o.2.1.lens qV.o;(go_upto_region 11 with fail);go_cut [11,57] (fun sf s wx=>sf=.bool (bM t ld n).isSome/\s=.bool (match bM t ld n with|none=>true|some y=>decide (aJ t n/at_ ld n<y))/\Ext wc wx);(case first=>(obtain⟨⟨x0,x1,x2⟩,_⟩:=C.o.1.t3;cases hfc:bM t ld n with|none=>go_wp2;go_meet;exact⟨by rw[hfc],by rw[hfc],eR _⟩|some y=>have hy:=IC.o.1;rw[hfc]at hy;have hy:RB wc gl y:=hy;obtain⟨ny,Y1,my,fy,Y2,qg,qh,⟨p0,p1,p2⟩,_,qi⟩:=hy.at3;have vl:=qi.lens (qI.o n y qO hfc);have RY:=Hx qi;have HB:Hid (decide (aU (aJ t n/at_ ld n) y<0)=decide (aJ t n/at_ ld n<y)):=Hx (decide_eq_decide.2 (by first|exact jzt _ _|exact rN _ _));clear hy qi;go_wp2_with fail;refine(fM ng ny R1 m1 d1 R2 m2 d2 Y1 my fy Y2 qg qh (aJ t n/at_ ld n) y _ C.o.2.1 RY.o qO qO qO qO).mono ?_;rintro e w9 ⟨rfl,x9⟩;go_wp2;go_meet;exact⟨by rw[hfc];rfl,by rw[hfc,HB.o],x9⟩))
  obtain⟨rfl,rfl,qk⟩:=hcut;have B9:=Hx (C.o.1.K qk);have R9:=Hx (C.o.2.1.K qk);have I9:Hid (RB wc gl ((bM t ld n).getD 0)/\FrS (fun b=>b=gl) W3 wc):=Hx (⟨IC.o.1.K qk,IC.o.2.tr (eE (S:=fun b=>b=gl) qk) fun b hb=>.inl hb⟩);have HS:=Hx (show bM t ld (n+1)=if(match bM t ld n with|none=>true|some y=>decide (aJ t n/at_ ld n<y))=true then some (aJ t n/at_ ld n)else bM t ld n by
   show(if at_ ld n=0 then _ else _)=_;rw[qF HZ.o];cases bM t ld n with
   |none=>rfl
   |some y=>
    by_cases h:aJ t n/at_ ld n<y
    ·
     rw[qE (yO h)];exact qE h
    rw[qF (by simpa using h)];exact qF h)
  have vq:=Hx (show(match bM t ld n with|none=>true|some y=>decide (aJ t n/at_ ld n<y))=false->(bM t ld n).isSome=true by
   cases bM t ld n with
   |none=>intro h;cases h
   |some y=>intro _;rfl)
  clear qk C IC;generalize (match bM t ld n with|none=>true|some y=>decide (aJ t n/at_ ld n<y))=cond at*;cases cond;(case false=>have qm:=Hx (show bM t ld (n+1)=bM t ld n by rw[HS.o];rfl);go_wp2;go_roundg (2*t.links.length-(n+1));exact⟨n+1,rfl,qO,by rw[qm.o],by go_num,by rw[qm.o];exact I9⟩;omega)
  have qm:=Hx (show bM t ld (n+1)=some (aJ t n/at_ ld n) by rw[HS.o];rfl);obtain⟨⟨x0,x1,x2⟩,_⟩:=B9.o.t3;obtain⟨_,_,_,_,_,_,_,⟨p0,p1,p2⟩,⟨f0,f1,f2⟩,_⟩:=I9.o.1.at3;have J:=Hx (show RB (((wc.setCell (aD gl 0) (.bool ng)).setCell (aD gl 1) (.s R1 m1 d1)).setCell (aD gl 2) (.s R2 m2 d2)) gl (aJ t n/at_ ld n)/\FrS (fun b=>b=gl) W3 (((wc.setCell (aD gl 0) (.bool ng)).setCell (aD gl 1) (.s R1 m1 d1)).setCell (aD gl 2) (.s R2 m2 d2))from
   ⟨I9.o.1.put3 R9.o,I9.o.2.tr (eG (S:=fun b=>b=gl) (fH wc gl 0 _ _ _) fun g e=>by injection e with e;exact e.symm) fun b hb=>.inl hb⟩)
  go_wp2;clear x0 x1 x2 p0 p1 p2 f0 f1 f2;go_roundg (2*t.links.length-(n+1));exact⟨n+1,rfl,qO,by rw[qm.o];rfl,by go_num,by rw[qm.o];exact J⟩;omega
 obtain rfl:n=2*t.links.length:=qO;obtain⟨Q,hQ⟩:=HQ.o;have hI:=I.o;rw[hQ]at hI;have hI:RB wr gl Q/\FrS (fun b=>b=gl) W3 wr:=hI;obtain⟨ny,Y1,my,fy,Y2,qg,qh,⟨p0,p1,p2⟩,_,qi⟩:=hI.1.at3;have BR:=Hx (E2.o.2.1.K XR.o);obtain⟨⟨r0,r1,r2⟩,z0,z1,z2⟩:=BR.o.t3;have vj:=BR.o.lt;have qY:=((BR.o.sT 0 (.bool ny)).sT 1 (.s Y1 my fy)).sT 2 (.s Y2 qg qh);have RY:=Hx qi;have h6:=dM (w:=w) RY.o BR.o qO (E2.o.2.2.tr XR.o);have q8:=Hx (show Fc46 w t l ss (.returned (.tuple #[.agg #[.bool ny,.s Y1 my fy,.s Y2 qg qh],vI 0])) (((wr.setCell (aD (w.heap.size+1) 0) (.bool ny)).setCell (aD (w.heap.size+1) 1) (.s Y1 my fy)).setCell (aD (w.heap.size+1) 2) (.s Y2 qg qh))from
  ⟨ny,Y1,my,fy,Y2,qg,qh,ld,Q,rfl,h6.1,LD.o.1,hQ,qI.o _ _ (yX _) hQ,h6.2⟩)
 rw[hQ];clear qi hI h6 I;go_wp2;exact bodyPost_ret (v:=.tuple #[.agg #[.bool ny,.s Y1 my fy,.s Y2 qg qh],vI 0]) (by simp[results,results29,go_sem,qY.cell]) rfl q8.o
end Go.Proofs.YtojpooidhilnfaaGreatDoor
namespace Go.Proofs.YtojpooidhilnfaaGreatDoor
open Go.Proofs.Tryz
open Go.RowKit
structure iJ(w:World)(t:Tp)(AO:OA)(co:Nat)(AL:OA)(cl:Nat)(l:List Dm)(AD:OA)(cd:Nat):Prop where
 nodes:i64 t.nodes
 lo:t.over.length<=co
 ll:t.links.length<=cl
 over:Rd w AO (cV t.over)
 links:Rd w AL (t.links.flatMap Lk.cells)
 wf:∀x∈t.links,x.wf
 ld:l.length<=cd
 lm:l.length<=9223372036854775807
 dr:Rd w AD (l.flatMap Dm.cells)
 dwf:∀x∈l,x.wf
section
variable {w w':World} {t:Tp} {AO:Option Addr} {co:Nat} {AL:Option Addr} {cl:Nat} {l:List Dm} {AD:Option Addr} {cd:Nat}
theorem iJ.K(h:iJ w t AO co AL cl l AD cd)(hx:Ext w w'):iJ w' t AO co AL cl l AD cd:=⟨h.nodes,h.lo,h.ll,h.over.K hx,h.links.K hx,h.wf,h.ld,h.lm,h.dr.K hx,h.dwf⟩
theorem iJ.top(h:iJ w t AO co AL cl l AD cd)(h1:t.links.length<=10)(h2:t.over.length<=20):bH w t AO co AL cl:=⟨h.nodes,h.lo,h.ll,qO,qO,h.over,h.links,h.wf⟩
theorem iJ.dem(h:iJ w t AO co AL cl l AD cd)(h1:l.length<=4):DmR w l AD cd:=⟨h.ld,qO,h.dr,h.dwf⟩
theorem Rd.dm{A}(h:Rd w A (l.flatMap Dm.cells)){i:Nat}{d:Dm}(hl:l[i]?=some d):∃b o:Nat,A=some (aD b o)/\b<w.heap.size/\w.cell? (aD b (o+i*4+2))=some (vI d.amount):=by
 have hi:=(yH.1 hl).1;have qa:=jzeq Dm.cells 4 (fun _=>rfl) l;obtain⟨b,o,e,hb,hc⟩:=h.at_ (i:=i*4) (by rw[qa];omega);have qe:w.cell? (aD b (o+(i*4+2)))=(Dm.cells d)[2]?:=(by rw[hc (i*4+2) (by rw[qa];omega)];exact jzr Dm.cells 4 (fun _=>rfl) l i 2 hl qD);exact⟨b,o,e,hb,qe⟩
end
def dT(t:Tp)(l:List Dm):Bool:=l.all (fun d=>decide (d.amount<=1000))&&decide (t.links.length<=10)&&decide (t.over.length<=20)&&decide (l.length<=4)&&(!aI t||decide (t.nodes<=7))
theorem jzq9{l:List Dm}{k:Nat}{d:Dm}(hl:l[k]?=some d)(hb:¬d.amount<=1000):l.all (fun d=>decide (d.amount<=1000))=false:=by
 obtain⟨hk,he⟩:=yH.1 hl;rw[List.all_eq_false];exact⟨d,by rw[<-he];exact xR hk,by simpa using hb⟩
theorem jzra{l:List Dm}(h:∀(j:Nat) (d:Dm),l[j]?=some d->d.amount<=1000):l.all (fun d=>decide (d.amount<=1000))=true:=by
 rw[xW];intro d hd;obtain⟨j,hj,rfl⟩:=List.mem_iff_getElem.1 hd;exact yO (h j _ (yG hj))
theorem jzg8 t AO(co:Nat)AL(cl:Nat)(l:List Dm)AD(cd:Nat)w(h:iJ w t AO co AL cl l AD cd):
  Calls prog 26 #[.agg #[vI t.nodes,.s AO t.over.length co,.s AL t.links.length cl],.s AD l.length cd] w fun e w'=>e=.returned (.bool (dT t l))/\Ext w w':=by
 have qi:=h.ld;have qh:=h.lm;have HA:=Hx h;obtain⟨qe,e0⟩:=bB w #[vI t.nodes,.s AO t.over.length co,.s AL t.links.length cl] 25;obtain⟨⟨i0,i1,i2⟩,_⟩:=qe.t3;have E0:=Hx (kQa qe e0);clear h qe e0;go_enter func26,ntmps26;go_wp2;go_loopg [5] l.length (fun q it wx=>∃n:Nat,l.length-n=q/\n<=l.length/\it=vI (n:Int)/\Hid (∀(j:Nat) (d:Dm),j<n->l[j]?=some d->d.amount<=1000)/\wx=w.alloc (.cells #[vI t.nodes,.s AO t.over.length co,.s AL t.links.length cl] 25));exact⟨0,rfl,yZ _,rfl,Hx fun j d h=>qO,rfl⟩;obtain⟨n,rfl,hn,rfl,I,rfl⟩:=hrel;by_cases qg:n<l.length
 ·obtain⟨d,hd⟩:∃d,l[n]?=some d:=⟨_,yG qg⟩;have HL:=Hx hd;obtain⟨b,o,rfl,hb,c2⟩:=(HA.o.dr.K E0.o.2).dm hd;have nN:(n:Int)<(l.length:Int):=qO;have n0:(0:Int)<=(n:Int):=qO;clear hd;by_cases ha:d.amount<=1000
  ·have HJ:=Hx ha;have d1:decide (1000<d.amount)=false:=yP qO;clear ha;go_wp2;go_roundg (l.length-(n+1));(case measure=>omega)
   case rel=>
    exact⟨n+1,rfl,qO,by go_num,Hx fun j d' hj hd'=>by
    by_cases e:j=n;{subst e;have:=HL.o;rw[this]at hd';injection hd' with hd';subst hd';exact HJ.o}
    exact I.o j d' qO hd',rfl⟩
  have HF:=Hx (show dT t l=false by unfold dT;rw[jzq9 HL.o ha];simp);have d1:decide (1000<d.amount)=true:=yO qO;clear ha;go_wp2;go_ret;rw[HF.o];exact⟨rfl,E0.o.2⟩
 obtain rfl:n=l.length:=qO;have HF:=Hx (jzra (l:=l) fun j d hj=>I.o j d (yH.1 hj).1 hj);by_cases h1:t.links.length<=10;(case neg=>have qa:=Hx (show dT t l=false by simp[dT,h1]);have d1:decide ((t.links.length:Int)<=10)=false:=(by simp;omega);go_wp2;go_ret;rw[qa.o];exact⟨rfl,E0.o.2⟩);have d1:decide ((t.links.length:Int)<=10)=true:=(by simp;omega);by_cases h2:t.over.length<=20;(case neg=>have qa:=Hx (show dT t l=false by simp[dT,h2]);have d2:decide ((t.over.length:Int)<=20)=false:=(by simp;omega);go_wp2;go_ret;rw[qa.o];exact⟨rfl,E0.o.2⟩);have d2:decide ((t.over.length:Int)<=20)=true:=(by simp;omega);by_cases h3:l.length<=4;(case neg=>have qa:=Hx (show dT t l=false by simp[dT,h3]);have d3:decide ((l.length:Int)<=4)=false:=(by simp;omega);go_wp2;go_ret;rw[qa.o];exact⟨rfl,E0.o.2⟩);(have d3:decide ((l.length:Int)<=4)=true:=by simp;omega);go_wp2_with fail;refine(tN t AO co AL cl _ ((HA.o.top h1 h2).K E0.o.2)).mono ?_;rintro e w1 ⟨rfl,qf⟩;obtain⟨⟨k0,_,_⟩,_⟩:=(E0.o.1.K qf).t3;have E1:=Hx (E0.o.2.tr qf);clear qf i0 i1 i2;cases hvv:aI t;(case false=>have qa:=Hx (show dT t l=true by simp only[dT,HF.o,hvv,h1,h2,h3];rfl);go_wp2;go_ret;rw[qa.o];exact⟨rfl,E1.o⟩);by_cases h5:t.nodes<=7;{have qa:=Hx (show dT t l=true by simp only[dT,HF.o,hvv,h1,h2,h3,h5];rfl);have d5:decide (t.nodes<=7)=true:=(by simp;omega);go_wp2;go_ret;rw[qa.o];exact⟨rfl,E1.o⟩};have qa:=Hx (show dT t l=false by simp only[dT,HF.o,hvv,h1,h2,h3,h5];rfl);have d5:decide (t.nodes<=7)=false:=(by simp;omega);go_wp2;go_ret;rw[qa.o];exact⟨rfl,E1.o⟩
theorem QL.lit{w}{g:Nat}{css:List (List Value)}{qs:LQ}(hl:css.length=qs.length)(h3:∀cs∈css,cs.length=3)(hb:Blk w g 35 css.flatten.toArray)(hq:∀(i:Nat) (q:Rat),qs[i]?=some q->∃cs,css[i]?=some cs/\QR w cs q):QL w (sA g) qs:=⟨css,hl,h3,(RdT.of_blk hb rfl).rd,hq⟩
theorem jzrb:gX [1,1,1] 10=([4,3,3],0):=by decide+kernel
theorem jzrc:lL [1,1,1] [4,3,3]=(1/15,0):=by decide+kernel
theorem jzrd:dI [1,3,2,3] 2=([0,3,0,3],0):=by decide+kernel
theorem jzre:mkQ (decide ((1:Int)<0)) (1:Int).natAbs 1=1:=by decide+kernel
theorem jzrf:mkQ (decide ((2:Int)<0)) (2:Int).natAbs 1=2:=by decide+kernel
theorem jzg9:mkQ (decide ((3:Int)<0)) (3:Int).natAbs 1=3:=by decide+kernel
theorem jzrg:gV (1/15)=[49,47,49,53]:=by
 unfold gV;rw[show(1/15:Rat).num=1 by decide+kernel,show(1/15:Rat).den=15 by decide+kernel];simp[Lib.decDigits]
theorem jzha:gV 3=[51]:=by
 unfold gV;rw[show(3:Rat).num=3 from rfl,show(3:Rat).den=1 from rfl];simp[Lib.decDigits]
theorem jzhb:∀q∈([1,1,1]:LQ),SzQ q 100:=by
 intro q hq;simp at hq;subst hq;exact(show SzQ 1 1 from⟨by decide+kernel,by decide+kernel⟩).mono qD
theorem jzrh:∀q∈([1,3,2,3]:LQ),SzQ q 100000:=by
 intro q hq;simp at hq;rcases hq with rfl|rfl|rfl|rfl
 all_goals exact(show SzQ _ 1 from⟨by decide+kernel,by decide+kernel⟩).mono qD
theorem lit3{w}{g:Nat}{n1:Bool}{A1}{l1 c1:Nat}{A1'}{l1' c1':Nat}(hb:Blk w g 35 #[.bool n1,.s A1 l1 c1,.s A1' l1' c1',.bool n1,.s A1 l1 c1,.s A1' l1' c1',.bool n1,.s A1 l1 c1,.s A1' l1' c1'])(hr:aC w n1 A1 l1 c1 A1' l1' c1' 1):QL w (sA g) [1,1,1]:=by
 refine QL.lit (css:=[[.bool n1,.s A1 l1 c1,.s A1' l1' c1'],[.bool n1,.s A1 l1 c1,.s A1' l1' c1'],[.bool n1,.s A1 l1 c1,.s A1' l1' c1']]) rfl qS hb (fun i q hq=>?_);have hR:QR w [.bool n1,.s A1 l1 c1,.s A1' l1' c1'] 1:=⟨n1,A1,l1,c1,A1',l1',c1',rfl,hr⟩;(match i,hq with|0,hq=>simp at hq;subst hq;exact⟨_,rfl,hR⟩|1,hq=>simp at hq;subst hq;exact⟨_,rfl,hR⟩|2,hq=>simp at hq;subst hq;exact⟨_,rfl,hR⟩|k+3,hq=>simp at hq)
theorem lit4{w}{g:Nat}{n1 n5 n6 n7:Bool}{A1 A5 A6 A7 A1' A5' A6' A7'}{l1 c1 l5 c5 l6 c6 l7 c7 l1' c1' l5' c5' l6' c6' l7' c7':Nat}(hb:Blk w g 35 #[.bool n1,.s A1 l1 c1,.s A1' l1' c1',.bool n5,.s A5 l5 c5,.s A5' l5' c5',.bool n6,.s A6 l6 c6,.s A6' l6' c6',.bool n7,.s A7 l7 c7,.s A7' l7' c7'])(h1:aC w n1 A1 l1 c1 A1' l1' c1' 1)(h5:aC w n5 A5 l5 c5 A5' l5' c5' 3)(h6:aC w n6 A6 l6 c6 A6' l6' c6' 2)(h7:aC w n7 A7 l7 c7 A7' l7' c7' 3):QL w (sA g) [1,3,2,3]:=by
 refine QL.lit (css:=[[.bool n1,.s A1 l1 c1,.s A1' l1' c1'],[.bool n5,.s A5 l5 c5,.s A5' l5' c5'],[.bool n6,.s A6 l6 c6,.s A6' l6' c6'],[.bool n7,.s A7 l7 c7,.s A7' l7' c7']]) rfl qS hb (fun i q hq=>?_);(match i,hq with|0,hq=>simp at hq;subst hq;exact⟨_,rfl,n1,A1,l1,c1,A1',l1',c1',rfl,h1⟩|1,hq=>simp at hq;subst hq;exact⟨_,rfl,n5,A5,l5,c5,A5',l5',c5',rfl,h5⟩|2,hq=>simp at hq;subst hq;exact⟨_,rfl,n6,A6,l6,c6,A6',l6',c6',rfl,h6⟩|3,hq=>simp at hq;subst hq;exact⟨_,rfl,n7,A7,l7,c7,A7',l7',c7',rfl,h7⟩|k+4,hq=>simp at hq)
theorem QL.all{w}{K}{qs:LQ}(h:QL w K qs)(h0:0<qs.length):∃b o:Nat,K=some (aD b o)/\b<w.heap.size/\∀(i:Nat) (q:Rat),qs[i]?=some q->∃(neg:Bool) (A:OA) (n c:Nat) (A':OA) (n' c':Nat),(w.cell? (aD b (o+i*3))=some (.bool neg)/\w.cell? (aD b (o+i*3+1))=some (.s A n c)/\w.cell? (aD b (o+i*3+2))=some (.s A' n' c'))/\aC w neg A n c A' n' c' q:=by
 obtain⟨b,o,_,_,_,_,_,_,_,hK,hb,_⟩:=h.at_ (yG h0);refine⟨b,o,hK,hb,fun i q hq=>?_⟩;obtain⟨b',o',neg,A,n,c,A',n',c',qa,_,y0,y1,y2,hr⟩:=h.at_ hq;rw[hK]at qa;injection qa with e
 injection e with e1 e2
 subst e1 e2;exact⟨neg,A,n,c,A',n',c',⟨y0,y1,y2⟩,hr⟩
theorem jzri P(c:Nat)V(cv:Nat)w(hq:QL w P [1,1,1])(hv:Rd w V (ints [4,3,3])):
  Calls prog 67 #[.s P 3 c,.s V 3 cv] w (jzgb w (1/15,0)):=by
 have:=jzqi P 3 c [1,1,1] rfl qD V 3 cv [4,3,3] rfl w hq jzhb hv;rw[jzrc]at this;exact this
theorem jzad{q:Rat}{bs:List UInt8}(hb:gV q=bs)(k:Nat)(hk:k<=100000)(hs:SzQ q k)(neg:Bool)A(n c:Nat)A'(n' c':Nat)w(h:aC w neg A n c A' n' c' q)(ht:Tab w):
  Calls prog 23 #[.agg #[.bool neg,.s A n c,.s A' n' c']] w fun e w'=>e=.returned (.string ⟨bs.toArray⟩)/\Ext w w':=by
 obtain⟨h1,h2⟩:=h.lens hs;have:=jzjt neg A n c A' n' c' q w h qO qO ht;rw[hb]at this;exact this
theorem jzhc w(ht:Tab w):
  Calls prog 25 #[] w fun e w'=>e=.returned (.bool true)/\Ext w w':=by
 have HT:=Hx (ht);clear ht;go_enter func25,ntmps25;go_wp2_with fail;refine(kO 1 _ qD qD).mono ?_;rintro e w1 ⟨n1,A1,l1,c1,qa,qf,qe,rfl,h1,x1⟩;rw[jzre]at h1;have qC:=(eR w1).alloc (.cells #[.bool n1,.s A1 l1 c1,.s qa qf qe] 35);have B1:=Hx (eN w1 35 #[.bool n1,.s A1 l1 c1,.s qa qf qe]);have R1:=Hx (h1.K qC);have E1:=Hx (x1.tr qC);clear h1 x1 qC;obtain⟨W1,qp⟩:∃W1,W1=w1.alloc (.cells #[.bool n1,.s A1 l1 c1,.s qa qf qe] 35):=⟨_,rfl⟩;rw[<-qp]at B1 R1 E1;have qU:=(eR W1).alloc (.cells #[.bool n1,.s A1 l1 c1,.s qa qf qe,.bool n1,.s A1 l1 c1,.s qa qf qe,.bool n1,.s A1 l1 c1,.s qa qf qe] 35);have Q2:=Hx (lit3 (eN W1 35 #[.bool n1,.s A1 l1 c1,.s qa qf qe,.bool n1,.s A1 l1 c1,.s qa qf qe,.bool n1,.s A1 l1 c1,.s qa qf qe]) (R1.o.K qU));have X2:=Hx qU;have q4:W1.heap.size=w1.heap.size+1:=(by rw[qp];simp);rw[q4]at Q2;have qW:=jzf7 (sA (w1.heap.size+1)) 3 3 [1,1,1] rfl qD 10 _ Q2.o jzhb;rw[jzrb,qp]at qW;have q7:=Hx qW;clear qU qW Q2;go_wp2_with fail;refine(q7.o).mono ?_;rintro e w2 ⟨V,cv,rfl,ve,hv,x2⟩;rw[<-qp]at x2;have B2:=Hx ((B1.o.K X2.o).K x2);have R2:=Hx ((R1.o.K X2.o).K x2);have E2:=Hx ((E1.o.tr X2.o).tr x2);have V2:=Hx hv;have qT:3<=cv:=ve;clear q7 hv x2 X2 B1 R1 E1 q4 qp ve;obtain⟨⟨i0,i1,i2⟩,_⟩:=B2.o.t3;have qm:=(eR w2).alloc (.cells #[.bool n1,.s A1 l1 c1,.s qa qf qe,.bool n1,.s A1 l1 c1,.s qa qf qe,.bool n1,.s A1 l1 c1,.s qa qf qe] 35);have Q3:=Hx (lit3 (eN w2 35 #[.bool n1,.s A1 l1 c1,.s qa qf qe,.bool n1,.s A1 l1 c1,.s qa qf qe,.bool n1,.s A1 l1 c1,.s qa qf qe]) (R2.o.K qm));have X3:=Hx qm;clear qm;go_wp2_with fail;refine(jzri (sA w2.heap.size) 3 V cv _ Q3.o (V2.o.K X3.o).rd).mono ?_;rintro e w3 ⟨n3,A3,l3,c3,qj,qi,qk,rfl,h3,x3⟩;have qm:=(eR w3).alloc (.cells #[.bool n3,.s A3 l3 c3,.s qj qi qk] 35);have xd:Ext (w3.alloc (.cells #[.bool n3,.s A3 l3 c3,.s qj qi qk] 35)) (w3.alloc (.cells #[.bool n3,.s A3 l3 c3,.s qj qi qk] 35)).drew:=(eR (w3.alloc (.cells #[.bool n3,.s A3 l3 c3,.s qj qi qk] 35))).drewN 1;have X4:=Hx (((X3.o.tr x3).tr qm).tr xd);have BX:=Hx ((eN w3 35 #[.bool n3,.s A3 l3 c3,.s qj qi qk]).K xd);have RX:=Hx ((h3.K qm).K xd);have B4:=Hx (B2.o.K X4.o);have R4:=Hx (R2.o.K X4.o);have E4:=Hx (E2.o.tr X4.o);have V4:=Hx (V2.o.K X4.o);clear h3 x3 qm xd X3 Q3 B2 R2 E2 V2 i0 i1 i2 X4;obtain⟨⟨i0,i1,i2⟩,_⟩:=B4.o.t3;have vw:True:=trivial;(go_upto_region 4 with fail);go_cut [6,7] (fun s6 s7 wx=>∃(K:OA) (ck:Nat),s6=.s K 4 ck/\s7=vI 0/\Hid (QL wx K [0,3,0,3])/\Hid (Ext w wx)/\Hid (RdT wx 3 V (ints [4,3,3]))/\Hid (Blk wx w3.heap.size 35 #[.bool n3,.s A3 l3 c3,.s qj qi qk])/\Hid (aC wx n3 A3 l3 c3 qj qi qk (1/15)))
 case first=>
  go_wp2
  go_region_held3 (fun w'=>w'.cell? (aD w1.heap.size 0)=some (.bool n1)/\w'.cell? (aD w1.heap.size 1)=some (.s A1 l1 c1)/\w'.cell? (aD w1.heap.size 2)=some (.s qa qf qe))
   (first|with_reducible exact⟨i0,i1,i2⟩|with_reducible exact⟨aH i0 _,aH i1 _,aH i2 _⟩|fail)
   (first
   |(go_at_call 33
     have _t:=vw
     with_reducible refine(kO 3 _ qD qD).mono ?_
     rintro e w5 ⟨n5,A5,l5,c5,vh,vt,va,rfl,h5,x5⟩;rw[jzg9]at h5;clear vw;have B5:=Hx (B4.o.K x5);have X5:=Hx x5;have R5:=Hx h5;obtain⟨⟨i0,i1,i2⟩,_⟩:=B5.o.t3;clear h5 x5)
   |(go_at_call 33
     with_reducible refine(kO 2 _ qD qD).mono ?_
     rintro e w6 ⟨n6,A6,l6,c6,vj,q3,q5,rfl,h6,x6⟩;rw[jzrf]at h6;have B6:=Hx (B5.o.K x6);have X6:=Hx x6;have R6:=Hx h6;obtain⟨⟨i0,i1,i2⟩,_⟩:=B6.o.t3;clear h6 x6)
   |(go_at_call 33
     with_reducible refine(kO 3 _ qD qD).mono ?_
     rintro e w7 ⟨n7,A7,l7,c7,vg,vn,q2,rfl,h7,x7⟩;rw[jzg9]at h7;have B7:=Hx (B6.o.K x7);have X7:=Hx x7;have R7:=Hx h7;obtain⟨⟨i0,i1,i2⟩,_⟩:=B7.o.t3;clear h7 x7)
   |(go_at_call 68
     have xb:=(eR w7).alloc (.cells #[.bool n1,.s A1 l1 c1,.s qa qf qe,.bool n5,.s A5 l5 c5,.s vh vt va,.bool n6,.s A6 l6 c6,.s vj q3 q5,.bool n7,.s A7 l7 c7,.s vg vn q2] 35);have QK:=lit4 (eN w7 35 #[.bool n1,.s A1 l1 c1,.s qa qf qe,.bool n5,.s A5 l5 c5,.s vh vt va,.bool n6,.s A6 l6 c6,.s vj q3 q5,.bool n7,.s A7 l7 c7,.s vg vn q2]) ((((R4.o.K X5.o).K X6.o).K X7.o).K xb) (((R5.o.K X6.o).K X7.o).K xb) ((R6.o.K X7.o).K xb) (R7.o.K xb);have hk:=jzca (sA w7.heap.size) 4 4 [1,3,2,3] rfl qD 2 _ QK jzrh;rw[jzrd]at hk;refine(hk).mono ?_;rintro e w8 ⟨K,ck,rfl,h8,x8⟩;have X8:=((X5.o.tr X6.o).tr X7.o).tr (xb.tr x8);have FK:=Hx (kQa h8 (kQa (E4.o.tr X8) (kQa (V4.o.K X8) (kQa (BX.o.K X8) (RX.o.K X8)))));obtain⟨⟨i0,i1,i2⟩,_⟩:=(B4.o.K X8).t3;clear xb QK hk h8 x8 X8)
   |fail)
  all_goals
   go_wp2;go_meet;exact⟨K,ck,rfl,rfl,Hx FK.o.1,Hx FK.o.2.1,Hx FK.o.2.2.1,Hx FK.o.2.2.2.1,Hx FK.o.2.2.2.2⟩
 obtain⟨K,ck,rfl,rfl,QK,EK,VK,BK,RK⟩:=hcut;clear B4 R4 E4 V4 BX RX i0 i1 i2;obtain⟨bk,ok,rfl,qg,qh⟩:=QK.o.all qD;obtain⟨m0,P0,u0,v0,vp,q1,vu,⟨qz,qV,qA⟩,r0⟩:=qh 0 0 rfl;obtain⟨m1,P1,u1,v1,qZ,vc,vl,⟨qy,qH,qB⟩,r1⟩:=qh 1 3 rfl;obtain⟨m2,P2,q6,v2,vi,qt,q0,⟨qY,qX,qQ⟩,r2⟩:=qh 2 0 rfl;obtain⟨m3,P3,u3,v3,q8,vm,vq,⟨qM,qI,qJ⟩,r3⟩:=qh 3 3 rfl;simp at qz qV qA qy qH qB qY qX qQ qM qI qJ;have KC:=Hx (show∀W,Ext wc W->(W.cell? (aD bk ok)=some (.bool m0)/\W.cell? (aD bk (ok+1))=some (.s P0 u0 v0)/\W.cell? (aD bk (ok+2))=some (.s vp q1 vu))/\(W.cell? (aD bk (ok+3))=some (.bool m1)/\W.cell? (aD bk (ok+3+1))=some (.s P1 u1 v1)/\W.cell? (aD bk (ok+3+2))=some (.s qZ vc vl))/\(W.cell? (aD bk (ok+6))=some (.bool m2)/\W.cell? (aD bk (ok+6+1))=some (.s P2 q6 v2)/\W.cell? (aD bk (ok+6+2))=some (.s vi qt q0))/\(W.cell? (aD bk (ok+9))=some (.bool m3)/\W.cell? (aD bk (ok+9+1))=some (.s P3 u3 v3)/\W.cell? (aD bk (ok+9+2))=some (.s q8 vm vq))from fun W hW=>
  ⟨⟨(hW.cell (p:=(aD bk ok)) qg).trans qz,(hW.cell (p:=(aD bk (ok+1))) qg).trans qV,(hW.cell (p:=(aD bk (ok+2))) qg).trans qA⟩,⟨(hW.cell (p:=(aD bk (ok+3))) qg).trans qy,(hW.cell (p:=(aD bk (ok+3+1))) qg).trans qH,(hW.cell (p:=(aD bk (ok+3+2))) qg).trans qB⟩,⟨(hW.cell (p:=(aD bk (ok+6))) qg).trans qY,(hW.cell (p:=(aD bk (ok+6+1))) qg).trans qX,(hW.cell (p:=(aD bk (ok+6+2))) qg).trans qQ⟩,⟨(hW.cell (p:=(aD bk (ok+9))) qg).trans qM,(hW.cell (p:=(aD bk (ok+9+1))) qg).trans qI,(hW.cell (p:=(aD bk (ok+9+2))) qg).trans qJ⟩⟩)
 have RR:=Hx (kQa r0 (kQa r1 (kQa r2 r3)));clear qh qz qV qA qy qH qB qY qX qQ qM qI qJ r0 r1 r2 r3 QK qg;have xi:=(eR wc).alloc (.cells #[vI 4,vI 3,vI 3] 3);have XI:=Hx xi;have RI:=Hx (Rd.new wc 3 #[vI 4,vI 3,vI 3] (xs:=ints [4,3,3]) rfl rfl);have VI:=Hx (VK.o.K xi);clear xi;go_wp2_with fail;refine(jzi0 V (sA wc.heap.size) cv 3 [4,3,3] [4,3,3] _ VI.o.rd RI.o qT qD qD qD).mono ?_;rintro e w9 ⟨rfl,x9⟩;rw[show decide (([4,3,3]:LN)=[4,3,3])=true from by decide];have X9:=Hx (XI.o.tr x9);clear x9 XI RI VI;obtain⟨⟨i0,i1,i2⟩,_⟩:=(BK.o.K X9.o).t3;go_wp2_with fail;refine(jzad jzrg 1 qD ⟨by decide+kernel,by decide+kernel⟩ n3 A3 l3 c3 qj qi qk _ (RK.o.K X9.o) (HT.o.K (EK.o.tr X9.o))).mono ?_;rintro e vH ⟨rfl,vd⟩;have qx:=Hx (X9.o.tr vd);clear vd X9 i0 i1 i2;obtain⟨⟨i0,i1,i2⟩,_⟩:=KC.o _ qx.o;go_wp2_with fail;refine(bW m0 P0 u0 v0 vp q1 vu 0 _ (RR.o.1.K qx.o)).mono ?_;rintro e vz ⟨rfl,vo⟩;rw[show aE 0=0 from rfl];have qn:=Hx (qx.o.tr vo);clear vo qx i0 i1 i2;obtain⟨_,⟨i0,i1,i2⟩,_⟩:=KC.o _ qn.o;go_wp2_with fail;refine(jzad jzha 1 qD ⟨by decide+kernel,by decide+kernel⟩ m1 P1 u1 v1 qZ vc vl _ (RR.o.2.1.K qn.o) (HT.o.K (EK.o.tr qn.o))).mono ?_;rintro e vJ ⟨rfl,q9⟩;have qw:=Hx (qn.o.tr q9);clear q9 qn i0 i1 i2;obtain⟨_,_,⟨i0,i1,i2⟩,_⟩:=KC.o _ qw.o;go_wp2_with fail;refine(bW m2 P2 q6 v2 vi qt q0 0 _ (RR.o.2.2.1.K qw.o)).mono ?_;rintro e vF ⟨rfl,vk⟩;rw[show aE 0=0 from rfl];have qo:=Hx (qw.o.tr vk);clear vk qw i0 i1 i2;obtain⟨_,_,_,⟨i0,i1,i2⟩⟩:=KC.o _ qo.o;go_wp2_with fail;refine(jzad jzha 1 qD ⟨by decide+kernel,by decide+kernel⟩ m3 P3 u3 v3 q8 vm vq _ (RR.o.2.2.2.K qo.o) (HT.o.K (EK.o.tr qo.o))).mono ?_;rintro e vG ⟨rfl,vx⟩;have vy:=Hx (qo.o.tr vx);clear vx qo i0 i1 i2;go_wp2;go_ret;exact⟨rfl,EK.o.tr vy.o⟩
open Sx
theorem jzhd{t}{l:List Dm}(h:dT t l=true):t.links.length<=10/\t.over.length<=20/\l.length<=4/\(aI t=true->t.nodes<=7):=by
 unfold dT at h;simp only[vM,xW,decide_eq_true_eq,Bool.or_eq_true,Bool.not_eq_true']at h;exact⟨h.1.1.1.2,h.1.1.2,h.1.2,fun hv=>h.2.resolve_left (by rw[hv];decide)⟩
end Go.Proofs.YtojpooidhilnfaaGreatDoor
namespace Go.Proofs.YtojpooidhilnfaaGreatDoor
open Go.Proofs.Tryz
open Go.RowKit Go.ChangeShapes Go.WideShapes Go.Deep
instance:Inhabited Dm:=⟨⟨0,0,0,0⟩⟩
section
variable {H:Type} {enc:TypeId×Value->H} {w:World} {base:Nat} {spare:Nat->Bool} {held:Bool}
end
end Go.Proofs.YtojpooidhilnfaaGreatDoor
