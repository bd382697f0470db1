/- Part 22 of 23 of what the Flows claims share (the white space is struck, the texts are joined). -/
import Derived.Test.YtllmekijiohgmaaGreatDoorT21
set_option linter.unusedVariables false
set_option linter.unusedSimpArgs false
set_option maxRecDepth 100000
set_option maxHeartbeats 8000000
namespace Go.Proofs.YtllmekijiohgmaaGreatDoor
open Go.RowKit
namespace Fo
def WlP(w:World)(e:Ending)(w':World):Prop:=∃(A:OA) (n c:Nat) (l:LN),e=.returned (.s A n c)/\l.length=n/\n<=c/\n<=64/\RdT w' 3 A (ints l)/\Ext w w'
def gQ(V:List Bool):Nat:=(V.filter id).length
theorem jzmi(V:List Bool):gQ V<=V.length:=List.length_filter_le _ _
theorem tZ:∀{V:List Bool} {h:Nat},V[h]?=some false->gQ (V.set h true)=gQ V+1
 | [],_,h=>by cases h
 |b::V,0,h=>by
  injection h with h
  subst h;rfl
 |b::V,k+1,h=>by
  have ih:=tZ (V:=V) (h:=k) h;unfold gQ at ih⊢;rw[yF];cases b
  ·exact ih
  ·show(V.set k true |>.filter id).length+1=_
   rw[ih];rfl
theorem jzmj{N S:Nat}(h:S<N):gQ ((List.replicate N false).set S true)=1:=by
 rw[tZ (by rw[xB,if_pos h])];have e:gQ (List.replicate N false)=0:=(by unfold gQ;rw[List.filter_replicate];rfl);rw[e]
structure WlI(w wx:World)(t:Tp)(AO:OA)(co:Nat)(AL:OA)(cl gt g B:Nat)(V:List Bool)(VO:Value)(O:LN):Prop where
 ex:Ext w wx
 tb:Blk wx gt 25 #[vI t.nodes,.s AO t.over.length co,.s AL t.links.length cl]
 sb:Blk wx g 4 (aG V).toArray
 ob:wx.ownsRow B 3 1 VO O.length (ints O)
 lo:gt<B/\g<B/\w.heap.size<=g/\gt≠g/\w.heap.size<=B/\B<=wx.heap.size
section
variable {w wx wy:World} {t:Tp} {AO:Option Addr} {co:Nat} {AL:Option Addr} {cl gt g B:Nat} {V:List Bool} {VO:Value} {O:List Nat}
theorem WlI.K(h:WlI w wx t AO co AL cl gt g B V VO O)(hx:Ext wx wy):WlI w wy t AO co AL cl gt g B V VO O:=
 ⟨h.ex.tr hx,h.tb.K hx,h.sb.K hx,dB h.ob hx,⟨h.lo.1,h.lo.2.1,h.lo.2.2.1,h.lo.2.2.2.1,h.lo.2.2.2.2.1,yY h.lo.2.2.2.2.2 hx.size⟩⟩
theorem WlI.push(h:WlI w wx t AO co AL cl gt g B V VO O){a g' c':Nat}(own':wy.ownsRow B 3 1 (.s (sA g') (O.length+1) c') (O.length+1) (ints O++[vI (a:Int)]))(gr:wx.grownBy wy VO.ownBlock):WlI w wy t AO co AL cl gt g B V (.s (sA g') (O.length+1) c') (O++[a]):=by
 have k:FrS (fun b=>VO.ownBlock=some b) wx wy:=eG gr fun g e=>e;have qa:∀b,VO.ownBlock=some b->B<=b:=fun b hb=>(h.ob.lt b hb).1;obtain⟨l1,l2,l3,l4,l5,l6⟩:=h.lo;refine⟨k.ext h.ex fun b hb=>yY l5 (qa b hb),k.blk h.tb fun e=>?_,k.blk h.sb fun e=>?_,?_,l1,l2,l3,l4,l5,yY l6 k.size⟩;{have:=qa _ e;omega};{have:=qa _ e;omega};rw[yQ,iR];exact own'
theorem WlI.met(h:WlI w wx t AO co AL cl gt g B V VO O)(n:Nat):WlI w (wx.setCell (aD g n) (.bool true)) t AO co AL cl gt g B (V.set n true) VO O:=by
 have k:FrS (fun b=>b=g) wx (wx.setCell (aD g n) (.bool true)):=eG (S:=fun b=>b=g) (bI wx g n _) fun y e=>(by injection e with e;exact e.symm);obtain⟨l1,l2,l3,l4,l5,l6⟩:=h.lo;refine⟨k.ext h.ex fun b hb=>by have hb:b=g:=hb;omega,k.blk h.tb fun e=>l4 e,?_,k.own h.ob fun b hb e=>?_,l1,l2,l3,l4,l5,yY l6 k.size⟩;{rw[<-tL];exact h.sb.sT n (.bool true)};have:=(h.ob.lt b hb).1;have e:b=g:=e;omega
end
set_option maxHeartbeats 16000000 in
theorem jzmk t AO(co:Nat)AL(cl:Nat)(s:Int)P(np cp:Nat)(pk:LN)w(ht:eV w t AO co AL cl)(hP:Rd w P (pk.map fun b:Nat=>Value.int .u8 (b:Int)))(hn:pk.length=np)(hpk:∀b∈pk,b<256):
  Calls Tryz.prog 43 #[.agg #[vI t.nodes,.s AO t.over.length co,.s AL t.links.length cl],vI s,.s P np cp] w (WlP w):=by
 have VA:Hid (∀wx,Ext w wx->Calls Tryz.prog 42 #[.agg #[vI t.nodes,.s AO t.over.length co,.s AL t.links.length cl]] wx fun e w'=>e=.returned (.bool (aA t))/\Ext wx w'):=Hx (fun wx hx=>tY t AO co AL cl wx (ht.K hx));have B0:=Hx (bF w #[vI t.nodes,.s AO t.over.length co,.s AL t.links.length cl] 25);have HT:=Hx ht;have HP:=Hx (kQa hP (kQa hn hpk));clear ht hP hn hpk;obtain⟨⟨i0,i1,i2⟩,_⟩:=B0.o.1.t3
 go_enter Tryz.func43,Tryz.ntmps43
 go_wp2_with fail
 refine(VA.o _ B0.o.2).mono ?_;rintro e w1 ⟨rfl,x1⟩;have E1:=Hx (kQa (B0.o.1.K x1) (B0.o.2.tr x1));clear x1 i0 i1 i2 B0 VA;obtain⟨⟨i0,i1,i2⟩,_⟩:=E1.o.1.t3;have F0:Hid (WlP w (.returned zN) w1):=Hx (⟨none,0,0,[],rfl,rfl,yX _,yZ _,RdT.nil _ _ _,E1.o.2⟩);cases hv:aA t with
 |false=>
  clear hv;go_wp2;go_ret;exact F0.o
 |true=>
  by_cases hs0:0<=s
  ·obtain⟨S,rfl⟩:=kQj hs0
   by_cases hs1:(S:Int)<t.nodes
   ·skip
    have hlk:=dC hv;have HT:=Hx (HT.o.tv hv);have h3:=HT.o.ll;have h4:=HT.o.cl;obtain⟨N,hN1,hN2⟩:∃N:Nat,t.nodes=(N:Int)/\N<=64:=by
     have h:=hv;unfold aA cX inB at h;simp at h;exact⟨t.nodes.toNat,by omega,by omega⟩
    have GK:Hid ((∀a,a<2*t.links.length->hdN t a<N)):=Hx (fun a ha=>by have:=(Gok.of hv).hd a ha;omega);have HDC:=Hx (show∀(a:Nat),a<2*t.links.length->∀wx,Ext w wx->Calls Tryz.prog 27 #[.agg #[vI t.nodes,.s AO t.over.length co,.s AL t.links.length cl],vI (a:Int)] wx fun e w'=>e=.returned (vI (hdN t a:Int))/\Ext wx w' from fun a ha wx hx'=>by
     have h:=mX t AO co AL cl a wx (HT.o.K hx') hv ha;rw[(eM hv ha).2]at h;exact h)
    have OVC:=Hx (fun(u:Nat) wx (hx:Ext w wx)=>uR t AO co AL cl u wx (HT.o.K hx) hv);have OUT:=Hx (fun(u:Nat) wx (hx:Ext w wx)=>jzea t AO co AL cl u wx (HT.o.K hx) hv hlk);have LM:Hid (∀u a,a∈aE t u->a<2*t.links.length):=Hx (fun u a h=>(fK.1 h).1);have LNz:Hid (∀u,(aE t u).length<=2*t.links.length):=Hx (fun u=>fP t _ u);rw[hN1]at i0;rw[hN1]at HDC OVC OUT;have hs1:(S:Int)<(N:Int):=(by omega);have zz1:decide (N<=S)=false:=yP (by omega);have zz2:decide ((S:Int)<0)=false:=yP (by omega);have zz3:decide ((S:Int)≥(N:Int))=false:=yP (by omega);have hSN:S<N:=(by omega);have sN:(S:Int)<(N:Int):=(by omega);have s0:(0:Int)<=(S:Int):=(by omega);have hmk:=run_make_row' (P:=Tryz.prog) 22 4 (.bool false) 1 Tryz.underlying22 Tryz.info4 rfl .i64 .i64 N (by omega) (by omega);have hcs:(madeCells #[.bool false] N)[S]?=some (.bool false):=by
     rw[<-kQw,toList_madeCells_one];simp[hSN]
    have HSET:=Hx (show(madeCells #[.bool false] N).setIfInBounds S (.bool true)=(aG ((List.replicate N false).set S true)).toArray by
     apply Array.ext';rw[Array.toList_setIfInBounds,toList_madeCells_one];simp[aG,List.map_set])
    go_upto_region 5 with fail
    have I0:=Hx (show WlI w (w1.alloc (.cells ((madeCells #[.bool false] N).setIfInBounds S (.bool true)) 4)) t AO co AL cl w.heap.size w1.heap.size (w1.heap.size+1) ((List.replicate N false).set S true) zN []from by
     rw[HSET.o];have h1:=E1.o.1.lt;exact⟨E1.o.2.alloc _,E1.o.1.alloc _,eN w1 _ _,World.ownsRow_nil _ _ _ _,by omega,by omega,by omega,by omega,by omega,by rw[World.size_alloc];exact yX _⟩)
    clear hmk hcs i0 i1 i2 E1 HSET;generalize w1.alloc (.cells ((madeCells #[.bool false] N).setIfInBounds S (.bool true)) 4)=W3 at*;generalize hBB:w1.heap.size+1=B at*;generalize w1.heap.size=g at*;have hV0:((List.replicate N false).set S true).length=N:=(by simp);have hC0:=jzmj hSN;generalize (List.replicate N false).set S true=V0 at*;clear hBB;go_wp2
    go_loopg [1,8,9,10,11,12,13] np (fun q s1 v8 it _ _ _ _ wx=>∃(i u:Nat) (V:List Bool) (VO:Value) (O:LN),np-i=q/\i<=np/\s1=vI (u:Int)/\v8=VO/\it=vI (i:Int)/\u<N/\V.length=N/\O.length=i/\gQ V=i+1/\Hid (WlI w wx t AO co AL cl w.heap.size g B V VO O))
    case atStart=>exact⟨0,S,V0,_,[],rfl,yZ _,rfl,rfl,rfl,hSN,hV0,rfl,hC0,I0⟩
    obtain⟨i,u,V,VO,O,rfl,hi,rfl,rfl,rfl,huN,hVN,hOi,hCi,I⟩:=hrel;have hO64:O.length+1<=64:=(by have:=jzmi V;omega);have hi64:i+1<=64:=(by omega);have HOi:=Hx hOi;clear hOi;clear I0;obtain⟨AO2,cO,rfl,hcO⟩:=oFA I.o.ob;by_cases hiN:i<np
    ·have iN:(i:Int)<(np:Int):=by omega
     have in0:(0:Int)<=(i:Int):=(by omega);obtain⟨⟨i0,i1,i2⟩,_⟩:=I.o.tb.t3;rw[hN1]at i0
     go_wp2_with fail
     refine(OUT.o u _ I.o.ex).mono ?_;rintro e wk ⟨AA,cA,rfl,hcA,hRA,xk⟩;have IK:=Hx (I.o.K xk);have RA:=Hx hRA;have hll:=LNz.o u;have LMU:=Hx (LM.o u);generalize aE t u=lv at RA hcA hll LMU⊢;generalize hnl:lv.length=nl at hcA hll⊢;have HNL:=Hx hnl.symm;clear xk hRA I i0 i1 i2 hnl;have R0:Hid (wk.ownsRow wk.heap.size 3 1 zN ([]:LN).length (ints [])/\(∀a∈([]:LN),a<2*t.links.length/\V[hdN t a]?=some false)/\Ext wk wk):=Hx (⟨World.ownsRow_nil _ _ _ _,(fun _ h=>nomatch h),eR wk⟩);go_wp2
     go_loopg [10,12] nl (fun q' v10 it wx=>∃(k:Nat) (VR:Value) (AR:LN),nl-k=q'/\k<=nl/\v10=VR/\it=vI (k:Int)/\AR.length<=k/\Hid (wx.ownsRow wk.heap.size 3 1 VR AR.length (ints AR)/\(∀a∈AR,a<2*t.links.length/\V[hdN t a]?=some false)/\Ext wk wx))
     case atStart=>exact⟨0,_,[],rfl,yZ _,rfl,rfl,yX _,R0⟩
     obtain⟨k,VR,AR,rfl,hk,rfl,rfl,hAR,R⟩:=hrel;clear R0;obtain⟨A10,c10,rfl,hc10⟩:=oFA R.o.1;by_cases hkn:k<nl
     ·have kN:(k:Int)<(nl:Int):=by omega
      have k0':(0:Int)<=(k:Int):=(by omega);obtain⟨a,ha⟩:∃a,lv[k]?=some a:=⟨_,yG (by rw[<-HNL.o];exact hkn)⟩;have haL:=LMU.o a (yJ ha);have hhN:=GK.o a haL;obtain⟨bA,oA,rfl,hbA,hca⟩:=(RA.o.rd.K R.o.2.2).ints_ (k:=k) (by rw[<-HNL.o];exact hkn);rw[ha,kQ1]at hca;obtain⟨bv,hbv⟩:∃b,V[hdN t a]?=some b:=⟨_,yG (by rw[hVN];exact hhN)⟩;have IR:=Hx (IK.o.K R.o.2.2);have HDA:=Hx (HDC.o a haL);have OVA:=Hx (OVC.o u);have HAL:Hid (∀x,x=a->bv=false->x<2*t.links.length/\V[hdN t x]?=some false):=Hx (fun x h0 h1=>by rw[h0];exact⟨haL,by rw[hbv,h1]⟩);have kS:=(IR.o.sb.cell (hdN t a)).trans (mJ V (hdN t a) _ hbv);have kC:=hca;have lG:=IR.o.sb.lt;have lT:=IR.o.tb.lt;obtain⟨⟨k0,k1,k2⟩,_⟩:=IR.o.tb.t3;rw[hN1]at k0;have hhI:(hdN t a:Int)<(N:Int):=(by omega);have hh0:(0:Int)<=(hdN t a:Int):=(by omega);clear ha hca hbv haL;generalize hdN t a=hh at*;have q0:=XW.cell _ _ _ lT k0;have q1:=XW.cell _ _ _ lT k1;have q2:=XW.cell _ _ _ lT k2;have q3:=XW.cell _ _ _ hbA kC;have q4:=XW.cell _ _ _ lG kS;clear k0 k1 k2 kS
      go_upto_region 14 with fail
      go_cut [67] (fun sl wx=>∃b:Bool,sl=.bool b/\(b=true->bv=false)/\Hid (Ext wr wx))
      case first=>
       cases bv with
       |true=>
        refine bH (by kernel_rfl) (by kernel_rfl) ?_
        repeat (go_big_quiet_step ((go_at_call 27;exact Calls.ext_of (HDA.o _ (IR.o.ex.tr (XW.ext _))))))
        refine wpQuiet_nil ?_;rintro _ ⟨xx,rfl⟩;go_wp2;go_meet;exact⟨false,rfl,(fun h=>nomatch h),Hx xx.ext⟩
       |false=>
        by_cases hz:i=0
        ·have z1:((i:Int)==0)=true:=by rw[hz];rfl
         have z3:(i==0)=true:=(by rw[hz];rfl);clear hz;refine bH (by kernel_rfl) (by kernel_rfl) ?_
         repeat (go_big_quiet_step ((go_at_call 27;exact Calls.ext_of (HDA.o _ (IR.o.ex.tr (XW.ext _))))))
         refine wpQuiet_nil ?_;rintro _ ⟨xx,rfl⟩;go_wp2;go_meet;exact⟨_,rfl,by simp,Hx xx.ext⟩
        have z1:((i:Int)==0)=false:=yK.2 (by omega);have z2:¬(i:Int)=0:=(by omega);refine bH (by kernel_rfl) (by kernel_rfl) ?_
        repeat (go_big_quiet_step ((first|(go_at_call 27;exact Calls.ext_of (HDA.o _ (IR.o.ex.tr (XW.ext _))))|(go_at_call 62;exact Calls.ext_of (OVA.o _ (IR.o.ex.tr (XW.ext _)))))))
        refine wpQuiet_nil ?_;rintro _ ⟨xx,rfl⟩;go_wp2;go_meet;exact⟨_,rfl,by simp,Hx xx.ext⟩
      obtain⟨b,rfl,hbb,E2⟩:=hcut;clear q0 q1 q2 q3 q4;have X2:=Hx (R.o.2.2.tr E2.o);have O2:=Hx (dB R.o.1 E2.o);cases b with
      |true=>
       have kC2:=aH E2.o kC;have BC:=Hx (eN wc 3 #[vI (a:Int)]);have O3:=Hx (dB O2.o ((eR wc).alloc (.cells #[vI (a:Int)] 3)));have X3:=Hx (X2.o.alloc (.cells #[vI (a:Int)] 3));have hsz:wk.heap.size<=(wc.alloc (.cells #[vI (a:Int)] 3)).heap.size:=X3.o.size;clear kC
       go_wp2_with (at_builtin;refine dW _ 28 3 _ 1 8 rfl _ _ rfl Tryz.underlying28 Tryz.info3 rfl (by decide) wk.heap.size (.s A10 AR.length c10) AR.length (ints AR) rfl O3.o [vI (a:Int)] rfl (by simp[Value.oneCell']) wc.heap.size rfl BC.o (by unfold maxLen;omega) (by omega) hsz ?_)
       intro g9 c9 w9 own9 grow9 new9;have k9:FrS (fun b=>(Value.slice A10 AR.length c10).ownBlock=some b) _ w9:=eG grow9 fun g e=>e;have R9:=Hx (show w9.ownsRow wk.heap.size 3 1 (.s (sA g9) (AR.length+1) c9) (AR++[a]).length (ints (AR++[a]))/\(∀x∈AR++[a],x<2*t.links.length/\V[hdN t x]?=some false)/\Ext wk w9 from
        ⟨by rw[yQ,iR];exact own9,fun x hx=>by
         rcases xY.1 hx with h|h
         ·exact R.o.2.1 x h
         rw[xD.1 h];exact HAL.o _ rfl (hbb (by simp)),k9.ext X3.o fun b hb=>(O3.o.lt b hb).1⟩)
       clear own9 grow9 new9 k9 BC hsz O2 O3 X2 X3 R;go_wp2
       go_roundg (nl-(k+1))
       case measure=>omega
       exact⟨k+1,_,AR++[a],rfl,by omega,rfl,by go_num,by rw[yQ];exact Nat.succ_le_succ hAR,R9⟩
      |false=>
       have R9:=Hx (kQa O2.o (kQa R.o.2.1 X2.o));clear R;go_wp2
       go_roundg (nl-(k+1))
       case measure=>omega
       exact⟨k+1,_,AR,rfl,by omega,rfl,by go_num,by omega,R9⟩
     obtain rfl:k=nl:=(by omega);have hlt:¬((k:Int)<(k:Int)):=(by omega);have IR:=Hx (IK.o.K R.o.2.2);by_cases hz:AR.length=0
     ·have z1:((AR.length:Int)==0)=true:=by rw[hz];rfl
      have F:Hid (WlP w (.returned (.s AO2 O.length cO)) wr):=Hx (⟨AO2,O.length,cO,O,rfl,rfl,hcO,by omega,dX IR.o.ob,IR.o.ex⟩);clear R IK;go_wp2;go_ret;exact F.o
     have z1:((AR.length:Int)==0)=false:=yK.2 (by omega);have z2:¬(AR.length:Int)=0:=(by omega);obtain⟨pb,hpb⟩:∃b,pk[i]?=some b:=⟨_,yG (by rw[HP.o.2.1];exact hiN)⟩;have hp256:=HP.o.2.2 pb (yJ hpb);obtain⟨bP,oP,rfl,hbP,hcp⟩:=(HP.o.1.K IR.o.ex).at_ (i:=i) (by rw[xV,HP.o.2.1];exact hiN);have hcp:=hcp i (by rw[xV,HP.o.2.1];exact hiN);rw[yW,hpb]at hcp;have hmod:pb%AR.length<AR.length:=xT _ (by omega);obtain⟨a,ha⟩:∃a,AR[pb%AR.length]?=some a:=⟨_,yG hmod⟩;obtain⟨bR,oR,rfl,hbR,hcr⟩:=(dX R.o.1).rd.ints_ (k:=pb%AR.length) hmod;rw[ha,kQ1]at hcr;obtain⟨haL,hVf⟩:=R.o.2.1 a (yJ ha);have hhN:=GK.o a haL;have HDA:=Hx (HDC.o a haL);have BC:=Hx (eN wr 3 #[vI (a:Int)]);have IR2:=Hx (IR.o.K ((eR wr).alloc (.cells #[vI (a:Int)] 3)));have hsz:B<=(wr.alloc (.cells #[vI (a:Int)] 3)).heap.size:=IR2.o.lo.2.2.2.2.2;have hhI:(hdN t a:Int)<(N:Int):=(by omega);have hh0:(0:Int)<=(hdN t a:Int):=(by omega);clear ha hpb R IR IK;generalize hdN t a=hh at*
     go_wp2_with (at_builtin;refine dW _ 28 3 _ 1 8 rfl _ _ rfl Tryz.underlying28 Tryz.info3 rfl (by decide) B (.s AO2 O.length cO) O.length (ints O) rfl IR2.o.ob [vI (a:Int)] rfl (by simp[Value.oneCell']) wr.heap.size rfl BC.o (by unfold maxLen;omega) (by omega) hsz ?_)
     intro g9 c9 w9 own9 grow9 new9;have I9:=Hx (IR2.o.push own9 grow9);clear own9 grow9 new9 IR2 BC hsz;obtain⟨⟨i0,i1,i2⟩,_⟩:=I9.o.tb.t3;rw[hN1]at i0
     go_wp2_with fail
     refine(HDA.o _ I9.o.ex).mono ?_;rintro e w10 ⟨rfl,x10⟩;have I10:=Hx (I9.o.K x10);have hbv:=hVf;have hC2:=tZ hVf;have kS:=(I10.o.sb.cell hh).trans (mJ V hh _ hbv);have fS:=I10.o.sb.frozen hh;have I11:=Hx (I10.o.met hh);clear i0 i1 i2 x10 I9 I10 hbv;go_wp2
     go_roundg (np-(i+1))
     case measure=>omega
     exact⟨i+1,hh,V.set hh true,_,O++[a],rfl,by omega,rfl,rfl,by go_num,hhN,by rw[yV];exact hVN,by rw[yQ,HOi.o];rfl,by rw[hC2,hCi],I11⟩
    obtain rfl:i=np:=(by omega);have hlt:¬((i:Int)<(i:Int)):=(by omega);have F:Hid (WlP w (.returned (.s AO2 O.length cO)) wr):=Hx (⟨AO2,O.length,cO,O,rfl,rfl,hcO,by omega,dX I.o.ob,I.o.ex⟩);clear I;go_wp2;go_ret;exact F.o
   have z1:decide ((S:Int)≥t.nodes)=true:=yO (by omega);have z2:(S:Int)≥t.nodes:=(by omega);have z3:decide ((S:Int)<0)=false:=yP (by omega);clear hv hs1;go_wp2;go_ret;exact F0.o
  have z1:decide (s<0)=true:=yO (by omega);have z2:s<0:=(by omega);clear hv hs0;go_wp2;go_ret;exact F0.o
end Fo
namespace Fo
def eW(t:Tp)(m np:Nat):Bool:=decide (t.links.length<=9)&&decide (t.over.length<=20)&&decide (m<=20)&&decide (np<=8)&&(!aA t||decide (t.nodes<=6))
theorem jzml{t}{m np:Nat}(h:eW t m np=true):t.links.length<=9/\t.over.length<=20/\m<=20/\np<=8/\(aA t=true->t.nodes<=6):=by
 unfold eW at h;simp only[vM,decide_eq_true_eq,Bool.or_eq_true,Bool.not_eq_true']at h;exact⟨h.1.1.1.1,h.1.1.1.2,h.1.1.2,h.1.2,fun hv=>h.2.resolve_left (by rw[hv];decide)⟩
theorem jzmm t AO(co:Nat)AL(cl:Nat)(kd nm:Int)A(m c:Nat)(s:Int)P(np cp:Nat)w(ht:eV w t AO co AL cl):
  Calls Tryz.prog 10 #[.agg #[vI t.nodes,.s AO t.over.length co,.s AL t.links.length cl],.agg #[vI kd,vI nm,.s A m c,vI s,.s P np cp]] w fun e w'=>e=.returned (.bool (eW t m np))/\Ext w w':=by
 obtain⟨b0,b1,e0⟩:=dS w #[vI t.nodes,.s AO t.over.length co,.s AL t.links.length cl] 25 #[vI kd,vI nm,.s A m c,vI s,.s P np cp] 31;obtain⟨⟨i0,i1,i2⟩,_⟩:=b0.t3;have j2:=b1.cell 2;have j4:=b1.cell 4;have HT:=Hx ht;have E0:=Hx e0;have B0:=Hx b0;clear ht e0 b0 b1;simp at j2 j4;generalize hR:eW t m np=R;have HR:=Hx hR;clear hR;go_enter Tryz.func10,Tryz.ntmps10;by_cases h1:t.links.length<=9;(case neg=>obtain rfl:R=false:=(by rw[<-HR.o];simp[eW,h1]);have d1:decide ((t.links.length:Int)<=9)=false:=(by simp;omega);go_wp2;go_ret;exact⟨rfl,E0.o⟩);have d1:decide ((t.links.length:Int)<=9)=true:=(by simp;omega);by_cases h2:t.over.length<=20;(case neg=>obtain rfl:R=false:=(by rw[<-HR.o];simp[eW,h2]);have d2:decide ((t.over.length:Int)<=20)=false:=(by simp;omega);go_wp2;go_ret;exact⟨rfl,E0.o⟩);have d2:decide ((t.over.length:Int)<=20)=true:=(by simp;omega);by_cases h3:m<=20;(case neg=>obtain rfl:R=false:=(by rw[<-HR.o];simp[eW,h3]);have d3:decide ((m:Int)<=20)=false:=(by simp;omega);go_wp2;go_ret;exact⟨rfl,E0.o⟩);have d3:decide ((m:Int)<=20)=true:=(by simp;omega);by_cases h4:np<=8;(case neg=>obtain rfl:R=false:=(by rw[<-HR.o];simp[eW,h4]);have d4:decide ((np:Int)<=8)=false:=(by simp;omega);go_wp2;go_ret;exact⟨rfl,E0.o⟩);(have d4:decide ((np:Int)<=8)=true:=by simp;omega);(go_wp2_with fail);refine(tY t AO co AL cl _ (HT.o.K E0.o)).mono ?_;rintro e w1 ⟨rfl,qa⟩;obtain⟨⟨k0,_,_⟩,_⟩:=(B0.o.K qa).t3;have E1:=Hx (E0.o.tr qa);clear qa i0 i1 i2 j2 j4;cases hvv:aA t;(case false=>obtain rfl:R=true:=(by rw[<-HR.o];simp only[eW,hvv,h1,h2,h3,h4];rfl);go_wp2;go_ret;exact⟨rfl,E1.o⟩);by_cases h5:t.nodes<=6;{(obtain rfl:R=true:=by rw[<-HR.o];simp only[eW,hvv,h1,h2,h3,h4,h5];rfl);have d5:decide (t.nodes<=6)=true:=(by simp;omega);go_wp2;go_ret;exact⟨rfl,E1.o⟩};obtain rfl:R=false:=(by rw[<-HR.o];simp only[eW,hvv,h1,h2,h3,h4,h5];rfl);have d5:decide (t.nodes<=6)=false:=(by simp;omega);go_wp2;go_ret;exact⟨rfl,E1.o⟩
def RtP(w:World)(m:Nat)(e:Ending)(w':World):Prop:=∃(A:OA) (n c:Nat) (l:List Int),e=.returned (.s A n c)/\l.length=n/\n<=c/\(n<=64\/n=m)/\Rd w' A (aR l)/\Ext w w'
theorem jzmn t AO(co:Nat)AL(cl:Nat)(kd nm:Int)A(m c:Nat)(s:Int)P(np cp:Nat)(l:List Int)(pk:LN)w(ht:eV w t AO co AL cl)(hA:Rd w A (aR l))(hm:l.length=m)(hc:m<=c)(hP:Rd w P (pk.map fun b:Nat=>Value.int .u8 (b:Int)))(hn:pk.length=np)(hpk:∀b∈pk,b<256):
  Calls Tryz.prog 11 #[.agg #[vI t.nodes,.s AO t.over.length co,.s AL t.links.length cl],.agg #[vI kd,vI nm,.s A m c,vI s,.s P np cp]] w (RtP w m):=by
 have WK:Hid (∀wx,Ext w wx->Calls Tryz.prog 43 #[.agg #[vI t.nodes,.s AO t.over.length co,.s AL t.links.length cl],vI s,.s P np cp] wx (WlP wx)):=Hx (fun wx hx=>jzmk t AO co AL cl s P np cp pk wx (ht.K hx) (hP.K hx) hn hpk);obtain⟨b0,b1,e0⟩:=dS w #[vI t.nodes,.s AO t.over.length co,.s AL t.links.length cl] 25 #[vI kd,vI nm,.s A m c,vI s,.s P np cp] 31;obtain⟨⟨i0,i1,i2⟩,_⟩:=b0.t3;have j2:=b1.cell 2;have j3:=b1.cell 3;have j4:=b1.cell 4;have E0:=Hx (kQa e0 (kQa hA (kQa hm hc)));clear ht hA hm hc hP hn hpk e0 b0 b1;simp at j2 j3 j4;go_enter Tryz.func11,Tryz.ntmps11;by_cases hz:np=0;{have d1:decide ((np:Int)>0)=false:=yP (by omega);have d2:decide (0<np)=false:=yP (by omega);clear hz;have F:Hid (∀W,Ext w W->RtP w m (.returned (.s A m c)) W):=Hx (fun W hx=>⟨A,m,c,l,rfl,E0.o.2.2.1,E0.o.2.2.2,.inr rfl,E0.o.2.1.K hx,hx⟩);go_wp2;go_ret;exact F.o _ E0.o.1};have d1:decide ((np:Int)>0)=true:=yO (by omega);have d2:decide (0<np)=true:=yO (by omega);(go_wp2_with fail);refine(WK.o _ E0.o.1).mono ?_;rintro e w1 ⟨A1,n1,c1,l1,rfl,h1,h2,h3,h4,x1⟩;have F:Hid (RtP w m (.returned (.s A1 n1 c1)) w1):=Hx (⟨A1,n1,c1,l1.map fun a:Nat=>(a:Int),rfl,by rw[xV];exact h1,h2,.inl h3,by have e:aR (l1.map fun a:Nat=>(a:Int))=ints l1:=(by unfold aR ints;rw[List.map_map];rfl);rw[e];exact h4.rd,E0.o.1.tr x1⟩);clear h1 h2 h3 h4 x1;go_wp2;go_ret;exact F.o
end Fo
namespace Fo
theorem jzmo t AO(co:Nat)AL(cl:Nat)(k n:Int)w(ht:eV w t AO co AL cl):
  Calls Tryz.prog 21 #[.agg #[vI t.nodes,.s AO t.over.length co,.s AL t.links.length cl],.agg #[vI k,vI n]] w fun e w'=>e=.returned (.bool (aA t&&wnP t k n))/\Ext w w':=by
 have VA:Hid (∀wx,Ext w wx->Calls Tryz.prog 42 #[.agg #[vI t.nodes,.s AO t.over.length co,.s AL t.links.length cl]] wx fun e w'=>e=.returned (.bool (aA t))/\Ext wx w'):=Hx (fun wx hx=>tY t AO co AL cl wx (ht.K hx));have HT:=Hx ht;obtain⟨b0,b1,e0⟩:=dS w #[vI t.nodes,.s AO t.over.length co,.s AL t.links.length cl] 25 #[vI k,vI n] 27;have E0:=Hx (kQa b0 (kQa b1 e0));clear ht b0 b1 e0;obtain⟨⟨i0,i1,i2⟩,_⟩:=E0.o.1.t3;go_enter Tryz.func21,Tryz.ntmps21;(go_wp2_with fail);(refine(VA.o _ E0.o.2.2).mono ?_;rintro e w1 ⟨rfl,x1⟩;have X2:=Hx (E0.o.2.2.tr x1);have B1:=Hx (kQa (E0.o.1.K x1) (E0.o.2.1.K x1));clear x1 i0 i1 i2 E0 VA;cases hv:aA t with|false=>have HV:=Hx hv;clear B1 hv;go_wp2;go_ret;exact⟨by rw[HV.o];rfl,X2.o⟩|true=>have HV:=Hx hv;obtain⟨qe,_⟩:=mO (tX hv);have qa:=HT.o.ll;obtain⟨⟨i0,i1,i2⟩,_⟩:=B1.o.1.t3;have c0:=B1.o.2.cell 0;have c1:=B1.o.2.cell 1;clear hv;by_cases e1:k=1;{have W:Hid (wnP t k n=(decide (0<=n)&&decide (n<(t.links.length:Int)))):=Hx (by unfold wnP;rw[if_pos e1]);subst e1;by_cases e4:0<=n;{rw[yO e4]at W;go_wp2;go_ret;exact⟨by rw[HV.o,W.o];simp,X2.o⟩};rw[yP e4]at W;go_wp2;go_ret;exact⟨by rw[HV.o,W.o];simp,X2.o⟩};by_cases e2:k=2;{have W:Hid (wnP t k n=(decide (0<=n)&&decide (n<t.nodes))):=Hx (by unfold wnP;rw[if_neg e1,if_pos e2];by_cases h1:0<=n <;> by_cases h2:n<t.nodes <;> simp[h1,h2]);subst e2;clear e1;by_cases e4:0<=n;{rw[yO e4]at W;go_wp2;go_ret;exact⟨by rw[HV.o,W.o];simp,X2.o⟩};rw[yP e4]at W;go_wp2;go_ret;exact⟨by rw[HV.o,W.o];simp,X2.o⟩};have k1:(k==1)=false:=yK.2 e1;have k2:(k==2)=false:=yK.2 e2;by_cases e3:k=3;{have W:Hid (wnP t k n=(decide (1<=n)&&decide (n<=64))):=Hx (by unfold wnP;rw[if_neg e1,if_neg e2,if_pos e3]);subst e3;clear e1 e2 k1 k2;by_cases e4:1<=n;{rw[yO e4]at W;go_wp2;go_ret;exact⟨by rw[HV.o,W.o];simp,X2.o⟩};rw[yP e4]at W;go_wp2;go_ret;exact⟨by rw[HV.o,W.o];simp,X2.o⟩};have k3:(k==3)=false:=yK.2 e3;have W:Hid (wnP t k n=false):=Hx (by unfold wnP;rw[if_neg e1,if_neg e2,if_neg e3]);clear e1 e2 e3;go_wp2;go_ret;exact⟨by rw[HV.o,W.o];rfl,X2.o⟩)
theorem BEQ(a b:Int):(a==b)=decide (a=b):=by
 by_cases h:a=b;{rw[yO h,h];simp};rw[yP h];exact yK.2 h
theorem jzmp t AO(co:Nat)AL(cl:Nat)(k n:Int)(a:Nat)w(ht:aF w t AO co AL cl)(ha:a<2*t.links.length):
  Calls Tryz.prog 30 #[.agg #[vI t.nodes,.s AO t.over.length co,.s AL t.links.length cl],.agg #[vI k,vI n],vI (a:Int)] w fun e w'=>e=.returned (.bool (ofB t k n a))/\Ext w w':=by
 have qa:a/2<t.links.length:=(by omega);obtain⟨l,hl⟩:∃l,t.links[a/2]?=some l:=⟨_,yG qa⟩;obtain⟨b,o,rfl,hb,c0,c1,c2,c3,c4,c5,c6⟩:=ht.link hl;have OF:Hid (ofB t k n a=if k=1 then decide (((a/2:Nat):Int)=n)else if k=2 then decide (l.a=n)||decide (l.b=n)else decide (l.group=n)):=Hx (by unfold ofB;rw[hl])
 have qe:=ht.ll;have qf:=ht.cl;have C:=Hx (show∀W,Ext w W->W.cell? (aD b (o+a/2*7))=some (vI l.a)/\W.cell? (aD b (o+a/2*7+1))=some (vI l.b)/\W.cell? (aD b (o+a/2*7+2))=some (vI l.c0)/\W.cell? (aD b (o+a/2*7+3))=some (vI l.c1)/\W.cell? (aD b (o+a/2*7+4))=some (vI l.cap)/\W.cell? (aD b (o+a/2*7+5))=some (vI l.delay)/\W.cell? (aD b (o+a/2*7+6))=some (vI l.group)from fun W hx=>
  ⟨aH hx c0,aH hx c1,aH hx c2,aH hx c3,aH hx c4,aH hx c5,aH hx c6⟩)
 obtain⟨b0,b1,e0⟩:=dS w #[vI t.nodes,.s AO t.over.length co,.s (some (aD b o)) t.links.length cl] 25 #[vI k,vI n] 27;have E0:=Hx (kQa b0 (kQa b1 e0));clear ht hl c0 c1 c2 c3 c4 c5 c6 b0 b1 e0;obtain⟨⟨i0,i1,i2⟩,_⟩:=E0.o.1.t3;obtain⟨c0,c1,c2,c3,c4,c5,c6⟩:=C.o _ E0.o.2.2;have j0:=E0.o.2.1.cell 0;have j1:=E0.o.2.1.cell 1;go_enter Tryz.func30,Tryz.ntmps30;go_upto_region 2 with fail
 have B3:=Hx (show Blk (((w.alloc (.cells #[vI t.nodes,.s AO t.over.length co,.s (some (aD b o)) t.links.length cl] 25)).alloc (.cells #[vI k,vI n] 27)).alloc (.cells #[vI l.a,vI l.b,vI l.c0,vI l.c1,vI l.cap,vI l.delay,vI l.group] 118)) (w.heap.size+1) 27 #[vI k,vI n]/\Blk (((w.alloc (.cells #[vI t.nodes,.s AO t.over.length co,.s (some (aD b o)) t.links.length cl] 25)).alloc (.cells #[vI k,vI n] 27)).alloc (.cells #[vI l.a,vI l.b,vI l.c0,vI l.c1,vI l.cap,vI l.delay,vI l.group] 118)) (w.heap.size+1+1) 118 #[vI l.a,vI l.b,vI l.c0,vI l.c1,vI l.cap,vI l.delay,vI l.group]/\Ext w (((w.alloc (.cells #[vI t.nodes,.s AO t.over.length co,.s (some (aD b o)) t.links.length cl] 25)).alloc (.cells #[vI k,vI n] 27)).alloc (.cells #[vI l.a,vI l.b,vI l.c0,vI l.c1,vI l.cap,vI l.delay,vI l.group] 118))from
  ⟨E0.o.2.1.alloc _,by
   have h:=eN ((w.alloc (.cells #[vI t.nodes,.s AO t.over.length co,.s (some (aD b o)) t.links.length cl] 25)).alloc (.cells #[vI k,vI n] 27)) 118 #[vI l.a,vI l.b,vI l.c0,vI l.c1,vI l.cap,vI l.delay,vI l.group];rw[World.size_alloc,World.size_alloc]at h;exact h,E0.o.2.2.alloc _⟩)
 clear E0 C c0 c1 c2 c3 c4 c5 c6 i0 i1 i2 j0 j1;generalize (((w.alloc (.cells #[vI t.nodes,.s AO t.over.length co,.s (some (aD b o)) t.links.length cl] 25)).alloc (.cells #[vI k,vI n] 27)).alloc (.cells #[vI l.a,vI l.b,vI l.c0,vI l.c1,vI l.cap,vI l.delay,vI l.group] 118))=w3 at*;have j0:=B3.o.1.cell 0;have j1:=B3.o.1.cell 1;have l0:=B3.o.2.1.cell 0;have l1:=B3.o.2.1.cell 1;have l5:=B3.o.2.1.cell 6;simp at j0 j1 l0 l1 l5;by_cases e1:k=1;{rw[if_pos e1]at OF;subst e1;go_wp2;go_ret;exact⟨by rw[OF.o];simp[BEQ],B3.o.2.2⟩};rw[if_neg e1]at OF;have k1:(k==1)=false:=yK.2 e1;by_cases e2:k=2;{rw[if_pos e2]at OF;subst e2;by_cases e3:l.a=n;{(have z1:(l.a==n)=true:=by rw[e3];simp);have HE:=Hx e3;clear e3;go_wp2;go_ret;exact⟨by rw[OF.o,yO HE.o];simp,B3.o.2.2⟩};have z1:(l.a==n)=false:=yK.2 e3;have HE:=Hx e3;go_wp2;go_ret;exact⟨by rw[OF.o,yP HE.o];simp[BEQ],B3.o.2.2⟩};rw[if_neg e2]at OF;have k2:(k==2)=false:=yK.2 e2;go_wp2;go_ret;exact⟨by rw[OF.o];simp[BEQ],B3.o.2.2⟩
end Fo
namespace Fo
theorem jzmq{t:Tp}{a:Nat}{l:Lk}(hl:t.links[a/2]?=some l)(h0:0<=l.c0/\0<=l.c1):csZ t a=if a%2=0 then l.c0 else l.c1:=by
 unfold csZ kG;rw[hl];simp only[];split <;> omega
theorem jzmr{t}(hv:aA t=true){i:Nat}{l:Lk}(hl:t.links[i]?=some l):0<=l.c0/\0<=l.c1:=by
 unfold aA at hv;rw[vM,xW]at hv;have qa:=hv.2 l (yJ hl);unfold Lk.ok inB at qa;simp at qa;omega
theorem jzms t AO(co:Nat)AL(cl:Nat)(a:Nat)w(ht:aF w t AO co AL cl)(hv:aA t=true)(ha:a<2*t.links.length):
  Calls Tryz.prog 115 #[.agg #[vI t.nodes,.s AO t.over.length co,.s AL t.links.length cl],vI a] w fun e w'=>e=.returned (vI (csZ t a))/\Ext w w':=by
 have HT:=Hx (ht);have HV:=Hx (hv);have h3:=ht.ll;have h4:=ht.cl;have qf:a/2<t.links.length:=(by omega);obtain⟨l,hl⟩:∃l,t.links[a/2]?=some l:=⟨_,yG qf⟩;obtain⟨b,o,rfl,hb,_,_,c2,c3,_⟩:=ht.link hl;rw[jzmq hl (jzmr hv hl)];clear ht hv hl;obtain⟨qe,e0⟩:=bF w #[vI t.nodes,.s AO t.over.length co,.s (some (aD b o)) t.links.length cl] 25;by_cases h:a%2=0;{rw[if_pos h];have h':((a:Int)%2)=0:=(by omega);clear h;go_enter Tryz.func115,Tryz.ntmps115;(go_wp2_with fail);refine(fQ t AO co (some (aD b o)) cl _ (HT.o.K e0) HV.o).mono ?_;rintro e w1 ⟨rfl,qa⟩;have qe:=qe.K qa;obtain⟨⟨i0,i1,i2⟩,g0,g1,g2⟩:=qe.t3;have HX:=Hx (e0.tr qa);have c2:=(HX.o.cell (p:=(aD b (o+a/2*7+2))) hb).trans c2;clear qa e0 c3;go_wp2;go_ret;exact⟨rfl,HX.o⟩};rw[if_neg h];have h':((a:Int)%2)=1:=(by omega);clear h;go_enter Tryz.func115,Tryz.ntmps115;(go_wp2_with fail);refine(fQ t AO co (some (aD b o)) cl _ (HT.o.K e0) HV.o).mono ?_;rintro e w1 ⟨rfl,qa⟩;have qe:=qe.K qa;obtain⟨⟨i0,i1,i2⟩,g0,g1,g2⟩:=qe.t3;have HX:=Hx (e0.tr qa);have c3:=(HX.o.cell (p:=(aD b (o+a/2*7+3))) hb).trans c3;clear qa e0 c2;go_wp2;go_ret;exact⟨rfl,HX.o⟩
def dI(t:Tp):Nat->Bool->List Int->Option Nat
 |u,_,[]=>some u
 |u,first,a::l=>if arI t a=true then(if tlN t a.toNat=u/\(first=true\/aZ t (u:Int)=false)then dI t (hdN t a.toNat) false l else none)else none
theorem pG{t}(hv:aA t=true):∀(l:List Int) (u:Nat) (first:Bool) (d:Nat),dI t u first l=some d↔∃y:LN,l=y.map (fun a:Nat=>(a:Int))/\PO t u first y d
 | [],u,first,d=>by
   constructor
   ·intro h
    injection h with h
    exact⟨[],rfl,h⟩
   ·rintro ⟨y,h1,h2⟩
    cases y with
    |nil=>exact congrArg some h2
    |cons b y=>cases h1
 |a::l,u,first,d=>by
  unfold dI;constructor
  ·intro h
   split at h
   ·rename_i ha
    split at h
    ·rename_i hc
     obtain⟨y,h1,h2⟩:=(pG hv l _ _ _).1 h;unfold arI at ha;rw[vM,decide_eq_true_eq,decide_eq_true_eq]at ha;have qa:a.toNat<2*t.links.length:=(by omega);refine⟨a.toNat::y,by rw[kZa, <-h1,Int.toNat_of_nonneg ha.1],fK.2 ⟨qa,?_⟩,hc.2,h2⟩;rw[(eM hv qa).1,hc.1]
    ·cases h
   ·cases h
  ·rintro ⟨y,h1,h2⟩
   cases y with
   |nil=>cases h1
   |cons b y=>
    injection h1 with e1 e2
    have e1:a=(b:Int):=e1;obtain⟨p1,p2,p3⟩:=h2;obtain⟨q1,q2⟩:=fK.1 p1;rw[(eM hv q1).1]at q2;have e3:a.toNat=b:=(by omega);rw[if_pos (by unfold arI;rw[vM,decide_eq_true_eq,decide_eq_true_eq];omega),e3,if_pos ⟨by omega,p2⟩];exact(pG hv l _ _ _).2 ⟨y,e2,p3⟩
theorem jzmt{t}{x:List Int}{i:Nat}{a:Int}(ha:x[i]?=some a)(u:Nat)(first:Bool):dI t u first (x.drop i)=if arI t a=true then(if tlN t a.toNat=u/\(first=true\/aZ t (u:Int)=false)then dI t (hdN t a.toNat) false (x.drop (i+1))else none)else none:=by
 obtain⟨h1,h2⟩:=yH.1 ha;rw[kQ6 h1,h2];rfl
def PhP(w:World)(R:Option Nat)(e:Ending)(w':World):Prop:=Ext w w'/\match R with
 |some d=>∃c:Nat,e=.returned (.tuple #[vI (d:Int),vI (c:Int),vI 0])
 |none=>∃k:Int,k≠0/\e=.returned (.tuple #[vI 0,vI 0,vI k])
theorem jzco t AO(co:Nat)AL(cl:Nat)(s:Nat)AX(n cx:Nat)(x:List Int)w(ht:aF w t AO co AL cl)(hv:aA t=true)(hs:(s:Int)<t.nodes)(hx:Rd w AX (aR x))(hn:x.length=n)(hxl:n<=1000):
  Calls Tryz.prog 60 #[.agg #[vI t.nodes,.s AO t.over.length co,.s AL t.links.length cl],vI (s:Int),.s AX n cx] w (PhP w (dI t s true x)):=by
 have h3:=ht.ll;have h4:=ht.cl;have qH:=dC hv;have g:=Gok.of hv;have HG:=Hx g;have HT:=Hx (kQa ht hv);have HX:=Hx (kQa hx hn);have HS:=Hx hs;obtain⟨qh,e0⟩:=bF w #[vI t.nodes,.s AO t.over.length co,.s AL t.links.length cl] 25;have BB:=Hx qh;clear ht hv hx hn g;go_enter Tryz.func60,Tryz.ntmps60;(go_wp2_with fail);refine(lL t AO co AL cl _ (HT.o.1.K e0)).mono ?_;rintro e w1 ⟨rfl,x1⟩;rw[HT.o.2];have E1:=Hx (kQa (BB.o.K x1) (e0.tr x1));obtain⟨⟨i0,i1,i2⟩,_⟩:=E1.o.1.t3;clear x1 e0 qh BB;go_wp2;go_loopg [1,9,10] n (fun j fr cs it wx=>∃(i u c:Nat),n-i=j/\i<=n/\it=vI (i:Int)/\fr=vI (u:Int)/\cs=vI (c:Int)/\c<=65535*i/\Hid (dI t u (decide (i=0)) (x.drop i)=dI t s true x/\(u:Int)<t.nodes/\Blk wx w.heap.size 25 #[vI t.nodes,.s AO t.over.length co,.s AL t.links.length cl]/\Ext w wx));(case atStart=>exact⟨0,s,0,rfl,yZ _,rfl,rfl,rfl,yX _,Hx ⟨rfl,HS.o,E1.o.1,E1.o.2⟩⟩);obtain⟨i,u,c,rfl,hi,rfl,rfl,rfl,hc,I⟩:=hrel;clear E1 i0 i1 i2;have qz:Hid (∀wx,Ext wr wx->Blk wx w.heap.size 25 #[vI t.nodes,.s AO t.over.length co,.s AL t.links.length cl]):=Hx (fun wx hx=>I.o.2.2.1.K hx);by_cases qE:i<n
 ·obtain⟨a,ha⟩:∃a,x[i]?=some a:=⟨_,yG (by rw[HX.o.2];exact qE)⟩;obtain⟨ba,oa,rfl,qh,qx⟩:=(HX.o.1.K I.o.2.2.2).iint ha;have PD:=Hx (I.o.1.symm.trans (jzmt (t:=t) ha u (decide (i=0))));have lw:w.heap.size<wr.heap.size:=I.o.2.2.1.lt;have qg:Hid (∀wx,Ext wr wx->(wx.cell? (aD w.heap.size 0)=some (vI t.nodes)/\wx.cell? (aD w.heap.size 1)=some (.s AO t.over.length co)/\wx.cell? (aD w.heap.size 2)=some (.s AL t.links.length cl)/\wx.cell? (aD ba (oa+i))=some (vI a))):=Hx (fun wx hx=>by obtain⟨⟨i0,i1,i2⟩,_⟩:=(qz.o wx hx).t3;exact⟨i0,i1,i2,(hx.cell (p:=(aD ba (oa+i))) qh).trans qx⟩);have qe:Hid (∀wx,Ext wr wx->aF wx t AO co AL cl):=Hx (fun wx hx=>(HT.o.1.K I.o.2.2.2).K hx);have qy:Hid (∀wx,Ext wr wx->Calls Tryz.prog 29 #[.agg #[vI t.nodes,.s AO t.over.length co,.s AL t.links.length cl]] wx fun e w'=>e=.returned (vI (2*(t.links.length:Int)))/\Ext wx w'):=Hx (fun wx hx=>fQ t AO co AL cl wx (qe.o wx hx) HT.o.2);have iL:(i:Int)<(n:Int):=(by omega);have iz:(0:Int)<=(i:Int):=(by omega);clear ha qx;(go_upto_region 9 with fail);go_cut [41] (fun sl wx=>sl=.bool (!arI t a)/\Hid (Ext wr wx));(case first=>obtain⟨k0,k1,k2,k3⟩:=qg.o _ (eR wr);have q0:=XW.cell _ _ _ lw k0;have q1:=XW.cell _ _ _ lw k1;have q2:=XW.cell _ _ _ lw k2;have q3:=XW.cell _ _ _ qh k3;clear k0 k1 k2 k3;by_cases qn:a<0;{have z1:decide (a<0)=true:=yO qn;have z2:arI t a=false:=(by unfold arI;rw[yP (by omega)];rfl);refine bH (by kernel_rfl) (by kernel_rfl) ?_;(repeat (go_big_quiet_step ((go_at_call 29;exact Calls.ext_of (qy.o _ (XW.ext _))))));refine wpQuiet_nil ?_;rintro _ ⟨xx,rfl⟩;go_wp2;go_meet;exact⟨by rw[z2];rfl,Hx xx.ext⟩};have z1:decide (a<0)=false:=yP qn;have z2:arI t a=!decide (a≥2*(t.links.length:Int)):=(by unfold arI;rw[yO (show 0<=a by omega),kZg];by_cases h:a<2*(t.links.length:Int);{rw[yO h,yP (by omega)];rfl};rw[yP h,yO (by omega)];rfl);refine bH (by kernel_rfl) (by kernel_rfl) ?_;(repeat (go_big_quiet_step ((go_at_call 29;exact Calls.ext_of (qy.o _ (XW.ext _))))));refine wpQuiet_nil ?_;rintro _ ⟨xx,rfl⟩;go_wp2;go_meet;exact⟨by rw[z2];simp,Hx xx.ext⟩);obtain⟨rfl,E2⟩:=hcut;by_cases qj:arI t a=true
  ·have qi:=qj;unfold arI at qi;rw[vM,decide_eq_true_eq,decide_eq_true_eq]at qi;obtain⟨b,rfl⟩:=kQj qi.1;have qk:b<2*t.links.length:=(by omega);have qw:=Hx (PD.o.trans (if_pos qj));rw[qj];have HB:Hid (aX t b=(tlN t b:Int)/\aJ t b=(hdN t b:Int)/\(hdN t b:Int)<t.nodes/\1<=csZ t b/\csZ t b<=65535):=Hx (by obtain⟨h1,h2⟩:=eM HT.o.2 qk;have h5:=HG.o.hd b qk;exact⟨h1,h2,by omega,HG.o.cs b qk⟩);have qa:Hid (∀wx,Ext wr wx->Calls Tryz.prog 26 #[.agg #[vI t.nodes,.s AO t.over.length co,.s AL t.links.length cl],vI (b:Int)] wx fun e w'=>e=.returned (vI (tlN t b:Int))/\Ext wx w'):=Hx (fun wx hx=>by have h1:=lM t AO co AL cl b wx (qe.o wx hx) HT.o.2 qk;rw[HB.o.1]at h1;exact h1);have qt:Hid (∀wx,Ext wr wx->Calls Tryz.prog 27 #[.agg #[vI t.nodes,.s AO t.over.length co,.s AL t.links.length cl],vI (b:Int)] wx fun e w'=>e=.returned (vI (hdN t b:Int))/\Ext wx w'):=Hx (fun wx hx=>by have h1:=mX t AO co AL cl b wx (qe.o wx hx) HT.o.2 qk;rw[HB.o.2.1]at h1;exact h1);have qo:Hid (∀wx,Ext wr wx->Calls Tryz.prog 115 #[.agg #[vI t.nodes,.s AO t.over.length co,.s AL t.links.length cl],vI (b:Int)] wx fun e w'=>e=.returned (vI (csZ t b))/\Ext wx w'):=Hx (fun wx hx=>jzms t AO co AL cl b wx (qe.o wx hx) HT.o.2 qk);have qC:Hid (∀wx,Ext wr wx->Calls Tryz.prog 62 #[.agg #[vI t.nodes,.s AO t.over.length co,.s AL t.links.length cl],vI (u:Int)] wx fun e w'=>e=.returned (.bool (aZ t (u:Int)))/\Ext wx w'):=Hx (fun wx hx=>uR t AO co AL cl u wx (qe.o wx hx) HT.o.2);have qG:1<=csZ t b/\csZ t b<=65535:=HB.o.2.2.2;have qD:=Hx HB.o.2.2.1;clear qj PD HB;rw[xL]at qw;generalize csZ t b=ca at*;generalize hdN t b=hh at*;generalize tlN t b=tb at*;(go_upto_region 11 with fail);go_cut [58] (fun sl wx=>sl=.bool (!decide (tb=u/\(decide (i=0)=true\/aZ t (u:Int)=false)))/\Hid (Ext wr wx));(case first=>obtain⟨k0,k1,k2,k3⟩:=qg.o _ E2.o;have qf:w.heap.size<wc.heap.size:=yL lw E2.o.size;have qp:ba<wc.heap.size:=yL qh E2.o.size;have q0:=XW.cell _ _ _ qf k0;have q1:=XW.cell _ _ _ qf k1;have q2:=XW.cell _ _ _ qf k2;have q3:=XW.cell _ _ _ qp k3;clear k0 k1 k2 k3;by_cases qu:tb=u;{subst qu;by_cases hz:i=0;{(have z1:¬((i:Int)>0):=by omega);have z2:decide ((i:Int)>0)=false:=yP z1;have z3:decide (0<i)=false:=yP (by omega);have Z:=Hx hz;clear hz;refine bH (by kernel_rfl) (by kernel_rfl) ?_;(repeat (go_big_quiet_step ((go_at_call 26;exact Calls.ext_of (qa.o _ (E2.o.tr (XW.ext _)))))));refine wpQuiet_nil ?_;rintro _ ⟨xx,rfl⟩;go_wp2;go_meet;exact⟨by simp[Z.o],Hx (E2.o.tr xx.ext)⟩};have z1:((i:Int)>0):=(by omega);have z2:decide ((i:Int)>0)=true:=yO z1;have z4:0<i:=(by omega);have z5:decide (0<i)=true:=yO z4;have Z:=Hx hz;clear hz;refine bH (by kernel_rfl) (by kernel_rfl) ?_;(repeat (go_big_quiet_step ((first|(go_at_call 26;exact Calls.ext_of (qa.o _ (E2.o.tr (XW.ext _))))|(go_at_call 62;exact Calls.ext_of (qC.o _ (E2.o.tr (XW.ext _))))))));refine wpQuiet_nil ?_;rintro _ ⟨xx,rfl⟩;go_wp2;go_meet;refine⟨?_,Hx (E2.o.tr xx.ext)⟩;cases aZ t (tb:Int) <;> simp[Z.o]};have z1:((tb:Int)==(u:Int))=false:=yK.2 (by omega);have z2:¬((tb:Int)=(u:Int)):=(by omega);have z3:(tb==u)=false:=yK.2 qu;have z4:(tb !=u)=true:=bne_iff_ne.2 qu;have z5:((tb:Int) !=(u:Int))=true:=bne_iff_ne.2 z2;refine bH (by kernel_rfl) (by kernel_rfl) ?_;(repeat (go_big_quiet_step ((go_at_call 26;exact Calls.ext_of (qa.o _ (E2.o.tr (XW.ext _)))))));refine wpQuiet_nil ?_;rintro _ ⟨xx,rfl⟩;go_wp2;go_meet;exact⟨by rw[yP fun h=>qu h.1];rfl,Hx (E2.o.tr xx.ext)⟩);obtain⟨rfl,E3⟩:=hcut;by_cases qm:tb=u/\(decide (i=0)=true\/aZ t (u:Int)=false)
   ·have qA:=Hx (qw.o.trans (if_pos qm));rw[yO qm];clear qm qw;have qB:IntKind.i64.wrap ((c:Int)+ca)=(c:Int)+ca:=IntWalk.i64_in _ (by omega);(go_upto_region 13 with fail);go_cut [9] (fun sl wx=>sl=vI ((c:Int)+ca)/\Hid (Ext wr wx));(case first=>obtain⟨k0,k1,k2,k3⟩:=qg.o _ E3.o;have qf:w.heap.size<wc.heap.size:=yL lw E3.o.size;have qp:ba<wc.heap.size:=yL qh E3.o.size;have q0:=XW.cell _ _ _ qf k0;have q1:=XW.cell _ _ _ qf k1;have q2:=XW.cell _ _ _ qf k2;have q3:=XW.cell _ _ _ qp k3;clear k0 k1 k2 k3;refine bH (by kernel_rfl) (by kernel_rfl) ?_;(repeat (go_big_quiet_step ((go_at_call 115;exact Calls.ext_of (qo.o _ (E3.o.tr (XW.ext _)))))));refine wpQuiet_nil ?_;rintro _ ⟨xx,rfl⟩;go_wp2;go_meet;exact⟨rfl,Hx (E3.o.tr xx.ext)⟩);obtain⟨rfl,E4⟩:=hcut;obtain⟨k0,k1,k2,k3⟩:=qg.o _ E4.o;have qf:w.heap.size<wc.heap.size:=yL lw E4.o.size;have qp:ba<wc.heap.size:=yL qh E4.o.size;have q0:=XW.cell _ _ _ qf k0;have q1:=XW.cell _ _ _ qf k1;have q2:=XW.cell _ _ _ qf k2;have q3:=XW.cell _ _ _ qp k3;clear k0 k1 k2 k3 qB;(go_upto_region 14 with fail);refine bH (by kernel_rfl) (by kernel_rfl) ?_;repeat (go_big_quiet_step ((go_at_call 27;exact Calls.ext_of (qt.o _ (E4.o.tr (XW.ext _))))))
    refine wpQuiet_nil ?_;rintro _ ⟨xx,rfl⟩;have E5:=Hx (E4.o.tr xx.ext);have I9:=Hx (show dI t hh (decide (i+1=0)) (x.drop (i+1))=dI t s true x/\(hh:Int)<t.nodes/\Blk xx.val w.heap.size 25 #[vI t.nodes,.s AO t.over.length co,.s AL t.links.length cl]/\Ext w xx.val from
     ⟨by rw[show decide (i+1=0)=false from yP (by omega)];exact qA.o.symm,qD.o,qz.o _ E5.o,I.o.2.2.2.tr E5.o⟩)
    clear I;go_wp2;go_roundg (n-(i+1));(case measure=>omega);exact⟨i+1,hh,(c+ca.toNat),rfl,by omega,by go_num,rfl,by rw[kZv,Int.toNat_of_nonneg (by omega)],by omega,I9⟩
   have F:Hid (PhP w (dI t s true x) (.returned (.tuple #[vI 0,vI 0,vI 4])) wc):=Hx (by rw[qw.o,if_neg qm];exact⟨I.o.2.2.2.tr E3.o,4,by decide,rfl⟩);rw[yP qm];go_wp2;(go_ret3);exact F.o
  have F:Hid (PhP w (dI t s true x) (.returned (.tuple #[vI 0,vI 0,vI 2])) wc):=Hx (by rw[PD.o,if_neg qj];exact⟨I.o.2.2.2.tr E2.o,2,by decide,rfl⟩);rw[Bool.not_eq_true]at qj;rw[qj];go_wp2;(go_ret3);exact F.o
 obtain rfl:i=n:=(by omega);have qI:¬((i:Int)<(i:Int)):=(by omega);have qF:¬(i<i):=kZr i;have h1:=I.o.1;rw[kQf (by rw[HX.o.2];exact yX _)]at h1;have F:Hid (PhP w (dI t s true x) (.returned (.tuple #[vI (u:Int),vI (c:Int),vI 0])) wr):=Hx (by rw[<-h1];exact⟨I.o.2.2.2,c,rfl⟩);clear h1;go_wp2;(go_ret3);exact F.o
end Fo
namespace Fo
def frB(t:Tp):List Bool->LN->Bool
 |_,[]=>true
 |V,a::y=> !(V[hdN t a]?.getD false)&&frB t (V.set (hdN t a) true) y
theorem jzmu{t}{y:LN}{n a:Nat}(h:y[n]?=some a)(V:List Bool):frB t V (y.drop n)=(!(V[hdN t a]?.getD false)&&frB t (V.set (hdN t a) true) (y.drop (n+1))):=by
 obtain⟨h1,h2⟩:=yH.1 h;rw[kQ6 h1,h2];rfl
theorem jzcp{t}(hv:aA t=true):∀(y:LN) (V:List Bool) (u:Nat) (first:Bool) (e:Nat),PO t u first y e->llB t V u first (y.map fun a:Nat=>(a:Int))=if frB t V y=true then some e else none
 | [],V,u,first,e,h=>by
   have h:u=e:=h;subst h;rfl
 |a::y,V,u,first,e,h=>by
  obtain⟨p1,p2,p3⟩:=h;obtain⟨q1,q2⟩:=fK.1 p1;show(if llC t V u first (a:Int)then llB t (V.set (aJ t (a:Int).toNat).toNat true) (aJ t (a:Int).toNat).toNat false (y.map fun a:Nat=>(a:Int))else none)=_;rw[xL,jzcp hv y _ _ _ _ p3];show _=if(!(V[hdN t a]?.getD false)&&frB t (V.set (hdN t a) true) y)=true then some e else none
  cases hb:V[hdN t a]?.getD false
  ·rw[if_pos (show llC t V u first (a:Int)from⟨⟨by omega,by omega⟩,by rw[xL];exact q2,p2,by rw[xL];exact hb⟩)]
   rfl
  ·rw[if_neg (show¬llC t V u first (a:Int)from fun h=>by
    have h4:=h.2.2.2;rw[xL]at h4;have h4:V[hdN t a]?.getD false=false:=h4;rw[hb]at h4;cases h4)]
   rfl
theorem jzcq{t}(hv:aA t=true):∀(l:List Int) (V:List Bool) (u:Nat) (first:Bool),dI t u first l=none->llB t V u first l=none
 | [],_,_,_,h=>by cases h
 |a::l,V,u,first,h=>by
  show(if llC t V u first a then llB t (V.set (aJ t a.toNat).toNat true) (aJ t a.toNat).toNat false l else none)=none
  split
  ·rename_i hc
   obtain⟨h1,h2,h3,_⟩:=hc;have ha:arI t a=true:=by
    unfold arI;rw[vM,decide_eq_true_eq,decide_eq_true_eq];omega
   unfold dI at h;rw[if_pos ha,if_pos ⟨by rw[(eM hv (show a.toNat<2*t.links.length by omega)).1]at h2;omega,h3⟩]at h;exact jzcq hv l _ _ _ h
  rfl
theorem jzmv{t}(hv:aA t=true){y:LN}{s u d:Nat}(hs:(s:Int)<t.nodes)(hp:PO t s true y u):cI t (y.map fun a:Nat=>(a:Int)) (s:Int) (d:Int)=(decide (u=d)&&frB t ((List.replicate t.nodes.toNat false).set s true) y):=by
 unfold cI;rw[yO (show 0<=(s:Int)/\(s:Int)<t.nodes by omega),kZg,xL,jzcp hv _ _ _ _ _ hp];cases frB t ((List.replicate t.nodes.toNat false).set s true) y;{rw[if_neg (by decide),Bool.and_false]};rw[if_pos rfl,Bool.and_true];exact decide_eq_decide.2 ⟨fun h=>by omega,fun h=>by omega⟩
theorem jzcr{t}(hv:aA t=true){l:List Int}{s:Nat}{d:Int}(hp:dI t s true l=none):cI t l (s:Int) d=false:=by
 unfold cI;rw[xL,jzcq hv _ _ _ _ hp,Bool.and_false]
theorem jzcs{t}{d:Nat}:∀{y:LN} {u:Nat} {first:Bool} {b:Nat},PO t u first y d->y[y.length-1]?=some b->d=hdN t b
 | [],_,_,_,_,h=>by cases h
 | [a],_,_,b,h,hb=>by
   injection hb with hb
   subst hb;exact h.2.2.symm
 |a::c::y,_,_,b,h,hb=>by
  rw[kQo,Nat.add_sub_cancel,kQo,List.getElem?_cons_succ]at hb;exact jzcs (y:=c::y) h.2.2 (by rw[kQo,Nat.add_sub_cancel];exact hb)
theorem jzmw{t}(hv:aA t=true){l:List Int}{a:Int}(h0:l[0]?=some a)(ha:arI t a=true):rtB t l=match dI t (tlN t a.toNat) true l with
  |none=>false
  |some d=>cI t l (tlN t a.toNat:Int) (d:Int):=by
 (have hl:0<l.length:=(yH.1 h0).1;obtain⟨b,hb⟩:∃b,l[l.length-1]?=some b:=⟨_,yG (by omega)⟩;have qa:=ha;unfold arI at qa;rw[vM,decide_eq_true_eq,decide_eq_true_eq]at qa;rw[pB h0 hb,ha,kZg,(eM hv (show a.toNat<2*t.links.length by omega)).1];cases hp:dI t (tlN t a.toNat) true l with|none=>rw[jzcr hv hp,Bool.and_false]|some d=>simp only;obtain⟨y,rfl,hy⟩:=(pG hv _ _ _ _).1 hp;rw[xV,yW,Option.map_eq_some_iff]at hb;obtain⟨c,hc,rfl⟩:=hb;have qe:=pC hy c (yJ hc);rw[show arI t (c:Int)=true by unfold arI;rw[vM,decide_eq_true_eq,decide_eq_true_eq];omega,kZg,xL,(eM hv qe).2,jzcs hy hc])
theorem jzmx t AO(co:Nat)AL(cl:Nat)PX(n cx:Nat)(x:List Int)(s d:Nat)w(ht:aF w t AO co AL cl)(hv:aA t=true)(hs:(s:Int)<t.nodes)(hx:Rd w PX (aR x))(hn:x.length=n)(hxl:n<=1000):
  Calls Tryz.prog 61 #[.agg #[vI t.nodes,.s AO t.over.length co,.s AL t.links.length cl],zN,vI (s:Int),vI (d:Int),.s PX n cx] w fun e w'=>e=.returned (.bool (cI t x (s:Int) (d:Int)))/\Ext w w':=by
 obtain⟨N,qu,qJ⟩:∃N:Nat,t.nodes=(N:Int)/\N<=64:=by
  have h:=hv;unfold aA cX inB at h;simp at h;exact⟨t.nodes.toNat,by omega,by omega⟩
 have qa:(Value.agg #[vI t.nodes,.s AO t.over.length co,.s AL t.links.length cl])=.agg #[vI (N:Int),.s AO t.over.length co,.s AL t.links.length cl]:=(by rw[qu]);have qm:=Hx (fun wx (hx':Ext w wx)=>jzco t AO co AL cl s PX n cx x wx (ht.K hx') hv hs (hx.K hx') hn hxl);have HD:=Hx (show∀(a:Nat),a<2*t.links.length->∀wx,Ext w wx->Calls Tryz.prog 27 #[.agg #[vI t.nodes,.s AO t.over.length co,.s AL t.links.length cl],vI (a:Int)] wx fun e w'=>e=.returned (vI (hdN t a:Int))/\Ext wx w' from fun a ha wx hx'=>by
  have h:=mX t AO co AL cl a wx (ht.K hx') hv ha;rw[(eM hv ha).2]at h;exact h)
 have DN:=Hx (fun(a:Nat) wx=>jzd9 none 0 [] a wx (Rd.nil _ _));have GK:=Hx (Gok.of hv);have HX:=Hx (kQa hx hn);have LB:=Hx (show(∀y u,x=y.map (fun a:Nat=>(a:Int))->PO t s true y u->cI t x (s:Int) (d:Int)=(decide (u=d)&&frB t ((List.replicate N false).set s true) y))/\(dI t s true x=none->cI t x (s:Int) (d:Int)=false)from
  ⟨fun y u h1 h2=>by
   rw[h1,jzmv hv hs h2];rw[show t.nodes.toNat=N by omega],jzcr hv⟩)
 have PI:=Hx (pG hv x s true);have PM:=Hx (show∀y u,PO t s true y u->∀a∈y,a<2*t.links.length/\hdN t a<N from fun y u h a ha=>by
  have h1:=pC h a ha;have h2:=GK.o.hd a h1;exact⟨h1,by omega⟩)
 have qC:s<N:=(by omega);have qI:=dC hv;rw[qa]at qm HD⊢;obtain⟨qn,e0⟩:=bF w #[vI (N:Int),.s AO t.over.length co,.s AL t.links.length cl] 25;obtain⟨⟨i0,i1,i2⟩,_⟩:=qn.t3;have E0:=Hx (kQa qn e0);clear ht hv hs hx hn qa qu qn e0 GK
 go_enter Tryz.func61,Tryz.ntmps61
 go_wp2_with fail
 refine(qm.o _ E0.o.2).mono ?_;rintro e w1 ⟨x1,HP⟩;have E1:=Hx (kQa (E0.o.1.K x1) (E0.o.2.tr x1));clear x1 i0 i1 i2 E0 qm;obtain⟨⟨i0,i1,i2⟩,_⟩:=E1.o.1.t3;cases hR:dI t s true x with
 |none=>
  rw[hR]at HP;obtain⟨k,hk,rfl⟩:=HP;have F:Hid (cI t x (s:Int) (d:Int)=false/\Ext w w1):=Hx (⟨LB.o.2 hR,E1.o.2⟩);have k1:(k==0)=false:=yK.2 hk;have k2:¬k=0:=hk;have k3:(k !=0)=true:=bne_iff_ne.2 hk;clear hR LB PI HX;go_wp2;go_ret;exact⟨by rw[F.o.1];rfl,F.o.2⟩
 |some u=>
  rw[hR]at HP;obtain⟨kc,rfl⟩:=HP;obtain⟨y,qi,hy⟩:=(PI.o u).1 hR;have qt:y.length=n:=(by have:=HX.o.2;rw[qi,xV]at this;exact this);have qf:=Hx (LB.o.1 y u qi hy);have qx:=Hx (PM.o y u hy);have qk:=Hx (kQa qi qt);clear hR LB PI PM qi qt hy;by_cases qh:u=d
  ·subst qh
   have sN:(s:Int)<(N:Int):=(by omega);have s0:(0:Int)<=(s:Int):=(by omega);have qE:=run_make_row' (P:=Tryz.prog) 22 4 (.bool false) 1 Tryz.underlying22 Tryz.info4 rfl .i64 .i64 N (by omega) (by omega);have qF:(madeCells #[.bool false] N)[s]?=some (.bool false):=by
    rw[<-kQw,toList_madeCells_one];simp[qC]
   have qg:=Hx (show(madeCells #[.bool false] N).setIfInBounds s (.bool true)=(aG ((List.replicate N false).set s true)).toArray by
    apply Array.ext';rw[Array.toList_setIfInBounds,toList_madeCells_one];simp[aG,List.map_set])
   go_upto_region 6 with fail
   have B3:=Hx (show Blk (w1.alloc (.cells ((madeCells #[.bool false] N).setIfInBounds s (.bool true)) 4)) w1.heap.size 4 (aG ((List.replicate N false).set s true)).toArray from by
    rw[qg.o];exact eN w1 _ _)
   have X3:Hid (Blk (w1.alloc (.cells ((madeCells #[.bool false] N).setIfInBounds s (.bool true)) 4)) w.heap.size 25 #[vI (N:Int),.s AO t.over.length co,.s AL t.links.length cl]/\Ext w (w1.alloc (.cells ((madeCells #[.bool false] N).setIfInBounds s (.bool true)) 4))):=Hx (⟨E1.o.1.K ((eR w1).alloc _),E1.o.2.alloc _⟩);have hg:w.heap.size<w1.heap.size:=E1.o.1.lt;clear qE qF i0 i1 i2 E1 qg;generalize w1.alloc (.cells ((madeCells #[.bool false] N).setIfInBounds s (.bool true)) 4)=W3 at*;generalize w1.heap.size=g at*;have qG:((List.replicate N false).set s true).length=N:=(by simp);have qf:Hid (cI t x (s:Int) (u:Int)=frB t ((List.replicate N false).set s true) y):=Hx (by rw[qf.o];simp);generalize (List.replicate N false).set s true=V0 at*;have I0:Hid (Blk W3 g 4 (aG V0).toArray/\FrS (fun b=>b=g) W3 W3/\cI t x (s:Int) (u:Int)=frB t V0 (y.drop 0)):=Hx (⟨B3.o,FrS.refl _ _,qf.o⟩);clear B3 qf;go_wp2
   go_loopg [15,16] n (fun q it _ wx=>∃(i:Nat) (V:List Bool),n-i=q/\i<=n/\it=vI (i:Int)/\V.length=N/\Hid (Blk wx g 4 (aG V).toArray/\FrS (fun b=>b=g) W3 wx/\cI t x (s:Int) (u:Int)=frB t V (y.drop i)))
   case atStart=>exact⟨0,V0,rfl,yZ _,rfl,qG,I0⟩
   obtain⟨i,V,rfl,hi,rfl,qo,J⟩:=hrel;clear I0;have XR:Hid (Ext w wr):=Hx (J.o.2.1.ext X3.o.2 fun b hb=>by omega);by_cases qD:i<n
   ·obtain⟨a,ha⟩:∃a,y[i]?=some a:=⟨_,yG (by rw[qk.o.2];exact qD)⟩
    have qw:x[i]?=some (a:Int):=(by rw[qk.o.1,yW,ha];rfl);obtain⟨b9,o9,rfl,qp,ca⟩:=(HX.o.1.K XR.o).iint qw;obtain⟨qA,qH⟩:=qx.o a (yJ ha);obtain⟨bv,qj⟩:∃b,V[hdN t a]?=some b:=⟨_,yG (by rw[qo];exact qH)⟩;have FB:=Hx (show cI t x (s:Int) (u:Int)=(!bv&&frB t (V.set (hdN t a) true) (y.drop (i+1)))from by
     rw[J.o.2.2,jzmu ha,qj,kQ1])
    have qB:=Hx qj;have nN:(i:Int)<(n:Int):=(by omega);have n0:(0:Int)<=(i:Int):=(by omega);have qL:(hdN t a:Int)<(N:Int):=(by omega);have qM:(0:Int)<=(hdN t a:Int):=(by omega);have qe:=Hx (show∀wx,Ext wr wx->(wx.cell? (aD w.heap.size 0)=some (vI (N:Int))/\wx.cell? (aD w.heap.size 1)=some (.s AO t.over.length co)/\wx.cell? (aD w.heap.size 2)=some (.s AL t.links.length cl))/\wx.cell? (aD b9 (o9+i))=some (vI (a:Int))from fun wx hx=>by
     obtain⟨k,_⟩:=((J.o.2.1.blk X3.o.1 (by omega)).K hx).t3;exact⟨k,(hx.cell (p:=(aD b9 (o9+i))) qp).trans ca⟩)
    have qy:=Hx (HD.o a qA);have qz:Hid (∀wx,Calls Tryz.prog 116 #[zN,vI (a:Int)] wx fun e w'=>e=.returned (.bool false)/\wx=w'):=Hx (fun wx=>DN.o a wx);have lw:w.heap.size<wr.heap.size:=(J.o.2.1.blk X3.o.1 (by omega)).lt;clear ha ca qw qj;generalize hdN t a=h at*;obtain⟨⟨k0,k1,k2⟩,k3⟩:=qe.o _ (eR wr);have q0:=XW.cell _ _ _ lw k0;have q1:=XW.cell _ _ _ lw k1;have q2:=XW.cell _ _ _ lw k2;have q3:=XW.cell _ _ _ qp k3;clear k0 k1 k2 k3
    go_upto_region 9 with fail
    refine bH (by kernel_rfl) (by kernel_rfl) ?_
    repeat (go_big_quiet_step ((go_at_call 27;exact Calls.ext_of (qy.o _ (XR.o.tr (XW.ext _))))))
    refine wpQuiet_nil ?_;rintro _ ⟨xx,rfl⟩;have E8:=Hx xx.ext;clear q0 q1 q2 q3;generalize xx.val=w8 at*;clear xx;have B8:=J.o.1.K E8.o;have vh:=(B8.cell h).trans (mJ V h _ qB.o);obtain⟨_,ca⟩:=qe.o _ E8.o;cases bv with
    |true=>
     have F:Hid (cI t x (s:Int) (u:Int)=false/\Ext w w8):=Hx (⟨FB.o,XR.o.tr E8.o⟩);clear B8 FB;go_wp2;go_ret;exact⟨by rw[F.o.1];rfl,F.o.2⟩
    |false=>
     have vf:=B8.frozen h;have B9:=B8.sT h (.bool true);rw[tL]at B9;have J9:=Hx (show Blk (w8.setCell (aD g h) (.bool true)) g 4 (aG (V.set h true)).toArray/\FrS (fun b=>b=g) W3 (w8.setCell (aD g h) (.bool true))/\cI t x (s:Int) (u:Int)=frB t (V.set h true) (y.drop (i+1))from
      ⟨B9,(J.o.2.1.tr (eE (S:=fun b=>b=g) E8.o) fun b hb=>.inl hb).tr (eG (S:=fun b=>b=g) (bI w8 g h _) fun g e=>by injection e with e;exact e.symm) fun b hb=>.inl hb,FB.o⟩)
     clear B8 B9 J qe FB
     go_wp2_with fail
     refine(qz.o _).mono ?_;rintro e w9 ⟨rfl,rfl⟩;go_wp2
     go_roundg (n-(i+1))
     case measure=>omega
     exact⟨i+1,V.set h true,rfl,by omega,by go_num,by rw[yV];exact qo,J9⟩
   obtain rfl:i=n:=(by omega);have F:=Hx (show cI t x (s:Int) (u:Int)=true/\Ext w wr from⟨by
    rw[J.o.2.2,kQf (by rw[qk.o.2];exact yX _)];rfl,XR.o⟩)
   have qK:¬((i:Int)<(i:Int)):=(by omega);clear J;go_wp2;go_ret;exact⟨by rw[F.o.1];rfl,F.o.2⟩
  have F:Hid (cI t x (s:Int) (d:Int)=false/\Ext w w1):=Hx (⟨by rw[qf.o,yP qh];rfl,E1.o.2⟩);have z1:((u:Int)==(d:Int))=false:=yK.2 (by omega);have z2:¬((u:Int)=(d:Int)):=(by omega);have z3:(u==d)=false:=yK.2 qh;have z4:(u !=d)=true:=bne_iff_ne.2 qh;have z5:((u:Int) !=(d:Int))=true:=bne_iff_ne.2 z2;clear qf;go_wp2;go_ret;exact⟨by rw[F.o.1];rfl,F.o.2⟩
theorem jzmy t AO(co:Nat)AL(cl:Nat)A(m c:Nat)(l:List Int)w(ht:aF w t AO co AL cl)(hv:aA t=true)(hA:Rd w A (aR l))(hm:l.length=m)(hb:m<=1000):
  Calls Tryz.prog 22 #[.agg #[vI t.nodes,.s AO t.over.length co,.s AL t.links.length cl],.s A m c] w fun e w'=>e=.returned (.bool (rtB t l))/\Ext w w':=by
 have qy:=dC hv;have g:=Gok.of hv;have HV:=Hx (kQa hv g);have qj:Hid (∀wx,Ext w wx->Calls Tryz.prog 29 #[.agg #[vI t.nodes,.s AO t.over.length co,.s AL t.links.length cl]] wx fun e w'=>e=.returned (vI (2*(t.links.length:Int)))/\Ext wx w'):=Hx (fun wx hx=>fQ t AO co AL cl wx (ht.K hx) hv);have TL:Hid (∀(a:Nat),a<2*t.links.length->∀wx,Ext w wx->Calls Tryz.prog 26 #[.agg #[vI t.nodes,.s AO t.over.length co,.s AL t.links.length cl],vI (a:Int)] wx fun e w'=>e=.returned (vI (tlN t a:Int))/\Ext wx w'):=Hx (fun a ha wx hx'=>by have h:=lM t AO co AL cl a wx (ht.K hx') hv ha;rw[(eM hv ha).1]at h;exact h);have qp:=Hx (fun(s:Nat) (hs:(s:Int)<t.nodes) wx (hx':Ext w wx)=>jzco t AO co AL cl s A m c l wx (ht.K hx') hv hs (hA.K hx') hm hb);have qw:=Hx (fun(s d:Nat) (hs:(s:Int)<t.nodes) wx (hx':Ext w wx)=>jzmx t AO co AL cl A m c l s d wx (ht.K hx') hv hs (hA.K hx') hm hb);have RE:=Hx (fun(a:Int) (h0:l[0]?=some a) (ha:arI t a=true)=>jzmw hv h0 ha);have HA:=Hx (kQa hA hm);have h3:=ht.ll;have h4:=ht.cl;obtain⟨qh,e0⟩:=bF w #[vI t.nodes,.s AO t.over.length co,.s AL t.links.length cl] 25;have E0:=Hx (kQa qh e0);have lw:=qh.lt;clear ht hv g hA hm qh e0;go_enter Tryz.func22,Tryz.ntmps22;(go_upto_region 1 with fail);(generalize w.alloc (.cells #[vI t.nodes,.s AO t.over.length co,.s AL t.links.length cl] 25)=w0 at*;obtain⟨⟨k0,k1,k2⟩,_⟩:=E0.o.1.t3;have q0:=XW.cell _ _ _ lw k0;have q1:=XW.cell _ _ _ lw k1;have q2:=XW.cell _ _ _ lw k2;clear k0 k1 k2;cases l with|nil=>obtain rfl:m=0:=HA.o.2.symm;refine bH (by kernel_rfl) (by kernel_rfl) ?_;(repeat (go_big_quiet_step ((go_at_call 29;exact Calls.ext_of (qj.o _ (E0.o.2.tr (XW.ext _)))))));refine wpQuiet_nil ?_;rintro _ ⟨xx,rfl⟩;have F:=Hx (E0.o.2.tr xx.ext);go_wp2;go_ret;exact⟨rfl,F.o⟩|cons a l=>obtain⟨b9,o9,rfl,qi,ca⟩:=(HA.o.1.K E0.o.2).iint (k:=0) (x:=a) rfl;rw[kQ3]at ca;have CA:=Hx (kQa qi ca);have q3:=XW.cell _ _ _ qi ca;have qx:0<m:=(by have:=HA.o.2;rw[kQo]at this;omega);have m0:(0:Int)<(m:Int):=(by omega);have m1:((m:Int)==0)=false:=yK.2 (by omega);have m2:(m==0)=false:=yK.2 (by omega);have m3:¬m=0:=(by omega);clear ca qi;go_cut [25] (fun sl wx=>sl=.bool (!arI t a)/\Hid (Ext w0 wx));(case first=>by_cases qg:a<0;{have z1:decide (a<0)=true:=yO qg;have z2:arI t a=false:=(by unfold arI;rw[yP (by omega)];rfl);refine bH (by kernel_rfl) (by kernel_rfl) ?_;(repeat (go_big_quiet_step ((go_at_call 29;exact Calls.ext_of (qj.o _ (E0.o.2.tr (XW.ext _)))))));refine wpQuiet_nil ?_;rintro _ ⟨xx,rfl⟩;go_wp2;go_meet;exact⟨by rw[z2];rfl,Hx xx.ext⟩};have z1:decide (a<0)=false:=yP qg;have z2:arI t a=!decide (a≥2*(t.links.length:Int)):=(by unfold arI;rw[yO (show 0<=a by omega),kZg];by_cases h:a<2*(t.links.length:Int);{rw[yO h,yP (by omega)];rfl};rw[yP h,yO (by omega)];rfl);refine bH (by kernel_rfl) (by kernel_rfl) ?_;(repeat (go_big_quiet_step ((go_at_call 29;exact Calls.ext_of (qj.o _ (E0.o.2.tr (XW.ext _)))))));refine wpQuiet_nil ?_;rintro _ ⟨xx,rfl⟩;go_wp2;go_meet;exact⟨by rw[z2];simp,Hx xx.ext⟩);obtain⟨rfl,E2⟩:=hcut;clear q0 q1 q2 q3 m1;by_cases qa:arI t a=true;{have qf:=Hx (RE.o a rfl qa);have qe:=qa;unfold arI at qe;rw[vM,decide_eq_true_eq,decide_eq_true_eq]at qe;obtain⟨b,rfl⟩:=kQj qe.1;have qn:b<2*t.links.length:=(by omega);have qm:(tlN t b:Int)<t.nodes:=(by have:=HV.o.2.tl b qn;omega);have qo:=Hx (TL.o b qn);rw[xL]at qf;rw[qa];generalize tlN t b=s at*;have ca:=aH E2.o CA.o.2;obtain⟨⟨k0,k1,k2⟩,_⟩:=(E0.o.1.K E2.o).t3;have qk:w.heap.size<wc.heap.size:=yL lw E2.o.size;have qu:b9<wc.heap.size:=yL CA.o.1 E2.o.size;have q0:=XW.cell _ _ _ qk k0;have q1:=XW.cell _ _ _ qk k1;have q2:=XW.cell _ _ _ qk k2;have q3:=XW.cell _ _ _ qu ca;clear k0 k1 k2 ca;(go_upto_region 3 with fail);refine bH (by kernel_rfl) (by kernel_rfl) ?_;(repeat (go_big_quiet_step ((go_at_call 26;exact Calls.ext_of (qo.o _ (E0.o.2.tr (E2.o.tr (XW.ext _))))))));refine wpQuiet_nil ?_;rintro _ ⟨xx,rfl⟩;have E3:=Hx (E2.o.tr xx.ext);clear q0 q1 q2 q3;generalize xx.val=w3 at*;obtain⟨⟨i0,i1,i2⟩,_⟩:=(E0.o.1.K E3.o).t3;(go_wp2_with fail);(refine(qp.o s qm _ (E0.o.2.tr E3.o)).mono ?_;rintro e w4 ⟨x4,HP⟩;have E4:=Hx (E3.o.tr x4);clear x4 i0 i1 i2;obtain⟨⟨i0,i1,i2⟩,_⟩:=(E0.o.1.K E4.o).t3;cases hR:dI t s true ((b:Int)::l)with|none=>rw[hR]at HP;rw[hR]at qf;obtain⟨k,hk,rfl⟩:=HP;have k1:(k==0)=false:=yK.2 hk;have k2:¬k=0:=hk;have k3:(k !=0)=true:=bne_iff_ne.2 hk;have F:Hid (rtB t ((b:Int)::l)=false/\Ext w w4):=Hx (⟨qf.o,E0.o.2.tr E4.o⟩);go_wp2;go_ret;exact⟨by rw[F.o.1];rfl,F.o.2⟩|some d=>rw[hR]at HP;rw[hR]at qf;obtain⟨kc,rfl⟩:=HP;have qt:Hid (rtB t ((b:Int)::l)=cI t ((b:Int)::l) (s:Int) (d:Int)):=Hx (qf.o);clear hR qf;(go_wp2_with fail);refine(qw.o s d qm _ (E0.o.2.tr E4.o)).mono ?_;rintro e w5 ⟨rfl,x5⟩;have F:=Hx (E0.o.2.tr (E4.o.tr x5));clear i0 i1 i2;go_wp2;go_ret;exact⟨by rw[qt.o];rfl,F.o⟩)};have F:Hid (rtB t (a::l)=false/\Ext w wc):=Hx (⟨by obtain⟨b,hb⟩:∃b,(a::l)[(a::l).length-1]?=some b:=⟨_,yG (by simp)⟩;rw[pB (show(a::l)[0]?=some a from rfl) hb];rw[Bool.not_eq_true]at qa;rw[qa];rfl,E0.o.2.tr E2.o⟩);rw[Bool.not_eq_true]at qa;rw[qa];go_wp2;go_ret;exact⟨by rw[F.o.1];rfl,F.o.2⟩)
end Fo
end Go.Proofs.YtllmekijiohgmaaGreatDoor
