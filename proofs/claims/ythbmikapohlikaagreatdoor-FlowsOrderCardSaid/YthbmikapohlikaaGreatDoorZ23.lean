/- Part 23 of 24 of what the Flows claims share (the white space is struck, the texts are joined). -/
import Derived.Test.YthbmikapohlikaaGreatDoorZ22
set_option linter.unusedVariables false
set_option linter.unusedSimpArgs false
set_option maxRecDepth 100000
set_option maxHeartbeats 8000000
namespace Go.Proofs.YthbmikapohlikaaGreatDoor
open Go.RowKit
structure AdI(W3 wx:World)(t:Tp)(l:List Dm)(Z:List PthI)(mb g P n:Nat)(ks:List (List UInt8))(sm:List Rat):Prop where
 map:MpS wx mb n ks
 qb:QB wx g sm
 fr:FrS (fun b=>b=mb\/b=g) W3 wx
 eq:rtB t l [] (List.replicate l.length 0) Z=rtB t l ks sm (Z.drop n)
 len:sm.length=l.length
 sz:∀q∈sm,SzQ q (1+n*(P+1))
theorem AdI.keep{W3 wx wy:World}{t:Tp}{l:List Dm}{Z:List PthI}{mb g P n:Nat}{ks:List (List UInt8)}{sm:List Rat}(h:AdI W3 wx t l Z mb g P n ks sm)(hx:Ext wx wy):AdI W3 wy t l Z mb g P n ks sm:=
 ⟨h.map.keep hx,h.qb.keep hx,h.fr.tr (FrS.of_ext (S:=fun b=>b=mb\/b=g) hx) fun b hb=>.inl hb,h.eq,h.len,h.sz⟩
theorem wordSizeI(l:List UInt8):(⟨l.toArray⟩:ByteArray).size=l.length:=by show l.toArray.size=_;simp
theorem jzcz(t:Tp)(AO:Option Addr)(co:Nat)(AL:Option Addr)(cl:Nat)(l:List Dm)(AD:Option Addr)(cd:Nat)(v:Rat)(nv:Bool)(V1:Option Addr)(nv1 cv1:Nat)(V2:Option Addr)(nv2 cv2:Nat)(Z:List PthI)(PA:Option Addr)(np cp:Nat)(hnp:Z.length=np)(PR:Option Addr)(nr cr P:Nat)(w:World)(ht:TopR w t AO co AL cl)(hd:DmR w l AD cd)(hlD:l.length<=64)(ve:RatR w nv V1 nv1 cv1 V2 nv2 cv2 v)(vl:SzQ v 1000000)(hp:PLr w PA Z)
  (hnl:np<=1000) (vk:∀p∈Z,SzQ p.flow P) (hP1:1<=P) (q8:∀p∈Z,p.arcs.length<=1000) (qF:∀p∈Z,i64 p.dem/\∀a∈p.arcs,i64 a) (hPb:P<=10000) (hK:1+arcN Z*(P+1)<=50000000) (hta:Tab w):
  Calls Tryz.prog 26 #[.agg #[.int .i64 t.nodes,.slice AO t.over.length co,.slice AL t.links.length cl],.slice AD l.length cd,.agg #[.bool nv,.slice V1 nv1 cv1,.slice V2 nv2 cv2,.slice PA np cp,.slice PR nr cr]] w fun e w'=>e=.returned (.bool (admP t l v Z))/\Ext w w':=by
 have HT:=Hx (And.intro ht hd);have HZ:=Hx (And.intro hp (And.intro vk (And.intro q8 qF)));have HV:=Hx (And.intro ve vl);have vu:=Hx hta;have vY:=hd.len;have v1:=ht.ll;have v2:=ht.cl;obtain⟨qY,q2,e0⟩:=boxes2 w #[.int .i64 t.nodes,.slice AO t.over.length co,.slice AL t.links.length cl] 25 #[.bool nv,.slice V1 nv1 cv1,.slice V2 nv2 cv2,.slice PA np cp,.slice PR nr cr] 39;obtain⟨⟨i0,i1,i2⟩,_⟩:=qY.three;have E0:=Hx (And.intro qY (And.intro q2 e0));clear ht hd ve vl hp vk q8 qF hta qY q2 e0
 go_enter Tryz.func26,Tryz.ntmps26
 go_wp2_with fail
 refine(jzf5 t AO co AL cl l AD cd _ (HT.out.1.keep E0.out.2.2) (HT.out.2.keep E0.out.2.2)).mono ?_;rintro e w1 ⟨rfl,qQ⟩;have E1:=Hx (show Blk w1 w.heap.size 25 #[.int .i64 t.nodes,.slice AO t.over.length co,.slice AL t.links.length cl]/\Blk w1 (w.heap.size+1) 39 #[.bool nv,.slice V1 nv1 cv1,.slice V2 nv2 cv2,.slice PA np cp,.slice PR nr cr]/\Ext w w1 from⟨E0.out.1.keep qQ,E0.out.2.1.keep qQ,E0.out.2.2.tr qQ⟩);clear qQ i0 i1 i2 E0;cases hf:fitP t l
 ·have qh:=Hx (show admP t l v Z=false by unfold admP;rw [hf];rfl)
  go_wp2;go_ret;rw [qh.out];exact⟨rfl,E1.out.2.2⟩
 ·have qn:=Hx ((jza0 hlD).1 hf)
  have HR:=Hx (show admP t l v Z=match rtB t l [] (List.replicate l.length 0) Z with
   |none=>false
   |some sm=>sumOk l v sm l.length&&loadOk t (loadsP t Z).1 (loadsP t Z).1.length by unfold admP;rw [hf];rfl)
  clear hf;have vO:=jzaa l.length (by omega);have vL:∀W:World,(Instr.makeMap 97 none).run Tryz.prog W=.ok (.map (some W.heap.size)) (W.alloc (.map #[] 0)):=fun W=>rfl;have c3:w1.cell? ⟨w.heap.size+1,3,none⟩=some (.slice PA np cp):=E1.out.2.1.cell 3
  go_upto_region 5 with fail
  have q3:(w1.alloc (.map #[] 0)).heap.size=w1.heap.size+1:=(by simp);have M3:=Hx (show MpS ((w1.alloc (.map #[] 0)).alloc (.cells (madeCells #[.bool false,.slice none 0 0,.slice none 0 0] (l.length*3)) 35)) w1.heap.size 0 []from(MpS.made w1).keep ((Ext.refl _).alloc _));have Q3:=Hx (show QB ((w1.alloc (.map #[] 0)).alloc (.cells (madeCells #[.bool false,.slice none 0 0,.slice none 0 0] (l.length*3)) 35)) (w1.heap.size+1) (List.replicate l.length 0)from by
   have:=QB.made (w1.alloc (.map #[] 0)) l.length;rw [q3]at this;exact this)
  have X3:=Hx (show Ext w1 ((w1.alloc (.map #[] 0)).alloc (.cells (madeCells #[.bool false,.slice none 0 0,.slice none 0 0] (l.length*3)) 35))from((Ext.refl w1).alloc _).alloc _);have vZ:w.heap.size+1<w1.heap.size:=E1.out.2.1.lt;clear vL vO q3 c3;generalize (w1.alloc (.map #[] 0)).alloc (.cells (madeCells #[.bool false,.slice none 0 0,.slice none 0 0] (l.length*3)) 35)=W3 at*;generalize hmb:w1.heap.size=mb at*;have E3:=Hx (show Blk W3 w.heap.size 25 #[.int .i64 t.nodes,.slice AO t.over.length co,.slice AL t.links.length cl]/\Blk W3 (w.heap.size+1) 39 #[.bool nv,.slice V1 nv1 cv1,.slice V2 nv2 cv2,.slice PA np cp,.slice PR nr cr]/\Ext w W3 from⟨E1.out.1.keep X3.out,E1.out.2.1.keep X3.out,E1.out.2.2.tr X3.out⟩);have I0:=Hx (show AdI W3 W3 t l Z mb (mb+1) P 0 [] (List.replicate l.length 0)from⟨M3.out,Q3.out,FrS.refl _ _,rfl,xC,fun q hq=>by rw [uF hq];exact SzQ.zero.mono (by omega)⟩);have c3:W3.cell? ⟨w.heap.size+1,3,none⟩=some (.slice PA np cp):=E3.out.2.1.cell 3;clear M3 Q3 E1 X3;go_wp2;clear c3
  go_loopg [10,11,29] np (fun q _ _ it wx=>∃(n:Nat) (ks:List (List UInt8)) (sm:List Rat),np-n=q/\n<=np/\it=.int .i64 (n:Int)/\Hid (AdI W3 wx t l Z mb (mb+1) P n ks sm))
  case atStart=>exact⟨0,[],_,rfl,yZ _,rfl,I0⟩
  case round=>
   obtain⟨n,ks,sm,rfl,hn,rfl,I⟩:=hrel;clear I0;have XW:=Hx (show Ext w wr from I.out.fr.ext E3.out.2.2 fun b hb=>by omega);have vH:=Hx (show∀wx,Ext wr wx->Blk wx w.heap.size 25 #[.int .i64 t.nodes,.slice AO t.over.length co,.slice AL t.links.length cl]from fun wx hx=>(I.out.fr.blk E3.out.1 (by omega)).keep hx);by_cases vI:n<np
   ·obtain⟨p,hp⟩:∃p,Z[n]?=some p:=⟨_,yG (by omega)⟩
    obtain⟨b,o,AA,ca,neg,A1,n1,c1,A2,n2,c2,rfl,hb,⟨a0,a1,a2,a3,a4⟩,vx,qH,vh⟩:=PLr.at5 HZ.out.1 hp;have a0:=cellK XW.out a0;have a1:=cellK XW.out a1;have a2:=cellK XW.out a2;have a3:=cellK XW.out a3;have a4:=cellK XW.out a4;have hb:b<wr.heap.size:=yL hb XW.out.size;have HP:=Hx hp;have qT:=yJ hp;have vU:p.arcs.length<=1000:=HZ.out.2.2.1 p qT;have qy:=Hx qT;have nN:(n:Int)<(np:Int):=(by omega);have n0:(0:Int)<=(n:Int):=(by omega);have RA:=Hx (And.intro qH vh);have X8:=Hx (show Ext wr (wr.alloc (.cells #[.int .i64 p.dem,.slice AA p.arcs.length ca,.bool neg,.slice A1 n1 c1,.slice A2 n2 c2] 70))from(Ext.refl wr).alloc _);have B8:=Hx (Blk.new wr 70 #[.int .i64 p.dem,.slice AA p.arcs.length ca,.bool neg,.slice A1 n1 c1,.slice A2 n2 c2]);have NX:=Hx (rtB_drop (t:=t) (l:=l) hp ks sm);clear hp qH vh qT
    go_upto_region 8 with fail
    clear a0 a1 a2 a3 a4;generalize wr.alloc (.cells #[.int .i64 p.dem,.slice AA p.arcs.length ca,.bool neg,.slice A1 n1 c1,.slice A2 n2 c2] 70)=W8 at*;generalize hbd:wr.heap.size=bd at*;have qA:=Hx (show Ext w W8 from XW.out.tr X8.out);have I8:=Hx (I.out.keep X8.out);have qD:=Hx (show∀wx,Ext W8 wx->Calls Tryz.prog 65 #[.agg #[.int .i64 p.dem,.slice AA p.arcs.length ca,.bool neg,.slice A1 n1 c1,.slice A2 n2 c2]] wx fun e w'=>e=.returned (.string ⟨(nameI p).toArray⟩)/\Ext wx w' from fun wx hx=>
     name_ok p.dem p.arcs AA p.arcs.length ca rfl neg A1 n1 c1 A2 n2 c2 wx (vu.out.keep (qA.out.tr hx)) (RA.out.1.keep (qA.out.tr hx)) (by omega) (HZ.out.2.2.2 p qy.out).1 (HZ.out.2.2.2 p qy.out).2)
    have q4:=Hx (show(⟨(nameI p).toArray⟩:ByteArray).size<=maxLen from by
     rw [wordSizeI];have h1:=jze5 p.dem p.arcs (HZ.out.2.2.2 p qy.out).1 (HZ.out.2.2.2 p qy.out).2;have h2:(nameI p).length<=20+21*p.arcs.length:=h1;unfold maxLen;omega)
    have LK:=Hx (show∀wx,Ext W8 wx->(Instr.lookup 97 (.map (some mb)) (.string ⟨(nameI p).toArray⟩) false).run Tryz.prog wx=.ok (.bool (decide (nameI p∈ks))) wx from fun wx hx=>(I8.out.map.keep hx).look ⟨(nameI p).toArray⟩ q4.out);have C8:=Hx (show∀wx,Ext W8 wx->wx.cell? ⟨bd,0,none⟩=some (.int .i64 p.dem)/\wx.cell? ⟨bd,1,none⟩=some (.slice AA p.arcs.length ca)/\wx.cell? ⟨bd,2,none⟩=some (.bool neg)/\wx.cell? ⟨bd,3,none⟩=some (.slice A1 n1 c1)/\wx.cell? ⟨bd,4,none⟩=some (.slice A2 n2 c2)from fun wx hx=>⟨(B8.out.keep hx).cell 0,(B8.out.keep hx).cell 1,(B8.out.keep hx).cell 2,(B8.out.keep hx).cell 3,(B8.out.keep hx).cell 4⟩);obtain⟨b0,b1,b2,b3,b4⟩:=C8.out _ (Ext.refl W8)
    go_cut [54] (fun s wx=>s=.bool (!decide (rtA l ks p))/\Ext W8 wx)
    case first=>
     by_cases h1:p.dem<0
     ·have FA:=Hx (yP (fun h:rtA l ks p=>by have:=h.1.1;omega))
      have v0:decide (p.dem<0)=true:=yO h1;go_wp2;go_meet;rw [FA.out];exact⟨rfl,Ext.refl _⟩
     ·by_cases h2:(l.length:Int)<=p.dem
      ·have FA:=Hx (yP (fun h:rtA l ks p=>by have:=h.1.2;omega))
       go_wp2;go_meet;rw [FA.out];exact⟨rfl,Ext.refl _⟩
      ·have vw:=Hx (show 0<=p.dem/\p.dem<(l.length:Int)from⟨by omega,by omega⟩)
       go_wp2_with fail
       refine(qD.out _ (Ext.refl _)).mono ?_;rintro e w4 ⟨rfl,x4⟩;have X4:=Hx x4;obtain⟨b0,b1,b2,b3,b4⟩:=C8.out _ x4;clear x4;by_cases h3:nameI p∈ks
       ·have qX:decide (nameI p∈ks)=true:=yO h3
        have FA:=Hx (yP (fun h:rtA l ks p=>h.2.1 h3));have q0:=LK.out _ X4.out;rw [qX]at q0;go_wp2;go_meet;rw [FA.out];exact⟨rfl,X4.out⟩
       ·have qX:decide (nameI p∈ks)=false:=yP h3
        have q0:=LK.out _ X4.out;rw [qX]at q0
        go_wp2_with fail
        refine(jzz neg A1 n1 c1 A2 n2 c2 p.flow _ (RA.out.2.keep (qA.out.tr X4.out))).mono ?_;rintro e w5 ⟨rfl,x5⟩;have X5:=Hx (X4.out.tr x5);clear x5;by_cases h5:0<p.flow
        ·have h6:=(jzl5 p.flow).2 h5
         have FA:=Hx (yO (show rtA l ks p from⟨vw.out,h3,h5⟩));have h7:decide (sgnI p.flow<=0)=false:=yP (by omega);go_wp2;go_meet;rw [FA.out];exact⟨rfl,X5.out⟩
        ·have h6:sgnI p.flow<=0:=Int.not_lt.1 fun h=>h5 ((jzl5 p.flow).1 h)
         have FA:=Hx (yP (fun h:rtA l ks p=>h5 h.2.2));have h7:decide (sgnI p.flow<=0)=true:=yO h6;go_wp2;go_meet;rw [FA.out];exact⟨rfl,X5.out⟩
    case rest=>
     obtain⟨rfl,vd⟩:=hcut;have X9:=Hx vd;clear vd;by_cases hc:rtA l ks p
     ·rw [yO hc]
      have HC:=Hx hc;obtain⟨d,hd⟩:=Int.eq_ofNat_of_zero_le hc.1.1;have qz:d<l.length:=(by have:=hc.1.2;omega);have HD:=Hx hd;obtain⟨b0,b1,b2,b3,b4⟩:=C8.out _ X9.out;clear hc hd
      go_wp2_with fail
      refine(qD.out _ X9.out).mono ?_;rintro e vt ⟨rfl,vc⟩;have qJ:=Hx (X9.out.tr vc);clear vc b0 b1 b2 b3 b4
      go_wp2_with (at_mapUpdate;refine jzi2 rfl _ _ _ rfl mb n ks rfl (I8.out.map.keep qJ.out) (by unfold maxLen;omega) ⟨(nameI p).toArray⟩ rfl q4.out rfl ?_)
      intro qg qN qM;have qS:FrS (fun b=>b=mb) vt qg:=FrS.of_grown qM fun g e=>(by injection e with e;exact e.symm);have vp:=I8.out.map.lt;have qZ:=Hx (qS.blk (B8.out.keep qJ.out) (by have:=I.out.map.lt;omega));have qL:=Hx (show MpS qg mb (n+1) (nameI p::ks)/\QB qg (mb+1) sm/\FrS (fun b=>b=mb\/b=mb+1) W3 qg from
       ⟨qN,(I8.out.qb.keep qJ.out).fr qS ((I8.out.map.keep qJ.out).noT _) (by omega),(I8.out.keep qJ.out).fr.tr qS fun b hb=>.inl (.inl hb)⟩)
      have qe:=Hx (show Ext w qg from qL.out.2.2.ext E3.out.2.2 fun b hb=>by omega);have vJ:=Hx (show Blk qg w.heap.size 25 #[.int .i64 t.nodes,.slice AO t.over.length co,.slice AL t.links.length cl]from qL.out.2.2.blk E3.out.1 (by omega));obtain⟨dm,qW⟩:∃dm,l[d]?=some dm:=⟨_,yG qz⟩;obtain⟨b',o',rfl,qK,a0,a1,a2,a3⟩:=HT.out.2.at_ qW;have a0:=cellK qe.out a0;have a1:=cellK qe.out a1;have a2:=cellK qe.out a2;have a3:=cellK qe.out a3;have qK:b'<qg.heap.size:=yL qK qe.out.size;have qR:=Hx (show srcZ l p.dem.toNat=dm.src/\dstZ l p.dem.toNat=dm.dst from by
       rw [HD.out,xL];unfold srcZ dstZ;rw [qW];exact⟨rfl,rfl⟩)
      have d0:(0:Int)<=(d:Int):=(by omega);have dN:(d:Int)<(l.length:Int):=(by omega);have b0:qg.cell? ⟨bd,0,none⟩=some (.int .i64 (d:Int)):=by
       have h9:=qZ.out.cell 0;rw [<-HD.out];exact h9
      have qO:=Hx (show Ext qg (qg.alloc (.cells #[.int .i64 dm.src,.int .i64 dm.dst,.int .i64 dm.amount,.int .i64 dm.prio] 27))from(Ext.refl qg).alloc _);have vm:=Hx (Blk.new qg 27 #[.int .i64 dm.src,.int .i64 dm.dst,.int .i64 dm.amount,.int .i64 dm.prio]);clear qN qM qS qW
      go_upto_region 12 with fail
      clear a0 a1 a2 a3 b0;generalize qg.alloc (.cells #[.int .i64 dm.src,.int .i64 dm.dst,.int .i64 dm.amount,.int .i64 dm.prio] 27)=W12 at*;generalize hbe:qg.heap.size=be at*;have c0:=vm.out.cell 0;have vK:=vm.out.cell 1;have b1:=(qZ.out.keep qO.out).cell 1;obtain⟨⟨i0,i1,i2⟩,_⟩:=(vJ.out.keep qO.out).three;have qG:=Hx (qe.out.tr qO.out)
      go_wp2_with fail
      refine(jzi6 t AO co AL cl AA ca p.arcs dm.src dm.dst _ (HT.out.1.keep qG.out) qn.out.v (RA.out.1.keep qG.out) (by omega) vx).mono ?_;rintro e qm ⟨rfl,q7⟩;have qC:=Hx (qO.out.tr q7);clear q7 c0 vK b1 i0 i1 i2;cases hlb:loopB t p.arcs dm.src dm.dst
      ·have qh:=Hx (show admP t l v Z=false by
        rw [HR.out,I.out.eq,NX.out,if_neg (fun h:rtC t l ks p=>by
         have h9:=h.2;rw [qR.out.1,qR.out.2,hlb]at h9;cases h9)])
       go_wp2;go_ret;rw [qh.out];exact⟨rfl,qe.out.tr qC.out⟩
      ·have vG:=Hx (show rtB t l ks sm (Z.drop n)=rtB t l (nameI p::ks) (sm.set d (Sx.at_ sm d+p.flow)) (Z.drop (n+1))from by
        rw [NX.out,if_pos (show rtC t l ks p from⟨HC.out,by rw [qR.out.1,qR.out.2];exact hlb⟩),HD.out,xL])
       have qB:=Hx (show MpS qm mb (n+1) (nameI p::ks)/\QB qm (mb+1) sm/\FrS (fun b=>b=mb\/b=mb+1) W3 qm from
        ⟨qL.out.1.keep qC.out,qL.out.2.1.keep qC.out,qL.out.2.2.tr (FrS.of_ext (S:=fun b=>b=mb\/b=mb+1) qC.out) fun b hb=>.inl hb⟩)
       have qE:=Hx (qZ.out.keep qC.out);obtain⟨ny,Y1,my,fy,qk,qj,qp,⟨s0,s1,s2⟩,_,hy⟩:=qB.out.2.1.at_ (jzv (show d<sm.length by rw [I.out.len];exact qz));have qo:=(I.out.sz _ (yJ (jzv (show d<sm.length by rw [I.out.len];exact qz))));have qf:1+n*(P+1)<=100000000:=by
        have h1:n*(P+1)<=1000*(10000+1):=Nat.mul_le_mul (by omega) (by omega);omega
       obtain⟨l1,va⟩:=hy.lens (qo.mono qf);obtain⟨l2,q6⟩:=RA.out.2.lens (HZ.out.2.1 p qy.out);have RF:=Hx (And.intro hy (RA.out.2.keep (qe.out.tr qC.out)));have qa:=Hx (show∀wx,Ext qm wx->(wx.cell? ⟨bd,0,none⟩=some (.int .i64 (d:Int))/\wx.cell? ⟨bd,2,none⟩=some (.bool neg)/\wx.cell? ⟨bd,3,none⟩=some (.slice A1 n1 c1)/\wx.cell? ⟨bd,4,none⟩=some (.slice A2 n2 c2))/\(wx.cell? ⟨mb+1,d*3,none⟩=some (.bool ny)/\wx.cell? ⟨mb+1,d*3+1,none⟩=some (.slice Y1 my fy)/\wx.cell? ⟨mb+1,d*3+2,none⟩=some (.slice qk qj qp))from fun wx hx=>
        ⟨⟨by
          have h9:=(qE.out.keep hx).cell 0;rw [<-HD.out];exact h9,(qE.out.keep hx).cell 2,(qE.out.keep hx).cell 3,(qE.out.keep hx).cell 4⟩,cellK hx s0,cellK hx s1,cellK hx s2⟩)
       have XD:=Hx (show Ext qm qm.drew from(Ext.refl qm).drewN 1);have HSW:=Hx (qa.out _ XD.out);clear hy s0 s1 s2 hlb qo
       go_upto_region 14 with fail
       refine jzg (fun w'=>(w'.cell? ⟨bd,0,none⟩=some (.int .i64 (d:Int))/\w'.cell? ⟨bd,2,none⟩=some (.bool neg)/\w'.cell? ⟨bd,3,none⟩=some (.slice A1 n1 c1)/\w'.cell? ⟨bd,4,none⟩=some (.slice A2 n2 c2))/\(w'.cell? ⟨mb+1,d*3,none⟩=some (.bool ny)/\w'.cell? ⟨mb+1,d*3+1,none⟩=some (.slice Y1 my fy)/\w'.cell? ⟨mb+1,d*3+2,none⟩=some (.slice qk qj qp))) 12 (by kernel_rfl) ?_;refine wP 0 rfl HSW.out ?_;try simp only [Act.put,yA,yB,yC,yD,yE,yF]
       refine wP 1 rfl HSW.out ?_;try simp only [Act.put,yA,yB,yC,yD,yE,yF]
       refine wP 3 rfl HSW.out ?_;try simp only [Act.put,yA,yB,yC,yD,yE,yF]
       refine wP 4 rfl HSW.out ?_;try simp only [Act.put,yA,yB,yC,yD,yE,yF]
       refine wP 8 rfl HSW.out ?_;try simp only [Act.put,yA,yB,yC,yD,yE,yF]
       refine wT 2 (v:=?_) rfl ?_ HSW.out ?_;rotate_left
       focus (intro w hSw;obtain⟨⟨s0,s1,s2,s3⟩,s4,s5,s6⟩:=hSw;go_simp;try with_reducible rfl)
       try simp only [Act.put,yA,yB,yC,yD,yE,yF]
       refine wT 5 (v:=?_) rfl ?_ HSW.out ?_;rotate_left
       focus (intro w hSw;obtain⟨⟨s0,s1,s2,s3⟩,s4,s5,s6⟩:=hSw;go_simp;try with_reducible rfl)
       try simp only [Act.put,yA,yB,yC,yD,yE,yF]
       refine wP 6 rfl HSW.out ?_;try simp only [Act.put,yA,yB,yC,yD,yE,yF]
       refine wT 7 (v:=?_) rfl ?_ HSW.out ?_;rotate_left
       focus (intro w hSw;obtain⟨⟨s0,s1,s2,s3⟩,s4,s5,s6⟩:=hSw;go_simp;try with_reducible rfl)
       try simp only [Act.put,yA,yB,yC,yD,yE,yF]
       refine wT 9 (v:=?_) rfl ?_ HSW.out ?_;rotate_left
       focus (intro w hSw;obtain⟨⟨s0,s1,s2,s3⟩,s4,s5,s6⟩:=hSw;go_simp;try with_reducible rfl)
       try simp only [Act.put,yA,yB,yC,yD,yE,yF]
       refine wC 10 rfl (fun KK hK=>?_);go_simp;refine(jz7 ny neg Y1 my fy qk qj qp A1 n1 c1 A2 n2 c2 (Sx.at_ sm d) p.flow _ (RF.out.1.keep XD.out) (RF.out.2.keep XD.out) (by omega) (by omega) (by omega) (by omega) (jzp (Nat.mul_ne_zero (Rat.den_nz _) (Rat.den_nz _)))).mono ?_;rintro e w5 ⟨n5,A5,l5,c5,qw,qx,qt,rfl,h5,x5⟩;have E5:=Hx (XD.out.tr x5);have HSW:=Hx (qa.out _ E5.out);have Q5:=Hx (qB.out.2.1.keep E5.out);have k9:FrS (fun b=>b=mb+1) w5 (((w5.setCell ⟨mb+1,d*3,none⟩ (.bool n5)).setCell ⟨mb+1,d*3+1,none⟩ (.slice A5 l5 c5)).setCell ⟨mb+1,d*3+2,none⟩ (.slice qw qx qt)):=FrS.of_grown (S:=fun b=>b=mb+1) (grown3 w5 (mb+1) (d*3) _ _ _) fun g e=>(by injection e with e;exact e.symm);have QP:=Hx (show AdI W3 (((w5.setCell ⟨mb+1,d*3,none⟩ (.bool n5)).setCell ⟨mb+1,d*3+1,none⟩ (.slice A5 l5 c5)).setCell ⟨mb+1,d*3+2,none⟩ (.slice qw qx qt)) t l Z mb (mb+1) P (n+1) (nameI p::ks) (sm.set d (Sx.at_ sm d+p.flow))from by
        have vF:=(qB.out.1.keep E5.out).lt;refine⟨(qB.out.1.keep E5.out).same (k9.block mb vF (by omega)),Q5.out.put (by rw [I.out.len];exact qz) h5,(qB.out.2.2.tr (FrS.of_ext (S:=fun b=>b=mb\/b=mb+1) E5.out) fun b hb=>.inl hb).tr k9 fun b hb=>.inl (.inr hb),by rw [I.out.eq,vG.out],by rw [yV];exact I.out.len,fun q hq=>?_⟩;have e9:1+(n+1)*(P+1)=1+n*(P+1)+(P+1):=(by rw [xP,xQ,Nat.add_assoc]);rcases xE hq with h1|h1
        ·exact(I.out.sz q h1).mono (by omega)
        ·rw [h1,e9]
         exact((I.out.sz _ (yJ (jzv (show d<sm.length by rw [I.out.len];exact qz)))).add (HZ.out.2.1 p qy.out)).mono (by omega))
       obtain⟨_,_,_,_,_,_,_,_,⟨z0,z1,z2⟩,_⟩:=Q5.out.at_ (jzv (show d<sm.length by rw [I.out.len];exact qz));refine hK.out _ _ HSW.out ?_;clear hK KK x5 h5;try simp only [Act.put,yA,yB,yC,yD,yE,yF]
       refine wP 11 rfl HSW.out ?_;try simp only [Act.put,yA,yB,yC,yD,yE,yF]
       obtain⟨⟨s0,s1,s2,s3⟩,t0,t1,t2⟩:=HSW.out;refine jzk (by kernel_rfl) rfl (by rfl) (fun KK hK=>?_);go_simp;refine hK.out _ _ ?_;clear hK KK;refine wpAny_done (by kernel_rfl) ?_ _;clear s0 s1 s2 s3 t0 t1 t2 z0 z1 z2 HSW qa XD RF qE Q5 E5 qB k9 I vH;go_wp2
       go_roundg (np-(n+1))
       case measure=>omega
       case rel=>exact⟨n+1,_,_,rfl,by omega,by go_num,QP⟩
     ·rw [yP hc]
      have qh:=Hx (show admP t l v Z=false by
       rw [HR.out,I.out.eq,NX.out,if_neg (fun h:rtC t l ks p=>hc h.1)])
      clear hc;go_wp2;go_ret;rw [qh.out];exact⟨rfl,qA.out.tr X9.out⟩
   ·obtain rfl:n=np:=by omega
    have q5:=Hx (show rtB t l [] (List.replicate l.length 0) Z=some sm from by
     rw [I.out.eq,List.drop_of_length_le (by omega)];rfl)
    have vg:=Hx (show admP t l v Z=(sumOk l v sm l.length&&loadOk t (loadsP t Z).1 (loadsP t Z).1.length)from by rw [HR.out,q5.out]);obtain⟨W9,rfl⟩:∃W,W=wr:=⟨_,rfl⟩;have S0:=Hx (show Ext W9 W9/\sumOk l v sm 0=true from⟨Ext.refl _,rfl⟩);go_wp2
    go_loopg [12,13,87] l.length (fun q _ _ it wx=>∃(k:Nat),l.length-k=q/\k<=l.length/\it=.int .i64 (k:Int)/\Hid (Ext W9 wx/\sumOk l v sm k=true))
    case atStart=>exact⟨0,rfl,yZ _,rfl,S0⟩
    case round=>
     obtain⟨k,rfl,hk,rfl,S⟩:=hrel;clear S0;by_cases qi:k<l.length
     ·obtain⟨d,hd⟩:∃d,l[k]?=some d:=⟨_,yG qi⟩
      have XS:=Hx (XW.out.tr S.out.1);obtain⟨b',o',rfl,qK,a0,a1,a2,a3⟩:=HT.out.2.at_ hd;have a0:=cellK XS.out a0;have a1:=cellK XS.out a1;have a2:=cellK XS.out a2;have a3:=cellK XS.out a3;have qK:b'<wr.heap.size:=yL qK XS.out.size;have AM:=Hx (show amQ l k=(d.amount:Rat)/\i64 d.amount/\SzQ (d.amount:Rat) 1 from by
       obtain⟨_,_,_,h4,h5,h6⟩:=qn.out.am qi;have e:l[k]=d:=(yH.1 hd).2;rw [e]at h4 h5 h6;exact⟨h4,by unfold i64;omega,SzQ.int (by unfold B32;omega)⟩)
      have nN:(k:Int)<(l.length:Int):=(by omega);have n0:(0:Int)<=(k:Int):=(by omega);have X8:=Hx (show Ext wr (wr.alloc (.cells #[.int .i64 d.src,.int .i64 d.dst,.int .i64 d.amount,.int .i64 d.prio] 27))from(Ext.refl wr).alloc _);have B8:=Hx (Blk.new wr 27 #[.int .i64 d.src,.int .i64 d.dst,.int .i64 d.amount,.int .i64 d.prio]);clear hd
      go_upto_region 19 with fail
      clear a0 a1 a2 a3;generalize wr.alloc (.cells #[.int .i64 d.src,.int .i64 d.dst,.int .i64 d.amount,.int .i64 d.prio] 27)=W8 at*;generalize hbd:wr.heap.size=bd at*;have qU:=Hx (S.out.1.tr X8.out);have qA:=Hx (XS.out.tr X8.out);have Q8:=Hx (I.out.qb.keep qU.out);have P8:=Hx ((I.out.fr.blk E3.out.2.1 (by omega)).keep qU.out);obtain⟨ny,Y1,my,fy,qk,qj,qp,⟨s0,s1,s2⟩,_,hy⟩:=Q8.out.at_ (jzv (show k<sm.length by rw [I.out.len];exact qi));have qo:=I.out.sz _ (yJ (jzv (show k<sm.length by rw [I.out.len];exact qi)));have qf:1+n*(P+1)<=100000000:=by
       have h1:n*(P+1)<=1000*(10000+1):=Nat.mul_le_mul (by omega) (by omega);omega
      obtain⟨l1,va⟩:=hy.lens (qo.mono qf);obtain⟨l2,q6⟩:=HV.out.1.lens HV.out.2;have RY:=Hx hy;have qa:=Hx (show∀wx,Ext W8 wx->(wx.cell? ⟨mb+1,k*3,none⟩=some (.bool ny)/\wx.cell? ⟨mb+1,k*3+1,none⟩=some (.slice Y1 my fy)/\wx.cell? ⟨mb+1,k*3+2,none⟩=some (.slice qk qj qp))/\(wx.cell? ⟨w.heap.size+1,0,none⟩=some (.bool nv)/\wx.cell? ⟨w.heap.size+1,1,none⟩=some (.slice V1 nv1 cv1)/\wx.cell? ⟨w.heap.size+1,2,none⟩=some (.slice V2 nv2 cv2))/\wx.cell? ⟨bd,2,none⟩=some (.int .i64 d.amount)from fun wx hx=>
       ⟨⟨cellK hx s0,cellK hx s1,cellK hx s2⟩,⟨(P8.out.keep hx).cell 0,(P8.out.keep hx).cell 1,(P8.out.keep hx).cell 2⟩,(B8.out.keep hx).cell 2⟩)
      have XD:=Hx (show Ext W8 W8.drew from(Ext.refl W8).drewN 1);have HSW:=Hx (qa.out _ XD.out);clear hy s0 s1 s2 qo;refine jzg (fun w'=>(w'.cell? ⟨mb+1,k*3,none⟩=some (.bool ny)/\w'.cell? ⟨mb+1,k*3+1,none⟩=some (.slice Y1 my fy)/\w'.cell? ⟨mb+1,k*3+2,none⟩=some (.slice qk qj qp))/\(w'.cell? ⟨w.heap.size+1,0,none⟩=some (.bool nv)/\w'.cell? ⟨w.heap.size+1,1,none⟩=some (.slice V1 nv1 cv1)/\w'.cell? ⟨w.heap.size+1,2,none⟩=some (.slice V2 nv2 cv2))/\w'.cell? ⟨bd,2,none⟩=some (.int .i64 d.amount)) 10 (by kernel_rfl) ?_;refine wP 0 rfl HSW.out ?_;try simp only [Act.put,yA,yB,yC,yD,yE,yF]
      refine wP 1 rfl HSW.out ?_;try simp only [Act.put,yA,yB,yC,yD,yE,yF]
      refine wP 2 rfl HSW.out ?_;try simp only [Act.put,yA,yB,yC,yD,yE,yF]
      refine wT 3 (v:=?_) rfl ?_ HSW.out ?_;rotate_left
      focus (intro w hSw;obtain⟨⟨s0,s1,s2⟩,⟨s3,s4,s5⟩,s6⟩:=hSw;go_simp;try with_reducible rfl)
      try simp only [Act.put,yA,yB,yC,yD,yE,yF]
      refine wP 4 rfl HSW.out ?_;try simp only [Act.put,yA,yB,yC,yD,yE,yF]
      refine jz5 (path:=[10,9]) (i:=5) (v:=?_) rfl (by kernel_rfl) (by kernel_rfl) (by kernel_rfl) (by decide) (by kernel_rfl) (by kernel_rfl) (by kernel_rfl) (fun _ _ _ h=>h) (Or.inl ⟨by rfl,?_⟩) HSW.out ?_;rotate_left
      focus (intro w hSw;obtain⟨⟨s0,s1,s2⟩,⟨s3,s4,s5⟩,s6⟩:=hSw;go_simp;try with_reducible rfl)
      try simp only [Act.put,yA,yB,yC,yD,yE,yF]
      refine wP 6 rfl HSW.out ?_;try simp only [Act.put,yA,yB,yC,yD,yE,yF]
      refine jz5 (path:=[10,9,8]) (i:=7) (v:=?_) rfl (by kernel_rfl) (by kernel_rfl) (by kernel_rfl) (by decide) (by kernel_rfl) (by kernel_rfl) (by kernel_rfl) (fun _ _ _ h=>h) (Or.inl ⟨by rfl,?_⟩) HSW.out ?_;rotate_left
      focus (intro w hSw;obtain⟨⟨s0,s1,s2⟩,⟨s3,s4,s5⟩,s6⟩:=hSw;go_simp;try with_reducible rfl)
      try simp only [Act.put,yA,yB,yC,yD,yE,yF]
      refine wC 8 rfl (fun KK hK=>?_);go_simp;refine(jzar d.amount _ AM.out.2.1).mono ?_;rintro e w4 ⟨n4,A4,l4,c4,vR,vy,vz,rfl,h4,x4⟩;have E4:=Hx (XD.out.tr x4);have HSW:=Hx (qa.out _ E4.out);have R4:=Hx h4;obtain⟨l3,vV⟩:=h4.lens AM.out.2.2;refine hK.out _ _ HSW.out ?_;clear hK KK x4 h4;try simp only [Act.put,yA,yB,yC,yD,yE,yF]
      refine wC 9 rfl (fun KK hK=>?_);go_simp;refine(jz1 nv n4 V1 nv1 cv1 V2 nv2 cv2 A4 l4 c4 vR vy vz v (d.amount:Rat) _ (HV.out.1.keep (qA.out.tr E4.out)) R4.out (by omega) (by omega) (by omega) (by omega)).mono ?_;rintro e w5 ⟨n5,A5,l5,c5,qw,qx,qt,rfl,h5,x5⟩;have E5:=Hx (E4.out.tr x5);have HSW:=Hx (qa.out _ E5.out);have R5:=Hx h5;obtain⟨l6,vW⟩:=h5.lens (HV.out.2.mul AM.out.2.2);refine hK.out _ _ HSW.out ?_;clear hK KK x5 h5;try simp only [Act.put,yA,yB,yC,yD,yE,yF]
      refine jzk (by kernel_rfl) rfl (by rfl) (fun KK hK=>?_);go_simp;refine(jz4 ny n5 Y1 my fy qk qj qp A5 l5 c5 qw qx qt (Sx.at_ sm k) (v*(d.amount:Rat)) _ (RY.out.keep E5.out) R5.out (by omega) (by omega) (by omega) (by omega)).mono ?_;rintro e w6 ⟨rfl,x6⟩;have X6:=Hx (qU.out.tr (E5.out.tr x6));refine hK.out _ _ ?_;have SK:=Hx S.out.2;clear hK KK x6 HSW qa XD E5 R5 E4 R4 S;try simp only [Act.put,yA,yB,yC,yD,yE,yF]
      refine jzao (i:=11) (by kernel_rfl) rfl (by rfl) (fun KK hK=>?_);go_simp;refine hK.out _ _ ?_;clear hK KK;refine wpAny_done (by kernel_rfl) ?_ _;by_cases he:Sx.at_ sm k=v*(d.amount:Rat)
      ·have hz:=(jzas _ _).2 he
       have q1:=Hx (show Ext W9 w6/\sumOk l v sm (k+1)=true from⟨X6.out,by rw [jzl2,SK.out,AM.out.1,yO he];rfl⟩);generalize cmpQ (Sx.at_ sm k) (v*(d.amount:Rat))=z at*;subst hz;clear he SK;go_wp2
       go_roundg (l.length-(k+1))
       case measure=>omega
       case rel=>exact⟨k+1,rfl,by omega,by go_num,q1⟩
      ·have hz:¬cmpQ (Sx.at_ sm k) (v*(d.amount:Rat))=0:=fun h=>he ((jzas _ _).1 h)
       have qh:=Hx (show admP t l v Z=false by
        rw [vg.out,sumOk_bad (n:=k) (by rw [AM.out.1];exact he) qi];rfl)
       have XF:=Hx (XW.out.tr X6.out);generalize cmpQ (Sx.at_ sm k) (v*(d.amount:Rat))=z at*;have z1:(z !=0)=true:=(by simpa using hz);have z2:(z==0)=false:=yK.2 hz;have z3:decide (z=0)=false:=yP hz;clear he SK;go_wp2;go_ret;rw [qh.out];exact⟨rfl,XF.out⟩
     ·obtain rfl:k=l.length:=by omega
      have XS:=Hx (XW.out.tr S.out.1);have T9:=Hx ((I.out.fr.blk E3.out.1 (by omega)).keep S.out.1);have c3:=((I.out.fr.blk E3.out.2.1 (by omega)).keep S.out.1).cell 3;obtain⟨⟨i0,i1,i2⟩,_⟩:=T9.out.three;have vn:=Hx (show admP t l v Z=loadOk t (loadsP t Z).1 (loadsP t Z).1.length from by rw [vg.out,S.out.2];rfl);have vj:=Hx (loadsP_in qn.out.v fun p hp=>jzl4 qn.out.v (jzia Z _ _ _ q5.out p hp).2.2);have vo:=Hx (jzh8 (t:=t) HZ.out.2.1);have vT:=(jzf8 vj.out).2.1;have vi:t.links.length<=256:=by
       have:=qn.out.v;unfold validP headOk at this;simp at this;exact this.1.1.2
      go_wp2_with fail
      refine(jzlq t AO co AL cl Z PA n cp P hnp _ (HT.out.1.keep XS.out) (HZ.out.1.keep XS.out fun cs x h=>h.keep XS.out) (by omega) HZ.out.2.1 hP1 (fun p hp=>by have:=HZ.out.2.2.1 p hp;omega) hK (by omega)).mono ?_;rintro e w2 ⟨A,rfl,q9,qV⟩;have X2:=Hx (XS.out.tr qV);have T2:=Hx (T9.out.keep qV);have vq:=Hx q9;rw [vj.out];generalize hld:(loadsP t Z).1=ld at*;have L0:=Hx (show Ext w2 w2/\loadOk t ld 0=true from⟨Ext.refl _,rfl⟩);clear q9 qV i0 i1 i2 c3 T9 XS S I;go_wp2
      go_loopg [16,17,114] ld.length (fun q _ _ it wx=>∃(k:Nat),ld.length-k=q/\k<=ld.length/\it=.int .i64 (k:Int)/\Hid (Ext w2 wx/\loadOk t ld k=true))
      case atStart=>exact⟨0,rfl,yZ _,rfl,L0⟩
      case round=>
       obtain⟨k,rfl,hk,rfl,S⟩:=hrel;clear L0;by_cases qi:k<ld.length
       ·obtain⟨b,o,neg,A1,n1,c1,A2,n2,c2,rfl,hb,a0,a1,a2,qH⟩:=vq.out.at_ (jzv qi)
        have a0:=cellK S.out.1 a0;have a1:=cellK S.out.1 a1;have a2:=cellK S.out.1 a2;have hb:b<wr.heap.size:=yL hb S.out.1.size;have RA:=Hx (qH.keep S.out.1);have qo:=(vo.out _ (yJ (jzv qi))).mono hK;have nN:(k:Int)<(ld.length:Int):=(by omega);have n0:(0:Int)<=(k:Int):=(by omega);have X8:=Hx (show Ext wr (wr.alloc (.cells #[.bool neg,.slice A1 n1 c1,.slice A2 n2 c2] 35))from(Ext.refl wr).alloc _);have B8:=Hx (Blk.new wr 35 #[.bool neg,.slice A1 n1 c1,.slice A2 n2 c2]);clear qH
        go_upto_region 26 with fail
        clear a0 a1 a2;generalize wr.alloc (.cells #[.bool neg,.slice A1 n1 c1,.slice A2 n2 c2] 35)=W8 at*;generalize hbd:wr.heap.size=bd at*;have qI:=Hx (S.out.1.tr X8.out);obtain⟨l1,va⟩:=RA.out.lens qo;have qa:=Hx (show∀wx,Ext W8 wx->(wx.cell? ⟨bd,0,none⟩=some (.bool neg)/\wx.cell? ⟨bd,1,none⟩=some (.slice A1 n1 c1)/\wx.cell? ⟨bd,2,none⟩=some (.slice A2 n2 c2))/\(wx.cell? ⟨w.heap.size,0,none⟩=some (.int .i64 t.nodes)/\wx.cell? ⟨w.heap.size,1,none⟩=some (.slice AO t.over.length co)/\wx.cell? ⟨w.heap.size,2,none⟩=some (.slice AL t.links.length cl))from fun wx hx=>
         ⟨⟨(B8.out.keep hx).cell 0,(B8.out.keep hx).cell 1,(B8.out.keep hx).cell 2⟩,(T2.out.keep (qI.out.tr hx)).cell 0,(T2.out.keep (qI.out.tr hx)).cell 1,(T2.out.keep (qI.out.tr hx)).cell 2⟩)
        have XD:=Hx (show Ext W8 W8.drew from(Ext.refl W8).drewN 1);have HSW:=Hx (qa.out _ XD.out);refine jzg (fun w'=>(w'.cell? ⟨bd,0,none⟩=some (.bool neg)/\w'.cell? ⟨bd,1,none⟩=some (.slice A1 n1 c1)/\w'.cell? ⟨bd,2,none⟩=some (.slice A2 n2 c2))/\(w'.cell? ⟨w.heap.size,0,none⟩=some (.int .i64 t.nodes)/\w'.cell? ⟨w.heap.size,1,none⟩=some (.slice AO t.over.length co)/\w'.cell? ⟨w.heap.size,2,none⟩=some (.slice AL t.links.length cl))) 4 (by kernel_rfl) ?_;refine wT 0 (v:=?_) rfl ?_ HSW.out ?_;rotate_left
        focus (intro w hSw;obtain⟨⟨s1,s2,s3⟩,s4,s5,s6⟩:=hSw;go_simp;try with_reducible rfl)
        try simp only [Act.put,yA,yB,yC,yD,yE,yF]
        refine jz5 (path:=[4,3]) (i:=1) (v:=?_) rfl (by kernel_rfl) (by kernel_rfl) (by kernel_rfl) (by decide) (by kernel_rfl) (by kernel_rfl) (by kernel_rfl) (fun _ _ _ h=>h) (Or.inl ⟨by rfl,?_⟩) HSW.out ?_;rotate_left
        focus (intro w hSw;obtain⟨⟨s1,s2,s3⟩,s4,s5,s6⟩:=hSw;go_simp;try with_reducible rfl)
        try simp only [Act.put,yA,yB,yC,yD,yE,yF]
        refine wP 2 rfl HSW.out ?_;try simp only [Act.put,yA,yB,yC,yD,yE,yF]
        refine wC 3 rfl (fun KK hK=>?_);go_simp;refine(jzbw t AO co AL cl k _ (HT.out.1.keep (X2.out.tr (qI.out.tr XD.out))) qn.out.v (by omega)).mono ?_;rintro e w5 ⟨n5,A5,l5,c5,qw,qx,qt,rfl,h5,x5⟩;have E5:=Hx (XD.out.tr x5);have HSW:=Hx (qa.out _ E5.out);have R5:=Hx h5;obtain⟨l2,q6⟩:=h5.lens (jzf9 qn.out.v (show k<2*t.links.length by omega));refine hK.out _ _ HSW.out ?_;clear hK KK x5 h5;try simp only [Act.put,yA,yB,yC,yD,yE,yF]
        refine jzk (by kernel_rfl) rfl (by rfl) (fun KK hK=>?_);go_simp;refine(jz4 neg n5 A1 n1 c1 A2 n2 c2 A5 l5 c5 qw qx qt (Sx.at_ ld k) (capQ t k) _ (RA.out.keep (X8.out.tr E5.out)) R5.out (by omega) (by omega) (by omega) (by omega)).mono ?_;rintro e w6 ⟨rfl,x6⟩;have X6:=Hx (qI.out.tr (E5.out.tr x6));have SK:=Hx S.out.2;refine hK.out _ _ ?_;clear hK KK x6 HSW qa XD E5 R5 S;try simp only [Act.put,yA,yB,yC,yD,yE,yF]
        refine jzao (i:=5) (by kernel_rfl) rfl (by rfl) (fun KK hK=>?_);go_simp;refine hK.out _ _ ?_;clear hK KK;refine wpAny_done (by kernel_rfl) ?_ _;by_cases qP:capQ t k<Sx.at_ ld k
        ·have h9:=(jze8 _ _).2 qP
         have d9:decide (0<cmpQ (Sx.at_ ld k) (capQ t k))=true:=yO h9;have qh:=Hx (show admP t l v Z=false by
          rw [vn.out];exact jzl3 (n:=k) (Rat.not_le.2 qP) qi)
         have XF:=Hx (X2.out.tr X6.out);go_wp2;go_ret;rw [qh.out];exact⟨rfl,XF.out⟩
        ·have h9:¬0<cmpQ (Sx.at_ ld k) (capQ t k):=fun h=>qP ((jze8 _ _).1 h)
         have d9:decide (0<cmpQ (Sx.at_ ld k) (capQ t k))=false:=yP h9;have q1:=Hx (show Ext w2 w6/\loadOk t ld (k+1)=true from⟨X6.out,by rw [jzi7,SK.out,yO (Rat.not_lt.1 qP)];rfl⟩);clear SK X6;go_wp2
         go_roundg (ld.length-(k+1))
         case measure=>omega
         case rel=>exact⟨k+1,rfl,by omega,by go_num,q1⟩
       ·obtain rfl:k=ld.length:=by omega
        have qh:=Hx (show admP t l v Z=true by rw [vn.out];exact S.out.2);have XF:=Hx (X2.out.tr S.out.1);go_wp2;go_ret;rw [qh.out];exact⟨rfl,XF.out⟩
open Sx
def posOk(pr:List Rat)(n:Nat):Bool:=(List.range n).all fun a=>decide (0<=at_ pr a)
def worN(t:Tp)(pr:List Rat)(n:Nat):Rat:=sm n fun a=>at_ pr a*capQ t a
def chZ(t:Tp)(l:List Dm)(pr:List Rat)(d:Nat):List Nat×Int:=chP t [] pr (srcZ l d) (dstZ l d)
def cheOk(t:Tp)(l:List Dm)(pr:List Rat)(n:Nat):Bool:=(List.range n).all fun d=>decide ((chZ t l pr d).2=0)
def needN(t:Tp)(l:List Dm)(pr:List Rat)(n:Nat):Rat:=sm n fun d=>amQ l d*prQ pr (chZ t l pr d).1
def chkP(t:Tp)(l:List Dm)(v:Rat)(Z:List PthI)(pr:List Rat):Bool:=
 admP t l v Z&&decide (pr.length=2*t.links.length)&&posOk pr pr.length&&cheOk t l pr l.length&&decide (worN t pr pr.length=v)&&decide (1<=needN t l pr l.length)
theorem jzl6(pr:List Rat)(n:Nat):posOk pr (n+1)=(posOk pr n&&decide (0<=at_ pr n)):=by
 unfold posOk;rw [List.range_succ,List.all_append];simp
theorem jzl7(t:Tp)(l:List Dm)(pr:List Rat)(n:Nat):cheOk t l pr (n+1)=(cheOk t l pr n&&decide ((chZ t l pr n).2=0)):=by
 unfold cheOk;rw [List.range_succ,List.all_append];simp
theorem posOk_bad{pr:List Rat}{n m:Nat}(h:¬0<=at_ pr n)(hm:n<m):posOk pr m=false:=jzh9 (yP h) hm
theorem cheOk_bad{t:Tp}{l:List Dm}{pr:List Rat}{n m:Nat}(h:¬(chZ t l pr n).2=0)(hm:n<m):cheOk t l pr m=false:=jzh9 (yP h) hm
theorem posOk_all{pr:List Rat}(h:posOk pr pr.length=true):∀q∈pr,0<=q:=fun q hq=>by
 obtain⟨i,hi,e⟩:=List.mem_iff_getElem.1 hq;unfold posOk at h;rw [xW]at h;have h1:=of_decide_eq_true (h i (vX.2 hi));unfold at_ at h1;rw [yG hi]at h1;rw [<-e];exact h1
theorem admP_fit{t:Tp}{l:List Dm}{v:Rat}{Z:List PthI}(hl:l.length<=64)(h:admP t l v Z=true):Fit t l:=by
 unfold admP at h;rw [vM]at h;exact(jza0 hl).1 h.1
theorem jzl8{t:Tp}(hv:validP t=true){pr:List Rat}{P:Nat}(hs:∀q∈pr,SzQ q P)(hl:pr.length=2*t.links.length):∀n,n<=pr.length->SzQ (worN t pr n) (1+n*(P+2))
 |0,_=>SzQ.zero.mono (by omega)
 |n+1,hn=>by
  have h1:=jzl8 hv hs hl n (by omega);have h2:=(hs _ (yJ (jzv (show n<pr.length by omega)))).mul (jzf9 hv (show n<2*t.links.length by omega));have e9:1+(n+1)*(P+2)=1+n*(P+2)+(P+1)+1:=(by rw [xP,xQ];omega);rw [e9];exact h1.add h2
theorem amQ_sz{t:Tp}{l:List Dm}(hf:Fit t l){d:Nat}(hd:d<l.length):SzQ (amQ l d) 1:=by
 obtain⟨_,_,_,h4,h5,h6⟩:=hf.am hd;rw [h4];exact SzQ.int (by unfold B32;omega)
theorem jzl9{t:Tp}{l:List Dm}(hf:Fit t l){d:Nat}(hd:d<l.length):srcZ l d=(srcN l d:Int)/\dstZ l d=(dstN l d:Int):=by
 obtain⟨_,_,_,h4,h5⟩:=hf.nodes hd;unfold srcZ dstZ;rw [yG hd];exact⟨h4,h5⟩
theorem chZ_len{t:Tp}{l:List Dm}(hf:Fit t l){pr:List Rat}(hl:pr.length=2*t.links.length)(hn:∀q∈pr,0<=q){d:Nat}(hd:d<l.length):(chZ t l pr d).1.length<=64:=by
 obtain⟨h1,h2⟩:=jzl9 hf hd;obtain⟨n1,n2,_⟩:=hf.nodes hd;have hv:=hf.v;have qa:t.nodes<=64:=by
  have:=hv;unfold validP headOk inB at this;simp at this;exact this.1.1.1.2
 unfold chZ;rw [h1,h2];rcases jzdq hv (jzah hl hn) n1 n2 with⟨y,k1,k2,_⟩|⟨k1,_⟩
 ·rw [k1]
  have:=k2.len hv n1;simp only;omega
 ·rw [k1];exact yZ _
theorem chZ_sz{t:Tp}{l:List Dm}(hf:Fit t l){pr:List Rat}{P:Nat}(hP:1<=P)(hs:∀q∈pr,SzQ q P)(hl:pr.length=2*t.links.length)(hn:∀q∈pr,0<=q){d:Nat}(hd:d<l.length):SzQ (prQ pr (chZ t l pr d).1) (1+64*(P+1)):=by
 refine(SzQ.pr hP hs _).mono ?_;have:=xS (P+1) (chZ_len hf hl hn hd);omega
theorem jzgy{t:Tp}{l:List Dm}(hf:Fit t l){pr:List Rat}{P:Nat}(hP:1<=P)(hs:∀q∈pr,SzQ q P)(hl:pr.length=2*t.links.length)(hn:∀q∈pr,0<=q):∀n,n<=l.length->SzQ (needN t l pr n) (1+n*(3+64*(P+1)))
 |0,_=>SzQ.zero.mono (by omega)
 |n+1,hn2=>by
  have h1:=jzgy hf hP hs hl hn n (by omega);have h2:=(amQ_sz hf (show n<l.length by omega)).mul (chZ_sz hf hP hs hl hn (show n<l.length by omega));have e9:1+(n+1)*(3+64*(P+1))=1+n*(3+64*(P+1))+(1+(1+64*(P+1)))+1:=(by rw [xP,xQ];omega);rw [e9];exact h1.add h2
theorem Sx.Adm.weakv{L2 D:Nat}{am cap:Nat->Rat}{v:Rat}{Z:List ((Nat×List Nat)×Rat)}(h:Sx.Adm L2 D am cap v Z){pr ch:Nat->Rat}(hp:∀a,a<L2->0<=pr a)
  (hch:∀z∈Z,ch z.1.1<=sm L2 fun a=>if a∈z.1.2 then pr a else 0):v*(sm D fun d=>am d*ch d)<=sm L2 fun a=>pr a*cap a:=by
 have e1:v*(sm D fun d=>am d*ch d)=ls (fun z=>z.2*ch z.1.1) Z:=by
  rw [<-jzbj];have:(sm D fun d=>v*(am d*ch d))=sm D fun d=>ls (fun z=>(if z.1.1=d then z.2 else 0)*ch d) Z:=sm_congr D fun d hd=>by
   have e:=jzgo (ch d) (fun z:(Nat×List Nat)×Rat=>if z.1.1=d then z.2 else 0) Z;rw [h.sum d hd]at e;have e2:ls (fun z:(Nat×List Nat)×Rat=>(if z.1.1=d then z.2 else 0)*ch d) Z=ls (fun z=>ch d*(if z.1.1=d then z.2 else 0)) Z:=jzap fun z _=>(by grind);rw [e2,e];grind
  rw [this, <-ls_sm];exact jzap fun z hz=>by
   rw [sm_one D (h.dem z hz) fun d _ hd=>by rw [if_neg (fun e=>hd e.symm)];grind,if_pos rfl]
 have e2:ls (fun z=>z.2*ch z.1.1) Z<=ls (fun z=>sm L2 fun a=>pr a*(if a∈z.1.2 then z.2 else 0)) Z:=ls_le fun z hz=>by
  have h1:=yT (hch z hz) (vB (h.pos z hz));rw [<-jzbj]at h1;have:(sm L2 fun a=>z.2*(if a∈z.1.2 then pr a else 0))=sm L2 fun a=>pr a*(if a∈z.1.2 then z.2 else 0):=sm_congr L2 fun a _=>(by split <;> grind);rw [this]at h1;exact h1
 have e3:ls (fun z=>sm L2 fun a=>pr a*(if a∈z.1.2 then z.2 else 0)) Z<=sm L2 fun a=>pr a*cap a:=by
  rw [ls_sm];refine sm_le L2 fun a ha=>?_;rw [jzgo];exact yT (h.cap a ha) (hp a ha)
 grind
theorem jzma{α:Type}(f:α->Rat):∀(l:List α) (g:Nat->Rat),(∀d (h:d<l.length),g d=f l[d])->sm l.length g=ls f l
 | [],_,_=>rfl
 |a::l,g,h=>by
  show sm (l.length+1) g=f a+ls f l;rw [jzhj,jzma f l _ fun d hd=>h (d+1) (Nat.succ_lt_succ hd),h 0 (Nat.zero_lt_succ _)];rfl
def dchQ(t:Tp)(pr:List Rat)(x:Dm):Rat:=(x.amount:Rat)*chQ t pr x.src.toNat x.dst.toNat
def needL(t:Tp)(l:List Dm)(pr:List Rat):Rat:=ls (dchQ t pr) l
def worthL(t:Tp)(pr:List Rat):Rat:=sm (2*t.links.length) fun a=>at_ pr a*capQ t a
theorem jzmb(t:Tp)(l:List Dm)(pr:List Rat):(sm l.length fun d=>amQ l d*chQ t pr (srcN l d) (dstN l d))=needL t l pr:=
 jzma _ _ _ fun d hd=>by
  unfold amQ srcN dstN dchQ;rw [yG hd]
section
variable {t t':Tp} {l l':List Dm} {v v':Rat} {Z Z':List ((Nat×List Nat)×Rat)} {pr pr':List Rat}
theorem PlanOK.cheap(hf:Fit t l)(h:PlanOK t l v Z pr)(hl:pr'.length=2*t.links.length)(hn:∀q∈pr',0<=q):∀z∈Z,chQ t pr' (srcN l z.1.1) (dstN l z.1.1)<=sm (2*t.links.length) fun a=>if a∈z.1.2 then at_ pr' a else 0:=fun z hz=>by
 have hd:=h.adm.dem z hz;obtain⟨n1,n2,_⟩:=hf.nodes hd;have qa:=h.loop z hz;rcases jzdq hf.v (jzah hl hn) n1 n2 with⟨x,e,_,e2⟩|⟨_,e⟩
 ·unfold chQ
  rw [e, <-qa.prQ_sm];exact e2 _ qa
 ·exact absurd qa (e _)
theorem PlanOK.weak(hf:Fit t l)(h:PlanOK t l v Z pr)(hl:pr'.length=2*t.links.length)(hn:∀q∈pr',0<=q):v*needL t l pr'<=worthL t pr':=by
 rw [<-jzmb];exact h.adm.weakv (ch:=fun d=>chQ t pr' (srcN l d) (dstN l d)) (fun a _=>at_nn hn a) (h.cheap hf hl hn)
theorem PlanOK.vnn(hf:Fit t l)(h:PlanOK t l v Z pr):0<=v:=by
 rw [<-h.worth];refine sm_nn _ fun a ha=>?_;obtain⟨_,h2,_⟩:=jzc0 hf.v ha;exact vA (at_nn h.pnn a) h2
theorem PlanOK.le(hf:Fit t l)(h:PlanOK t l v Z pr)(h':PlanOK t' l' v' Z' pr')(hL:t'.links.length=t.links.length){α β γ:Rat}(hα:0<=α)(hγ:0<=γ)(hn:γ*needL t l pr'=α*needL t' l' pr')(hw:γ*worthL t pr'<=β*worthL t' pr'):α*v<=β*v':=by
 have h1:=yT (h.weak hf (pr':=pr') (by rw [h'.plen,hL]) h'.pnn) hγ;have h2:1<=needL t' l' pr':=(by rw [<-jzmb];exact h'.need);have h3:worthL t' pr'=v':=h'.worth;have h4:=h.vnn hf;have h5:α*v*1<=α*v*needL t' l' pr':=yT h2 (vA hα h4);have h6:γ*(v*needL t l pr')=α*v*needL t' l' pr':=by
  have:γ*(v*needL t l pr')=v*(γ*needL t l pr'):=(by grind);rw [this,hn];grind
 rw [h3]at hw;grind
end
section
variable {t t':Tp}
end
def connL(t:Tp)(l:List Dm):Prop:=∀x∈l,∃y,Lpl t x.src.toNat x.dst.toNat y
theorem jzgz{t:Tp}{l:List Dm}:connL t l↔∀d,d<l.length->∃y,Lpl t (srcN l d) (dstN l d) y:=by
 constructor
 ·intro h d hd
  have:=h _ (xR hd);unfold srcN dstN;rw [yG hd];exact this
 ·intro h x hx
  obtain⟨d,hd,rfl⟩:=List.mem_iff_getElem.1 hx;have:=h d hd;unfold srcN dstN at this;rw [yG hd]at this;exact this
def ValR(t:Tp)(l:List Dm)(v:Rat)(ok:Bool):Prop:=(ok=true/\∃Z pr,PlanOK t l v Z pr)\/(ok=false/\v=0/\¬connL t l)
theorem PlanOK.connL{t:Tp}{l:List Dm}{v:Rat}{Z:List ((Nat×List Nat)×Rat)}{pr:List Rat}(h:PlanOK t l v Z pr):connL t l:=jzgz.2 h.conn
theorem rtB_okZ{t:Tp}{l:List Dm}(hf:Fit t l):∀(Z:List ((Nat×List Nat)×Rat)) (ks:List (List UInt8)) (sm:List Rat),sm.length=l.length->(∀z∈Z,z.1.1<l.length/\0<z.2/\Lpl t (srcN l z.1.1) (dstN l z.1.1) z.1.2/\nameP z.1∉ks)->(Z.map (·.1)).Nodup->
  ∃qa,rtB t l ks sm (Z.map pzI)=some qa/\∀d,d<l.length->at_ qa d=at_ sm d+ls (fun z=>if z.1.1=d then z.2 else 0) Z
 | [],ks,sm,_,_,_=>⟨sm,rfl,fun d _=>by show _=_+(0:Rat);grind⟩
 |z::Z,ks,sm,hs,h,hn=>by
  obtain⟨h1,h2,h3,h4⟩:=h z (by simp);rw [List.map_cons,List.nodup_cons]at hn;obtain⟨n1,n2⟩:=hn;obtain⟨qa,e1,e2⟩:=rtB_okZ hf Z (nameP z.1::ks) (sm.set z.1.1 (at_ sm z.1.1+z.2)) (by rw [yV];exact hs) (fun y hy=>by
   obtain⟨k1,k2,k3,k4⟩:=h y (xO _ hy);refine⟨k1,k2,k3,fun hm=>?_⟩;rcases xZ.1 hm with e|e
   ·exact n1 (List.mem_map.2 ⟨y,hy,jzhw e⟩)
   ·exact k4 e) n2
  refine⟨qa,?_,fun d hd=>?_⟩
  ·have hc:rtC t l ks (pzI z):=by
    refine⟨⟨⟨Int.natCast_nonneg _,Int.ofNat_lt.2 h1⟩,h4,h2⟩,?_⟩;obtain⟨f1,f2⟩:=jzl9 hf h1;have qe:srcZ l (pzI z).dem.toNat=(srcN l z.1.1:Int):=f1;have qf:dstZ l (pzI z).dem.toNat=(dstN l z.1.1:Int):=f2;rw [qe,qf];exact(loopB_iff hf.v _ (hf.nodes h1).1).2 ⟨z.1.2,rfl,h3⟩
   show(if rtC t l ks (pzI z)then _ else none)=_;rw [if_pos hc];exact e1
  ·rw [e2 d hd]
   show _=at_ sm d+((if z.1.1=d then z.2 else 0)+ls _ Z);rw [jzf3 _ _ _ _ (by omega)];by_cases e:z.1.1=d
   ·rw [if_pos e,if_pos e,e];grind
   ·rw [if_neg e,if_neg e];grind
theorem ldA_okZ{L2:Nat}{f:Rat}:∀(x:List Nat) (ld:List Rat),ld.length=L2->x.Nodup->(∀a∈x,a<L2)->∃qa,ldA L2 f ld (x.map fun a:Nat=>(a:Int))=some qa/\qa.length=L2/\∀a,a<L2->at_ qa a=at_ ld a+if a∈x then f else 0
 | [],ld,hl,_,_=>⟨ld,rfl,hl,fun a _=>by simp;grind⟩
 |b::x,ld,hl,hn,hx=>by
  rw [List.nodup_cons]at hn;have hb:=hx b (by simp);obtain⟨qa,e1,e2,e3⟩:=ldA_okZ x (ld.set b (at_ ld b+f)) (by rw [yV];exact hl) hn.2 (fun a ha=>hx a (xO _ ha));refine⟨qa,?_,e2,fun a ha=>?_⟩
  ·show(if 0<=(b:Int)/\(b:Int)<(L2:Int)then _ else none)=_
   rw [if_pos ⟨Int.natCast_nonneg _,by exact_mod_cast hb⟩];exact e1
  ·rw [e3 a ha,jzf3 _ _ _ _ (by omega)]
   by_cases e:b=a
   ·subst e
    rw [if_pos rfl,if_neg hn.1,if_pos (by simp)];grind
   ·rw [if_neg e]
    by_cases e4:a∈x
    ·rw [if_pos e4,if_pos (xO _ e4)]
    ·rw [if_neg e4,if_neg (fun hm=>(xZ.1 hm).elim (fun e5=>e e5.symm) e4)]
theorem ldP_okZ{L2:Nat}:∀(Z:List ((Nat×List Nat)×Rat)) (ld:List Rat),ld.length=L2->(∀z∈Z,z.1.2.Nodup/\∀a∈z.1.2,a<L2)->∃ld',ldP L2 ld (Z.map pzI)=some ld'/\ld'.length=L2/\∀a,a<L2->at_ ld' a=at_ ld a+ls (fun z=>if a∈z.1.2 then z.2 else 0) Z
 | [],ld,hl,_=>⟨ld,rfl,hl,fun a _=>by show _=_+(0:Rat);grind⟩
 |z::Z,ld,hl,h=>by
  obtain⟨h1,h2⟩:=h z (by simp);obtain⟨l1,e1,e2,e3⟩:=ldA_okZ (f:=z.2) z.1.2 ld hl h1 h2;obtain⟨l2,k1,k2,k3⟩:=ldP_okZ Z l1 e2 fun y hy=>h y (xO _ hy);refine⟨l2,?_,k2,fun a ha=>?_⟩
  ·show(match ldA L2 z.2 ld (z.1.2.map fun a:Nat=>(a:Int))with|none=>none|some ld'=>ldP L2 ld' (Z.map pzI))=_
   rw [e1];exact k1
  ·rw [k3 a ha,e3 a ha]
   show _=at_ ld a+((if a∈z.1.2 then z.2 else 0)+ls _ Z);grind
section
variable {t:Tp} {l:List Dm} {v:Rat} {Z:List ((Nat×List Nat)×Rat)} {pr:List Rat}
theorem jzfc(hv:validP t=true)(h:∀z∈Z,∃s d,Lpl t s d z.1.2):∃ld,loadsP t (Z.map pzI)=(ld,0)/\ld.length=2*t.links.length/\∀a,a<2*t.links.length->at_ ld a=ls (fun z=>if a∈z.1.2 then z.2 else 0) Z:=by
 obtain⟨ld,h1,h2,h3⟩:=ldP_okZ (L2:=2*t.links.length) Z (List.replicate (2*t.links.length) 0) (xC) fun z hz=>by
  obtain⟨s,d,hl⟩:=h z hz;exact⟨hl.nodup,jzd0 _ hl.1⟩
 refine⟨ld,?_,h2,fun a ha=>by rw [h3 a ha,jzhu];grind⟩;unfold loadsP;rw [if_pos hv,h1]
theorem jzmd(hD:l.length<=64)(hf:Fit t l)(h:Adm (2*t.links.length) l.length (amQ l) (capQ t) v Z)(hl:∀z∈Z,Lpl t (srcN l z.1.1) (dstN l z.1.1) z.1.2):admP t l v (Z.map pzI)=true:=by
 obtain⟨qa,e1,e2⟩:=rtB_okZ hf Z [] (List.replicate l.length 0) xC (fun z hz=>⟨h.dem z hz,h.pos z hz,hl z hz,fun hm=>by cases hm⟩) h.dif;obtain⟨ld,k1,k2,k3⟩:=jzfc hf.v (Z:=Z) fun z hz=>⟨_,_,hl z hz⟩;unfold admP;rw [(jza0 hD).2 hf,Bool.true_and,e1,k1];show(sumOk l v qa l.length&&loadOk t ld ld.length)=true;rw [vM];constructor
 ·unfold sumOk
  rw [xW];intro d hd;have hd:=vX.1 hd;rw [decide_eq_true_eq,e2 d hd,jzhu,h.sum d hd];grind
 ·unfold loadOk
  rw [xW];intro a ha;have ha:=vX.1 ha;rw [k2]at ha;rw [decide_eq_true_eq,k3 a ha];exact h.cap a ha
theorem chZ_of(hf:Fit t l){d:Nat}(hd:d<l.length):chZ t l pr d=chP t [] pr (srcN l d:Int) (dstN l d:Int):=by
 obtain⟨h1,h2⟩:=jzl9 hf hd;unfold chZ;rw [h1,h2]
theorem PlanOK.chk(hD:l.length<=64)(hf:Fit t l)(h:PlanOK t l v Z pr)(v':Rat)(Z':List PthI):chkP t l v' Z' pr=(admP t l v' Z'&&decide (v=v')):=by
 have h1:decide (pr.length=2*t.links.length)=true:=yO h.plen;have h2:posOk pr pr.length=true:=by
  unfold posOk;rw [xW];intro a _;exact yO (at_nn h.pnn a)
 have h3:cheOk t l pr l.length=true:=by
  unfold cheOk;rw [xW];intro d hd;have hd:=vX.1 hd;obtain⟨n1,n2,_⟩:=hf.nodes hd;rw [decide_eq_true_eq,chZ_of hf hd];rcases jzdq hf.v (jzah h.plen h.pnn) n1 n2 with⟨x,e,_⟩|⟨_,e⟩
  ·rw [e]
  ·obtain⟨y,hy⟩:=h.conn d hd
   exact absurd hy (e y)
 have h4:worN t pr pr.length=v:=by
  have:=h.worth;unfold worN;rw [h.plen];exact this
 have h5:decide (1<=needN t l pr l.length)=true:=by
  rw [decide_eq_true_eq];have:=h.need;unfold needN;have e:(sm l.length fun d=>amQ l d*prQ pr (chZ t l pr d).1)=sm l.length fun d=>amQ l d*chQ t pr (srcN l d) (dstN l d):=sm_congr _ fun d hd=>by
   rw [chZ_of hf hd];rfl
  rw [e];exact this
 unfold chkP;rw [h1,h2,h3,h4,h5];simp
theorem PlanOK.admits(hD:l.length<=64)(hf:Fit t l)(h:PlanOK t l v Z pr):admP t l v (Z.map pzI)=true:=jzmd hD hf h.adm h.loop
theorem PlanOK.checks(hD:l.length<=64)(hf:Fit t l)(h:PlanOK t l v Z pr):chkP t l v (Z.map pzI) pr=true:=by
 rw [h.chk hD hf,h.admits hD hf];simp
end
def srch(t:Tp):Nat->List Nat->Nat->Nat->List (List Nat)
 |0,_,_,_=>[]
 |f+1,seen,u,v=>if u∈seen then []else(if u=v then [[]]else [])++(leavP t u).flatMap fun a=>(srch t f (u::seen) (headP t a).toNat v).map (a:: ·)
theorem jzme(t:Tp)(u:Nat)(x:List Nat):u∈nds t u x:=by
 rw [jzcg];simp
theorem jzmf{t:Tp}{v:Nat}:∀(x:List Nat) (f:Nat) (seen:List Nat) (u:Nat) (first:Bool),x.length<f->PO t u first x v->(nds t u x).Nodup->(∀s∈seen,s∉nds t u x)->x∈srch t f seen u v
 |x,0,_,_,_,h,_,_,_=>absurd h (Nat.not_lt_zero _)
 | [],f+1,seen,u,first,_,hp,_,hs=>by
   have hu:u∉seen:=fun hm=>hs u hm (jzme t u []);have hp:u=v:=hp;unfold srch;rw [if_neg hu,if_pos hp];simp
 |a::x,f+1,seen,u,first,hl,hp,hn,hs=>by
  have hu:u∉seen:=fun hm=>hs u hm (jzme t u (a::x));obtain⟨h1,_,h3⟩:=hp;have hn:(u::nds t (headP t a).toNat x).Nodup:=hn;rw [List.nodup_cons]at hn;unfold srch;rw [if_neg hu];refine xY.2 (.inr (List.mem_flatMap.2 ⟨a,h1,List.mem_map.2 ⟨x,?_,rfl⟩⟩));refine jzmf x f (u::seen) _ false (by have:x.length+1<f+1:=hl;omega) h3 hn.2 fun s hs2=>?_;rcases xZ.1 hs2 with e|e
  ·rw [e];exact hn.1
  ·intro hm
   exact hs s e (xO u hm)
theorem Lpl.srch{t:Tp}(hv:validP t=true){s d:Nat}{x:List Nat}(hs:s<t.nodes.toNat)(h:Lpl t s d x):x∈Go.Proofs.YthbmikapohlikaaGreatDoor.srch t t.nodes.toNat [] s d:=
 jzmf x _ [] s true (by have:=h.len hv hs;omega) h.1 h.2 (fun _ h=>by cases h)
def rgT:Tp:=⟨4,[],[⟨0,1,1,1,3,1,0⟩,⟨1,2,1,1,3,1,0⟩,⟨2,3,1,1,3,1,0⟩,⟨3,0,1,1,3,1,0⟩]⟩
def rgA:Dm:=⟨0,2,4,0⟩
def rgB:Dm:=⟨2,0,4,0⟩
theorem jzfd:validP rgT=true:=by decide
theorem rg_02{x:List Nat}(h:Lpl rgT 0 2 x):x=[0,2]\/x=[7,5]:=by
 have h1:=h.srch jzfd (by decide);rw [show Go.Proofs.YthbmikapohlikaaGreatDoor.srch rgT rgT.nodes.toNat [] 0 2=[[0,2],[7,5]]from by decide]at h1
 simpa using h1
theorem jzib{t:Tp}{s d a b m:Nat}(ha:a∈leavP t s)(hb:b∈leavP t m)(e1:(headP t a).toNat=m)(e2:(headP t b).toNat=d)(ho:overP t (m:Int)=false)(hn:([s,m,d]:List Nat).Nodup):Lpl t s d [a,b]:=by
 refine⟨⟨ha,.inl rfl,?_⟩,?_⟩
 ·rw [e1]
  exact⟨hb,.inr ho,e2⟩
 ·rw [jzcg]
  simp only [List.map_cons,List.map_nil,e1,e2];exact hn
theorem rg_p1:Lpl rgT 0 2 [0,2]:=jzib (m:=1) (by decide) (by decide) (by decide) (by decide) (by decide) (by decide)
theorem rg_p2:Lpl rgT 0 2 [7,5]:=jzib (m:=3) (by decide) (by decide) (by decide) (by decide) (by decide) (by decide)
theorem rg_p3:Lpl rgT 2 0 [3,1]:=jzib (m:=1) (by decide) (by decide) (by decide) (by decide) (by decide) (by decide)
theorem rg_p4:Lpl rgT 2 0 [4,6]:=jzib (m:=3) (by decide) (by decide) (by decide) (by decide) (by decide) (by decide)
def rgP:List Rat:=[1/4,0,0,0,0,0,0,1/4]
theorem rgP_nn:∀q∈rgP,0<=q:=by decide+kernel
theorem rg_ch02:chQ rgT rgP 0 2=1/4:=by
 unfold chQ;rcases jzdq jzfd (jzah (pr:=rgP) rfl rgP_nn) (s:=0) (d:=2) (by decide) (by decide)with⟨x,e,h,_⟩|⟨_,h⟩
 ·rw [e]
  rcases rg_02 h with rfl|rfl <;> decide+kernel
 ·exact absurd rg_p1 (h _)
theorem rg_ch20:0<=chQ rgT rgP 2 0:=prQ_pos (jzax (jzah (t:=rgT) rfl rgP_nn)) _
theorem rg_fit{l:List Dm}(hn:0<l.length)(h:∀x∈l,x=rgA\/x=rgB):Fit rgT l:=⟨jzfd,hn,fun x hx=>by rcases h x hx with rfl|rfl <;> decide⟩
theorem jzic:Fit rgT [rgA]:=rg_fit (by decide) (by simp)
theorem jzmg:Fit rgT [rgA,rgB]:=rg_fit (by decide) (by simp)
def rgZ1:List ((Nat×List Nat)×Rat):=[((0,[0,2]),3),((0,[7,5]),3)]
def rgZ2:List ((Nat×List Nat)×Rat):=rgZ1++[((1,[3,1]),3),((1,[4,6]),3)]
theorem jzmh(n:Nat){p:Nat->Bool}(h:(List.range n).all p=true):∀k,k<n->p k=true:=fun k hk=>xW.1 h k (vX.2 hk)
theorem jzg0:PlanOK rgT [rgA] (3/2) rgZ1 rgP:=by
 refine⟨⟨by decide,by decide+kernel,by decide,fun d hd=>?_,fun a ha=>?_⟩,fun z hz=>?_,rfl,rgP_nn,by decide+kernel,?_,fun d hd=>?_⟩
 ·exact of_decide_eq_true (jzmh 1 (p:=fun d=>decide (ls (fun z=>if z.1.1=d then z.2 else 0) rgZ1=3/2*amQ [rgA] d)) (by decide+kernel) d hd)
 ·exact of_decide_eq_true (jzmh 8 (p:=fun a=>decide (ls (fun z=>if a∈z.1.2 then z.2 else 0) rgZ1<=capQ rgT a)) (by decide+kernel) a ha)
 ·rcases xZ.1 hz with rfl|hz
  ·exact rg_p1
  ·rw [xD.1 hz];exact rg_p2
 ·show(1:Rat)<=0+4*chQ rgT rgP 0 2
  rw [rg_ch02];decide+kernel
 ·have hd:d<1:=hd
  obtain rfl:d=0:=(by omega);exact⟨_,rg_p1⟩
theorem jzmi:PlanOK rgT [rgA,rgB] (3/2) rgZ2 rgP:=by
 refine⟨⟨by decide,by decide+kernel,by decide,fun d hd=>?_,fun a ha=>?_⟩,fun z hz=>?_,rfl,rgP_nn,by decide+kernel,?_,fun d hd=>?_⟩
 ·exact of_decide_eq_true (jzmh 2 (p:=fun d=>decide (ls (fun z=>if z.1.1=d then z.2 else 0) rgZ2=3/2*amQ [rgA,rgB] d)) (by decide+kernel) d hd)
 ·exact of_decide_eq_true (jzmh 8 (p:=fun a=>decide (ls (fun z=>if a∈z.1.2 then z.2 else 0) rgZ2<=capQ rgT a)) (by decide+kernel) a ha)
 ·rcases xZ.1 hz with rfl|hz
  ·exact rg_p1
  ·rcases xZ.1 hz with rfl|hz
   ·exact rg_p2
   ·rcases xZ.1 hz with rfl|hz
    ·exact rg_p3
    ·rw [xD.1 hz];exact rg_p4
 ·show(1:Rat)<=0+4*chQ rgT rgP 0 2+4*chQ rgT rgP 2 0
  rw [rg_ch02];have:=rg_ch20;grind
 ·have hd:d<2:=hd
  rcases(by omega:d=0\/d=1)with rfl|rfl
  ·exact⟨_,rg_p1⟩
  ·exact⟨_,rg_p3⟩
theorem rg_full{Z:List ((Nat×List Nat)×Rat)}{pr:List Rat}{v:Rat}(h:PlanOK rgT [rgA] v Z pr):(fullP rgT (Z.map pzI)).length=4:=by
 have hv:v=3/2:=h.unique jzic jzg0;have qf:∀z∈Z,z.1.1=0/\(z.1.2=[0,2]\/z.1.2=[7,5]):=fun z hz=>by
  have h1:z.1.1<1:=h.adm.dem z hz;have h2:z.1.1=0:=(by omega);have h3:=h.loop z hz;rw [h2]at h3;exact⟨h2,rg_02 h3⟩
 have hA:ls (fun z=>if(0:Nat)∈z.1.2 then z.2 else 0) Z<=3:=h.adm.cap 0 (by decide);have hB:ls (fun z=>if(7:Nat)∈z.1.2 then z.2 else 0) Z<=3:=h.adm.cap 7 (by decide);have hS:ls (fun z=>if z.1.1=0 then z.2 else 0) Z=v*4:=h.adm.sum 0 (by decide);have qg:ls (fun z:(Nat×List Nat)×Rat=>if z.1.1=0 then z.2 else 0) Z=ls (fun z=>if(0:Nat)∈z.1.2 then z.2 else 0) Z+ls (fun z=>if(7:Nat)∈z.1.2 then z.2 else 0) Z:=by
  rw [<-ls_add];refine jzap fun z hz=>?_;obtain⟨h1,h2|h2⟩:=qf z hz
  ·rw [if_pos h1,h2,if_pos (by decide),if_neg (by decide)];grind
  ·rw [if_pos h1,h2,if_neg (by decide),if_pos (by decide)];grind
 rw [hv]at hS;have h0:ls (fun z:(Nat×List Nat)×Rat=>if(0:Nat)∈z.1.2 then z.2 else 0) Z=3:=(by grind);have h7:ls (fun z:(Nat×List Nat)×Rat=>if(7:Nat)∈z.1.2 then z.2 else 0) Z=3:=(by grind);have qe:∀a b:Nat,(∀x:List Nat,x=[0,2]\/x=[7,5]->(a∈x↔b∈x))->ls (fun z:(Nat×List Nat)×Rat=>if a∈z.1.2 then z.2 else 0) Z=ls (fun z=>if b∈z.1.2 then z.2 else 0) Z:=fun a b hab=>jzap fun z hz=>by
  have:=hab _ (qf z hz).2;by_cases e:a∈z.1.2
  ·rw [if_pos e,if_pos (this.1 e)]
  ·rw [if_neg e,if_neg (fun e2=>e (this.2 e2))]
 have qa:∀a:Nat,(∀x:List Nat,x=[0,2]\/x=[7,5]->a∉x)->ls (fun z:(Nat×List Nat)×Rat=>if a∈z.1.2 then z.2 else 0) Z=0:=fun a hab=>ls_zero fun z hz=>if_neg (hab _ (qf z hz).2);have h2:=qe 2 0 (by rintro x (rfl|rfl) <;> decide);have h5:=qe 5 7 (by rintro x (rfl|rfl) <;> decide);have h1:=qa 1 (by rintro x (rfl|rfl) <;> decide);have h3:=qa 3 (by rintro x (rfl|rfl) <;> decide);have h4:=qa 4 (by rintro x (rfl|rfl) <;> decide);have h6:=qa 6 (by rintro x (rfl|rfl) <;> decide);rw [h0]at h2;rw [h7]at h5;obtain⟨ld,k1,k2,k3⟩:=jzfc jzfd (Z:=Z) fun z hz=>⟨_,_,h.loop z hz⟩;have k2:ld.length=8:=k2;have c0:∀a,a<8->capQ rgT a=3:=fun a ha=>of_decide_eq_true (jzmh 8 (p:=fun a=>decide (capQ rgT a=3)) (by decide+kernel) a ha);have p3:((3:Rat)<=0)=False:=(by rw [eq_iff_iff,iff_false];decide+kernel);have q3:((3:Rat)<=3)=True:=(by rw [eq_iff_iff,iff_true];decide+kernel);unfold fullP fullN;rw [k1,if_pos rfl];simp only [];rw [k2,show List.range 8=[0,1,2,3,4,5,6,7]from by decide];have e0:=k3 0 (by decide);have e1:=k3 1 (by decide);have e2:=k3 2 (by decide);have e3:=k3 3 (by decide);have e4:=k3 4 (by decide);have e5:=k3 5 (by decide);have e6:=k3 6 (by decide);have e7:=k3 7 (by decide);simp only [List.filter_cons,List.filter_nil,e0,e1,e2,e3,e4,e5,e6,e7,h0,h1,h2,h3,h4,h5,h6,h7,c0 0 (by decide),c0 1 (by decide),c0 2 (by decide),c0 3 (by decide),c0 4 (by decide),c0 5 (by decide),c0 6 (by decide),c0 7 (by decide),p3,q3,decide_true,decide_false,if_true,if_false,Bool.false_eq_true];rfl
end Go.Proofs.YthbmikapohlikaaGreatDoor
namespace Go.Proofs.YthbmikapohlikaaGreatDoor
open Go.RowKit
theorem jzfe:(Tryz.prog.info? 56).map (fun i=>(i.zero,i.size,i.bytes))=some (some (.agg #[.int .i64 0,.int .i64 0,.int .i64 0,.int .i64 0,.int .i64 0,.int .i64 0,.int .i64 0]),7,56):=by kernel_rfl
def rgL(i:Nat):Lk:=⟨i,((i+1)%4:Nat),1,1,3,1,0⟩
theorem rgT_links:(List.range 4).map rgL=rgT.links:=rfl
def rgC(k:Nat):List Value:=((List.range k).map rgL).flatMap Lk.cells
theorem rgC_succ(k:Nat):rgC (k+1)=rgC k++(rgL k).cells:=by
 unfold rgC;rw [List.range_succ,List.map_append,List.flatMap_append];simp
theorem jzc6(w:World):
  Calls Tryz.prog 36 #[] w fun e w'=>∃(AL:Option Addr) (cl:Nat),e=.returned (.agg #[.int .i64 4,.slice none 0 0,.slice AL 4 cl])/\TopR w' rgT none 0 AL cl/\Ext w w':=by
 go_enter Tryz.func36,Tryz.ntmps36
 go_wp2
 go_loopw [2] (fun it wr=>∃(k:Nat) (v:Value),k<=4/\it=.int .i64 k/\wr.ownsRow (w.heap.size+2) 56 7 v k (rgC k)/\Blk wr (w.heap.size+1) 25 #[.int .i64 4,.slice none 0 0,v]/\Blk wr w.heap.size 25 #[.int .i64 0,.slice none 0 0,.slice none 0 0]/\Ext w wr) (fun i _=>4-(intOf i).toNat)
 case atStart=>exact⟨0,.slice none 0 0,by omega,rfl,World.ownsRow_nil _ _ _ _,Blk.new' _ _ _ (by simp),(Blk.new w _ _).alloc _,((Ext.refl w).alloc _).alloc _⟩
 case round=>
  obtain⟨k,v,hk,rfl,qg,qf,qh,hx⟩:=hrel;obtain⟨A,c,rfl,qo⟩:=jzab qg;obtain⟨⟨i0,i1,i2⟩,g0,g1,g2⟩:=qf.three;have OW:=Hx qg;have B1:=Hx qf;have B0:=Hx qh;have EX:=Hx hx;clear qg qf qh hx;by_cases qw:k<4
  ·have CS:=Hx (show(rgL k).cells=[.int .i64 (k:Int),.int .i64 (((k:Int)+1)%4),.int .i64 1,.int .i64 1,.int .i64 3,.int .i64 1,.int .i64 0] by
    unfold rgL Lk.cells;simp)
   have BC:=Hx (Blk.new wr 56 #[.int .i64 (k:Int),.int .i64 (((k:Int)+1)%4),.int .i64 1,.int .i64 1,.int .i64 3,.int .i64 1,.int .i64 0]);have XC:=Hx ((Ext.refl wr).alloc (.cells #[.int .i64 (k:Int),.int .i64 (((k:Int)+1)%4),.int .i64 1,.int .i64 1,.int .i64 3,.int .i64 1,.int .i64 0] 56));have VB:=Hx ((FrS.of_ext (S:=fun _=>False) XC.out).own OW.out (fun _ _ h=>h));have qp:=B1.out.lt
   go_wp2_with (at_builtin;refine jz2 _ 23 56 _ 7 56 rfl _ _ rfl Tryz.underlying23 jzfe rfl (by decide) (w.heap.size+2) (.slice A k c) k (rgC k) rfl VB.out [.int .i64 (k:Int),.int .i64 (((k:Int)+1)%4),.int .i64 1,.int .i64 1,.int .i64 3,.int .i64 1,.int .i64 0] rfl (by simp [Value.oneCell']) wr.heap.size rfl BC.out (by unfold maxLen;omega) (by omega) (by simp;omega) ?_)
   intro g8 c8 w8 qe qa qk;have k8:=FrS.of_grown (S:=fun b=>(Value.slice A k c).ownBlock=some b) qa fun g e=>e;have qj:∀kk,(Value.slice A k c).ownBlock=some kk->w.heap.size+2<=kk:=fun kk hkk=>(OW.out.lt kk hkk).1;have qf:Blk w8 (w.heap.size+1) 25 #[.int .i64 4,.slice none 0 0,.slice A k c]:=(qa.block _ (B1.out.alloc _).lt (fun e=>by have:=qj _ e.symm;omega)).trans (B1.out.alloc _);have qh:Blk w8 w.heap.size 25 #[.int .i64 0,.slice none 0 0,.slice none 0 0]:=(qa.block _ (B0.out.alloc _).lt (fun e=>by have:=qj _ e.symm;omega)).trans (B0.out.alloc _);have qm:Ext w w8:=Below.grown (EX.out.alloc _) qa (EX.out.alloc _).size (fun kk hkk=>by have:=qj kk hkk;omega);obtain⟨⟨i0,i1,i2⟩,g0,g1,g2⟩:=qf.three;have qi:=Hx (show World.ownsRow (w8.setCell ⟨w.heap.size+1,2,none⟩ (.slice (some ⟨g8,0,none⟩) (k+1) c8)) (w.heap.size+2) 56 7 (.slice (some ⟨g8,0,none⟩) (k+1) c8) (k+1) (rgC (k+1))from by
    rw [rgC_succ,CS.out];refine qe.kept (jze w8 (w.heap.size+1) 2 _) (.inr ?_);intro e;have:=(qe.lt _ e).1;omega)
   have N1:=Hx (qf.set_ 2 (.slice (some ⟨g8,0,none⟩) (k+1) c8));have N0:=Hx (qh.far (p:=⟨w.heap.size+1,2,none⟩) (by simp only;omega) (.slice (some ⟨g8,0,none⟩) (k+1) c8));have NE:=Hx (Ext.set_ qm (p:=⟨w.heap.size+1,2,none⟩) (by simp only;omega) (.slice (some ⟨g8,0,none⟩) (k+1) c8));clear qe qa qk k8 qj qf qh qm;go_wp2
   go_roundw
   case rel=>exact⟨k+1,_,by omega,by go_num,qi.out,N1.out,N0.out,NE.out⟩
   case measure=>simp [intOf];omega
  ·have qn:k=4:=by omega
   subst qn;have qt:=B0.out.lt;obtain⟨_,z0,z1,z2⟩:=B0.out.three;have TR:=Hx (show∀W:World,W.ownsRow (w.heap.size+2) 56 7 (.slice A 4 c) 4 (rgC 4)->TopR W rgT none 0 A c from fun W h=>⟨(by unfold i64;decide),by decide,qo,by decide,by decide,Rd.nil _ _,(jzbb h).rd,fun l hl=>by
    rw [<-rgT_links]at hl;obtain⟨i,hi,rfl⟩:=List.mem_map.1 hl;have:=vX.1 hi;unfold rgL Lk.wf i64;simp only [];omega⟩)
   have Q3:=Hx (((B0.out.set_ 0 (.int .i64 4)).set_ 1 (.slice none 0 0)).set_ 2 (.slice A 4 c));have k3:FrS (fun b=>b=w.heap.size) wr (((wr.setCell ⟨w.heap.size,0,none⟩ (.int .i64 4)).setCell ⟨w.heap.size,1,none⟩ (.slice none 0 0)).setCell ⟨w.heap.size,2,none⟩ (.slice A 4 c)):=FrS.of_grown (grown3 wr w.heap.size 0 _ _ _) fun g e=>(by injection e with e;exact e.symm);have qi:=Hx (show TopR (((wr.setCell ⟨w.heap.size,0,none⟩ (.int .i64 4)).setCell ⟨w.heap.size,1,none⟩ (.slice none 0 0)).setCell ⟨w.heap.size,2,none⟩ (.slice A 4 c)) rgT none 0 A c/\Ext w (((wr.setCell ⟨w.heap.size,0,none⟩ (.int .i64 4)).setCell ⟨w.heap.size,1,none⟩ (.slice none 0 0)).setCell ⟨w.heap.size,2,none⟩ (.slice A 4 c))from
    ⟨TR.out _ (k3.own OW.out fun g hg=>by have:=(OW.out.lt g hg).1;omega),k3.ext EX.out fun b hb=>by omega⟩)
   clear k3;go_wp2;have q3:=Q3.out;exact bodyPost_ret (v:=.agg #[.int .i64 4,.slice none 0 0,.slice A 4 c]) (by simp [results,Tryz.results36,go_sem,q3.cell]) rfl ⟨A,c,rfl,qi.out.1,qi.out.2⟩
def RB(w:World)(g:Nat)(q:Rat):Prop:=QB w g [q]
section
variable {w w':World} {g:Nat} {q q':Rat} {neg:Bool} {A:Option Addr} {n c:Nat} {A':Option Addr} {n' c':Nat}
theorem RB.of(hb:Blk w g 35 #[.bool neg,.slice A n c,.slice A' n' c'])(hr:RatR w neg A n c A' n' c' q):RB w g q:=by
 refine⟨[[.bool neg,.slice A n c,.slice A' n' c']],rfl,fun cs h=>by rw [xD.1 h];rfl,hb,fun i p h=>?_⟩;cases i with
 |zero=>
  injection h with h
  subst h;exact⟨_,rfl,neg,A,n,c,A',n',c',rfl,hr⟩
 |succ i=>simp at h
theorem RB.keep(h:RB w g q)(hx:Ext w w'):RB w' g q:=QB.keep h hx
theorem RB.lt(h:RB w g q):g<w.heap.size:=QB.lt h
theorem RB.at3(h:RB w g q):∃(neg:Bool) (A:Option Addr) (n c:Nat) (A':Option Addr) (n' c':Nat),
  (w.cell? ⟨g,0,none⟩=some (.bool neg)/\w.cell? ⟨g,1,none⟩=some (.slice A n c)/\w.cell? ⟨g,2,none⟩=some (.slice A' n' c'))/\
  (w.frozen? ⟨g,0,none⟩=false/\w.frozen? ⟨g,1,none⟩=false/\w.frozen? ⟨g,2,none⟩=false)/\RatR w neg A n c A' n' c' q:=by
 obtain⟨neg,A,n,c,A',n',c',⟨h0,h1,h2⟩,⟨f0,f1,f2⟩,hr⟩:=QB.at_ h (i:=0) (q:=q) rfl;exact⟨neg,A,n,c,A',n',c',⟨h0,h1,h2⟩,⟨f0,f1,f2⟩,hr⟩
theorem RB.put3(h:RB w g q)(hr:RatR w neg A n c A' n' c' q'):RB (((w.setCell ⟨g,0,none⟩ (.bool neg)).setCell ⟨g,1,none⟩ (.slice A n c)).setCell ⟨g,2,none⟩ (.slice A' n' c')) g q':=QB.put h (m:=0) (by simp) hr
end
structure ChI(W3 w:World)(g7 g8:Nat)(a b:Rat):Prop where
 r7:RB w g7 a
 r8:RB w g8 b
 fr:FrS (fun x=>x=g7\/x=g8) W3 w
section
variable {W3 w w':World} {g7 g8:Nat} {a b q:Rat} {neg:Bool} {A:Option Addr} {n c:Nat} {A':Option Addr} {n' c':Nat}
theorem ChI.keep(h:ChI W3 w g7 g8 a b)(hx:Ext w w'):ChI W3 w' g7 g8 a b:=⟨h.r7.keep hx,h.r8.keep hx,h.fr.tr (FrS.of_ext (S:=fun x=>x=g7\/x=g8) hx) fun b hb=>.inl hb⟩
theorem ChI.put7(h:ChI W3 w g7 g8 a b)(hne:g8≠g7)(hr:RatR w neg A n c A' n' c' q):ChI W3 (((w.setCell ⟨g7,0,none⟩ (.bool neg)).setCell ⟨g7,1,none⟩ (.slice A n c)).setCell ⟨g7,2,none⟩ (.slice A' n' c')) g7 g8 q b:=by
 have hg:=grown3 w g7 0 (.bool neg) (.slice A n c) (.slice A' n' c');obtain⟨cs,hb⟩:=QB.blk h.r7;exact⟨h.r7.put3 hr,QB.other h.r8 hg hb (by decide) hne,h.fr.tr (FrS.of_grown (S:=fun x=>x=g7\/x=g8) hg fun g e=>by injection e with e;exact .inl e.symm) fun b hb=>.inl hb⟩
theorem ChI.put8(h:ChI W3 w g7 g8 a b)(hne:g8≠g7)(hr:RatR w neg A n c A' n' c' q):ChI W3 (((w.setCell ⟨g8,0,none⟩ (.bool neg)).setCell ⟨g8,1,none⟩ (.slice A n c)).setCell ⟨g8,2,none⟩ (.slice A' n' c')) g7 g8 a q:=by
 have hg:=grown3 w g8 0 (.bool neg) (.slice A n c) (.slice A' n' c');obtain⟨cs,hb⟩:=QB.blk h.r8;exact⟨QB.other h.r7 hg hb (by decide) (fun e=>hne e.symm),h.r8.put3 hr,h.fr.tr (FrS.of_grown (S:=fun x=>x=g7\/x=g8) hg fun g e=>by injection e with e;exact .inr e.symm) fun b hb=>.inl hb⟩
end
end Go.Proofs.YthbmikapohlikaaGreatDoor
