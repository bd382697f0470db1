/- Part 23 of 26 of what the Flows claims share (the white space is struck, the texts are joined). -/
import Derived.Laws.Bits64b
import Derived.Test.YtojpooidhilnfaaGreatDoorH22
set_option linter.unusedVariables false
set_option linter.unusedSimpArgs false
set_option maxRecDepth 100000
set_option maxHeartbeats 8000000
namespace Go.Proofs.YtojpooidhilnfaaGreatDoor
open Go.Proofs.Tryz
open Go.RowKit
structure AdI(W3 wx:World)(t:Tp)(l:List Dm)(Z:List bA)(mb g P n:Nat)(ks:List (List UInt8))(sm:LQ):Prop where
 map:MpS wx mb n ks
 qb:QB wx g sm
 fr:FrS (fun b=>b=mb\/b=g) W3 wx
 eq:rtB t l [] (List.replicate l.length 0) Z=rtB t l ks sm (Z.drop n)
 len:sm.length=l.length
 sz:∀q∈sm,SzQ q (1+n*(P+1))
theorem AdI.K{W3 wx wy}{t}{l:List Dm}{Z:List bA}{mb g P n:Nat}{ks:List (List UInt8)}{sm:LQ}(h:AdI W3 wx t l Z mb g P n ks sm)(hx:Ext wx wy):AdI W3 wy t l Z mb g P n ks sm:=
 ⟨h.map.K hx,h.qb.K hx,h.fr.tr (eE (S:=fun b=>b=mb\/b=g) hx) fun b hb=>.inl hb,h.eq,h.len,h.sz⟩
theorem jzo4(l:List UInt8):(⟨l.toArray⟩:ByteArray).size=l.length:=by show l.toArray.size=_;simp
theorem jzo5 t AO(co:Nat)AL(cl:Nat)(l:List Dm)AD(cd:Nat)(v:Rat)(nv:Bool)V1(nv1 cv1:Nat)V2(nv2 cv2:Nat)(Z:List bA)PA(np cp:Nat)(hnp:Z.length=np)PR(nr cr P:Nat)w(ht:aX w t AO co AL cl)(hd:DmR w l AD cd)(hlD:l.length<=64)(vc:aE w nv V1 nv1 cv1 V2 nv2 cv2 v)(q4:SzQ v 1000000)(hp:PLr w PA Z)
  (hnl:np<=1000) (q2:∀p∈Z,SzQ p.flow P) (hP1:1<=P) (q5:∀p∈Z,p.arcs.length<=1000) (qE:∀p∈Z,i64 p.dem/\∀a∈p.arcs,i64 a) (hPb:P<=10000) (hK:1+cK Z*(P+1)<=50000000) (hta:Tab w):
  Calls prog 69 #[.agg #[vI t.nodes,.s AO t.over.length co,.s AL t.links.length cl],.s AD l.length cd,.agg #[.bool nv,.s V1 nv1 cv1,.s V2 nv2 cv2,.s PA np cp,.s PR nr cr]] w fun e w'=>e=.returned (.bool (cS t l v Z))/\Ext w w':=by
 have HT:=Hx (kQa ht hd);have HZ:=Hx (kQa hp (kQa q2 (kQa q5 qE)));have HV:=Hx (kQa vc q4);have vt:=Hx hta;have vZ:=hd.len;have v0:=ht.ll;have v3:=ht.cl;obtain⟨q0,vi,e0⟩:=dH w #[vI t.nodes,.s AO t.over.length co,.s AL t.links.length cl] 25 #[.bool nv,.s V1 nv1 cv1,.s V2 nv2 cv2,.s PA np cp,.s PR nr cr] 39;obtain⟨⟨i0,i1,i2⟩,_⟩:=q0.t3;have E0:=Hx (kQa q0 (kQa vi e0));clear ht hd vc q4 hp q2 q5 qE hta q0 vi e0;go_enter func69,ntmps69;(go_wp2_with fail);refine(jzdl t AO co AL cl l AD cd _ (HT.o.1.K E0.o.2.2) (HT.o.2.K E0.o.2.2)).mono ?_;rintro e w1 ⟨rfl,qS⟩;have E1:Hid (Blk w1 w.heap.size 25 #[vI t.nodes,.s AO t.over.length co,.s AL t.links.length cl]/\Blk w1 (w.heap.size+1) 39 #[.bool nv,.s V1 nv1 cv1,.s V2 nv2 cv2,.s PA np cp,.s PR nr cr]/\Ext w w1):=Hx (⟨E0.o.1.K qS,E0.o.2.1.K qS,E0.o.2.2.tr qS⟩);clear qS i0 i1 i2 E0;cases hf:cY t l;{have qh:=Hx (show cS t l v Z=false by unfold cS;rw[hf];rfl);go_wp2;go_ret;rw[qh.o];exact⟨rfl,E1.o.2.2⟩}
 have qm:=Hx ((lZ hlD).1 hf);have HR:=Hx (show cS t l v Z=match rtB t l [] (List.replicate l.length 0) Z with
  |none=>false
  |some sm=>gB l v sm l.length&&fR t (bM t Z).1 (bM t Z).1.length by unfold cS;rw[hf];rfl)
 clear hf;have vT:=mW l.length (by omega);have vG:∀W:World,(Instr.makeMap 101 none).run prog W=.ok (.map (some W.heap.size)) (W.alloc (.map #[] 0)):=fun W=>rfl;have c3:w1.cell? (aD (w.heap.size+1) 3)=some (.s PA np cp):=E1.o.2.1.cell 3;(go_upto_region 5 with fail);have q3:(w1.alloc (.map #[] 0)).heap.size=w1.heap.size+1:=(by simp);have M3:Hid (MpS ((w1.alloc (.map #[] 0)).alloc (.cells (madeCells #[.bool false,zN,zN] (l.length*3)) 35)) w1.heap.size 0 []):=Hx ((MpS.made w1).K ((eR _).alloc _));have Q3:Hid (QB ((w1.alloc (.map #[] 0)).alloc (.cells (madeCells #[.bool false,zN,zN] (l.length*3)) 35)) (w1.heap.size+1) (List.replicate l.length 0)):=Hx (by have:=QB.made (w1.alloc (.map #[] 0)) l.length;rw[q3]at this;exact this);have X3:Hid (Ext w1 ((w1.alloc (.map #[] 0)).alloc (.cells (madeCells #[.bool false,zN,zN] (l.length*3)) 35))):=Hx (((eR w1).alloc _).alloc _);have vW:w.heap.size+1<w1.heap.size:=E1.o.2.1.lt;clear vG vT q3 c3;generalize (w1.alloc (.map #[] 0)).alloc (.cells (madeCells #[.bool false,zN,zN] (l.length*3)) 35)=W3 at*;generalize hmb:w1.heap.size=mb at*;have E3:Hid (Blk W3 w.heap.size 25 #[vI t.nodes,.s AO t.over.length co,.s AL t.links.length cl]/\Blk W3 (w.heap.size+1) 39 #[.bool nv,.s V1 nv1 cv1,.s V2 nv2 cv2,.s PA np cp,.s PR nr cr]/\Ext w W3):=Hx (⟨E1.o.1.K X3.o,E1.o.2.1.K X3.o,E1.o.2.2.tr X3.o⟩);have I0:Hid (AdI W3 W3 t l Z mb (mb+1) P 0 [] (List.replicate l.length 0)):=Hx (⟨M3.o,Q3.o,FrS.refl _ _,rfl,xC,fun q hq=>by rw[uF hq];exact SzQ.zero.mono (by omega)⟩);have c3:W3.cell? (aD (w.heap.size+1) 3)=some (.s PA np cp):=E3.o.2.1.cell 3;clear M3 Q3 E1 X3;go_wp2;clear c3;go_loopg [10,11,29] np (fun q _ _ it wx=>∃(n:Nat) (ks:List (List UInt8)) (sm:LQ),np-n=q/\n<=np/\it=vI (n:Int)/\Hid (AdI W3 wx t l Z mb (mb+1) P n ks sm));(case atStart=>exact⟨0,[],_,rfl,yZ _,rfl,I0⟩);obtain⟨n,ks,sm,rfl,hn,rfl,I⟩:=hrel;clear I0;have XW:Hid (Ext w wr):=Hx (I.o.fr.ext E3.o.2.2 fun b hb=>by omega);by_cases vo:n<np
 ·obtain⟨p,hp⟩:∃p,Z[n]?=some p:=⟨_,yG (by omega)⟩;obtain⟨b,o,AA,ca,neg,A1,n1,c1,A2,n2,c2,rfl,hb,⟨a0,a1,a2,a3,a4⟩,vp,qB,vd⟩:=PLr.at5 HZ.o.1 hp;have a0:=aB XW.o a0;have a1:=aB XW.o a1;have a2:=aB XW.o a2;have a3:=aB XW.o a3;have a4:=aB XW.o a4;have hb:b<wr.heap.size:=yL hb XW.o.size;have qV:=yJ hp;have v2:p.arcs.length<=1000:=HZ.o.2.2.1 p qV;have qw:=Hx qV;have nN:(n:Int)<(np:Int):=(by omega);have n0:(0:Int)<=(n:Int):=(by omega);have RA:=Hx (kQa qB vd);have X8:Hid (Ext wr (wr.alloc (.cells #[vI p.dem,.s AA p.arcs.length ca,.bool neg,.s A1 n1 c1,.s A2 n2 c2] 87))):=Hx ((eR wr).alloc _);have B8:=Hx (eN wr 87 #[vI p.dem,.s AA p.arcs.length ca,.bool neg,.s A1 n1 c1,.s A2 n2 c2]);have NX:=Hx (jzox (t:=t) (l:=l) hp ks sm);clear hp qB vd qV;go_upto_region 8 with fail
  clear a0 a1 a2 a3 a4;generalize wr.alloc (.cells #[vI p.dem,.s AA p.arcs.length ca,.bool neg,.s A1 n1 c1,.s A2 n2 c2] 87)=W8 at*;generalize hbd:wr.heap.size=bd at*;have qz:Hid (Ext w W8):=Hx (XW.o.tr X8.o);have I8:=Hx (I.o.K X8.o);have qN:=Hx (show∀wx,Ext W8 wx->Calls prog 94 #[.agg #[vI p.dem,.s AA p.arcs.length ca,.bool neg,.s A1 n1 c1,.s A2 n2 c2]] wx fun e w'=>e=.returned (.string ⟨(dW p).toArray⟩)/\Ext wx w' from fun wx hx=>
   jzei p.dem p.arcs AA p.arcs.length ca rfl neg A1 n1 c1 A2 n2 c2 wx (vt.o.K (qz.o.tr hx)) (RA.o.1.K (qz.o.tr hx)) (by omega) (HZ.o.2.2.2 p qw.o).1 (HZ.o.2.2.2 p qw.o).2)
  have ve:Hid ((⟨(dW p).toArray⟩:ByteArray).size<=maxLen):=Hx (by rw[jzo4];have h1:=wZ p.dem p.arcs (HZ.o.2.2.2 p qw.o).1 (HZ.o.2.2.2 p qw.o).2;have h2:(dW p).length<=20+21*p.arcs.length:=h1;unfold maxLen;omega);have LK:Hid (∀wx,Ext W8 wx->(Instr.lookup 101 (.map (some mb)) (.string ⟨(dW p).toArray⟩) false).run prog wx=.ok (.bool (decide (dW p∈ks))) wx):=Hx (fun wx hx=>(I8.o.map.K hx).look ⟨(dW p).toArray⟩ ve.o);have C8:Hid (∀wx,Ext W8 wx->wx.cell? (aD bd 0)=some (vI p.dem)/\wx.cell? (aD bd 1)=some (.s AA p.arcs.length ca)/\wx.cell? (aD bd 2)=some (.bool neg)/\wx.cell? (aD bd 3)=some (.s A1 n1 c1)/\wx.cell? (aD bd 4)=some (.s A2 n2 c2)):=Hx (fun wx hx=>⟨(B8.o.K hx).cell 0,(B8.o.K hx).cell 1,(B8.o.K hx).cell 2,(B8.o.K hx).cell 3,(B8.o.K hx).cell 4⟩);obtain⟨b0,b1,b2,b3,b4⟩:=C8.o _ (eR W8);go_cut [54] (fun s wx=>s=.bool (!decide (rtA l ks p))/\Ext W8 wx);(case first=>by_cases h1:p.dem<0;{have FA:=Hx (yP (fun h:rtA l ks p=>by have:=h.1.1;omega));have vV:decide (p.dem<0)=true:=yO h1;go_wp2;go_meet;rw[FA.o];exact⟨rfl,eR _⟩};by_cases h2:(l.length:Int)<=p.dem;{have FA:=Hx (yP (fun h:rtA l ks p=>by have:=h.1.2;omega));go_wp2;go_meet;rw[FA.o];exact⟨rfl,eR _⟩};have vL:Hid (0<=p.dem/\p.dem<(l.length:Int)):=Hx (⟨by omega,by omega⟩);(go_wp2_with fail);refine(qN.o _ (eR _)).mono ?_;rintro e w4 ⟨rfl,x4⟩;have X4:=Hx x4;obtain⟨b0,b1,b2,b3,b4⟩:=C8.o _ x4;clear x4;by_cases h3:dW p∈ks;{have qU:decide (dW p∈ks)=true:=yO h3;have FA:=Hx (yP (fun h:rtA l ks p=>h.2.1 h3));have qW:=LK.o _ X4.o;rw[qU]at qW;go_wp2;go_meet;rw[FA.o];exact⟨rfl,X4.o⟩};have qU:decide (dW p∈ks)=false:=yP h3;have qW:=LK.o _ X4.o;rw[qU]at qW;(go_wp2_with fail);refine(dA neg A1 n1 c1 A2 n2 c2 p.flow _ (RA.o.2.K (qz.o.tr X4.o))).mono ?_;rintro e w5 ⟨rfl,x5⟩;have X5:=Hx (X4.o.tr x5);clear x5;by_cases h5:0<p.flow;{have h6:=(jzfo p.flow).2 h5;have FA:=Hx (yO (show rtA l ks p from⟨vL.o,h3,h5⟩));have h7:decide (aC p.flow<=0)=false:=yP (by omega);go_wp2;go_meet;rw[FA.o];exact⟨rfl,X5.o⟩};have h6:aC p.flow<=0:=Int.not_lt.1 fun h=>h5 ((jzfo p.flow).1 h);have FA:=Hx (yP (fun h:rtA l ks p=>h5 h.2.2));have h7:decide (aC p.flow<=0)=true:=yO h6;go_wp2;go_meet;rw[FA.o];exact⟨rfl,X5.o⟩);obtain⟨rfl,vh⟩:=hcut;have X9:=Hx vh;clear vh;by_cases hc:rtA l ks p
  ·rw[yO hc];have HC:=Hx hc;obtain⟨d,hd⟩:=kQj hc.1.1;have qo:d<l.length:=(by have:=hc.1.2;omega);have HD:=Hx hd;obtain⟨b0,b1,b2,b3,b4⟩:=C8.o _ X9.o;clear hc hd;(go_wp2_with fail);refine(qN.o _ X9.o).mono ?_;rintro e vK ⟨rfl,q8⟩;have qM:=Hx (X9.o.tr q8);clear q8 b0 b1 b2 b3 b4;go_wp2_with (at_mapUpdate;refine jzmi rfl _ _ _ rfl mb n ks rfl (I8.o.map.K qM.o) (by unfold maxLen;omega) ⟨(dW p).toArray⟩ rfl ve.o rfl ?_)
   intro qg qH qI;have qQ:FrS (fun b=>b=mb) vK qg:=eG qI fun g e=>(by injection e with e;exact e.symm);have vu:=I8.o.map.lt;have q1:=Hx (qQ.blk (B8.o.K qM.o) (by have:=I.o.map.lt;omega));have qL:=Hx (show MpS qg mb (n+1) (dW p::ks)/\QB qg (mb+1) sm/\FrS (fun b=>b=mb\/b=mb+1) W3 qg from
    ⟨qH,(I8.o.qb.K qM.o).fr qQ ((I8.o.map.K qM.o).noT _) (by omega),(I8.o.K qM.o).fr.tr qQ fun b hb=>.inl (.inl hb)⟩)
   have qe:Hid (Ext w qg):=Hx (qL.o.2.2.ext E3.o.2.2 fun b hb=>by omega);have vR:Hid (Blk qg w.heap.size 25 #[vI t.nodes,.s AO t.over.length co,.s AL t.links.length cl]):=Hx (qL.o.2.2.blk E3.o.1 (by omega));obtain⟨dm,qX⟩:∃dm,l[d]?=some dm:=⟨_,yG qo⟩;obtain⟨b',o',rfl,qG,a0,a1,a2,a3⟩:=HT.o.2.at_ qX;have a0:=aB qe.o a0;have a1:=aB qe.o a1;have a2:=aB qe.o a2;have a3:=aB qe.o a3;have qG:b'<qg.heap.size:=yL qG qe.o.size;have qO:Hid (kL l p.dem.toNat=dm.src/\kM l p.dem.toNat=dm.dst):=Hx (by rw[HD.o,xL];unfold kL kM;rw[qX];exact⟨rfl,rfl⟩);have d0:(0:Int)<=(d:Int):=(by omega);have dN:(d:Int)<(l.length:Int):=(by omega);have b0:qg.cell? (aD bd 0)=some (vI (d:Int)):=(by have h9:=q1.o.cell 0;rw[<-HD.o];exact h9);have qP:Hid (Ext qg (qg.alloc (.cells #[vI dm.src,vI dm.dst,vI dm.amount,vI dm.prio] 27))):=Hx ((eR qg).alloc _);have vn:=Hx (eN qg 27 #[vI dm.src,vI dm.dst,vI dm.amount,vI dm.prio]);clear qH qI qQ qX;(go_upto_region 12 with fail);clear a0 a1 a2 a3 b0;generalize qg.alloc (.cells #[vI dm.src,vI dm.dst,vI dm.amount,vI dm.prio] 27)=W12 at*;generalize hbe:qg.heap.size=be at*;have c0:=vn.o.cell 0;have vO:=vn.o.cell 1;have b1:=(q1.o.K qP.o).cell 1;obtain⟨⟨i0,i1,i2⟩,_⟩:=(vR.o.K qP.o).t3;have qJ:=Hx (qe.o.tr qP.o);(go_wp2_with fail);refine(jzow t AO co AL cl AA ca p.arcs dm.src dm.dst _ (HT.o.1.K qJ.o) qm.o.v (RA.o.1.K qJ.o) (by omega) vp).mono ?_;rintro e qk ⟨rfl,vg⟩;have qp:=Hx (qP.o.tr vg);clear vg c0 vO b1 i0 i1 i2;cases hlb:fD t p.arcs dm.src dm.dst;{have qh:=Hx (show cS t l v Z=false by rw[HR.o,I.o.eq,NX.o,if_neg (fun h:rtC t l ks p=>by have h9:=h.2;rw[qO.o.1,qO.o.2,hlb]at h9;cases h9)]);go_wp2;go_ret;rw[qh.o];exact⟨rfl,qe.o.tr qp.o⟩};have vw:Hid (rtB t l ks sm (Z.drop n)=rtB t l (dW p::ks) (sm.set d (Sx.at_ sm d+p.flow)) (Z.drop (n+1))):=Hx (by rw[NX.o,if_pos (show rtC t l ks p from⟨HC.o,by rw[qO.o.1,qO.o.2];exact hlb⟩),HD.o,xL])
   have qx:=Hx (show MpS qk mb (n+1) (dW p::ks)/\QB qk (mb+1) sm/\FrS (fun b=>b=mb\/b=mb+1) W3 qk from
    ⟨qL.o.1.K qp.o,qL.o.2.1.K qp.o,qL.o.2.2.tr (eE (S:=fun b=>b=mb\/b=mb+1) qp.o) fun b hb=>.inl hb⟩)
   have qD:=Hx (q1.o.K qp.o);obtain⟨ny,Y1,my,fy,qK,qF,qC,⟨s0,s1,s2⟩,_,hy⟩:=qx.o.2.1.at_ (aY (show d<sm.length by rw[I.o.len];exact qo));have qj:=(I.o.sz _ (yJ (aY (show d<sm.length by rw[I.o.len];exact qo))));have qf:1+n*(P+1)<=100000000:=(by have h1:n*(P+1)<=1000*(10000+1):=kQq (by omega) (by omega);omega)
   obtain⟨l1,vk⟩:=hy.lens (qj.mono qf);obtain⟨l2,vm⟩:=RA.o.2.lens (HZ.o.2.1 p qw.o);have RF:=Hx (kQa hy (RA.o.2.K (qe.o.tr qp.o)));have qa:=Hx (show∀wx,Ext qk wx->(wx.cell? (aD bd 0)=some (vI (d:Int))/\wx.cell? (aD bd 2)=some (.bool neg)/\wx.cell? (aD bd 3)=some (.s A1 n1 c1)/\wx.cell? (aD bd 4)=some (.s A2 n2 c2))/\(wx.cell? (aD (mb+1) (d*3))=some (.bool ny)/\wx.cell? (aD (mb+1) (d*3+1))=some (.s Y1 my fy)/\wx.cell? (aD (mb+1) (d*3+2))=some (.s qK qF qC))from fun wx hx=>
    ⟨⟨by
      have h9:=(qD.o.K hx).cell 0;rw[<-HD.o];exact h9,(qD.o.K hx).cell 2,(qD.o.K hx).cell 3,(qD.o.K hx).cell 4⟩,aB hx s0,aB hx s1,aB hx s2⟩)
   have XD:Hid (Ext qk qk.drew):=Hx ((eR qk).drewN 1);have HSW:=Hx (qa.o _ XD.o);clear hy s0 s1 s2 hlb qj;(go_upto_region 14 with fail);(refine wX qa 12 ?_;refine wP 0 rfl HSW.o ?_;try simp only[Act.put,yA,yB,yC,yD,yE,yF]);refine wP 1 rfl HSW.o ?_;refine wP 3 rfl HSW.o ?_;refine wP 4 rfl HSW.o ?_;refine wP 8 rfl HSW.o ?_;refine wV 2 rfl HSW.o ?_;refine wV 5 rfl HSW.o ?_;refine wP 6 rfl HSW.o ?_;refine wV 7 rfl HSW.o ?_;(refine wV 9 rfl HSW.o ?_;try simp only[Act.put,yA,yB,yC,yD,yE,yF]);refine wC 10 rfl (fun KK hK=>?_);go_simp;refine(gE ny neg Y1 my fy qK qF qC A1 n1 c1 A2 n2 c2 (Sx.at_ sm d) p.flow _ (RF.o.1.K XD.o) (RF.o.2.K XD.o) (by omega) (by omega) (by omega) (by omega) (fI (kQx (kQ7 _) (kQ7 _)))).mono ?_;rintro e w5 ⟨n5,A5,l5,c5,qt,qy,qn,rfl,h5,x5⟩;have E5:=Hx (XD.o.tr x5);have HSW:=Hx (qa.o _ E5.o);have Q5:=Hx (qx.o.2.1.K E5.o);have k9:FrS (fun b=>b=mb+1) w5 (((w5.setCell (aD (mb+1) (d*3)) (.bool n5)).setCell (aD (mb+1) (d*3+1)) (.s A5 l5 c5)).setCell (aD (mb+1) (d*3+2)) (.s qt qy qn)):=eG (S:=fun b=>b=mb+1) (fC w5 (mb+1) (d*3) _ _ _) fun g e=>(by injection e with e;exact e.symm);have QP:Hid (AdI W3 (((w5.setCell (aD (mb+1) (d*3)) (.bool n5)).setCell (aD (mb+1) (d*3+1)) (.s A5 l5 c5)).setCell (aD (mb+1) (d*3+2)) (.s qt qy qn)) t l Z mb (mb+1) P (n+1) (dW p::ks) (sm.set d (Sx.at_ sm d+p.flow))):=Hx (by (have vF:=(qx.o.1.K E5.o).lt;refine⟨(qx.o.1.K E5.o).same (k9.block mb vF (by omega)),Q5.o.put (by rw[I.o.len];exact qo) h5,(qx.o.2.2.tr (eE (S:=fun b=>b=mb\/b=mb+1) E5.o) fun b hb=>.inl hb).tr k9 fun b hb=>.inl (.inr hb),by rw[I.o.eq,vw.o],by rw[yV];exact I.o.len,fun q hq=>?_⟩;have e9:1+(n+1)*(P+1)=1+n*(P+1)+(P+1):=(by rw[xP,xQ,kZw]);rcases xE hq with h1|h1);{exact(I.o.sz q h1).mono (by omega)};rw[h1,e9];exact((I.o.sz _ (yJ (aY (show d<sm.length by rw[I.o.len];exact qo)))).add (HZ.o.2.1 p qw.o)).mono (by omega));(obtain⟨_,_,_,_,_,_,_,_,⟨z0,z1,z2⟩,_⟩:=Q5.o.at_ (aY (show d<sm.length by rw[I.o.len];exact qo));refine hK.o _ _ HSW.o ?_;clear hK KK x5 h5;try simp only[Act.put,yA,yB,yC,yD,yE,yF]);(refine wP 11 rfl HSW.o ?_;try simp only[Act.put,yA,yB,yC,yD,yE,yF]);obtain⟨⟨s0,s1,s2,s3⟩,t0,t1,t2⟩:=HSW.o;refine bY (by kernel_rfl) rfl (by rfl) (fun KK hK=>?_);go_simp;refine hK.o _ _ ?_;clear hK KK;refine wpAny_done (by kernel_rfl) ?_ _;clear s0 s1 s2 s3 t0 t1 t2 z0 z1 z2 HSW qa XD RF qD Q5 E5 qx k9 I;go_wp2;go_roundg (np-(n+1));(case measure=>omega);exact⟨n+1,_,_,rfl,by omega,by go_num,QP⟩
  rw[yP hc];have qh:=Hx (show cS t l v Z=false by rw[HR.o,I.o.eq,NX.o,if_neg (fun h:rtC t l ks p=>hc h.1)]);clear hc;go_wp2;go_ret;rw[qh.o];exact⟨rfl,qz.o.tr X9.o⟩
 obtain rfl:n=np:=(by omega);have q6:Hid (rtB t l [] (List.replicate l.length 0) Z=some sm):=Hx (by rw[I.o.eq,kQf (by omega)];rfl);have q7:Hid (cS t l v Z=(gB l v sm l.length&&fR t (bM t Z).1 (bM t Z).1.length)):=Hx (by rw[HR.o,q6.o]);obtain⟨W9,rfl⟩:∃W,W=wr:=⟨_,rfl⟩;have S0:Hid (Ext W9 W9/\gB l v sm 0=true):=Hx (⟨eR _,rfl⟩);go_wp2;go_loopg [12,13,87] l.length (fun q _ _ it wx=>∃(k:Nat),l.length-k=q/\k<=l.length/\it=vI (k:Int)/\Hid (Ext W9 wx/\gB l v sm k=true));(case atStart=>exact⟨0,rfl,yZ _,rfl,S0⟩);obtain⟨k,rfl,hk,rfl,S⟩:=hrel;clear S0;by_cases qi:k<l.length
 ·obtain⟨d,hd⟩:∃d,l[k]?=some d:=⟨_,yG qi⟩;have XS:=Hx (XW.o.tr S.o.1);obtain⟨b',o',rfl,qG,a0,a1,a2,a3⟩:=HT.o.2.at_ hd;have a0:=aB XS.o a0;have a1:=aB XS.o a1;have a2:=aB XS.o a2;have a3:=aB XS.o a3;have qG:b'<wr.heap.size:=yL qG XS.o.size;have AM:Hid (amQ l k=(d.amount:Rat)/\i64 d.amount/\SzQ (d.amount:Rat) 1):=Hx (by obtain⟨_,_,_,h4,h5,h6⟩:=qm.o.am qi;have e:l[k]=d:=(yH.1 hd).2;rw[e]at h4 h5 h6;exact⟨h4,by unfold i64;omega,SzQ.int (by unfold B32;omega)⟩);have nN:(k:Int)<(l.length:Int):=(by omega);have n0:(0:Int)<=(k:Int):=(by omega);have X8:Hid (Ext wr (wr.alloc (.cells #[vI d.src,vI d.dst,vI d.amount,vI d.prio] 27))):=Hx ((eR wr).alloc _);have B8:=Hx (eN wr 27 #[vI d.src,vI d.dst,vI d.amount,vI d.prio]);clear hd;(go_upto_region 19 with fail);clear a0 a1 a2 a3;generalize wr.alloc (.cells #[vI d.src,vI d.dst,vI d.amount,vI d.prio] 27)=W8 at*;generalize hbd:wr.heap.size=bd at*;have qY:=Hx (S.o.1.tr X8.o);have qz:=Hx (XS.o.tr X8.o);have Q8:=Hx (I.o.qb.K qY.o);have P8:=Hx ((I.o.fr.blk E3.o.2.1 (by omega)).K qY.o);obtain⟨ny,Y1,my,fy,qK,qF,qC,⟨s0,s1,s2⟩,_,hy⟩:=Q8.o.at_ (aY (show k<sm.length by rw[I.o.len];exact qi));have qj:=I.o.sz _ (yJ (aY (show k<sm.length by rw[I.o.len];exact qi)));have qf:1+n*(P+1)<=100000000:=(by have h1:n*(P+1)<=1000*(10000+1):=kQq (by omega) (by omega);omega)
  obtain⟨l1,vk⟩:=hy.lens (qj.mono qf);obtain⟨l2,vm⟩:=HV.o.1.lens HV.o.2;have RY:=Hx hy;have qa:=Hx (show∀wx,Ext W8 wx->(wx.cell? (aD (mb+1) (k*3))=some (.bool ny)/\wx.cell? (aD (mb+1) (k*3+1))=some (.s Y1 my fy)/\wx.cell? (aD (mb+1) (k*3+2))=some (.s qK qF qC))/\(wx.cell? (aD (w.heap.size+1) 0)=some (.bool nv)/\wx.cell? (aD (w.heap.size+1) 1)=some (.s V1 nv1 cv1)/\wx.cell? (aD (w.heap.size+1) 2)=some (.s V2 nv2 cv2))/\wx.cell? (aD bd 2)=some (vI d.amount)from fun wx hx=>
   ⟨⟨aB hx s0,aB hx s1,aB hx s2⟩,⟨(P8.o.K hx).cell 0,(P8.o.K hx).cell 1,(P8.o.K hx).cell 2⟩,(B8.o.K hx).cell 2⟩)
  (have XD:Hid (Ext W8 W8.drew):=Hx ((eR W8).drewN 1);have HSW:=Hx (qa.o _ XD.o);clear hy s0 s1 s2 qj;refine wX qa 10 ?_;refine wP 0 rfl HSW.o ?_;try simp only[Act.put,yA,yB,yC,yD,yE,yF]);refine wP 1 rfl HSW.o ?_;refine wP 2 rfl HSW.o ?_;refine wV 3 rfl HSW.o ?_;refine wP 4 rfl HSW.o ?_;refine wU [10,9] 5 rfl HSW.o ?_;refine wP 6 rfl HSW.o ?_;(refine wU [10,9,8] 7 rfl HSW.o ?_;try simp only[Act.put,yA,yB,yC,yD,yE,yF]);(refine wC 8 rfl (fun KK hK=>?_);go_simp;refine(kK d.amount _ AM.o.2.1).mono ?_;rintro e w4 ⟨n4,A4,l4,c4,vy,vJ,vx,rfl,h4,x4⟩;have E4:=Hx (XD.o.tr x4);have HSW:=Hx (qa.o _ E4.o);have R4:=Hx h4;obtain⟨l3,v1⟩:=h4.lens AM.o.2.2;refine hK.o _ _ HSW.o ?_;clear hK KK x4 h4;try simp only[Act.put,yA,yB,yC,yD,yE,yF]);(refine wC 9 rfl (fun KK hK=>?_);go_simp;refine(iH nv n4 V1 nv1 cv1 V2 nv2 cv2 A4 l4 c4 vy vJ vx v (d.amount:Rat) _ (HV.o.1.K (qz.o.tr E4.o)) R4.o (by omega) (by omega) (by omega) (by omega)).mono ?_;rintro e w5 ⟨n5,A5,l5,c5,qt,qy,qn,rfl,h5,x5⟩;have E5:=Hx (E4.o.tr x5);have HSW:=Hx (qa.o _ E5.o);have R5:=Hx h5;obtain⟨l6,vU⟩:=h5.lens (HV.o.2.mul AM.o.2.2);refine hK.o _ _ HSW.o ?_;clear hK KK x5 h5;try simp only[Act.put,yA,yB,yC,yD,yE,yF]);(refine bY (by kernel_rfl) rfl (by rfl) (fun KK hK=>?_);go_simp;refine(iB ny n5 Y1 my fy qK qF qC A5 l5 c5 qt qy qn (Sx.at_ sm k) (v*(d.amount:Rat)) _ (RY.o.K E5.o) R5.o (by omega) (by omega) (by omega) (by omega)).mono ?_;rintro e w6 ⟨rfl,x6⟩;have X6:=Hx (qY.o.tr (E5.o.tr x6));refine hK.o _ _ ?_;have SK:=Hx S.o.2;clear hK KK x6 HSW qa XD E5 R5 E4 R4 S;try simp only[Act.put,yA,yB,yC,yD,yE,yF]);refine mA (i:=11) (by kernel_rfl) rfl (by rfl) (fun KK hK=>?_);go_simp;refine hK.o _ _ ?_;clear hK KK;refine wpAny_done (by kernel_rfl) ?_ _;by_cases he:Sx.at_ sm k=v*(d.amount:Rat);{have hz:=(oX _ _).2 he;have qZ:Hid (Ext W9 w6/\gB l v sm (k+1)=true):=Hx (⟨X6.o,by rw[jzoy,SK.o,AM.o.1,yO he];rfl⟩);generalize aW (Sx.at_ sm k) (v*(d.amount:Rat))=z at*;subst hz;clear he SK;go_wp2;go_roundg (l.length-(k+1));(case measure=>omega);exact⟨k+1,rfl,by omega,by go_num,qZ⟩};have hz:¬aW (Sx.at_ sm k) (v*(d.amount:Rat))=0:=fun h=>he ((oX _ _).1 h);have qh:=Hx (show cS t l v Z=false by rw[q7.o,jzo0 (n:=k) (by rw[AM.o.1];exact he) qi];rfl);have XF:=Hx (XW.o.tr X6.o);generalize aW (Sx.at_ sm k) (v*(d.amount:Rat))=z at*;have z1:(z !=0)=true:=(by simpa using hz);have z2:(z==0)=false:=yK.2 hz;have z3:decide (z=0)=false:=yP hz;clear he SK;go_wp2;go_ret;rw[qh.o];exact⟨rfl,XF.o⟩
 obtain rfl:k=l.length:=(by omega);have XS:=Hx (XW.o.tr S.o.1);have T9:=Hx ((I.o.fr.blk E3.o.1 (by omega)).K S.o.1);have c3:=((I.o.fr.blk E3.o.2.1 (by omega)).K S.o.1).cell 3;obtain⟨⟨i0,i1,i2⟩,_⟩:=T9.o.t3;have va:Hid (cS t l v Z=fR t (bM t Z).1 (bM t Z).1.length):=Hx (by rw[q7.o,S.o.2];rfl);have q9:=Hx (jzo3 qm.o.v fun p hp=>jzo2 qm.o.v (jzfn Z _ _ _ q6.o p hp).2.2);have vH:=Hx (jzfj (t:=t) HZ.o.2.1);have vY:=(jzfk q9.o).2.1;have vl:t.links.length<=256:=(by have:=qm.o.v;unfold aI cG at this;simp at this;exact this.1.1.2);(go_wp2_with fail);refine(jzez t AO co AL cl Z PA n cp P hnp _ (HT.o.1.K XS.o) (HZ.o.1.K XS.o fun cs x h=>h.K XS.o) (by omega) HZ.o.2.1 hP1 (fun p hp=>by have:=HZ.o.2.2.1 p hp;omega) hK (by omega)).mono ?_;rintro e w2 ⟨A,rfl,vj,qT⟩;have X2:=Hx (XS.o.tr qT);have T2:=Hx (T9.o.K qT);have vq:=Hx vj;rw[q9.o];generalize hld:(bM t Z).1=ld at*;have L0:Hid (Ext w2 w2/\fR t ld 0=true):=Hx (⟨eR _,rfl⟩);clear vj qT i0 i1 i2 c3 T9 XS S I;go_wp2;go_loopg [16,17,114] ld.length (fun q _ _ it wx=>∃(k:Nat),ld.length-k=q/\k<=ld.length/\it=vI (k:Int)/\Hid (Ext w2 wx/\fR t ld k=true));(case atStart=>exact⟨0,rfl,yZ _,rfl,L0⟩);obtain⟨k,rfl,hk,rfl,S⟩:=hrel;clear L0;by_cases qi:k<ld.length
 ·obtain⟨b,o,neg,A1,n1,c1,A2,n2,c2,rfl,hb,a0,a1,a2,qB⟩:=vq.o.at_ (aY qi);have a0:=aB S.o.1 a0;have a1:=aB S.o.1 a1;have a2:=aB S.o.1 a2;have hb:b<wr.heap.size:=yL hb S.o.1.size;have RA:=Hx (qB.K S.o.1);have qj:=(vH.o _ (yJ (aY qi))).mono hK;have nN:(k:Int)<(ld.length:Int):=(by omega);have n0:(0:Int)<=(k:Int):=(by omega);have X8:Hid (Ext wr (wr.alloc (.cells #[.bool neg,.s A1 n1 c1,.s A2 n2 c2] 35))):=Hx ((eR wr).alloc _);have B8:=Hx (eN wr 35 #[.bool neg,.s A1 n1 c1,.s A2 n2 c2]);clear qB;go_upto_region 26 with fail
  clear a0 a1 a2;generalize wr.alloc (.cells #[.bool neg,.s A1 n1 c1,.s A2 n2 c2] 35)=W8 at*;generalize hbd:wr.heap.size=bd at*;have qA:=Hx (S.o.1.tr X8.o);obtain⟨l1,vk⟩:=RA.o.lens qj;have qa:=Hx (show∀wx,Ext W8 wx->(wx.cell? (aD bd 0)=some (.bool neg)/\wx.cell? (aD bd 1)=some (.s A1 n1 c1)/\wx.cell? (aD bd 2)=some (.s A2 n2 c2))/\(wx.cell? (aD w.heap.size 0)=some (vI t.nodes)/\wx.cell? (aD w.heap.size 1)=some (.s AO t.over.length co)/\wx.cell? (aD w.heap.size 2)=some (.s AL t.links.length cl))from fun wx hx=>
   ⟨⟨(B8.o.K hx).cell 0,(B8.o.K hx).cell 1,(B8.o.K hx).cell 2⟩,(T2.o.K (qA.o.tr hx)).cell 0,(T2.o.K (qA.o.tr hx)).cell 1,(T2.o.K (qA.o.tr hx)).cell 2⟩)
  (have XD:Hid (Ext W8 W8.drew):=Hx ((eR W8).drewN 1);have HSW:=Hx (qa.o _ XD.o);refine wX qa 4 ?_;refine wV 0 rfl HSW.o ?_;try simp only[Act.put,yA,yB,yC,yD,yE,yF]);refine wU [4,3] 1 rfl HSW.o ?_;(refine wP 2 rfl HSW.o ?_;try simp only[Act.put,yA,yB,yC,yD,yE,yF]);(refine wC 3 rfl (fun KK hK=>?_);go_simp;refine(sH t AO co AL cl k _ (HT.o.1.K (X2.o.tr (qA.o.tr XD.o))) qm.o.v (by omega)).mono ?_;rintro e w5 ⟨n5,A5,l5,c5,qt,qy,qn,rfl,h5,x5⟩;have E5:=Hx (XD.o.tr x5);have HSW:=Hx (qa.o _ E5.o);have R5:=Hx h5;obtain⟨l2,vm⟩:=h5.lens (pF qm.o.v (show k<2*t.links.length by omega));refine hK.o _ _ HSW.o ?_;clear hK KK x5 h5;try simp only[Act.put,yA,yB,yC,yD,yE,yF]);(refine bY (by kernel_rfl) rfl (by rfl) (fun KK hK=>?_);go_simp;refine(iB neg n5 A1 n1 c1 A2 n2 c2 A5 l5 c5 qt qy qn (Sx.at_ ld k) (aR t k) _ (RA.o.K (X8.o.tr E5.o)) R5.o (by omega) (by omega) (by omega) (by omega)).mono ?_;rintro e w6 ⟨rfl,x6⟩;have X6:=Hx (qA.o.tr (E5.o.tr x6));have SK:=Hx S.o.2;refine hK.o _ _ ?_;clear hK KK x6 HSW qa XD E5 R5 S;try simp only[Act.put,yA,yB,yC,yD,yE,yF]);refine mA (i:=5) (by kernel_rfl) rfl (by rfl) (fun KK hK=>?_);go_simp;refine hK.o _ _ ?_;clear hK KK;refine wpAny_done (by kernel_rfl) ?_ _;by_cases qR:aR t k<Sx.at_ ld k;{have h9:=(sI _ _).2 qR;have d9:decide (0<aW (Sx.at_ ld k) (aR t k))=true:=yO h9;have qh:=Hx (show cS t l v Z=false by rw[va.o];exact jzo1 (n:=k) (Rat.not_le.2 qR) qi);have XF:=Hx (X2.o.tr X6.o);go_wp2;go_ret;rw[qh.o];exact⟨rfl,XF.o⟩};have h9:¬0<aW (Sx.at_ ld k) (aR t k):=fun h=>qR ((sI _ _).1 h);have d9:decide (0<aW (Sx.at_ ld k) (aR t k))=false:=yP h9;have qZ:Hid (Ext w2 w6/\fR t ld (k+1)=true):=Hx (⟨X6.o,by rw[jzoz,SK.o,yO (kQ4.1 qR)];rfl⟩);clear SK X6;go_wp2;go_roundg (ld.length-(k+1));(case measure=>omega);exact⟨k+1,rfl,by omega,by go_num,qZ⟩
 obtain rfl:k=ld.length:=(by omega);have qh:=Hx (show cS t l v Z=true by rw[va.o];exact S.o.2);have XF:=Hx (X2.o.tr S.o.1);go_wp2;go_ret;rw[qh.o];exact⟨rfl,XF.o⟩
open Sx
def fS(pr:LQ)(n:Nat):Bool:=(List.range n).all fun a=>decide (0<=at_ pr a)
def eH(t:Tp)(pr:LQ)(n:Nat):Rat:=sm n fun a=>at_ pr a*aR t a
def chZ(t:Tp)(l:List Dm)(pr:LQ)(d:Nat):LN×Int:=chP t [] pr (kL l d) (kM l d)
def fU(t:Tp)(l:List Dm)(pr:LQ)(n:Nat):Bool:=(List.range n).all fun d=>decide ((chZ t l pr d).2=0)
def dX(t:Tp)(l:List Dm)(pr:LQ)(n:Nat):Rat:=sm n fun d=>amQ l d*prQ pr (chZ t l pr d).1
def fV(t:Tp)(l:List Dm)(v:Rat)(Z:List bA)(pr:LQ):Bool:=
 cS t l v Z&&decide (pr.length=2*t.links.length)&&fS pr pr.length&&fU t l pr l.length&&decide (eH t pr pr.length=v)&&decide (1<=dX t l pr l.length)
theorem jzo6(pr:LQ)(n:Nat):fS pr (n+1)=(fS pr n&&decide (0<=at_ pr n)):=by
 unfold fS;rw[kZc,List.all_append];simp
theorem jzo7 t(l:List Dm)(pr:LQ)(n:Nat):fU t l pr (n+1)=(fU t l pr n&&decide ((chZ t l pr n).2=0)):=by
 unfold fU;rw[kZc,List.all_append];simp
theorem jzo8{pr:LQ}{n m:Nat}(h:¬0<=at_ pr n)(hm:n<m):fS pr m=false:=sL (yP h) hm
theorem jzo9{t}{l:List Dm}{pr:LQ}{n m:Nat}(h:¬(chZ t l pr n).2=0)(hm:n<m):fU t l pr m=false:=sL (yP h) hm
theorem jzpa{pr:LQ}(h:fS pr pr.length=true):∀q∈pr,0<=q:=fun q hq=>by
 obtain⟨i,hi,e⟩:=List.mem_iff_getElem.1 hq;unfold fS at h;rw[xW]at h;have h1:=of_decide_eq_true (h i (vX.2 hi));unfold at_ at h1;rw[yG hi]at h1;rw[<-e];exact h1
theorem jzpb{t}{l:List Dm}{v:Rat}{Z:List bA}(hl:l.length<=64)(h:cS t l v Z=true):Fit t l:=by
 unfold cS at h;rw[vM]at h;exact(lZ hl).1 h.1
theorem jzr{t}(hv:aI t=true){pr:LQ}{P:Nat}(hs:∀q∈pr,SzQ q P)(hl:pr.length=2*t.links.length):∀n,n<=pr.length->SzQ (eH t pr n) (1+n*(P+2))
 |0,_=>SzQ.zero.mono (by omega)
 |n+1,hn=>by
  have h1:=jzr hv hs hl n (by omega);have h2:=(hs _ (yJ (aY (show n<pr.length by omega)))).mul (pF hv (show n<2*t.links.length by omega));have e9:1+(n+1)*(P+2)=1+n*(P+2)+(P+1)+1:=(by rw[xP,xQ];omega);rw[e9];exact h1.add h2
theorem jzs{t}{l:List Dm}(hf:Fit t l){d:Nat}(hd:d<l.length):SzQ (amQ l d) 1:=by
 obtain⟨_,_,_,h4,h5,h6⟩:=hf.am hd;rw[h4];exact SzQ.int (by unfold B32;omega)
theorem jzt{t}{l:List Dm}(hf:Fit t l){d:Nat}(hd:d<l.length):kL l d=(bE l d:Int)/\kM l d=(bC l d:Int):=by
 obtain⟨_,_,_,h4,h5⟩:=hf.nodes hd;unfold kL kM;rw[yG hd];exact⟨h4,h5⟩
theorem jzpc{t}{l:List Dm}(hf:Fit t l){pr:LQ}(hl:pr.length=2*t.links.length)(hn:∀q∈pr,0<=q){d:Nat}(hd:d<l.length):(chZ t l pr d).1.length<=64:=by
 obtain⟨h1,h2⟩:=jzt hf hd;obtain⟨n1,n2,_⟩:=hf.nodes hd;have hv:=hf.v;have qa:t.nodes<=64:=(by have:=hv;unfold aI cG inB at this;simp at this;exact this.1.1.1.2);(unfold chZ;rw[h1,h2];rcases iR hv (iT hl hn) n1 n2 with⟨y,k1,k2,_⟩|⟨k1,_⟩);{rw[k1];have:=k2.len hv n1;simp only;omega};rw[k1];exact yZ _
theorem jzfp{t}{l:List Dm}(hf:Fit t l){pr:LQ}{P:Nat}(hP:1<=P)(hs:∀q∈pr,SzQ q P)(hl:pr.length=2*t.links.length)(hn:∀q∈pr,0<=q){d:Nat}(hd:d<l.length):SzQ (prQ pr (chZ t l pr d).1) (1+64*(P+1)):=by
 refine(SzQ.pr hP hs _).mono ?_;have:=xS (P+1) (jzpc hf hl hn hd);omega
theorem jzu{t}{l:List Dm}(hf:Fit t l){pr:LQ}{P:Nat}(hP:1<=P)(hs:∀q∈pr,SzQ q P)(hl:pr.length=2*t.links.length)(hn:∀q∈pr,0<=q):∀n,n<=l.length->SzQ (dX t l pr n) (1+n*(3+64*(P+1)))
 |0,_=>SzQ.zero.mono (by omega)
 |n+1,hn2=>by
  have h1:=jzu hf hP hs hl hn n (by omega);have h2:=(jzs hf (show n<l.length by omega)).mul (jzfp hf hP hs hl hn (show n<l.length by omega));have e9:1+(n+1)*(3+64*(P+1))=1+n*(3+64*(P+1))+(1+(1+64*(P+1)))+1:=(by rw[xP,xQ];omega);rw[e9];exact h1.add h2
theorem Sx.Adm.weakv{L2 D:Nat}{am cap:Nat->Rat}{v:Rat}{Z:List ((Nat×LN)×Rat)}(h:Sx.Adm L2 D am cap v Z){pr ch:Nat->Rat}(hp:∀a,a<L2->0<=pr a)
  (hch:∀z∈Z,ch z.1.1<=sm L2 fun a=>if a∈z.1.2 then pr a else 0):v*(sm D fun d=>am d*ch d)<=sm L2 fun a=>pr a*cap a:=by
 have e1:v*(sm D fun d=>am d*ch d)=ls (fun z=>z.2*ch z.1.1) Z:=(by rw[<-eF];have:(sm D fun d=>v*(am d*ch d))=sm D fun d=>ls (fun z=>(if z.1.1=d then z.2 else 0)*ch d) Z:=sm_congr D fun d hd=>(by have e:=oM (ch d) (fun z:(Nat×LN)×Rat=>if z.1.1=d then z.2 else 0) Z;rw[h.sum d hd]at e;have e2:ls (fun z:(Nat×LN)×Rat=>(if z.1.1=d then z.2 else 0)*ch d) Z=ls (fun z=>ch d*(if z.1.1=d then z.2 else 0)) Z:=kX fun z _=>(by grind);rw[e2,e];grind);rw[this, <-mT];exact kX fun z hz=>(by rw[sm_one D (h.dem z hz) fun d _ hd=>by rw[if_neg (fun e=>hd e.symm)];grind,if_pos rfl]));have e2:ls (fun z=>z.2*ch z.1.1) Z<=ls (fun z=>sm L2 fun a=>pr a*(if a∈z.1.2 then z.2 else 0)) Z:=rT fun z hz=>(by have h1:=yT (hch z hz) (vB (h.pos z hz));rw[<-eF]at h1;have:(sm L2 fun a=>z.2*(if a∈z.1.2 then pr a else 0))=sm L2 fun a=>pr a*(if a∈z.1.2 then z.2 else 0):=sm_congr L2 fun a _=>(by split <;> grind);rw[this]at h1;exact h1);have e3:ls (fun z=>sm L2 fun a=>pr a*(if a∈z.1.2 then z.2 else 0)) Z<=sm L2 fun a=>pr a*cap a:=(by rw[mT];refine sm_le L2 fun a ha=>?_;rw[oM];exact yT (h.cap a ha) (hp a ha));grind
theorem jzfq{α:Type}(f:α->Rat):∀(l:List α) (g:Nat->Rat),(∀d (h:d<l.length),g d=f l[d])->sm l.length g=ls f l
 | [],_,_=>rfl
 |a::l,g,h=>by
  show sm (l.length+1) g=f a+ls f l;rw[wG,jzfq f l _ fun d hd=>h (d+1) (Nat.succ_lt_succ hd),h 0 (Nat.zero_lt_succ _)];rfl
def dchQ(t:Tp)(pr:LQ)(x:Dm):Rat:=(x.amount:Rat)*chQ t pr x.src.toNat x.dst.toNat
def gZ(t:Tp)(l:List Dm)(pr:LQ):Rat:=ls (dchQ t pr) l
def mZ(t:Tp)(pr:LQ):Rat:=sm (2*t.links.length) fun a=>at_ pr a*aR t a
theorem jzfr t(l:List Dm)(pr:LQ):(sm l.length fun d=>amQ l d*chQ t pr (bE l d) (bC l d))=gZ t l pr:=
 jzfq _ _ _ fun d hd=>by
  unfold amQ bE bC dchQ;rw[yG hd]
section
variable {t t':Tp} {l l':List Dm} {v v':Rat} {Z Z':List ((Nat×List Nat)×Rat)} {pr pr':List Rat}
theorem bP.cheap(hf:Fit t l)(h:bP t l v Z pr)(hl:pr'.length=2*t.links.length)(hn:∀q∈pr',0<=q):∀z∈Z,chQ t pr' (bE l z.1.1) (bC l z.1.1)<=sm (2*t.links.length) fun a=>if a∈z.1.2 then at_ pr' a else 0:=fun z hz=>by
 (have hd:=h.adm.dem z hz;obtain⟨n1,n2,_⟩:=hf.nodes hd;have qa:=h.loop z hz;rcases iR hf.v (iT hl hn) n1 n2 with⟨x,e,_,e2⟩|⟨_,e⟩);{unfold chQ;rw[e, <-qa.prQ_sm];exact e2 _ qa};{exact absurd qa (e _)}
theorem bP.weak(hf:Fit t l)(h:bP t l v Z pr)(hl:pr'.length=2*t.links.length)(hn:∀q∈pr',0<=q):v*gZ t l pr'<=mZ t pr':=by
 rw[<-jzfr];exact h.adm.weakv (ch:=fun d=>chQ t pr' (bE l d) (bC l d)) (fun a _=>lY hn a) (h.cheap hf hl hn)
theorem bP.vnn(hf:Fit t l)(h:bP t l v Z pr):0<=v:=by
 rw[<-h.worth];refine gN _ fun a ha=>?_;obtain⟨_,h2,_⟩:=iS hf.v ha;exact vA (lY h.pnn a) h2
theorem bP.le(hf:Fit t l)(h:bP t l v Z pr)(h':bP t' l' v' Z' pr')(hL:t'.links.length=t.links.length){α β γ:Rat}(hα:0<=α)(hγ:0<=γ)(hn:γ*gZ t l pr'=α*gZ t' l' pr')(hw:γ*mZ t pr'<=β*mZ t' pr'):α*v<=β*v':=by
 have h1:=yT (h.weak hf (pr':=pr') (by rw[h'.plen,hL]) h'.pnn) hγ;have h2:1<=gZ t' l' pr':=(by rw[<-jzfr];exact h'.need);have h3:mZ t' pr'=v':=h'.worth;have h4:=h.vnn hf;have h5:α*v*1<=α*v*gZ t' l' pr':=yT h2 (vA hα h4);have h6:γ*(v*gZ t l pr')=α*v*gZ t' l' pr':=(by have:γ*(v*gZ t l pr')=v*(γ*gZ t l pr'):=(by grind);rw[this,hn];grind);rw[h3]at hw;grind
end
section
variable {t t':Tp}
theorem Fit.mem{l:List Dm}(hf:Fit t l){x:Dm}(hx:x∈l):x.src.toNat<t.nodes.toNat/\x.dst.toNat<t.nodes.toNat:=by
 obtain⟨d,hd,rfl⟩:=List.mem_iff_getElem.1 hx;obtain⟨h1,h2,_,h3,h4⟩:=hf.nodes hd;rw[h3,h4];exact⟨by simpa using h1,by simpa using h2⟩
end
def connL(t:Tp)(l:List Dm):Prop:=∀x∈l,∃y,Lpl t x.src.toNat x.dst.toNat y
theorem jzv{t}{l:List Dm}:connL t l↔∀d,d<l.length->∃y,Lpl t (bE l d) (bC l d) y:=by
 constructor;{intro h d hd;have:=h _ (xR hd);unfold bE bC;rw[yG hd];exact this};intro h x hx;obtain⟨d,hd,rfl⟩:=List.mem_iff_getElem.1 hx;have:=h d hd;unfold bE bC at this;rw[yG hd]at this;exact this
def ValR(t:Tp)(l:List Dm)(v:Rat)(ok:Bool):Prop:=(ok=true/\∃Z pr,bP t l v Z pr)\/(ok=false/\v=0/\¬connL t l)
theorem bP.connL{t}{l:List Dm}{v:Rat}{Z:List ((Nat×LN)×Rat)}{pr:LQ}(h:bP t l v Z pr):connL t l:=jzv.2 h.conn
end Go.Proofs.YtojpooidhilnfaaGreatDoor
namespace Go.Proofs.YtojpooidhilnfaaGreatDoor
open Go.Proofs.Tryz
namespace Sx
section
variable (n L2:Nat) (ta he:Nat->Nat) (ok:Nat->Bool) (cap:Nat->Rat)
def hJ(S:Nat->Bool):Rat:=sm L2 fun a=>if ok a=true/\S (ta a)=true/\S (he a)=false then cap a else 0
def upF(φ:Nat->Rat):Rat:=sm L2 fun a=>if ok a=true/\φ (ta a)<φ (he a)then cap a*(φ (he a)-φ (ta a))else 0
def mE(φ:Nat->Rat):LN:=(List.range n).filter fun v=>decide (0<φ v)
variable {n L2 ta he ok cap}
theorem jzpd(hc:∀a,a<L2->0<=cap a)(φ:Nat->Rat):0<=upF L2 ta he ok cap φ:=gN L2 fun a ha=>by
 split;{rename_i h;exact vA (hc a ha) (by have:=h.2;grind)};{exact vC}
theorem jzfs(φ:Nat->Rat):∀l:LN,l≠ []->∃v∈l,∀u∈l,φ v<=φ u
 | [],h=>absurd rfl h
 | [a],_=>⟨a,by simp,fun u hu=>by rw[xD.1 hu];exact vC⟩
 |a::b::l,_=>by
  obtain⟨v,hv,h⟩:=jzfs φ (b::l) (by simp);by_cases e:φ a<=φ v
  ·refine⟨a,by simp,fun u hu=>?_⟩
   rcases xZ.1 hu with rfl|hu
   ·exact vC
   ·exact kQs e (h u hu)
  ·refine⟨v,xO _ hv,fun u hu=>?_⟩
   rcases xZ.1 hu with rfl|hu
   ·grind
   ·exact h u hu
theorem jzpe(hc:∀a,a<L2->0<=cap a)(hn:∀a,a<L2->ok a=true->ta a<n/\he a<n){s d:Nat}(hd:d<n):∀(k:Nat) (φ:Nat->Rat),(mE n φ).length<=k->(∀v,0<=φ v)->φ s=0->0<φ d->
  ∃S:Nat->Bool,S s=true/\S d=false/\φ d*hJ L2 ta he ok cap S<=upF L2 ta he ok cap φ:=by
 intro k
 induction k with
 |zero=>
  intro φ hk _ _ qe;have:d∈mE n φ:=List.mem_filter.2 ⟨vX.2 hd,yO qe⟩;have:=List.length_pos_of_mem this;omega
 |succ k ih=>
  intro φ hk h0 hs qe;have qx:d∈mE n φ:=List.mem_filter.2 ⟨vX.2 hd,yO qe⟩;obtain⟨v,hv,qk⟩:=jzfs φ (mE n φ) (List.ne_nil_of_mem qx);have qy:0<φ v:=of_decide_eq_true (List.mem_filter.1 hv).2;have qh:∀u,u<n->0<φ u->φ v<=φ u:=fun u hu hp=>qk u (List.mem_filter.2 ⟨vX.2 hu,yO hp⟩);have qz:0<=hJ L2 ta he ok cap (fun u=>decide (φ u<=0)):=gN L2 fun a ha=>by
   split
   ·exact hc a ha
   exact vC
  have qa:upF L2 ta he ok cap φ=upF L2 ta he ok cap (fun u=>if φ u<=0 then 0 else if u<n then φ u-φ v else φ u)+φ v*hJ L2 ta he ok cap (fun u=>decide (φ u<=0)):=by
   unfold upF hJ;rw[<-eF, <-sm_add];refine sm_congr L2 fun a ha=>?_;cases hok:ok a with
   |false=>simp only[kZq,false_and,if_false];grind
   |true=>
    obtain⟨ht,hh⟩:=hn a ha hok;simp only[true_and,ht,hh,if_true];by_cases e1:φ (ta a)<=0
    ·have qt:φ (ta a)=0:=by have:=h0 (ta a);grind
     by_cases e2:φ (he a)<=0
     ·have qj:φ (he a)=0:=by have:=h0 (he a);grind
      simp only[qt,qj,vC,if_true,kZf,if_false,decide_true,Bool.true_eq_false,and_false];grind
     have e3:φ v<=φ (he a):=qh _ hh (by grind);simp only[qt,e2,vC,if_true,if_false,decide_true,decide_false,true_and];rw[if_pos (by grind)];by_cases e4:0<φ (he a)-φ v
     ·rw[if_pos e4];grind
     rw[if_neg e4];have:φ (he a)=φ v:=(by grind);rw[this];grind
    have e3:φ v<=φ (ta a):=qh _ ht (by grind);by_cases e2:φ (he a)<=0
    ·have qj:φ (he a)=0:=by have:=h0 (he a);grind
     simp only[e1,qj,vC,if_true,if_false,decide_true,decide_false,kZq,false_and];rw[if_neg (by grind),if_neg (by grind)];grind
    simp only[e1,e2,if_false,decide_false,kZq,false_and];by_cases e4:φ (ta a)<φ (he a)
    ·rw[if_pos e4,if_pos (by grind)];grind
    rw[if_neg e4,if_neg (by grind)];grind
  have qA:φ v<=φ d:=qh d hd qe;have qo:(fun u=>decide (φ u<=0)) s=true:=yO (by rw[hs];exact vC);have qp:(fun u=>decide (φ u<=0)) d=false:=yP (Rat.not_le.2 qe);by_cases qg:φ d-φ v<=0
  ·refine⟨fun u=>decide (φ u<=0),qo,qp,?_⟩
   have e:φ d=φ v:=(by grind);have:=jzpd (ta:=ta) (he:=he) (ok:=ok) hc (fun u=>if φ u<=0 then 0 else if u<n then φ u-φ v else φ u);rw[qa,e];grind
  have qw:(mE n fun u=>if φ u<=0 then 0 else if u<n then φ u-φ v else φ u).length<=k:=by
   have h1:(mE n fun u=>if φ u<=0 then 0 else if u<n then φ u-φ v else φ u).length<=((mE n φ).erase v).length:=nodup_le (List.nodup_range.filter _) fun u hu=>by
    obtain⟨qi,qf⟩:=List.mem_filter.1 hu;have qi:=vX.1 qi;have qf:0<(if φ u<=0 then 0 else if u<n then φ u-φ v else φ u):=of_decide_eq_true qf;have qn:0<φ u:=by
     refine Rat.not_le.1 fun h=>?_;rw[if_pos h]at qf;exact absurd qf (kZf)
    rw[if_neg (Rat.not_le.2 qn),if_pos qi]at qf;refine(List.mem_erase_of_ne fun e=>?_).2 (List.mem_filter.2 ⟨vX.2 qi,yO qn⟩);rw[e]at qf;grind
   rw[List.length_erase_of_mem hv]at h1;omega
  obtain⟨S,s1,s2,s3⟩:=ih (fun u=>if φ u<=0 then 0 else if u<n then φ u-φ v else φ u) qw (fun u=>by
   show 0<=if φ u<=0 then 0 else if u<n then φ u-φ v else φ u
   split
   ·exact vC
   ·split
    ·rename_i h1 h2
     have:=qh u h2 (Rat.not_le.1 h1);grind
    exact h0 u) (by show(if φ s<=0 then 0 else _)=(0:Rat);rw[if_pos (by rw[hs];exact vC)])
   (by show 0<if φ d<=0 then 0 else _;rw[if_neg (Rat.not_le.2 qe),if_pos hd];exact Rat.not_le.1 qg)
  have s3:(if φ d<=0 then 0 else if d<n then φ d-φ v else φ d)*_<=_:=s3;rw[if_neg (Rat.not_le.2 qe),if_pos hd]at s3;have qm:0<=φ d-φ v:=(by grind);by_cases e:hJ L2 ta he ok cap (fun u=>decide (φ u<=0))<=hJ L2 ta he ok cap S
  ·refine⟨fun u=>decide (φ u<=0),qo,qp,?_⟩
   have h1:=yT e qm;rw[qa];grind
  refine⟨S,s1,s2,?_⟩;have h1:=yT (vB (Rat.not_le.1 e)) (vB qy);rw[qa];grind
end
end Sx
open Go.RowKit
open Sx
def inS(set n:Nat):Bool:=decide (set/2^n%2=1)
def eV(t:Tp)(s d a:Nat):Bool:= !(dD t (aU t a).toNat s d||dD t (aH t a).toNat s d)
def pG(t:Tp)(s d set a:Nat):Bool:=eV t s d a&&(inS set (aU t a).toNat&&!inS set (aH t a).toNat)
def iA(t:Tp)(a:Nat):Int:=match t.links[a/2]? with
 |some x=>x.cap
 |none=>0
def cL(t:Tp)(s d set:Nat):Nat->Int
 |0=>0
 |k+1=>if pG t s d set k then cL t s d set k+iA t k else cL t s d set k
def eZ(s d set:Nat):Bool:=inS set s&&!inS set d
def bO(t:Tp)(s d:Nat):Nat->Int
 |0=> -1
 |k+1=>if eZ s d k&&(decide (bO t s d k<0)||decide (cL t s d k (2*t.links.length)<bO t s d k))then cL t s d k (2*t.links.length)else bO t s d k
def mF(S:Nat->Bool):Nat->Nat
 |0=>0
 |n+1=>mF S n+if S n then 2^n else 0
theorem sM(S:Nat->Bool):∀n,mF S n<2^n
 |0=>Nat.zero_lt_one
 |n+1=>by
  have:=sM S n;have e:2^(n+1)=2^n+2^n:=(by rw[vD];omega);show mF S n+(if S n then 2^n else 0)<_
  split <;> omega
theorem pH(S:Nat->Bool):∀n i,i<n->inS (mF S n) i=S i
 |n+1,i,hi=>by
  show inS (mF S n+if S n then 2^n else 0) i=S i;have hl:=sM S n;by_cases e:i=n
  ·subst e
   unfold inS;cases h:S i with
   |true=>rw[if_pos rfl,Nat.add_div_right _ (kQy (by decide)),Nat.div_eq_of_lt hl];decide
   |false=>rw[if_neg (by decide),kQ3,Nat.div_eq_of_lt hl];decide
  ·have ih:=pH S n i (by omega)
   rw[<-ih];unfold inS
   split
   ·obtain⟨k,rfl⟩:∃k,n=i+1+k:=⟨n-i-1,by omega⟩
    have:2^(i+1+k)=2^i*(2*2^k):=(by rw[Nat.pow_add,vD,kQg]);rw[this,Nat.add_mul_div_left _ _ (kQy (by decide)),Nat.add_mul_mod_self_left]
   ·rfl
section
variable {t:Tp} {s d:Nat}
theorem jzpf(a:Nat):aR t a=((iA t a:Int):Rat):=by unfold aR iA;cases t.links[a/2]? <;> rfl
theorem jzpg(hv:aI t=true){a:Nat}(ha:a<2*t.links.length):0<=iA t a/\iA t a<=1048576:=by
 obtain⟨hl,_,_,_,_,h1,h2⟩:=iS hv ha;unfold iA;rw[yG hl];exact⟨h1,h2⟩
theorem nA(hv:aI t=true)(set:Nat):∀k,k<=2*t.links.length->0<=cL t s d set k/\cL t s d set k<=k*1048576
 |0,_=>⟨Int.le_refl 0,show(0:Int)<=((0:Nat):Int)*1048576 by decide⟩
 |k+1,hk=>by
  have h1:=nA hv set k (by omega);have h2:=jzpg hv (show k<2*t.links.length by omega);rw[show cL t s d set (k+1)=if pG t s d set k then cL t s d set k+iA t k else cL t s d set k from rfl]
  split <;> omega
theorem jzw(set:Nat)(S:Nat->Bool):∀k,(∀a,a<k->pG t s d set a=(eV t s d a&&(S (aU t a).toNat&&!S (aH t a).toNat)))->
  ((cL t s d set k:Int):Rat)=sm k fun a=>if eV t s d a=true/\S (aU t a).toNat=true/\S (aH t a).toNat=false then aR t a else 0
 |0,_=>rfl
 |k+1,h=>by
  have ih:=jzw set S k fun a ha=>h a (by omega);show(((if pG t s d set k then cL t s d set k+iA t k else cL t s d set k):Int):Rat)=sm k _+(if eV t s d k=true/\S (aU t k).toNat=true/\S (aH t k).toNat=false then aR t k else 0);rw[<-ih,h k (by omega),jzpf];cases eV t s d k <;> cases S (aU t k).toNat <;> cases S (aH t k).toNat <;> simp[Rat.intCast_add,Rat.add_zero]
theorem sO(hv:aI t=true):∀k,(bO t s d k= -1/\∀j,j<k->eZ s d j=false)\/((∃j,j<k/\eZ s d j=true/\bO t s d k=cL t s d j (2*t.links.length))/\∀j,j<k->eZ s d j=true->bO t s d k<=cL t s d j (2*t.links.length))
 |0=>.inl ⟨rfl,fun j hj=>by omega⟩
 |k+1=>by
  have hn:=(nA (s:=s) (d:=d) hv k _ (yX _)).1;rw[show bO t s d (k+1)=if eZ s d k&&(decide (bO t s d k<0)||decide (cL t s d k (2*t.links.length)<bO t s d k))then cL t s d k (2*t.links.length)else bO t s d k from rfl];cases hc:eZ s d k with
  |false=>
   simp only[Bool.false_and,kZq,if_false];rcases sO hv k with⟨h1,h2⟩|⟨⟨j,h1,h2,h3⟩,h4⟩
   ·refine .inl ⟨h1,fun j hj=>?_⟩
    by_cases e:j=k
    ·rw[e];exact hc
    ·exact h2 j (by omega)
   ·refine .inr ⟨⟨j,by omega,h2,h3⟩,fun i hi hci=>?_⟩
    by_cases e:i=k
    ·rw[e,hc]at hci;cases hci
    ·exact h4 i (by omega) hci
  |true=>
   simp only[kZg,Bool.or_eq_true,decide_eq_true_eq];rcases sO hv k with⟨h1,h2⟩|⟨⟨j,h1,h2,h3⟩,h4⟩
   ·rw[if_pos (.inl (by rw[h1];decide))]
    refine .inr ⟨⟨k,by omega,hc,rfl⟩,fun i hi hci=>?_⟩;by_cases e:i=k
    ·rw[e];exact Int.le_refl _
    ·rw[h2 i (by omega)]at hci;cases hci
   ·have hp:=(nA (s:=s) (d:=d) hv j _ (yX _)).1
    by_cases e:cL t s d k (2*t.links.length)<bO t s d k
    ·rw[if_pos (.inr e)]
     refine .inr ⟨⟨k,by omega,hc,rfl⟩,fun i hi hci=>?_⟩;by_cases e2:i=k
     ·rw[e2];exact Int.le_refl _
     ·have:=h4 i (by omega) hci;omega
    ·rw[if_neg (by omega)]
     refine .inr ⟨⟨j,by omega,h2,h3⟩,fun i hi hci=>?_⟩;by_cases e2:i=k
     ·rw[e2];omega
     ·exact h4 i (by omega) hci
theorem sP(hv:aI t=true){a:Nat}(ha:a<2*t.links.length):0<=aU t a/\(aU t a).toNat<t.nodes.toNat/\a∈aM t (aU t a).toNat:=by
 have hl:a/2<t.links.length:=(by omega);have qa:=hv;unfold aI at qa;rw[vM,xW]at qa;have qe:=qa.2 _ (xR hl);unfold Lk.ok ndB at qe;simp at qe;have h1:0<=aU t a/\aU t a<t.nodes:=(by unfold aU;rw[yG hl];simp only[];split <;> omega);refine⟨h1.1,by omega,?_⟩;unfold aM cA;rw[List.mem_filter,vX];exact⟨ha,by rw[beq_iff_eq];omega⟩
theorem jzph:dD t s s d=false:=by unfold dD;simp
theorem jzpi:dD t d s d=false:=by unfold dD;simp
theorem jzft{n:Nat}(h:bH t (n:Int)=false):dD t n s d=false:=by unfold dD;rw[h];simp
theorem jzfu(hv:aI t=true)(S:Nat->Bool):∀(x:LN) (u:Nat) (first:Bool),PO t u first x d->S u=true->S d=false->(first=true->u=s)->∃a∈x,eV t s d a=true/\S (aU t a).toNat=true/\S (aH t a).toNat=false
 | [],u,_,h,h1,h2,_=>by
   have h:u=d:=h;rw[h,h2]at h1;cases h1
 |a::x,u,first,h,h1,h2,h3=>by
  have hl:=eD hv h.1;have et:(aU t a).toNat=u:=(by rw[hl.2.2.2];rfl);have lu:dD t u s d=false:=by
   rcases h.2.1 with e|e
   ·rw[h3 e];exact jzph
   exact jzft e
  cases hS:S (aH t a).toNat with
  |true=>
   obtain⟨b,hb,h4⟩:=jzfu hv S x _ false h.2.2 hS h2 (fun e=>by cases e);exact⟨b,xO _ hb,h4⟩
  |false=>
   refine⟨a,List.mem_cons_self,?_,by rw[et];exact h1,hS⟩;have lh:dD t (aH t a).toNat s d=false:=by
    have hp:=h.2.2;cases x with
    |nil=>
     have e:(aH t a).toNat=d:=hp;rw[e];exact jzpi
    |cons b x=>
     rcases hp.2.1 with e|e
     ·cases e
     exact jzft e
   unfold eV;rw[et,lu,lh];rfl
theorem jzfv{α:Type}{f:α->Rat}:∀{l:List α},(∀x∈l,0<=f x)->∀{a:α},a∈l->f a<=ls f l
 |b::l,h,a,ha=>by
  show f a<=f b+ls f l;have hb:=h b List.mem_cons_self;have hl:=rU (f:=f) (l:=l) fun x hx=>h x (xO _ hx);rcases xZ.1 ha with e|e
  ·rw[e];grind
  ·have:=jzfv (fun x hx=>h x (xO _ hx)) e
   grind
theorem jzpj{D:Dm}(hf:Fit t [D]){v:Rat}{Z:List ((Nat×LN)×Rat)}{pr:LQ}(h:bP t [D] v Z pr)(S:Nat->Bool)(h1:S D.src.toNat=true)(h2:S D.dst.toNat=false):
  v*(D.amount:Rat)<=hJ (2*t.links.length) (fun a=>(aU t a).toNat) (fun a=>(aH t a).toNat) (eV t D.src.toNat D.dst.toNat) (aR t) S:=by
 (obtain⟨c,hc⟩:∃c:Nat->Rat,c=fun a=>if eV t D.src.toNat D.dst.toNat a=true/\S (aU t a).toNat=true/\S (aH t a).toNat=false then 1 else 0:=⟨_,rfl⟩);have qf:∀a,0<=c a:=fun a=>(by rw[hc];show 0<=if _ then(1:Rat)else 0;split <;> decide);obtain⟨qa,hp⟩:∃qa:LQ,qa=(List.range (2*t.links.length)).map c:=⟨_,rfl⟩;have hl:qa.length=2*t.links.length:=(by rw[hp];simp);have hn:∀q∈qa,0<=q:=fun q hq=>(by rw[hp]at hq;obtain⟨a,_,rfl⟩:=kQl.1 hq;exact qf a);have qe:∀a,a<2*t.links.length->at_ qa a=c a:=fun a ha=>(by unfold at_;rw[hp,yW,xJ ha];rfl);have hw:=h.weak hf hl hn;have e1:mZ t qa=hJ (2*t.links.length) (fun a=>(aU t a).toNat) (fun a=>(aH t a).toNat) (eV t D.src.toNat D.dst.toNat) (aR t) S:=(by (unfold mZ hJ;refine sm_congr _ fun a ha=>?_;rw[qe a ha,hc];show(if _ then(1:Rat)else 0)*_=if _ then _ else _);split <;> grind);obtain⟨n1,n2⟩:=hf.mem (xD.2 rfl:D∈ [D]);have e2:1<=chQ t qa D.src.toNat D.dst.toNat:=(by (rcases iR hf.v (iT hl hn) n1 n2 with⟨x,e,hx,_⟩|⟨_,e⟩);{unfold chQ;rw[e];obtain⟨a,ha,qh⟩:=jzfu (s:=D.src.toNat) hf.v S x _ true hx.1 h1 h2 fun _=>rfl;have qi:=gT x hx.1;have:at_ qa a=1:=(by rw[qe a (qi a ha),hc];exact if_pos qh);show 1<=prQ qa x;rw[oO, <-this];exact jzfv (f:=fun a=>at_ qa a) (fun b _=>lY hn b) ha};obtain⟨y,hy⟩:=h.conn 0 Nat.zero_lt_one;exact absurd hy (e y));have e3:gZ t [D] qa=(D.amount:Rat)*chQ t qa D.src.toNat D.dst.toNat+0:=rfl;have qg:(0:Rat)<(D.amount:Rat):=(hf.am (d:=0) Nat.zero_lt_one).1;have h4:=yT e2 (vA (h.vnn hf) (vB qg));rw[e1,e3]at hw;grind
theorem jzpk{D:Dm}(hf:Fit t [D]){v:Rat}{Z:List ((Nat×LN)×Rat)}{pr:LQ}(h:bP t [D] v Z pr):
  ∃S:Nat->Bool,S D.src.toNat=true/\S D.dst.toNat=false/\hJ (2*t.links.length) (fun a=>(aU t a).toNat) (fun a=>(aH t a).toNat) (eV t D.src.toNat D.dst.toNat) (aR t) S<=v*(D.amount:Rat):=by
 obtain⟨n1,n2⟩:=hf.mem (xD.2 rfl:D∈ [D]);have qy:D.src.toNat≠D.dst.toNat:=(by have:=(hf.nodes (d:=0) Nat.zero_lt_one).2.2.1;exact this);generalize hs:D.src.toNat=s at*;generalize hd:D.dst.toNat=d at*;have qg:=iT h.plen h.pnn;have qf:=oF qg;obtain⟨ψ,hψ⟩:∃ψ:Nat->Rat,ψ=fun u=>chQ t pr u d:=⟨_,rfl⟩;have qh:∀u,u<t.nodes.toNat->(∃x,FW t [] d u x d/\ψ u=prQ pr x/\∀q,FW t [] d u q d->ψ u<=prQ pr q)\/∀q,¬FW t [] d u q d:=fun u hu=>(by (have h1:=wK (down:=[]) (d:=d) hf.v qf hu;rcases iR hf.v qg hu n2 with⟨x,e,hx,_⟩|⟨e,_⟩);{refine .inl ⟨x,oN hf.v x u true hx.1,by rw[hψ];show chQ t pr u d=_;unfold chQ;rw[e],fun q hq=>?_⟩;have hc:dL t [] pr u d=some x:=(by (have hb:eC t [] pr=false:=(by unfold eC dI;rw[hf.v,qg];rfl);have qk:dZ t (u:Int) (d:Int)=false:=(by unfold dZ;simp;omega);unfold chP at e;rw[hb,qk]at e;simp only[kZq,if_false,xL]at e;cases hc:dL t [] pr u d with|none=>rw[hc]at e;exact absurd (congrArg Prod.snd e) (show(11:Int)≠0 by decide)|some y=>rw[hc]at e;exact congrArg some (congrArg Prod.fst e)));(rw[hc]at h1;have e3:ψ u=prQ pr x:=(by rw[hψ];show chQ t pr u d=_;unfold chQ;rw[e]);rw[e3];rcases(lR pr x q).1 (h1.2 q hq)with e|e);{rw[e];exact vC};(rcases(gM pr x q).1 e with e|e);{exact vB e};rw[e.1];exact vC};refine .inr fun q hq=>?_;have hc:dL t [] pr u d=none:=(by (have hb:eC t [] pr=false:=(by unfold eC dI;rw[hf.v,qg];rfl);have qk:dZ t (u:Int) (d:Int)=false:=(by unfold dZ;simp;omega);unfold chP at e;rw[hb,qk]at e;simp only[kZq,if_false,xL]at e;cases hc:dL t [] pr u d with|none=>rfl|some y=>rw[hc]at e;exact absurd (congrArg Prod.snd e) (show(0:Int)≠11 by decide)));rw[hc]at h1;exact h1 q hq);have hψ0:∀x:LN,0<=prQ pr x:=uL qf;have qj:FW t [] d d [] d:=rfl;have ed:ψ d=0:=(by (rcases qh d n2 with⟨x,h1,h2,h3⟩|h1);{have h4:=h3 [] qj;have h5:prQ pr []=0:=rfl;have:=hψ0 x;rw[h5]at h4;grind};exact absurd qj (h1 []));have qt:∃q,FW t [] d s q d:=(by obtain⟨y,hy⟩:=h.conn 0 Nat.zero_lt_one;have e1:bE [D] 0=s:=hs;have e2:bC [D] 0=d:=hd;rw[e1,e2]at hy;exact⟨y,oN hf.v y s true hy.1⟩);have es:0<=ψ s:=(by (rcases qh s n1 with⟨x,_,h2,_⟩|h1);{rw[h2];exact hψ0 x};exact absurd qt.choose_spec (h1 _));have qa:1<=(D.amount:Rat)*ψ s:=(by have h1:=h.need;have e1:(sm [D].length fun k=>amQ [D] k*chQ t pr (bE [D] k) (bC [D] k))=0+(D.amount:Rat)*chQ t pr D.src.toNat D.dst.toNat:=rfl;rw[e1,hs,hd]at h1;rw[hψ];grind);have qo:(0:Rat)<(D.amount:Rat):=(hf.am (d:=0) Nat.zero_lt_one).1;have qn:0<ψ s:=(by refine Rat.not_le.1 fun hn=>?_;have e0:ψ s=0:=Rat.le_antisymm hn es;rw[e0,Rat.mul_zero]at qa;exact absurd qa (by decide));(have dd:∀u,Decidable (∃q,FW t [] d u q d):=fun u=>Classical.propDecidable _;obtain⟨φ,hφ⟩:∃φ:Nat->Rat,φ=fun u=>if(u<t.nodes.toNat/\∃q,FW t [] d u q d)/\ψ u<=ψ s then ψ s-ψ u else 0:=⟨_,rfl⟩);have p0:∀u,0<=φ u:=fun u=>(by rw[hφ];show(0:Rat)<=(if _ then _ else _);split;{rename_i h;grind};exact vC);have ps:φ s=0:=(by rw[hφ];show(if _ then _ else _)=(0:Rat);split <;> grind);have pd:φ d=ψ s:=(by rw[hφ];show(if _ then _ else _)=ψ s;rw[if_pos ⟨⟨n2,[],qj⟩,by rw[ed];exact es⟩,ed];grind);have step:∀a,a<2*t.links.length->eV t s d a=true->φ (aH t a).toNat<=φ (aU t a).toNat+at_ pr a:=fun a ha hok=>(by have qB:=lY h.pnn a;have qz:=p0 (aU t a).toNat;by_cases hv:((aH t a).toNat<t.nodes.toNat/\∃q,FW t [] d (aH t a).toNat q d)/\ψ (aH t a).toNat<=ψ s;{by_cases qp:(aH t a).toNat=s;{rw[qp,ps];grind};obtain⟨t0,t1,qi⟩:=sP hf.v ha;have qA:=eD hf.v qi;have hu:cM t [] a (d:Int)=true:=(by unfold eV at hok;rw[Bool.not_eq_true',Bool.or_eq_false_iff]at hok;have h2:=hok.2;unfold dD at h2;unfold cM;rw[show bZ [] a=false from rfl,Bool.not_false,kZg,Bool.or_eq_true,beq_iff_eq,Bool.not_eq_true'];have e9:(((aH t a).toNat:Nat):Int)=aH t a:=(by omega);rw[e9]at h2;by_cases qm:aH t a=(d:Int);{exact .inl qm};(refine .inr ?_;have a1:aH t a≠(s:Int):=by omega);simpa [a1,qm]using h2);(rcases qh _ hv.1.1 with⟨x,h1,h2,_⟩|h1);{have hw:FW t [] d (aU t a).toNat (a::x) d:=⟨qi,hu,h1⟩;(rcases qh _ t1 with⟨y,h3,h4,h5⟩|h3);{have h6:=h5 _ hw;have h7:prQ pr (a::x)=prQ pr x+at_ pr a:=(by rw[oO,oO];show at_ pr a+ls _ x=_;grind);rw[h7, <-h2]at h6;have e1:φ (aH t a).toNat=ψ s-ψ (aH t a).toNat:=(by rw[hφ];exact if_pos hv);rw[e1];by_cases qx:ψ (aU t a).toNat<=ψ s;{(have e2:φ (aU t a).toNat=ψ s-ψ (aU t a).toNat:=by rw[hφ];exact if_pos ⟨⟨t1,_,hw⟩,qx⟩);rw[e2];grind};grind};exact absurd hw (h3 _)};obtain⟨q,hq⟩:=hv.1.2;exact absurd hq (h1 q)};have e1:φ (aH t a).toNat=0:=(by rw[hφ];exact if_neg hv);rw[e1];grind);have qe:∀a,a<2*t.links.length->0<=aR t a:=fun a ha=>(by obtain⟨_,h1,_⟩:=iS hf.v ha;exact h1)
 obtain⟨S,s1,s2,s3⟩:=jzpe (n:=t.nodes.toNat) (L2:=2*t.links.length) (ta:=fun a=>(aU t a).toNat) (he:=fun a=>(aH t a).toNat) (ok:=eV t s d) (cap:=aR t) qe
  (fun a ha _=>by
   obtain⟨_,t1,qi⟩:=sP hf.v ha;exact⟨t1,(eD hf.v qi).2.2.1⟩) n2 _ φ (yX _) p0 ps (by rw[pd];exact qn)
 refine⟨S,s1,s2,?_⟩;have qw:upF (2*t.links.length) (fun a=>(aU t a).toNat) (fun a=>(aH t a).toNat) (eV t s d) (aR t) φ<=v:=(by rw[<-h.worth];unfold upF;refine sm_le _ fun a ha=>?_;have h1:=qe a ha;have h2:=lY h.pnn a;split;{rename_i hc;have h3:=step a ha hc.1;have h4:=yT (show φ (aH t a).toNat-φ (aU t a).toNat<=at_ pr a by grind) h1;grind};exact vA h2 h1);rw[pd]at s3;have hC:0<=hJ (2*t.links.length) (fun a=>(aU t a).toNat) (fun a=>(aH t a).toNat) (eV t s d) (aR t) S:=gN _ fun a ha=>(by split;{exact qe a ha};exact vC);have h5:=yT (kQs s3 qw) (vB qo);have h6:=yT qa hC;grind
theorem jzpl{D:Dm}(hf:Fit t [D]){v:Rat}{Z:List ((Nat×LN)×Rat)}{pr:LQ}(h:bP t [D] v Z pr):
  v*(D.amount:Rat)=((bO t D.src.toNat D.dst.toNat (2^t.nodes.toNat):Int):Rat)/\0<=bO t D.src.toNat D.dst.toNat (2^t.nodes.toNat)/\bO t D.src.toNat D.dst.toNat (2^t.nodes.toNat)<=(2*t.links.length:Nat)*1048576:=by
 obtain⟨n1,n2⟩:=hf.mem (xD.2 rfl:D∈ [D]);obtain⟨S,s1,s2,s3⟩:=jzpk hf h;have qa:∀a,a<2*t.links.length->(aU t a).toNat<t.nodes.toNat/\(aH t a).toNat<t.nodes.toNat:=fun a ha=>(by obtain⟨_,t1,qe⟩:=sP hf.v ha;exact⟨t1,(eD hf.v qe).2.2.1⟩);have c1:eZ D.src.toNat D.dst.toNat (mF S t.nodes.toNat)=true:=(by unfold eZ;rw[pH S _ _ n1,pH S _ _ n2,s1,s2];rfl);have q1:=jzw (t:=t) (s:=D.src.toNat) (d:=D.dst.toNat) (mF S t.nodes.toNat) S (2*t.links.length) fun a ha=>(by obtain⟨h1,h2⟩:=qa a ha;unfold pG;rw[pH S _ _ h1,pH S _ _ h2]);(rcases sO (t:=t) (s:=D.src.toNat) (d:=D.dst.toNat) hf.v (2^t.nodes.toNat)with⟨_,h2⟩|⟨⟨j,h1,h2,h3⟩,h4⟩);{rw[h2 _ (sM S _)]at c1;cases c1};have hb:=nA (t:=t) (s:=D.src.toNat) (d:=D.dst.toNat) hf.v j _ (yX _);refine⟨?_,by rw[h3];exact hb.1,by rw[h3];exact hb.2⟩;have h5:=h4 _ (sM S _) c1;have h6:((bO t D.src.toNat D.dst.toNat (2^t.nodes.toNat):Int):Rat)<=v*(D.amount:Rat):=(by refine kQs (kQt.2 h5) ?_;rw[q1];exact s3);have q2:=jzw (t:=t) (s:=D.src.toNat) (d:=D.dst.toNat) j (inS j) (2*t.links.length) fun a ha=>rfl;unfold eZ at h2;rw[vM,Bool.not_eq_true']at h2;have h7:=jzpj hf h (inS j) h2.1 h2.2;refine Rat.le_antisymm ?_ h6;rw[h3,q2];exact h7
end
theorem jzpm(q:Nat)(h:q<1000000):bits .and .i64 (q:Int) 1=((q%2:Nat):Int):=by
 have qa:(BitVec.ofInt 64 (q:Int)&&&BitVec.ofInt 64 1).toNat=q%2:=(by rw[BitVec.toNat_and,BitVec.toNat_ofInt,BitVec.toNat_ofInt];have h1:((q:Int)%((2^64:Nat):Int)).toNat=q:=(by omega);rw[h1,show((1:Int)%((2^64:Nat):Int)).toNat=2^1-1 by decide,Nat.and_two_pow_sub_one_eq_mod]);show IntKind.i64.wrap ((BitVec.ofInt 64 (q:Int)&&&BitVec.ofInt 64 1).toNat:Nat)=_;rw[qa,IntKind.wrap_i64];omega
theorem sQ(n s:Nat)(h:n<1000000):∃q b:Nat,(n:Int)/2^s=(q:Int)/\bits .and .i64 (q:Int) 1=(b:Int)/\b<2/\inS n s=decide (b=1):=by
 have hq:n/2^s<=n:=kZi _ _;exact⟨n/2^s,n/2^s%2,by rw[Int.natCast_ediv,Int.natCast_pow];rfl,jzpm _ (by omega),xT _ (by decide),rfl⟩
theorem jzpn{t}{s d:Nat}(hv:aI t=true)(k:Nat): -1<=bO t s d k/\bO t s d k<=2*(t.links.length:Int)*1048576:=by
 rcases sO (t:=t) (s:=s) (d:=d) hv k with⟨h,_⟩|⟨⟨j,_,_,h⟩,_⟩
 ·rw[h];omega
 have:=nA (t:=t) (s:=s) (d:=d) hv j _ (yX _);rw[h];omega
theorem jzpo t AO(co:Nat)AL(cl:Nat)(s d:Nat)w(ht:aX w t AO co AL cl)(hv:aI t=true)(hN:t.nodes<=7)(hs:(s:Int)<t.nodes)(hd:(d:Int)<t.nodes):
  Calls prog 15 #[.agg #[vI t.nodes,.s AO t.over.length co,.s AL t.links.length cl],vI (s:Int),vI (d:Int)] w fun e w'=>e=.returned (vI (bO t s d (2^t.nodes.toNat)))/\Ext w w':=by
 have qF:0<=t.nodes:=(by omega);obtain⟨M,hM⟩:∃M,M=2^t.nodes.toNat:=⟨_,rfl⟩;have qB:M<=128:=(by have h1:2^t.nodes.toNat<=2^7:=kQk (by decide) (by omega);rw[<-hM]at h1;exact h1);have qD:=ht.ll;have qG:=ht.cl;have qw:t.links.length<=256:=(by have h:=hv;unfold aI cG at h;simp at h;have:=h.1.1.2;omega);obtain⟨qt,e0⟩:=aV w #[vI t.nodes,.s AO t.over.length co,.s AL t.links.length cl] 25;have I0:=Hx (kQa qt e0);have HT:=Hx (kQa ht hv);have qA:wrap64 (2^t.nodes.toNat)=(M:Int):=(by have h1:((2:Int)^t.nodes.toNat)=((2^t.nodes.toNat:Nat):Int):=(by rw[Int.natCast_pow];rfl);rw[h1, <-hM];unfold wrap64;omega);rw[<-hM];clear qt e0 ht hv hM;go_enter func15,ntmps15;go_wp2;go_loopg [7,8] M (fun q bt it wr=>∃n:Nat,M-n=q/\n<=M/\bt=vI (bO t s d n)/\it=vI (n:Int)/\Hid (Blk wr w.heap.size 25 #[vI t.nodes,.s AO t.over.length co,.s AL t.links.length cl]/\Ext w wr));(case atStart=>exact⟨0,rfl,yZ _,rfl,rfl,I0⟩);obtain⟨n,rfl,hn,rfl,rfl,I⟩:=hrel;obtain⟨⟨i0,i1,i2⟩,_⟩:=I.o.1.t3;by_cases qx:n<M
 ·obtain⟨qs,bs,q1,q2,q3,q4⟩:=sQ n s (by omega);obtain⟨qd,bd,d1,d2,d3,d4⟩:=sQ n d (by omega);by_cases qh:bs=0;{subst qh;have HB:Hid (bO t s d (n+1)=bO t s d n):=Hx (by show(if eZ s d n&&_ then _ else _)=_;unfold eZ;rw[q4];rfl);clear d1 d2 d3 d4 q3 q4;go_wp2;go_roundg (M-(n+1));(case measure=>omega);exact⟨n+1,rfl,by omega,by rw[HB.o],by go_num,I⟩};obtain rfl:bs=1:=(by omega);by_cases qj:bd=1;{subst qj;have HB:Hid (bO t s d (n+1)=bO t s d n):=Hx (by show(if eZ s d n&&_ then _ else _)=_;unfold eZ;rw[q4,d4];rfl);clear d3 d4 q3 q4 qh;go_wp2;go_roundg (M-(n+1));(case measure=>omega);exact⟨n+1,rfl,by omega,by rw[HB.o],by go_num,I⟩};obtain rfl:bd=0:=(by omega);have HB:Hid (bO t s d (n+1)=if decide (bO t s d n<0)||decide (cL t s d n (2*t.links.length)<bO t s d n)then cL t s d n (2*t.links.length)else bO t s d n):=Hx (by show(if eZ s d n&&_ then _ else _)=_;unfold eZ;rw[q4,d4];rfl);have HC:=Hx (fun k hk=>nA (t:=t) (s:=s) (d:=d) HT.o.2 n k hk);clear d3 d4 q3 q4 qh qj;have qg:=Hx qx;have qC:=jzpn (t:=t) (s:=s) (d:=d) HT.o.2 n;generalize hbe:bO t s d n=be at*;have J0:Hid (Blk wr w.heap.size 25 #[vI t.nodes,.s AO t.over.length co,.s AL t.links.length cl]/\Ext w wr):=Hx (I.o);go_wp2;clear i0 i1 i2 qA;go_loopg [9,10] (2*t.links.length) (fun q st at_ wx=>∃a:Nat,2*t.links.length-a=q/\a<=2*t.links.length/\st=vI (cL t s d n a)/\at_=vI (a:Int)/\Hid (Blk wx w.heap.size 25 #[vI t.nodes,.s AO t.over.length co,.s AL t.links.length cl]/\Ext w wx));(case atStart=>exact⟨0,rfl,yZ _,rfl,rfl,J0⟩);obtain⟨a,rfl,ha,rfl,rfl,K⟩:=hrel;clear J0 I;obtain⟨⟨i0,i1,i2⟩,_⟩:=K.o.1.t3;obtain⟨c1,c2⟩:=HC.o a ha;(go_wp2_with fail);refine(nI t AO co AL cl _ (HT.o.1.K K.o.2) HT.o.2).mono ?_;rintro e w6 ⟨rfl,x6⟩;have K6:=Hx (kQa (K.o.1.K x6) (K.o.2.tr x6));clear x6 K i0 i1 i2;obtain⟨⟨i0,i1,i2⟩,_⟩:=K6.o.1.t3;by_cases qn:a<2*t.links.length
  ·obtain⟨t0,tN,qk⟩:=sP HT.o.2 qn;obtain⟨h0,_,qy,_⟩:=eD HT.o.2 qk;obtain⟨u,hu⟩:∃u,u=(aU t a).toNat:=⟨_,rfl⟩;obtain⟨v,hv⟩:∃v,v=(aH t a).toNat:=⟨_,rfl⟩;have qe:Hid (∀wx,Ext w wx->Calls prog 52 #[.agg #[vI t.nodes,.s AO t.over.length co,.s AL t.links.length cl],vI (a:Int)] wx fun e w'=>e=.returned (vI (u:Int))/\Ext wx w'):=Hx (fun wx hx=>by have h1:=tK t AO co AL cl a wx (HT.o.1.K hx) HT.o.2 qn;rw[show aU t a=(u:Int) by omega]at h1;exact h1);have qf:Hid (∀wx,Ext w wx->Calls prog 53 #[.agg #[vI t.nodes,.s AO t.over.length co,.s AL t.links.length cl],vI (a:Int)] wx fun e w'=>e=.returned (vI (v:Int))/\Ext wx w'):=Hx (fun wx hx=>by have h1:=jzau t AO co AL cl a wx (HT.o.1.K hx) HT.o.2 qn;rw[show aH t a=(v:Int) by omega]at h1;exact h1);have qo:=Hx (kQa hu hv);have u7:u<=7:=(by omega);have v7:v<=7:=(by omega);clear t0 tN qk h0 qy hu hv;have qa:Hid (∀wx,Ext w6 wx->wx.cell? (aD w.heap.size 0)=some (vI t.nodes)/\wx.cell? (aD w.heap.size 1)=some (.s AO t.over.length co)/\wx.cell? (aD w.heap.size 2)=some (.s AL t.links.length cl)):=Hx (fun wx hx=>by obtain⟨h,_⟩:=(K6.o.1.K hx).t3;exact h);have XD:Hid (Ext w6 w6.drew):=Hx ((eR w6).drewN 1);clear i0 i1 i2;obtain⟨i0,i1,i2⟩:=qa.o _ XD.o;(go_upto_region 10 with fail);go_cut [11,12] (fun x y wx=>x=vI (u:Int)/\y=vI (v:Int)/\Hid (Ext w6 wx))
   case first=>
    go_region_held3 (fun w'=>w'.cell? (aD w.heap.size 0)=some (vI t.nodes)/\w'.cell? (aD w.heap.size 1)=some (.s AO t.over.length co)/\w'.cell? (aD w.heap.size 2)=some (.s AL t.links.length cl))
     (first|with_reducible exact⟨i0,i1,i2⟩|fail)
     (first
      |(go_at_call 52
        with_reducible refine(qe.o _ (K6.o.2.tr (by with_reducible exact XD.o))).mono ?_
        rintro e w8 ⟨rfl,x8⟩;have E8:=Hx (XD.o.tr x8);obtain⟨i0,i1,i2⟩:=qa.o _ E8.o;clear x8)
      |(go_at_call 53
        with_reducible refine(qf.o _ (K6.o.2.tr (by with_reducible exact E8.o))).mono ?_
        rintro e w9 ⟨rfl,x9⟩;have E9:=Hx (E8.o.tr x9);obtain⟨i0,i1,i2⟩:=qa.o _ E9.o;clear x9)
      |fail)
    all_goals
     go_wp2;go_meet;exact⟨rfl,rfl,E9⟩
   obtain⟨rfl,rfl,E2⟩:=hcut;have NX:Hid (cL t s d n (a+1)=if(!(dD t u s d||dD t v s d))&&(inS n u&&!inS n v)then cL t s d n a+iA t a else cL t s d n a):=Hx (by rw[qo.o.1,qo.o.2];rfl);clear i0 i1 i2 qe qf XD;obtain⟨i0,i1,i2⟩:=qa.o _ E2.o;(go_wp2_with fail);(refine(jzdm t AO co AL cl u s d _ (HT.o.1.K (K6.o.2.tr E2.o)) HT.o.2).mono ?_;rintro e w9 ⟨rfl,x9⟩;have E9:=Hx (E2.o.tr x9);clear x9 E2 i0 i1 i2;obtain⟨i0,i1,i2⟩:=qa.o _ E9.o;cases hlu:dD t u s d with|true=>have K9:=Hx (kQa (K6.o.1.K E9.o) (K6.o.2.tr E9.o));rw[hlu]at NX;go_wp2;go_roundg (2*t.links.length-(a+1));(case measure=>omega);exact⟨a+1,rfl,by omega,by rw[NX.o];rfl,by go_num,K9⟩|false=>rw[hlu]at NX;(go_wp2_with fail);(refine(jzdm t AO co AL cl v s d _ (HT.o.1.K (K6.o.2.tr E9.o)) HT.o.2).mono ?_;rintro e w8 ⟨rfl,x8⟩;have E8:=Hx (E9.o.tr x8);have K9:=Hx (kQa (K6.o.1.K E8.o) (K6.o.2.tr E8.o));clear x8 E9 i0 i1 i2;obtain⟨i0,i1,i2⟩:=qa.o _ E8.o;cases qk:dD t v s d with|true=>rw[qk]at NX;go_wp2;go_roundg (2*t.links.length-(a+1));(case measure=>omega);exact⟨a+1,rfl,by omega,by rw[NX.o];rfl,by go_num,K9⟩|false=>rw[qk]at NX;obtain⟨qu,bu,e1,e2,e3,e4⟩:=sQ n u (by omega);obtain⟨qv,bv,f1,f2,f3,f4⟩:=sQ n v (by omega);rw[e4,f4]at NX;clear e4 f4;by_cases qh:bu=0;{subst qh;clear f1 f2 f3 e3;go_wp2;go_roundg (2*t.links.length-(a+1));(case measure=>omega);exact⟨a+1,rfl,by omega,by rw[NX.o];rfl,by go_num,K9⟩};obtain rfl:bu=1:=(by omega);by_cases qj:bv=1;{subst qj;clear e3 f3;go_wp2;go_roundg (2*t.links.length-(a+1));(case measure=>omega);exact⟨a+1,rfl,by omega,by rw[NX.o];rfl,by go_num,K9⟩};obtain rfl:bv=0:=(by omega);clear e3 f3 qh qj;obtain⟨hl,_,_,_,_,k6,k7⟩:=iS HT.o.2 qn;obtain⟨lk,qm⟩:∃lk,t.links[a/2]?=some lk:=⟨_,yG hl⟩;have e0:t.links[a/2]=lk:=(yH.1 qm).2;rw[e0]at k6 k7;have qz:=Hx (show iA t a=lk.cap by unfold iA;rw[qm]);obtain⟨b,o,rfl,hb,_,_,_,_,c4,_,_⟩:=(HT.o.1.K K9.o.2).link qm;rw[qz.o]at NX;clear e0 qm;generalize hcu:cL t s d n a=cu at*;have hw:wrap64 (cu+lk.cap)=cu+lk.cap:=(by unfold wrap64;omega);go_wp2;go_roundg (2*t.links.length-(a+1));(case measure=>omega);exact⟨a+1,rfl,by omega,by rw[NX.o];rfl,by go_num,K9⟩))
  obtain rfl:a=2*t.links.length:=(by omega);have K9:=K6;generalize hcu:cL t s d n (2*t.links.length)=cu at*;by_cases qp:be<0;{rw[yO qp]at HB;go_wp2;go_roundg (M-(n+1));(case measure=>have:=qg.o;omega);exact⟨n+1,rfl,by have:=qg.o;omega,by rw[HB.o];rfl,by go_num,K9⟩};rw[yP qp]at HB;by_cases qi:cu<be;{rw[yO qi]at HB;go_wp2;go_roundg (M-(n+1));(case measure=>have:=qg.o;omega);exact⟨n+1,rfl,by have:=qg.o;omega,by rw[HB.o];rfl,by go_num,K9⟩};rw[yP qi]at HB;go_wp2;go_roundg (M-(n+1));(case measure=>have:=qg.o;omega);exact⟨n+1,rfl,by have:=qg.o;omega,by rw[HB.o];rfl,by go_num,K9⟩
 obtain rfl:n=M:=(by omega);go_wp2;go_ret;exact⟨rfl,I.o.2⟩
end Go.Proofs.YtojpooidhilnfaaGreatDoor
namespace Go.Proofs.YtojpooidhilnfaaGreatDoor
open Go.Proofs.Tryz
open Go.RowKit
def gC(t:Tp)(l:List Dm):Bool:=l.all fun x=>decide ((gF t [] x.src.toNat x.dst.toNat).length≠0)
theorem jzpp t AO(co:Nat)AL(cl:Nat)(l:List Dm)AD(cd:Nat)w(ht:aX w t AO co AL cl)(hd:DmR w l AD cd)(hf:Fit t l)(hN:t.nodes<=7)(hL:t.links.length<=10)(hD:l.length<=4):
  Calls prog 11 #[.agg #[vI t.nodes,.s AO t.over.length co,.s AL t.links.length cl],.s AD l.length cd] w fun e w'=>e=.returned (.bool (gC t l))/\Ext w w':=by
 have qm:=hd.len;have qk:=ht.ll;have qn:=ht.cl;have qe:(2*t.links.length+1)^t.nodes.toNat<=2^42:=yY (yY (Nat.pow_le_pow_left (show 2*t.links.length+1<=21 by omega) _) (kQk (by decide) (show t.nodes.toNat<=7 by omega))) (by decide);obtain⟨qh,e0⟩:=aV w #[vI t.nodes,.s AO t.over.length co,.s AL t.links.length cl] 25;have I0:=Hx (kQa qh e0);have qj:=Hx (show∀(s d:Nat) wx,Ext w wx->(s:Int)<t.nodes->(d:Int)<t.nodes->Calls prog 47 #[.agg #[vI t.nodes,.s AO t.over.length co,.s AL t.links.length cl],zN,vI (s:Int),vI (d:Int)] wx fun e w'=>∃v,e=.returned v/\cH w' wx.heap.size v (gF t [] s d)/\Ext wx w' from fun s d wx hx h1 h2=>
  jzh8 t AO co AL cl none 0 [] s d wx (ht.K hx) hf.v (Rd.nil _ _) (by decide) h1 h2 qe)
 have HD:=Hx (kQa hd hf);clear ht hd hf qe qh e0;go_enter func11,ntmps11;go_wp2;go_loopg [5] l.length (fun q it wx=>∃i:Nat,l.length-i=q/\i<=l.length/\it=vI (i:Int)/\Hid (gC t (l.take i)=true/\Blk wx w.heap.size 25 #[vI t.nodes,.s AO t.over.length co,.s AL t.links.length cl]/\Ext w wx));(case atStart=>exact⟨0,rfl,yZ _,rfl,Hx ⟨rfl,I0.o⟩⟩);obtain⟨i,rfl,hi,rfl,I⟩:=hrel;clear I0;by_cases qi:i<l.length
 ·obtain⟨x,hx⟩:∃x,l[i]?=some x:=⟨_,yG qi⟩;obtain⟨b,o,rfl,hb,d0,d1,_,_⟩:=HD.o.1.at_ hx;have qf:=yJ hx;obtain⟨n1,n2⟩:=HD.o.2.mem qf;have qg:=HD.o.2.ok _ qf;unfold Dm.ok inB at qg;simp at qg;obtain⟨s,hs⟩:∃s:Nat,x.src=(s:Int):=⟨x.src.toNat,by omega⟩;obtain⟨d,hd⟩:∃d:Nat,x.dst=(d:Int):=⟨x.dst.toNat,by omega⟩;have s1:(s:Int)<t.nodes:=(by omega);have d2:(d:Int)<t.nodes:=(by omega);rw[hs]at d0;rw[hd]at d1;have NX:Hid (gC t (l.take (i+1))=decide ((gF t [] s d).length≠0)/\((gF t [] s d).length=0->gC t l=false)):=Hx (by have e1:x.src.toNat=s:=(by omega);have e2:x.dst.toNat=d:=(by omega);refine⟨?_,fun h=>?_⟩;{unfold gC;rw[kQr,hx,List.all_append];have:=I.o.1;unfold gC at this;rw[this,kZg];show(decide ((gF t [] x.src.toNat x.dst.toNat).length≠0)&&true)=_;rw[Bool.and_true,e1,e2]};unfold gC;rw[List.all_eq_false];exact⟨x,qf,by rw[e1,e2,h];decide⟩);have qa:Hid (∀wx,Ext wr wx->(wx.cell? (aD w.heap.size 0)=some (vI t.nodes)/\wx.cell? (aD w.heap.size 1)=some (.s AO t.over.length co)/\wx.cell? (aD w.heap.size 2)=some (.s AL t.links.length cl))/\wx.cell? (aD b (o+i*4))=some (vI (s:Int))/\wx.cell? (aD b (o+i*4+1))=some (vI (d:Int))):=Hx (fun wx hx=>by obtain⟨h,_⟩:=(I.o.2.1.K hx).t3;exact⟨h,aB (I.o.2.2.tr hx) d0,aB (I.o.2.2.tr hx) d1⟩);have XD:Hid (Ext wr wr.drew):=Hx ((eR wr).drewN 1);have iN:(i:Int)<(l.length:Int):=(by omega);have i0:(0:Int)<=(i:Int):=(by omega);clear hx qf n1 n2 qg hs hd d0 d1;obtain⟨⟨j0,j1,j2⟩,j3,j4⟩:=qa.o _ XD.o;go_upto_region 4 with fail
  go_region_held3 (fun w'=>(w'.cell? (aD w.heap.size 0)=some (vI t.nodes)/\w'.cell? (aD w.heap.size 1)=some (.s AO t.over.length co)/\w'.cell? (aD w.heap.size 2)=some (.s AL t.links.length cl))/\w'.cell? (aD b (o+i*4))=some (vI (s:Int))/\w'.cell? (aD b (o+i*4+1))=some (vI (d:Int)))
   (first|with_reducible exact⟨⟨j0,j1,j2⟩,j3,j4⟩|fail)
   (first
    |(go_at_call 47
      with_reducible refine(qj.o s d _ (I.o.2.2.tr (by with_reducible exact XD.o)) s1 d2).mono ?_
      rintro e w8 ⟨v8,rfl,p8,x8⟩;obtain⟨A8,c8,rfl⟩:=p8.form;have E8:=Hx (XD.o.tr x8);obtain⟨⟨j0,j1,j2⟩,j3,j4⟩:=qa.o _ E8.o;clear x8 p8)
    |fail)
  all_goals
   generalize hz:(gF t [] s d).length=z at*;by_cases h0:z=0
   ·
    subst h0
    have FF:=Hx (kQa (NX.o.2 rfl) (I.o.2.2.tr E8.o));clear NX;go_wp2;go_ret;rw[FF.o.1];exact⟨rfl,FF.o.2⟩
   have FF:Hid (gC t (l.take (i+1))=true/\Blk w8 w.heap.size 25 #[vI t.nodes,.s AO t.over.length co,.s AL t.links.length cl]/\Ext w w8):=Hx (⟨by rw[NX.o.1];exact yO h0,I.o.2.1.K E8.o,I.o.2.2.tr E8.o⟩);clear NX;go_wp2
   go_roundg (l.length-(i+1))
   case measure=>
                 omega
   exact⟨i+1,rfl,by omega,by go_num,FF⟩
 obtain rfl:i=l.length:=(by omega);have hT:Hid (gC t l=true):=Hx (by have:=I.o.1;rwa [List.take_length]at this);go_wp2;go_ret;rw[hT.o];exact⟨rfl,I.o.2.2⟩
end Go.Proofs.YtojpooidhilnfaaGreatDoor
