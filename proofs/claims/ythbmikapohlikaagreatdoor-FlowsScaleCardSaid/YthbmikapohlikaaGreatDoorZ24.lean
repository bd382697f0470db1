/- Part 24 of 24 of what the Flows claims share (the white space is struck, the texts are joined). -/
import Derived.Test.YthbmikapohlikaaGreatDoorZ23
set_option linter.unusedVariables false
set_option linter.unusedSimpArgs false
set_option maxRecDepth 100000
set_option maxHeartbeats 8000000
namespace Go.Proofs.YthbmikapohlikaaGreatDoor
open Go.RowKit
theorem jzmj(t:Tp)(AO:Option Addr)(co:Nat)(AL:Option Addr)(cl:Nat)(l:List Dm)(AD:Option Addr)(cd:Nat)(v:Rat)(nv:Bool)(V1:Option Addr)(nv1 cv1:Nat)(V2:Option Addr)(nv2 cv2:Nat)(Z:List PthI)(PA:Option Addr)(np cp:Nat)(qA:Z.length=np)(pr:List Rat)(PR:Option Addr)(nr cr P:Nat)(hnr:pr.length=nr)(w:World)(ht:TopR w t AO co AL cl)(hd:DmR w l AD cd)(hlD:l.length<=64)(qP:RatR w nv V1 nv1 cv1 V2 nv2 cv2 v)(qT:SzQ v 1000000)(hp:PLr w PA Z)
  (hq:QL w PR pr) (q5:∀q∈pr,SzQ q P) (qp:np<=1000) (hsz:∀p∈Z,SzQ p.flow P) (hP1:1<=P) (hal:∀p∈Z,p.arcs.length<=1000) (hi64:∀p∈Z,i64 p.dem/\∀a∈p.arcs,i64 a) (hPb:P<=10000) (hK:1+arcN Z*(P+1)<=50000000) (hta:Tab w):
  Calls Tryz.prog 27 #[.agg #[.int .i64 t.nodes,.slice AO t.over.length co,.slice AL t.links.length cl],.slice AD l.length cd,.agg #[.bool nv,.slice V1 nv1 cv1,.slice V2 nv2 cv2,.slice PA np cp,.slice PR nr cr]] w fun e w'=>e=.returned (.bool (chkP t l v Z pr))/\Ext w w':=by
 have HT:=Hx (And.intro ht hd);have HQ:=Hx (And.intro hq q5);have HV:=Hx (And.intro qP qT);have ve:=hd.len;have vj:=ht.ll;have vi:=ht.cl;obtain⟨q4,q6,e0⟩:=boxes2 w #[.int .i64 t.nodes,.slice AO t.over.length co,.slice AL t.links.length cl] 25 #[.bool nv,.slice V1 nv1 cv1,.slice V2 nv2 cv2,.slice PA np cp,.slice PR nr cr] 39;have vh:((w.alloc (.cells #[.int .i64 t.nodes,.slice AO t.over.length co,.slice AL t.links.length cl] 25)).alloc (.cells #[.bool nv,.slice V1 nv1 cv1,.slice V2 nv2 cv2,.slice PA np cp,.slice PR nr cr] 39)).heap.size=w.heap.size+2:=(by simp);have E0:=Hx (And.intro q4 (And.intro q6 e0));have AC:=Hx (fun wx (hx:Ext w wx)=>jzcz t AO co AL cl l AD cd v nv V1 nv1 cv1 V2 nv2 cv2 Z PA np cp qA PR nr cr P wx (ht.keep hx) (hd.keep hx) hlD (qP.keep hx) qT (hp.keep hx fun cs x h=>h.keep hx) qp hsz hP1 hal hi64 hPb hK (hta.keep hx));have AR:=Hx (fun wx (hx:Ext w wx)=>jzac t AO co AL cl wx (ht.keep hx));clear ht hd qP qT hp hq q5 hsz hal hi64 hta q4 q6 e0
 go_enter Tryz.func27,Tryz.ntmps27
 go_upto_region 1 with fail
 generalize (w.alloc (.cells #[.int .i64 t.nodes,.slice AO t.over.length co,.slice AL t.links.length cl] 25)).alloc (.cells #[.bool nv,.slice V1 nv1 cv1,.slice V2 nv2 cv2,.slice PA np cp,.slice PR nr cr] 39)=W0 at*
 go_cut [28] (fun s wx=>s=.bool (!(admP t l v Z&&decide (nr=2*t.links.length)))/\Ext W0 wx)
 case first=>
  have qo:w.heap.size<W0.heap.size:=E0.out.1.lt;have qm:w.heap.size+1<W0.heap.size:=E0.out.2.1.lt;have x0:=XW.cell _ _ _ qo (E0.out.1.cell 0);have x1:=XW.cell _ _ _ qo (E0.out.1.cell 1);have x2:=XW.cell _ _ _ qo (E0.out.1.cell 2);have y0:=XW.cell _ _ _ qm (E0.out.2.1.cell 0);have y1:=XW.cell _ _ _ qm (E0.out.2.1.cell 1);have y2:=XW.cell _ _ _ qm (E0.out.2.1.cell 2);have y3:=XW.cell _ _ _ qm (E0.out.2.1.cell 3);have y4:=XW.cell _ _ _ qm (E0.out.2.1.cell 4);cases hA:admP t l v Z
  ·rw [hA]at AC
   refine jzh (by kernel_rfl) (by kernel_rfl) ?_
   repeat (go_big_quiet_step ((go_at_call 26;exact Calls.ext_of (AC.out _ (E0.out.2.2.tr (XW.ext _))))))
   refine wpQuiet_nil ?_;rintro _ ⟨x,rfl⟩;go_wp2;go_meet;rw [hA];exact⟨rfl,x.ext⟩
  ·rw [hA]at AC
   refine jzh (by kernel_rfl) (by kernel_rfl) ?_
   repeat (go_big_quiet_step (first|(go_at_call 26;exact Calls.ext_of (AC.out _ (E0.out.2.2.tr (XW.ext _))))|(go_at_call 68;exact Calls.ext_of (AR.out _ (E0.out.2.2.tr (XW.ext _))))))
   refine wpQuiet_nil ?_;rintro _ ⟨x,rfl⟩;by_cases hE:nr=2*t.links.length
   ·have e1:((nr:Int) !=2*(t.links.length:Int))=false:=by rw [show(nr:Int)=2*(t.links.length:Int) by omega];simp
    have FA:=Hx (show(!(admP t l v Z&&decide (nr=2*t.links.length)))=false by rw [hA,yO hE];rfl);clear hE;go_wp2;go_meet;rw [FA.out];exact⟨by rw [e1],x.ext⟩
   ·have e0:¬(nr:Int)=2*(t.links.length:Int):=by omega
    have e1:((nr:Int) !=2*(t.links.length:Int))=true:=(by simpa using e0);have FA:=Hx (show(!(admP t l v Z&&decide (nr=2*t.links.length)))=true by rw [yP hE,Bool.and_false];rfl);go_wp2;go_meet;rw [FA.out];exact⟨by rw [e1],x.ext⟩
 case rest=>
  obtain⟨rfl,qL⟩:=hcut;generalize wc=W1 at*;have X1:=Hx (E0.out.2.2.tr qL);have XL:=Hx qL;clear qL;cases hB:(admP t l v Z&&decide (nr=2*t.links.length))
  ·have FA:=Hx (show chkP t l v Z pr=false by unfold chkP;rw [hnr,hB];rfl)
   go_wp2;go_ret;rw [FA.out];exact⟨rfl,X1.out⟩
  ·rw [vM]at hB
   obtain⟨hA,hE⟩:=hB;have HR:=Hx (show chkP t l v Z pr=(posOk pr nr&&cheOk t l pr l.length&&decide (worN t pr nr=v)&&decide (1<=needN t l pr l.length)) by unfold chkP;rw [hnr,hA,hE];rfl);have hE:=of_decide_eq_true hE;have qi:=Hx (admP_fit hlD hA);have qn:=Hx hE;have qW:nr<=512:=by
    have:=qi.out.v;unfold validP headOk at this;simp at this;omega
   clear hA hE AC AR;obtain⟨b7,b8,e3⟩:=boxes2 W1 #[.bool false,.slice none 0 0,.slice none 0 0] 35 #[.bool false,.slice none 0 0,.slice none 0 0] 35;have E3:=Hx e3;have vd:((W1.alloc (.cells #[.bool false,.slice none 0 0,.slice none 0 0] 35)).alloc (.cells #[.bool false,.slice none 0 0,.slice none 0 0] 35)).heap.size=W1.heap.size+2:=(by simp);have I0:=Hx (ChI.mk (RB.of b7 (jz6 _)) (RB.of b8 (jz6 _)) (FrS.refl _ _));have P4:=Hx ((E0.out.2.1.keep XL.out).keep E3.out);have T4:=Hx ((E0.out.1.keep XL.out).keep E3.out);have X3:=Hx (X1.out.tr E3.out);have vc:w.heap.size+2<=W1.heap.size:=(by have:=XL.out.size;omega);have y4:=P4.out.cell 4;clear b7 b8 e3
   go_upto_region 4 with fail
   generalize (W1.alloc (.cells #[.bool false,.slice none 0 0,.slice none 0 0] 35)).alloc (.cells #[.bool false,.slice none 0 0,.slice none 0 0] 35)=W3 at*;generalize W1.heap.size=g7 at*;have qX:g7+1≠g7:=(by omega);have S0:=Hx (show ChI W3 W3 g7 (g7+1) (worN t pr 0) (needN t l pr 0)/\posOk pr 0=true from⟨I0.out,rfl⟩);clear I0;go_wp2
   go_loopg [9,10,32] nr (fun q _ _ it wx=>∃(n:Nat),nr-n=q/\n<=nr/\it=.int .i64 (n:Int)/\Hid (ChI W3 wx g7 (g7+1) (worN t pr n) (needN t l pr 0)/\posOk pr n=true))
   case atStart=>exact⟨0,rfl,yZ _,rfl,S0⟩
   case round=>
    obtain⟨n,rfl,hn,rfl,I⟩:=hrel;clear S0;have XW:=Hx (show Ext w wr from I.out.1.fr.ext X3.out fun b hb=>by omega);have TW:=Hx (show Blk wr w.heap.size 25 #[.int .i64 t.nodes,.slice AO t.over.length co,.slice AL t.links.length cl]from I.out.1.fr.blk T4.out (by omega));by_cases qp:n<nr
    ·have qA:n<pr.length:=by omega
     obtain⟨b,o,neg,A1,n1,c1,A2,n2,c2,rfl,hb,a0,a1,a2,qO⟩:=(HQ.out.1.keep XW.out).at_ (jzv qA);have nN:(n:Int)<(nr:Int):=(by omega);have n0:(0:Int)<=(n:Int):=(by omega);have qB:=HQ.out.2 _ (yJ (jzv qA));obtain⟨l1,q2⟩:=qO.lens qB;have RA:=Hx qO;have X8:=Hx (show Ext wr (wr.alloc (.cells #[.bool neg,.slice A1 n1 c1,.slice A2 n2 c2] 35))from(Ext.refl wr).alloc _);have B8:=Hx (Blk.new wr 35 #[.bool neg,.slice A1 n1 c1,.slice A2 n2 c2]);clear qO qB
     go_upto_region 7 with fail
     clear a0 a1 a2;generalize wr.alloc (.cells #[.bool neg,.slice A1 n1 c1,.slice A2 n2 c2] 35)=W8 at*;generalize hbd:wr.heap.size=bd at*;have qt:=Hx (show Ext w W8 from XW.out.tr X8.out);have I8:=Hx (I.out.1.keep X8.out);have C8:=Hx (show∀wx,Ext W8 wx->wx.cell? ⟨bd,0,none⟩=some (.bool neg)/\wx.cell? ⟨bd,1,none⟩=some (.slice A1 n1 c1)/\wx.cell? ⟨bd,2,none⟩=some (.slice A2 n2 c2)from fun wx hx=>⟨(B8.out.keep hx).cell 0,(B8.out.keep hx).cell 1,(B8.out.keep hx).cell 2⟩);obtain⟨b0,b1,b2⟩:=C8.out _ (Ext.refl W8)
     go_wp2_with fail
     refine(jzz neg A1 n1 c1 A2 n2 c2 (Sx.at_ pr n) _ (RA.out.keep X8.out)).mono ?_;rintro e w5 ⟨rfl,x5⟩;have X5:=Hx x5;clear x5 b0 b1 b2;by_cases qC:0<=Sx.at_ pr n
     case neg=>
      have hs:=(jzdr (Sx.at_ pr n)).2 (Rat.not_le.1 qC);have hd:decide (sgnI (Sx.at_ pr n)<0)=true:=yO hs;have qf:=Hx (show chkP t l v Z pr=false by rw [HR.out,posOk_bad qC qp];rfl);clear hs;go_wp2;go_ret;rw [qf.out];exact⟨rfl,qt.out.tr X5.out⟩
     case pos=>
      have hs:¬sgnI (Sx.at_ pr n)<0:=fun h=>absurd ((jzdr _).1 h) (Rat.not_lt.2 qC);have hd:decide (sgnI (Sx.at_ pr n)<0)=false:=yP hs;clear hs
      go_upto_region 9 with fail
      obtain⟨ny,Y1,my,fy,qg,qe,qk,⟨s0,s1,s2⟩,_,hy⟩:=(I8.out.keep X5.out).r7.at3;obtain⟨l2,qZ⟩:=hy.lens (jzl8 qi.out.v HQ.out.2 (by rw [hnr];exact qn.out) n (by omega));have qj:n*(P+2)<=512*(10000+2):=Nat.mul_le_mul (by omega) (by omega);have RY:=Hx hy;have qa:=Hx (show∀wx,Ext w5 wx->(wx.cell? ⟨g7,0,none⟩=some (.bool ny)/\wx.cell? ⟨g7,1,none⟩=some (.slice Y1 my fy)/\wx.cell? ⟨g7,2,none⟩=some (.slice qg qe qk))/\(wx.cell? ⟨bd,0,none⟩=some (.bool neg)/\wx.cell? ⟨bd,1,none⟩=some (.slice A1 n1 c1)/\wx.cell? ⟨bd,2,none⟩=some (.slice A2 n2 c2))/\
        wx.cell? ⟨w.heap.size,0,none⟩=some (.int .i64 t.nodes)/\wx.cell? ⟨w.heap.size,1,none⟩=some (.slice AO t.over.length co)/\wx.cell? ⟨w.heap.size,2,none⟩=some (.slice AL t.links.length cl)from fun wx hx=>
       ⟨⟨cellK hx s0,cellK hx s1,cellK hx s2⟩,C8.out _ (X5.out.tr hx),((TW.out.keep X8.out).keep (X5.out.tr hx)).cell 0,((TW.out.keep X8.out).keep (X5.out.tr hx)).cell 1,((TW.out.keep X8.out).keep (X5.out.tr hx)).cell 2⟩)
      have XD:=Hx (show Ext w5 w5.drew from(Ext.refl w5).drewN 1);have HSW:=Hx (qa.out _ XD.out);clear hy s0 s1 s2;refine jzg (fun w'=>(w'.cell? ⟨g7,0,none⟩=some (.bool ny)/\w'.cell? ⟨g7,1,none⟩=some (.slice Y1 my fy)/\w'.cell? ⟨g7,2,none⟩=some (.slice qg qe qk))/\(w'.cell? ⟨bd,0,none⟩=some (.bool neg)/\w'.cell? ⟨bd,1,none⟩=some (.slice A1 n1 c1)/\w'.cell? ⟨bd,2,none⟩=some (.slice A2 n2 c2))/\
       w'.cell? ⟨w.heap.size,0,none⟩=some (.int .i64 t.nodes)/\w'.cell? ⟨w.heap.size,1,none⟩=some (.slice AO t.over.length co)/\w'.cell? ⟨w.heap.size,2,none⟩=some (.slice AL t.links.length cl)) 7 (by kernel_rfl) ?_
      refine wT 0 (v:=?_) rfl ?_ HSW.out ?_;rotate_left
      focus (intro w hSw;obtain⟨⟨s0,s1,s2⟩,⟨s3,s4,s5⟩,s6,s7,s8⟩:=hSw;go_simp;try with_reducible rfl)
      try simp only [Act.put,yA,yB,yC,yD,yE,yF]
      refine wT 1 (v:=?_) rfl ?_ HSW.out ?_;rotate_left
      focus (intro w hSw;obtain⟨⟨s0,s1,s2⟩,⟨s3,s4,s5⟩,s6,s7,s8⟩:=hSw;go_simp;try with_reducible rfl)
      try simp only [Act.put,yA,yB,yC,yD,yE,yF]
      refine wT 2 (v:=?_) rfl ?_ HSW.out ?_;rotate_left
      focus (intro w hSw;obtain⟨⟨s0,s1,s2⟩,⟨s3,s4,s5⟩,s6,s7,s8⟩:=hSw;go_simp;try with_reducible rfl)
      try simp only [Act.put,yA,yB,yC,yD,yE,yF]
      refine wP 3 rfl HSW.out ?_;try simp only [Act.put,yA,yB,yC,yD,yE,yF]
      refine wC 4 rfl (fun KK hK=>?_);go_simp;refine(jzbw t AO co AL cl n _ (HT.out.1.keep ((qt.out.tr X5.out).tr XD.out)) qi.out.v (by rw [<-qn.out];exact qp)).mono ?_;rintro e w6 ⟨n6,A6,l6,c6,qE,qQ,qK,rfl,h6,x6⟩;have E6:=Hx (XD.out.tr x6);have HSW:=Hx (qa.out _ E6.out);obtain⟨l3,qY⟩:=h6.lens (jzf9 qi.out.v (show n<2*t.links.length by rw [<-qn.out];exact qp));have R6:=Hx h6;refine hK.out _ _ HSW.out ?_;clear hK KK x6 h6;try simp only [Act.put,yA,yB,yC,yD,yE,yF]
      refine wC 5 rfl (fun KK hK=>?_);go_simp;refine(jz1 neg n6 A1 n1 c1 A2 n2 c2 A6 l6 c6 qE qQ qK (Sx.at_ pr n) (capQ t n) _ (RA.out.keep ((X8.out.tr X5.out).tr E6.out)) R6.out (by omega) (by omega) (by omega) (by omega)).mono ?_;rintro e w7 ⟨n7,A7,l7,c7,qx,qy,qz,rfl,h7,x7⟩;have E7:=Hx (E6.out.tr x7);have HSW:=Hx (qa.out _ E7.out);obtain⟨l4,q1⟩:=h7.lens ((HQ.out.2 _ (yJ (jzv qA))).mul (jzf9 qi.out.v (show n<2*t.links.length by rw [<-qn.out];exact qp)));have R7:=Hx h7;refine hK.out _ _ HSW.out ?_;clear hK KK x7 h7;try simp only [Act.put,yA,yB,yC,yD,yE,yF]
      refine wC 6 rfl (fun KK hK=>?_);go_simp;refine(jz7 ny n7 Y1 my fy qg qe qk A7 l7 c7 qx qy qz (worN t pr n) (Sx.at_ pr n*capQ t n) _ (RY.out.keep E7.out) R7.out (by omega) (by omega) (by omega) (by omega) (jzp (Nat.mul_ne_zero (Rat.den_nz _) (Rat.den_nz _)))).mono ?_;rintro e w9 ⟨n9,A9,l9,c9,qF,qN,qS,rfl,h9,x9⟩;have E9:=Hx (E7.out.tr x9);have HSW:=Hx (qa.out _ E9.out);have Q9:=Hx ((I8.out.keep X5.out).keep E9.out);have qf:=Hx (show ChI W3 (((w9.setCell ⟨g7,0,none⟩ (.bool n9)).setCell ⟨g7,1,none⟩ (.slice A9 l9 c9)).setCell ⟨g7,2,none⟩ (.slice qF qN qS)) g7 (g7+1) (worN t pr (n+1)) (needN t l pr 0)/\posOk pr (n+1)=true from⟨Q9.out.put7 qX h9,by rw [jzl6,I.out.2,yO qC];rfl⟩);obtain⟨_,_,_,_,_,_,_,_,⟨z0,z1,z2⟩,_⟩:=Q9.out.r7.at3;refine hK.out _ _ HSW.out ?_;clear hK KK x9 h9;try simp only [Act.put,yA,yB,yC,yD,yE,yF]
      obtain⟨⟨s0,s1,s2⟩,⟨s3,s4,s5⟩,s6,s7,s8⟩:=HSW.out;refine jzk (by kernel_rfl) rfl (by rfl) (fun KK hK=>?_);go_simp;refine hK.out _ _ ?_;clear hK KK;refine wpAny_done (by kernel_rfl) ?_ _;clear s0 s1 s2 s3 s4 s5 s6 s7 s8 z0 z1 z2 HSW qa XD RY RA Q9 E9 E7 E6 R6 R7 I8 C8 B8 I;go_wp2
      go_roundg (nr-(n+1))
      case measure=>omega
      case rel=>exact⟨n+1,rfl,by omega,by go_num,qf⟩
    ·obtain rfl:n=nr:=by omega
     have qR:=Hx (show chkP t l v Z pr=(cheOk t l pr l.length&&decide (worN t pr n=v)&&decide (1<=needN t l pr l.length))from by rw [HR.out,I.out.2];rfl);have qI:=Hx (posOk_all (pr:=pr) (by rw [hnr];exact I.out.2));obtain⟨W9,rfl⟩:∃W,W=wr:=⟨_,rfl⟩;have S0:=Hx (show ChI W3 W9 g7 (g7+1) (worN t pr n) (needN t l pr 0)/\cheOk t l pr 0=true from⟨I.out.1,rfl⟩);go_wp2
     go_loopg [12,13,14,15,50] l.length (fun q _ _ _ _ it wx=>∃(k:Nat),l.length-k=q/\k<=l.length/\it=.int .i64 (k:Int)/\Hid (ChI W3 wx g7 (g7+1) (worN t pr n) (needN t l pr k)/\cheOk t l pr k=true))
     case atStart=>exact⟨0,rfl,yZ _,rfl,S0⟩
     case round=>
      obtain⟨k,rfl,hk,rfl,J⟩:=hrel;clear S0;have XJ:=Hx (show Ext w wr from J.out.1.fr.ext X3.out fun b hb=>by omega);have TJ:=Hx (show Blk wr w.heap.size 25 #[.int .i64 t.nodes,.slice AO t.over.length co,.slice AL t.links.length cl]from J.out.1.fr.blk T4.out (by omega));have PJ:=Hx (show Blk wr (w.heap.size+1) 39 #[.bool nv,.slice V1 nv1 cv1,.slice V2 nv2 cv2,.slice PA np cp,.slice PR n cr]from J.out.1.fr.blk P4.out (by omega));by_cases qw:k<l.length
      ·obtain⟨d,hd⟩:∃d,l[k]?=some d:=⟨_,yG qw⟩
       obtain⟨b',o',rfl,vk,a0,a1,a2,a3⟩:=(HT.out.2.keep XJ.out).at_ hd;have AM:=Hx (show amQ l k=(d.amount:Rat)/\i64 d.amount/\chZ t l pr k=chP t [] pr d.src d.dst from by
        refine⟨by unfold amQ;rw [hd],(HT.out.2.wf d (yJ hd)).2.2.1,?_⟩;unfold chZ srcZ dstZ;rw [hd])
       have nN:(k:Int)<(l.length:Int):=(by omega);have n0:(0:Int)<=(k:Int):=(by omega);have X8:=Hx (show Ext wr (wr.alloc (.cells #[.int .i64 d.src,.int .i64 d.dst,.int .i64 d.amount,.int .i64 d.prio] 27))from(Ext.refl wr).alloc _);have B8:=Hx (Blk.new wr 27 #[.int .i64 d.src,.int .i64 d.dst,.int .i64 d.amount,.int .i64 d.prio]);clear hd
       go_upto_region 14 with fail
       clear a0 a1 a2 a3;generalize wr.alloc (.cells #[.int .i64 d.src,.int .i64 d.dst,.int .i64 d.amount,.int .i64 d.prio] 27)=W8 at*;generalize hbd:wr.heap.size=bd at*;have qt:=Hx (show Ext w W8 from XJ.out.tr X8.out);have J8:=Hx (J.out.1.keep X8.out);obtain⟨⟨i0,i1,i2⟩,_⟩:=(TJ.out.keep X8.out).three;have y4:=(PJ.out.keep X8.out).cell 4;have b0:=B8.out.cell 0;have b1:=B8.out.cell 1
       go_wp2_with fail
       refine(jzds t AO co AL cl PR n cr pr hnr P d.src d.dst _ (HT.out.1.keep qt.out) (HQ.out.1.keep qt.out) (by omega) hP1 (by omega) HQ.out.2).mono ?_;rintro e w5 ⟨Ac,cc,nb,G1,u1,v1,G2,u2,v2,rfl,vg,q8,qV,x5⟩;have qh:=AM.out.2.2;generalize hR2:chP t [] pr d.src d.dst=r2 at*;have X9:=Hx (show Ext w5 (w5.alloc (.cells #[.bool nb,.slice G1 u1 v1,.slice G2 u2 v2] 35))from(Ext.refl w5).alloc _);have B9:=Hx (Blk.new w5 35 #[.bool nb,.slice G1 u1 v1,.slice G2 u2 v2]);have X5:=Hx x5;have R5:=Hx qV;clear x5 qV q8 i0 i1 i2 y4 b0 b1;by_cases he:r2.2=0
       case neg=>
        have qf:=Hx (show chkP t l v Z pr=false by
         rw [qR.out,cheOk_bad (show¬(chZ t l pr k).2=0 by rw [qh];exact he) qw];rfl)
        have d1:(r2.2 !=0)=true:=(by simpa using he);go_wp2;go_ret;rw [qf.out];exact⟨rfl,(qt.out.tr X5.out).tr X9.out⟩
       case pos=>
        have d1:(r2.2 !=0)=false:=(by simpa using he);have va:=Hx (show cheOk t l pr (k+1)=true by rw [jzl7,J.out.2,yO (show(chZ t l pr k).2=0 by rw [qh];exact he)];rfl);have q9:=Hx (show needN t l pr (k+1)=needN t l pr k+(d.amount:Rat)*prQ pr r2.1 from by
         show needN t l pr k+amQ l k*prQ pr (chZ t l pr k).1=_;rw [AM.out.1,qh])
        have q0:=Hx (show SzQ (prQ pr r2.1) (1+64*(P+1))from by
         have:=chZ_sz qi.out hP1 HQ.out.2 (by rw [hnr];exact qn.out) qI.out qw;rw [qh]at this;exact this)
        clear he qh
        go_upto_region 17 with fail
        generalize w5.alloc (.cells #[.bool nb,.slice G1 u1 v1,.slice G2 u2 v2] 35)=W9' at*;generalize hbe:w5.heap.size=be at*;have qU:=Hx (X5.out.tr X9.out);obtain⟨ny,Y1,my,fy,qg,qe,qk,⟨s0,s1,s2⟩,_,hy⟩:=(J8.out.keep qU.out).r8.at3;obtain⟨l2,qZ⟩:=hy.lens (jzgy qi.out hP1 HQ.out.2 (by rw [hnr];exact qn.out) qI.out k (by omega));have qj:k*(3+64*(P+1))<=64*(3+64*(10000+1)):=Nat.mul_le_mul (by omega) (by omega);obtain⟨l1,q2⟩:=R5.out.lens q0.out;have RY:=Hx (And.intro hy (R5.out.keep X9.out));have qa:=Hx (show∀wx,Ext W9' wx->(wx.cell? ⟨g7+1,0,none⟩=some (.bool ny)/\wx.cell? ⟨g7+1,1,none⟩=some (.slice Y1 my fy)/\wx.cell? ⟨g7+1,2,none⟩=some (.slice qg qe qk))/\wx.cell? ⟨bd,2,none⟩=some (.int .i64 d.amount)/\
          wx.cell? ⟨be,0,none⟩=some (.bool nb)/\wx.cell? ⟨be,1,none⟩=some (.slice G1 u1 v1)/\wx.cell? ⟨be,2,none⟩=some (.slice G2 u2 v2)from fun wx hx=>
         ⟨⟨cellK hx s0,cellK hx s1,cellK hx s2⟩,((B8.out.keep qU.out).keep hx).cell 2,(B9.out.keep hx).cell 0,(B9.out.keep hx).cell 1,(B9.out.keep hx).cell 2⟩)
        have XD:=Hx (show Ext W9' W9'.drew from(Ext.refl W9').drewN 1);have HSW:=Hx (qa.out _ XD.out);clear hy s0 s1 s2;refine jzg (fun w'=>(w'.cell? ⟨g7+1,0,none⟩=some (.bool ny)/\w'.cell? ⟨g7+1,1,none⟩=some (.slice Y1 my fy)/\w'.cell? ⟨g7+1,2,none⟩=some (.slice qg qe qk))/\w'.cell? ⟨bd,2,none⟩=some (.int .i64 d.amount)/\
         w'.cell? ⟨be,0,none⟩=some (.bool nb)/\w'.cell? ⟨be,1,none⟩=some (.slice G1 u1 v1)/\w'.cell? ⟨be,2,none⟩=some (.slice G2 u2 v2)) 7 (by kernel_rfl) ?_
        refine wP 1 rfl HSW.out ?_;try simp only [Act.put,yA,yB,yC,yD,yE,yF]
        refine wT 0 (v:=?_) rfl ?_ HSW.out ?_;rotate_left
        focus (intro w hSw;obtain⟨⟨s0,s1,s2⟩,s3,s4,s5,s6⟩:=hSw;go_simp;try with_reducible rfl)
        try simp only [Act.put,yA,yB,yC,yD,yE,yF]
        refine wT 2 (v:=?_) rfl ?_ HSW.out ?_;rotate_left
        focus (intro w hSw;obtain⟨⟨s0,s1,s2⟩,s3,s4,s5,s6⟩:=hSw;go_simp;try with_reducible rfl)
        try simp only [Act.put,yA,yB,yC,yD,yE,yF]
        refine wT 4 (v:=?_) rfl ?_ HSW.out ?_;rotate_left
        focus (intro w hSw;obtain⟨⟨s0,s1,s2⟩,s3,s4,s5,s6⟩:=hSw;go_simp;try with_reducible rfl)
        try simp only [Act.put,yA,yB,yC,yD,yE,yF]
        refine wC 3 rfl (fun KK hK=>?_);go_simp;refine(jzar d.amount _ AM.out.2.1).mono ?_;rintro e w6 ⟨n6,A6,l6,c6,qE,qQ,qK,rfl,h6,x6⟩;have E6:=Hx (XD.out.tr x6);have HSW:=Hx (qa.out _ E6.out);obtain⟨l3,qY⟩:=h6.lens (AM.out.1▸amQ_sz qi.out qw);have R6:=Hx h6;refine hK.out _ _ HSW.out ?_;clear hK KK x6 h6;try simp only [Act.put,yA,yB,yC,yD,yE,yF]
        refine wC 5 rfl (fun KK hK=>?_);go_simp;refine(jz1 n6 nb A6 l6 c6 qE qQ qK G1 u1 v1 G2 u2 v2 (d.amount:Rat) (prQ pr r2.1) _ R6.out (RY.out.2.keep E6.out) (by omega) (by omega) (by omega) (by omega)).mono ?_;rintro e w7 ⟨n7,A7,l7,c7,qx,qy,qz,rfl,h7,x7⟩;have E7:=Hx (E6.out.tr x7);have HSW:=Hx (qa.out _ E7.out);obtain⟨l4,q1⟩:=h7.lens ((AM.out.1▸amQ_sz qi.out qw:SzQ (d.amount:Rat) 1).mul q0.out);have R7:=Hx h7;refine hK.out _ _ HSW.out ?_;clear hK KK x7 h7;try simp only [Act.put,yA,yB,yC,yD,yE,yF]
        refine wC 6 rfl (fun KK hK=>?_);go_simp;refine(jz7 ny n7 Y1 my fy qg qe qk A7 l7 c7 qx qy qz (needN t l pr k) ((d.amount:Rat)*prQ pr r2.1) _ (RY.out.1.keep E7.out) R7.out (by omega) (by omega) (by omega) (by omega) (jzp (Nat.mul_ne_zero (Rat.den_nz _) (Rat.den_nz _)))).mono ?_;rintro e w9 ⟨n9,A9,l9,c9,qF,qN,qS,rfl,h9,x9⟩;have E9:=Hx (E7.out.tr x9);have HSW:=Hx (qa.out _ E9.out);have Q9:=Hx ((J8.out.keep qU.out).keep E9.out);have qf:=Hx (show ChI W3 (((w9.setCell ⟨g7+1,0,none⟩ (.bool n9)).setCell ⟨g7+1,1,none⟩ (.slice A9 l9 c9)).setCell ⟨g7+1,2,none⟩ (.slice qF qN qS)) g7 (g7+1) (worN t pr n) (needN t l pr (k+1))/\cheOk t l pr (k+1)=true from⟨by rw [q9.out];exact Q9.out.put8 qX h9,va.out⟩);obtain⟨_,_,_,_,_,_,_,_,⟨z0,z1,z2⟩,_⟩:=Q9.out.r8.at3;refine hK.out _ _ HSW.out ?_;clear hK KK x9 h9;try simp only [Act.put,yA,yB,yC,yD,yE,yF]
        obtain⟨⟨s0,s1,s2⟩,s3,s4,s5,s6⟩:=HSW.out;refine jzk (by kernel_rfl) rfl (by rfl) (fun KK hK=>?_);go_simp;refine hK.out _ _ ?_;clear hK KK;refine wpAny_done (by kernel_rfl) ?_ _;clear s0 s1 s2 s3 s4 s5 s6 z0 z1 z2 HSW qa XD RY Q9 E9 E7 E6 R6 R7 J8 B8 J;go_wp2
        go_roundg (l.length-(k+1))
        case measure=>omega
        case rel=>exact⟨k+1,rfl,by omega,by go_num,qf⟩
      ·obtain rfl:k=l.length:=by omega
       go_upto_region 19 with fail
       obtain⟨ny,Y1,my,fy,qg,qe,qk,⟨s0,s1,s2⟩,_,hy⟩:=J.out.1.r7.at3;obtain⟨nz,Z1,mz,fz,qG,qM,qJ,⟨s6,s7,s8⟩,_,hz⟩:=J.out.1.r8.at3;obtain⟨l2,qZ⟩:=hy.lens (jzl8 qi.out.v HQ.out.2 (by rw [hnr];exact qn.out) n (by omega));have qj:n*(P+2)<=512*(10000+2):=Nat.mul_le_mul (by omega) (by omega);obtain⟨l3,qY⟩:=hz.lens (jzgy qi.out hP1 HQ.out.2 (by rw [hnr];exact qn.out) qI.out l.length (yX _));have qD:l.length*(3+64*(P+1))<=64*(3+64*(10000+1)):=Nat.mul_le_mul (by omega) (by omega);obtain⟨l1,q2⟩:=HV.out.1.lens HV.out.2;have s3:=PJ.out.cell 0;have s4:=PJ.out.cell 1;have s5:=PJ.out.cell 2;have RY:=Hx (And.intro hy hz);have h7:=J.out.1.r7.lt;have h8:=J.out.1.r8.lt;have h9:=PJ.out.lt;clear XW;have q3:=Hx (fun wx (hx:Ext wr wx)=>jz4 ny nv Y1 my fy qg qe qk V1 nv1 cv1 V2 nv2 cv2 (worN t pr n) v wx (hy.keep hx) (HV.out.1.keep (XJ.out.tr hx)) (by omega) (by omega) (by omega) (by omega));clear hy hz;by_cases hw:worN t pr n=v
       case neg=>
        have qf:=Hx (show chkP t l v Z pr=false by rw [qR.out,J.out.2,yP hw];rfl);have q7:(cmpQ (worN t pr n) v==0)=false:=yK.2 (fun h=>hw ((jzas _ _).1 h));clear hw;have x0:=XW.cell _ _ _ h7 s0;have x1:=XW.cell _ _ _ h7 s1;have x2:=XW.cell _ _ _ h7 s2;have x3:=XW.cell _ _ _ h9 s3;have x4:=XW.cell _ _ _ h9 s4;have x5:=XW.cell _ _ _ h9 s5;refine jzh (by kernel_rfl) (by kernel_rfl) ?_
        repeat (go_big_quiet_step ((go_at_call 20;exact Calls.ext_of (q3.out _ (XW.ext _)))))
        refine wpQuiet_nil ?_;rintro _ ⟨x,rfl⟩;go_wp2;go_ret;rw [qf.out];exact⟨rfl,XJ.out.tr x.ext⟩
       case pos=>
        have q7:(cmpQ (worN t pr n) v==0)=true:=beq_iff_eq.2 ((jzas _ _).2 hw);have qf:=Hx (show chkP t l v Z pr=decide (0<=cmpQ (needN t l pr l.length) 1) by
         rw [qR.out,J.out.2,yO hw];simp only [Bool.true_and];rw [decide_eq_decide];exact(jzfa _ _).symm)
        clear hw;have qa:=Hx (show∀wx,Ext wr wx->(wx.cell? ⟨g7,0,none⟩=some (.bool ny)/\wx.cell? ⟨g7,1,none⟩=some (.slice Y1 my fy)/\wx.cell? ⟨g7,2,none⟩=some (.slice qg qe qk))/\(wx.cell? ⟨w.heap.size+1,0,none⟩=some (.bool nv)/\wx.cell? ⟨w.heap.size+1,1,none⟩=some (.slice V1 nv1 cv1)/\wx.cell? ⟨w.heap.size+1,2,none⟩=some (.slice V2 nv2 cv2))/\
          wx.cell? ⟨g7+1,0,none⟩=some (.bool nz)/\wx.cell? ⟨g7+1,1,none⟩=some (.slice Z1 mz fz)/\wx.cell? ⟨g7+1,2,none⟩=some (.slice qG qM qJ)from fun wx hx=>
         ⟨⟨cellK hx s0,cellK hx s1,cellK hx s2⟩,⟨cellK hx s3,cellK hx s4,cellK hx s5⟩,cellK hx s6,cellK hx s7,cellK hx s8⟩)
        have XD:=Hx (show Ext wr wr.drew from(Ext.refl wr).drewN 1);have HSW:=Hx (qa.out _ XD.out);clear s0 s1 s2 s3 s4 s5 s6 s7 s8;refine jzg (fun w'=>(w'.cell? ⟨g7,0,none⟩=some (.bool ny)/\w'.cell? ⟨g7,1,none⟩=some (.slice Y1 my fy)/\w'.cell? ⟨g7,2,none⟩=some (.slice qg qe qk))/\(w'.cell? ⟨w.heap.size+1,0,none⟩=some (.bool nv)/\w'.cell? ⟨w.heap.size+1,1,none⟩=some (.slice V1 nv1 cv1)/\w'.cell? ⟨w.heap.size+1,2,none⟩=some (.slice V2 nv2 cv2))/\
         w'.cell? ⟨g7+1,0,none⟩=some (.bool nz)/\w'.cell? ⟨g7+1,1,none⟩=some (.slice Z1 mz fz)/\w'.cell? ⟨g7+1,2,none⟩=some (.slice qG qM qJ)) 11 (by kernel_rfl) ?_
        refine wP 1 rfl HSW.out ?_;try simp only [Act.put,yA,yB,yC,yD,yE,yF]
        refine wT 0 (v:=?_) rfl ?_ HSW.out ?_;rotate_left
        focus (intro w hSw;obtain⟨⟨s0,s1,s2⟩,⟨s3,s4,s5⟩,s6,s7,s8⟩:=hSw;go_simp;try with_reducible rfl)
        try simp only [Act.put,yA,yB,yC,yD,yE,yF]
        refine wT 2 (v:=?_) rfl ?_ HSW.out ?_;rotate_left
        focus (intro w hSw;obtain⟨⟨s0,s1,s2⟩,⟨s3,s4,s5⟩,s6,s7,s8⟩:=hSw;go_simp;try with_reducible rfl)
        try simp only [Act.put,yA,yB,yC,yD,yE,yF]
        refine wC 3 rfl (fun KK hK=>?_);go_simp;refine(q3.out _ XD.out).mono ?_;rintro e w6 ⟨rfl,x6⟩;have E6:=Hx (XD.out.tr x6);have HSW:=Hx (qa.out _ E6.out);refine hK.out _ _ HSW.out ?_;clear hK KK x6;try simp only [Act.put,yA,yB,yC,yD,yE,yF]
        refine wP 4 rfl HSW.out ?_;try simp only [Act.put,yA,yB,yC,yD,yE,yF]
        refine wP 5 rfl HSW.out ?_;try simp only [Act.put,yA,yB,yC,yD,yE,yF]
        refine wT 6 (v:=?_) rfl ?_ HSW.out ?_;rotate_left
        focus (intro w hSw;obtain⟨⟨s0,s1,s2⟩,⟨s3,s4,s5⟩,s6,s7,s8⟩:=hSw;go_simp;try with_reducible rfl)
        try simp only [Act.put,yA,yB,yC,yD,yE,yF]
        refine wC 7 rfl (fun KK hK=>?_);go_simp;refine(jzar 1 _ (by unfold i64;decide)).mono ?_;rintro e w7 ⟨n7,A7,l7,c7,qx,qy,qz,rfl,qH,x7⟩;have E7:=Hx (E6.out.tr x7);have HSW:=Hx (qa.out _ E7.out);obtain⟨l4,q1⟩:=qH.lens (SzQ.int (n:=1) (by decide));have R7:=Hx qH;refine hK.out _ _ HSW.out ?_;clear hK KK x7 qH;try simp only [Act.put,yA,yB,yC,yD,yE,yF]
        refine wC 8 rfl (fun KK hK=>?_);go_simp;refine(jz4 nz n7 Z1 mz fz qG qM qJ A7 l7 c7 qx qy qz (needN t l pr l.length) ((1:Int):Rat) _ (RY.out.2.keep E7.out) R7.out (by omega) (by omega) (by omega) (by omega)).mono ?_;rintro e w8 ⟨rfl,x8⟩;have E8:=Hx (E7.out.tr x8);have HSW:=Hx (qa.out _ E8.out);refine hK.out _ _ HSW.out ?_;clear hK KK x8;try simp only [Act.put,yA,yB,yC,yD,yE,yF]
        refine wP 9 rfl HSW.out ?_;try simp only [Act.put,yA,yB,yC,yD,yE,yF]
        refine wP 10 rfl HSW.out ?_;try simp only [Act.put,yA,yB,yC,yD,yE,yF]
        refine jzk (by kernel_rfl) rfl (by rfl) (fun KK hK=>?_);go_simp;refine hK.out _ _ ?_;clear hK KK;refine wpAny_done (by kernel_rfl) ?_ _;go_wp2;go_ret;rw [qf.out];exact⟨rfl,XJ.out.tr E8.out⟩
open Sx
theorem cell_blk{w w':World}{b:Nat}(h:w'.heap[b]?=w.heap[b]?)(o:Nat):w'.cell? ⟨b,o,none⟩=w.cell? ⟨b,o,none⟩:=by
 unfold World.cell?;simp only [h]
theorem Rd.frN{S:Nat->Prop}{w w':World}{A:Option Addr}{xs:List Value}(h:Rd w A xs)(k:FrS S w w')(hn:∀b o:Nat,A=some ⟨b,o,none⟩->(∀i,i<xs.length->w.cell? ⟨b,o+i,none⟩=xs[i]?)->xs≠ []->¬S b):Rd w' A xs:=fun hx=>by
 obtain⟨b,o,e,hb,hc⟩:=h hx;refine⟨b,o,e,yL hb k.size,fun i hi=>?_⟩;rw [<-hc i hi];exact cell_blk (k.block b hb (hn b o e hc hx)) _
structure SolR(w:World)(t:Tp)(l:List Dm)(neg:Bool)(A1:Option Addr)(n1 c1:Nat)(A2:Option Addr)(n2 c2:Nat)(AP:Option Addr)(cp gp:Nat)(v:Rat)(Z:List ((Nat×List Nat)×Rat))(pr:List Rat):Prop where
 ok:PlanOK t l v Z pr
 sv:SzQ v 20
 sz:∀z∈Z,SzQ z.2 41
 sp:∀q∈pr,SzQ q 20
 len:Z.length<=24
 cap:Z.length<=cp
 val:RatR w neg A1 n1 c1 A2 n2 c2 v
 pat:PLr w AP (Z.map pzI)
 prs:QL w (some ⟨gp,0,none⟩) pr
section
variable {w w':World} {t:Tp} {l:List Dm} {neg:Bool} {A1:Option Addr} {n1 c1:Nat} {A2:Option Addr} {n2 c2:Nat} {AP:Option Addr} {cp gp:Nat} {v:Rat} {Z:List ((Nat×List Nat)×Rat)} {pr:List Rat}
theorem SolR.keep(h:SolR w t l neg A1 n1 c1 A2 n2 c2 AP cp gp v Z pr)(hx:Ext w w'):SolR w' t l neg A1 n1 c1 A2 n2 c2 AP cp gp v Z pr:=
 ⟨h.ok,h.sv,h.sz,h.sp,h.len,h.cap,h.val.keep hx,RdL.keep h.pat hx fun cs x hq=>hq.keep hx,h.prs.keep hx⟩
theorem jzgb{b o:Nat}(hb:Blk w b 39 #[.bool false,.slice none 0 0,.slice none 0 0,.slice none 0 0,.slice none 0 0]){k:IntKind}{x:Int}(h:w.cell? ⟨b,o,none⟩=some (.int k x)):False:=by
 rw [hb.cell]at h
 match o,h with
 |0,h=>cases h
 |1,h=>cases h
 |2,h=>cases h
 |3,h=>cases h
 |4,h=>cases h
 |o+5,h=>simp at h
theorem jzmk{b:Nat}(hb:Blk w b 39 #[.bool false,.slice none 0 0,.slice none 0 0,.slice none 0 0,.slice none 0 0]):w.cell? ⟨b,5,none⟩=none:=by
 rw [hb.cell];rfl
theorem SolR.fill{b:Nat}(h:SolR w t l neg A1 n1 c1 A2 n2 c2 AP cp gp v Z pr)(hb:Blk w b 39 #[.bool false,.slice none 0 0,.slice none 0 0,.slice none 0 0,.slice none 0 0])(k:FrS (fun x=>x=b) w w'):SolR w' t l neg A1 n1 c1 A2 n2 c2 AP cp gp v Z pr:=by
 have hn:NoT (fun x=>x=b) w 167:=NoT.one hb (by decide);refine⟨h.ok,h.sv,h.sz,h.sp,h.len,h.cap,k.ratR hn h.val,?_,?_⟩
 ·obtain⟨css,h1,h2,h3,h4⟩:=h.pat
  refine⟨css,h1,h2,h3.frN k fun g o e hc hx hg=>?_,fun i p hp=>?_⟩
  ·subst hg
   cases css with
   |nil=>exact hx rfl
   |cons c1 css=>
    have hp:∃p,(Z.map pzI)[0]?=some p:=by
     cases hz:Z.map pzI with
     |nil=>rw [hz]at h1;simp at h1
     |cons p r=>exact⟨p,rfl⟩
    obtain⟨p,hp⟩:=hp;obtain⟨cs,k1,A,c,ng,B1,m1,d1,B2,m2,d2,rfl,_⟩:=h4 0 p hp;have k1:some c1=some _:=k1;injection k1 with k1
    subst k1;have:=hc 0 (by simp);exact jzgb hb this
  ·obtain⟨cs,k1,A,c,ng,B1,m1,d1,B2,m2,d2,k2,k3,k4,k5⟩:=h4 i p hp
   refine⟨cs,k1,A,c,ng,B1,m1,d1,B2,m2,d2,k2,k3,k4.frN k fun g o e hc hx hg=>?_,k.ratR hn k5⟩;subst hg;cases ha:p.arcs with
   |nil=>rw [ha]at hx;exact hx rfl
   |cons a r=>
    rw [ha]at hc;exact jzgb hb (hc 0 (by simp [iints]))
 ·obtain⟨css,h1,h2,h3,h4⟩:=h.prs
  refine⟨css,h1,h2,h3.frN k fun g o e hc hx hg=>?_,fun i q hq=>?_⟩
  ·subst hg
   injection e with e
   injection e with _ e2
   subst e2;have hl:=jzs css h2;have h6:6<=css.flatten.length:=by
    have h7:=h.ok.plen;have h8:css.flatten.length≠0:=fun h9=>hx (List.eq_nil_of_length_eq_zero h9);omega
   have h5:=hc 5 (by omega);rw [Nat.zero_add,jzmk hb,yG (by omega)]at h5;cases h5
  ·obtain⟨cs,k1,k2⟩:=h4 i q hq
   exact⟨cs,k1,k.qr hn k2⟩
end
theorem SolvePost.cases{w:World}{t:Tp}{l:List Dm}{e:Ending}{w':World}(hf:Fit t l)(hD:l.length<=4)(h:SolvePost w t l e w'):
  (¬connL t l/\e=.returned (.tuple #[.agg #[.bool false,.slice none 0 0,.slice none 0 0,.slice none 0 0,.slice none 0 0],.int .i64 11])/\Ext w w')\/
  ∃(neg:Bool) (A1:Option Addr) (n1 c1:Nat) (A2:Option Addr) (n2 c2:Nat) (AP:Option Addr) (cp gp:Nat) (v:Rat) (Z:List ((Nat×List Nat)×Rat)) (pr:List Rat),
   e=.returned (.tuple #[.agg #[.bool neg,.slice A1 n1 c1,.slice A2 n2 c2,.slice AP Z.length cp,.slice (some ⟨gp,0,none⟩) (2*t.links.length) (2*t.links.length)],.int .i64 0])/\SolR w' t l neg A1 n1 c1 A2 n2 c2 AP cp gp v Z pr/\Ext w w':=by
 rcases h with⟨h1,_⟩|⟨_,⟨d,hd,h1⟩,h2,h3⟩|⟨_,v,Z,pr,neg,A1,n1,c1,A2,n2,c2,AP,cp,gp,h1,h2,s1,s2,s3,h3,h4,s4,s5,s6,h5⟩
 ·rw [(jza0 (show l.length<=64 by omega)).2 hf]at h1;cases h1
 ·exact .inl ⟨fun hc=>by obtain⟨y,hy⟩:=jzgz.1 hc d hd;exact h1 y hy,h2,h3⟩
 ·exact .inr ⟨neg,A1,n1,c1,A2,n2,c2,AP,cp,gp,v,Z,pr,h3,⟨h1,h2,s1,s2,s3,s4,h4,s5,s6⟩,h5⟩
theorem arcN_le{k:Nat}:∀(Z:List PthI),(∀p∈Z,p.arcs.length<=k)->arcN Z<=Z.length*k
 | [],_=>yZ _
 |p::Z,h=>by
  have h1:=h p (by simp);have h2:=arcN_le Z fun q hq=>h q (xO _ hq);show p.arcs.length+arcN Z<=(Z.length+1)*k;rw [xP,xQ];omega
section
variable {t:Tp} {l:List Dm} {v:Rat} {Z:List ((Nat×List Nat)×Rat)} {pr:List Rat}
theorem loop_arcs(hf:Fit t l)(hD:l.length<=64)(h1:∀z∈Z,z.1.1<l.length)(h2:∀z∈Z,Lpl t (srcN l z.1.1) (dstN l z.1.1) z.1.2):∀p∈Z.map pzI,p.arcs.length<=64/\i64 p.dem/\∀a∈p.arcs,i64 a:=fun p hp=>by
 obtain⟨z,hz,rfl⟩:=List.mem_map.1 hp;have k1:=h1 z hz;have k2:=h2 z hz;have hv:=hf.v;unfold validP headOk inB at hv;simp at hv;have k3:=k2.len hf.v (hf.nodes k1).1;refine⟨by simp [pzI];omega,by unfold i64 pzI;simp only [];omega,fun a ha=>?_⟩;obtain⟨b,hb,rfl⟩:=List.mem_map.1 ha;have:=jzd0 _ k2.1 b hb;unfold i64;omega
end
section
variable {w:World} {t:Tp} {l:List Dm} {neg:Bool} {A1:Option Addr} {n1 c1:Nat} {A2:Option Addr} {n2 c2:Nat} {AP:Option Addr} {cp gp:Nat} {v:Rat} {Z:List ((Nat×List Nat)×Rat)} {pr:List Rat}
theorem SolR.flows(h:SolR w t l neg A1 n1 c1 A2 n2 c2 AP cp gp v Z pr):∀p∈Z.map pzI,SzQ p.flow 41:=fun p hp=>by
 obtain⟨z,hz,rfl⟩:=List.mem_map.1 hp;exact h.sz z hz
theorem SolR.arcs(h:SolR w t l neg A1 n1 c1 A2 n2 c2 AP cp gp v Z pr)(hf:Fit t l)(hD:l.length<=4):(∀p∈Z.map pzI,p.arcs.length<=64/\i64 p.dem/\∀a∈p.arcs,i64 a)/\arcN (Z.map pzI)<=1536:=by
 have h1:=loop_arcs hf (by omega) h.ok.adm.dem h.ok.loop;refine⟨h1,?_⟩;have h2:=arcN_le (k:=64) (Z.map pzI) fun p hp=>(h1 p hp).1;have h3:=h.len;rw [xV]at h2;have h4:Z.length*64<=24*64:=xS _ h3;omega
theorem SolR.full(h:SolR w t l neg A1 n1 c1 A2 n2 c2 AP cp gp v Z pr)(hf:Fit t l)(hD:l.length<=4){AO:Option Addr}{co:Nat}{AL:Option Addr}{cl np:Nat}(hnp:Z.length=np)(ht:TopR w t AO co AL cl):
  Calls Tryz.prog 24 #[.agg #[.int .i64 t.nodes,.slice AO t.over.length co,.slice AL t.links.length cl],.slice AP np cp] w fun e w'=>∃(A:Option Addr) (c:Nat),e=.returned (.slice A (fullP t (Z.map pzI)).length c)/\Ext w w':=by
 obtain⟨h1,h2⟩:=h.arcs hf hD;have h3:=h.len;refine(full_ok t AO co AL cl (Z.map pzI) AP np cp 41 (by rw [xV];exact hnp) w ht h.pat (by omega) h.flows (by decide) (fun p hp=>by have:=(h1 p hp).1;omega) (by omega) (by decide)).mono ?_;rintro e w' ⟨A,c,h1,_,_,h2⟩;exact⟨A,c,h1,h2⟩
theorem SolR.check(h:SolR w t l neg A1 n1 c1 A2 n2 c2 AP cp gp v Z pr)(hf:Fit t l)(hD:l.length<=4){AO:Option Addr}{co:Nat}{AL:Option Addr}{cl np nr cr cd:Nat}{AD:Option Addr}(hnp:Z.length=np)(hnr:pr.length=nr)(ht:TopR w t AO co AL cl)(hd:DmR w l AD cd)(hta:Tab w):
  Calls Tryz.prog 27 #[.agg #[.int .i64 t.nodes,.slice AO t.over.length co,.slice AL t.links.length cl],.slice AD l.length cd,.agg #[.bool neg,.slice A1 n1 c1,.slice A2 n2 c2,.slice AP np cp,.slice (some ⟨gp,0,none⟩) nr cr]] w fun e w'=>e=.returned (.bool true)/\Ext w w':=by
 obtain⟨h1,h2⟩:=h.arcs hf hD;have h3:=h.len;have:=jzmj t AO co AL cl l AD cd v neg A1 n1 c1 A2 n2 c2 (Z.map pzI) AP np cp (by rw [xV];exact hnp) pr (some ⟨gp,0,none⟩) nr cr 41 hnr w ht hd (by omega) h.val (h.sv.mono (by decide)) h.pat h.prs (fun q hq=>(h.sp q hq).mono (by decide)) (by omega) h.flows (by decide) (fun p hp=>by have:=(h1 p hp).1;omega) (fun p hp=>(h1 p hp).2) (by decide) (by omega) hta;rw [h.ok.checks (by omega) hf]at this;exact this
end
theorem jzml:ratText (3/2)=[51,47,50]:=by
 unfold ratText;rw [show(3/2:Rat).num=3 from by decide+kernel,show(3/2:Rat).den=2 from by decide+kernel];simp [Lib.decDigits]
theorem text_32(neg:Bool)(A:Option Addr)(n c:Nat)(A':Option Addr)(n' c':Nat)(q:Rat)(hq:q=3/2)(w:World)(h:RatR w neg A n c A' n' c' q)(ht:Tab w):
  Calls Tryz.prog 34 #[.agg #[.bool neg,.slice A n c,.slice A' n' c']] w fun e w'=>e=.returned (.string ⟨#[51,47,50]⟩)/\Ext w w':=by
 subst hq;obtain⟨h1,h2⟩:=h.lens (k:=1) (by unfold SzQ;decide+kernel);have:=jziq neg A n c A' n' c' (3/2) w h (by omega) (by omega) ht;rw [jzml]at this;exact this
theorem rg_conn1:connL rgT [rgA]:=jzg0.connL
theorem rg_conn2:connL rgT [rgA,rgB]:=jzmi.connL
theorem jzg1(l:List Dm)(hl:l=[rgA]\/l=[rgA,rgB])(AL:Option Addr)(cl:Nat)(AD:Option Addr)(nd cd:Nat)(hnd:l.length=nd)(w:World)(ht:TopR w rgT none 0 AL cl)(hd:DmR w l AD cd)(hta:Tab w):
  Calls Tryz.prog 12 #[.agg #[.int .i64 4,.slice none 0 0,.slice AL 4 cl],.slice AD nd cd] w fun e w'=>∃(neg:Bool) (A1:Option Addr) (n1 c1:Nat) (A2:Option Addr) (n2 c2:Nat) (AP:Option Addr) (np cp gp:Nat) (Z:List ((Nat×List Nat)×Rat)) (pr:List Rat),
   e=.returned (.tuple #[.agg #[.bool neg,.slice A1 n1 c1,.slice A2 n2 c2,.slice AP np cp,.slice (some ⟨gp,0,none⟩) 8 8],.int .i64 0])/\Hid (Z.length=np)/\SolR w' rgT l neg A1 n1 c1 A2 n2 c2 AP cp gp (3/2) Z pr/\Ext w w':=by
 subst hnd
 have hf:Fit rgT l:=by rcases hl with rfl|rfl; ·exact jzic
                       ·exact jzmg
 have hD:l.length<=4:=(by rcases hl with rfl|rfl <;> decide);refine(jze9 rgT none 0 AL cl l AD cd w ht hd (by decide) hD (fun _=>by decide) hta).mono ?_;intro e w' h;rcases h.cases hf hD with⟨h1,_⟩|⟨neg,A1,n1,c1,A2,n2,c2,AP,cp,gp,v,Z,pr,h1,h2,h3⟩
 ·rcases hl with rfl|rfl
  ·exact absurd rg_conn1 h1
  ·exact absurd rg_conn2 h1
 ·have hv:v=3/2:=by
   rcases hl with rfl|rfl
   ·exact h2.ok.unique jzic jzg0
   ·exact h2.ok.unique jzmg jzmi
  subst hv;exact⟨neg,A1,n1,c1,A2,n2,c2,AP,_,cp,gp,Z,pr,h1,Hx rfl,h2,h3⟩
theorem rg_dm1{w:World}{A:Option Addr}{c:Nat}(h:Rd w A ([rgA,rgB].flatMap Dm.cells))(hc:2<=c):DmR w [rgA,rgB] A c:=⟨hc,by decide,h,fun d hd=>by
 rcases xZ.1 hd with rfl|hd
 ·unfold Dm.wf i64 rgA;simp
 ·rw [xD.1 hd];unfold Dm.wf i64 rgB;simp⟩
theorem DmR.first{w:World}{A:Option Addr}{c:Nat}(h:DmR w [rgA,rgB] A c):DmR w [rgA] A c:=⟨by have:=h.len;simp at this⊢;omega,by decide,fun _=>by
 obtain⟨b,o,e,hb,hc⟩:=h.rd (by simp [Dm.cells]);refine⟨b,o,e,hb,fun i hi=>?_⟩;have qa:i<4:=hi;rw [hc i (by show i<8;omega)];show(rgA.cells++(rgB.cells++[]))[i]?=(rgA.cells++[])[i]?;rw [yR (by show i<4;omega),yR (by show i<4;omega)],fun d hd=>h.wf d (by rw [xD.1 hd];simp)⟩
theorem fill_box{W0 w5:World}{g:Nat}{t:Tp}{l:List Dm}{neg:Bool}{A1:Option Addr}{n1 c1:Nat}{A2:Option Addr}{n2 c2:Nat}{AP:Option Addr}{cp gp:Nat}{v:Rat}{Z:List ((Nat×List Nat)×Rat)}{pr:List Rat}(np nr:Nat)
  (h5:Blk w5 g 39 #[.bool false,.slice none 0 0,.slice none 0 0,.slice none 0 0,.slice none 0 0]) (hS:SolR w5 t l neg A1 n1 c1 A2 n2 c2 AP cp gp v Z pr) (hx:Ext W0 w5) (hg:W0.heap.size<=g):
  Blk (((((w5.setCell ⟨g,0,none⟩ (.bool neg)).setCell ⟨g,1,none⟩ (.slice A1 n1 c1)).setCell ⟨g,2,none⟩ (.slice A2 n2 c2)).setCell ⟨g,3,none⟩ (.slice AP np cp)).setCell ⟨g,4,none⟩ (.slice (some ⟨gp,0,none⟩) nr nr)) g 39 #[.bool neg,.slice A1 n1 c1,.slice A2 n2 c2,.slice AP np cp,.slice (some ⟨gp,0,none⟩) nr nr]/\
  SolR (((((w5.setCell ⟨g,0,none⟩ (.bool neg)).setCell ⟨g,1,none⟩ (.slice A1 n1 c1)).setCell ⟨g,2,none⟩ (.slice A2 n2 c2)).setCell ⟨g,3,none⟩ (.slice AP np cp)).setCell ⟨g,4,none⟩ (.slice (some ⟨gp,0,none⟩) nr nr)) t l neg A1 n1 c1 A2 n2 c2 AP cp gp v Z pr/\
  Ext W0 (((((w5.setCell ⟨g,0,none⟩ (.bool neg)).setCell ⟨g,1,none⟩ (.slice A1 n1 c1)).setCell ⟨g,2,none⟩ (.slice A2 n2 c2)).setCell ⟨g,3,none⟩ (.slice AP np cp)).setCell ⟨g,4,none⟩ (.slice (some ⟨gp,0,none⟩) nr nr)):=by
 have b0:=h5.set_ 0 (.bool neg);have b1:=b0.set_ 1 (.slice A1 n1 c1);have b2:=b1.set_ 2 (.slice A2 n2 c2);have b3:=b2.set_ 3 (.slice AP np cp);have b4:=b3.set_ 4 (.slice (some ⟨gp,0,none⟩) nr nr);have k:FrS (fun x=>x=g) w5 (((((w5.setCell ⟨g,0,none⟩ (.bool neg)).setCell ⟨g,1,none⟩ (.slice A1 n1 c1)).setCell ⟨g,2,none⟩ (.slice A2 n2 c2)).setCell ⟨g,3,none⟩ (.slice AP np cp)).setCell ⟨g,4,none⟩ (.slice (some ⟨gp,0,none⟩) nr nr)):=FrS.of_grown (S:=fun x=>x=g) (grown5 w5 g (.bool neg) (.slice A1 n1 c1) (.slice A2 n2 c2) (.slice AP np cp) (.slice (some ⟨gp,0,none⟩) nr nr)) fun y e=>(Option.some.inj e).symm;exact⟨b4,hS.fill h5 k,k.ext hx fun b hb=>by rw [hb];exact hg⟩
theorem jzci(w:World)(ht:Tab w):
  Calls Tryz.prog 9 #[] w fun e w'=>e=.returned (.bool true)/\Ext w w':=by
 have HT:=Hx ht;clear ht
 go_enter Tryz.func9,Tryz.ntmps9
 go_upto_region 2 with fail
 have D0:=Hx (rg_dm1 (w:=w.alloc (.cells #[.int .i64 0,.int .i64 2,.int .i64 4,.int .i64 0,.int .i64 2,.int .i64 0,.int .i64 4,.int .i64 0] 27)) (A:=some ⟨w.heap.size,0,none⟩) (c:=2) (Rd.new w 27 #[.int .i64 0,.int .i64 2,.int .i64 4,.int .i64 0,.int .i64 2,.int .i64 0,.int .i64 4,.int .i64 0] (xs:=[rgA,rgB].flatMap Dm.cells) rfl rfl) (yX _));have X0:=Hx ((Ext.refl w).alloc (.cells #[.int .i64 0,.int .i64 2,.int .i64 4,.int .i64 0,.int .i64 2,.int .i64 0,.int .i64 4,.int .i64 0] 27));generalize w.alloc (.cells #[.int .i64 0,.int .i64 2,.int .i64 4,.int .i64 0,.int .i64 2,.int .i64 0,.int .i64 4,.int .i64 0] 27)=W0 at*;generalize w.heap.size=gd at*;have XD:=Hx (show Ext W0 W0.drew from(Ext.refl W0).drewN 1);have XA:=Hx (show Ext W0 (W0.alloc (.cells #[.bool false,.slice none 0 0,.slice none 0 0,.slice none 0 0,.slice none 0 0] 39)).drew from((Ext.refl W0).alloc _).drewN 1);have BA:=Hx (show Blk (W0.alloc (.cells #[.bool false,.slice none 0 0,.slice none 0 0,.slice none 0 0,.slice none 0 0] 39)).drew W0.heap.size 39 #[.bool false,.slice none 0 0,.slice none 0 0,.slice none 0 0,.slice none 0 0]from Blk.new W0 _ _)
 go_cut [2,3] (fun s2 s3 wx=>∃(b:Nat) (neg:Bool) (A1:Option Addr) (n1 c1:Nat) (A2:Option Addr) (n2 c2:Nat) (AP:Option Addr) (np cp gp:Nat),s2=.pointer (some ⟨b,0,none⟩)/\s3=.int .i64 0/\Hid (∃(Z:List ((Nat×List Nat)×Rat)) (pr:List Rat),Z.length=np/\Blk wx b 39 #[.bool neg,.slice A1 n1 c1,.slice A2 n2 c2,.slice AP np cp,.slice (some ⟨gp,0,none⟩) 8 8]/\SolR wx rgT [rgA] neg A1 n1 c1 A2 n2 c2 AP cp gp (3/2) Z pr)/\Hid (Ext W0 wx))
 case first=>
  go_region_held3 (fun _=>True)
   (trivial)
   (first
    |(go_at_call 36
      refine(jzc6 _).mono ?_;rintro e w1 ⟨AL,cl,rfl,T1,x1⟩
      first
      |(have E1:=Hx (And.intro T1 (show Ext W0 w1 by with_reducible exact XD.out.tr x1)))
      |(have E1:=Hx (And.intro T1 (show Ext W0 w1 by with_reducible exact XA.out.tr x1))
        have B1:=Hx (BA.out.keep x1))
      clear T1 x1)
    |(go_at_call 12
      first
      |(with_reducible refine(jzg1 [rgA] (.inl rfl) AL cl (some ⟨gd,0,none⟩) 1 2 rfl _ E1.out.1 (D0.out.first.keep E1.out.2) (HT.out.keep (X0.out.tr E1.out.2))).mono ?_
        rintro e w5 ⟨neg,A1,n1,c1,A2,n2,c2,AP,np,cp,gp,Z,pr,rfl,HZ,S5,x5⟩;have E5:=Hx (And.intro S5 (E1.out.2.tr x5))
        first
        |(have B5:=Hx (B1.out.keep x5)
          have f0:=B5.out.frozen 0;have f1:=B5.out.frozen 1;have f2:=B5.out.frozen 2;have f3:=B5.out.frozen 3;have f4:=B5.out.frozen 4;have u0:=B5.out.cell 0;have u1:=B5.out.cell 1;have u2:=B5.out.cell 2;have u3:=B5.out.cell 3;have u4:=B5.out.cell 4)
        |skip)
      |(with_reducible refine(jzg1 [rgA] (.inl rfl) AL cl (some ⟨gd,0,none⟩) 1 2 rfl _ (E1.out.1.keep ((Ext.refl w1).alloc _)) (D0.out.first.keep (E1.out.2.alloc _)) (HT.out.keep (X0.out.tr (E1.out.2.alloc _)))).mono ?_
        rintro e w5 ⟨neg,A1,n1,c1,A2,n2,c2,AP,np,cp,gp,Z,pr,rfl,HZ,S5,x5⟩;have E5:=Hx (And.intro S5 ((E1.out.2.alloc (.cells #[.bool false,.slice none 0 0,.slice none 0 0,.slice none 0 0,.slice none 0 0] 39)).tr x5));have B5:=Hx (Blk.keep (Blk.new w1 39 #[.bool false,.slice none 0 0,.slice none 0 0,.slice none 0 0,.slice none 0 0]) x5);have f0:=B5.out.frozen 0;have f1:=B5.out.frozen 1;have f2:=B5.out.frozen 2;have f3:=B5.out.frozen 3;have f4:=B5.out.frozen 4;have u0:=B5.out.cell 0;have u1:=B5.out.cell 1;have u2:=B5.out.cell 2;have u3:=B5.out.cell 3;have u4:=B5.out.cell 4)
      clear S5 x5)
    |fail)
  all_goals
   go_wp2;go_meet;have qg:=E1.out.2.size
   first
   |(have F:=fill_box np 8 B5.out E5.out.1 E5.out.2 (by omega)
     exact⟨_,neg,A1,n1,c1,A2,n2,c2,AP,np,cp,gp,rfl,rfl,Hx ⟨Z,pr,HZ.out,F.1,F.2.1⟩,Hx F.2.2⟩)
   |exact⟨_,neg,A1,n1,c1,A2,n2,c2,AP,np,cp,gp,rfl,rfl,Hx ⟨Z,pr,HZ.out,Blk.new w5 _ _,E5.out.1.keep ((Ext.refl w5).alloc _)⟩,Hx (E5.out.2.alloc _)⟩
 case rest=>
  obtain⟨b1,neg,A1,n1,c1,A2,n2,c2,AP,np,cp,gp,rfl,rfl,P1,X1⟩:=hcut;clear XD XA BA
  go_wp2_with fail
  refine(jzc6 _).mono ?_;rintro e w3 ⟨AL,cl,rfl,T3,x3⟩;have E3:=Hx (And.intro T3 (X1.out.tr x3));have X3:=Hx x3;clear T3 x3
  go_wp2_with fail
  refine(jzg1 [rgA,rgB] (.inr rfl) AL cl (some ⟨gd,0,none⟩) 2 2 rfl _ E3.out.1 (D0.out.keep E3.out.2) (HT.out.keep (X0.out.tr E3.out.2))).mono ?_;rintro e w5 ⟨ng,G1,u1,v1,G2,u2,v2,GP,mp,dp,hp,Z,pr,rfl,HZ,S5,x5⟩;have B6:=Hx (Blk.new w5 39 #[.bool ng,.slice G1 u1 v1,.slice G2 u2 v2,.slice GP mp dp,.slice (some ⟨hp,0,none⟩) 8 8]);have X6:=Hx ((Ext.refl w5).alloc (.cells #[.bool ng,.slice G1 u1 v1,.slice G2 u2 v2,.slice GP mp dp,.slice (some ⟨hp,0,none⟩) 8 8] 39));have S6:=Hx (S5.keep X6.out);have qj:=Hx ((X3.out.tr x5).tr X6.out);have E6:=Hx (X0.out.tr ((E3.out.2.tr x5).tr X6.out));have D6:=Hx (D0.out.keep ((E3.out.2.tr x5).tr X6.out));clear S5 x5 X3 E3
  go_upto_region 4 with fail
  generalize w5.alloc (.cells #[.bool ng,.slice G1 u1 v1,.slice G2 u2 v2,.slice GP mp dp,.slice (some ⟨hp,0,none⟩) 8 8] 39)=W6 at*;generalize w5.heap.size=b6 at*;obtain⟨Z1,qC,qk,qw,qg⟩:=P1.out;have B1:=Hx (qw.keep qj.out);have S1:=Hx (And.intro qk (qg.keep qj.out));have qa:=Hx (show∀wx,Ext W6 wx->(wx.cell? ⟨b1,0,none⟩=some (.bool neg)/\wx.cell? ⟨b1,1,none⟩=some (.slice A1 n1 c1)/\wx.cell? ⟨b1,2,none⟩=some (.slice A2 n2 c2)/\wx.cell? ⟨b1,3,none⟩=some (.slice AP np cp))/\
    wx.cell? ⟨b6,0,none⟩=some (.bool ng)/\wx.cell? ⟨b6,1,none⟩=some (.slice G1 u1 v1)/\wx.cell? ⟨b6,2,none⟩=some (.slice G2 u2 v2)/\wx.cell? ⟨b6,3,none⟩=some (.slice GP mp dp)/\wx.cell? ⟨b6,4,none⟩=some (.slice (some ⟨hp,0,none⟩) 8 8)from fun wx hx=>
   ⟨⟨(B1.out.keep hx).cell 0,(B1.out.keep hx).cell 1,(B1.out.keep hx).cell 2,(B1.out.keep hx).cell 3⟩,(B6.out.keep hx).cell 0,(B6.out.keep hx).cell 1,(B6.out.keep hx).cell 2,(B6.out.keep hx).cell 3,(B6.out.keep hx).cell 4⟩)
  have XD:=Hx (show Ext W6 W6.drew from(Ext.refl W6).drewN 1);have HSW:=Hx (qa.out _ XD.out);clear qw qg qk P1 X1;refine jzg (fun w'=>(w'.cell? ⟨b1,0,none⟩=some (.bool neg)/\w'.cell? ⟨b1,1,none⟩=some (.slice A1 n1 c1)/\w'.cell? ⟨b1,2,none⟩=some (.slice A2 n2 c2)/\w'.cell? ⟨b1,3,none⟩=some (.slice AP np cp))/\
   w'.cell? ⟨b6,0,none⟩=some (.bool ng)/\w'.cell? ⟨b6,1,none⟩=some (.slice G1 u1 v1)/\w'.cell? ⟨b6,2,none⟩=some (.slice G2 u2 v2)/\w'.cell? ⟨b6,3,none⟩=some (.slice GP mp dp)/\w'.cell? ⟨b6,4,none⟩=some (.slice (some ⟨hp,0,none⟩) 8 8)) 32 (by kernel_rfl) ?_
  refine wP 0 rfl HSW.out ?_;try simp only [Act.put,yA,yB,yC,yD,yE,yF]
  refine wP 1 rfl HSW.out ?_;try simp only [Act.put,yA,yB,yC,yD,yE,yF]
  refine wP 2 rfl HSW.out ?_;try simp only [Act.put,yA,yB,yC,yD,yE,yF]
  refine wP 3 rfl HSW.out ?_;try simp only [Act.put,yA,yB,yC,yD,yE,yF]
  refine wP 4 rfl HSW.out ?_;try simp only [Act.put,yA,yB,yC,yD,yE,yF]
  refine wP 5 rfl HSW.out ?_;try simp only [Act.put,yA,yB,yC,yD,yE,yF]
  refine wP 6 rfl HSW.out ?_;try simp only [Act.put,yA,yB,yC,yD,yE,yF]
  refine wP 7 rfl HSW.out ?_;try simp only [Act.put,yA,yB,yC,yD,yE,yF]
  refine wT 8 (v:=?_) rfl ?_ HSW.out ?_;rotate_left
  focus (intro w hSw;obtain⟨⟨s0,s1,s2,s3⟩,s4,s5,s6,s7,s8⟩:=hSw;go_simp;try with_reducible rfl)
  try simp only [Act.put,yA,yB,yC,yD,yE,yF]
  refine wC 9 rfl (fun KK hK=>?_);go_simp;refine(text_32 neg A1 n1 c1 A2 n2 c2 (3/2) rfl _ (S1.out.2.val.keep XD.out) (HT.out.keep (E6.out.tr XD.out))).mono ?_;rintro e w7 ⟨rfl,x7⟩;have E7:=Hx (XD.out.tr x7);have HSW:=Hx (qa.out _ E7.out);refine hK.out _ _ HSW.out ?_;clear hK KK x7;try simp only [Act.put,yA,yB,yC,yD,yE,yF]
  refine wP 10 rfl HSW.out ?_;try simp only [Act.put,yA,yB,yC,yD,yE,yF]
  refine wP 11 rfl HSW.out ?_;try simp only [Act.put,yA,yB,yC,yD,yE,yF]
  refine wP 12 rfl HSW.out ?_;try simp only [Act.put,yA,yB,yC,yD,yE,yF]
  refine wP 13 rfl HSW.out ?_;try simp only [Act.put,yA,yB,yC,yD,yE,yF]
  refine wT 14 (v:=?_) rfl ?_ HSW.out ?_;rotate_left
  focus (intro w hSw;obtain⟨⟨s0,s1,s2,s3⟩,s4,s5,s6,s7,s8⟩:=hSw;go_simp;try with_reducible rfl)
  try simp only [Act.put,yA,yB,yC,yD,yE,yF]
  refine wC 15 rfl (fun KK hK=>?_);go_simp;refine(text_32 ng G1 u1 v1 G2 u2 v2 (3/2) rfl _ (S6.out.val.keep E7.out) (HT.out.keep (E6.out.tr E7.out))).mono ?_;rintro e w8 ⟨rfl,x8⟩;have E8:=Hx (E7.out.tr x8);have HSW:=Hx (qa.out _ E8.out);refine hK.out _ _ HSW.out ?_;clear hK KK x8;try simp only [Act.put,yA,yB,yC,yD,yE,yF]
  refine wP 16 rfl HSW.out ?_;try simp only [Act.put,yA,yB,yC,yD,yE,yF]
  refine wP 17 rfl HSW.out ?_;try simp only [Act.put,yA,yB,yC,yD,yE,yF]
  refine wP 18 rfl HSW.out ?_;try simp only [Act.put,yA,yB,yC,yD,yE,yF]
  refine wP 20 rfl HSW.out ?_;try simp only [Act.put,yA,yB,yC,yD,yE,yF]
  refine wT 21 (v:=?_) rfl ?_ HSW.out ?_;rotate_left
  focus (intro w hSw;obtain⟨⟨s0,s1,s2,s3⟩,s4,s5,s6,s7,s8⟩:=hSw;go_simp;try with_reducible rfl)
  try simp only [Act.put,yA,yB,yC,yD,yE,yF]
  refine wC 19 rfl (fun KK hK=>?_);go_simp;refine(jzc6 _).mono ?_;rintro e w9 ⟨qx,qy,rfl,T9,x9⟩;have E9:=Hx (And.intro T9 (E8.out.tr x9));have HSW:=Hx (qa.out _ E9.out.2);refine hK.out _ _ HSW.out ?_;clear hK KK x9 T9;try simp only [Act.put,yA,yB,yC,yD,yE,yF]
  refine wC 22 rfl (fun KK hK=>?_);go_simp;refine((S6.out.keep E9.out.2).check (t:=rgT) (AO:=none) (co:=0) (AL:=qx) (cl:=qy) (AD:=some ⟨gd,0,none⟩) (cd:=2) (nr:=8) (cr:=8) jzmg (by decide) HZ.out S6.out.ok.plen E9.out.1 (D6.out.keep E9.out.2) (HT.out.keep (E6.out.tr E9.out.2))).mono ?_;rintro e qA ⟨rfl,qi⟩;have qm:=Hx (E9.out.2.tr qi);have HSW:=Hx (qa.out _ qm.out);refine hK.out _ _ HSW.out ?_;clear hK KK qi;try simp only [Act.put,yA,yB,yC,yD,yE,yF]
  refine wP 23 rfl HSW.out ?_;try simp only [Act.put,yA,yB,yC,yD,yE,yF]
  refine wP 24 rfl HSW.out ?_;try simp only [Act.put,yA,yB,yC,yD,yE,yF]
  refine wP 26 rfl HSW.out ?_;try simp only [Act.put,yA,yB,yC,yD,yE,yF]
  refine wT 27 (v:=?_) rfl ?_ HSW.out ?_;rotate_left
  focus (intro w hSw;obtain⟨⟨s0,s1,s2,s3⟩,s4,s5,s6,s7,s8⟩:=hSw;go_simp;try with_reducible rfl)
  try simp only [Act.put,yA,yB,yC,yD,yE,yF]
  refine wC 25 rfl (fun KK hK=>?_);go_simp;refine(jzc6 _).mono ?_;rintro e qB ⟨qh,qf,rfl,qp,qn⟩;have qe:=Hx (And.intro qp (qm.out.tr qn));have HSW:=Hx (qa.out _ qe.out.2);refine hK.out _ _ HSW.out ?_;clear hK KK qn qp;try simp only [Act.put,yA,yB,yC,yD,yE,yF]
  refine wC 28 rfl (fun KK hK=>?_);go_simp;have h4:=rg_full S1.out.2.ok;refine((S1.out.2.keep qe.out.2).full (t:=rgT) (AO:=none) (co:=0) (AL:=qh) (cl:=qf) jzic (by decide) S1.out.1 qe.out.1).mono ?_;rw [h4];rintro e qz ⟨AF,cf,rfl,qt⟩;have qo:=Hx (qe.out.2.tr qt);have HSW:=Hx (qa.out _ qo.out);refine hK.out _ _ HSW.out ?_;clear hK KK qt;try simp only [Act.put,yA,yB,yC,yD,yE,yF]
  refine wP 29 rfl HSW.out ?_;try simp only [Act.put,yA,yB,yC,yD,yE,yF]
  refine wP 30 rfl HSW.out ?_;try simp only [Act.put,yA,yB,yC,yD,yE,yF]
  refine wP 31 rfl HSW.out ?_;try simp only [Act.put,yA,yB,yC,yD,yE,yF]
  refine jzk (by kernel_rfl) rfl (by rfl) (fun KK hK=>?_);go_simp;refine hK.out _ _ ?_;clear hK KK;refine wpAny_done (by kernel_rfl) ?_ _;go_wp2;go_ret;exact⟨rfl,E6.out.tr qo.out⟩
end Go.Proofs.YthbmikapohlikaaGreatDoor
namespace Go.Proofs.YthbmikapohlikaaGreatDoor
open Go.RowKit
structure ArgF(w:World)(t:Tp)(AO:Option Addr)(co:Nat)(AL:Option Addr)(cl:Nat)(l:List Dm)(AD:Option Addr)(cd:Nat):Prop where
 nodes:i64 t.nodes
 lo:t.over.length<=co
 ll:t.links.length<=cl
 over:Rd w AO (bools t.over)
 links:Rd w AL (t.links.flatMap Lk.cells)
 wf:∀x∈t.links,x.wf
 ld:l.length<=cd
 lm:l.length<=9223372036854775807
 dr:Rd w AD (l.flatMap Dm.cells)
 dwf:∀x∈l,x.wf
section
variable {w w':World} {t:Tp} {AO:Option Addr} {co:Nat} {AL:Option Addr} {cl:Nat} {l:List Dm} {AD:Option Addr} {cd:Nat}
theorem ArgF.keep(h:ArgF w t AO co AL cl l AD cd)(hx:Ext w w'):ArgF w' t AO co AL cl l AD cd:=⟨h.nodes,h.lo,h.ll,h.over.keep hx,h.links.keep hx,h.wf,h.ld,h.lm,h.dr.keep hx,h.dwf⟩
theorem ArgF.top(h:ArgF w t AO co AL cl l AD cd)(h1:t.links.length<=10)(h2:t.over.length<=20):TopR w t AO co AL cl:=⟨h.nodes,h.lo,h.ll,by omega,by omega,h.over,h.links,h.wf⟩
theorem ArgF.dem(h:ArgF w t AO co AL cl l AD cd)(h1:l.length<=4):DmR w l AD cd:=⟨h.ld,by omega,h.dr,h.dwf⟩
theorem Rd.dm{A:Option Addr}(h:Rd w A (l.flatMap Dm.cells)){i:Nat}{d:Dm}(hl:l[i]?=some d):∃b o:Nat,A=some ⟨b,o,none⟩/\b<w.heap.size/\w.cell? ⟨b,o+i*4+2,none⟩=some (.int .i64 d.amount):=by
 have hi:=(yH.1 hl).1;have qa:=jzb3 Dm.cells 4 (fun _=>rfl) l;obtain⟨b,o,e,hb,hc⟩:=h.at_ (i:=i*4) (by rw [qa];omega);have qe:w.cell? ⟨b,o+(i*4+2),none⟩=(Dm.cells d)[2]?:=by
  rw [hc (i*4+2) (by rw [qa];omega)];exact jzaq Dm.cells 4 (fun _=>rfl) l i 2 hl (by decide)
 exact⟨b,o,e,hb,qe⟩
end
def smallF(t:Tp)(l:List Dm):Bool:=l.all (fun d=>decide (d.amount<=1000))&&decide (t.links.length<=10)&&decide (t.over.length<=20)&&decide (l.length<=4)&&(!validP t||decide (t.nodes<=7))
theorem am_false{l:List Dm}{k:Nat}{d:Dm}(hl:l[k]?=some d)(hb:¬d.amount<=1000):l.all (fun d=>decide (d.amount<=1000))=false:=by
 obtain⟨hk,he⟩:=yH.1 hl;rw [List.all_eq_false];exact⟨d,by rw [<-he];exact xR hk,by simpa using hb⟩
theorem am_true{l:List Dm}(h:∀(j:Nat) (d:Dm),l[j]?=some d->d.amount<=1000):l.all (fun d=>decide (d.amount<=1000))=true:=by
 rw [xW];intro d hd;obtain⟨j,hj,rfl⟩:=List.mem_iff_getElem.1 hd;exact yO (h j _ (yG hj))
theorem jzcj(t:Tp)(AO:Option Addr)(co:Nat)(AL:Option Addr)(cl:Nat)(l:List Dm)(AD:Option Addr)(cd:Nat)(w:World)(h:ArgF w t AO co AL cl l AD cd):
  Calls Tryz.prog 10 #[.agg #[.int .i64 t.nodes,.slice AO t.over.length co,.slice AL t.links.length cl],.slice AD l.length cd] w fun e w'=>e=.returned (.bool (smallF t l))/\Ext w w':=by
 have qh:=h.ld;have qi:=h.lm;have HA:=Hx h;obtain⟨qf,e0⟩:=boxes1 w #[.int .i64 t.nodes,.slice AO t.over.length co,.slice AL t.links.length cl] 25;obtain⟨⟨i0,i1,i2⟩,_⟩:=qf.three;have E0:=Hx (And.intro qf e0);clear h qf e0
 go_enter Tryz.func10,Tryz.ntmps10
 go_wp2
 go_loopg [5] l.length (fun q it wx=>∃n:Nat,l.length-n=q/\n<=l.length/\it=.int .i64 (n:Int)/\Hid (∀(j:Nat) (d:Dm),j<n->l[j]?=some d->d.amount<=1000)/\wx=w.alloc (.cells #[.int .i64 t.nodes,.slice AO t.over.length co,.slice AL t.links.length cl] 25))
 case atStart=>exact⟨0,rfl,yZ _,rfl,Hx fun j d h=>by omega,rfl⟩
 case round=>
  obtain⟨n,rfl,hn,rfl,I,rfl⟩:=hrel;by_cases qg:n<l.length
  ·obtain⟨d,hd⟩:∃d,l[n]?=some d:=⟨_,yG qg⟩
   have HL:=Hx hd;obtain⟨b,o,rfl,hb,c2⟩:=(HA.out.dr.keep E0.out.2).dm hd;have nN:(n:Int)<(l.length:Int):=(by omega);have n0:(0:Int)<=(n:Int):=(by omega);clear hd;by_cases ha:d.amount<=1000
   ·have HJ:=Hx ha
    have d1:decide (1000<d.amount)=false:=yP (by omega);clear ha;go_wp2
    go_roundg (l.length-(n+1))
    case measure=>omega
    case rel=>exact⟨n+1,rfl,by omega,by go_num,Hx fun j d' hj hd'=>by
     by_cases e:j=n
     ·subst e;have:=HL.out;rw [this]at hd';injection hd' with hd';subst hd';exact HJ.out
     ·exact I.out j d' (by omega) hd',rfl⟩
   ·have HF:=Hx (show smallF t l=false by unfold smallF;rw [am_false HL.out ha];simp)
    have d1:decide (1000<d.amount)=true:=yO (by omega);clear ha;go_wp2;go_ret;rw [HF.out];exact⟨rfl,E0.out.2⟩
  ·obtain rfl:n=l.length:=by omega
   have HF:=Hx (am_true (l:=l) fun j d hj=>I.out j d (yH.1 hj).1 hj);by_cases h1:t.links.length<=10
   case neg=>
    have qa:=Hx (show smallF t l=false by simp [smallF,h1]);have d1:decide ((t.links.length:Int)<=10)=false:=(by simp;omega);go_wp2;go_ret;rw [qa.out];exact⟨rfl,E0.out.2⟩
   case pos=>
    have d1:decide ((t.links.length:Int)<=10)=true:=(by simp;omega);by_cases h2:t.over.length<=20
    case neg=>
     have qa:=Hx (show smallF t l=false by simp [smallF,h2]);have d2:decide ((t.over.length:Int)<=20)=false:=(by simp;omega);go_wp2;go_ret;rw [qa.out];exact⟨rfl,E0.out.2⟩
    case pos=>
     have d2:decide ((t.over.length:Int)<=20)=true:=(by simp;omega);by_cases h3:l.length<=4
     case neg=>
      have qa:=Hx (show smallF t l=false by simp [smallF,h3]);have d3:decide ((l.length:Int)<=4)=false:=(by simp;omega);go_wp2;go_ret;rw [qa.out];exact⟨rfl,E0.out.2⟩
     case pos=>
      have d3:decide ((l.length:Int)<=4)=true:=by simp;omega
      go_wp2_with fail
      refine(jzdc t AO co AL cl _ ((HA.out.top h1 h2).keep E0.out.2)).mono ?_;rintro e w1 ⟨rfl,qe⟩;obtain⟨⟨k0,_,_⟩,_⟩:=(E0.out.1.keep qe).three;have E1:=Hx (E0.out.2.tr qe);clear qe i0 i1 i2;cases hvv:validP t
      case false=>
       have qa:=Hx (show smallF t l=true by simp only [smallF,HF.out,hvv,h1,h2,h3];rfl);go_wp2;go_ret;rw [qa.out];exact⟨rfl,E1.out⟩
      case true=>
       by_cases h5:t.nodes<=7
       ·have qa:=Hx (show smallF t l=true by simp only [smallF,HF.out,hvv,h1,h2,h3,h5];rfl)
        have d5:decide (t.nodes<=7)=true:=(by simp;omega);go_wp2;go_ret;rw [qa.out];exact⟨rfl,E1.out⟩
       ·have qa:=Hx (show smallF t l=false by simp only [smallF,HF.out,hvv,h1,h2,h3,h5];rfl)
        have d5:decide (t.nodes<=7)=false:=(by simp;omega);go_wp2;go_ret;rw [qa.out];exact⟨rfl,E1.out⟩
theorem jzff{N:Int}{d:Dm}(h:¬(0<=d.src/\d.src<N/\0<=d.dst/\d.dst<N/\d.src≠d.dst/\1<=d.amount/\d.amount<=1048576/\0<=d.prio/\d.prio<=7)):d.ok N=false:=by
 cases h1:d.ok N with
 |false=>rfl
 |true=>
  exfalso;unfold Dm.ok inB at h1;simp at h1;omega
theorem jzi8(N:Int)(A:Option Addr)(c:Nat)(l:List Dm)(w:World)(hd:DmR w l A c):
  Calls Tryz.prog 37 #[.int .i64 N,.slice A l.length c] w fun e w'=>e=.returned (.bool (dmsP N l))/\Ext w w':=by
 have HD:=Hx hd;have qf:=hd.len;have qa:=hd.cap;clear hd;by_cases a1:N<0
 ·have HR:=Hx (show dmsP N l=false by unfold dmsP inB;rw [yP (show¬(0<=N/\N<=64) by omega)];rfl)
  have d1:decide (N<0)=true:=yO a1
  go_enter Tryz.func37,Tryz.ntmps37
  go_wp2;go_ret;rw [HR.out];exact⟨rfl,Ext.refl _⟩
 have b1:decide (N<0)=false:=yP a1;by_cases a2:64<N
 ·have HR:=Hx (show dmsP N l=false by unfold dmsP inB;rw [yP (show¬(0<=N/\N<=64) by omega)];rfl)
  have d2:decide (64<N)=true:=yO a2
  go_enter Tryz.func37,Tryz.ntmps37
  go_wp2;go_ret;rw [HR.out];exact⟨rfl,Ext.refl _⟩
 have b2:decide (64<N)=false:=yP a2;by_cases a3:l.length<=64
 case neg=>
  have HR:=Hx (show dmsP N l=false by unfold dmsP;rw [yP a3];simp);have d3:decide (64<(l.length:Int))=true:=yO (by omega)
  go_enter Tryz.func37,Tryz.ntmps37
  go_wp2;go_ret;rw [HR.out];exact⟨rfl,Ext.refl _⟩
 case pos=>
  have b3:decide (64<(l.length:Int))=false:=yP (by omega);have HR:=Hx (show dmsP N l=l.all (Dm.ok N) by unfold dmsP inB;rw [yO (show 0<=N/\N<=64 by omega),yO a3];rfl)
  go_enter Tryz.func37,Tryz.ntmps37
  go_wp2;clear b1 b2 b3
  go_loopg [5] l.length (fun q it wx=>∃n:Nat,l.length-n=q/\n<=l.length/\it=.int .i64 (n:Int)/\Hid ((∀j d,j<n->l[j]?=some d->d.ok N=true)/\Ext w wx))
  case atStart=>exact⟨0,rfl,yZ _,rfl,Hx ⟨fun j d h=>by omega,Ext.refl _⟩⟩
  case round=>
   obtain⟨n,rfl,hn,rfl,I⟩:=hrel;by_cases qe:n<l.length
   ·obtain⟨d,hd⟩:∃d,l[n]?=some d:=⟨_,yG qe⟩
    have HL:=Hx hd;obtain⟨b,o,rfl,hb,c0,c1,c2,c3⟩:=(HD.out.keep I.out.2).at_ hd;have nN:(n:Int)<(l.length:Int):=(by omega);have n0:(0:Int)<=(n:Int):=(by omega);have X9:=Hx (I.out.2.alloc (.cells #[.int .i64 d.src,.int .i64 d.dst,.int .i64 d.amount,.int .i64 d.prio] 27));clear hd;by_cases h1:d.src<0
    ·have HF:=Hx (jz8 HL.out (jzff (N:=N) (d:=d) (by omega)))
     have d1:decide (d.src<0)=true:=yO h1;clear h1;go_wp2;go_ret;rw [HR.out,HF.out];exact⟨rfl,X9.out⟩
    have d1:decide (d.src<0)=false:=yP h1;have H1:=Hx h1;clear h1;by_cases h2:N<=d.src
    ·have HF:=Hx (jz8 HL.out (jzff (N:=N) (d:=d) (by omega)))
     have d2:decide (N<=d.src)=true:=yO h2;clear h2;go_wp2;go_ret;rw [HR.out,HF.out];exact⟨rfl,X9.out⟩
    have d2:decide (N<=d.src)=false:=yP h2;have H2:=Hx h2;clear h2;by_cases h3:d.dst<0
    ·have HF:=Hx (jz8 HL.out (jzff (N:=N) (d:=d) (by omega)))
     have d3:decide (d.dst<0)=true:=yO h3;clear h3;go_wp2;go_ret;rw [HR.out,HF.out];exact⟨rfl,X9.out⟩
    have d3:decide (d.dst<0)=false:=yP h3;have H3:=Hx h3;clear h3;by_cases h4:N<=d.dst
    ·have HF:=Hx (jz8 HL.out (jzff (N:=N) (d:=d) (by omega)))
     have d4:decide (N<=d.dst)=true:=yO h4;clear h4;go_wp2;go_ret;rw [HR.out,HF.out];exact⟨rfl,X9.out⟩
    have d4:decide (N<=d.dst)=false:=yP h4;have H4:=Hx h4;clear h4;by_cases h5:d.src=d.dst
    ·have HF:=Hx (jz8 HL.out (jzff (N:=N) (d:=d) (by omega)))
     have d5:(d.src==d.dst)=true:=beq_iff_eq.2 h5;clear h5;go_wp2;go_ret;rw [HR.out,HF.out];exact⟨rfl,X9.out⟩
    have d5:(d.src==d.dst)=false:=yK.2 h5;have H5:=Hx h5;clear h5;by_cases h6:d.amount<1
    ·have HF:=Hx (jz8 HL.out (jzff (N:=N) (d:=d) (by omega)))
     have d6:decide (d.amount<1)=true:=yO h6;clear h6;go_wp2;go_ret;rw [HR.out,HF.out];exact⟨rfl,X9.out⟩
    have d6:decide (d.amount<1)=false:=yP h6;have H6:=Hx h6;clear h6;by_cases h7:1048576<d.amount
    ·have HF:=Hx (jz8 HL.out (jzff (N:=N) (d:=d) (by omega)))
     have d7:decide (1048576<d.amount)=true:=yO h7;clear h7;go_wp2;go_ret;rw [HR.out,HF.out];exact⟨rfl,X9.out⟩
    have d7:decide (1048576<d.amount)=false:=yP h7;have H7:=Hx h7;clear h7;by_cases h8:d.prio<0
    ·have HF:=Hx (jz8 HL.out (jzff (N:=N) (d:=d) (by omega)))
     have d8:decide (d.prio<0)=true:=yO h8;clear h8;go_wp2;go_ret;rw [HR.out,HF.out];exact⟨rfl,X9.out⟩
    have d8:decide (d.prio<0)=false:=yP h8;have H8:=Hx h8;clear h8;by_cases h9:7<d.prio
    ·have HF:=Hx (jz8 HL.out (jzff (N:=N) (d:=d) (by omega)))
     have d9:decide (7<d.prio)=true:=yO h9;clear h9;go_wp2;go_ret;rw [HR.out,HF.out];exact⟨rfl,X9.out⟩
    have d9:decide (7<d.prio)=false:=yP h9;have H9:=Hx h9;clear h9;have OK:=Hx (show d.ok N=true by
     have g1:=H1.out;have g2:=H2.out;have g3:=H3.out;have g4:=H4.out;have g5:=H5.out;have g6:=H6.out;have g7:=H7.out;have g8:=H8.out;have g9:=H9.out;unfold Dm.ok inB;simp;omega)
    go_wp2
    go_roundg (l.length-(n+1))
    case measure=>omega
    case rel=>exact⟨n+1,rfl,by omega,by go_num,Hx ⟨fun j d' hj hd'=>by
     by_cases e:j=n
     ·subst e;have:=HL.out;rw [this]at hd';injection hd' with hd';subst hd';exact OK.out
     ·exact I.out.1 j d' (by omega) hd',X9.out⟩⟩
   ·obtain rfl:n=l.length:=by omega
    have HF:=Hx (jzhy (l:=l) (N:=N) (fun j d hj=>I.out.1 j d (yH.1 hj).1 hj));go_wp2;go_ret;rw [HR.out,HF.out];exact⟨rfl,I.out.2⟩
theorem jzc7(t:Tp)(AO:Option Addr)(co:Nat)(AL:Option Addr)(cl:Nat)(l:List Dm)(A:Option Addr)(c:Nat)(w:World)(ht:TopR w t AO co AL cl)(hd:DmR w l A c):
  Calls Tryz.prog 11 #[.agg #[.int .i64 t.nodes,.slice AO t.over.length co,.slice AL t.links.length cl],.slice A l.length c] w fun e w'=>e=.returned (.bool (fitP t l))/\Ext w w':=by
 have HT:=Hx (And.intro ht hd);clear ht hd;obtain⟨qa,e0⟩:=boxes1 w #[.int .i64 t.nodes,.slice AO t.over.length co,.slice AL t.links.length cl] 25;have BA:=Hx (And.intro qa e0);obtain⟨⟨i0,i1,i2⟩,_⟩:=qa.three;clear qa e0
 go_enter Tryz.func11,Tryz.ntmps11
 go_wp2_with fail
 refine(jzdc t AO co AL cl _ (HT.out.1.keep BA.out.2)).mono ?_;rintro e w1 ⟨rfl,qe⟩;have E1:=Hx (And.intro (BA.out.1.keep qe) (BA.out.2.tr qe));clear qe BA i0 i1 i2;obtain⟨⟨i0,i1,i2⟩,_⟩:=E1.out.1.three;cases hv:validP t
 ·have HR:=Hx (show fitP t l=false by unfold fitP;rw [hv];rfl)
  go_wp2_with fail
  go_ret;rw [HR.out];exact⟨rfl,E1.out.2⟩
 ·by_cases hl:0<l.length
  ·have HR:=Hx (show fitP t l=dmsP t.nodes l by unfold fitP;rw [hv,yO hl];rfl)
   have qg:decide ((0:Int)<(l.length:Int))=true:=yO (by omega)
   go_wp2_with fail
   refine(jzi8 t.nodes A c l _ (HT.out.2.keep E1.out.2)).mono ?_;rintro e w2 ⟨rfl,qf⟩;have E2:=Hx (E1.out.2.tr qf);clear qf
   go_wp2_with fail
   go_ret;rw [HR.out];exact⟨rfl,E2.out⟩
  ·have HR:=Hx (show fitP t l=false by unfold fitP;rw [yP hl];simp)
   have qg:decide ((0:Int)<(l.length:Int))=false:=yP (by omega)
   go_wp2_with fail
   go_ret;rw [HR.out];exact⟨rfl,E1.out.2⟩
open Sx
theorem SolvePost.val{w:World}{t:Tp}{l:List Dm}{e:Ending}{w':World}(hf:Fit t l)(hD:l.length<=4)(h:SolvePost w t l e w'):
  ∃(v:Rat) (ok neg:Bool) (A1:Option Addr) (n1 c1:Nat) (A2:Option Addr) (n2 c2:Nat) (P1:Option Addr) (m1 k1:Nat) (P2:Option Addr) (m2 k2:Nat) (ec:Int),e=.returned (.tuple #[.agg #[.bool neg,.slice A1 n1 c1,.slice A2 n2 c2,.slice P1 m1 k1,.slice P2 m2 k2],.int .i64 ec])/\(ec==0)=ok/\ValR t l v ok/\SzQ v 20/\RatR w' neg A1 n1 c1 A2 n2 c2 v/\Ext w w':=by
 rcases h with⟨h1,_⟩|⟨_,⟨d,hd,h1⟩,h2,h3⟩|⟨_,v,Z,pr,neg,A1,n1,c1,A2,n2,c2,AP,cp,gp,h1,h2,_,_,_,h3,h4,_,_,_,h5⟩
 ·rw [(jza0 (show l.length<=64 by omega)).2 hf]at h1;cases h1
 ·exact⟨0,false,false,none,0,0,none,0,0,_,_,_,_,_,_,11,h2,rfl,.inr ⟨rfl,rfl,fun hc=>by obtain⟨y,hy⟩:=jzgz.1 hc d hd;exact h1 y hy⟩,SzQ.zero.mono (by decide),jz6 _,h3⟩
 ·exact⟨v,true,neg,A1,n1,c1,A2,n2,c2,_,_,_,_,_,_,0,h3,rfl,.inl ⟨rfl,Z,pr,h1⟩,h2,h4,h5⟩
section
variable {t:Tp} {i y:Nat}
end
theorem jzcm{t:Tp}{l:List Dm}:smallF t l=true↔(∀x∈l,x.amount<=1000)/\t.links.length<=10/\t.over.length<=20/\l.length<=4/\(validP t=true->t.nodes<=7):=by
 unfold smallF;simp only [vM,xW,decide_eq_true_eq,Bool.or_eq_true,Bool.not_eq_true'];constructor
 ·rintro ⟨⟨⟨⟨h1,h2⟩,h3⟩,h4⟩,h5⟩
  exact⟨h1,h2,h3,h4,fun hv=>by rcases h5 with h5|h5; ·rw [hv]at h5;cases h5
                               ·exact h5⟩
 ·rintro ⟨h1,h2,h3,h4,h5⟩
  refine⟨⟨⟨⟨h1,h2⟩,h3⟩,h4⟩,?_⟩;cases hv:validP t
  ·exact .inl rfl
  ·exact .inr (h5 hv)
end Go.Proofs.YthbmikapohlikaaGreatDoor
namespace Go.Proofs.YthbmikapohlikaaGreatDoor
open Go.RowKit Go.ChangeShapes Go.WideShapes Go.Deep
instance:Inhabited Dm:=⟨⟨0,0,0,0⟩⟩
theorem list4{α:Type}{l:List α}(h:l.length=4):∃a b c d,l=[a,b,c,d]:=by
 match l,h with
 | [a,b,c,d],_=>exact⟨a,b,c,d,rfl⟩
section
variable {H:Type} {enc:TypeId×Value->H} {w:World} {base:Nat} {spare:Nat->Bool} {held:Bool}
theorem jzjc{n:Nat}{cs:List Value}{y:DataW H×List MemPlace}(h:DataW.trod enc Tryz.prog w base spare held n 27 cs=some y):∃d:Dm,cs=d.cells/\d.wf:=by
 obtain⟨xs,m,_,_,hl,qa,hf⟩:=DataW.trod_struct Tryz.underlying27 h;have c4:Tryz.prog.cellsOf 27=4:=(by kernel_rfl);have c1:=Tryz.cells_int;rw [c4]at hl;obtain⟨a0,a1,a2,a3,rfl⟩:=list4 hl;have qa:xs.length=4:=qa;have h0:DataW.trod enc Tryz.prog w base spare held m 3 (List.take (Tryz.prog.cellsOf 3) (List.drop 0 [a0,a1,a2,a3]))=xs[0]?:=hf 0 _ rfl;have h1:DataW.trod enc Tryz.prog w base spare held m 3 (List.take (Tryz.prog.cellsOf 3) (List.drop 1 [a0,a1,a2,a3]))=xs[1]?:=hf 1 _ rfl;have h2:DataW.trod enc Tryz.prog w base spare held m 3 (List.take (Tryz.prog.cellsOf 3) (List.drop 2 [a0,a1,a2,a3]))=xs[2]?:=hf 2 _ rfl;have h3:DataW.trod enc Tryz.prog w base spare held m 3 (List.take (Tryz.prog.cellsOf 3) (List.drop 3 [a0,a1,a2,a3]))=xs[3]?:=hf 3 _ rfl;clear hf h;obtain⟨y0,e0⟩:=jzaw 0 qa (by omega);obtain⟨y1,e1⟩:=jzaw 1 qa (by omega);obtain⟨y2,e2⟩:=jzaw 2 qa (by omega);obtain⟨y3,e3⟩:=jzaw 3 qa (by omega);rw [c1]at h0 h1 h2 h3;obtain⟨x0,rfl,g0⟩:=jzak e0 h0;obtain⟨x1,rfl,g1⟩:=jzak e1 h1;obtain⟨x2,rfl,g2⟩:=jzak e2 h2;obtain⟨x3,rfl,g3⟩:=jzak e3 h3;exact⟨⟨x0,x1,x2,x3⟩,rfl,g0,g1,g2,g3⟩
theorem jzc8{v:Value}{d:DataW H}{p:List MemPlace}{r:Reach}{b0:Nat}(hv:Value.okWide Tryz.prog w r b0 29 v)(h:DataW.Trod enc Tryz.prog w base spare held 29 v d p):
  ∃(A:Option Addr) (l:List Dm) (c:Nat),v=.slice A l.length c/\l.length<=c/\c<=maxLen/\(∀x∈l,x.wf)/\Rd w A (l.flatMap Dm.cells):=by
 obtain⟨a0,l0,c0,rfl⟩:=okWide_slice Tryz.underlying29 hv;obtain⟨qa,hf⟩:=h;obtain⟨A,l,c,e,hl,hc,wf,rd⟩:=jzey Dm.cells Dm.wf 4 (by decide) (fun _=>rfl) Tryz.underlying29 (by kernel_rfl) (fun n cs y hy=>jzjc hy) hf;exact⟨A,l,c,by simpa [Value.cells]using e,hl,hc,wf,rd⟩
end
end Go.Proofs.YthbmikapohlikaaGreatDoor
