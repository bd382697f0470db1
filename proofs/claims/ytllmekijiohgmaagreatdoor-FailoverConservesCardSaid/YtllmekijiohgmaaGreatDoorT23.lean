/- Part 23 of 23 of what the Flows claims share (the white space is struck, the texts are joined). -/
import Derived.Test.YtllmekijiohgmaaGreatDoorT22
set_option linter.unusedVariables false
set_option linter.unusedSimpArgs false
set_option maxRecDepth 100000
set_option maxHeartbeats 8000000
namespace Go.Proofs.YtllmekijiohgmaaGreatDoor
open Go.RowKit
namespace Fo
theorem jzmz{t}(hv:aA t=true){a:Nat}(ha:a<2*t.links.length):tlN t a≠hdN t a:=by
 have h:t.links[a/2]?=some t.links[a/2]:=yG (by omega);unfold aA at hv;rw[vM,xW]at hv;have h2:=hv.2 _ (xR (show a/2<t.links.length by omega));generalize t.links[a/2]=l at*;unfold Lk.ok ndB at h2;simp only[vM,decide_eq_true_eq,Bool.not_eq_true',yK]at h2;have h0:=h2.1.1.1.1.1.1.1;have h3:=h2.1.1.1.1.1.1.2;have h4:=h2.1.1.1.1.1.2;unfold tlN hdN aX aJ;rw[h];simp only;by_cases e:a%2=0;{rw[if_pos e,if_pos e];omega};rw[if_neg e,if_neg e];omega
theorem jzm0:mkQ (decide ((1:Int)<0)) (1:Int).natAbs 1=1:=by decide+kernel
set_option maxHeartbeats 16000000 in
theorem cons44_law t AO(co:Nat)AL(cl:Nat)(kd nm:Int)A(m c:Nat)(s:Int)P(np cp:Nat)(l:List Int)(pk:LN)w(ht:eV w t AO co AL cl)(hA:Rd w A (aR l))(hm:l.length=m)(hc:m<=c)(hP:Rd w P (pk.map fun b:Nat=>Value.int .u8 (b:Int)))(hn:pk.length=np)(hpk:∀b∈pk,b<256)(hta:Tab w):
  Calls Tryz.prog 6 #[.agg #[vI t.nodes,.s AO t.over.length co,.s AL t.links.length cl],.agg #[vI kd,vI nm,.s A m c,vI s,.s P np cp]] w fun e w'=>e=.returned (.bool true)/\Ext w w':=by
 have AW:Hid (∀wx,Ext w wx->Calls Tryz.prog 9 #[] wx fun e w'=>e=.returned (.bool true)/\Ext wx w'):=Hx (fun wx hx=>jzmh wx (hta.K hx));have RT:Hid (∀wx,Ext w wx->Calls Tryz.prog 11 #[.agg #[vI t.nodes,.s AO t.over.length co,.s AL t.links.length cl],.agg #[vI kd,vI nm,.s A m c,vI s,.s P np cp]] wx (RtP wx m)):=Hx (fun wx hx=>jzmn t AO co AL cl kd nm A m c s P np cp l pk wx (ht.K hx) (hA.K hx) hm hc (hP.K hx) hn hpk);have SM:Hid (∀wx,Ext w wx->Calls Tryz.prog 10 #[.agg #[vI t.nodes,.s AO t.over.length co,.s AL t.links.length cl],.agg #[vI kd,vI nm,.s A m c,vI s,.s P np cp]] wx fun e w'=>e=.returned (.bool (eW t m np))/\Ext wx w'):=Hx (fun wx hx=>jzmm t AO co AL cl kd nm A m c s P np cp wx (ht.K hx));have CV:Hid (∀wx,Ext w wx->Calls Tryz.prog 21 #[.agg #[vI t.nodes,.s AO t.over.length co,.s AL t.links.length cl],.agg #[vI kd,vI nm]] wx fun e w'=>e=.returned (.bool (aA t&&wnP t kd nm))/\Ext wx w'):=Hx (fun wx hx=>jzmo t AO co AL cl kd nm wx (ht.K hx));have HT:=Hx (kQa ht hta);have E0:Hid (_/\_/\_):=Hx (dS w #[vI t.nodes,.s AO t.over.length co,.s AL t.links.length cl] 25 #[vI kd,vI nm,.s A m c,vI s,.s P np cp] 31);clear ht hA hm hc hP hn hpk hta
 go_enter Tryz.func6,Tryz.ntmps6
 go_wp2_with fail
 refine(AW.o _ E0.o.2.2).mono ?_;rintro e w1 ⟨rfl,x1⟩;have E1:=Hx (kQa (E0.o.1.K x1) (kQa (E0.o.2.1.K x1) (E0.o.2.2.tr x1)));clear x1 E0 AW;generalize hgt:w.heap.size=gt at*;clear hgt;obtain⟨⟨i0,i1,i2⟩,_⟩:=E1.o.1.t3;have j0:w1.cell? (aD (gt+1) 0)=some (vI kd):=E1.o.2.1.cell 0;have j1:w1.cell? (aD (gt+1) 1)=some (vI nm):=E1.o.2.1.cell 1;have j2:w1.cell? (aD (gt+1) 2)=some (.s A m c):=E1.o.2.1.cell 2;have j3:w1.cell? (aD (gt+1) 3)=some (vI s):=E1.o.2.1.cell 3;have j4:w1.cell? (aD (gt+1) 4)=some (.s P np cp):=E1.o.2.1.cell 4
 go_wp2_with fail
 refine(RT.o _ E1.o.2.2).mono ?_;rintro e w2 ⟨R,n,cR,lr,rfl,hn1,hn2,hn3,hR,x2⟩;have E2:=Hx (kQa (E1.o.1.K x2) (kQa (E1.o.2.1.K x2) (E1.o.2.2.tr x2)));have HR:=Hx (kQa hR (kQa hn1 hn2));clear x2 E1 RT i0 i1 i2 j0 j1 j2 j3 j4 hR hn1 hn2;obtain⟨⟨i0,i1,i2⟩,_⟩:=E2.o.1.t3;have j0:w2.cell? (aD (gt+1) 0)=some (vI kd):=E2.o.2.1.cell 0;have j1:w2.cell? (aD (gt+1) 1)=some (vI nm):=E2.o.2.1.cell 1;have j2:w2.cell? (aD (gt+1) 2)=some (.s A m c):=E2.o.2.1.cell 2;have j3:w2.cell? (aD (gt+1) 3)=some (vI s):=E2.o.2.1.cell 3;have j4:w2.cell? (aD (gt+1) 4)=some (.s P np cp):=E2.o.2.1.cell 4
 go_wp2_with fail
 refine(SM.o _ E2.o.2.2).mono ?_;rintro e w3 ⟨rfl,x3⟩;have X3:=Hx x3;clear x3 SM i0 i1 i2 j0 j1 j2 j3 j4;cases hs:eW t m np with
 |false=>
  have F:=Hx (E2.o.2.2.tr X3.o);clear hs;go_wp2;go_ret;exact⟨rfl,F.o⟩
 |true=>
  obtain⟨hL9,hO20,hm20,_,hN6⟩:=jzml hs;have hn64:n<=64:=(by omega);obtain⟨⟨i0,i1,i2⟩,_⟩:=(E2.o.1.K X3.o).t3;have j0:w3.cell? (aD (gt+1) 0)=some (vI kd):=(E2.o.2.1.K X3.o).cell 0;have j1:w3.cell? (aD (gt+1) 1)=some (vI nm):=(E2.o.2.1.K X3.o).cell 1;clear hs hn3
  go_wp2_with fail
  refine(CV.o _ (E2.o.2.2.tr X3.o)).mono ?_;rintro e w4 ⟨rfl,x4⟩;have X4:=Hx (X3.o.tr x4);clear x4 X3 CV i0 i1 i2 j0 j1;cases hvw:(aA t&&wnP t kd nm)with
  |false=>
   have F:=Hx (E2.o.2.2.tr X4.o);clear hvw;go_wp2;go_ret;exact⟨rfl,F.o⟩
  |true=>
   rw[vM]at hvw;obtain⟨hv,hw⟩:=hvw;have hN6:=hN6 hv;have hT:=HT.o.1.tv hv;have h3:=hT.ll;have h4:=hT.cl;have TP:=Hx (kQa hT (kQa hv hw));obtain⟨⟨i0,i1,i2⟩,_⟩:=(E2.o.1.K X4.o).t3;clear hv hw hT
   go_wp2_with fail
   refine(jzmy t AO co AL cl R n cR lr _ (TP.o.1.K (E2.o.2.2.tr X4.o)) TP.o.2.1 (HR.o.1.K X4.o) HR.o.2.1 (by omega)).mono ?_;rintro e w5 ⟨rfl,x5⟩;have X5:=Hx (X4.o.tr x5);clear x5 X4 i0 i1 i2;cases hr:rtB t lr with
   |false=>
    have F:=Hx (E2.o.2.2.tr X5.o);clear hr;go_wp2;go_ret;exact⟨rfl,F.o⟩
   |true=>
    obtain⟨N,hN⟩:∃N:Nat,t.nodes=(N:Int):=by
     have h:=TP.o.2.1;unfold aA cX inB at h;simp at h;exact⟨t.nodes.toNat,by omega⟩
    have hNt:t.nodes.toNat=N:=(by omega);obtain⟨r,rfl,hne,hrL,_⟩:=jzbr TP.o.2.1 hr;have e1:aR (r.map fun a:Nat=>(a:Int))=ints r:=(by unfold aR ints;rw[List.map_map];rfl);have HR2:=HR.o;rw[e1,xV]at HR2;have hn0:0<n:=(by rw[<-HR2.2.1];exact List.length_pos_iff.2 hne);have g:=Gok.of TP.o.2.1;obtain⟨a0,ha0⟩:∃a,r[0]?=some a:=⟨_,yG (by omega)⟩;obtain⟨al,hal⟩:∃a,r[r.length-1]?=some a:=⟨_,yG (by omega)⟩;have ha0L:=hrL a0 (yJ ha0);have halL:=hrL al (yJ hal);have SHR:=Hx (jzcj t AO co AL cl kd nm N R n cR r w5 (TP.o.1.K (E2.o.2.2.tr X5.o)) TP.o.2.1 TP.o.2.2 hN (by omega) hL9 (HT.o.2.K (E2.o.2.2.tr X5.o)) (HR2.1.K X5.o) HR2.2.1 HR2.2.2 hr);obtain⟨hh,hh256,f1,f2,f3,f4,f5,f6⟩:=jzcf (kd:=kd) (nm:=nm) (r:=r) TP.o.2.1 hL9 (by rw[ha0,kQ1];exact g.tl _ ha0L) hrL;rw[ha0,kQ1]at f5 f6;rw[hal,kQ1]at f6;obtain⟨bR,oR,rfl,hbR,hc0⟩:=HR2.1.ints_ (k:=0) (by omega);obtain⟨b',o',e',_,hc1⟩:=HR2.1.ints_ (k:=r.length-1) (by omega);injection e' with e'
    injection e' with e'1 e'2
    subst e'1 e'2;rw[ha0,kQ1,kQ3]at hc0;rw[hal,kQ1,HR2.2.1]at hc1;have RC:=Hx (kQa hbR (kQa hc0 hc1));have CAST:=Hx (show∀a,a<2*t.links.length->aX t a=(tlN t a:Int)/\aJ t a=(hdN t a:Int)/\tlN t a<N/\hdN t a<N/\tlN t a≠hdN t a from fun a ha=>by
     obtain⟨k1,k2⟩:=eM TP.o.2.1 ha;have k3:=g.tl a ha;have k4:=g.hd a ha;exact⟨k1,k2,by omega,by omega,jzmz TP.o.2.1 ha⟩)
    have TLC:=Hx (show∀(a:Nat),a<2*t.links.length->∀wx,Ext w wx->Calls Tryz.prog 26 #[.agg #[vI t.nodes,.s AO t.over.length co,.s AL t.links.length cl],vI (a:Int)] wx fun e w'=>e=.returned (vI (tlN t a:Int))/\Ext wx w' from fun a ha wx hx=>by
     have h:=lM t AO co AL cl a wx (TP.o.1.K hx) TP.o.2.1 ha;rw[(CAST.o a ha).1]at h;exact h)
    have HDC:=Hx (show∀(a:Nat),a<2*t.links.length->∀wx,Ext w wx->Calls Tryz.prog 27 #[.agg #[vI t.nodes,.s AO t.over.length co,.s AL t.links.length cl],vI (a:Int)] wx fun e w'=>e=.returned (vI (hdN t a:Int))/\Ext wx w' from fun a ha wx hx=>by
     have h:=mX t AO co AL cl a wx (TP.o.1.K hx) TP.o.2.1 ha;rw[(CAST.o a ha).2.1]at h;exact h)
    have OFC:Hid (∀(a:Nat),a<2*t.links.length->∀wx,Ext w wx->Calls Tryz.prog 30 #[.agg #[vI t.nodes,.s AO t.over.length co,.s AL t.links.length cl],.agg #[vI kd,vI nm],vI (a:Int)] wx fun e w'=>e=.returned (.bool (ofB t kd nm a))/\Ext wx w'):=Hx (fun a ha wx hx=>jzmp t AO co AL cl kd nm a wx (TP.o.1.K hx) ha);have ARC:Hid (∀wx,Ext w wx->Calls Tryz.prog 29 #[.agg #[vI t.nodes,.s AO t.over.length co,.s AL t.links.length cl]] wx fun e w'=>e=.returned (vI (2*(t.links.length:Int)))/\Ext wx w'):=Hx (fun wx hx=>fQ t AO co AL cl wx (TP.o.1.K hx) TP.o.2.1);have ONE:=Hx (show∀(wx:World),Calls Tryz.prog 34 #[vI 1] wx (eF wx 1)from fun wx=>by
     have h:=pR 1 wx (by decide) (by decide);rw[jzm0]at h;exact h)
    have LG:=Hx (kQa ha0L halL);have GK:=Hx (kQa g hNt);obtain⟨sh,hsh⟩:∃x,x=(bY t kd nm r).1:=⟨_,rfl⟩;obtain⟨lo,hlo⟩:∃x,x=(bY t kd nm r).2:=⟨_,rfl⟩;rw[<-hsh]at f1 f2 f3 f6;rw[<-hlo]at f4 f5 f6;have FS:=Hx (kQa f1 (kQa f2 (kQa f3 (kQa f4 (kQa f5 f6)))));have HSL:=Hx (kQa hsh hlo);have hN6:N<=6:=(by omega);have HNN:=Hx hN;clear hN hne hrL e1 HR2 g ha0 hal ha0L halL f1 f2 f3 f4 f5 f6 hbR hc0 hc1 hr hsh hlo;obtain⟨⟨i0,i1,i2⟩,_⟩:=(E2.o.1.K X5.o).t3;have j0:w5.cell? (aD (gt+1) 0)=some (vI kd):=(E2.o.2.1.K X5.o).cell 0;have j1:w5.cell? (aD (gt+1) 1)=some (vI nm):=(E2.o.2.1.K X5.o).cell 1
    go_wp2_with fail
    refine SHR.o.mono ?_;rintro e w6 ⟨gS,n1,A1,l1,c1,A1',l1',c1',rfl,hq,hl,x6,_⟩;rw[<-HSL.o.1]at hq;rw[<-HSL.o.2]at hl;have X6a:Ext w6 (w6.alloc (.cells #[.bool n1,.s A1 l1 c1,.s A1' l1' c1'] 40)):=(eR w6).alloc _;have Q6:=Hx (show QB (w6.alloc (.cells #[.bool n1,.s A1 l1 c1,.s A1' l1' c1'] 40)) gS sh/\aO (w6.alloc (.cells #[.bool n1,.s A1 l1 c1,.s A1' l1' c1'] 40)) n1 A1 l1 c1 A1' l1' c1' lo/\Ext w2 (w6.alloc (.cells #[.bool n1,.s A1 l1 c1,.s A1' l1' c1'] 40))/\Blk (w6.alloc (.cells #[.bool n1,.s A1 l1 c1,.s A1' l1' c1'] 40)) w6.heap.size 40 #[.bool n1,.s A1 l1 c1,.s A1' l1' c1']from
     ⟨hq.K X6a,hl.K X6a,(X5.o.tr x6).tr X6a,eN w6 _ _⟩)
    clear hq hl x6 X6a SHR X5 i0 i1 i2 j0 j1 HSL
    go_upto_region 7 with fail
    generalize w6.alloc (.cells #[.bool n1,.s A1 l1 c1,.s A1' l1' c1'] 40)=w7 at*;generalize w6.heap.size=gl at*;obtain⟨⟨i0,i1,i2⟩,_⟩:=(E2.o.1.K Q6.o.2.2.1).t3
    go_wp2_with fail
    refine(ARC.o _ (E2.o.2.2.tr Q6.o.2.2.1)).mono ?_;rintro e w8 ⟨rfl,x8⟩;have X8:=Hx (Q6.o.2.2.1.tr x8);have Q8:Hid (QB w8 gS sh/\aO w8 n1 A1 l1 c1 A1' l1' c1' lo/\Blk w8 gl 40 #[.bool n1,.s A1 l1 c1,.s A1' l1' c1']):=Hx (⟨Q6.o.1.K x8,Q6.o.2.1.K x8,Q6.o.2.2.2.K x8⟩);clear x8 Q6 i0 i1 i2;obtain⟨⟨i0,i1,i2⟩,_⟩:=(E2.o.1.K X8.o).t3;rw[HNN.o]at i0;have hmk:=wI N (by omega)
    go_upto_region 10 with fail
    have X9:=(eR w8).alloc (.cells (madeCells #[.bool false,zN,zN] (N*3)) 40);have I0:=Hx (show CwI w2 (w8.alloc (.cells (madeCells #[.bool false,zN,zN] (N*3)) 40)) t AO co AL cl gt gS gl w8.heap.size #[vI kd,vI nm,.s A m c,vI s,.s P np cp] sh lo (ntL t sh 0)from by
     have h1:=X8.o.size;have h2:=Q8.o.1.lt;have h3:=Q8.o.2.2.lt;refine⟨X8.o.tr X9,E2.o.1.K (X8.o.tr X9),E2.o.2.1.K (X8.o.tr X9),Q8.o.1.K X9,⟨_,_,_,_,_,_,_,Q8.o.2.2.K X9,Q8.o.2.1.K X9⟩,?_,by omega,by omega,h1⟩;rw[jzlx,GK.o.2];exact QB.made _ _)
    clear X9 hmk X8 Q8 i0 i1 i2;generalize w8.alloc (.cells (madeCells #[.bool false,zN,zN] (N*3)) 40)=w9 at*;generalize w8.heap.size=gn at*;go_wp2
    go_loopg [10,11,12] (2*t.links.length) (fun q it _ _ wx=>∃a:Nat,2*t.links.length-a=q/\a<=2*t.links.length/\it=vI (a:Int)/\Hid (CwI w2 wx t AO co AL cl gt gS gl gn #[vI kd,vI nm,.s A m c,vI s,.s P np cp] sh lo (ntL t sh a)))
    case atStart=>exact⟨0,rfl,yZ _,rfl,I0⟩
    obtain⟨a,rfl,ha,rfl,I⟩:=hrel;clear I0;by_cases haL:a<2*t.links.length
    ·have aL:(a:Int)<2*(t.links.length:Int):=by omega
     have a0':(0:Int)<=(a:Int):=(by omega);obtain⟨qa,hqa⟩:∃q,sh[a]?=some q:=⟨_,yG (by rw[FS.o.1];exact haL)⟩;have HQ:=Hx hqa;have HQA:Hid (shA sh a=qa):=Hx (by unfold shA;rw[hqa];rfl);obtain⟨h0q,_,_⟩:=jzcd FS.o.2.1 a;rw[HQA.o]at h0q;obtain⟨n4,A4,l4,c4,A4',l4',c4',⟨y0,y1,y2⟩,_,hr4⟩:=I.o.qs.at_ hqa;have R4:=Hx hr4;have Y4:=Hx (kQa y0 (kQa y1 y2));have SZ4:=Hx (show SzQ qa 440 from jzce (by decide) ((FS.o.2.1 qa (yJ hqa)).sz hh256 (by
      show((hh:Int):Rat)<=((512:Int):Rat);exact kQt.2 (by omega))))
     obtain⟨⟨i0,i1,i2⟩,_⟩:=I.o.tb.t3;have j0:wr.cell? (aD (gt+1) 0)=some (vI kd):=I.o.qb.cell 0;have j1:wr.cell? (aD (gt+1) 1)=some (vI nm):=I.o.qb.cell 1;have XW2:=Hx (E2.o.2.2.tr I.o.ex);clear hr4 hqa
     go_upto_region 13 with fail
     go_cut [85] (fun v wx=>v=.bool false/\Hid (Ext wr wx))
     case first=>
      go_wp2_with fail
      refine(OFC.o a haL _ XW2.o).mono ?_;rintro e w10 ⟨rfl,x10⟩;have X10:=Hx x10;clear i0 i1 i2 j0 j1 y0 y1 y2 x10;obtain⟨y0,y1,y2⟩:=(show _/\_/\_ from⟨aH X10.o (Y4.o.1),aH X10.o (Y4.o.2.1),aH X10.o (Y4.o.2.2)⟩);cases hof:ofB t kd nm a with
      |true=>
       have hz:=FS.o.2.2.1 a hof;rw[HQA.o]at hz;have s0:aQ qa=0:=(by rw[hz];rfl);clear hof hz
       go_wp2_with fail
       refine(eC n4 A4 l4 c4 A4' l4' c4' qa _ (R4.o.K X10.o)).mono ?_;rintro e w11 ⟨rfl,x11⟩;rw[s0];have X11:=Hx (X10.o.tr x11);clear y0 y1 y2 x11;obtain⟨y0,y1,y2⟩:=(show _/\_/\_ from⟨aH X11.o (Y4.o.1),aH X11.o (Y4.o.2.1),aH X11.o (Y4.o.2.2)⟩)
       go_wp2_with fail
       refine(eC n4 A4 l4 c4 A4' l4' c4' qa _ (R4.o.K X11.o)).mono ?_;rintro e w12 ⟨rfl,x12⟩;rw[s0];have X12:=Hx (X11.o.tr x12);clear y0 y1 y2 x12;go_wp2;go_meet;exact⟨rfl,X12⟩
      |false=>
       clear hof
       go_wp2_with fail
       refine(eC n4 A4 l4 c4 A4' l4' c4' qa _ (R4.o.K X10.o)).mono ?_;rintro e w11 ⟨rfl,x11⟩;have X11:=Hx (X10.o.tr x11);clear y0 y1 y2 x11;rcases jzl1 h0q with s0|s0
       ·rw[s0]
        go_wp2;go_meet;exact⟨rfl,X11⟩
       rw[s0];go_wp2;go_meet;exact⟨rfl,X11⟩
     obtain⟨rfl,E3⟩:=hcut;have IC:=Hx (I.o.K E3.o);have XWC:=Hx (E2.o.2.2.tr IC.o.ex);have TLA:=Hx (TLC.o a haL);have HDA:=Hx (HDC.o a haL);obtain⟨_,_,htN,hhN,hth⟩:=CAST.o a haL;have hN18:2*t.links.length<=18:=(by omega);have NT:=Hx (show(ntL t sh a)[tlN t a]?=some (ntT t sh (tlN t a) a)/\(∀x,((ntL t sh a).set (tlN t a) x)[hdN t a]?=some (ntT t sh (hdN t a) a))/\SzQ (ntT t sh (tlN t a) a) 440/\SzQ (ntT t sh (hdN t a) a) 440/\((ntL t sh a).set (tlN t a) (ntT t sh (tlN t a) a+qa)).set (hdN t a) (ntT t sh (hdN t a) a-qa)=ntL t sh (a+1)from
      ⟨kV (by rw[GK.o.2];exact htN),fun x=>by rw[vN hth];exact kV (by rw[GK.o.2];exact hhN),tW hh256 FS.o.2.1 (by omega) _,tW hh256 FS.o.2.1 (by omega) _,by
       have h:=jzly (t:=t) (sh:=sh) (m:=a) (by rw[GK.o.2];exact htN) (by rw[GK.o.2];exact hhN) hth;rw[HQA.o]at h;exact h⟩)
     clear I E3 i0 i1 i2 j0 j1 y0 y1 y2 h0q;obtain⟨qt,hqt⟩:∃x,x=ntT t sh (tlN t a) a:=⟨_,rfl⟩;obtain⟨qh,hqh⟩:∃x,x=ntT t sh (hdN t a) a:=⟨_,rfl⟩;rw[<-hqt, <-hqh]at NT;clear hqt hqh hth;generalize tlN t a=tl at*;generalize hdN t a=hd at*;have tlI:(tl:Int)<(N:Int):=(by omega);have hdI:(hd:Int)<(N:Int):=(by omega);obtain⟨⟨k0,k1,k2⟩,_⟩:=IC.o.tb.t3;have lw:=IC.o.tb.lt;have q0:=XW.cell _ _ _ lw k0;have q1:=XW.cell _ _ _ lw k1;have q2:=XW.cell _ _ _ lw k2;clear k0 k1 k2
     go_upto_region 15 with fail
     refine bH (by kernel_rfl) (by kernel_rfl) ?_
     repeat (go_big_quiet_step ((first|(go_at_call 26;exact Calls.ext_of (TLA.o _ (XWC.o.tr (XW.ext _))))|(go_at_call 27;exact Calls.ext_of (HDA.o _ (XWC.o.tr (XW.ext _)))))))
     refine wpQuiet_nil ?_;rintro _ ⟨xx,rfl⟩;have I5:=Hx (IC.o.K xx.ext);clear q0 q1 q2 lw IC;generalize xx.val=w15 at*;clear xx;obtain⟨n5,A5,l5,c5,A5',l5',c5',⟨z0,z1,z2⟩,_,hr5⟩:=I5.o.ns.at_ NT.o.1;obtain⟨n6,A6,l6,c6,A6',l6',c6',⟨y0,y1,y2⟩,_,hr6⟩:=I5.o.qs.at_ HQ.o;have LE:=Hx (pF NT.o.2.2.1 hr5 SZ4.o hr6);have R5:=Hx (kQa hr5 hr6);clear hr5 hr6;have KEEP:Hid (∀W,Ext w15 W->W.cell? (aD gn (tl*3))=some (.bool n5)/\W.cell? (aD gn (tl*3+1))=some (.s A5 l5 c5)/\W.cell? (aD gn (tl*3+2))=some (.s A5' l5' c5')/\W.cell? (aD gS (a*3))=some (.bool n6)/\W.cell? (aD gS (a*3+1))=some (.s A6 l6 c6)/\W.cell? (aD gS (a*3+2))=some (.s A6' l6' c6')):=Hx (fun W hx=>⟨aH hx z0,aH hx z1,aH hx z2,aH hx y0,aH hx y1,aH hx y2⟩);have XD:Hid (Ext w15 w15.drew):=Hx ((eR w15).drewN 1);have HSW:=Hx (KEEP.o _ XD.o);clear z0 z1 z2 y0 y1 y2
     go_upto_region 16 with fail
     refine wX KEEP 12 ?_;generalize w15.drew=wd at*;refine wP 0 rfl HSW.o ?_;try simp only[Act.put,yA,yB,yC,yD,yE,yF]
     refine wP 1 rfl HSW.o ?_;try simp only[Act.put,yA,yB,yC,yD,yE,yF]
     refine wP 2 rfl HSW.o ?_;try simp only[Act.put,yA,yB,yC,yD,yE,yF]
     refine wP 3 rfl HSW.o ?_;try simp only[Act.put,yA,yB,yC,yD,yE,yF]
     refine wP 4 rfl HSW.o ?_;try simp only[Act.put,yA,yB,yC,yD,yE,yF]
     refine wP 6 rfl HSW.o ?_;try simp only[Act.put,yA,yB,yC,yD,yE,yF]
     refine wP 7 rfl HSW.o ?_;try simp only[Act.put,yA,yB,yC,yD,yE,yF]
     refine wP 8 rfl HSW.o ?_;try simp only[Act.put,yA,yB,yC,yD,yE,yF]
     refine wV 5 rfl HSW.o ?_;try simp only[Act.put,yA,yB,yC,yD,yE,yF]
     refine wV 9 rfl HSW.o ?_;try simp only[Act.put,yA,yB,yC,yD,yE,yF]
     refine wC 10 rfl (fun KK hK=>?_);go_simp;refine(lH n5 n6 A5 l5 c5 A5' l5' c5' A6 l6 c6 A6' l6' c6' qt qa _ (R5.o.1.K XD.o) (R5.o.2.K XD.o) LE.o.1 LE.o.2.1 LE.o.2.2.1 LE.o.2.2.2 (iY (kQx (kQ7 _) (kQ7 _)))).mono ?_;rintro e w16 ⟨n7,A7,l7,c7,A7',l7',c7',rfl,h7,x7⟩;have X7:=Hx (XD.o.tr x7);have H7:=Hx h7;refine hK.o _ _ (KEEP.o _ X7.o) ?_;clear hK KK HSW x7 h7 XD;have HSW:=Hx (KEEP.o _ X7.o);try simp only[Act.put,yD,yE,yF]
     refine wP 11 rfl HSW.o ?_;try simp only[Act.put,yA,yB,yC,yD,yE,yF]
     have J7:=Hx (I5.o.K X7.o);obtain⟨cb,hb⟩:=J7.o.ns.blk;obtain⟨v0,v1,v2⟩:=kQa (hb.frozen (tl*3)) (kQa (hb.frozen (tl*3+1)) (hb.frozen (tl*3+2)));obtain⟨y0,y1,y2,_,_,_⟩:=HSW.o;clear hb;refine aV (by kernel_rfl) rfl (by rfl) (fun KK hK=>?_);go_simp;refine hK.o _ _ ?_;clear hK KK;try simp only[Act.put,yD,yE,yF]
     refine wpAny_done (by kernel_rfl) ?_ _;have I6:Hid (CwI w2 (((w16.setCell (aD gn (tl*3)) (.bool n7)).setCell (aD gn (tl*3+1)) (.s A7 l7 c7)).setCell (aD gn (tl*3+2)) (.s A7' l7' c7')) t AO co AL cl gt gS gl gn #[vI kd,vI nm,.s A m c,vI s,.s P np cp] sh lo ((ntL t sh a).set tl (qt+qa))):=Hx (J7.o.put (by rw[gP,GK.o.2];exact htN) H7.o);clear J7 y0 y1 y2 v0 v1 v2 HSW KEEP H7 X7 LE I5;generalize (((w16.setCell (aD gn (tl*3)) (.bool n7)).setCell (aD gn (tl*3+1)) (.s A7 l7 c7)).setCell (aD gn (tl*3+2)) (.s A7' l7' c7'))=w17 at*;clear R5;obtain⟨n8,A8,l8,c8,A8',l8',c8',⟨z0,z1,z2⟩,_,hr8⟩:=I6.o.ns.at_ (NT.o.2.1 (qt+qa));obtain⟨n9,A9,l9,c9,A9',l9',c9',⟨y0,y1,y2⟩,_,hr9⟩:=I6.o.qs.at_ HQ.o;have LE:=Hx (pF NT.o.2.2.2.1 hr8 SZ4.o hr9);have R8:=Hx (kQa hr8 hr9);clear hr8 hr9;have KEEP:Hid (∀W,Ext w17 W->W.cell? (aD gn (hd*3))=some (.bool n8)/\W.cell? (aD gn (hd*3+1))=some (.s A8 l8 c8)/\W.cell? (aD gn (hd*3+2))=some (.s A8' l8' c8')/\W.cell? (aD gS (a*3))=some (.bool n9)/\W.cell? (aD gS (a*3+1))=some (.s A9 l9 c9)/\W.cell? (aD gS (a*3+2))=some (.s A9' l9' c9')):=Hx (fun W hx=>⟨aH hx z0,aH hx z1,aH hx z2,aH hx y0,aH hx y1,aH hx y2⟩);have XD:Hid (Ext w17 w17.drew):=Hx ((eR w17).drewN 1);have HSW:=Hx (KEEP.o _ XD.o);clear z0 z1 z2 y0 y1 y2
     go_upto_region 17 with fail
     refine wX KEEP 12 ?_;generalize w17.drew=wd at*;refine wP 0 rfl HSW.o ?_;try simp only[Act.put,yA,yB,yC,yD,yE,yF]
     refine wP 1 rfl HSW.o ?_;try simp only[Act.put,yA,yB,yC,yD,yE,yF]
     refine wP 2 rfl HSW.o ?_;try simp only[Act.put,yA,yB,yC,yD,yE,yF]
     refine wP 3 rfl HSW.o ?_;try simp only[Act.put,yA,yB,yC,yD,yE,yF]
     refine wP 4 rfl HSW.o ?_;try simp only[Act.put,yA,yB,yC,yD,yE,yF]
     refine wP 6 rfl HSW.o ?_;try simp only[Act.put,yA,yB,yC,yD,yE,yF]
     refine wP 7 rfl HSW.o ?_;try simp only[Act.put,yA,yB,yC,yD,yE,yF]
     refine wP 8 rfl HSW.o ?_;try simp only[Act.put,yA,yB,yC,yD,yE,yF]
     refine wV 5 rfl HSW.o ?_;try simp only[Act.put,yA,yB,yC,yD,yE,yF]
     refine wV 9 rfl HSW.o ?_;try simp only[Act.put,yA,yB,yC,yD,yE,yF]
     refine wC 10 rfl (fun KK hK=>?_);go_simp;refine(rL n8 n9 A8 l8 c8 A8' l8' c8' A9 l9 c9 A9' l9' c9' qh qa _ (R8.o.1.K XD.o) (R8.o.2.K XD.o) LE.o.1 LE.o.2.1 LE.o.2.2.1 LE.o.2.2.2).mono ?_;rintro e w18 ⟨n10,A10,l10,c10,A10',l10',c10',rfl,h10,x7⟩;have X7:=Hx (XD.o.tr x7);have H7:=Hx h10;refine hK.o _ _ (KEEP.o _ X7.o) ?_;clear hK KK HSW x7 h10 XD;have HSW:=Hx (KEEP.o _ X7.o);try simp only[Act.put,yD,yE,yF]
     refine wP 11 rfl HSW.o ?_;try simp only[Act.put,yA,yB,yC,yD,yE,yF]
     have J7:=Hx (I6.o.K X7.o);obtain⟨cb,hb⟩:=J7.o.ns.blk;obtain⟨v0,v1,v2⟩:=kQa (hb.frozen (hd*3)) (kQa (hb.frozen (hd*3+1)) (hb.frozen (hd*3+2)));obtain⟨y0,y1,y2,_,_,_⟩:=HSW.o;clear hb;refine aV (by kernel_rfl) rfl (by rfl) (fun KK hK=>?_);go_simp;refine hK.o _ _ ?_;clear hK KK;try simp only[Act.put,yD,yE,yF]
     refine wpAny_done (by kernel_rfl) ?_ _;have I7:Hid (CwI w2 (((w18.setCell (aD gn (hd*3)) (.bool n10)).setCell (aD gn (hd*3+1)) (.s A10 l10 c10)).setCell (aD gn (hd*3+2)) (.s A10' l10' c10')) t AO co AL cl gt gS gl gn #[vI kd,vI nm,.s A m c,vI s,.s P np cp] sh lo (((ntL t sh a).set tl (qt+qa)).set hd (qh-qa))):=Hx (J7.o.put (by rw[yV,gP,GK.o.2];exact hhN) H7.o);clear J7 y0 y1 y2 v0 v1 v2 HSW KEEP H7 X7 LE I6;generalize (((w18.setCell (aD gn (hd*3)) (.bool n10)).setCell (aD gn (hd*3+1)) (.s A10 l10 c10)).setCell (aD gn (hd*3+2)) (.s A10' l10' c10'))=w19 at*;have I8:Hid (CwI w2 w19 t AO co AL cl gt gS gl gn #[vI kd,vI nm,.s A m c,vI s,.s P np cp] sh lo (ntL t sh (a+1))):=Hx (by rw[<-NT.o.2.2.2.2];exact I7.o);clear I7 R8 NT;go_wp2
     go_roundg (2*t.links.length-(a+1))
     case measure=>omega
     exact⟨a+1,rfl,haL,by go_num,I8⟩
    obtain rfl:a=2*t.links.length:=(by omega);have hlt:¬((2*t.links.length:Nat):Int)<((2*t.links.length:Nat):Int):=Int.lt_irrefl _;have hlt2:¬(2*(t.links.length:Int))<(2*(t.links.length:Int)):=Int.lt_irrefl _;have X18:=Hx (E2.o.2.2.tr I.o.ex);have TLA:=Hx (TLC.o a0 LG.o.1);have HDA:=Hx (HDC.o al LG.o.2);obtain⟨_,_,hsN,_,_⟩:=CAST.o a0 LG.o.1;obtain⟨_,_,_,hdN2,_⟩:=CAST.o al LG.o.2;have FS2:=FS.o;have n0I:(0:Int)<(n:Int):=(by omega);have k3:=aH I.o.ex RC.o.2.1;have hbw:bR<wr.heap.size:=yL RC.o.1 I.o.ex.size;obtain⟨⟨k0,k1,k2⟩,_⟩:=I.o.tb.t3;have lw:=I.o.tb.lt;have q0:=XW.cell _ _ _ lw k0;have q1:=XW.cell _ _ _ lw k1;have q2:=XW.cell _ _ _ lw k2;have q3:=XW.cell _ _ _ hbw k3;clear k0 k1 k2 k3;generalize tlN t a0=sc at*;generalize hdN t al=dst at*;have GF:=Hx FS2;clear FS2
    go_upto_region 18 with fail
    refine bH (by kernel_rfl) (by kernel_rfl) ?_
    repeat (go_big_quiet_step ((go_at_call 26;exact Calls.ext_of (TLA.o _ (X18.o.tr (XW.ext _))))))
    refine wpQuiet_nil ?_;rintro _ ⟨xx,rfl⟩;have I18:=Hx (I.o.K xx.ext);clear q0 q1 q2 q3 lw hbw I X18;generalize xx.val=w18 at*;clear xx;have j0:w18.cell? (aD (gt+1) 0)=some (vI kd):=I18.o.qb.cell 0;have j1:w18.cell? (aD (gt+1) 1)=some (vI nm):=I18.o.qb.cell 1;by_cases hsrc:kd=2/\nm=(sc:Int)
    ·have hlo:=GF.o.2.2.2.2.1 hsrc
     obtain⟨n5,A5,l5,c5,A5',l5',c5',hb5,hr5⟩:=id I18.o.lb;have z1:(kd==2)=true:=beq_iff_eq.2 hsrc.1;have z2:(nm==(sc:Int))=true:=beq_iff_eq.2 hsrc.2;have HL:Hid (dP lo 1=0):=Hx (by rw[hlo];exact jzl3 1);have LE:=Hx (hr5.lens GF.o.2.2.2.1);have R5:=Hx hr5;have B5:=Hx hb5;have KEEP:Hid (∀W,Ext w18 W->W.cell? (aD gl 0)=some (.bool n5)/\W.cell? (aD gl 1)=some (.s A5 l5 c5)/\W.cell? (aD gl 2)=some (.s A5' l5' c5')):=Hx (fun W hx=>(B5.o.K hx).t3.1);have XD:Hid (Ext w18 w18.drew):=Hx ((eR w18).drewN 1);have HSW:=Hx (KEEP.o _ XD.o);have F:=Hx (E2.o.2.2.tr I18.o.ex);clear hsrc hlo hr5 hb5
     go_upto_region 20 with fail
     clear j0 j1;refine wX KEEP 4 ?_;generalize w18.drew=wd at*;refine wV 0 rfl HSW.o ?_;try simp only[Act.put,yA,yB,yC,yD,yE,yF]
     refine wC 1 rfl (fun KK hK=>?_);go_simp;refine(ONE.o _).mono ?_;rintro e w19 ⟨n6,A6,l6,c6,A6',l6',c6',rfl,h6,x7⟩;have Xw19:=Hx (XD.o.tr x7);have H6:=Hx h6;refine hK.o _ _ (KEEP.o _ Xw19.o) ?_;clear hK KK HSW x7 h6;have HSW:=Hx (KEEP.o _ Xw19.o);try simp only[Act.put,yD,yE,yF]
     refine wC 2 rfl (fun KK hK=>?_);go_simp;have L6:=H6.o.lens (k:=440) (by unfold SzQ;decide+kernel);refine(pT n5 n6 A5 l5 c5 A5' l5' c5' A6 l6 c6 A6' l6' c6' lo 1 _ (R5.o.K Xw19.o) H6.o (by have:=LE.o.1;omega) (by have:=LE.o.2;omega) (by have:=L6.1;omega) (by have:=L6.2;omega)).mono ?_;rintro e w20 ⟨rfl,x7⟩;rw[HL.o];have X20:=Hx (Xw19.o.tr x7);refine hK.o _ _ (KEEP.o _ X20.o) ?_;clear hK KK HSW x7 L6;have HSW:=Hx (KEEP.o _ X20.o);try simp only[Act.put,yD,yE,yF]
     refine wP 3 rfl HSW.o ?_;try simp only[Act.put,yA,yB,yC,yD,yE,yF]
     refine aV (by kernel_rfl) rfl (by rfl) (fun KK hK=>?_);go_simp;refine hK.o _ _ ?_;clear hK KK;try simp only[Act.put,yD,yE,yF]
     refine wpAny_done (by kernel_rfl) ?_ _;have F2:=Hx (F.o.tr X20.o);clear KEEP HSW;go_wp2;go_ret;exact⟨rfl,F2.o⟩
    have RIF:=Hx (GF.o.2.2.2.2.2 hsrc);have CL:=Hx (jzcc RIF.o GK.o.1 (by rw[GK.o.2];exact hsN) (by rw[GK.o.2];exact hdN2));have KS:=Hx (jzl0 RIF.o hh256 GK.o.1 (by rw[GK.o.2];exact hsN) (by rw[GK.o.2];exact hdN2));have NT:Hid ((ntL t sh (2*t.links.length))[sc]?=some (ntT t sh sc (2*t.links.length))/\SzQ (ntT t sh sc (2*t.links.length)) 440):=Hx (⟨kV (by rw[GK.o.2];exact hsN),tW hh256 GF.o.2.1 (by omega) _⟩);have NS:Hid ((ntL t sh (2*t.links.length)).set sc (ntT t sh sc (2*t.links.length)-1)=ntS t sh sc):=Hx (rfl)
    go_upto_region 19 with fail
    go_cut [131] (fun v wx=>v=.bool false/\wx=w18)
    case first=>
     by_cases hk:kd=2
     ·have z1:(kd==2)=true:=beq_iff_eq.2 hk
      have z2:(nm==(sc:Int))=false:=yK.2 fun h=>hsrc ⟨hk,h⟩;clear hk hsrc;go_wp2;go_meet;exact⟨rfl,rfl⟩
     have z1:(kd==2)=false:=yK.2 hk;clear hk hsrc;go_wp2;go_meet;exact⟨rfl,rfl⟩
    obtain⟨rfl,hwc⟩:=hcut;subst hwc;clear j0 j1 hsrc;generalize wc=w20 at*;obtain⟨n5,A5,l5,c5,A5',l5',c5',⟨z0,z1,z2⟩,_,hr5⟩:=I18.o.ns.at_ NT.o.1;have LE:=Hx (hr5.lens NT.o.2);have R5:=Hx hr5;have scI:(sc:Int)<(N:Int):=(by omega);have KEEP:Hid (∀W,Ext w20 W->W.cell? (aD gn (sc*3))=some (.bool n5)/\W.cell? (aD gn (sc*3+1))=some (.s A5 l5 c5)/\W.cell? (aD gn (sc*3+2))=some (.s A5' l5' c5')):=Hx (fun W hx=>⟨aH hx z0,aH hx z1,aH hx z2⟩);have XD:Hid (Ext w20 w20.drew):=Hx ((eR w20).drewN 1);have HSW:=Hx (KEEP.o _ XD.o);clear z0 z1 z2 hr5
    go_upto_region 21 with fail
    refine wX KEEP 9 ?_;generalize w20.drew=wd at*;refine wP 0 rfl HSW.o ?_;try simp only[Act.put,yA,yB,yC,yD,yE,yF]
    refine wP 1 rfl HSW.o ?_;try simp only[Act.put,yA,yB,yC,yD,yE,yF]
    refine wP 2 rfl HSW.o ?_;try simp only[Act.put,yA,yB,yC,yD,yE,yF]
    refine wP 3 rfl HSW.o ?_;try simp only[Act.put,yA,yB,yC,yD,yE,yF]
    refine wP 4 rfl HSW.o ?_;try simp only[Act.put,yA,yB,yC,yD,yE,yF]
    refine wV 5 rfl HSW.o ?_;try simp only[Act.put,yA,yB,yC,yD,yE,yF]
    refine wC 6 rfl (fun KK hK=>?_);go_simp;refine(ONE.o _).mono ?_;rintro e w19 ⟨n6,A6,l6,c6,A6',l6',c6',rfl,h6,x7⟩;have Xw19:=Hx (XD.o.tr x7);have H6:=Hx h6;refine hK.o _ _ (KEEP.o _ Xw19.o) ?_;clear hK KK HSW x7 h6;have HSW:=Hx (KEEP.o _ Xw19.o);try simp only[Act.put,yD,yE,yF]
    refine wC 7 rfl (fun KK hK=>?_);go_simp;have L6:=H6.o.lens (k:=440) (by unfold SzQ;decide+kernel);refine(rL n5 n6 A5 l5 c5 A5' l5' c5' A6 l6 c6 A6' l6' c6' (ntT t sh sc (2*t.links.length)) 1 _ (R5.o.K Xw19.o) H6.o (by have:=LE.o.1;omega) (by have:=LE.o.2;omega) (by have:=L6.1;omega) (by have:=L6.2;omega)).mono ?_;rintro e w21 ⟨n7,A7,l7,c7,A7',l7',c7',rfl,h7,x7⟩;have X7:=Hx (Xw19.o.tr x7);have H7:=Hx h7;refine hK.o _ _ (KEEP.o _ X7.o) ?_;clear hK KK HSW x7 h7 L6 H6 XD;have HSW:=Hx (KEEP.o _ X7.o);try simp only[Act.put,yD,yE,yF]
    refine wP 8 rfl HSW.o ?_;try simp only[Act.put,yA,yB,yC,yD,yE,yF]
    have J7:=Hx (I18.o.K X7.o);obtain⟨cb,hb⟩:=J7.o.ns.blk;obtain⟨v0,v1,v2⟩:=kQa (hb.frozen (sc*3)) (kQa (hb.frozen (sc*3+1)) (hb.frozen (sc*3+2)));obtain⟨y0,y1,y2⟩:=HSW.o;clear hb;refine aV (by kernel_rfl) rfl (by rfl) (fun KK hK=>?_);go_simp;refine hK.o _ _ ?_;clear hK KK;try simp only[Act.put,yD,yE,yF]
    refine wpAny_done (by kernel_rfl) ?_ _;have I21:Hid (CwI w2 (((w21.setCell (aD gn (sc*3)) (.bool n7)).setCell (aD gn (sc*3+1)) (.s A7 l7 c7)).setCell (aD gn (sc*3+2)) (.s A7' l7' c7')) t AO co AL cl gt gS gl gn #[vI kd,vI nm,.s A m c,vI s,.s P np cp] sh lo (ntS t sh sc)):=Hx (J7.o.put (by rw[gP,GK.o.2];exact hsN) H7.o);clear J7 y0 y1 y2 v0 v1 v2 HSW KEEP H7 X7 LE I18 R5 NT NS;generalize (((w21.setCell (aD gn (sc*3)) (.bool n7)).setCell (aD gn (sc*3+1)) (.s A7 l7 c7)).setCell (aD gn (sc*3+2)) (.s A7' l7' c7'))=w22 at*
    go_upto_region 23 with fail
    have X22:Ext w22 (w22.alloc (.cells #[.bool false,zN,zN] 40)):=(eR w22).alloc _;have J0:=Hx (show CwI w2 (w22.alloc (.cells #[.bool false,zN,zN] 40)) t AO co AL cl gt gS gl gn #[vI kd,vI nm,.s A m c,vI s,.s P np cp] sh lo (ntS t sh sc)/\LoB (w22.alloc (.cells #[.bool false,zN,zN] 40)) w22.heap.size (suN (fun n=>kN t sc n sh) dst 0)from
     ⟨I21.o.K X22,⟨false,none,0,0,none,0,0,eN w22 _ _,rJ _⟩⟩)
    have GM:=Hx (show w22.heap.size≠gS/\w22.heap.size≠gl/\w22.heap.size≠gn/\w2.heap.size<=w22.heap.size from by
     have h1:=I21.o.qs.lt;have h2:=I21.o.lb.lt;have h3:=I21.o.ns.lt;have h4:=I21.o.ex.size;exact⟨by omega,by omega,by omega,h4⟩)
    clear X22 I21;generalize (w22.alloc (.cells #[.bool false,zN,zN] 40))=w23 at*;generalize w22.heap.size=gm at*;go_wp2
    go_loopg [15] N (fun q it wx=>∃k:Nat,N-k=q/\k<=N/\it=vI (k:Int)/\Hid (CwI w2 wx t AO co AL cl gt gS gl gn #[vI kd,vI nm,.s A m c,vI s,.s P np cp] sh lo (ntS t sh sc)/\LoB wx gm (suN (fun n=>kN t sc n sh) dst k)))
    case atStart=>exact⟨0,rfl,yZ _,rfl,J0⟩
    obtain⟨k,rfl,hk,rfl,I⟩:=hrel;clear J0;obtain⟨⟨i0,i1,i2⟩,_⟩:=I.o.1.tb.t3;rw[HNN.o]at i0;have XI:=Hx (E2.o.2.2.tr I.o.1.ex);by_cases hkN:k<N
    ·have kNI:(k:Int)<(N:Int):=by omega
     have k0':(0:Int)<=(k:Int):=(by omega);have NK:Hid ((ntS t sh sc)[k]?=some (-Fo.kN t sc k sh)):=Hx (jzlz (by rw[GK.o.2];exact hkN));have KZ:=Hx (KS.o.1 k (by rw[GK.o.2];exact hkN));have SU:=Hx (KS.o.2 k (by rw[GK.o.2];omega));obtain⟨n6,A6,l6,c6,A6',l6',c6',⟨z0,z1,z2⟩,_,hr6⟩:=I.o.1.ns.at_ NK.o;have R6:=Hx (kQa hr6 (kQa z0 (kQa z1 z2)));clear hr6
     go_upto_region 26 with fail
     go_cut [157] (fun v wx=>v=.bool false/\Hid (Ext wr wx))
     case first=>
      go_wp2_with fail
      refine(eC n6 A6 l6 c6 A6' l6' c6' (-Fo.kN t sc k sh) _ R6.o.1).mono ?_;rintro e w24 ⟨rfl,x7⟩;have X7:=Hx x7;clear x7 i0 i1 i2 z0 z1 z2;rcases jzl2 (CL.o.1 k)with s0|s0
      ·rw[s0]
       go_wp2;go_meet;exact⟨rfl,X7⟩
      rw[s0];go_wp2;go_meet;exact⟨rfl,X7⟩
     obtain⟨rfl,E3⟩:=hcut;clear i0 i1 i2 z0 z1 z2
     go_upto_region 28 with fail
     go_cut [167] (fun v wx=>v=.bool (!decide (k=dst))/\Hid (Ext wr wx))
     case first=>
      have mt:((n:Int)-1).toNat=n-1:=(by omega);have mw:IntKind.i64.wrap ((n:Int)-1)=(n:Int)-1:=IntWalk.i64_in _ (by omega);have m1:(1:Int)<=(n:Int):=(by omega);have mlt:(n:Int)-1<(n:Int):=(by omega);have k3:=aH (I.o.1.ex.tr E3.o) RC.o.2.2;have hbw:bR<wc.heap.size:=yL RC.o.1 (I.o.1.ex.tr E3.o).size;obtain⟨⟨k0,k1,k2⟩,_⟩:=(I.o.1.tb.K E3.o).t3;have lw:=(I.o.1.tb.K E3.o).lt;have q0:=XW.cell _ _ _ lw k0;have q1:=XW.cell _ _ _ lw k1;have q2:=XW.cell _ _ _ lw k2;have q3:=XW.cell _ _ _ hbw k3;clear k0 k1 k2 k3;by_cases e:k=dst
      ·have z1:((k:Int)==(dst:Int))=true:=by rw[e];simp
       have z3:(k==dst)=true:=(by rw[e];simp);have z4:(k !=dst)=false:=(by rw[e];simp);have z5:((k:Int) !=(dst:Int))=false:=(by rw[e];simp);have DE:=Hx (yO e);clear e;refine bH (by kernel_rfl) (by kernel_rfl) ?_
       repeat (go_big_quiet_step ((go_at_call 27;exact Calls.ext_of (HDA.o _ (XI.o.tr (E3.o.tr (XW.ext _)))))))
       refine wpQuiet_nil ?_;rintro _ ⟨xx,rfl⟩;go_wp2;go_meet;exact⟨by rw[DE.o];rfl,Hx (E3.o.tr xx.ext)⟩
      have z2:¬((k:Int)=(dst:Int)):=(by omega);have z1:((k:Int)==(dst:Int))=false:=yK.2 z2;have z3:(k==dst)=false:=yK.2 e;have z4:(k !=dst)=true:=bne_iff_ne.2 e;have z5:((k:Int) !=(dst:Int))=true:=bne_iff_ne.2 z2;have DE:=Hx (yP e);refine bH (by kernel_rfl) (by kernel_rfl) ?_
      repeat (go_big_quiet_step ((go_at_call 27;exact Calls.ext_of (HDA.o _ (XI.o.tr (E3.o.tr (XW.ext _)))))))
      refine wpQuiet_nil ?_;rintro _ ⟨xx,rfl⟩;go_wp2;go_meet;exact⟨by rw[DE.o];rfl,Hx (E3.o.tr xx.ext)⟩
     obtain⟨rfl,E4⟩:=hcut;have I4:=Hx (kQa (I.o.1.K E4.o) (I.o.2.K E4.o));by_cases e:k=dst
     ·have J4:=Hx (show CwI w2 wc t AO co AL cl gt gS gl gn #[vI kd,vI nm,.s A m c,vI s,.s P np cp] sh lo (ntS t sh sc)/\LoB wc gm (suN (fun n=>kN t sc n sh) dst (k+1))from⟨I4.o.1,by
       rw[jzl4 e];exact I4.o.2⟩)
      rw[yO e];clear I I4 e;go_wp2
      go_roundg (N-(k+1))
      case measure=>omega
      exact⟨k+1,rfl,hkN,by go_num,J4⟩
     have SN:Hid (suN (fun n=>kN t sc n sh) dst (k+1)=suN (fun n=>kN t sc n sh) dst k-(-Fo.kN t sc k sh)):=Hx (jzl5 e);rw[yP e];obtain⟨n5,A5,l5,c5,A5',l5',c5',hb5,hr5⟩:=id I4.o.2;have LE:=Hx (pF SU.o hr5 KZ.o (R6.o.1.K E4.o));have R5:=Hx hr5;have B5:=Hx hb5;have KEEP:=Hx (show∀W,Ext wc W->W.cell? (aD gm 0)=some (.bool n5)/\W.cell? (aD gm 1)=some (.s A5 l5 c5)/\W.cell? (aD gm 2)=some (.s A5' l5' c5')/\W.cell? (aD gn (k*3))=some (.bool n6)/\W.cell? (aD gn (k*3+1))=some (.s A6 l6 c6)/\W.cell? (aD gn (k*3+2))=some (.s A6' l6' c6')from fun W hx=>by
      obtain⟨⟨a0,a1,a2⟩,_⟩:=(B5.o.K hx).t3;exact⟨a0,a1,a2,aH (E4.o.tr hx) R6.o.2.1,aH (E4.o.tr hx) R6.o.2.2.1,aH (E4.o.tr hx) R6.o.2.2.2⟩)
     have XD:Hid (Ext wc wc.drew):=Hx ((eR wc).drewN 1);have HSW:=Hx (KEEP.o _ XD.o);clear hb5 hr5 e I
     go_upto_region 29 with fail
     refine wX KEEP 6 ?_;generalize wc.drew=wd at*;refine wV 0 rfl HSW.o ?_;try simp only[Act.put,yA,yB,yC,yD,yE,yF]
     refine wP 1 rfl HSW.o ?_;try simp only[Act.put,yA,yB,yC,yD,yE,yF]
     refine wP 2 rfl HSW.o ?_;try simp only[Act.put,yA,yB,yC,yD,yE,yF]
     refine wP 3 rfl HSW.o ?_;try simp only[Act.put,yA,yB,yC,yD,yE,yF]
     refine wV 4 rfl HSW.o ?_;try simp only[Act.put,yA,yB,yC,yD,yE,yF]
     refine wC 5 rfl (fun KK hK=>?_);go_simp;refine(rL n5 n6 A5 l5 c5 A5' l5' c5' A6 l6 c6 A6' l6' c6' (suN (fun n=>kN t sc n sh) dst k) (-Fo.kN t sc k sh) _ (R5.o.K XD.o) (R6.o.1.K (E4.o.tr XD.o)) LE.o.1 LE.o.2.1 LE.o.2.2.1 LE.o.2.2.2).mono ?_;rintro e w25 ⟨n7,A7,l7,c7,A7',l7',c7',rfl,h7,x7⟩;have X7:=Hx (XD.o.tr x7);have H7:=Hx h7;refine hK.o _ _ (KEEP.o _ X7.o) ?_;clear hK KK HSW x7 h7 XD;have HSW:=Hx (KEEP.o _ X7.o);try simp only[Act.put,yD,yE,yF]
     have B7:=Hx (B5.o.K X7.o);obtain⟨v0,v1,v2⟩:=B7.o.t3.2;obtain⟨y0,y1,y2,_,_,_⟩:=HSW.o;refine aV (by kernel_rfl) rfl (by rfl) (fun KK hK=>?_);go_simp;refine hK.o _ _ ?_;clear hK KK;try simp only[Act.put,yD,yE,yF]
     refine wpAny_done (by kernel_rfl) ?_ _;have J4:=Hx (show CwI w2 (((w25.setCell (aD gm 0) (.bool n7)).setCell (aD gm 1) (.s A7 l7 c7)).setCell (aD gm 2) (.s A7' l7' c7')) t AO co AL cl gt gS gl gn #[vI kd,vI nm,.s A m c,vI s,.s P np cp] sh lo (ntS t sh sc)/\LoB (((w25.setCell (aD gm 0) (.bool n7)).setCell (aD gm 1) (.s A7 l7 c7)).setCell (aD gm 2) (.s A7' l7' c7')) gm (suN (fun n=>kN t sc n sh) dst (k+1))from by
      obtain⟨s1,s2⟩:=eD (.bool n7) (.s A7 l7 c7) (.s A7' l7' c7') B7.o;refine⟨(I4.o.1.K X7.o).box B7.o GM.o s2,⟨n7,A7,l7,c7,A7',l7',c7',s1,?_⟩⟩;rw[SN.o];exact s2.ratR (NoT.one B7.o (by decide)) H7.o)
     clear I4 B7 B5 y0 y1 y2 v0 v1 v2 HSW KEEP H7 X7 LE R5 R6 SN SU KZ NK;generalize (((w25.setCell (aD gm 0) (.bool n7)).setCell (aD gm 1) (.s A7 l7 c7)).setCell (aD gm 2) (.s A7' l7' c7'))=w26 at*;go_wp2
     go_roundg (N-(k+1))
     case measure=>omega
     exact⟨k+1,rfl,hkN,by go_num,J4⟩
    obtain rfl:k=N:=(by omega);have hlt:¬((k:Int)<(k:Int)):=Int.lt_irrefl _;obtain⟨n5,A5,l5,c5,A5',l5',c5',hb5,hr5⟩:=id I.o.2;obtain⟨n6,A6,l6,c6,A6',l6',c6',hb6,hr6⟩:=id I.o.1.lb;have c1':=CL.o.2.1;rw[GK.o.2]at c1';have z1:decide (dP (suN (fun n=>kN t sc n sh) dst k) lo<=0)=true:=jzcg c1';have z2:decide (dP lo 1<=0)=true:=jzcg CL.o.2.2;have LE:=Hx (pF (KS.o.2 k (by rw[GK.o.2];exact yX _)) hr5 GF.o.2.2.2.1 hr6);have R5:=Hx (kQa hr5 hr6);have B5:=Hx (kQa hb5 hb6);have KEEP:=Hx (show∀W,Ext wr W->W.cell? (aD gm 0)=some (.bool n5)/\W.cell? (aD gm 1)=some (.s A5 l5 c5)/\W.cell? (aD gm 2)=some (.s A5' l5' c5')/\W.cell? (aD gl 0)=some (.bool n6)/\W.cell? (aD gl 1)=some (.s A6 l6 c6)/\W.cell? (aD gl 2)=some (.s A6' l6' c6')from fun W hx=>by
     obtain⟨⟨a0,a1,a2⟩,_⟩:=(B5.o.1.K hx).t3;obtain⟨⟨b0,b1,b2⟩,_⟩:=(B5.o.2.K hx).t3;exact⟨a0,a1,a2,b0,b1,b2⟩)
    have XD:Hid (Ext wr wr.drew):=Hx ((eR wr).drewN 1);have HSW:=Hx (KEEP.o _ XD.o);clear hb5 hr5 hb6 hr6 c1'
    go_upto_region 30 with fail
    clear i0 i1 i2;refine wX KEEP 10 ?_;generalize wr.drew=wd at*;refine wV 0 rfl HSW.o ?_;try simp only[Act.put,yA,yB,yC,yD,yE,yF]
    refine wV 1 rfl HSW.o ?_;try simp only[Act.put,yA,yB,yC,yD,yE,yF]
    refine wC 2 rfl (fun KK hK=>?_);go_simp;refine(pT n5 n6 A5 l5 c5 A5' l5' c5' A6 l6 c6 A6' l6' c6' (suN (fun n=>kN t sc n sh) dst k) lo _ (R5.o.1.K XD.o) (R5.o.2.K XD.o) (by have:=LE.o.1;omega) (by have:=LE.o.2.1;omega) (by have:=LE.o.2.2.1;omega) (by have:=LE.o.2.2.2;omega)).mono ?_;rintro e w24 ⟨rfl,x7⟩;have X24:=Hx (XD.o.tr x7);refine hK.o _ _ (KEEP.o _ X24.o) ?_;clear hK KK HSW x7;have HSW:=Hx (KEEP.o _ X24.o);try simp only[Act.put,yD,yE,yF]
    refine wP 3 rfl HSW.o ?_;try simp only[Act.put,yA,yB,yC,yD,yE,yF]
    refine wP 4 rfl HSW.o ?_;try simp only[Act.put,yA,yB,yC,yD,yE,yF]
    refine wV 5 rfl HSW.o ?_;try simp only[Act.put,yA,yB,yC,yD,yE,yF]
    refine wC 6 rfl (fun KK hK=>?_);go_simp;refine(ONE.o _).mono ?_;rintro e w25 ⟨n7,A7,l7,c7,A7',l7',c7',rfl,h7,x7⟩;have Xw25:=Hx (X24.o.tr x7);have H7:=Hx h7;refine hK.o _ _ (KEEP.o _ Xw25.o) ?_;clear hK KK HSW x7 h7;have HSW:=Hx (KEEP.o _ Xw25.o);try simp only[Act.put,yD,yE,yF]
    refine wC 7 rfl (fun KK hK=>?_);go_simp;have L7:=H7.o.lens (k:=440) (by unfold SzQ;decide+kernel);refine(pT n6 n7 A6 l6 c6 A6' l6' c6' A7 l7 c7 A7' l7' c7' lo 1 _ (R5.o.2.K Xw25.o) H7.o (by have:=LE.o.2.2.1;omega) (by have:=LE.o.2.2.2;omega) (by have:=L7.1;omega) (by have:=L7.2;omega)).mono ?_;rintro e w26 ⟨rfl,x7⟩;have X26:=Hx (Xw25.o.tr x7);refine hK.o _ _ (KEEP.o _ X26.o) ?_;clear hK KK HSW x7 L7;have HSW:=Hx (KEEP.o _ X26.o);try simp only[Act.put,yD,yE,yF]
    refine wP 8 rfl HSW.o ?_;try simp only[Act.put,yA,yB,yC,yD,yE,yF]
    refine wP 9 rfl HSW.o ?_;try simp only[Act.put,yA,yB,yC,yD,yE,yF]
    refine aV (by kernel_rfl) rfl (by rfl) (fun KK hK=>?_);go_simp;refine hK.o _ _ ?_;clear hK KK;try simp only[Act.put,yD,yE,yF]
    refine wpAny_done (by kernel_rfl) ?_ _;have F2:=Hx (XI.o.tr X26.o);clear KEEP HSW I;go_wp2;go_ret;exact⟨rfl,F2.o⟩
end Fo
end Go.Proofs.YtllmekijiohgmaaGreatDoor
namespace Go.Proofs.YtllmekijiohgmaaGreatDoor
open Go.RowKit Go.WideShapes
namespace Fo
theorem jzm1(l:List Int):aR l=l.flatMap fun x:Int=>[Value.int .i64 x]:=by
 (induction l with|nil=>rfl|cons a l ih=>rw[xU, <-ih];rfl)
theorem jzm2(l:LN):(l.map fun b:Nat=>Value.int .u8 (b:Int))=l.flatMap fun x:Nat=>[Value.int .u8 (x:Int)]:=by
 (induction l with|nil=>rfl|cons a l ih=>rw[xU, <-ih];rfl)
theorem jzm3{α:Type}{l:List α}(h:l.length=5):∃a b c d e,l=[a,b,c,d,e]:=by
 match l,h with
 | [a,b,c,d,e],_=>exact⟨a,b,c,d,e,rfl⟩
section
variable {H:Type} {enc:TypeId×Value->H} {w:World} {base:Nat} {spare:Nat->Bool} {held:Bool}
theorem jzm4{n:Nat}{cs:List Value}{y:DataW H×List MemPlace}(h:DataW.trod enc Tryz.prog w base spare held n 29 cs=some y):
  ∃(A:OA) (l:LN) (c:Nat),cs=[.s A l.length c]/\(∀x∈l,x<256)/\Rd w A (l.map fun b:Nat=>Value.int .u8 (b:Int)):=by
 obtain⟨A,l,c,e,_,_,wf,rd⟩:=nQ (fun x:Nat=>[Value.int .u8 (x:Int)]) (fun x=>x<256) 1 (by decide) (fun _=>rfl) Tryz.underlying29 (by kernel_rfl) (fun n cs y hy=>by obtain⟨x,e,_,hw⟩:=DataW.trod_int Tryz.underlying5 hy;simp[Lit.wf,IntKind.min,IntKind.max,IntKind.signed,IntKind.bits]at hw;refine⟨x.toNat,?_,by omega⟩;rw[e,show((x.toNat:Nat):Int)=x by omega]) h;refine⟨A,l,c,e,wf,?_⟩;rw[jzm2];exact rd
theorem jzm5{n:Nat}{cs:List Value}{y:DataW H×List MemPlace}(h:DataW.trod enc Tryz.prog w base spare held n 28 cs=some y):
  ∃(A:OA) (l:List Int) (c:Nat),cs=[.s A l.length c]/\l.length<=c/\Rd w A (aR l):=by
 obtain⟨A,l,c,e,h1,_,_,rd⟩:=nQ (fun x:Int=>[Value.int .i64 x]) (fun _=>True) 1 (by decide) (fun _=>rfl) Tryz.underlying28 (by kernel_rfl) (fun n cs y hy=>by obtain⟨x,e,_,_⟩:=DataW.trod_int Tryz.underlying3 hy;exact⟨x,e,trivial⟩) h;refine⟨A,l,c,e,h1,?_⟩;rw[jzm1];exact rd
theorem jzm6{n:Nat}{cs:List Value}{y:DataW H×List MemPlace}(h:DataW.trod enc Tryz.prog w base spare held n 27 cs=some y):∃kd nm:Int,cs=[vI kd,vI nm]:=by
 obtain⟨zs,m2,_,_,hz,qa,qe⟩:=DataW.trod_struct Tryz.underlying27 h;have c2:Tryz.prog.cellsOf 27=2:=(by kernel_rfl);rw[c2]at hz;obtain⟨a0,a1,rfl⟩:=jzgq hz;have qa:zs.length=2:=qa;have k0:DataW.trod enc Tryz.prog w base spare held m2 3 (List.take (Tryz.prog.cellsOf 3) (List.drop 0 [a0,a1]))=zs[0]?:=qe 0 _ rfl;have k1:DataW.trod enc Tryz.prog w base spare held m2 3 (List.take (Tryz.prog.cellsOf 3) (List.drop 1 [a0,a1]))=zs[1]?:=qe 1 _ rfl;obtain⟨z0,d0⟩:=eJ 0 qa (by omega);obtain⟨z1,d1⟩:=eJ 1 qa (by omega);rw[Tryz.cells_int]at k0 k1;obtain⟨kd,rfl,_⟩:=fG d0 k0;obtain⟨nm,rfl,_⟩:=fG d1 k1;exact⟨kd,nm,rfl⟩
theorem jzm7{n:Nat}{cs:List Value}{y:DataW H×List MemPlace}(h:DataW.trod enc Tryz.prog w base spare held n 31 cs=some y):
  ∃(kd nm:Int) (A:OA) (l:List Int) (c:Nat) (s:Int) (P:OA) (pk:LN) (cp:Nat),cs=[vI kd,vI nm,.s A l.length c,vI s,.s P pk.length cp]/\l.length<=c/\Rd w A (aR l)/\(∀x∈pk,x<256)/\Rd w P (pk.map fun b:Nat=>Value.int .u8 (b:Int)):=by
 obtain⟨xs,m,_,_,hl,qa,hf⟩:=DataW.trod_struct Tryz.underlying31 h;have c5:Tryz.prog.cellsOf 31=5:=(by kernel_rfl);have c2:Tryz.prog.cellsOf 27=2:=(by kernel_rfl);have c1:=Tryz.cells_int;have ca:Tryz.prog.cellsOf 28=1:=(by kernel_rfl);have cb:Tryz.prog.cellsOf 29=1:=(by kernel_rfl);rw[c5]at hl;obtain⟨a0,a1,a2,a3,a4,rfl⟩:=jzm3 hl;have qa:xs.length=4:=qa;have h0:DataW.trod enc Tryz.prog w base spare held m 27 (List.take (Tryz.prog.cellsOf 27) (List.drop 0 [a0,a1,a2,a3,a4]))=xs[0]?:=hf 0 _ rfl;have h1:DataW.trod enc Tryz.prog w base spare held m 28 (List.take (Tryz.prog.cellsOf 28) (List.drop 2 [a0,a1,a2,a3,a4]))=xs[1]?:=hf 1 _ rfl;have h2:DataW.trod enc Tryz.prog w base spare held m 3 (List.take (Tryz.prog.cellsOf 3) (List.drop 3 [a0,a1,a2,a3,a4]))=xs[2]?:=hf 2 _ rfl;have h3:DataW.trod enc Tryz.prog w base spare held m 29 (List.take (Tryz.prog.cellsOf 29) (List.drop 4 [a0,a1,a2,a3,a4]))=xs[3]?:=hf 3 _ rfl;clear hf;obtain⟨y0,e0⟩:=eJ 0 qa (by omega);obtain⟨y1,e1⟩:=eJ 1 qa (by omega);obtain⟨y2,e2⟩:=eJ 2 qa (by omega);obtain⟨y3,e3⟩:=eJ 3 qa (by omega);rw[c2,e0]at h0;rw[ca,e1]at h1;rw[c1]at h2;rw[cb,e3]at h3;obtain⟨s,rfl,_⟩:=fG e2 h2;obtain⟨A,l,c,f1,g1,g2⟩:=jzm5 h1;obtain⟨P,pk,cp,f3,g3,g4⟩:=jzm4 h3;obtain⟨kd,nm,f0⟩:=jzm6 h0;obtain⟨rfl,rfl⟩:a0=vI kd/\a1=vI nm:=(by (have f0: [a0,a1]=[vI kd,vI nm]:=f0;injection f0 with e e2);(injection e2 with e2);exact⟨e,e2⟩);have f1:a2=.s A l.length c:=List.head_eq_of_cons_eq f1;have f3:a4=.s P pk.length cp:=List.head_eq_of_cons_eq f3;rw[f1,f3];exact⟨kd,nm,A,l,c,s,P,pk,cp,rfl,g1,g2,g3,g4⟩
theorem open_qry{v:Value}{d:DataW H}{p:List MemPlace}{r:Reach}{b0:Nat}(hv:Value.okWide Tryz.prog w r b0 31 v)(h:DataW.Trod enc Tryz.prog w base spare held 31 v d p):
  ∃(kd nm:Int) (A:OA) (l:List Int) (c:Nat) (s:Int) (P:OA) (pk:LN) (cp:Nat),v=.agg #[vI kd,vI nm,.s A l.length c,vI s,.s P pk.length cp]/\l.length<=c/\Rd w A (aR l)/\(∀x∈pk,x<256)/\Rd w P (pk.map fun b:Nat=>Value.int .u8 (b:Int)):=by
 obtain⟨cs,rfl,_⟩:=okWide_struct Tryz.underlying31 hv;obtain⟨qa,hf⟩:=h;obtain⟨kd,nm,A,l,c,s,P,pk,cp,e,g⟩:=jzm7 hf;have e:cs.toList=_:=e;obtain rfl:cs=#[vI kd,vI nm,.s A l.length c,vI s,.s P pk.length cp]:=Array.ext' e;exact⟨kd,nm,A,l,c,s,P,pk,cp,rfl,g⟩
end
end Fo
end Go.Proofs.YtllmekijiohgmaaGreatDoor
