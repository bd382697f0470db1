/- Part 11 of 24 of what the Flows claims share (the white space is struck, the texts are joined). -/
import Derived.Test.YthbmikapohlikaaGreatDoorZ10
set_option linter.unusedVariables false
set_option linter.unusedSimpArgs false
set_option maxRecDepth 100000
set_option maxHeartbeats 8000000
namespace Go.Proofs.YthbmikapohlikaaGreatDoor
open Go.RowKit
theorem OQ.pushed{W w':World}{B:Nat}{v v':Value}{qs:List Rat}{css:List (List Value)}(h1:css.length=qs.length)(h2:∀cs∈css,cs.length=3)(hown:W.ownsRow B 35 3 v qs.length css.flatten)
  (h4:∀(i:Nat) (q:Rat),qs[i]?=some q->∃cs,css[i]?=some cs/\QR W cs q) {neg:Bool} {A:Option Addr} {n c:Nat} {A':Option Addr} {n' c':Nat} {q:Rat} (hq:RatR W neg A n c A' n' c' q)
  (own':w'.ownsRow B 35 3 v' (qs.length+1) (css.flatten++[.bool neg,.slice A n c,.slice A' n' c'])) (grow:W.grownBy w' v.ownBlock):OQ QR 35 w' B v' (qs++[q]):=by
 have k:FrS (fun b=>v.ownBlock=some b) W w':=FrS.of_grown grow fun g e=>e;have hn:NoT (fun b=>v.ownBlock=some b) W 167:=fun _ hb=>jz3 hown hb (by decide);refine⟨css++[[.bool neg,.slice A n c,.slice A' n' c']],by simp [h1],fun cs hc=>?_,by rw [List.flatten_append,yQ];simpa using own',fun i p hi=>?_⟩
 ·rcases xY.1 hc with hc|hc
  ·exact h2 cs hc
  ·rw [xD.1 hc];rfl
 ·by_cases e:i<qs.length
  ·rw [yR e]at hi
   obtain⟨cs,k1,k2⟩:=h4 i p hi;exact⟨cs,by rw [yR (by omega)];exact k1,k.qr hn k2⟩
  ·have hl:=(yH.1 hi).1
   rw [yQ]at hl;have hl:i<qs.length+1:=hl;have e2:i=qs.length:=(by omega);subst e2;rw [yS (by omega),Nat.sub_self]at hi;injection hi with hi
   subst hi;exact⟨_,by rw [yS (by omega),h1,Nat.sub_self];rfl,neg,A,n,c,A',n',c',rfl,k.ratR hn hq⟩
def addS(T:Sx.Tb)(vals X:List Rat)(base:Rat)(js:List Nat)(n:Nat):Rat:=Sx.addC T vals X base (js.take n)
theorem jzhi(T:Sx.Tb)(vals X:List Rat)(base:Rat)(js:List Nat){n j:Nat}(h:js[n]?=some j):addS T vals X base js (n+1)=addS T vals X base js n+Sx.at_ X j*Sx.at_ vals (Sx.atN T.fre j):=by
 unfold addS;rw [List.take_add_one,h];exact Sx.addC_snoc T vals X base (js.take n) j
theorem jzkn{T:Sx.Tb}{vals X:List Rat}{base:Rat}{js:List Nat}{P:Nat}(hX:∀q∈X,SzQ q P)(hv:∀q∈vals,SzQ q P)(hb:SzQ base P)(h0:∀j∈js,j<X.length/\Sx.atN T.fre j<vals.length):∀n,n<=js.length->SzQ (addS T vals X base js n) (P+n*(2*P+1))
 |0,_=>by
  have:addS T vals X base js 0=base:=rfl;rw [this];exact hb.mono (by omega)
 |n+1,hn=>by
  have hj:js[n]?=some js[n]:=yG (by omega);rw [jzhi T vals X base js hj];obtain⟨k1,k2⟩:=h0 js[n] (xR (by omega));have h1:=(hX _ (yJ (jzv k1))).mul (hv _ (yJ (jzv k2)));have h2:=(jzkn hX hv hb h0 n (by omega)).add h1;refine h2.mono ?_;have e:(n+1)*(2*P+1)=n*(2*P+1)+(2*P+1):=Nat.succ_mul _ _;rw [e];generalize n*(2*P+1)=y at*;omega
theorem jzko{w:World}{A:Option Addr}{l:List Nat}(h:Rd w A (ints l)){k x:Nat}(hx:l[k]?=some x):∃b o:Nat,A=some ⟨b,o,none⟩/\b<w.heap.size/\w.cell? ⟨b,o+k,none⟩=some (.int .i64 (x:Int)):=by
 have hk:=(yH.1 hx).1;obtain⟨b,o,e,qa,hc⟩:=h (by
  intro e;have h1:=jzx l;rw [e]at h1;have h1:0=l.length:=h1;omega)
 refine⟨b,o,e,qa,?_⟩;rw [hc k (by rw [jzx];omega)];unfold ints;rw [yW,hx];rfl
def Add1Post(w:World)(B b o:Nat)(tr:TypeId)(cs:Array Value)(V:Value)(X:List Rat)(s:Rat)(e:Ending)(w':World):Prop:=
 ∃g' c',e=.returned (.tuple #[])/\OQ QR 35 w' B (.slice (some ⟨g',0,none⟩) (X.length+1) c') (X++[s])/\Blk w' b tr (cs.setIfInBounds o (.slice (some ⟨g',0,none⟩) (X.length+1) c'))/\
  FrS (fun x=>x=b\/V.ownBlock=some x) w w'/\(some g'=V.ownBlock\/w.heap.size<=g')
theorem add1_ok(T:Sx.Tb)(w:World)(B b o p gvb gl gsb gtb P m csl:Nat)(SA:Option Addr)(tr:TypeId)(cs:Array Value)(V:Value)(X qe:List Rat)(js:List Nat)(basic:Int)(base:Rat)
  (hB:B<=w.heap.size) (hb:Blk w b tr cs) (q0:cs[o]?=some V) (hX:OQ QR 35 w B V X) (htr:tr≠35) (htr2:tr≠167)
  (qP:Blk w gvb 37 #[.slice (some ⟨gl,0,none⟩) m m]) (qn:QB w gl qe) (hvl:qe.length=m)
  (qW:Blk w gsb 44 #[.slice SA js.length csl]) (qV:Rd w SA (ints js)) (qY:Blk w gtb 96 #[.pointer (some ⟨p,0,none⟩)])
  (qT:∀j∈js,∃gf K cf,w.cell? ⟨p,2,none⟩=some (.slice (some ⟨gf,0,none⟩) K cf)/\j<K/\w.cell? ⟨gf,j,none⟩=some (.int .i64 (Sx.atN T.fre j:Nat)))
  (qD:∀j∈js,j<X.length/\Sx.atN T.fre j<m) (hbase:(∃i:Nat,basic=(i:Int)/\i<m/\base=Sx.at_ qe i)\/(¬(0<=basic/\basic<(m:Int))/\base=0))
  (hm:m<=1000000) (qR:∀q∈X,SzQ q P) (qE:∀q∈qe,SzQ q P) (hP:P<=10000) (hP1:1<=P) (hjl:js.length<=1000) (hXl:X.length<=1000000000000):
  Calls Tryz.prog 131 #[.pointer (some ⟨b,o,none⟩),.int .i64 basic,.pointer (some ⟨gvb,0,none⟩),.pointer (some ⟨gsb,0,none⟩),.pointer (some ⟨gtb,0,none⟩)] w (Add1Post w B b o tr cs V X (Sx.addC T qe X base js)):=by
 have HB:=Hx (And.intro hb (And.intro q0 (And.intro hX (And.intro qP (And.intro qn (And.intro qW (And.intro qV qY)))))));have HJ:=Hx (And.intro qT qD);have SZ:=Hx (show∀n,n<=js.length->SzQ (addS T qe X base js n) 30000000 from fun n hn=>by
  have q5:SzQ base P:=by
   rcases hbase with⟨i,_,h2,h3⟩|⟨_,h3⟩
   ·rw [h3];exact qE _ (yJ (jzv (by omega)))
   ·rw [h3];exact(show SzQ 0 1 from⟨by decide,by decide⟩).mono hP1
  refine(jzkn qR qE q5 (fun j hj=>⟨(qD j hj).1,by rw [hvl];exact(qD j hj).2⟩) n hn).mono ?_;have:n*(2*P+1)<=1000*20001:=Nat.mul_le_mul (by omega) (by omega);omega)
 have HS:=Hx (And.intro qR qE);have qC:=Hx hvl;have i1:w.cell? ⟨gvb,0,none⟩=some (.slice (some ⟨gl,0,none⟩) m m):=qP.cell 0;have B0:=Hx (Blk.new w 35 #[.bool false,.slice none 0 0,.slice none 0 0]);have X0:=Hx ((Ext.refl w).alloc (.cells #[.bool false,.slice none 0 0,.slice none 0 0] 35));have i1:=cellK X0.out i1;clear hb q0 hX qP qn qW qV qY qT qD qR qE hvl
 go_enter Tryz.func131,Tryz.ntmps131
 by_cases qN:0<=basic
 case' pos=>have qH:decide ((0:Int)<=basic)=true:=yO qN
 case' neg=>have qH:decide ((0:Int)<=basic)=false:=yP qN
 all_goals
  go_upto_if 17 with fail
  go_cut [] (fun wx=>∃ns S1 ls qh qg qf qa,Hid (Blk wx w.heap.size 35 #[.bool ns,.slice S1 ls qh,.slice qg qf qa]/\RatR wx ns S1 ls qh qg qf qa base/\Ext w wx))
  case first=>
   rcases hbase with⟨i,rfl,him,hbe⟩|⟨hn,hbe⟩
   ·skip
    have h1:decide ((i:Int)<(m:Int))=true:=yO (by omega);have iN:(i:Int)<(m:Int):=(by omega);have i0:(0:Int)<=(i:Int):=by omega
    first
    |(exfalso;omega)
    |(obtain⟨ny,Y1,my,fy,q3,q1,vg,⟨s0,s1,s2⟩,_,hy⟩:=HB.out.2.2.2.2.1.at_ (jzv (show i<qe.length by rw [qC.out];exact him))
      obtain⟨⟨p0,p1,p2⟩,f0,f1,f2⟩:=B0.out.three;obtain⟨b2,e2⟩:=boxes1 w #[.bool ny,.slice Y1 my fy,.slice q3 q1 vg] 35;have RF:=Hx (And.intro b2 (And.intro (hy.keep e2) e2));have q7:=Hx hbe;have s0:=cellK X0.out s0;have s1:=cellK X0.out s1;have s2:=cellK X0.out s2;clear hy b2 e2 hbe;go_wp2;go_meet;exact⟨_,_,_,_,_,_,_,Hx ⟨RF.out.1,by rw [q7.out];exact RF.out.2.1,RF.out.2.2⟩⟩)
   ·have qB:=Hx (show RatR (w.alloc (.cells #[.bool false,.slice none 0 0,.slice none 0 0] 35)) false none 0 0 none 0 0 base from by rw [hbe];exact jz6 _)
    clear hbe
    first
    |(have hq:0<=basic:=qN
      have h1:decide (basic<(m:Int))=false:=yP (fun h=>hn ⟨hq,h⟩);go_wp2;go_meet;exact⟨_,_,_,_,_,_,_,Hx ⟨B0.out,qB.out,X0.out⟩⟩)
    |(go_wp2
      go_meet;exact⟨_,_,_,_,_,_,_,Hx ⟨B0.out,qB.out,X0.out⟩⟩)
  case rest=>
   obtain⟨vk,S0,vh,vl,vi,ve,q2,I0⟩:=hcut;clear i1 B0 X0 hbase;generalize hgs:w.heap.size=gsum at*;have j0:wc.cell? ⟨gsb,0,none⟩=some (.slice SA js.length csl):=(HB.out.2.2.2.2.2.1.keep I0.out.2.2).cell 0;go_wp2
   go_loopg [9,24] js.length (fun q _ it wx=>∃(n:Nat) (ns:Bool) (S1:Option Addr) (ls qh:Nat) (qg:Option Addr) (qf qa:Nat),js.length-n=q/\n<=js.length/\it=.int .i64 (n:Int)/\Hid (Blk wx gsum 35 #[.bool ns,.slice S1 ls qh,.slice qg qf qa]/\RatR wx ns S1 ls qh qg qf qa (addS T qe X base js n)/\Ext w wx))
   case atStart=>exact⟨0,_,_,_,_,_,_,_,rfl,yZ _,rfl,I0⟩
   case round=>
    obtain⟨n,ns,S1,ls,qh,qg,qf,qa,rfl,hn,rfl,I⟩:=hrel;clear I0 j0;by_cases qU:n<js.length
    ·have nN:(n:Int)<(js.length:Int):=by omega
     have n0:(0:Int)<=(n:Int):=(by omega);obtain⟨x,hx⟩:∃x,js[n]?=some x:=⟨_,yG qU⟩;have NX:=Hx (jzhi T qe X base js hx);obtain⟨sb,so,rfl,vm,jc⟩:=jzko (HB.out.2.2.2.2.2.2.1.keep I.out.2.2) hx;obtain⟨gf,K,cf,c1,vj,c2⟩:=HJ.out.1 x (yJ hx);obtain⟨qS,qG⟩:=HJ.out.2 x (yJ hx);obtain⟨gx,cx,qX,_,_⟩:=HB.out.2.2.1.form (by omega);have qI:=HB.out.2.2.1;rw [qX]at qI;obtain⟨nf,F1,f1,e1,qQ,qM,qK,⟨a0,a1,a2⟩,_,rf⟩:=qI.cell (jzv qS);obtain⟨nv,V1,v1,d1,qO,qF,qJ,⟨b0,b1,b2⟩,_,rv⟩:=HB.out.2.2.2.2.1.at_ (jzv (show Sx.atN T.fre x<qe.length by rw [qC.out];exact qG));have LE:=Hx (And.intro (I.out.2.1.lens (SZ.out n hn)) (And.intro (rf.lens (HS.out.1 _ (yJ (jzv qS)))) (rv.lens (HS.out.2 _ (yJ (jzv (show Sx.atN T.fre x<qe.length by rw [qC.out];exact qG)))))));generalize Sx.atN T.fre x=f at*;have qj:=Hx (show∀wx,Ext wr wx->wx.cell? ⟨gsum,0,none⟩=some (.bool ns)/\wx.cell? ⟨gsum,1,none⟩=some (.slice S1 ls qh)/\wx.cell? ⟨gsum,2,none⟩=some (.slice qg qf qa)/\wx.cell? ⟨b,o,none⟩=some (.slice (some ⟨gx,0,none⟩) X.length cx)/\wx.cell? ⟨gx,x*3,none⟩=some (.bool nf)/\wx.cell? ⟨gx,x*3+1,none⟩=some (.slice F1 f1 e1)/\wx.cell? ⟨gx,x*3+2,none⟩=some (.slice qQ qM qK)/\wx.cell? ⟨gvb,0,none⟩=some (.slice (some ⟨gl,0,none⟩) m m)/\wx.cell? ⟨gtb,0,none⟩=some (.pointer (some ⟨p,0,none⟩))/\wx.cell? ⟨p,2,none⟩=some (.slice (some ⟨gf,0,none⟩) K cf)/\wx.cell? ⟨gf,x,none⟩=some (.int .i64 (f:Int))/\wx.cell? ⟨gl,f*3,none⟩=some (.bool nv)/\wx.cell? ⟨gl,f*3+1,none⟩=some (.slice V1 v1 d1)/\wx.cell? ⟨gl,f*3+2,none⟩=some (.slice qO qF qJ)from fun wx hx=>
      ⟨(I.out.1.keep hx).cell 0,(I.out.1.keep hx).cell 1,(I.out.1.keep hx).cell 2,cellK (I.out.2.2.tr hx) ((HB.out.1.cell o).trans (by rw [HB.out.2.1,qX])),cellK (I.out.2.2.tr hx) a0,cellK (I.out.2.2.tr hx) a1,cellK (I.out.2.2.tr hx) a2,(HB.out.2.2.2.1.keep (I.out.2.2.tr hx)).cell 0,(HB.out.2.2.2.2.2.2.2.keep (I.out.2.2.tr hx)).cell 0,cellK (I.out.2.2.tr hx) c1,cellK (I.out.2.2.tr hx) c2,cellK (I.out.2.2.tr hx) b0,cellK (I.out.2.2.tr hx) b1,cellK (I.out.2.2.tr hx) b2⟩)
     have XD:=Hx (show Ext wr wr.drew from(Ext.refl wr).drewN 1);have RF:=Hx (And.intro rf rv);have HSW:=Hx (qj.out _ XD.out);have xX:(x:Int)<(X.length:Int):=(by omega);have xK:(x:Int)<(K:Int):=(by omega);have x0:(0:Int)<=(x:Int):=(by omega);have fm:(f:Int)<(m:Int):=(by omega);have f0:(0:Int)<=(f:Int):=(by omega);clear hx c1 c2 a0 a1 a2 b0 b1 b2 rf rv qI
     go_upto_region 6 with fail
     refine jzg (fun w'=>w'.cell? ⟨gsum,0,none⟩=some (.bool ns)/\w'.cell? ⟨gsum,1,none⟩=some (.slice S1 ls qh)/\w'.cell? ⟨gsum,2,none⟩=some (.slice qg qf qa)/\w'.cell? ⟨b,o,none⟩=some (.slice (some ⟨gx,0,none⟩) X.length cx)/\w'.cell? ⟨gx,x*3,none⟩=some (.bool nf)/\w'.cell? ⟨gx,x*3+1,none⟩=some (.slice F1 f1 e1)/\w'.cell? ⟨gx,x*3+2,none⟩=some (.slice qQ qM qK)/\w'.cell? ⟨gvb,0,none⟩=some (.slice (some ⟨gl,0,none⟩) m m)/\w'.cell? ⟨gtb,0,none⟩=some (.pointer (some ⟨p,0,none⟩))/\w'.cell? ⟨p,2,none⟩=some (.slice (some ⟨gf,0,none⟩) K cf)/\w'.cell? ⟨gf,x,none⟩=some (.int .i64 (f:Int))/\w'.cell? ⟨gl,f*3,none⟩=some (.bool nv)/\w'.cell? ⟨gl,f*3+1,none⟩=some (.slice V1 v1 d1)/\w'.cell? ⟨gl,f*3+2,none⟩=some (.slice qO qF qJ)) 20 (by kernel_rfl) ?_;refine wT 0 (v:=?_) rfl ?_ HSW.out ?_;rotate_left
     focus (intro w hSw;obtain⟨s1,s2,s3,s4,s5,s6,s7,s8,s9,qw,qo,qy,qx,qp⟩:=hSw;go_simp;try with_reducible rfl)
     try simp only [Act.put,yD,yE,yF]
     refine wP 1 rfl HSW.out ?_;try simp only [Act.put,yD,yE,yF]
     refine wP 2 rfl HSW.out ?_;try simp only [Act.put,yD,yE,yF]
     refine wP 3 rfl HSW.out ?_;try simp only [Act.put,yD,yE,yF]
     refine wT 4 (v:=?_) rfl ?_ HSW.out ?_;rotate_left
     focus (intro w hSw;obtain⟨s1,s2,s3,s4,s5,s6,s7,s8,s9,qw,qo,qy,qx,qp⟩:=hSw;go_simp;try with_reducible rfl)
     try simp only [Act.put,yD,yE,yF]
     refine wP 5 rfl HSW.out ?_;try simp only [Act.put,yD,yE,yF]
     refine wP 6 rfl HSW.out ?_;try simp only [Act.put,yD,yE,yF]
     refine wT 7 (v:=?_) rfl ?_ HSW.out ?_;rotate_left
     focus (intro w hSw;obtain⟨s1,s2,s3,s4,s5,s6,s7,s8,s9,qw,qo,qy,qx,qp⟩:=hSw;go_simp;try with_reducible rfl)
     try simp only [Act.put,yD,yE,yF]
     refine wT 8 (v:=?_) rfl ?_ HSW.out ?_;rotate_left
     focus (intro w hSw;obtain⟨s1,s2,s3,s4,s5,s6,s7,s8,s9,qw,qo,qy,qx,qp⟩:=hSw;go_simp;try with_reducible rfl)
     try simp only [Act.put,yD,yE,yF]
     refine wT 9 (v:=?_) rfl ?_ HSW.out ?_;rotate_left
     focus (intro w hSw;obtain⟨s1,s2,s3,s4,s5,s6,s7,s8,s9,qw,qo,qy,qx,qp⟩:=hSw;go_simp;try with_reducible rfl)
     try simp only [Act.put,yD,yE,yF]
     refine wP 10 rfl HSW.out ?_;try simp only [Act.put,yD,yE,yF]
     refine wP 11 rfl HSW.out ?_;try simp only [Act.put,yD,yE,yF]
     refine wT 12 (v:=?_) rfl ?_ HSW.out ?_;rotate_left
     focus (intro w hSw;obtain⟨s1,s2,s3,s4,s5,s6,s7,s8,s9,qw,qo,qy,qx,qp⟩:=hSw;go_simp;try with_reducible rfl)
     try simp only [Act.put,yD,yE,yF]
     refine wP 13 rfl HSW.out ?_;try simp only [Act.put,yD,yE,yF]
     refine wP 14 rfl HSW.out ?_;try simp only [Act.put,yD,yE,yF]
     refine wT 15 (v:=?_) rfl ?_ HSW.out ?_;rotate_left
     focus (intro w hSw;obtain⟨s1,s2,s3,s4,s5,s6,s7,s8,s9,qw,qo,qy,qx,qp⟩:=hSw;go_simp;try with_reducible rfl)
     try simp only [Act.put,yD,yE,yF]
     refine wP 16 rfl HSW.out ?_;try simp only [Act.put,yD,yE,yF]
     refine wT 17 (v:=?_) rfl ?_ HSW.out ?_;rotate_left
     focus (intro w hSw;obtain⟨s1,s2,s3,s4,s5,s6,s7,s8,s9,qw,qo,qy,qx,qp⟩:=hSw;go_simp;try with_reducible rfl)
     try simp only [Act.put,yD,yE,yF]
     refine wC 18 rfl (fun KK hK=>?_);go_simp;refine(jz1 nf nv F1 f1 e1 qQ qM qK V1 v1 d1 qO qF qJ (Sx.at_ X x) (Sx.at_ qe f) _ (RF.out.1.keep (I.out.2.2.tr XD.out)) (RF.out.2.keep (I.out.2.2.tr XD.out)) (by have:=LE.out;omega) (by have:=LE.out;omega) (by have:=LE.out;omega) (by have:=LE.out;omega)).mono ?_;rintro e w8 ⟨n8,A8,l8,c8,vc,q6,q8,rfl,h8,x8⟩;have E8:=Hx (XD.out.tr x8);have R8:=Hx h8;have L8:=Hx (h8.lens ((HS.out.1 _ (yJ (jzv qS))).mul (HS.out.2 _ (yJ (jzv (show f<qe.length by rw [qC.out];exact qG))))));refine hK.out _ _ (qj.out _ E8.out) ?_;clear hK KK HSW h8 x8;have HSW:=Hx (qj.out _ E8.out);refine wC 19 rfl (fun KK hK=>?_);go_simp;refine(jz7 ns n8 S1 ls qh qg qf qa A8 l8 c8 vc q6 q8 (addS T qe X base js n) (Sx.at_ X x*Sx.at_ qe f) _ (I.out.2.1.keep E8.out) R8.out (by have:=LE.out;omega) (by have:=LE.out;omega) (by have:=L8.out;omega) (by have:=L8.out;omega) (jzp (Nat.mul_ne_zero (Rat.den_nz _) (Rat.den_nz _)))).mono ?_;rintro e w9 ⟨n9,A9,l9,c9,q4,q9,vd,rfl,h9,x9⟩;have E9:=Hx (E8.out.tr x9);rw [<-NX.out]at h9;have B9:=Hx (I.out.1.keep E9.out);obtain⟨r1,r2⟩:=jzae (w:=w) h9 B9.out (by omega) (I.out.2.2.tr E9.out);have RQ:=Hx (And.intro (((B9.out.set_ 0 (.bool n9)).set_ 1 (.slice A9 l9 c9)).set_ 2 (.slice q4 q9 vd)) (And.intro r1 r2));refine hK.out _ _ (qj.out _ E9.out) ?_;clear hK KK HSW h9 x9 r1 r2;have HSW:=Hx (qj.out _ E9.out);obtain⟨⟨t0,t1,t2⟩,z0,z1,z2⟩:=B9.out.three;refine jzk (by kernel_rfl) rfl (by rfl) (fun KK hK=>?_);go_simp;refine hK.out _ _ ?_;clear hK KK HSW;refine wpAny_done (by kernel_rfl) ?_ _;clear qj t0 t1 t2 z0 z1 z2;go_wp2
     go_roundg (js.length-(n+1))
     case measure=>omega
     case rel=>exact⟨n+1,_,_,_,_,_,_,_,rfl,by omega,by go_num,RQ⟩
    ·obtain rfl:n=js.length:=by omega
     have HE:=Hx (show addS T qe X base js js.length=Sx.addC T qe X base js by unfold addS;rw [yU (yX _)]);rw [HE.out]at I;clear HE hn qU;obtain⟨css,h1,h2,qi,h4⟩:=HB.out.2.2.1.keep QR.keep_ I.out.2.2;have XB:=Hx (show Ext wr (wr.alloc (.cells #[.bool ns,.slice S1 ls qh,.slice qg qf qa] 35)).drew from((Ext.refl wr).alloc _).drewN 1);have qL:wr.drew.cell? ⟨b,o,none⟩=some V:=(cellK I.out.2.2 ((HB.out.1.cell o).trans HB.out.2.1));have HSW:=Hx (show wr.drew.cell? ⟨b,o,none⟩=some V/\wr.drew.cell? ⟨gsum,0,none⟩=some (.bool ns)/\wr.drew.cell? ⟨gsum,1,none⟩=some (.slice S1 ls qh)/\wr.drew.cell? ⟨gsum,2,none⟩=some (.slice qg qf qa)from⟨qL,I.out.1.cell 0,I.out.1.cell 1,I.out.1.cell 2⟩)
     go_upto_region 8 with fail
     refine jzg (fun w'=>w'.cell? ⟨b,o,none⟩=some V/\w'.cell? ⟨gsum,0,none⟩=some (.bool ns)/\w'.cell? ⟨gsum,1,none⟩=some (.slice S1 ls qh)/\w'.cell? ⟨gsum,2,none⟩=some (.slice qg qf qa)) 10 (by kernel_rfl) ?_;refine wP 0 rfl HSW.out ?_;try simp only [Act.put,yD,yE,yF]
     refine wP 1 rfl HSW.out ?_;try simp only [Act.put,yD,yE,yF]
     refine wP 2 rfl HSW.out ?_;try simp only [Act.put,yD,yE,yF]
     refine wP 3 rfl HSW.out ?_;try simp only [Act.put,yD,yE,yF]
     refine wT 4 (v:=?_) rfl ?_ HSW.out ?_;rotate_left
     focus (intro w hSw;obtain⟨s1,s2,s3,s4⟩:=hSw;go_simp;try with_reducible rfl)
     try simp only [Act.put,yD,yE,yF]
     refine wT 5 (v:=?_) rfl ?_ HSW.out ?_;rotate_left
     focus (intro w hSw;obtain⟨s1,s2,s3,s4⟩:=hSw;go_simp;try with_reducible rfl)
     try simp only [Act.put,yD,yE,yF]
     refine wC 6 rfl (fun KK hK=>?_);go_simp;have qz:=Hx (show(wr.alloc (.cells #[.bool ns,.slice S1 ls qh,.slice qg qf qa] 35)).drew.cell? ⟨b,o,none⟩=some V/\(wr.alloc (.cells #[.bool ns,.slice S1 ls qh,.slice qg qf qa] 35)).drew.cell? ⟨gsum,0,none⟩=some (.bool ns)/\(wr.alloc (.cells #[.bool ns,.slice S1 ls qh,.slice qg qf qa] 35)).drew.cell? ⟨gsum,1,none⟩=some (.slice S1 ls qh)/\(wr.alloc (.cells #[.bool ns,.slice S1 ls qh,.slice qg qf qa] 35)).drew.cell? ⟨gsum,2,none⟩=some (.slice qg qf qa)from
      ⟨cellK XB.out qL,(I.out.1.keep XB.out).cell 0,(I.out.1.keep XB.out).cell 1,(I.out.1.keep XB.out).cell 2⟩)
     refine hK.out _ _ qz.out ?_;clear hK KK HSW qL;have HSW:=qz;have BW:=Hx (show Blk (wr.alloc (.cells #[.bool ns,.slice S1 ls qh,.slice qg qf qa] 35)).drew wr.heap.size 35 #[.bool ns,.slice S1 ls qh,.slice qg qf qa]from Blk.new wr _ _);clear qz h1 h2 qi h4 css;generalize (wr.alloc (.cells #[.bool ns,.slice S1 ls qh,.slice qg qf qa] 35)).drew=W6 at*;obtain⟨css,h1,h2,qi,h4⟩:=HB.out.2.2.1.keep QR.keep_ (I.out.2.2.tr XB.out);refine wC 7 rfl (fun KK hK=>?_);refine jzdl W6 37 35 _ 3 56 _ _ rfl Tryz.underlying37 Tryz.info44 rfl (by decide) B V X.length css.flatten (by rfl) qi [.bool ns,.slice S1 ls qh,.slice qg qf qa] rfl (by simp [Value.oneCell']) wr.heap.size (by rfl) BW.out (by unfold maxLen;omega) (by omega) (by have:=(I.out.2.2.tr XB.out).size;omega) ?_;intro g7 c7 w7 qt qk qA;have k7:=Hx (show FrS (fun x=>V.ownBlock=some x) W6 w7 from FrS.of_grown qk fun g e=>e);have NB:=Hx (show¬V.ownBlock=some b from fun e=>jz3 qi e (t:=tr) (fun h=>htr h.symm) _ _ (HB.out.1.keep (I.out.2.2.tr XB.out)));have NS:=Hx (show¬V.ownBlock=some gsum from fun e=>by
      have h9:=(qi.lt gsum e).1;obtain⟨_,va⟩:=HB.out.2.2.1.own;have:=(va.lt gsum e).2;omega)
     have qm:=Hx (show w7.cell? ⟨b,o,none⟩=some V/\w7.cell? ⟨gsum,0,none⟩=some (.bool ns)/\w7.cell? ⟨gsum,1,none⟩=some (.slice S1 ls qh)/\w7.cell? ⟨gsum,2,none⟩=some (.slice qg qf qa)from
      ⟨((k7.out.blk (HB.out.1.keep (I.out.2.2.tr XB.out)) NB.out).cell o).trans HB.out.2.1,(k7.out.blk (I.out.1.keep XB.out) NS.out).cell 0,(k7.out.blk (I.out.1.keep XB.out) NS.out).cell 1,(k7.out.blk (I.out.1.keep XB.out) NS.out).cell 2⟩)
     have qZ:=Hx (OQ.pushed h1 h2 qi h4 (I.out.2.1.keep XB.out) qt qk);have B7:=Hx (k7.out.blk (HB.out.1.keep (I.out.2.2.tr XB.out)) NB.out);have N7:=Hx (show some g7=V.ownBlock\/w.heap.size<=g7 from qA.imp id fun e=>by have:=(I.out.2.2.tr XB.out).size;omega);have F7:=Hx (show FrS (fun x=>V.ownBlock=some x) w w7 from(FrS.of_ext (I.out.2.2.tr XB.out)).tr k7.out fun x hx=>.inl hx);have HG:=Hx (show g7≠b from fun e=>by
      obtain⟨_,h9⟩:=jzl qt (g:=g7) rfl;rw [e]at h9;exact htr (jzq B7.out h9).2)
     refine hK.out _ _ qm.out ?_;clear hK KK HSW qt qk qi h1 h2 h4 qA;have HSW:=qm;try simp only [Act.put,yD,yE,yF]
     have z0:w7.frozen? ⟨b,o,none⟩=false:=B7.out.frozen _;have t0:w7.cell? ⟨b,o,none⟩=some V:=qm.out.1;refine wP 8 rfl HSW.out ?_;try simp only [Act.put,yD,yE,yF]
     refine wP 9 rfl HSW.out ?_;try simp only [Act.put,yD,yE,yF]
     refine jzk (by kernel_rfl) rfl (by rfl) (fun KK hK=>?_);go_simp;refine hK.out _ _ ?_;clear hK KK HSW qm z0 t0;refine wpAny_done (by kernel_rfl) ?_ _;have qB:=Hx (show Add1Post w B b o tr cs V X (Sx.addC T qe X base js) (.returned (.tuple #[])) (w7.setCell ⟨b,o,none⟩ (.slice (some ⟨g7,0,none⟩) (X.length+1) c7))from by
      have F8:FrS (fun x=>x=b) w7 (w7.setCell ⟨b,o,none⟩ (.slice (some ⟨g7,0,none⟩) (X.length+1) c7)):=FrS.of_grown (jze w7 b o _) fun g e=>(by injection e with e;exact e.symm);refine⟨g7,c7,rfl,F8.oq (NoT.one B7.out htr2) qZ.out (fun g e hg=>HG.out (by have e:some g7=some g:=e;injection e with e;exact e.trans hg)),B7.out.set_ o _,(F7.out.mono (S':=fun x=>x=b\/V.ownBlock=some x) fun x hx=>.inr hx).tr F8 fun x hx=>.inl (.inl hx),N7.out⟩)
     clear qZ B7 N7 F7 HG k7 NB NS BW XB I;go_wp2
     go_end0
     exact qB.out
end Go.Proofs.YthbmikapohlikaaGreatDoor
namespace Go.Proofs.YthbmikapohlikaaGreatDoor
namespace Sx
def ls{α:Type}(f:α->Rat):List α->Rat
 | []=>0
 |a::l=>f a+ls f l
section
variable {α:Type}
theorem ls_app(f:α->Rat):∀l k:List α,ls f (l++k)=ls f l+ls f k
 | [],k=>by show ls f k=0+ls f k;grind
 |a::l,k=>by
  show f a+ls f (l++k)=f a+ls f l+ls f k;rw [ls_app f l k];grind
theorem jzap{f g:α->Rat}:∀{l:List α},(∀a∈l,f a=g a)->ls f l=ls g l
 | [],_=>rfl
 |a::l,h=>by
  show f a+ls f l=g a+ls g l;rw [h a (by simp),jzap fun b hb=>h b (by simp [hb])]
theorem ls_zero{f:α->Rat}{l:List α}(h:∀a∈l,f a=0):ls f l=0:=by
 induction l with
 |nil=>rfl
 |cons a l ih=>
  show f a+ls f l=0;rw [h a (by simp),ih fun b hb=>h b (by simp [hb])];grind
theorem ls_le{f g:α->Rat}:∀{l:List α},(∀a∈l,f a<=g a)->ls f l<=ls g l
 | [],_=>vC
 |a::l,h=>by
  show f a+ls f l<=g a+ls g l;have h1:=h a (by simp);have h2:=ls_le (l:=l) fun b hb=>h b (by simp [hb]);grind
theorem ls_nn{f:α->Rat}:∀{l:List α},(∀a∈l,0<=f a)->0<=ls f l
 | [],_=>vC
 |a::l,h=>by
  show 0<=f a+ls f l;have h1:=h a (by simp);have h2:=ls_nn (l:=l) fun b hb=>h b (by simp [hb]);grind
theorem ls_add(f g:α->Rat):∀l:List α,ls (fun a=>f a+g a) l=ls f l+ls g l
 | []=>by show(0:Rat)=0+0;grind
 |a::l=>by
  show f a+g a+ls _ l=f a+ls f l+(g a+ls g l);rw [ls_add f g l];grind
theorem jzgo(c:Rat)(f:α->Rat):∀l:List α,ls (fun a=>c*f a) l=c*ls f l
 | []=>by show(0:Rat)=c*0;grind
 |a::l=>by
  show c*f a+ls _ l=c*(f a+ls f l);rw [jzgo c f l];grind
theorem ls_sm(n:Nat)(f:α->Nat->Rat):∀l:List α,ls (fun a=>sm n (f a)) l=sm n fun k=>ls (fun a=>f a k) l
 | []=>by
   show(0:Rat)=_;exact(sm_zero n fun k _=>rfl).symm
 |a::l=>by
  show sm n (f a)+ls _ l=sm n fun k=>f a k+ls (fun a=>f a k) l;rw [ls_sm n f l,sm_add]
theorem jzkp{β:Type}(f:α->Rat)(g:β->List α):∀l:List β,ls f (l.flatMap g)=ls (fun b=>ls f (g b)) l
 | []=>rfl
 |b::l=>by
  rw [xU,ls_app,jzkp f g l];rfl
theorem jzew(f:Nat->Rat):∀n:Nat,ls f (List.range n)=sm n f
 |0=>rfl
 |n+1=>by
  rw [List.range_succ,ls_app,jzew f n];show sm n f+(f n+0)=sm n f+f n;grind
end
theorem jzhj:∀(n:Nat) (f:Nat->Rat),sm (n+1) f=f 0+sm n fun k=>f (k+1)
 |0,f=>by show 0+f 0=f 0+0;grind
 |n+1,f=>by
  show sm (n+1) f+f (n+1)=f 0+((sm n fun k=>f (k+1))+f (n+1));rw [jzhj n f];grind
def zipF:List (Nat×List Nat)->List Rat->List ((Nat×List Nat)×Rat)
 |p::l,q::k=>(p,q)::zipF l k
 |_,_=>[]
theorem jzkq(F:Nat×List Nat->Rat->Rat)(d0:Nat×List Nat):∀(P:List (Nat×List Nat)) (fl:List Rat),fl.length=P.length->ls (fun z=>F z.1 z.2) (zipF P fl)=sm P.length fun k=>F (P[k]?.getD d0) (at_ fl k)
 | [],[],_=>rfl
 |p::P,q::fl,h=>by
  have h:fl.length+1=P.length+1:=h;show F p q+ls (fun z=>F z.1 z.2) (zipF P fl)=sm (P.length+1) _;rw [jzhj,jzkq F d0 P fl (by omega)];rfl
theorem zipF_keys:∀(P:List (Nat×List Nat)) (fl:List Rat),fl.length=P.length->(zipF P fl).map (·.1)=P
 | [],[],_=>rfl
 |p::P,q::fl,h=>by
  have h:fl.length+1=P.length+1:=h;show p::(zipF P fl).map (·.1)=_;rw [zipF_keys P fl (by omega)]
theorem zipF_mem:∀(P:List (Nat×List Nat)) (fl:List Rat) {z:(Nat×List Nat)×Rat},z∈zipF P fl->z.1∈P/\z.2∈fl
 | [],_,_,h=>by cases h
 |_::_,[],_,h=>by cases h
 |p::P,q::fl,z,h=>by
  have h:z∈(p,q)::zipF P fl:=h;rcases xZ.1 h with e|e
  ·rw [e];exact⟨by simp,by simp⟩
  ·have:=zipF_mem P fl e
   exact⟨by simp [this.1],by simp [this.2]⟩
def cut(d:Nat):Rat->List ((Nat×List Nat)×Rat)->List ((Nat×List Nat)×Rat)
 |_,[]=>[]
 |r,z::l=>if z.1.1=d then(if 0<(if r<z.2 then r else z.2)then [(z.1,if r<z.2 then r else z.2)]else [])++cut d (r-(if r<z.2 then r else z.2)) l else cut d r l
theorem cut_mem{d:Nat}:∀{r:Rat} {l:List ((Nat×List Nat)×Rat)} {z:(Nat×List Nat)×Rat},z∈cut d r l->z.1.1=d/\0<z.2/\∃f,(z.1,f)∈l/\z.2<=f
 |_,[],_,h=>by cases h
 |r,y::l,z,h=>by
  unfold cut at h;by_cases hd:y.1.1=d
  ·rw [if_pos hd]at h
   rcases xY.1 h with h1|h1
   ·by_cases hp:0<(if r<y.2 then r else y.2)
    ·rw [if_pos hp]at h1
     have h1:=xD.1 h1;subst h1;refine⟨hd,hp,y.2,by simp,?_⟩;show(if r<y.2 then r else y.2)<=y.2
     split <;> grind
    ·rw [if_neg hp]at h1
     cases h1
   ·obtain⟨a1,a2,f,a4,a5⟩:=cut_mem h1
    exact⟨a1,a2,f,by simp [a4],a5⟩
  ·rw [if_neg hd]at h
   obtain⟨a1,a2,f,a4,a5⟩:=cut_mem h;exact⟨a1,a2,f,by simp [a4],a5⟩
theorem cut_keys(d:Nat):∀(r:Rat) (l:List ((Nat×List Nat)×Rat)),((cut d r l).map (·.1)).Sublist (l.map (·.1))
 |_,[]=>List.Sublist.slnil
 |r,z::l=>by
  unfold cut;by_cases hd:z.1.1=d
  ·rw [if_pos hd,List.map_append]
   by_cases hp:0<(if r<z.2 then r else z.2)
   ·rw [if_pos hp];exact(cut_keys d _ l).cons_cons _
   ·rw [if_neg hp];exact(cut_keys d _ l).cons _
  ·rw [if_neg hd];exact(cut_keys d _ l).cons _
theorem jzkr(d:Nat):∀(r:Rat) (l:List ((Nat×List Nat)×Rat)),0<=r->(∀z∈l,0<=z.2)->r<=ls (fun z=>if z.1.1=d then z.2 else 0) l->ls (fun z=>z.2) (cut d r l)=r
 |r,[],h0,_,h=>by
  have h:r<=0:=h;show(0:Rat)=r;grind
 |r,z::l,h0,hz,h=>by
  have h:r<=(if z.1.1=d then z.2 else 0)+ls _ l:=h;have qe:=hz z (by simp);unfold cut
  split
  ·rename_i hd
   rw [if_pos hd]at h;rw [ls_app];have hr:0<=r-(if r<z.2 then r else z.2):=(by split <;> grind);have hl:∀z∈l,0<=z.2:=fun y hy=>hz y (by simp [hy]);have qa:0<=ls (fun z:(Nat×List Nat)×Rat=>if z.1.1=d then z.2 else 0) l:=ls_nn fun y hy=>by
    split
    ·exact hl y hy
    ·exact vC
   rw [jzkr d _ l hr hl (by split <;> grind)];by_cases e:r<z.2
   ·rw [if_pos e]
    by_cases e2:0<r
    ·rw [if_pos e2];show r+0+_=_;grind
    ·rw [if_neg e2];show 0+_=_;grind
   ·rw [if_neg e]
    by_cases e2:0<z.2
    ·rw [if_pos e2];show z.2+0+_=_;grind
    ·rw [if_neg e2];show 0+_=_;grind
  ·rename_i hd
   rw [if_neg hd]at h;exact jzkr d r l h0 (fun y hy=>hz y (by simp [hy])) (by grind)
theorem jzks(d a:Nat):∀(r:Rat) (l:List ((Nat×List Nat)×Rat)),(∀z∈l,0<=z.2)->ls (fun z=>if a∈z.1.2 then z.2 else 0) (cut d r l)<=ls (fun z=>if z.1.1=d then(if a∈z.1.2 then z.2 else 0)else 0) l
 |r,[],_=>vC
 |r,z::l,hz=>by
  have qa:=hz z (by simp);have ih:=fun r=>jzks d a r l fun y hy=>hz y (by simp [hy]);show ls _ (cut d r (z::l))<=(if z.1.1=d then(if a∈z.1.2 then z.2 else 0)else 0)+ls _ l;unfold cut;by_cases hd:z.1.1=d
  ·rw [if_pos hd,if_pos hd,ls_app]
   have ih:=ih (r-(if r<z.2 then r else z.2));have:ls (fun z:(Nat×List Nat)×Rat=>if a∈z.1.2 then z.2 else 0) (if 0<(if r<z.2 then r else z.2)then [(z.1,if r<z.2 then r else z.2)]else [])<=if a∈z.1.2 then z.2 else 0:=by
    by_cases e:0<(if r<z.2 then r else z.2)
    ·rw [if_pos e]
     show(if a∈z.1.2 then(if r<z.2 then r else z.2)else 0)+0<=_;by_cases ea:a∈z.1.2
     ·rw [if_pos ea,if_pos ea];split <;> grind
     ·rw [if_neg ea,if_neg ea];grind
    ·rw [if_neg e]
     show(0:Rat)<=_
     split <;> grind
   grind
  ·rw [if_neg hd,if_neg hd]
   have ih:=ih r;grind
structure Adm(L2 D:Nat)(am cap:Nat->Rat)(v:Rat)(Z:List ((Nat×List Nat)×Rat)):Prop where
 dem:∀z∈Z,z.1.1<D
 pos:∀z∈Z,0<z.2
 dif:(Z.map (·.1)).Nodup
 sum:∀d,d<D->ls (fun z=>if z.1.1=d then z.2 else 0) Z=v*am d
 cap:∀a,a<L2->ls (fun z=>if a∈z.1.2 then z.2 else 0) Z<=cap a
theorem Adm.weak{L2 D:Nat}{am cap:Nat->Rat}{v:Rat}{Z:List ((Nat×List Nat)×Rat)}(h:Adm L2 D am cap v Z)(hD:0<D)(ham:∀d,d<D->0<am d){pr ch:Nat->Rat}(hp:∀a,a<L2->0<=pr a)
  (hch:∀z∈Z,ch z.1.1<=sm L2 fun a=>if a∈z.1.2 then pr a else 0) (hn:1<=sm D fun d=>am d*ch d):v<=sm L2 fun a=>pr a*cap a:=by
 have hv:0<=v:=by
  have h1:=h.sum 0 hD;have h2:=ham 0 hD;have h3:0<=ls (fun z:(Nat×List Nat)×Rat=>if z.1.1=0 then z.2 else 0) Z:=ls_nn fun z hz=>by
   split
   ·exact vB (h.pos z hz)
   ·exact vC
  rw [h1]at h3;exact Rat.not_lt.1 fun h4=>by
   have:=Rat.mul_lt_mul_of_pos_right h4 h2;grind
 have e1:v*(sm D fun d=>am d*ch d)=ls (fun z=>z.2*ch z.1.1) Z:=by
  rw [<-jzbj];have:(sm D fun d=>v*(am d*ch d))=sm D fun d=>ls (fun z=>(if z.1.1=d then z.2 else 0)*ch d) Z:=sm_congr D fun d hd=>by
   have e:=jzgo (ch d) (fun z:(Nat×List Nat)×Rat=>if z.1.1=d then z.2 else 0) Z;rw [h.sum d hd]at e;have e2:ls (fun z:(Nat×List Nat)×Rat=>(if z.1.1=d then z.2 else 0)*ch d) Z=ls (fun z=>ch d*(if z.1.1=d then z.2 else 0)) Z:=jzap fun z _=>(by grind);rw [e2,e];grind
  rw [this, <-ls_sm];exact jzap fun z hz=>by
   rw [sm_one D (h.dem z hz) fun d _ hd=>by rw [if_neg (fun e=>hd e.symm)];grind,if_pos rfl]
 have e2:ls (fun z=>z.2*ch z.1.1) Z<=ls (fun z=>sm L2 fun a=>pr a*(if a∈z.1.2 then z.2 else 0)) Z:=ls_le fun z hz=>by
  have h1:=yT (hch z hz) (vB (h.pos z hz));rw [<-jzbj]at h1;have:(sm L2 fun a=>z.2*(if a∈z.1.2 then pr a else 0))=sm L2 fun a=>pr a*(if a∈z.1.2 then z.2 else 0):=sm_congr L2 fun a _=>(by split <;> grind);rw [this]at h1;exact h1
 have e3:ls (fun z=>sm L2 fun a=>pr a*(if a∈z.1.2 then z.2 else 0)) Z<=sm L2 fun a=>pr a*cap a:=by
  rw [ls_sm];refine sm_le L2 fun a ha=>?_;rw [jzgo];exact yT (h.cap a ha) (hp a ha)
 have e4:v*1<=v*(sm D fun d=>am d*ch d):=yT hn hv;grind
def planZ(D:Nat)(am:Nat->Rat)(v:Rat)(Z:List ((Nat×List Nat)×Rat)):List ((Nat×List Nat)×Rat):=(List.range D).flatMap fun d=>cut d (v*am d) Z
theorem jzd8{D:Nat}{am:Nat->Rat}{v:Rat}{Z:List ((Nat×List Nat)×Rat)}(h:(Z.map (·.1)).Nodup):((planZ D am v Z).map (·.1)).Nodup:=by
 unfold planZ
 induction D with
 |zero=>exact List.nodup_nil
 |succ D ih=>
  rw [List.range_succ,List.flatMap_append,List.map_append,List.nodup_append];refine⟨ih,?_,fun x hx y hy=>?_⟩
  ·simp only [xU,List.flatMap_nil,List.append_nil]
   exact(cut_keys D _ Z).nodup h
  ·obtain⟨z,hz,rfl⟩:=List.mem_map.1 hx
   obtain⟨z',qa,rfl⟩:=List.mem_map.1 hy;simp only [xU,List.flatMap_nil,List.append_nil]at qa;obtain⟨d,hd,hz⟩:=List.mem_flatMap.1 hz;have h1:=(cut_mem hz).1;have h2:=(cut_mem qa).1;have h3:=vX.1 hd;intro e;rw [e]at h1;omega
theorem planZ_adm{L2 D:Nat}{am cap:Nat->Rat}{v:Rat}{Z:List ((Nat×List Nat)×Rat)}(hz:∀z∈Z,0<=z.2)(hd:(Z.map (·.1)).Nodup)(hv:∀d,d<D->0<=v*am d)
  (hs:∀d,d<D->v*am d<=ls (fun z=>if z.1.1=d then z.2 else 0) Z) (hc:∀a,a<L2->ls (fun z=>if a∈z.1.2 then z.2 else 0) Z<=cap a):Adm L2 D am cap v (planZ D am v Z):=by
 refine⟨fun z h=>?_,fun z h=>?_,jzd8 hd,fun d h=>?_,fun a h=>?_⟩
 ·obtain⟨d,h1,h2⟩:=List.mem_flatMap.1 h
  rw [(cut_mem h2).1];exact vX.1 h1
 ·obtain⟨d,h1,h2⟩:=List.mem_flatMap.1 h
  exact(cut_mem h2).2.1
 ·unfold planZ
  rw [jzkp,jzew,sm_one D h fun k hk hkd=>ls_zero fun z hz2=>by rw [if_neg];rw [(cut_mem hz2).1];exact hkd];refine Eq.trans ?_ (jzkr d (v*am d) Z (hv d h) hz (hs d h));refine jzap fun z hz2=>?_;rw [if_pos (cut_mem hz2).1]
 ·refine Rat.le_trans ?_ (hc a h)
  unfold planZ;rw [jzkp,jzew];refine Rat.le_trans (sm_le D fun d _=>jzks d a _ Z hz) ?_;rw [<-ls_sm];refine ls_le fun z hz2=>?_;by_cases e:z.1.1<D
  ·rw [sm_one D e fun k _ hk=>if_neg (fun h=>hk h.symm),if_pos rfl]
   exact vC
  ·rw [sm_zero D fun k hk=>if_neg (by omega)]
   split
   ·exact hz z hz2
   ·exact vC
end Sx
namespace Sx
def prTo(T:Tb)(J:Nat):List Rat:=(List.range T.rows.length).map fun i=>sm J fun j=>if atN T.fre j=i then at_ T.goal.co j else 0
def prT(T:Tb):List Rat:=prTo T T.fre.length
def ptTo(T:Tb)(I:Nat):List Rat:=(List.range T.cols).map fun k=>sm I fun l=>if atN T.bas l=T.rows.length+k then(T.row l).re else 0
def ptT(T:Tb):List Rat:=ptTo T T.rows.length
theorem prTo_len(T:Tb)(J:Nat):(prTo T J).length=T.rows.length:=by unfold prTo;simp
theorem ptTo_len(T:Tb)(I:Nat):(ptTo T I).length=T.cols:=by unfold ptTo;simp
theorem jzad(n:Nat)(f:Nat->Rat)(k:Nat):((List.range n).map f)[k]?=if k<n then some (f k)else none:=by
 by_cases h:k<n
 ·rw [if_pos h,yW,xJ h];rfl
 ·rw [if_neg h];exact yI (by simp;omega)
theorem prTo_zero(T:Tb):prTo T 0=List.replicate T.rows.length 0:=by
 apply uK;intro k;unfold prTo;rw [jzad,xB];rfl
theorem ptTo_zero(T:Tb):ptTo T 0=List.replicate T.cols 0:=by
 apply uK;intro k;unfold ptTo;rw [jzad,xB];rfl
theorem prTo_skip(T:Tb){J:Nat}(h:T.rows.length<=atN T.fre J):prTo T (J+1)=prTo T J:=by
 apply uK;intro k;unfold prTo;rw [jzad,jzad];by_cases hk:k<T.rows.length
 ·rw [if_pos hk,if_pos hk]
  congr 1
  show sm J _+(if atN T.fre J=k then _ else 0)=_;rw [if_neg (by omega)];grind
 ·rw [if_neg hk,if_neg hk]
theorem prTo_put(T:Tb){J:Nat}(_h:atN T.fre J<T.rows.length)(hi:∀j,j<J->atN T.fre j≠atN T.fre J):prTo T (J+1)=(prTo T J).set (atN T.fre J) (at_ T.goal.co J):=by
 apply uK;intro k;by_cases hk:k<T.rows.length
 ·by_cases e:k=atN T.fre J
  ·subst e
   rw [yM (by rw [prTo_len];exact hk)];unfold prTo;rw [jzad,if_pos hk]
   congr 1
   show sm J _+(if atN T.fre J=atN T.fre J then _ else 0)=_;rw [if_pos rfl,sm_zero J fun j hj=>if_neg (hi j hj)];grind
  ·rw [vN (fun e2=>e e2.symm)]
   unfold prTo;rw [jzad,jzad,if_pos hk,if_pos hk]
   congr 1
   show sm J _+(if atN T.fre J=k then _ else 0)=_;rw [if_neg (fun e2=>e e2.symm)];grind
 ·rw [yI (by rw [prTo_len];omega),yI (by rw [yV,prTo_len];omega)]
theorem ptTo_skip(T:Tb){I:Nat}(h:atN T.bas I<T.rows.length):ptTo T (I+1)=ptTo T I:=by
 apply uK;intro k;unfold ptTo;rw [jzad,jzad];by_cases hk:k<T.cols
 ·rw [if_pos hk,if_pos hk]
  congr 1
  show sm I _+(if atN T.bas I=T.rows.length+k then _ else 0)=_;rw [if_neg (by omega)];grind
 ·rw [if_neg hk,if_neg hk]
theorem ptTo_put(T:Tb){I:Nat}(h:T.rows.length<=atN T.bas I)(hi:∀j,j<I->atN T.bas j≠atN T.bas I):ptTo T (I+1)=(ptTo T I).set (atN T.bas I-T.rows.length) (T.row I).re:=by
 apply uK;intro k;by_cases hk:k<T.cols
 ·by_cases e:k=atN T.bas I-T.rows.length
  ·subst e
   rw [yM (by rw [ptTo_len];exact hk)];unfold ptTo;rw [jzad,if_pos hk]
   congr 1
   show sm I _+(if atN T.bas I=_ then _ else 0)=_;rw [if_pos (by omega),sm_zero I fun j hj=>if_neg (fun e2=>hi j hj (by omega))];grind
  ·rw [vN (fun e2=>e e2.symm)]
   unfold ptTo;rw [jzad,jzad,if_pos hk,if_pos hk]
   congr 1
   show sm I _+(if atN T.bas I=_ then _ else 0)=_;rw [if_neg (by omega)];grind
 ·rw [yI (by rw [ptTo_len];omega),yI (by rw [yV,ptTo_len];omega)]
theorem prT_at{T:Tb}{m nv:Nat}{M:Nat->Nat->Rat}(h:Rep T m nv M){i:Nat}(hi:i<m):at_ (prT T) i=M m i:=by
 unfold prT prTo;rw [h.rl,at_map m _ hi];have hf:=h.fl;rcases h.all (show i<nv by omega)with⟨l,hl,e⟩|⟨j,hj,e⟩
 ·rw [sm_zero _ fun k hk=>if_neg (fun e2=>h.fb k l hk hl (by rw [e2,e]))]
  have:=h.di.unit l hl m (yX m);rw [e,if_neg (by omega)]at this;exact this.symm
 ·rw [sm_one _ hj fun k hk hkj=>if_neg (fun e2=>hkj (h.fi k j hk hj (by rw [e2,e]))),if_pos e,h.go j hj,e]
theorem ptT_at{T:Tb}{m nv:Nat}{M:Nat->Nat->Rat}(h:Rep T m nv M){k:Nat}(hk:k<T.cols):at_ (ptT T) k=xOf T m nv M (m+k):=by
 unfold ptT ptTo xOf;rw [at_map _ _ hk,h.rl];exact sm_congr m fun l hl=>by rw [h.re l hl]
section
variable {L2 D:Nat} {am cap:Nat->Rat} {P:List (Nat×List Nat)} {T:Tb}
def ptZ(T:Tb)(P:List (Nat×List Nat)):List ((Nat×List Nat)×Rat):=zipF P ((ptT T).drop 1)
theorem FLP.cols(h:FLP L2 D am cap T P):T.cols=P.length+1/\T.rows.length=L2+D:=by
 obtain⟨M,h⟩:=h;have h1:=h.cols;have h2:=h.rep.fl;exact⟨by omega,h.rep.rl⟩
theorem at_drop(l:List Rat)(n k:Nat):at_ (l.drop n) k=at_ l (n+k):=by unfold at_;rw [List.getElem?_drop]
theorem FLP.drop_len(h:FLP L2 D am cap T P):((ptT T).drop 1).length=P.length:=by
 rw [List.length_drop];unfold ptT;rw [ptTo_len,h.cols.1];omega
theorem zipF_flow:∀(P:List (Nat×List Nat)) (fl:List Rat),fl.length=P.length->∀(k:Nat) {p:Nat×List Nat} {f:Rat},(zipF P fl)[k]?=some (p,f)->at_ fl k=f
 | [],_,_,_,_,_,h=>by cases h
 |p::P,q::fl,hl,k,p',f,h=>by
  have hl:fl.length+1=P.length+1:=hl;cases k with
  |zero=>
   have h:some (p,q)=some (p',f):=h;injection h with h
   injection h with _ h
  |succ k=>exact zipF_flow P fl (by omega) k h
structure Best(L2 D:Nat)(am cap:Nat->Rat)(T:Tb)(P:List (Nat×List Nat)):Prop where
 adm:Adm L2 D am cap T.goal.re (planZ D am T.goal.re (ptZ T P))
 pos:∀i,i<L2+D->0<=at_ (prT T) i
 worth:(sm L2 fun a=>at_ (prT T) a*cap a)=T.goal.re
 need:1<=sm D fun d=>am d*at_ (prT T) (L2+d)
 path:∀p∈P,at_ (prT T) (L2+p.1)<=sm L2 fun a=>if a∈p.2 then at_ (prT T) a else 0
 vnn:0<=T.goal.re
 fnn:∀z∈ptZ T P,0<=z.2
theorem FLP.best(h:FLP L2 D am cap T P)(he:entT T=none)(hD:0<D)(ham:∀d,d<D->0<am d)(hd:P.Nodup)(hP:∀p∈P,p.1<D):Best L2 D am cap T P:=by
 have qa:=h.drop_len;have qf:=h.cols.1;obtain⟨M,h⟩:=h;have hg:∀v,v<L2+D+1+P.length->0<=M (L2+D) v:=fun v hv=>by
  rcases h.rep.all hv with⟨l,hl,e⟩|⟨j,hj,e⟩
  ·have:=h.rep.di.unit l hl (L2+D) (yX _)
   rw [e,if_neg (by omega)]at this;rw [this];exact vC
  ·have:=jzhf T _ he j (by rw [h.rep.gl];exact hj)
   rw [h.rep.go j hj,e]at this;exact this
 obtain⟨o1,o2,o3⟩:=flows_opt h hg;obtain⟨p1,p2,p3,p4⟩:=jzix h;have hp:∀i,i<L2+D->at_ (prT T) i=M (L2+D) i:=fun i hi=>prT_at h.rep hi;have hv:T.goal.re=M (L2+D) (L2+D+1+P.length):=h.rep.gr;have hx:∀k,k<P.length->at_ ((ptT T).drop 1) k=xOf T (L2+D) (L2+D+1+P.length) M (L2+D+1+k):=fun k hk=>by
  rw [at_drop,ptT_at h.rep (by omega), <-Nat.add_assoc]
 have qe:0<=T.goal.re:=(by rw [hv,p2];exact p1 _);have hz:∀z∈ptZ T P,0<=z.2:=fun z hz=>by
  obtain⟨_,h2⟩:=zipF_mem P _ hz;obtain⟨k,hk,e⟩:=List.getElem_of_mem h2;have:at_ ((ptT T).drop 1) k=z.2:=(by unfold at_;rw [yG hk,e];rfl);rw [<-this,hx k (by omega)];exact p1 _
 refine⟨planZ_adm hz (by unfold ptZ;rw [zipF_keys P _ qa];exact hd) (fun d hd=>vA qe (vB (ham d hd))) (fun d hd=>?_) (fun a ha=>?_),fun i hi=>by rw [hp i hi];exact hg i (by omega),?_,?_,fun p hp2=>?_,qe,hz⟩
 ·unfold ptZ
  rw [jzkq (fun p f=>if p.1=d then f else 0) (0,[]) P _ qa,hv];refine Rat.le_trans (p4 d hd) ?_;rw [sm_congr P.length fun k hk=>by rw [<-hx k hk]];exact vC
 ·unfold ptZ
  rw [jzkq (fun p f=>if a∈p.2 then f else 0) (0,[]) P _ qa];refine Rat.le_trans ?_ (p3 a ha);rw [sm_congr P.length fun k hk=>by rw [hx k hk]];exact vC
 ·rw [hv, <-o1]
  exact sm_congr L2 fun a ha=>by rw [hp a (by omega)]
 ·rw [sm_congr D fun d hd=>show am d*at_ (prT T) (L2+d)=M (L2+D) (L2+d)*am d by rw [hp _ (by omega)];grind]
  exact o2
 ·obtain⟨k,hk,e⟩:=List.getElem_of_mem hp2
  have h1:=o3 k hk;rw [yG hk,e]at h1;have h1:=h1 (hP p hp2);rw [hp _ (by have:=hP p hp2;omega)];refine Rat.le_trans h1 (sm_le L2 fun a ha=>?_);show(if a∈p.2 then M (L2+D) a else 0)<=if a∈p.2 then at_ (prT T) a else 0
  rw [hp a (by omega)];exact vC
theorem nodup_le{α:Type}[DecidableEq α]:∀{l k:List α},l.Nodup->(∀a∈l,a∈k)->l.length<=k.length
 | [],_,_,_=>yZ _
 |a::l,k,h,hs=>by
  have h1:=List.nodup_cons.1 h;have h2:=nodup_le (l:=l) (k:=k.erase a) h1.2 fun b hb=>by
   have qa:b≠a:=fun e=>h1.1 (e▸hb);exact(List.mem_erase_of_ne qa).2 (hs b (by simp [hb]))
  rw [List.length_erase_of_mem (hs a (by simp))]at h2;have:=List.length_pos_of_mem (hs a (by simp));show l.length+1<=k.length;omega
theorem planZ_nn{D:Nat}{am:Nat->Rat}{v:Rat}{Z:List ((Nat×List Nat)×Rat)}{z:(Nat×List Nat)×Rat}(h:z∈planZ D am v Z):0<z.2/\∃f,(z.1,f)∈Z/\z.2<=f:=by
 obtain⟨d,_,h2⟩:=List.mem_flatMap.1 h;exact⟨(cut_mem h2).2.1,(cut_mem h2).2.2⟩
theorem FLP.few(h:FLP L2 D am cap T P)(hd:P.Nodup):(planZ D am T.goal.re (ptZ T P)).length<=L2+D:=by
 have qa:=h.drop_len;have qf:=h.cols.1;obtain⟨M,h⟩:=h;have h1:=nodup_le (l:=(planZ D am T.goal.re (ptZ T P)).map (·.1)) (k:=(List.range (L2+D)).map fun l=>P[atN T.bas l-(L2+D+1)]?.getD (0,[])) (jzd8 (by unfold ptZ;rw [zipF_keys P _ qa];exact hd)) fun p hp=>by
  obtain⟨z,hz,rfl⟩:=List.mem_map.1 hp;obtain⟨a1,f,a2,a3⟩:=planZ_nn hz;have hf:0<f:=(by grind);obtain⟨k,hk,e⟩:=List.getElem_of_mem a2;have qe:k<P.length:=by
   have:(ptZ T P).length=P.length:=(by rw [<-xV (f:=(·.1))];unfold ptZ;rw [zipF_keys P _ qa]);omega
  have e1:P[k]=z.1:=by
   have h2:((ptZ T P).map (·.1))[k]?=some z.1:=(by rw [yW,yG hk,e];rfl);unfold ptZ at h2;rw [zipF_keys P _ qa,yG qe]at h2;exact Option.some.inj h2
  have e2:at_ ((ptT T).drop 1) k=f:=zipF_flow P _ qa k (show(ptZ T P)[k]?=some (z.1,f) by rw [yG hk,e]);rw [at_drop,ptT_at h.rep (by omega)]at e2;have e3:xOf T (L2+D) (L2+D+1+P.length) M (L2+D+(1+k))≠0:=fun e4=>(by rw [e4]at e2;grind);refine List.mem_map.2 ?_;refine Classical.byContradiction fun hn=>e3 (x_free fun l hl e4=>hn ⟨l,vX.2 hl,?_⟩);rw [e4,show L2+D+(1+k)-(L2+D+1)=k by omega,yG qe];exact e1
 rw [xV,xV,List.length_range]at h1;exact h1
def Qn(Dn:Int)(N:Nat)(q:Rat):Prop:=isI (q*(Dn:Rat))/\SzZ q N
theorem Qn.zero(Dn:Int){N:Nat}(hN:1<=N):Qn Dn N 0:=⟨by rw [Rat.zero_mul];exact isI.zero,by show 0<=N/\1<=N;omega⟩
theorem FLP.sizes(h:FLP L2 D am cap T P)(C:Nat)(hC:L2+D<=C)(hC1:1<=C)(hca:∀a,a<L2->isI (cap a)/\0<=cap a)(ham:∀d,d<D->isI (am d)/\0<=am d)(hsc:sm L2 cap<=((C:Int):Rat))(hsa:sm D am<=((C:Int):Rat)):
  ∃Dn:Int,Dn≠0/\Dn.natAbs<=C^(L2+D)/\
   (∀i,i<T.rows.length->(∀q∈(T.row i).co,Qn Dn ((L2+D+1)*C^(L2+D)) q)/\Qn Dn ((L2+D+1)*C^(L2+D)) (T.row i).re)/\
   (∀q∈T.goal.co,Qn Dn ((L2+D+1)*C^(L2+D)) q)/\Qn Dn ((L2+D+1)*C^(L2+D)) T.goal.re/\
   (∀q∈prT T,Qn Dn ((L2+D+1)*C^(L2+D)) q)/\∀q∈ptT T,Qn Dn ((L2+D+1)*C^(L2+D)) q:=by
 have qf:=h.cols.1;obtain⟨M,h,Dn,h0,h1,h2⟩:=h.size C hC hC1 hca ham hsc hsa;have qa:∀{l:List Rat} {q:Rat},q∈l->∃k,k<l.length/\at_ l k=q:=fun {l q} hq=>by
  obtain⟨k,hk,e⟩:=List.getElem_of_mem hq;exact⟨k,hk,by unfold at_;rw [yG hk,e];rfl⟩
 have qg:=h.rep.rl;have hN:1<=(L2+D+1)*C^(L2+D):=Nat.mul_pos (by omega) (Nat.pow_pos (by omega));refine⟨Dn,h0,h1,fun i hi=>⟨fun q hq=>?_,?_⟩,fun q hq=>?_,?_,fun q hq=>?_,fun q hq=>?_⟩
 ·obtain⟨k,hk,e⟩:=qa hq
  rw [h.rep.cl i (by omega)]at hk;rw [<-e,h.rep.co i k (by omega) hk];exact h2 _ _ (by omega) (Nat.le_of_lt (h.rep.fv k hk))
 ·rw [h.rep.re i (by omega)]
  exact h2 _ _ (by omega) (yX _)
 ·obtain⟨k,hk,e⟩:=qa hq
  rw [h.rep.gl]at hk;rw [<-e,h.rep.go k hk];exact h2 _ _ (yX _) (Nat.le_of_lt (h.rep.fv k hk))
 ·rw [h.rep.gr]
  exact h2 _ _ (yX _) (yX _)
 ·obtain⟨k,hk,e⟩:=qa hq
  have qe:k<L2+D:=(by unfold prT at hk;rw [prTo_len]at hk;omega);rw [<-e,prT_at h.rep qe];exact h2 _ _ (yX _) (by omega)
 ·obtain⟨k,hk,e⟩:=qa hq
  have qe:k<T.cols:=(by unfold ptT at hk;rw [ptTo_len]at hk;exact hk);rw [<-e,ptT_at h.rep qe];by_cases hb:∃l,l<L2+D/\atN T.bas l=L2+D+k
  ·obtain⟨l,hl,e⟩:=hb
   rw [<-e,h.x_bas hl];exact h2 _ _ (by omega) (yX _)
  ·rw [x_free fun l hl e=>hb ⟨l,hl,e⟩]
   exact Qn.zero Dn hN
theorem FLP.shape(h:FLP L2 D am cap T P):(∀i,i<T.rows.length->(T.row i).co.length=T.fre.length)/\T.goal.co.length=T.fre.length/\T.fre.length=P.length+1/\T.bas.length=L2+D/\
  (∀j k,j<T.fre.length->k<T.fre.length->atN T.fre j=atN T.fre k->j=k)/\(∀j,j<T.fre.length->atN T.fre j<L2+D+1+P.length)/\
  (∀j k,j<T.bas.length->k<T.bas.length->atN T.bas j=atN T.bas k->j=k)/\∀j,j<T.bas.length->atN T.bas j<L2+D+1+P.length:=by
 have hc:=h.cols;obtain⟨M,h⟩:=h;have hb:=h.rep.bl;exact⟨fun i hi=>h.rep.cl i (by omega),h.rep.gl,by have:=h.cols;omega,hb,h.rep.fi,h.rep.fv,fun j k hj hk e=>h.rep.di.inj (by omega) (by omega) e,fun j hj=>h.rep.di.lt j (by omega)⟩
end
end Sx
open Go.RowKit
theorem jzaa(n:Nat)(hn:n<=1000000000000)(w:World):
  (Instr.makeSlice 37 (.int .i64 (n:Int)) (.int .i64 (n:Int))).run Tryz.prog w=.ok (.slice (some ⟨w.heap.size,0,none⟩) n n) (w.alloc (.cells (madeCells #[.bool false,.slice none 0 0,.slice none 0 0] (n*3)) 35)):=by
 obtain⟨i,hi,hz,hs,hb⟩:=info_parts Tryz.info44;have qa:(i.bytes:Int)*(n:Int)<=281474976710656:=(by rw [hb];omega);have hr:=run_make (P:=Tryz.prog) w 37 35 i _ Tryz.underlying37 hi hz .i64 .i64 n n (by omega) (by omega) qa (by omega);simp only [xL]at hr;rw [hs]at hr;exact hr
theorem prices_ok(B:Nat)(L:TLoc)(T:Sx.Tb)(w:World)(h:TabR w B L T)(qx:T.goal.co.length=T.fre.length)(hm0:0<L.m)(hm:L.m<=1000000)(hK0:0<T.fre.length)(hK:T.fre.length<=1000000000000)
  (qg:∀j k,j<T.fre.length->k<T.fre.length->Sx.atN T.fre j=Sx.atN T.fre k->j=k) (qy:∀j,j<T.fre.length->Sx.atN T.fre j<=1000000000000) (gv cv:Nat) (hV:L.V L.m=.slice (some ⟨gv,0,none⟩) T.fre.length cv)
  (ni:Bool) (AI:Option Addr) (li ci:Nat) (AI':Option Addr) (li' ci':Nat):
  Calls Tryz.prog 91 #[.pointer (some ⟨L.p,0,none⟩),.agg #[.slice (some ⟨gv,0,none⟩) T.fre.length cv,.bool ni,.slice AI li ci,.slice AI' li' ci']] w fun e w'=>∃gl,e=.returned (.slice (some ⟨gl,0,none⟩) L.m L.m)/\QB w' gl (Sx.prT T)/\w.heap.size<=gl/\Ext w w':=by
 have qe:=h.go;rw [hV]at qe;obtain⟨g,cr,qw,qD⟩:=h.vr_form hm0;obtain⟨cp,qt,qA,p0,p1,p2,p7⟩:=h.goa;obtain⟨gf,cf,qn,qG⟩:=h.vf_form hK0;rw [qn]at p2;rw [qw]at p0;have qa:=h.fre;rw [qn]at qa;have q0:=(qt.cell 0).trans p0;have q2:=(qt.cell 2).trans p2;have qk:=h.rl;have HC:=Hx (And.intro qe (And.intro qa qx));have HI:=Hx (And.intro qg qy);have qz:=jzaa L.m (by omega);obtain⟨bx,e0⟩:=boxes1 w #[.slice (some ⟨gv,0,none⟩) T.fre.length cv,.bool ni,.slice AI li ci,.slice AI' li' ci'] 153;have q0:=cellK e0 q0;have q2:=cellK e0 q2;clear h hV qt qA p0 p1 p2 p7 qw qn qe qa qx qg qy;have HE:=Hx (show Sx.prT T=Sx.prTo T T.fre.length from rfl);generalize hKK:T.fre.length=K at*;have qF:=Hx hKK;clear hKK;have qh:(w.alloc (.cells #[.slice (some ⟨gv,0,none⟩) K cv,.bool ni,.slice AI li ci,.slice AI' li' ci'] 153)).heap.size=w.heap.size+1:=(by simp);have qm:=QB.made (w.alloc (.cells #[.slice (some ⟨gv,0,none⟩) K cv,.bool ni,.slice AI li ci,.slice AI' li' ci'] 153)) L.m;rw [qh]at qm;have QM:=Hx qm;clear qm;have xb:=(Ext.refl (w.alloc (.cells #[.slice (some ⟨gv,0,none⟩) K cv,.bool ni,.slice AI li ci,.slice AI' li' ci'] 153))).alloc (.cells (madeCells #[.bool false,.slice none 0 0,.slice none 0 0] (L.m*3)) 35);have q2:=cellK xb q2;have BX:=Hx (bx.keep xb);have E0:=Hx (e0.tr xb);have qj:w.heap.size<=w.heap.size+1:=Nat.le_succ _;have qo:w.heap.size≠w.heap.size+1:=(by omega);clear bx e0 xb
 go_enter Tryz.func91,Tryz.ntmps91
 go_upto_region 2 with fail
 generalize (w.alloc (.cells #[.slice (some ⟨gv,0,none⟩) K cv,.bool ni,.slice AI li ci,.slice AI' li' ci'] 153))=W1 at*;clear qh;have I0:=Hx (show QB (W1.alloc (.cells (madeCells #[.bool false,.slice none 0 0,.slice none 0 0] (L.m*3)) 35)) (w.heap.size+1) (Sx.prTo T 0)/\Blk (W1.alloc (.cells (madeCells #[.bool false,.slice none 0 0,.slice none 0 0] (L.m*3)) 35)) w.heap.size 153 #[.slice (some ⟨gv,0,none⟩) K cv,.bool ni,.slice AI li ci,.slice AI' li' ci']/\Ext w (W1.alloc (.cells (madeCells #[.bool false,.slice none 0 0,.slice none 0 0] (L.m*3)) 35))from⟨by rw [Sx.prTo_zero,qk];exact QM.out,BX.out,E0.out⟩);clear QM BX E0;go_wp2
 go_loopg [6,7,19] K (fun q _ _ it wr=>∃n:Nat,K-n=q/\n<=K/\it=.int .i64 (n:Int)/\Hid (QB wr (w.heap.size+1) (Sx.prTo T n)/\Blk wr w.heap.size 153 #[.slice (some ⟨gv,0,none⟩) K cv,.bool ni,.slice AI li ci,.slice AI' li' ci']/\Ext w wr))
 case atStart=>exact⟨0,rfl,yZ _,rfl,I0⟩
 case round=>
  obtain⟨n,rfl,hn,rfl,I⟩:=hrel;clear I0 q0 q2 qz;by_cases qi:n<K
  ·have nK:(n:Int)<(K:Int):=by omega
   have n0:(0:Int)<=(n:Int):=(by omega);have qf:=cellK I.out.2.2 (jzbm HC.out.2.1 qi);have qE:=HI.out.2 n (qi);have SK:=Hx (fun(h:T.rows.length<=Sx.atN T.fre n)=>Sx.prTo_skip T h);have SP:=Hx (fun(h:Sx.atN T.fre n<T.rows.length)=>Sx.prTo_put T h fun j hj e=>by
    have:=HI.out.1 j n (by omega) (qi) e;omega)
   generalize hx:Sx.atN T.fre n=x at*;have x0:decide ((0:Int)<=(x:Int))=true:=yO (by omega);by_cases qp:x<L.m
   ·have x1:decide ((x:Int)<(L.m:Int))=true:=yO (by omega)
    have xm:(x:Int)<(L.m:Int):=(by omega);have xp:(0:Int)<=(x:Int):=(by omega);have b0:wr.cell? ⟨w.heap.size,0,none⟩=some (.slice (some ⟨gv,0,none⟩) K cv):=I.out.2.1.cell 0;obtain⟨neg,A,l,c,A',l',c',⟨i0,i1,i2⟩,_,hR⟩:=HC.out.1.cell (jzv (show n<T.goal.co.length by rw [HC.out.2.2];exact qi));have i0:=cellK I.out.2.2 i0;have i1:=cellK I.out.2.2 i1;have i2:=cellK I.out.2.2 i2;have hR:=hR.keep I.out.2.2;obtain⟨ny,Y1,my,fy,qC,qB,qH,⟨s0,s1,s2⟩,⟨z0,z1,z2⟩,_⟩:=I.out.1.at_ (jzv (show x<(Sx.prTo T n).length by rw [Sx.prTo_len,qk];exact qp));have I2:=Hx (show QB (((wr.setCell ⟨w.heap.size+1,x*3,none⟩ (.bool neg)).setCell ⟨w.heap.size+1,x*3+1,none⟩ (.slice A l c)).setCell ⟨w.heap.size+1,x*3+2,none⟩ (.slice A' l' c')) (w.heap.size+1) (Sx.prTo T (n+1))/\
      Blk (((wr.setCell ⟨w.heap.size+1,x*3,none⟩ (.bool neg)).setCell ⟨w.heap.size+1,x*3+1,none⟩ (.slice A l c)).setCell ⟨w.heap.size+1,x*3+2,none⟩ (.slice A' l' c')) w.heap.size 153 #[.slice (some ⟨gv,0,none⟩) K cv,.bool ni,.slice AI li ci,.slice AI' li' ci']/\
      Ext w (((wr.setCell ⟨w.heap.size+1,x*3,none⟩ (.bool neg)).setCell ⟨w.heap.size+1,x*3+1,none⟩ (.slice A l c)).setCell ⟨w.heap.size+1,x*3+2,none⟩ (.slice A' l' c'))from
     ⟨by rw [SP.out (by rw [qk];exact qp)];exact I.out.1.put (by rw [Sx.prTo_len,qk];exact qp) hR,((I.out.2.1.far (p:=⟨w.heap.size+1,x*3,none⟩) qo _).far (p:=⟨w.heap.size+1,x*3+1,none⟩) qo _).far (p:=⟨w.heap.size+1,x*3+2,none⟩) qo _,
      ((I.out.2.2.set_ (p:=⟨w.heap.size+1,x*3,none⟩) qj _).set_ (p:=⟨w.heap.size+1,x*3+1,none⟩) qj _).set_ (p:=⟨w.heap.size+1,x*3+2,none⟩) qj _⟩)
    clear hR I SK SP hx;go_wp2
    go_roundg (K-(n+1))
    case measure=>omega
    case rel=>exact⟨n+1,rfl,by omega,by go_num,I2⟩
   ·have x1:decide ((x:Int)<(L.m:Int))=false:=yP (by omega)
    have I2:=Hx (show QB wr (w.heap.size+1) (Sx.prTo T (n+1))/\Blk wr w.heap.size 153 #[.slice (some ⟨gv,0,none⟩) K cv,.bool ni,.slice AI li ci,.slice AI' li' ci']/\Ext w wr from⟨by rw [SK.out (by omega)];exact I.out.1,I.out.2⟩);clear I SK SP hx;go_wp2
    go_roundg (K-(n+1))
    case measure=>omega
    case rel=>exact⟨n+1,rfl,by omega,by go_num,I2⟩
  ·obtain rfl:n=K:=by omega
   go_wp2;go_ret;exact⟨w.heap.size+1,rfl,by rw [HE.out];exact I.out.1,qj,I.out.2.2⟩
theorem jzf0(B:Nat)(L:TLoc)(T:Sx.Tb)(w:World)(h:TabR w B L T)(hgl:T.goal.co.length=T.fre.length)(hm0:0<L.m)(hm:L.m<=1000000)(hK0:0<T.fre.length)(hK:T.fre.length<=1000000000000)
  (hinj:∀j k,j<T.fre.length->k<T.fre.length->Sx.atN T.fre j=Sx.atN T.fre k->j=k) (hbd:∀j,j<T.fre.length->Sx.atN T.fre j<=1000000000000):
  Calls Tryz.prog 44 #[.pointer (some ⟨L.p,0,none⟩)] w fun e w'=>∃gl,e=.returned (.slice (some ⟨gl,0,none⟩) L.m L.m)/\QB w' gl (Sx.prT T)/\w.heap.size<=gl/\Ext w w':=by
 obtain⟨gv,cv,hV,qj,qi⟩:=h.go.form (by omega);rw [hgl]at hV;obtain⟨cp,qa,qh,_⟩:=h.goa;obtain⟨ni,AI,li,ci,qg,qe,qf,a0,a1,a2,a3,ra⟩:=qh;rw [hV]at a0;have q3:=(qa.cell 3).trans a0;have q4:=(qa.cell (3+1)).trans a1;have q5:=(qa.cell (3+2)).trans a2;have q6:=(qa.cell (3+3)).trans a3;have PR:=Hx (prices_ok B L T w h hgl hm0 hm hK0 hK hinj hbd gv cv hV ni AI li ci qg qe qf);clear h hgl hV qa a0 a1 a2 a3 ra hinj hbd
 go_enter Tryz.func44,Tryz.ntmps44
 go_wp2_with fail
 refine PR.out.mono ?_;rintro e w2 ⟨gl,rfl,h1,h2,h3⟩;have F:=Hx (And.intro h1 (And.intro h2 h3));clear h1 h2 h3 PR;go_wp2;go_ret;exact⟨gl,rfl,F.out⟩
theorem value_ok(B:Nat)(L:TLoc)(T:Sx.Tb)(w:World)(h:TabR w B L T):
  Calls Tryz.prog 92 #[.pointer (some ⟨L.p,0,none⟩)] w (RatPost w T.goal.re):=by
 obtain⟨cp,qa,qh,_⟩:=h.goa;obtain⟨ni,AI,li,ci,qg,qe,qf,a0,a1,a2,a3,ra⟩:=qh;have q4:=(qa.cell (3+1)).trans a1;have q5:=(qa.cell (3+2)).trans a2;have q6:=(qa.cell (3+3)).trans a3;clear h qa a0 a1 a2 a3;obtain⟨bx,e0⟩:=boxes1 w #[.bool false,.slice none 0 0,.slice none 0 0] 35;have q4:=cellK e0 q4;have q5:=cellK e0 q5;have q6:=cellK e0 q6;obtain⟨⟨p0,p1,p2⟩,f0,f1,f2⟩:=bx.three;obtain⟨b2,e2⟩:=boxes1 w #[.bool ni,.slice AI li ci,.slice qg qe qf] 35;have F:=Hx (And.intro (ra.keep e2) e2);clear e0 ra
 go_enter Tryz.func92,Tryz.ntmps92
 go_wp2;exact bodyPost_ret (v:=.agg #[.bool ni,.slice AI li ci,.slice qg qe qf]) (by simp [results,Tryz.results92,go_sem,b2.cell]) rfl (⟨ni,AI,li,ci,qg,qe,qf,rfl,F.out⟩)
theorem point_ok(B:Nat)(L:TLoc)(T:Sx.Tb)(w:World)(h:TabR w B L T)(hm0:0<L.m)(hm:L.m<=1000000)(hc:T.cols<=1000000000000)
  (qe:∀j k,j<L.m->k<L.m->Sx.atN T.bas j=Sx.atN T.bas k->j=k) (qx:∀j,j<L.m->Sx.atN T.bas j<L.m+T.cols) (qy:∀i,i<L.m->0<(T.row i).co.length):
  Calls Tryz.prog 93 #[.pointer (some ⟨L.p,0,none⟩)] w fun e w'=>∃gl,e=.returned (.slice (some ⟨gl,0,none⟩) T.cols T.cols)/\QB w' gl (Sx.ptT T)/\w.heap.size<=gl/\Ext w w':=by
 obtain⟨g,cr,qm,qH⟩:=h.vr_form hm0;obtain⟨gb,cb,qo,qE⟩:=h.vb_form hm0;obtain⟨cp,qg,qC,p0,p1,p2,p7⟩:=h.goa;rw [qo]at p1;rw [qm]at p0;have qa:=h.bas;rw [qo]at qa;have q0:=(qg.cell 0).trans p0;have q1:=(qg.cell 1).trans p1;have q7:=(qg.cell 7).trans p7;have qA:=h.rl;have HC:=Hx (And.intro qa (And.intro h qm));have HI:=Hx (And.intro qe (And.intro qx qy));have HE:=Hx (show Sx.ptT T=Sx.ptTo T L.m by unfold Sx.ptT;rw [qA]);have qB:=jzaa T.cols hc;have QM:=Hx (QB.made w T.cols);have xb:=(Ext.refl w).alloc (.cells (madeCells #[.bool false,.slice none 0 0,.slice none 0 0] (T.cols*3)) 35);have q1:=cellK xb q1;have qp:=q0;have E0:=Hx xb;clear h qg qC p0 p1 p2 p7 qm qo qa qe qx qy xb
 go_enter Tryz.func93,Tryz.ntmps93
 go_upto_region 2 with fail
 have I0:=Hx (show QB (w.alloc (.cells (madeCells #[.bool false,.slice none 0 0,.slice none 0 0] (T.cols*3)) 35)) w.heap.size (Sx.ptTo T 0)/\Ext w (w.alloc (.cells (madeCells #[.bool false,.slice none 0 0,.slice none 0 0] (T.cols*3)) 35))from⟨by rw [Sx.ptTo_zero];exact QM.out,E0.out⟩);have Q0:=Hx qp;clear QM E0 q0 qp q7;go_wp2
 go_loopg [4,5,16] L.m (fun q _ _ it wr=>∃n:Nat,L.m-n=q/\n<=L.m/\it=.int .i64 (n:Int)/\Hid (QB wr w.heap.size (Sx.ptTo T n)/\Ext w wr))
 case atStart=>exact⟨0,rfl,yZ _,rfl,I0⟩
 case round=>
  obtain⟨n,rfl,hn,rfl,I⟩:=hrel;clear I0 q1 qB;by_cases qi:n<L.m
  ·have nK:(n:Int)<(L.m:Int):=by omega
   have n0:(0:Int)<=(n:Int):=(by omega);have qf:=cellK I.out.2 (jzbm HC.out.1 qi);have q0:=cellK I.out.2 Q0.out;have qI:=HI.out.2.1 n qi;have SK:=Hx (fun(h:Sx.atN T.bas n<T.rows.length)=>Sx.ptTo_skip T h);have SP:=Hx (fun(h:T.rows.length<=Sx.atN T.bas n)=>Sx.ptTo_put T h fun j hj e=>by
    have:=HI.out.1 j n (by omega) qi e;omega)
   generalize hx:Sx.atN T.bas n=x at*;by_cases qG:x<L.m
   ·have x1:decide ((L.m:Int)<=(x:Int))=false:=yP (by omega)
    have I2:=Hx (show QB wr w.heap.size (Sx.ptTo T (n+1))/\Ext w wr from⟨by rw [SK.out (by omega)];exact I.out.1,I.out.2⟩);clear I SK SP hx;go_wp2
    go_roundg (L.m-(n+1))
    case measure=>omega
    case rel=>exact⟨n+1,rfl,by omega,by go_num,I2⟩
   ·obtain⟨y,rfl⟩:∃y,x=L.m+y:=⟨x-L.m,by omega⟩
    have x1:decide ((L.m:Int)<=((L.m+y:Nat):Int))=true:=yO (by omega);have qw:y<T.cols:=(by omega);have yN:(y:Int)<(T.cols:Int):=(by omega);have y0:(0:Int)<=(y:Int):=(by omega);have qz:IntKind.i64.wrap ((L.m:Int)+(y:Int)-(L.m:Int))=(y:Int):=(by rw [show(L.m:Int)+(y:Int)-(L.m:Int)=(y:Int) by omega,IntKind.wrap_i64];omega);obtain⟨ca,hb,nr,R1,m1,d1,qk,qh,qj,r0,r1,r2,r3,rr⟩:=HC.out.2.1.rwa qi HC.out.2.2;have k1:=cellK I.out.2 ((hb.cell _).trans r1);have k2:=cellK I.out.2 ((hb.cell _).trans r2);have k3:=cellK I.out.2 ((hb.cell _).trans r3);obtain⟨ny,Y1,my,fy,qF,qD,qJ,⟨s0,s1,s2⟩,⟨z0,z1,z2⟩,_⟩:=I.out.1.at_ (jzv (show y<(Sx.ptTo T n).length by rw [Sx.ptTo_len];exact qw));have qn:w.heap.size<=w.heap.size:=yX _;have RR:=Hx (rr.keep I.out.2);have qt:=Hx (show∀wx,Ext wr wx->QB (((wx.setCell ⟨w.heap.size,y*3,none⟩ (.bool nr)).setCell ⟨w.heap.size,y*3+1,none⟩ (.slice R1 m1 d1)).setCell ⟨w.heap.size,y*3+2,none⟩ (.slice qk qh qj)) w.heap.size (Sx.ptTo T (n+1))/\
      Ext w (((wx.setCell ⟨w.heap.size,y*3,none⟩ (.bool nr)).setCell ⟨w.heap.size,y*3+1,none⟩ (.slice R1 m1 d1)).setCell ⟨w.heap.size,y*3+2,none⟩ (.slice qk qh qj))from fun wx hx2=>by
     have h1:=(I.out.1.keep hx2).put (m:=y) (by rw [Sx.ptTo_len];exact qw) (RR.out.keep hx2);have h2:=SP.out (by omega);rw [show L.m+y-T.rows.length=y by omega]at h2;rw [h2];exact⟨h1,(((I.out.2.tr hx2).set_ (p:=⟨w.heap.size,y*3,none⟩) qn _).set_ (p:=⟨w.heap.size,y*3+1,none⟩) qn _).set_ (p:=⟨w.heap.size,y*3+2,none⟩) qn _⟩)
    clear rr hb r0 r1 r2 r3 hx;have XD:=Hx (show Ext wr wr.drew from(Ext.refl wr).drewN 1);have HSW:=Hx (show wr.drew.cell? ⟨L.p,0,none⟩=some (.slice (some ⟨g,0,none⟩) L.m cr)/\wr.drew.cell? ⟨g,n*4+1,none⟩=some (.bool nr)/\wr.drew.cell? ⟨g,n*4+2,none⟩=some (.slice R1 m1 d1)/\wr.drew.cell? ⟨g,n*4+3,none⟩=some (.slice qk qh qj)from⟨q0,k1,k2,k3⟩);go_wp2;refine jzg (fun w'=>w'.cell? ⟨L.p,0,none⟩=some (.slice (some ⟨g,0,none⟩) L.m cr)/\w'.cell? ⟨g,n*4+1,none⟩=some (.bool nr)/\w'.cell? ⟨g,n*4+2,none⟩=some (.slice R1 m1 d1)/\w'.cell? ⟨g,n*4+3,none⟩=some (.slice qk qh qj)) 17 (by kernel_rfl) ?_;refine wP 0 rfl HSW.out ?_;try simp only [Act.put,yD,yE,yF]
    refine wP 1 rfl HSW.out ?_;try simp only [Act.put,yD,yE,yF]
    refine wP 2 rfl HSW.out ?_;try simp only [Act.put,yD,yE,yF]
    refine wP 3 rfl HSW.out ?_;try simp only [Act.put,yD,yE,yF]
    refine wP 4 rfl HSW.out ?_;try simp only [Act.put,yD,yE,yF]
    refine wT 5 (v:=?_) rfl ?_ HSW.out ?_;rotate_left
    focus (intro w hSw;obtain⟨s1,s2,s3,s4⟩:=hSw;go_simp;try with_reducible rfl)
    try simp only [Act.put,yD,yE,yF]
    refine wP 6 rfl HSW.out ?_;try simp only [Act.put,yD,yE,yF]
    refine wP 7 rfl HSW.out ?_;try simp only [Act.put,yD,yE,yF]
    refine wP 8 rfl HSW.out ?_;try simp only [Act.put,yD,yE,yF]
    refine wP 9 rfl HSW.out ?_;try simp only [Act.put,yD,yE,yF]
    refine wP 10 rfl HSW.out ?_;try simp only [Act.put,yD,yE,yF]
    refine wT 11 (v:=?_) rfl ?_ HSW.out ?_;rotate_left
    focus (intro w hSw;obtain⟨s1,s2,s3,s4⟩:=hSw;go_simp;try with_reducible rfl)
    try simp only [Act.put,yD,yE,yF]
    refine wP 12 rfl HSW.out ?_;try simp only [Act.put,yD,yE,yF]
    refine wP 13 rfl HSW.out ?_;try simp only [Act.put,yD,yE,yF]
    refine wP 14 rfl HSW.out ?_;try simp only [Act.put,yD,yE,yF]
    refine wT 15 (v:=?_) rfl ?_ HSW.out ?_;rotate_left
    focus (intro w hSw;obtain⟨s1,s2,s3,s4⟩:=hSw;go_simp;try with_reducible rfl)
    try simp only [Act.put,yD,yE,yF]
    refine wP 16 rfl HSW.out ?_;try simp only [Act.put,yD,yE,yF]
    refine jzk (by kernel_rfl) rfl (by rfl) (fun KK hK=>?_);go_simp;refine hK.out _ _ ?_;clear hK KK;refine wpAny_done (by kernel_rfl) ?_ _;have I2:=Hx (qt.out _ XD.out);clear qt HSW XD SK SP I;go_wp2
    go_roundg (L.m-(n+1))
    case measure=>omega
    case rel=>exact⟨n+1,rfl,by omega,by go_num,I2⟩
  ·obtain rfl:n=L.m:=by omega
   go_wp2;go_ret;exact⟨w.heap.size,rfl,by rw [HE.out];exact I.out.1,yX _,I.out.2⟩
end Go.Proofs.YthbmikapohlikaaGreatDoor
