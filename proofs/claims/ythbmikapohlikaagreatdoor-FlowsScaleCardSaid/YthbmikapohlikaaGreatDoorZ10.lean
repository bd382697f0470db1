/- Part 10 of 24 of what the Flows claims share (the white space is struck, the texts are joined). -/
import Derived.Test.YthbmikapohlikaaGreatDoorZ09
set_option linter.unusedVariables false
set_option linter.unusedSimpArgs false
set_option maxRecDepth 100000
set_option maxHeartbeats 8000000
namespace Go.Proofs.YthbmikapohlikaaGreatDoor
open Go.RowKit
theorem cellT{w:World}{p:Addr}{v:Value}(h:w.cell? p=some v):p.block<w.heap.size:=by
 unfold World.cell? at h;rcases Nat.lt_or_ge p.block w.heap.size with hlt|hge
 ·exact hlt
 ·rw [Array.getElem?_eq_none hge]at h;cases h
theorem cellK{w w':World}(hx:Ext w w'){p:Addr}{v:Value}(h:w.cell? p=some v):w'.cell? p=some v:=(hx.cell (cellT h)).trans h
theorem froK{w w':World}(hx:Ext w w'){p:Addr}{v:Value}(h:w.cell? p=some v){b:Bool}(hf:w.frozen? p=b):w'.frozen? p=b:=(hx.frozen (cellT h)).trans hf
def RwA(w:World)(cs:Array Value)(o:Nat)(V:Value)(q:Rat):Prop:=
 ∃(neg:Bool) (A:Option Addr) (n c:Nat) (A':Option Addr) (n' c':Nat),cs[o]?=some V/\cs[o+1]?=some (.bool neg)/\cs[o+2]?=some (.slice A n c)/\cs[o+3]?=some (.slice A' n' c')/\RatR w neg A n c A' n' c' q
def SameBut(o:Nat)(cs cs':Array Value):Prop:=cs'.size=cs.size/\∀k,k≠o+1->k≠o+2->k≠o+3->cs'[k]?=cs[k]?
def SubPost(B gr o:Nat)(tr:TypeId)(cs:Array Value)(gv K cv:Nat)(r:Sx.Rw)(w:World)(e:Ending)(w':World):Prop:=
 e=.returned (.tuple #[])/\∃cs',Blk w' gr tr cs'/\SameBut o cs cs'/\RwA w' cs' o (.slice (some ⟨gv,0,none⟩) K cv) r.re/\OQ QR 35 w' B (.slice (some ⟨gv,0,none⟩) K cv) r.co/\FrS (fun b=>b=gr\/b=gv) w w'
theorem sgn0(q:Rat):sgnI q=0↔q=0:=by
 unfold sgnI;constructor
 ·intro h
  split at h
  ·rename_i h1;exact Rat.num_eq_zero.1 h1
  ·split at h <;> simp at h
 ·rintro rfl;rfl
theorem subL_zero(X:List Rat)(j:Nat)(f:Rat)(Y:List Rat):Sx.subL X j f Y 0=X.set j 0:=by
 unfold Sx.subL Sx.at_;apply uK;intro k;by_cases hk:k<X.length
 ·rw [yW,xJ hk]
  simp only [Option.map_some,Nat.not_lt_zero,if_false];by_cases e:k=j
  ·subst e;rw [if_pos rfl,yM hk]
  ·rw [if_neg e,vN (fun e2=>e e2.symm),yG hk];rfl
 ·rw [yI (by simp;omega),yI (by rw [yV];omega)]
theorem subL_at(X:List Rat)(j:Nat)(f:Rat)(Y:List Rat){i:Nat}(hi:i<X.length):(Sx.subL X j f Y i)[i]?=some (if i=j then 0 else Sx.at_ X i):=by
 unfold Sx.subL;rw [yW,xJ hi];simp only [Option.map_some,Nat.lt_irrefl,if_false]
theorem jzhh(X:List Rat)(j:Nat)(f:Rat)(Y:List Rat){i:Nat}(hi:i<X.length):Sx.subL X j f Y (i+1)=(Sx.subL X j f Y i).set i ((if i=j then 0 else Sx.at_ X i)-f*Sx.at_ Y i):=by
 apply uK;intro k;by_cases hk:k<X.length
 ·by_cases e:i=k
  ·subst e
   rw [yM (by rw [Sx.subL_len];exact hi)];unfold Sx.subL;rw [yW,xJ hk];simp only [Option.map_some];rw [if_pos (show i<i+1 by omega)]
  ·rw [vN e]
   unfold Sx.subL;rw [yW,yW,xJ hk];simp only [Option.map_some];have:(k<i+1↔k<i):=(by omega);by_cases h:k<i
   ·rw [if_pos (this.2 h),if_pos h]
   ·rw [if_neg (fun h2=>h (this.1 h2)),if_neg h]
 ·rw [yI (by rw [Sx.subL_len];omega),yI (by rw [yV,Sx.subL_len];omega)]
theorem subL_skip(X:List Rat)(j:Nat)(f:Rat)(Y:List Rat){i:Nat}(hi:i<X.length)(hy:Sx.at_ Y i=0):Sx.subL X j f Y (i+1)=Sx.subL X j f Y i:=by
 rw [jzhh X j f Y hi,hy,Rat.mul_zero,Rat.sub_eq_add_neg,Rat.neg_zero,Rat.add_zero];have h:=subL_at X j f Y hi;apply uK;intro k;by_cases e:i=k
 ·subst e;rw [yM (by rw [Sx.subL_len];exact hi),h]
 ·rw [vN e]
theorem jzv{X:List Rat}{i:Nat}(hi:i<X.length):X[i]?=some (Sx.at_ X i):=by unfold Sx.at_;rw [yG hi];rfl
theorem jzkk(B B2 gr o:Nat)(tr:TypeId)(cs:Array Value)(gv K cv gy cy j P:Nat)(X Y:List Rat)(x y:Rat)(ny:Bool)(A2:Option Addr)(n2 c2:Nat)(A2':Option Addr)(n2' c2':Nat)(w:World)
  (qm:Blk w gr tr cs) (hrx:RwA w cs o (.slice (some ⟨gv,0,none⟩) K cv) x) (hX:OQ QR 35 w B (.slice (some ⟨gv,0,none⟩) K cv) X) (hK:X.length=K)
  (hY:OQ QR 35 w B2 (.slice (some ⟨gy,0,none⟩) K cy) Y) (q9:Y.length=K) (hy:RatR w ny A2 n2 c2 A2' n2' c2' y)
  (hne:gv≠gy) (q7:tr≠35) (qZ:tr≠167) (hj:j<K) (hK9:K<=1000000000000) (hP:P<=1000000) (qX:∀q∈X,SzQ q P) (q4:SzQ x P) (q3:∀q∈Y,SzQ q P) (q6:SzQ y P):
  Calls Tryz.prog 146 #[.pointer (some ⟨gr,o,none⟩),.int .i64 (j:Int),.agg #[.slice (some ⟨gy,0,none⟩) K cy,.bool ny,.slice A2 n2 c2,.slice A2' n2' c2']] w
   (SubPost B gr o tr cs gv K cv (Sx.subR ⟨X,x⟩ j ⟨Y,y⟩) w):=by
 obtain⟨nx,A1,n1,c1,qF,qD,qI,k0,k1,k2,k3,rx⟩:=hrx;have qW:j<X.length:=(by omega);obtain⟨nf,F1,m1,d1,qg,qe,qf,⟨x0,x1,x2⟩,⟨f0,f1,f2⟩,rf⟩:=hX.cell (jzv qW);have qU:=qX _ (yJ (jzv qW));obtain⟨f,hf⟩:∃f,Sx.at_ X j=f:=⟨_,rfl⟩;rw [hf]at rf qU;have qY:w.cell? ⟨gr,o,none⟩=some (.slice (some ⟨gv,0,none⟩) K cv):=(qm.cell o).trans k0;have q2:gr<w.heap.size:=qm.lt;have qo:gv<w.heap.size:=by
  obtain⟨xs,h1⟩:=hX.own;exact(h1.lt gv rfl).2
 have vh:gy<w.heap.size:=by
  obtain⟨xs,h1⟩:=hY.own;exact(h1.lt gy rfl).2
 have jK:(j:Int)<(K:Int):=(by omega);have j0:(0:Int)<=(j:Int):=(by omega);have H:=Hx (And.intro qm (And.intro hX (And.intro hY (And.intro hy (And.intro rx rf)))));have KS:=Hx (And.intro k0 (And.intro k1 (And.intro k2 k3)));have HS:=Hx (And.intro qX (And.intro q4 (And.intro q3 (And.intro q6 qU))));have HL:=Hx (And.intro hK q9);have HF:=Hx hf;have TT:=Hx (And.intro q7 qZ);clear qm hX hY hy rx rf k0 k1 k2 k3 qX q4 q3 q6 qU hK q9 hf q7 qZ qW;obtain⟨b0,b1,e0⟩:=boxes2 w #[.slice (some ⟨gy,0,none⟩) K cy,.bool ny,.slice A2 n2 c2,.slice A2' n2' c2'] 153 #[.bool nf,.slice F1 m1 d1,.slice qg qe qf] 35;have BB:=Hx (And.intro b0 (And.intro b1 e0));clear b0 b1 e0
 go_enter Tryz.func146,Tryz.ntmps146
 go_wp2_with fail
 refine(jzz nf F1 m1 d1 qg qe qf f _ (H.out.2.2.2.2.2.keep BB.out.2.2)).mono ?_;rintro e w1 ⟨rfl,qG⟩;have B1:=Hx (And.intro (BB.out.1.keep qG) (And.intro (BB.out.2.1.keep qG) (BB.out.2.2.tr qG)));clear qG;have z0:=(B1.out.2.2.cell (p:=⟨gr,o,none⟩) q2).trans qY;by_cases qx:f=0
 ·have hs:sgnI f=0:=(sgn0 f).2 qx
  rw [hs];have qL:=Hx (show SubPost B gr o tr cs gv K cv (Sx.subR ⟨X,x⟩ j ⟨Y,y⟩) w (.returned (.tuple #[])) w1 from by
   have e:Sx.subR ⟨X,x⟩ j ⟨Y,y⟩=⟨X,x⟩:=if_pos (by show Sx.at_ X j=0;rw [HF.out,qx]);rw [e];exact⟨rfl,cs,H.out.1.keep B1.out.2.2,⟨rfl,fun k _ _ _=>rfl⟩,⟨nx,A1,n1,c1,qF,qD,qI,KS.out.1,KS.out.2.1,KS.out.2.2.1,KS.out.2.2.2,H.out.2.2.2.2.1.keep B1.out.2.2⟩,H.out.2.1.keep QR.keep_ B1.out.2.2,FrS.of_ext B1.out.2.2⟩)
  clear hs qx;go_wp2
  go_end0
  exact qL.out
 ·have hs:¬sgnI f=0:=fun h=>qx ((sgn0 f).1 h)
  have vo:(sgnI f==0)=false:=(by simpa using hs);have vu:decide (sgnI f=0)=false:=yP hs;have vi:=Hx qx;clear qx;generalize sgnI f=sf at*;have z1:=(B1.out.2.2.cell (p:=⟨gv,j*3,none⟩) qo).trans x0;have z2:=(B1.out.2.2.cell (p:=⟨gv,j*3+1,none⟩) qo).trans x1;have z3:=(B1.out.2.2.cell (p:=⟨gv,j*3+2,none⟩) qo).trans x2;have y1:=(B1.out.2.2.frozen (p:=⟨gv,j*3,none⟩) qo).trans f0;have y2:=(B1.out.2.2.frozen (p:=⟨gv,j*3+1,none⟩) qo).trans f1;have y3:=(B1.out.2.2.frozen (p:=⟨gv,j*3+2,none⟩) qo).trans f2
  go_upto_region 4 with fail
  have qk:=grown3 w1 gv (j*3) (.bool false) (.slice none 0 0) (.slice none 0 0);have I0:=Hx (show OQ QR 35 (((w1.setCell ⟨gv,j*3,none⟩ (.bool false)).setCell ⟨gv,j*3+1,none⟩ (.slice none 0 0)).setCell ⟨gv,j*3+2,none⟩ (.slice none 0 0)) B (.slice (some ⟨gv,0,none⟩) K cv) (Sx.subL X j f Y 0)/\Blk (((w1.setCell ⟨gv,j*3,none⟩ (.bool false)).setCell ⟨gv,j*3+1,none⟩ (.slice none 0 0)).setCell ⟨gv,j*3+2,none⟩ (.slice none 0 0)) w.heap.size 153 #[.slice (some ⟨gy,0,none⟩) K cy,.bool ny,.slice A2 n2 c2,.slice A2' n2' c2']/\Blk (((w1.setCell ⟨gv,j*3,none⟩ (.bool false)).setCell ⟨gv,j*3+1,none⟩ (.slice none 0 0)).setCell ⟨gv,j*3+2,none⟩ (.slice none 0 0)) (w.heap.size+1) 35 #[.bool nf,.slice F1 m1 d1,.slice qg qe qf]/\FrS (fun b=>b=gv) w (((w1.setCell ⟨gv,j*3,none⟩ (.bool false)).setCell ⟨gv,j*3+1,none⟩ (.slice none 0 0)).setCell ⟨gv,j*3+2,none⟩ (.slice none 0 0))from by
   have vn:=H.out.2.1.keep QR.keep_ B1.out.2.2;refine⟨by rw [subL_zero];exact vn.put HL.out.1 (by rw [HL.out.1];exact hj) (jz6 w1),(qk.block _ B1.out.1.lt (fun e=>by injection e with e;omega)).trans B1.out.1,(qk.block _ B1.out.2.1.lt (fun e=>by injection e with e;omega)).trans B1.out.2.1,(FrS.of_ext B1.out.2.2).tr (FrS.of_grown qk (S:=fun b=>b=gv) fun g e=>by injection e with e;exact e.symm) (fun b hb=>.inl hb)⟩)
  clear qk z1 z2 z3 y1 y2 y3 z0 x0 x1 x2 f0 f1 f2 qY B1 BB;generalize ((w1.setCell ⟨gv,j*3,none⟩ (.bool false)).setCell ⟨gv,j*3+1,none⟩ (.slice none 0 0)).setCell ⟨gv,j*3+2,none⟩ (.slice none 0 0)=W3 at*;have b5:W3.cell? ⟨w.heap.size,0,none⟩=some (.slice (some ⟨gy,0,none⟩) K cy):=(I0.out.2.1.cell 0).trans rfl;go_wp2
  go_loopg [7,8,29] K (fun q _ _ it wr=>∃i:Nat,K-i=q/\i<=K/\it=.int .i64 (i:Int)/\Hid (OQ QR 35 wr B (.slice (some ⟨gv,0,none⟩) K cv) (Sx.subL X j f Y i)/\Blk wr w.heap.size 153 #[.slice (some ⟨gy,0,none⟩) K cy,.bool ny,.slice A2 n2 c2,.slice A2' n2' c2']/\Blk wr (w.heap.size+1) 35 #[.bool nf,.slice F1 m1 d1,.slice qg qe qf]/\FrS (fun b=>b=gv) w wr))
  case atStart=>exact⟨0,rfl,yZ _,rfl,I0⟩
  case round=>
   obtain⟨i,rfl,hi,rfl,I⟩:=hrel;clear I0 b5;have qB:NoT (fun b=>b=gv) w 167:=by
    obtain⟨xs,h1⟩:=H.out.2.1.own;obtain⟨c,h2⟩:=jzl h1 (g:=gv) rfl;exact NoT.one h2 (by decide)
   have qz:=Hx qB;clear qB;by_cases qy:i<K
   ·have qP:i<X.length:=by rw [HL.out.1];exact qy
    have qV:i<Y.length:=(by rw [HL.out.2];exact qy);have qK:=Hx (show SzQ (Sx.at_ Y i) P from HS.out.2.2.1 _ (yJ (jzv qV)));obtain⟨ne,E1,p1,q1,qt,qn,qp,⟨u0,u1,u2⟩,_,re⟩:=(I.out.2.2.2.oq qz.out H.out.2.2.1 (fun g hg e=>by injection hg with hg;exact hne (by rw [<-e];exact hg.symm))).cell (jzv qV);obtain⟨nz,Z1,s1,t1,qE,qA,qJ,⟨v0,v1,v2⟩,⟨g0,g1,g2⟩,rz⟩:=I.out.1.cell (subL_at X j f Y qP);have vk:=Hx (show SzQ (if i=j then 0 else Sx.at_ X i) P from by
     split
     ·exact SzQ.zero.mono (by have:=HS.out.2.2.2.2;by_cases hp:P=0;exact absurd this.2 (by rw [hp];have:=f.den_nz;simp;omega);omega)
     ·exact HS.out.1 _ (yJ (jzv qP)))
    have vc:gr<wr.heap.size:=yL q2 I.out.2.2.2.size;have vg:gv<wr.heap.size:=yL qo I.out.2.2.2.size;have vj:gy<wr.heap.size:=yL vh I.out.2.2.2.size;have b5:wr.cell? ⟨w.heap.size,0,none⟩=some (.slice (some ⟨gy,0,none⟩) K cy):=(I.out.2.1.cell 0).trans rfl;have iK:(i:Int)<(K:Int):=(by omega);have i0:(0:Int)<=(i:Int):=(by omega);have R:=Hx (And.intro re rz);have XB:=(Ext.refl wr).alloc (.cells #[.bool ne,.slice E1 p1 q1,.slice qt qn qp] 35);have SG:=Hx (jzz ne E1 p1 q1 qt qn qp (Sx.at_ Y i) _ (re.keep XB));obtain⟨yi,qR⟩:∃yi,Sx.at_ Y i=yi:=⟨_,rfl⟩;rw [qR]at SG qK;have qS:=Hx qR;clear re rz XB qP qV qR
    go_wp2_with fail
    refine SG.out.mono ?_;rintro e w4 ⟨rfl,x4⟩;have X4:=Hx (show Ext wr w4/\Blk w4 wr.heap.size 35 #[.bool ne,.slice E1 p1 q1,.slice qt qn qp]from⟨((Ext.refl wr).alloc _).tr x4,(Blk.new wr _ _).keep x4⟩);clear x4 SG;by_cases qH:yi=0
    ·have qw:sgnI yi=0:=(sgn0 yi).2 qH
     rw [qw];have I4:=Hx (show OQ QR 35 w4 B (.slice (some ⟨gv,0,none⟩) K cv) (Sx.subL X j f Y (i+1))/\Blk w4 w.heap.size 153 #[.slice (some ⟨gy,0,none⟩) K cy,.bool ny,.slice A2 n2 c2,.slice A2' n2' c2']/\Blk w4 (w.heap.size+1) 35 #[.bool nf,.slice F1 m1 d1,.slice qg qe qf]/\FrS (fun b=>b=gv) w w4 from
      ⟨by rw [subL_skip X j f Y (by rw [HL.out.1];exact qy) (by rw [qS.out,qH])];exact I.out.1.keep QR.keep_ X4.out.1,I.out.2.1.keep X4.out.1,I.out.2.2.1.keep X4.out.1,I.out.2.2.2.tr (FrS.of_ext (S:=fun b=>b=gv) X4.out.1) fun b hb=>.inl hb⟩)
     clear qw qH I u0 u1 u2 v0 v1 v2 g0 g1 g2 b5;go_wp2
     go_roundg (K-(i+1))
     case measure=>omega
     case rel=>exact⟨i+1,rfl,by omega,by go_num,I4⟩
    ·have qw:¬sgnI yi=0:=fun h=>qH ((sgn0 yi).1 h)
     have vw:(sgnI yi !=0)=true:=(by simpa using qw);have vp:decide (sgnI yi=0)=false:=yP qw;have vt:(sgnI yi==0)=false:=(by simpa using qw);generalize sgnI yi=sy at*;have q8:wr.cell? ⟨gr,o,none⟩=some (.slice (some ⟨gv,0,none⟩) K cv):=by
      by_cases e:gr=gv
      ·exfalso
       subst e;obtain⟨xs,h1⟩:=H.out.2.1.own;obtain⟨c,h2⟩:=jzl h1 (g:=gr) rfl;have h3:=H.out.1;unfold Blk at h2 h3;rw [h3]at h2;injection h2 with h2
       injection h2 with _ h2
       exact TT.out.1 h2
      ·exact((I.out.2.2.2.blk H.out.1 e).cell o).trans KS.out.1
     obtain⟨⟨f0,f1,f2⟩,_⟩:=(I.out.2.2.1).three;obtain⟨⟨c0,c1,c2⟩,_⟩:=X4.out.2.three;have XD:=Hx (show Ext w4 w4.drew from(Ext.refl w4).drewN 1);have qa:=Hx (show∀wx,Ext w4 wx->(wx.cell? ⟨gr,o,none⟩=some (.slice (some ⟨gv,0,none⟩) K cv)/\(wx.cell? ⟨gv,i*3,none⟩=some (.bool nz)/\wx.cell? ⟨gv,i*3+1,none⟩=some (.slice Z1 s1 t1)/\wx.cell? ⟨gv,i*3+2,none⟩=some (.slice qE qA qJ))/\(wx.cell? ⟨w.heap.size+1,0,none⟩=some (.bool nf)/\wx.cell? ⟨w.heap.size+1,1,none⟩=some (.slice F1 m1 d1)/\wx.cell? ⟨w.heap.size+1,2,none⟩=some (.slice qg qe qf))/\wx.cell? ⟨wr.heap.size,0,none⟩=some (.bool ne)/\wx.cell? ⟨wr.heap.size,1,none⟩=some (.slice E1 p1 q1)/\wx.cell? ⟨wr.heap.size,2,none⟩=some (.slice qt qn qp))from fun wx hx=>
      have h:=X4.out.1.tr hx
      ⟨cellK h q8,⟨cellK h v0,cellK h v1,cellK h v2⟩,⟨cellK h f0,cellK h f1,cellK h f2⟩,cellK hx c0,cellK hx c1,cellK hx c2⟩)
     have GF:=Hx (show∀wx,Ext w4 wx->wx.frozen? ⟨gv,i*3,none⟩=false/\wx.frozen? ⟨gv,i*3+1,none⟩=false/\wx.frozen? ⟨gv,i*3+2,none⟩=false from fun wx hx=>
      have h:=X4.out.1.tr hx
      ⟨froK h v0 g0,froK h v1 g1,froK h v2 g2⟩)
     have HSW:=Hx (qa.out _ XD.out);clear q8 f0 f1 f2 c0 c1 c2 v0 v1 v2 g0 g1 g2 u0 u1 u2 b5;go_wp2;have RF:=Hx (show RatR w4.drew nf F1 m1 d1 qg qe qf f/\RatR w4.drew ne E1 p1 q1 qt qn qp yi/\RatR w4 nz Z1 s1 t1 qE qA qJ (if i=j then 0 else Sx.at_ X i)from
      ⟨(((I.out.2.2.2.ratR qz.out H.out.2.2.2.2.2).keep X4.out.1).keep XD.out),(by have:=R.out.1;rw [qS.out]at this;exact(this.keep X4.out.1).keep XD.out),R.out.2.keep X4.out.1⟩)
     have LE:=Hx (show m1<=134217728/\qe<=134217728/\p1<=134217728/\qn<=134217728/\s1<=134217728/\qA<=134217728/\SzQ (f*yi) (P+P)from by
      obtain⟨a1,a2⟩:=RF.out.1.lens HS.out.2.2.2.2;obtain⟨a3,a4⟩:=RF.out.2.1.lens qK.out;obtain⟨a5,a6⟩:=RF.out.2.2.lens vk.out;exact⟨by omega,by omega,by omega,by omega,by omega,by omega,HS.out.2.2.2.2.mul qK.out⟩)
     refine jzg (fun w'=>w'.cell? ⟨gr,o,none⟩=some (.slice (some ⟨gv,0,none⟩) K cv)/\(w'.cell? ⟨gv,i*3,none⟩=some (.bool nz)/\w'.cell? ⟨gv,i*3+1,none⟩=some (.slice Z1 s1 t1)/\w'.cell? ⟨gv,i*3+2,none⟩=some (.slice qE qA qJ))/\(w'.cell? ⟨w.heap.size+1,0,none⟩=some (.bool nf)/\w'.cell? ⟨w.heap.size+1,1,none⟩=some (.slice F1 m1 d1)/\w'.cell? ⟨w.heap.size+1,2,none⟩=some (.slice qg qe qf))/\w'.cell? ⟨wr.heap.size,0,none⟩=some (.bool ne)/\w'.cell? ⟨wr.heap.size,1,none⟩=some (.slice E1 p1 q1)/\w'.cell? ⟨wr.heap.size,2,none⟩=some (.slice qt qn qp)) 17 (by kernel_rfl) ?_;refine wT 0 (v:=?_) rfl ?_ HSW.out ?_;rotate_left
     focus (intro w hSw;obtain⟨s0,⟨s1,s2,s3⟩,⟨s4,s5,s6⟩,s7,s8,s9⟩:=hSw;go_simp;try with_reducible rfl)
     try simp only [Act.put,yD,yE,yF]
     refine wT 1 (v:=?_) rfl ?_ HSW.out ?_;rotate_left
     focus (intro w hSw;obtain⟨s0,⟨s1,s2,s3⟩,⟨s4,s5,s6⟩,s7,s8,s9⟩:=hSw;go_simp;try with_reducible rfl)
     try simp only [Act.put,yD,yE,yF]
     refine wT 2 (v:=?_) rfl ?_ HSW.out ?_;rotate_left
     focus (intro w hSw;obtain⟨s0,⟨s1,s2,s3⟩,⟨s4,s5,s6⟩,s7,s8,s9⟩:=hSw;go_simp;try with_reducible rfl)
     try simp only [Act.put,yD,yE,yF]
     refine wT 3 (v:=?_) rfl ?_ HSW.out ?_;rotate_left
     focus (intro w hSw;obtain⟨s0,⟨s1,s2,s3⟩,⟨s4,s5,s6⟩,s7,s8,s9⟩:=hSw;go_simp;try with_reducible rfl)
     try simp only [Act.put,yD,yE,yF]
     refine wT 4 (v:=?_) rfl ?_ HSW.out ?_;rotate_left
     focus (intro w hSw;obtain⟨s0,⟨s1,s2,s3⟩,⟨s4,s5,s6⟩,s7,s8,s9⟩:=hSw;go_simp;try with_reducible rfl)
     try simp only [Act.put,yD,yE,yF]
     refine wT 5 (v:=?_) rfl ?_ HSW.out ?_;rotate_left
     focus (intro w hSw;obtain⟨s0,⟨s1,s2,s3⟩,⟨s4,s5,s6⟩,s7,s8,s9⟩:=hSw;go_simp;try with_reducible rfl)
     try simp only [Act.put,yD,yE,yF]
     refine wT 6 (v:=?_) rfl ?_ HSW.out ?_;rotate_left
     focus (intro w hSw;obtain⟨s0,⟨s1,s2,s3⟩,⟨s4,s5,s6⟩,s7,s8,s9⟩:=hSw;go_simp;try with_reducible rfl)
     try simp only [Act.put,yD,yE,yF]
     refine wT 7 (v:=?_) rfl ?_ HSW.out ?_;rotate_left
     focus (intro w hSw;obtain⟨s0,⟨s1,s2,s3⟩,⟨s4,s5,s6⟩,s7,s8,s9⟩:=hSw;go_simp;try with_reducible rfl)
     try simp only [Act.put,yD,yE,yF]
     refine wT 8 (v:=?_) rfl ?_ HSW.out ?_;rotate_left
     focus (intro w hSw;obtain⟨s0,⟨s1,s2,s3⟩,⟨s4,s5,s6⟩,s7,s8,s9⟩:=hSw;go_simp;try with_reducible rfl)
     try simp only [Act.put,yD,yE,yF]
     refine wT 9 (v:=?_) rfl ?_ HSW.out ?_;rotate_left
     focus (intro w hSw;obtain⟨s0,⟨s1,s2,s3⟩,⟨s4,s5,s6⟩,s7,s8,s9⟩:=hSw;go_simp;try with_reducible rfl)
     try simp only [Act.put,yD,yE,yF]
     refine wT 10 (v:=?_) rfl ?_ HSW.out ?_;rotate_left
     focus (intro w hSw;obtain⟨s0,⟨s1,s2,s3⟩,⟨s4,s5,s6⟩,s7,s8,s9⟩:=hSw;go_simp;try with_reducible rfl)
     try simp only [Act.put,yD,yE,yF]
     refine wT 11 (v:=?_) rfl ?_ HSW.out ?_;rotate_left
     focus (intro w hSw;obtain⟨s0,⟨s1,s2,s3⟩,⟨s4,s5,s6⟩,s7,s8,s9⟩:=hSw;go_simp;try with_reducible rfl)
     try simp only [Act.put,yD,yE,yF]
     refine wT 12 (v:=?_) rfl ?_ HSW.out ?_;rotate_left
     focus (intro w hSw;obtain⟨s0,⟨s1,s2,s3⟩,⟨s4,s5,s6⟩,s7,s8,s9⟩:=hSw;go_simp;try with_reducible rfl)
     try simp only [Act.put,yD,yE,yF]
     refine wT 13 (v:=?_) rfl ?_ HSW.out ?_;rotate_left
     focus (intro w hSw;obtain⟨s0,⟨s1,s2,s3⟩,⟨s4,s5,s6⟩,s7,s8,s9⟩:=hSw;go_simp;try with_reducible rfl)
     try simp only [Act.put,yD,yE,yF]
     refine wC 14 rfl (fun KK hK=>?_);go_simp;refine(jz1 nf ne F1 m1 d1 qg qe qf E1 p1 q1 qt qn qp f yi _ RF.out.1 RF.out.2.1 LE.out.1 LE.out.2.1 LE.out.2.2.1 LE.out.2.2.2.1).mono ?_;rintro e w5 ⟨n5,A5,l5,c5,qN,qO,qM,rfl,h5,x5⟩;have E5:=Hx (XD.out.tr x5);have HSW:=Hx (qa.out _ E5.out);have R5:=Hx h5;obtain⟨ve,vm⟩:=R5.out.lens LE.out.2.2.2.2.2.2;have qQ:=LE.out.2.2.2.2.1;have qT:=LE.out.2.2.2.2.2.1;refine hK.out _ _ HSW.out ?_;clear hK KK h5 x5;refine wC 15 rfl (fun KK hK=>?_);go_simp;refine(jzca nz n5 Z1 s1 t1 qE qA qJ A5 l5 c5 qN qO qM _ (f*yi) _ (RF.out.2.2.keep E5.out) R5.out qQ qT (by omega) (by omega)).mono ?_;rintro e w6 ⟨n6,A6,l6,c6,qh,qj,qi,rfl,h6,x6⟩;have E6:=Hx (E5.out.tr x6);have HSW:=Hx (qa.out _ E6.out);have R6:=Hx h6;refine hK.out _ _ HSW.out ?_;clear hK KK h6 x6;refine wT 16 (v:=?_) rfl ?_ HSW.out ?_;rotate_left
     focus (intro w hSw;obtain⟨s0,⟨s1,s2,s3⟩,⟨s4,s5,s6⟩,s7,s8,s9⟩:=hSw;go_simp;try with_reducible rfl)
     try simp only [Act.put,yD,yE,yF]
     have I6:=Hx (show OQ QR 35 (((w6.setCell ⟨gv,i*3,none⟩ (.bool n6)).setCell ⟨gv,i*3+1,none⟩ (.slice A6 l6 c6)).setCell ⟨gv,i*3+2,none⟩ (.slice qh qj qi)) B (.slice (some ⟨gv,0,none⟩) K cv) (Sx.subL X j f Y (i+1))/\Blk (((w6.setCell ⟨gv,i*3,none⟩ (.bool n6)).setCell ⟨gv,i*3+1,none⟩ (.slice A6 l6 c6)).setCell ⟨gv,i*3+2,none⟩ (.slice qh qj qi)) w.heap.size 153 #[.slice (some ⟨gy,0,none⟩) K cy,.bool ny,.slice A2 n2 c2,.slice A2' n2' c2']/\Blk (((w6.setCell ⟨gv,i*3,none⟩ (.bool n6)).setCell ⟨gv,i*3+1,none⟩ (.slice A6 l6 c6)).setCell ⟨gv,i*3+2,none⟩ (.slice qh qj qi)) (w.heap.size+1) 35 #[.bool nf,.slice F1 m1 d1,.slice qg qe qf]/\FrS (fun b=>b=gv) w (((w6.setCell ⟨gv,i*3,none⟩ (.bool n6)).setCell ⟨gv,i*3+1,none⟩ (.slice A6 l6 c6)).setCell ⟨gv,i*3+2,none⟩ (.slice qh qj qi))from by
      have qk:=grown3 w6 gv (i*3) (.bool n6) (.slice A6 l6 c6) (.slice qh qj qi);have XX:=X4.out.1.tr E6.out;have vl:=I.out.1.keep QR.keep_ XX;refine⟨?_,(qk.block _ (I.out.2.1.keep XX).lt (fun e=>by injection e with e;omega)).trans (I.out.2.1.keep XX),(qk.block _ (I.out.2.2.1.keep XX).lt (fun e=>by injection e with e;omega)).trans (I.out.2.2.1.keep XX),(I.out.2.2.2.tr (FrS.of_ext (S:=fun b=>b=gv) XX) fun b hb=>.inl hb).tr (FrS.of_grown qk (S:=fun b=>b=gv) fun g e=>by injection e with e;exact e.symm) (fun b hb=>.inl hb)⟩;have h7:=jzhh X j f Y (show i<X.length by rw [HL.out.1];exact qy);rw [qS.out]at h7;rw [h7];exact vl.put (by rw [Sx.subL_len];exact HL.out.1) (by rw [Sx.subL_len,HL.out.1];exact qy) R6.out)
     obtain⟨z0,z1,z2⟩:=GF.out _ E6.out;obtain⟨_,⟨t0,t1,t2⟩,_⟩:=HSW.out;refine jzk (by kernel_rfl) rfl (by rfl) (fun KK hK=>?_);go_simp;refine hK.out _ _ ?_;clear hK KK;refine wpAny_done (by kernel_rfl) ?_ _;clear z0 z1 z2 t0 t1 t2 HSW RF LE qa GF E6 R6 E5 R5 XD X4 I R;generalize ((w6.setCell ⟨gv,i*3,none⟩ (.bool n6)).setCell ⟨gv,i*3+1,none⟩ (.slice A6 l6 c6)).setCell ⟨gv,i*3+2,none⟩ (.slice qh qj qi)=W7 at*;go_wp2
     go_roundg (K-(i+1))
     case measure=>omega
     case rel=>exact⟨i+1,rfl,by omega,by go_num,I6⟩
   ·obtain rfl:K=i:=by omega
    have vq:¬((K:Int)<(K:Int)):=(by omega);have va:¬K<K:=Nat.lt_irrefl K;have qC:gr≠gv:=fun e=>by
     subst e;obtain⟨xs,h1⟩:=H.out.2.1.own;obtain⟨c,h2⟩:=jzl h1 (g:=gr) rfl;have h3:=H.out.1;unfold Blk at h2 h3;rw [h3]at h2;injection h2 with h2
     injection h2 with _ h2
     exact TT.out.1 h2
    have BG:=Hx (I.out.2.2.2.blk H.out.1 qC);have RF:=Hx (And.intro (I.out.2.2.2.ratR qz.out H.out.2.2.2.2.1) (And.intro (I.out.2.2.2.ratR qz.out H.out.2.2.2.2.2) (I.out.2.2.2.ratR qz.out H.out.2.2.2.1)));have LE:=Hx (show n1<=134217728/\qD<=134217728/\m1<=134217728/\qe<=134217728/\n2<=134217728/\n2'<=134217728/\SzQ (f*y) (P+P)from by
     obtain⟨a1,a2⟩:=RF.out.1.lens HS.out.2.1;obtain⟨a3,a4⟩:=RF.out.2.1.lens HS.out.2.2.2.2;obtain⟨a5,a6⟩:=RF.out.2.2.lens HS.out.2.2.2.1;exact⟨by omega,by omega,by omega,by omega,by omega,by omega,HS.out.2.2.2.2.mul HS.out.2.2.2.1⟩)
    have XD:=Hx (show Ext wr wr.drew from(Ext.refl wr).drewN 1);have qa:=Hx (show∀wx,Ext wr wx->((wx.cell? ⟨gr,o+1,none⟩=some (.bool nx)/\wx.cell? ⟨gr,o+2,none⟩=some (.slice A1 n1 c1)/\wx.cell? ⟨gr,o+3,none⟩=some (.slice qF qD qI))/\(wx.cell? ⟨w.heap.size+1,0,none⟩=some (.bool nf)/\wx.cell? ⟨w.heap.size+1,1,none⟩=some (.slice F1 m1 d1)/\wx.cell? ⟨w.heap.size+1,2,none⟩=some (.slice qg qe qf))/\wx.cell? ⟨w.heap.size,1,none⟩=some (.bool ny)/\wx.cell? ⟨w.heap.size,2,none⟩=some (.slice A2 n2 c2)/\wx.cell? ⟨w.heap.size,3,none⟩=some (.slice A2' n2' c2'))from fun wx hx=>
     ⟨⟨((BG.out.keep hx).cell _).trans KS.out.2.1,((BG.out.keep hx).cell _).trans KS.out.2.2.1,((BG.out.keep hx).cell _).trans KS.out.2.2.2⟩,(I.out.2.2.1.keep hx).three.1,((I.out.2.1.keep hx).cell 1).trans rfl,((I.out.2.1.keep hx).cell 2).trans rfl,((I.out.2.1.keep hx).cell 3).trans rfl⟩)
    have GF:=Hx (show∀wx,Ext wr wx->wx.frozen? ⟨gr,o+1,none⟩=false/\wx.frozen? ⟨gr,o+2,none⟩=false/\wx.frozen? ⟨gr,o+3,none⟩=false from fun wx hx=>⟨(BG.out.keep hx).frozen _,(BG.out.keep hx).frozen _,(BG.out.keep hx).frozen _⟩);have HSW:=Hx (qa.out _ XD.out);go_wp2;refine jzg (fun w'=>(w'.cell? ⟨gr,o+1,none⟩=some (.bool nx)/\w'.cell? ⟨gr,o+2,none⟩=some (.slice A1 n1 c1)/\w'.cell? ⟨gr,o+3,none⟩=some (.slice qF qD qI))/\(w'.cell? ⟨w.heap.size+1,0,none⟩=some (.bool nf)/\w'.cell? ⟨w.heap.size+1,1,none⟩=some (.slice F1 m1 d1)/\w'.cell? ⟨w.heap.size+1,2,none⟩=some (.slice qg qe qf))/\w'.cell? ⟨w.heap.size,1,none⟩=some (.bool ny)/\w'.cell? ⟨w.heap.size,2,none⟩=some (.slice A2 n2 c2)/\w'.cell? ⟨w.heap.size,3,none⟩=some (.slice A2' n2' c2')) 12 (by kernel_rfl) ?_;refine wT 0 (v:=?_) rfl ?_ HSW.out ?_;rotate_left
    focus (intro w hSw;obtain⟨⟨s1,s2,s3⟩,⟨s4,s5,s6⟩,s7,s8,s9⟩:=hSw;go_simp;try with_reducible rfl)
    try simp only [Act.put,yD,yE,yF]
    refine wT 1 (v:=?_) rfl ?_ HSW.out ?_;rotate_left
    focus (intro w hSw;obtain⟨⟨s1,s2,s3⟩,⟨s4,s5,s6⟩,s7,s8,s9⟩:=hSw;go_simp;try with_reducible rfl)
    try simp only [Act.put,yD,yE,yF]
    refine wT 2 (v:=?_) rfl ?_ HSW.out ?_;rotate_left
    focus (intro w hSw;obtain⟨⟨s1,s2,s3⟩,⟨s4,s5,s6⟩,s7,s8,s9⟩:=hSw;go_simp;try with_reducible rfl)
    try simp only [Act.put,yD,yE,yF]
    refine wT 3 (v:=?_) rfl ?_ HSW.out ?_;rotate_left
    focus (intro w hSw;obtain⟨⟨s1,s2,s3⟩,⟨s4,s5,s6⟩,s7,s8,s9⟩:=hSw;go_simp;try with_reducible rfl)
    try simp only [Act.put,yD,yE,yF]
    refine wT 4 (v:=?_) rfl ?_ HSW.out ?_;rotate_left
    focus (intro w hSw;obtain⟨⟨s1,s2,s3⟩,⟨s4,s5,s6⟩,s7,s8,s9⟩:=hSw;go_simp;try with_reducible rfl)
    try simp only [Act.put,yD,yE,yF]
    refine wT 5 (v:=?_) rfl ?_ HSW.out ?_;rotate_left
    focus (intro w hSw;obtain⟨⟨s1,s2,s3⟩,⟨s4,s5,s6⟩,s7,s8,s9⟩:=hSw;go_simp;try with_reducible rfl)
    try simp only [Act.put,yD,yE,yF]
    refine wT 6 (v:=?_) rfl ?_ HSW.out ?_;rotate_left
    focus (intro w hSw;obtain⟨⟨s1,s2,s3⟩,⟨s4,s5,s6⟩,s7,s8,s9⟩:=hSw;go_simp;try with_reducible rfl)
    try simp only [Act.put,yD,yE,yF]
    refine wT 7 (v:=?_) rfl ?_ HSW.out ?_;rotate_left
    focus (intro w hSw;obtain⟨⟨s1,s2,s3⟩,⟨s4,s5,s6⟩,s7,s8,s9⟩:=hSw;go_simp;try with_reducible rfl)
    try simp only [Act.put,yD,yE,yF]
    refine wC 8 rfl (fun KK hK=>?_);go_simp;refine(jz1 nf ny F1 m1 d1 qg qe qf A2 n2 c2 A2' n2' c2' f y _ (RF.out.2.1.keep XD.out) (RF.out.2.2.keep XD.out) LE.out.2.2.1 LE.out.2.2.2.1 LE.out.2.2.2.2.1 LE.out.2.2.2.2.2.1).mono ?_;rintro e w5 ⟨n5,A5,l5,c5,qN,qO,qM,rfl,h5,x5⟩;have E5:=Hx (XD.out.tr x5);have HSW:=Hx (qa.out _ E5.out);have R5:=Hx h5;obtain⟨ve,vm⟩:=R5.out.lens LE.out.2.2.2.2.2.2;have qQ:=LE.out.1;have qT:=LE.out.2.1;refine hK.out _ _ HSW.out ?_;clear hK KK h5 x5;refine wC 9 rfl (fun KK hK=>?_);go_simp;refine(jzca nx n5 A1 n1 c1 qF qD qI A5 l5 c5 qN qO qM x (f*y) _ (RF.out.1.keep E5.out) R5.out qQ qT (by omega) (by omega)).mono ?_;rintro e w6 ⟨n6,A6,l6,c6,qh,qj,qi,rfl,h6,x6⟩;have E6:=Hx (E5.out.tr x6);have HSW:=Hx (qa.out _ E6.out);have R6:=Hx h6;refine hK.out _ _ HSW.out ?_;clear hK KK h6 x6;refine wC 10 rfl (fun KK hK=>?_);go_simp;refine hK.out _ _ HSW.out ?_;clear hK KK;refine wT 11 (v:=?_) rfl ?_ HSW.out ?_;rotate_left
    focus (intro w hSw;obtain⟨⟨s1,s2,s3⟩,⟨s4,s5,s6⟩,s7,s8,s9⟩:=hSw;go_simp;try with_reducible rfl)
    try simp only [Act.put,yD,yE,yF]
    obtain⟨z0,z1,z2⟩:=GF.out _ E6.out;obtain⟨⟨t0,t1,t2⟩,_⟩:=HSW.out;refine jzk (by kernel_rfl) rfl (by rfl) (fun KK hK=>?_);go_simp;refine hK.out _ _ ?_;clear hK KK;refine wpAny_done (by kernel_rfl) ?_ _;have qL:=Hx (show SubPost B gr o tr cs gv K cv (Sx.subR ⟨X,x⟩ j ⟨Y,y⟩) w (.returned (.tuple #[])) (((w6.setCell ⟨gr,o+1,none⟩ (.bool n6)).setCell ⟨gr,o+1+1,none⟩ (.slice A6 l6 c6)).setCell ⟨gr,o+1+2,none⟩ (.slice qh qj qi))from by
     have qk:=grown3 w6 gr (o+1) (.bool n6) (.slice A6 l6 c6) (.slice qh qj qi);have e:Sx.subR ⟨X,x⟩ j ⟨Y,y⟩=⟨Sx.subL X j f Y K,x-f*y⟩:=by
      unfold Sx.subR;simp only [HF.out];rw [if_neg vi.out,HL.out.1]
     rw [e];have q0:=BG.out.keep E6.out;have vd:o+3<cs.size:=(Array.getElem?_eq_some_iff.1 KS.out.2.2.2).1;have q5:NoT (fun b=>b=gr) w6 167:=NoT.one q0 TT.out.2;have F6:FrS (fun b=>b=gr) w6 (((w6.setCell ⟨gr,o+1,none⟩ (.bool n6)).setCell ⟨gr,o+1+1,none⟩ (.slice A6 l6 c6)).setCell ⟨gr,o+1+2,none⟩ (.slice qh qj qi)):=FrS.of_grown qk fun g e=>(by injection e with e;exact e.symm);refine⟨rfl,_,((q0.set_ (o+1) _).set_ (o+1+1) _).set_ (o+1+2) _,⟨by simp,fun k h1 h2 h3=>?_⟩,⟨n6,A6,l6,c6,qh,qj,qi,?_,?_,?_,?_,F6.ratR q5 R6.out⟩,?_,?_⟩
     ·rw [xH (by omega),xH (by omega),xH (by omega)]
     ·rw [xH (by omega),xH (by omega),xH (by omega)];exact KS.out.1
     ·rw [xH (by omega),xH (by omega),Array.getElem?_setIfInBounds_self_of_lt (by omega)]
     ·rw [xH (by omega),Array.getElem?_setIfInBounds_self_of_lt (by simp;omega)]
     ·rw [Array.getElem?_setIfInBounds_self_of_lt (by simp;omega)]
     ·exact F6.oq q5 (I.out.1.keep QR.keep_ E6.out) fun g hg e=>qC (by injection hg with hg;rw [<-e];exact hg.symm)
     ·exact((I.out.2.2.2.mono (S':=fun b=>b=gr\/b=gv) fun b hb=>.inr hb).tr (FrS.of_ext (S:=fun b=>b=gr\/b=gv) E6.out) fun b hb=>.inl hb).tr F6 fun b hb=>.inl (.inl hb))
    clear z0 z1 z2 t0 t1 t2 HSW RF LE qa GF E6 R6 E5 R5 XD I BG;generalize ((w6.setCell ⟨gr,o+1,none⟩ (.bool n6)).setCell ⟨gr,o+1+1,none⟩ (.slice A6 l6 c6)).setCell ⟨gr,o+1+2,none⟩ (.slice qh qj qi)=W7 at*;go_wp2
    go_end0
    exact qL.out
def setRow(T:Sx.Tb)(k:Nat)(r:Sx.Rw):Sx.Tb:=⟨T.rows.set k r,T.bas,T.fre,T.goal,T.cols⟩
def setGoal(T:Sx.Tb)(r:Sx.Rw):Sx.Tb:=⟨T.rows,T.bas,T.fre,r,T.cols⟩
theorem jzce(T:Sx.Tb){k:Nat}(r:Sx.Rw)(i:Nat)(hk:k<T.rows.length):(setRow T k r).row i=if i=k then r else T.row i:=by
 unfold setRow Sx.Tb.row;by_cases e:i=k
 ·subst e;rw [if_pos rfl];simp only [];rw [yM hk];rfl
 ·rw [if_neg e];simp only [];rw [vN (fun e2=>e e2.symm)]
theorem jzq{w:World}{g:Nat}{t t':TypeId}{cs cs':Array Value}(h:Blk w g t cs)(h':Blk w g t' cs'):cs=cs'/\t=t':=by
 unfold Blk at h h';rw [h]at h';injection h' with h'
 injection h' with e1 e2
 exact⟨e1,e2⟩
theorem jz9{w:World}{B n s:Nat}{e:TypeId}{v:Value}{xs:List Value}(h:w.ownsRow B e s v n xs)(hn:0<n):∃g c cur,v=.slice (some ⟨g,0,none⟩) n c/\B<=g/\Blk w g e cur/\n<=c/\c<=maxLen/\cur.size=c*s/\cur.toList.take (n*s)=xs:=by
 rcases h.2 with⟨_,h1⟩|⟨g,cap,cur,h1,h2,h3,h4,h5,h6,h7⟩
 ·omega
 ·exact⟨g,cap,cur,h1,h2,h3,h4,h5,h6,h7⟩
theorem jzkl{w w':World}{B g m cr k:Nat}{css:List (List Value)}{cs':Array Value}{t:TypeId}{cs:Array Value}{cn:List Value}(h:w.ownsRow B t 4 (.slice (some ⟨g,0,none⟩) m cr) m css.flatten)(hl:css.length=m)(h4:∀c∈css,c.length=4)(hk:k<m)(hb:Blk w g t cs)(hb':Blk w' g t cs')(hsz:cs'.size=cs.size)(hcn:cn.length=4)
  (hin:∀r,r<4->cs'[k*4+r]?=cn[r]?) (hout:∀i,(i<k*4\/k*4+4<=i)->cs'[i]?=cs[i]?):w'.ownsRow B t 4 (.slice (some ⟨g,0,none⟩) m cr) m (css.set k cn).flatten:=by
 have qe:∀c∈css.set k cn,c.length=4:=fun c hc=>by
  rcases xE hc with h1|h1
  ·exact h4 c h1
  ·rw [h1];exact hcn
 obtain⟨g',c',qh,e1,e2,e3,e4,e5,e6,e7⟩:=jz9 h (by omega);injection e1 with e1 _ e1c
 injection e1 with e1
 injection e1 with e1
 subst e1 e1c;obtain⟨rfl,_⟩:=jzq hb e3;have qg:=jzs css h4;have qa:=jzs (css.set k cn) qe;rw [yV]at qa;refine⟨by rw [qa,hl],.inr ⟨g,cr,cs',rfl,e2,hb',e4,e5,by rw [hsz];exact e6,?_⟩⟩;apply uK;intro i;by_cases hi:i<m*4
 ·rw [xG,if_pos hi,Array.getElem?_toList]
  have qf:i/4*4+i%4=i:=(by omega);have f1:=jzu (css.set k cn) qe (i/4) (i%4) (by rw [yV];omega) (by omega);have f0:=jzu css h4 (i/4) (i%4) (by omega) (by omega);rw [qf]at f1 f0;rw [f1];by_cases e:k=i/4
  ·rw [<-e,yM (by omega)]
   have:=hin (i%4) (by omega);rw [show k*4+i%4=i by omega]at this;rw [this];rfl
  ·rw [vN e, <-f0, <-e7,xG,if_pos hi,Array.getElem?_toList]
   exact hout i (by omega)
 ·rw [yI (by simp;omega),yI (by rw [qa];omega)]
section
variable {w w':World} {B:Nat} {L:TLoc} {T:Sx.Tb}
theorem TabR.row_upd(h:TabR w B L T){k:Nat}(hk:k<L.m){r:Sx.Rw}{g cr gv K cv:Nat}{cs cs':Array Value}(hvr:L.vr=.slice (some ⟨g,0,none⟩) L.m cr)(hV:L.V k=.slice (some ⟨gv,0,none⟩) K cv)
  (hb:Blk w g 153 cs) (hb':Blk w' g 153 cs') (hsb:SameBut (k*4) cs cs') (hr:RwA w' cs' (k*4) (L.V k) r.re) (ho:OQ QR 35 w' B (L.V k) r.co) (hf:FrS (fun b=>b=g\/b=gv) w w'):TabR w' B L (setRow T k r):=by
 have qa:∃c,Blk w gv 35 c:=by
  obtain⟨xs,h1⟩:=(h.co k hk).own;exact jzl h1 (by rw [hV];rfl)
 obtain⟨qj,qa⟩:=qa;have qh:∀t,153≠t->35≠t->NoT (fun b=>b=g\/b=gv) w t:=fun t h1 h2 b hbb c fr e=>by
  rcases hbb with rfl|rfl
  ·exact NoT.one hb h1 b rfl c fr e
  ·exact NoT.one qa h2 b rfl c fr e
 have qe:=qh 167 (by decide) (by decide);have far:∀{t:TypeId} {b:Nat} {c:Array Value},Blk w b t c->t≠153->t≠35->¬(b=g\/b=gv):=fun hbb h1 h2 e=>by
  rcases e with rfl|rfl
  ·exact h1 (jzq hbb hb).2
  ·exact h2 (jzq hbb qa).2
 have qf:∀i,i<=L.m->i≠k->∀qs,OQ QR 35 w B (L.V i) qs->OQ QR 35 w' B (L.V i) qs:=fun i hi hne qs hq=>hf.oq qe hq fun b hbb e=>by
  obtain⟨xs,h1⟩:=hq.own;obtain⟨c,h2⟩:=jzl h1 hbb;rcases e with rfl|rfl
  ·have:=(jzq h2 hb).2
   exact absurd this (by decide)
  ·rcases h.sep i k hi (Nat.le_of_lt hk) hne with h3|h3
   ·rw [h3]at hbb;cases hbb
   ·exact h3 (by rw [hbb,hV];rfl)
 have qi:(setRow T k r).rows.length=L.m:=(by show(T.rows.set k r).length=_;rw [yV];exact h.rl);have qg:k<T.rows.length:=(by rw [h.rl];exact hk);refine⟨qi,h.lo,?_,?_,h.bl,?_,?_,h.bf,fun i hi=>?_,qf L.m (yX _) (by omega) _ h.go,h.sep⟩
 ·obtain⟨gs,h1,h2⟩:=h.box
  exact⟨gs,hf.rwc qe h1,hf.blk h2 (far h2 (by decide) (by decide))⟩
 ·obtain⟨css,h1,h2,h3,h4⟩:=h.rows
  obtain⟨neg,A,n,c,A',n',c',r0,r1,r2,r3,rr⟩:=hr;refine⟨css.set k [L.V k,.bool neg,.slice A n c,.slice A' n' c'],by rw [yV];exact h1,fun c hc=>?_,?_,fun i hi=>?_⟩
  ·rcases xE hc with h5|h5
   ·exact h2 c h5
   ·rw [h5];rfl
  ·rw [hvr]at h3⊢
   refine jzkl h3 h1 h2 hk hb hb' hsb.1 rfl (fun j hj=>?_) fun i hi=>hsb.2 i (by omega) (by omega) (by omega);rcases(show j=0\/j=1\/j=2\/j=3 by omega)with rfl|rfl|rfl|rfl
   ·exact r0
   ·exact r1
   ·exact r2
   ·exact r3
  ·rw [jzce T r i qg]
   by_cases e:i=k
   ·subst e
    exact⟨_,yM (by omega),by rw [if_pos rfl];exact⟨neg,A,n,c,A',n',c',rfl,rr⟩⟩
   ·obtain⟨c,h5,h6⟩:=h4 i hi
    exact⟨c,by rw [vN (fun e2=>e e2.symm)];exact h5,by rw [if_neg e];exact hf.rwc qe h6⟩
 ·refine hf.own h.bas fun b hbb=>?_
  obtain⟨c,h1⟩:=jzl h.bas hbb;exact far h1 (by decide) (by decide)
 ·refine hf.own h.fre fun b hbb=>?_
  obtain⟨c,h1⟩:=jzl h.fre hbb;exact far h1 (by decide) (by decide)
 ·rw [jzce T r i qg]
  by_cases e:i=k
  ·subst e;rw [if_pos rfl];exact ho
  ·rw [if_neg e];exact qf i (Nat.le_of_lt hi) e _ (h.co i hi)
theorem TabR.goal_upd(h:TabR w B L T){r:Sx.Rw}{gv K cv:Nat}{cs cs':Array Value}(hV:L.V L.m=.slice (some ⟨gv,0,none⟩) K cv)
  (hb:Blk w L.p 155 cs) (hb':Blk w' L.p 155 cs') (hsb:SameBut 3 cs cs') (hr:RwA w' cs' 3 (L.V L.m) r.re) (ho:OQ QR 35 w' B (L.V L.m) r.co) (hf:FrS (fun b=>b=L.p\/b=gv) w w'):TabR w' B L (setGoal T r):=by
 have qa:∃c,Blk w gv 35 c:=by
  obtain⟨xs,h1⟩:=h.go.own;exact jzl h1 (by rw [hV];rfl)
 obtain⟨qh,qa⟩:=qa;have qe:NoT (fun b=>b=L.p\/b=gv) w 167:=fun b hbb c fr e=>by
  rcases hbb with rfl|rfl
  ·exact NoT.one hb (by decide) _ rfl c fr e
  ·exact NoT.one qa (by decide) _ rfl c fr e
 have far:∀{t:TypeId} {b:Nat} {c:Array Value},Blk w b t c->t≠155->t≠35->¬(b=L.p\/b=gv):=fun hbb h1 h2 e=>by
  rcases e with rfl|rfl
  ·exact h1 (jzq hbb hb).2
  ·exact h2 (jzq hbb qa).2
 refine⟨h.rl,h.lo,?_,?_,h.bl,?_,?_,h.bf,fun i hi=>?_,ho,h.sep⟩
 ·obtain⟨gs,h1,h2⟩:=h.box
  obtain⟨e1,_⟩:=jzq hb h2;obtain⟨n0,A0,m0,d0,qf,qi,qg,e0,_⟩:=h1;obtain⟨neg,A,n,c,A',n',c',r0,r1,r2,r3,rr⟩:=hr;refine⟨[L.V L.m,.bool neg,.slice A n c,.slice A' n' c'],⟨neg,A,n,c,A',n',c',rfl,rr⟩,?_⟩;have:cs'=([L.vr,L.vb,L.vf]++[L.V L.m,Value.bool neg,.slice A n c,.slice A' n' c']++[Value.int .i64 ((setGoal T r).cols:Int)]).toArray:=by
   apply Array.ext_getElem?;intro i;by_cases h3:i=3
   ·subst h3;rw [r0];rfl
   ·by_cases h4:i=4
    ·subst h4;rw [r1];rfl
    ·by_cases h5:i=5
     ·subst h5;rw [r2];rfl
     ·by_cases h6:i=6
      ·subst h6;rw [r3];rfl
      ·rw [hsb.2 i (by omega) (by omega) (by omega),e1,e0]
       rcases(show i=0\/i=1\/i=2\/i=7\/8<=i by omega)with rfl|rfl|rfl|rfl|h8
       ·rfl
       ·rfl
       ·rfl
       ·rfl
       ·rw [Array.getElem?_eq_none (by simpa using h8),Array.getElem?_eq_none (by simpa using h8)]
  rw [<-this];exact hb'
 ·obtain⟨css,h1,h2,h3,h4⟩:=h.rows
  refine⟨css,h1,h2,hf.own h3 fun b hbb=>?_,fun i hi=>?_⟩
  ·obtain⟨c,h5⟩:=jzl h3 hbb
   exact far h5 (by decide) (by decide)
  ·obtain⟨c,h5,h6⟩:=h4 i hi
   exact⟨c,h5,hf.rwc qe h6⟩
 ·refine hf.own h.bas fun b hbb=>?_
  obtain⟨c,h1⟩:=jzl h.bas hbb;exact far h1 (by decide) (by decide)
 ·refine hf.own h.fre fun b hbb=>?_
  obtain⟨c,h1⟩:=jzl h.fre hbb;exact far h1 (by decide) (by decide)
 ·refine hf.oq qe (h.co i hi) fun b hbb e=>?_
  obtain⟨xs,h1⟩:=(h.co i hi).own;obtain⟨c,h2⟩:=jzl h1 hbb;rcases e with rfl|rfl
  ·have:=(jzq h2 hb).2
   exact absurd this (by decide)
  ·rcases h.sep i L.m (Nat.le_of_lt hi) (yX _) (by omega)with h3|h3
   ·rw [h3]at hbb;cases hbb
   ·exact h3 (by rw [hbb,hV];rfl)
end
section
variable {w w':World} {B:Nat} {L:TLoc} {T:Sx.Tb}
theorem TabR.vr_form(h:TabR w B L T)(hm:0<L.m):∃g c,L.vr=.slice (some ⟨g,0,none⟩) L.m c/\L.m<=c:=by
 obtain⟨css,_,_,h3,_⟩:=h.rows;obtain⟨g,c,qa,h1,_,_,h2,_⟩:=jz9 h3 hm;exact⟨g,c,h1,h2⟩
theorem TabR.vb_form(h:TabR w B L T)(hm:0<L.m):∃g c,L.vb=.slice (some ⟨g,0,none⟩) L.m c/\L.m<=c:=by
 obtain⟨g,c,qa,h1,_,_,h2,_⟩:=jz9 h.bas hm;exact⟨g,c,h1,h2⟩
theorem TabR.vf_form(h:TabR w B L T)(hm:0<T.fre.length):∃g c,L.vf=.slice (some ⟨g,0,none⟩) T.fre.length c/\T.fre.length<=c:=by
 obtain⟨g,c,qa,h1,_,_,h2,_⟩:=jz9 h.fre hm;exact⟨g,c,h1,h2⟩
theorem OQ.form{v:Value}{qs:List Rat}(h:OQ QR 35 w B v qs)(hq:0<qs.length):∃g c,v=.slice (some ⟨g,0,none⟩) qs.length c/\qs.length<=c/\g<w.heap.size:=by
 obtain⟨xs,h3⟩:=h.own;obtain⟨g,c,qa,h1,_,h4,h2,_⟩:=jz9 h3 hq;exact⟨g,c,h1,h2,h4.lt⟩
theorem TabR.rwa(h:TabR w B L T){i g c:Nat}(hi:i<L.m)(hvr:L.vr=.slice (some ⟨g,0,none⟩) L.m c):∃cs,Blk w g 153 cs/\RwA w cs (i*4) (L.V i) (T.row i).re:=by
 obtain⟨css,h1,h2,h3,h4⟩:=h.rows;obtain⟨g',c',qe,e1,_,e3,_,_,_,e7⟩:=jz9 h3 (by omega);rw [hvr]at e1;injection e1 with e1 _ _
 injection e1 with e1
 injection e1 with e1
 subst e1;obtain⟨cs,k1,neg,A,n,c1,A',n',qf,rfl,k2⟩:=h4 i hi;have qa:∀r,r<4->qe[i*4+r]?=([L.V i,.bool neg,.slice A n c1,.slice A' n' qf]:List Value)[r]?:=fun r hr=>by
  have hf:=jzu css h2 i r (by omega) hr;rw [k1, <-e7,xG,if_pos (by omega),Array.getElem?_toList]at hf;exact hf
 exact⟨qe,e3,neg,A,n,c1,A',n',qf,qa 0 (by omega),qa 1 (by omega),qa 2 (by omega),qa 3 (by omega),k2⟩
theorem TabR.goa(h:TabR w B L T):∃cs,Blk w L.p 155 cs/\RwA w cs 3 (L.V L.m) T.goal.re/\cs[0]?=some L.vr/\cs[1]?=some L.vb/\cs[2]?=some L.vf/\cs[7]?=some (.int .i64 (T.cols:Int)):=by
 obtain⟨gs,⟨neg,A,n,c,A',n',c',rfl,k2⟩,h2⟩:=h.box;exact⟨_,h2,⟨neg,A,n,c,A',n',c',rfl,rfl,rfl,rfl,k2⟩,rfl,rfl,rfl,rfl⟩
theorem SameBut.refl(o:Nat)(cs:Array Value):SameBut o cs cs:=⟨rfl,fun _ _ _ _=>rfl⟩
theorem TabR.co_set(h:TabR w B L T){i g c gv K cv n:Nat}{q:Rat}{neg:Bool}{A:Option Addr}{n1 c1:Nat}{A':Option Addr}{n1' c1':Nat}(hi:i<L.m)(hvr:L.vr=.slice (some ⟨g,0,none⟩) L.m c)(hV:L.V i=.slice (some ⟨gv,0,none⟩) K cv)(hK:(T.row i).co.length=K)(hn:n<K)(hq:RatR w neg A n1 c1 A' n1' c1' q):
  TabR (((w.setCell ⟨gv,n*3,none⟩ (.bool neg)).setCell ⟨gv,n*3+1,none⟩ (.slice A n1 c1)).setCell ⟨gv,n*3+2,none⟩ (.slice A' n1' c1')) B L (setRow T i ⟨(T.row i).co.set n q,(T.row i).re⟩)/\
  FrS L.S w (((w.setCell ⟨gv,n*3,none⟩ (.bool neg)).setCell ⟨gv,n*3+1,none⟩ (.slice A n1 c1)).setCell ⟨gv,n*3+2,none⟩ (.slice A' n1' c1')):=by
 obtain⟨cs,hb,hr⟩:=h.rwa hi hvr;have qg:=grown3 w gv (n*3) (.bool neg) (.slice A n1 c1) (.slice A' n1' c1');obtain⟨xs,ho⟩:=(h.co i hi).own;obtain⟨cr,qf⟩:=jzl ho (show(L.V i).ownBlock=some gv by rw [hV];rfl);have qm:g≠gv:=fun e=>by
  subst e;have:=(jzq hb qf).2;exact absurd this (by decide)
 have hF:FrS (fun b=>b=gv) w (((w.setCell ⟨gv,n*3,none⟩ (.bool neg)).setCell ⟨gv,n*3+1,none⟩ (.slice A n1 c1)).setCell ⟨gv,n*3+2,none⟩ (.slice A' n1' c1')):=FrS.of_grown qg fun b e=>(by injection e with e;exact e.symm);have qi:NoT (fun b=>b=gv) w 167:=NoT.one qf (by decide);obtain⟨rn,RA,qk,qh,qj,qe,qa,r0,r1,r2,r3,rr⟩:=hr;refine⟨h.row_upd hi hvr hV hb (hF.blk hb qm) (SameBut.refl _ _) ⟨rn,RA,qk,qh,qj,qe,qa,r0,r1,r2,r3,hF.ratR qi rr⟩ ?_ (hF.mono fun b hb=>.inr hb),hF.mono fun b hb=>.inr (.inr (.inr (.inr ⟨i,Nat.le_of_lt hi,by rw [hV,hb];rfl⟩)))⟩;rw [hV];have:=h.co i hi;rw [hV]at this;exact this.put hK (by rw [hK];exact hn) hq
theorem TabR.re_set(h:TabR w B L T){i g c:Nat}{q:Rat}{neg:Bool}{A:Option Addr}{n1 c1:Nat}{A':Option Addr}{n1' c1':Nat}(hi:i<L.m)(hvr:L.vr=.slice (some ⟨g,0,none⟩) L.m c)(hc:0<(T.row i).co.length)(hq:RatR w neg A n1 c1 A' n1' c1' q):
  TabR (((w.setCell ⟨g,i*4+1,none⟩ (.bool neg)).setCell ⟨g,i*4+1+1,none⟩ (.slice A n1 c1)).setCell ⟨g,i*4+1+2,none⟩ (.slice A' n1' c1')) B L (setRow T i ⟨(T.row i).co,q⟩)/\
  FrS L.S w (((w.setCell ⟨g,i*4+1,none⟩ (.bool neg)).setCell ⟨g,i*4+1+1,none⟩ (.slice A n1 c1)).setCell ⟨g,i*4+1+2,none⟩ (.slice A' n1' c1')):=by
 obtain⟨cs,hb,hr⟩:=h.rwa hi hvr;obtain⟨gv,cv,hV,_,_⟩:=(h.co i hi).form hc;have qf:=grown3 w g (i*4+1) (.bool neg) (.slice A n1 c1) (.slice A' n1' c1');have hF:FrS (fun b=>b=g) w (((w.setCell ⟨g,i*4+1,none⟩ (.bool neg)).setCell ⟨g,i*4+1+1,none⟩ (.slice A n1 c1)).setCell ⟨g,i*4+1+2,none⟩ (.slice A' n1' c1')):=FrS.of_grown qf fun b e=>(by injection e with e;exact e.symm);have qa:NoT (fun b=>b=g) w 167:=NoT.one hb (by decide);obtain⟨rn,RA,qk,qi,qj,qh,qe,r0,r1,r2,r3,rr⟩:=hr;have qg:i*4+3<cs.size:=(Array.getElem?_eq_some_iff.1 r3).1;refine⟨h.row_upd hi hvr hV hb (((hb.set_ (i*4+1) _).set_ (i*4+1+1) _).set_ (i*4+1+2) _) ⟨by simp,fun k h1 h2 h3=>?_⟩ ⟨neg,A,n1,c1,A',n1',c1',?_,?_,?_,?_,hF.ratR qa hq⟩ ?_ (hF.mono fun b hb=>.inl hb),hF.mono fun b hb=>.inr (.inl (by rw [hvr,hb];rfl))⟩
 ·rw [xH (by omega),xH (by omega),xH (by omega)]
 ·rw [xH (by omega),xH (by omega),xH (by omega)];exact r0
 ·rw [xH (by omega),xH (by omega),Array.getElem?_setIfInBounds_self_of_lt (by omega)]
 ·rw [xH (by omega),Array.getElem?_setIfInBounds_self_of_lt (by simp;omega)]
 ·rw [Array.getElem?_setIfInBounds_self_of_lt (by simp;omega)]
 ·refine hF.oq qa (h.co i hi) fun b hbb e=>?_
  obtain⟨xs,h1⟩:=(h.co i hi).own;obtain⟨c2,h2⟩:=jzl h1 hbb;subst e;have:=(jzq hb h2).2;exact absurd this (by decide)
def setBas(T:Sx.Tb)(l:List Nat):Sx.Tb:=⟨T.rows,l,T.fre,T.goal,T.cols⟩
def setFre(T:Sx.Tb)(l:List Nat):Sx.Tb:=⟨T.rows,T.bas,l,T.goal,T.cols⟩
theorem jzkm(l:List Nat)(i v:Nat):(ints l).set i (.int .i64 (v:Int))=ints (l.set i v):=by unfold ints;rw [List.map_set]
theorem TabR.int_far(h:TabR w B L T){g:Nat}{cs:Array Value}(hb:Blk w g 3 cs){i:Nat}(u:Value):FrS (fun b=>b=g) w (w.setCell ⟨g,i,none⟩ u)/\NoT (fun b=>b=g) w 167/\(∃gs,RwC (w.setCell ⟨g,i,none⟩ u) gs (L.V L.m) T.goal.re/\Blk (w.setCell ⟨g,i,none⟩ u) L.p 155 ([L.vr,L.vb,L.vf]++gs++[Value.int .i64 (T.cols:Int)]).toArray)/\
  (∃css:List (List Value),css.length=L.m/\(∀cs∈css,cs.length=4)/\(w.setCell ⟨g,i,none⟩ u).ownsRow B 153 4 L.vr L.m css.flatten/\∀k,k<L.m->∃cs,css[k]?=some cs/\RwC (w.setCell ⟨g,i,none⟩ u) cs (L.V k) (T.row k).re)/\
  (∀k,k<L.m->OQ QR 35 (w.setCell ⟨g,i,none⟩ u) B (L.V k) (T.row k).co)/\OQ QR 35 (w.setCell ⟨g,i,none⟩ u) B (L.V L.m) T.goal.co:=by
 have hF:FrS (fun b=>b=g) w (w.setCell ⟨g,i,none⟩ u):=FrS.of_grown (jze w g i u) fun b e=>(by injection e with e;exact e.symm);have hn:NoT (fun b=>b=g) w 167:=NoT.one hb (by decide);have far:∀{t:TypeId} {b:Nat} {c:Array Value},Blk w b t c->t≠3->¬b=g:=fun hbb h1 e=>by
  subst e;exact h1 (jzq hbb hb).2
 have qa:∀k,k<=L.m->∀qs,OQ QR 35 w B (L.V k) qs->OQ QR 35 (w.setCell ⟨g,i,none⟩ u) B (L.V k) qs:=fun k _ qs hq=>hF.oq hn hq fun b hbb=>by
  obtain⟨xs,h1⟩:=hq.own;obtain⟨c,h2⟩:=jzl h1 hbb;exact far h2 (by decide)
 refine⟨hF,hn,?_,?_,fun k hk=>qa k (Nat.le_of_lt hk) _ (h.co k hk),qa L.m (yX _) _ h.go⟩
 ·obtain⟨gs,h1,h2⟩:=h.box
  exact⟨gs,hF.rwc hn h1,hF.blk h2 (far h2 (by decide))⟩
 ·obtain⟨css,h1,h2,h3,h4⟩:=h.rows
  refine⟨css,h1,h2,hF.own h3 fun b hbb=>?_,fun k hk=>?_⟩
  ·obtain⟨c,h5⟩:=jzl h3 hbb
   exact far h5 (by decide)
  ·obtain⟨c,h5,h6⟩:=h4 k hk
   exact⟨c,h5,hF.rwc hn h6⟩
theorem TabR.bas_set(h:TabR w B L T){gb c i v:Nat}(hvb:L.vb=.slice (some ⟨gb,0,none⟩) L.m c):TabR (w.setCell ⟨gb,i,none⟩ (.int .i64 (v:Int))) B L (setBas T (T.bas.set i v))/\FrS L.S w (w.setCell ⟨gb,i,none⟩ (.int .i64 (v:Int))):=by
 obtain⟨cs,hb⟩:=jzl h.bas (show L.vb.ownBlock=some gb by rw [hvb];rfl);obtain⟨hF,hn,h1,h2,h3,h4⟩:=h.int_far hb (i:=i) (.int .i64 (v:Int));refine⟨⟨h.rl,h.lo,h1,h2,by show(T.bas.set i v).length=L.m;rw [yV];exact h.bl,?_,hF.own h.fre fun b hbb e=>?_,h.bf,h3,h4,h.sep⟩,hF.mono fun b hb=>.inr (.inr (.inl (by rw [hvb,hb];rfl)))⟩
 ·have:=h.bas
  rw [hvb]at this⊢;have:=jzbi (k:=i) this (.int .i64 (v:Int));rw [jzkm]at this;exact this
 ·rcases h.bf with h5|h5
  ·rw [hvb]at h5;cases h5
  ·exact h5 (by rw [hbb,hvb,e];rfl)
theorem TabR.fre_set(h:TabR w B L T){gf c i v:Nat}(hvf:L.vf=.slice (some ⟨gf,0,none⟩) T.fre.length c):TabR (w.setCell ⟨gf,i,none⟩ (.int .i64 (v:Int))) B L (setFre T (T.fre.set i v))/\FrS L.S w (w.setCell ⟨gf,i,none⟩ (.int .i64 (v:Int))):=by
 obtain⟨cs,hb⟩:=jzl h.fre (show L.vf.ownBlock=some gf by rw [hvf];rfl);obtain⟨hF,hn,h1,h2,h3,h4⟩:=h.int_far hb (i:=i) (.int .i64 (v:Int));refine⟨⟨h.rl,h.lo,h1,h2,h.bl,hF.own h.bas fun b hbb e=>?_,?_,h.bf,h3,h4,h.sep⟩,hF.mono fun b hb=>.inr (.inr (.inr (.inl (by rw [hvf,hb];rfl))))⟩
 ·rcases h.bf with h5|h5
  ·rw [h5]at hbb;cases hbb
  ·exact h5 (by rw [hbb,hvf,e];rfl)
 ·have:=h.fre
  show(w.setCell ⟨gf,i,none⟩ (.int .i64 (v:Int))).ownsRow B 3 1 L.vf (T.fre.set i v).length (ints (T.fre.set i v));rw [yV];rw [hvf]at this⊢;have:=jzbi (k:=i) this (.int .i64 (v:Int));rw [jzkm]at this;exact this
end
def optN:Option Nat->Int
 |none=> -1
 |some b=>(b:Int)
theorem sgnlt(q:Rat):sgnI q<0↔q<0:=sgn_negS q
def entB(T:Sx.Tb)(n:Nat):Bool:=decide (Sx.at_ T.goal.co n<0)&&(match Sx.entN T n with
 |none=>true
 |some b=>decide (Sx.atN T.fre n<Sx.atN T.fre b))
theorem entN_succ(T:Sx.Tb)(n:Nat):Sx.entN T (n+1)=if entB T n=true then some n else Sx.entN T n:=by
 show(if Sx.at_ T.goal.co n<0 then(match Sx.entN T n with
  |none=>some n
  |some b=>if Sx.atN T.fre n<Sx.atN T.fre b then some n else some b)else Sx.entN T n)=_
 unfold entB;by_cases h:Sx.at_ T.goal.co n<0
 ·rw [if_pos h,yO h,Bool.true_and]
  cases Sx.entN T n with
  |none=>simp
  |some b=>
   by_cases h2:Sx.atN T.fre n<Sx.atN T.fre b
   ·simp [h2]
   ·simp [h2]
 ·rw [if_neg h,yP h];simp
theorem jzbm{w:World}{B g c n i:Nat}{l:List Nat}(h:w.ownsRow B 3 1 (.slice (some ⟨g,0,none⟩) n c) n (ints l))(hi:i<n):w.cell? ⟨g,i,none⟩=some (.int .i64 (Sx.atN l i:Nat)):=by
 obtain⟨g',c',qa,e1,_,e3,_,_,_,e7⟩:=jz9 h (by omega);injection e1 with e1 _ _
 injection e1 with e1
 injection e1 with e1
 subst e1;have hl:l.length=n:=(by have:=h.1;rw [jzx]at this;omega);rw [e3.cell, <-Array.getElem?_toList];have h1:(qa.toList.take (n*1))[i]?=(ints l)[i]?:=(by rw [e7]);rw [xG,if_pos (by omega)]at h1;rw [h1];unfold ints Sx.atN;rw [yW,yG (by omega)];rfl
theorem jziy(B:Nat)(L:TLoc)(T:Sx.Tb)(w:World)(h:TabR w B L T)(qg:T.goal.co.length=T.fre.length)(hK0:0<T.fre.length)(hK:T.fre.length<=1000000000000):
  Calls Tryz.prog 88 #[.pointer (some ⟨L.p,0,none⟩),.pointer (some ⟨L.p,3,none⟩)] w fun e w'=>e=.returned (.int .i64 (optN (Sx.entT T)))/\Ext w w':=by
 have qe:=h.go;obtain⟨gv,cv,hV,qC,qz⟩:=qe.form (by omega);rw [qg]at hV qC;rw [hV]at qe;obtain⟨cp,qi,qD,p0,p1,p2,p7⟩:=h.goa;obtain⟨ni,AI,li,ci,qF,qG,qE,a0,a1,a2,a3,ra⟩:=qD;rw [hV]at a0;have q3:=(qi.cell 3).trans a0;obtain⟨gf,cf,qj,qJ⟩:=h.vf_form hK0;rw [qj]at p2;have qa:=h.fre;rw [qj]at qa;have q2:=(qi.cell 2).trans p2;have HE:=Hx (show Sx.entT T=Sx.entN T T.fre.length by unfold Sx.entT;rw [qg]);have qt:=qi.lt;have Q2:=Hx q2;clear q2;have qf:gf<w.heap.size:=cellT (jzbm qa hK0);have HC:=Hx (And.intro qe (And.intro qa qg));clear h hV qi a0 a1 a2 a3 ra p0 p1 p2 p7 qj qe qa qg;generalize hKK:T.fre.length=K at*;have qI:=Hx hKK;clear hKK
 go_enter Tryz.func88,Tryz.ntmps88
 go_wp2
 go_loopg [5,6,7,13] K (fun m bt _ _ it wr=>∃k:Nat,K-k=m/\k<=K/\it=.int .i64 (k:Int)/\bt=.int .i64 (optN (Sx.entN T k))/\Hid (Ext w wr))
 case atStart=>exact⟨0,rfl,yZ _,rfl,rfl,Hx (Ext.refl _)⟩
 case round=>
  obtain⟨k,rfl,hk,rfl,rfl,EX⟩:=hrel;by_cases qo:k<K
  ·have kN:(k:Int)<(K:Int):=by omega
   have k0:(0:Int)<=(k:Int):=(by omega);obtain⟨neg,A,n,c,A',n',c',⟨i0,i1,i2⟩,_,hR⟩:=HC.out.1.cell (jzv (show k<T.goal.co.length by rw [HC.out.2.2];exact qo));have i0:=cellK EX.out i0;have i1:=cellK EX.out i1;have i2:=cellK EX.out i2;have R:=Hx (hR.keep EX.out);have HS:=Hx (entN_succ T k);generalize hbo:optN (Sx.entN T k)=bo at*;have qk:=Hx hbo;clear hbo;have q3:=cellK EX.out q3;clear hR
   go_upto_region 5 with fail
   obtain⟨bx,e0⟩:=boxes1 wr #[.bool neg,.slice A n c,.slice A' n' c'] 35;generalize wr.alloc (.cells #[.bool neg,.slice A n c,.slice A' n' c'] 35)=W at*;have y0:=XW.cell _ _ _ bx.lt (bx.cell 0);have y1:=XW.cell _ _ _ bx.lt (bx.cell 1);have y2:=XW.cell _ _ _ bx.lt (bx.cell 2);have EW:=Hx (EX.out.tr e0);have E0:=Hx e0;clear e0 bx i0 i1 i2 EX
   go_cut [41] (fun s wx=>s=.bool (entB T k)/\Ext w wx)
   case first=>
    by_cases hx:Sx.at_ T.goal.co k<0
    ·have hs:decide (sgnI (Sx.at_ T.goal.co k)<0)=true:=yO ((sgnlt _).2 hx)
     cases hE:Sx.entN T k with
     |none=>
      have HB:=Hx (show entB T k=true by unfold entB;rw [hE,yO hx];rfl);have qA:decide ((-1:Int)<0)=true:=rfl;have qx:bo= -1:=(by rw [<-qk.out,hE];rfl);subst qx;clear hx hE;refine jzh (by kernel_rfl) (by kernel_rfl) ?_
      repeat (go_big_quiet_step ((go_at_call 23;exact Calls.ext_of (jzz neg A n c A' n' c' (Sx.at_ T.goal.co k) _ (R.out.keep (E0.out.tr (XW.ext _)))))))
      refine wpQuiet_nil ?_;rintro _ ⟨x,rfl⟩;go_wp2;go_meet;exact⟨by rw [HB.out],EW.out.tr x.ext⟩
     |some b=>
      have qH:b<k:=(Sx.entN_some T k hE).1;have HB:=Hx (show decide (((Sx.atN T.fre k:Nat):Int)<((Sx.atN T.fre b:Nat):Int))=entB T k by
       unfold entB;rw [hE,yO hx,Bool.true_and];simp)
      have qy:bo=(b:Int):=(by rw [<-qk.out,hE];rfl);subst qy;have qA:decide ((b:Int)<0)=false:=yP (by omega);have bN:(b:Int)<(K:Int):=(by omega);have b0:(0:Int)<=(b:Int):=(by omega);have z2:=XW.cell _ _ _ (yL qt EW.out.size) (cellK EW.out Q2.out);have zk:=XW.cell _ _ _ (yL qf EW.out.size) (cellK EW.out (jzbm HC.out.2.1 qo));have zb:=XW.cell _ _ _ (yL qf EW.out.size) (cellK EW.out (jzbm HC.out.2.1 (show b<K by omega)));clear hx hE;refine jzh (by kernel_rfl) (by kernel_rfl) ?_
      repeat (go_big_quiet_step ((go_at_call 23;exact Calls.ext_of (jzz neg A n c A' n' c' (Sx.at_ T.goal.co k) _ (R.out.keep (E0.out.tr (XW.ext _)))))))
      refine wpQuiet_nil ?_;rintro _ ⟨x,rfl⟩;go_wp2;go_meet;refine⟨?_,EW.out.tr x.ext⟩;rw [<-HB.out]
      first|rfl|simp
    ·have hs:decide (sgnI (Sx.at_ T.goal.co k)<0)=false:=yP (fun h=>hx ((sgnlt _).1 h))
     have HB:=Hx (show entB T k=false by unfold entB;rw [yP hx];rfl);refine jzh (by kernel_rfl) (by kernel_rfl) ?_
     repeat (go_big_quiet_step ((go_at_call 23;exact Calls.ext_of (jzz neg A n c A' n' c' (Sx.at_ T.goal.co k) _ (R.out.keep (E0.out.tr (XW.ext _)))))))
     refine wpQuiet_nil ?_;rintro _ ⟨x,rfl⟩;go_wp2;go_meet;exact⟨by rw [HB.out],EW.out.tr x.ext⟩
   case rest=>
    obtain⟨rfl,qp⟩:=hcut;have qn:=Hx qp;clear qp y0 y1 y2 EW E0;have qh:=HS.out;generalize entB T k=cond at*;cases cond
    case false=>
     have qm:=Hx (show Sx.entN T (k+1)=Sx.entN T k by rw [qh];rfl);clear qh HS;go_wp2
     go_roundg (K-(k+1))
     case measure=>omega
     case rel=>exact⟨k+1,rfl,by omega,by go_num,by rw [qm.out,qk.out],qn⟩
    case true=>
     have qm:=Hx (show Sx.entN T (k+1)=some k by rw [qh];rfl);clear qh HS;go_wp2
     go_roundg (K-(k+1))
     case measure=>omega
     case rel=>exact⟨k+1,rfl,by omega,by go_num,by rw [qm.out];rfl,qn⟩
  ·have qw:k=K:=by omega
   subst qw;have qB:=Hx (show Sx.entN T k=Sx.entT T from HE.out.symm);go_wp2;go_ret;exact⟨by rw [<-qB.out];rfl,EX.out⟩
end Go.Proofs.YthbmikapohlikaaGreatDoor
