/- Part 7 of 24 of what the Flows claims share (the white space is struck, the texts are joined). -/
import Derived.Laws.MakeOwn
import Derived.Test.YthbmikapohlikaaGreatDoorZ06
set_option linter.unusedVariables false
set_option linter.unusedSimpArgs false
set_option maxRecDepth 100000
set_option maxHeartbeats 8000000
namespace Go.Proofs.YthbmikapohlikaaGreatDoor
open Go.RowKit
def SzQ(q:Rat)(k:Nat):Prop:=q.num.natAbs<B32^k/\q.den<B32^k
def QR(w:World)(cs:List Value)(q:Rat):Prop:=
 ∃(neg:Bool) (A:Option Addr) (n c:Nat) (A':Option Addr) (n' c':Nat),cs=[.bool neg,.slice A n c,.slice A' n' c']/\RatR w neg A n c A' n' c' q
theorem QR.keep{w w':World}{cs:List Value}{q:Rat}(h:QR w cs q)(hx:Ext w w'):QR w' cs q:=by
 obtain⟨neg,A,n,c,A',n',c',e,h1⟩:=h;exact⟨neg,A,n,c,A',n',c',e,h1.keep hx⟩
theorem NatR.lenOf{w:World}{A:Option Addr}{n c N k:Nat}(h:NatR w A n c N)(hN:N<B32^k):n<=k:=by
 obtain⟨ds,rfl,_,qa,rfl,_⟩:=h;exact qa.len_le jzeh hN
theorem RatR.lens{w:World}{neg:Bool}{A:Option Addr}{n c:Nat}{A':Option Addr}{n' c':Nat}{q:Rat}{k:Nat}(h:RatR w neg A n c A' n' c' q)(hs:SzQ q k):n<=k/\n'<=k:=by
 refine⟨h.2.1.lenOf hs.1,h.2.2.lenOf ?_⟩;unfold dk
 split
 ·exact Nat.pow_pos jzm
 ·exact hs.2
theorem jzu{m:Nat}:∀(css:List (List Value)),(∀cs∈css,cs.length=m)->∀(i k:Nat),i<css.length->k<m->css.flatten[i*m+k]?=(css[i]?.getD [])[k]?
 | [],_,i,k,hi,_=>by simp at hi
 |cs::css,h,0,k,_,hk=>by
  rw [Nat.zero_mul,Nat.zero_add,List.flatten_cons,yR (by rw [h cs (by simp)];exact hk)];rfl
 |cs::css,h,i+1,k,hi,hk=>by
  have hl:=h cs (by simp);rw [List.flatten_cons,yS (by rw [hl,xP,xQ];omega),hl,show(i+1)*m+k-m=i*m+k by rw [xP,xQ];omega];rw [jzu css (fun c hc=>h c (by simp [hc])) i k (by simpa using hi) hk];simp
theorem jzs{m:Nat}(css:List (List Value))(h:∀cs∈css,cs.length=m):css.flatten.length=css.length*m:=by
 induction css with
 |nil=>simp
 |cons a l ih=>rw [List.flatten_cons,yQ,h a (by simp),ih (fun c hc=>h c (by simp [hc])),List.length_cons,xP,xQ,Nat.add_comm]
def QL(w:World)(P:Option Addr)(qs:List Rat):Prop:=
 ∃css:List (List Value),css.length=qs.length/\(∀cs∈css,cs.length=3)/\Rd w P css.flatten/\∀(i:Nat) (q:Rat),qs[i]?=some q->∃cs,css[i]?=some cs/\QR w cs q
theorem QL.keep{w w':World}{P:Option Addr}{qs:List Rat}(h:QL w P qs)(hx:Ext w w'):QL w' P qs:=by
 obtain⟨css,h1,h2,h3,h4⟩:=h;refine⟨css,h1,h2,h3.keep hx,fun i q hq=>?_⟩;obtain⟨cs,k1,k2⟩:=h4 i q hq;exact⟨cs,k1,k2.keep hx⟩
theorem QL.at_{w:World}{P:Option Addr}{qs:List Rat}(h:QL w P qs){i:Nat}{q:Rat}(hq:qs[i]?=some q):
  ∃(b o:Nat) (neg:Bool) (A:Option Addr) (n c:Nat) (A':Option Addr) (n' c':Nat),P=some ⟨b,o,none⟩/\b<w.heap.size/\w.cell? ⟨b,o+i*3,none⟩=some (.bool neg)/\w.cell? ⟨b,o+i*3+1,none⟩=some (.slice A n c)/\w.cell? ⟨b,o+i*3+2,none⟩=some (.slice A' n' c')/\RatR w neg A n c A' n' c' q:=by
 obtain⟨css,h1,h2,h3,h4⟩:=h;obtain⟨cs,k1,neg,A,n,c,A',n',c',rfl,k2⟩:=h4 i q hq;have hi:=(yH.1 hq).1;have hl:=jzs css h2;have qa:∀k,k<3->css.flatten[i*3+k]?=([.bool neg,.slice A n c,.slice A' n' c']:List Value)[k]?:=fun k hk=>by
  rw [jzu css h2 i k (by omega) hk,k1];rfl
 obtain⟨b,o,rfl,hb,hc⟩:=h3.at_ (i:=i*3) (by omega);refine⟨b,o,neg,A,n,c,A',n',c',rfl,hb,?_,?_,?_,k2⟩
 ·have:=hc (i*3+0) (by omega)
  rw [qa 0 (by omega)]at this;exact this
 ·have:=hc (i*3+1) (by omega)
  rw [qa 1 (by omega)]at this;exact this
 ·have:=hc (i*3+2) (by omega)
  rw [qa 2 (by omega)]at this;exact this
theorem jzgi(neg:Bool)(A:Option Addr)(n c:Nat)(A':Option Addr)(n' c':Nat)(q:Rat)(w:World)(h:RatR w neg A n c A' n' c' q):
  Calls Tryz.prog 162 #[.agg #[.bool neg,.slice A n c,.slice A' n' c']] w fun e w'=>e=.returned (.bool (decide (sgnI q<0)))/\Ext w w':=by
 obtain⟨qe,e0⟩:=boxes1 w #[.bool neg,.slice A n c,.slice A' n' c'] 35;obtain⟨⟨i0,i1,i2⟩,g0,g1,g2⟩:=qe.three;have H:=Hx h;clear h
 go_enter Tryz.func162,Tryz.ntmps162
 go_wp2_with fail
 refine(jzz neg A n c A' n' c' q _ (H.out.keep e0)).mono ?_;rintro e w1 ⟨rfl,qa⟩;have HX:=Hx (e0.tr qa);clear qa;go_wp2;go_ret;exact⟨rfl,HX.out⟩
def IdxPost(w:World)(qs:List Rat)(e:Ending)(w':World):Prop:=∃r:Int,e=.returned (.int .i64 r)/\decide (0<=r)=qs.any (fun q=>decide (sgnI q<0))/\Ext w w'
theorem jzfu(P:Option Addr)(cp:Nat)(qs:List Rat)(w:World)(h:QL w P qs)(hl:qs.length<=1000000):
  Calls Tryz.prog 202 #[.slice P qs.length cp,.func (.func 162) #[] #[]] w (IdxPost w qs):=by
 have H:=Hx h;clear h
 go_enter Tryz.func202,Tryz.ntmps202
 go_wp2
 go_loopw [5,8] (fun _ it wr=>∃k:Nat,k<=qs.length/\it=.int .i64 k/\(qs.take k).any (fun q=>decide (sgnI q<0))=false/\Ext w wr) (fun _ i _=>qs.length-(intOf i).toNat)
 case atStart=>exact⟨0,yZ _,rfl,rfl,Ext.refl _⟩
 case round=>
  obtain⟨k,hk,rfl,qh,hx⟩:=hrel;have qg:=Hx qh;have HX:=Hx hx;clear qh hx;by_cases qn:k<qs.length
  ·obtain⟨q,hq⟩:∃q,qs[k]?=some q:=⟨_,yG qn⟩
   obtain⟨b,o,neg,A,n,c,A',n',c',rfl,hb,i0,i1,i2,hR⟩:=(H.out.keep HX.out).at_ hq;have R:=Hx hR;have qe:=Hx (show(qs.take (k+1)).any (fun q=>decide (sgnI q<0))=decide (sgnI q<0) by
    rw [List.take_add_one,hq,List.any_append,qg.out];simp)
   have qk:=Hx (show decide (sgnI q<0)=true->qs.any (fun q=>decide (sgnI q<0))=true from fun e=>List.any_eq_true.2 ⟨q,yJ hq,e⟩);clear hq hR
   go_wp2_with fail
   refine(jzgi neg A n c A' n' c' q _ R.out).mono ?_;rintro e w1 ⟨rfl,qi⟩;have qj:=Hx (HX.out.tr qi);clear qi i0 i1 i2;cases hs:decide (sgnI q<0)
   case true=>
    have qa:=qk.out hs;have qf:=Hx qa;clear qa hs;go_wp2;go_ret;exact⟨(k:Int),rfl,by rw [qf.out];simp,qj.out⟩
   case false=>
    have HS:=Hx (qe.out.trans hs);clear hs;go_wp2
    go_roundw
    case rel=>exact⟨k+1,by omega,by go_num,HS.out,qj.out⟩
    case measure=>simp [intOf];omega
  ·have qm:k=qs.length:=by omega
   subst qm;rw [yU (yX _)]at qg;go_wp2;go_ret;exact⟨-1,rfl,by rw [qg.out];rfl,HX.out⟩
theorem jzde(P:Option Addr)(cp:Nat)(qs:List Rat)(w:World)(h:QL w P qs)(hl:qs.length<=1000000):
  Calls Tryz.prog 163 #[.slice P qs.length cp,.func (.func 162) #[] #[]] w fun e w'=>e=.returned (.bool (qs.any (fun q=>decide (sgnI q<0))))/\Ext w w':=by
 have H:=Hx h;clear h;generalize hB:qs.any (fun q=>decide (sgnI q<0))=B;have HB:=Hx hB;clear hB
 go_enter Tryz.func163,Tryz.ntmps163
 go_wp2_with fail
 refine(jzfu P cp qs _ H.out hl).mono ?_;rintro e w1 ⟨r,rfl,hr,qa⟩;rw [HB.out]at hr;subst hr;go_wp2;go_ret;exact⟨rfl,qa⟩
def pricedP(t:Tp)(qs:List Rat):Bool:=decide (qs.length=2*t.links.length)&&!qs.any (fun q=>decide (sgnI q<0))
theorem jzkb(t:Tp)(AO:Option Addr)(co:Nat)(AL:Option Addr)(cl:Nat)(P:Option Addr)(cp:Nat)(qs:List Rat)(w:World)(ht:TopR w t AO co AL cl)(h:QL w P qs)(hl:qs.length<=1000000):
  Calls Tryz.prog 115 #[.agg #[.int .i64 t.nodes,.slice AO t.over.length co,.slice AL t.links.length cl],.slice P qs.length cp] w fun e w'=>e=.returned (.bool (pricedP t qs))/\Ext w w':=by
 obtain⟨qi,e0⟩:=boxes1 w #[.int .i64 t.nodes,.slice AO t.over.length co,.slice AL t.links.length cl] 25;obtain⟨⟨i0,i1,i2⟩,g0,g1,g2⟩:=qi.three;have H:=Hx h;have HT:=Hx ht;have h3:=ht.ll;have h4:=ht.cl;generalize hB:pricedP t qs=B;have HB:=Hx hB;clear h ht hB
 go_enter Tryz.func115,Tryz.ntmps115
 go_wp2_with fail
 refine(jzac t AO co AL cl _ (HT.out.keep e0)).mono ?_;rintro e w1 ⟨rfl,qe⟩;have HX:=Hx (e0.tr qe);clear qe i0 i1 i2 g0 g1 g2;by_cases he:qs.length=2*t.links.length
 ·have qh:((qs.length:Int)==2*(t.links.length:Int))=true:=by simp;omega
  have qa:B=!qs.any (fun q=>decide (sgnI q<0)):=(by rw [<-HB.out];unfold pricedP;rw [yO he];rfl);subst qa;clear he HB
  go_wp2_with fail
  refine(jzde P cp qs _ (H.out.keep HX.out) hl).mono ?_;rintro e w2 ⟨rfl,qf⟩;have qg:=Hx (HX.out.tr qf);clear qf;generalize hZ:qs.any (fun q=>decide (sgnI q<0))=Z at*;have HZ:=Hx hZ;clear hZ;go_wp2;go_ret;exact⟨by rw [HZ.out];rfl,qg.out⟩
 ·have qh:((qs.length:Int)==2*(t.links.length:Int))=false:=yK.2 (by omega)
  have qa:B=false:=(by rw [<-HB.out];unfold pricedP;rw [yP he];rfl);subst qa;clear he HB;go_wp2;go_ret;exact⟨rfl,HX.out⟩
def or3(x y z:Int):Int:=if x≠0 then x else if y≠0 then y else z
def lexI:List Nat->List Nat->Int
 | [],[]=>0
 | [],_::_=> -1
 |_::_,[]=>1
 |a::x,b::y=>if a<b then-1 else if a=b then lexI x y else 1
theorem jzhd(g:Nat)(x y z:Int)(w:World)(h:Blk w g 3 #[.int .i64 x,.int .i64 y,.int .i64 z]):
  Calls Tryz.prog 164 #[.slice (some ⟨g,0,none⟩) 3 3] w fun e w'=>e=.returned (.int .i64 (or3 x y z))/\w=w':=by
 obtain⟨⟨i0,i1,i2⟩,_⟩:=h.three;have hR:∃R,R=or3 x y z:=⟨_,rfl⟩;obtain⟨R,hR⟩:=hR;have HR:=Hx hR;rw [<-hR];clear h hR
 go_enter Tryz.func164,Tryz.ntmps164
 go_wp2
 go_loop [5,8] (fun _ it=>∃k:Nat,k<=3/\it=.int .i64 k/\(1<=k->x=0)/\(2<=k->y=0)/\(3<=k->z=0)) (fun _ i=>3-(intOf i).toNat)
 case atStart=>exact⟨0,by omega,rfl,by omega,by omega,by omega⟩
 case round=>
  obtain⟨k,hk,rfl,h1,h2,h3⟩:=hrel;have H1:=Hx h1;have H2:=Hx h2;have H3:=Hx h3;clear h1 h2 h3;obtain rfl|rfl|rfl|rfl:k=0\/k=1\/k=2\/k=3:=by omega
  ·by_cases hx:x=0
   ·have hb:(x !=0)=false:=by simp [hx]
    have HX:=Hx hx;clear hx;go_wp2
    go_round
    case rel=>exact⟨1,by omega,rfl,fun _=>HX.out,by omega,by omega⟩
    case measure=>simp [intOf]
   ·have hb:(x !=0)=true:=bne_iff_ne.2 hx
    have HX:=Hx (show x=R by rw [HR.out];unfold or3;rw [if_pos hx]);go_wp2;go_ret;exact⟨by rw [<-HX.out];rfl,rfl⟩
  ·by_cases hx:y=0
   ·have hb:(y !=0)=false:=by simp [hx]
    have HX:=Hx hx;clear hx;go_wp2
    go_round
    case rel=>exact⟨2,by omega,rfl,fun _=>H1.out (by omega),fun _=>HX.out,by omega⟩
    case measure=>simp [intOf]
   ·have hb:(y !=0)=true:=bne_iff_ne.2 hx
    have HX:=Hx (show y=R by rw [HR.out];unfold or3;rw [if_neg (by simpa using H1.out (by omega)),if_pos hx]);go_wp2;go_ret;exact⟨by rw [<-HX.out];rfl,rfl⟩
  ·by_cases hx:z=0
   ·have hb:(z !=0)=false:=by simp [hx]
    have HX:=Hx hx;clear hx;go_wp2
    go_round
    case rel=>exact⟨3,by omega,rfl,fun _=>H1.out (by omega),fun _=>H2.out (by omega),fun _=>HX.out⟩
    case measure=>simp [intOf]
   ·have hb:(z !=0)=true:=bne_iff_ne.2 hx
    have HX:=Hx (show z=R by rw [HR.out];unfold or3;rw [if_neg (by simpa using H1.out (by omega)),if_neg (by simpa using H2.out (by omega))]);go_wp2;go_ret;exact⟨by rw [<-HX.out];rfl,rfl⟩
  ·have HX:=Hx (show 0=R by rw [HR.out];unfold or3;rw [if_neg (by simpa using H1.out (by omega)),if_neg (by simpa using H2.out (by omega)),H3.out (by omega)])
   go_wp2;go_ret;exact⟨by rw [<-HX.out];rfl,rfl⟩
theorem jzes(x y:Nat):Lib.compareInt (x:Int) (y:Int)=cmpI x y:=by
 unfold Lib.compareInt cmpI
 split <;> split <;> (try split) <;> omega
theorem jzb9(x y:Nat)(w:World):Calls Tryz.prog 165 #[.int .i64 x,.int .i64 y] w fun e w'=>e=.returned (.int .i64 (cmpI x y))/\w=w':=by
 refine(Tryz.cmp_Compare_int x y w).mono ?_;rintro e w' ⟨rfl,rfl⟩;exact⟨by rw [jzes],rfl⟩
theorem lexI_drop{l1 l2:List Nat}{k a b:Nat}(h1:l1[k]?=some a)(h2:l2[k]?=some b):lexI (l1.drop k) (l2.drop k)=if a<b then-1 else if a=b then lexI (l1.drop (k+1)) (l2.drop (k+1))else 1:=by
 obtain⟨qa,e1⟩:=yH.1 h1;obtain⟨qe,e2⟩:=yH.1 h2;rw [List.drop_eq_getElem_cons qa,List.drop_eq_getElem_cons qe,lexI,e1,e2]
theorem jzcy(A1 A2:Option Addr)(c1 c2:Nat)(l1 l2:List Nat)(w:World)(hr1:Rd w A1 (ints l1))(hr2:Rd w A2 (ints l2))(hl1:l1.length<=1000000)(hl2:l2.length<=1000000):
  Calls Tryz.prog 166 #[.slice A1 l1.length c1,.slice A2 l2.length c2] w fun e w'=>e=.returned (.int .i64 (lexI l1 l2))/\w=w':=by
 have R1:=Hx hr1;have R2:=Hx hr2;obtain⟨R,hR⟩:∃R,R=lexI l1 l2:=⟨_,rfl⟩;have HR:=Hx hR;rw [<-hR];clear hr1 hr2 hR
 go_enter Tryz.func166,Tryz.ntmps166
 go_wp2
 go_loop [5,6,7,8,11] (fun _ _ _ _ it=>∃k:Nat,k<=l1.length/\k<=l2.length/\it=.int .i64 k/\lexI (l1.drop k) (l2.drop k)=R) (fun _ _ _ _ i=>l1.length-(intOf i).toNat)
 case atStart=>exact⟨0,yZ _,yZ _,rfl,HR.out.symm⟩
 case round=>
  obtain⟨k,qw,qp,rfl,qg⟩:=hrel;have HL:=Hx qg;clear qg;by_cases qk:k<l1.length
  ·obtain⟨a,ha⟩:∃a,l1[k]?=some a:=⟨_,yG qk⟩
   obtain⟨b,o,rfl,hb,qn⟩:=R1.out.ints_ qk;rw [ha,Option.getD_some]at qn;by_cases qe:k<l2.length
   ·obtain⟨a2,qj⟩:∃a,l2[k]?=some a:=⟨_,yG qe⟩
    obtain⟨b2,o2,rfl,qt,qm⟩:=R2.out.ints_ qe;rw [qj,Option.getD_some]at qm;have hl:=HL.out;rw [lexI_drop ha qj]at hl;have qi:=Hx hl;clear hl ha qj
    go_wp2_with fail
    refine(jzb9 a a2 _).mono ?_;rintro e w1 ⟨rfl,rfl⟩;by_cases qf:a<a2
    ·have hv:cmpI a a2= -1:=by unfold cmpI;rw [if_pos qf]
     have qa:=Hx (show-1=R by rw [<-qi.out,if_pos qf]);rw [hv];clear hv;go_wp2;go_ret;exact⟨by rw [<-qa.out];rfl,rfl⟩
    ·by_cases qh:a=a2
     ·have hv:cmpI a a2=0:=by unfold cmpI;rw [if_neg qf,if_pos qh]
      have qa:=Hx (show lexI (l1.drop (k+1)) (l2.drop (k+1))=R by rw [<-qi.out,if_neg qf,if_pos qh]);rw [hv];clear hv qh;go_wp2
      go_round
      case rel=>exact⟨k+1,by omega,by omega,by go_num,qa.out⟩
      case measure=>simp [intOf];omega
     ·have hv:cmpI a a2=1:=by unfold cmpI;rw [if_neg qf,if_neg qh]
      have qa:=Hx (show 1=R by rw [<-qi.out,if_neg qf,if_neg qh]);rw [hv];clear hv;go_wp2;go_ret;exact⟨by rw [<-qa.out];rfl,rfl⟩
   ·have qa:=Hx (show 1=R by
     rw [<-HL.out,List.drop_eq_getElem_cons qk,List.drop_of_length_le (show l2.length<=k by omega)];rfl)
    clear ha;go_wp2;go_ret;exact⟨by rw [<-qa.out];rfl,rfl⟩
  ·have qo:k=l1.length:=by omega
   subst qo;by_cases qe:l1.length<l2.length
   ·have qa:=Hx (show-1=R by
     rw [<-HL.out,List.drop_of_length_le (yX _),List.drop_eq_getElem_cons qe];rfl)
    go_wp2;go_ret;exact⟨by rw [<-qa.out];rfl,rfl⟩
   ·have qa:=Hx (show 0=R by
     rw [<-HL.out,List.drop_of_length_le (yX _),List.drop_of_length_le (show l2.length<=l1.length by omega)];rfl)
    go_wp2;go_ret;exact⟨by rw [<-qa.out];rfl,rfl⟩
def cmpL(p q:Rat)(x y:List Nat):Int:=or3 (cmpQ p q) (cmpI x.length y.length) (lexI x y)
theorem jzd5(k1 d1 na k2 d2 nb:Bool)(A1:Option Addr)(n1 c1:Nat)(A1':Option Addr)(n1' c1':Nat)(A2:Option Addr)(n2 c2:Nat)(A2':Option Addr)(n2' c2':Nat)(AX AY:Option Addr)(cx cy:Nat)(p q:Rat)(x y:List Nat)(w:World)
  (ha:RatR w na A1 n1 c1 A1' n1' c1' p) (hb:RatR w nb A2 n2 c2 A2' n2' c2' q) (l1:n1<=268435456) (l1':n1'<=268435456) (l2:n2<=268435456) (l2':n2'<=268435456) (hx:Rd w AX (ints x)) (hy:Rd w AY (ints y)) (hxl:x.length<=1000000) (hyl:y.length<=1000000):
  Calls Tryz.prog 119 #[.agg #[.bool k1,.bool d1,.bool na,.slice A1 n1 c1,.slice A1' n1' c1',.slice AX x.length cx],.agg #[.bool k2,.bool d2,.bool nb,.slice A2 n2 c2,.slice A2' n2' c2',.slice AY y.length cy]] w fun e w'=>e=.returned (.int .i64 (cmpL p q x y))/\Ext w w':=by
 obtain⟨qe,qa,e0⟩:=boxes2 w #[.bool k1,.bool d1,.bool na,.slice A1 n1 c1,.slice A1' n1' c1',.slice AX x.length cx] 189 #[.bool k2,.bool d2,.bool nb,.slice A2 n2 c2,.slice A2' n2' c2',.slice AY y.length cy] 189;have HA:=Hx ha;have HB:=Hx hb;have HX:=Hx hx;have HY:=Hx hy;obtain⟨R,hR⟩:∃R,R=cmpL p q x y:=⟨_,rfl⟩;have HR:=Hx hR;rw [<-hR];clear ha hb hx hy hR;generalize hW:(w.alloc (.cells #[.bool k1,.bool d1,.bool na,.slice A1 n1 c1,.slice A1' n1' c1',.slice AX x.length cx] 189)).alloc (.cells #[.bool k2,.bool d2,.bool nb,.slice A2 n2 c2,.slice A2' n2' c2',.slice AY y.length cy] 189)=W at*;have qi:=qe.cell 2;have qk:=qe.cell 3;have qn:=qe.cell 4;have qj:=qe.cell 5;have qf:=qa.cell 2;have qh:=qa.cell 3;have qm:=qa.cell 4;have qg:=qa.cell 5;simp only [xI,List.getElem?_cons_zero,List.getElem?_cons_succ]at qi qk qn qj qf qh qm qg;have BA:=Hx qe;have BB:=Hx qa;have E0:=Hx e0;clear qe qa e0
 go_enter Tryz.func119,Tryz.ntmps119
 go_wp2;clear hW;have W0:=Hx (show Ext w W.drew from E0.out.drewN 1);have BA:Hid (Blk W.drew _ _ _):=BA.out;have BB:Hid (Blk W.drew _ _ _):=BB.out
 go_region_held3 (fun w'=>w'.cell? ⟨w.heap.size,2,none⟩=some (.bool na)/\w'.cell? ⟨w.heap.size,3,none⟩=some (.slice A1 n1 c1)/\w'.cell? ⟨w.heap.size,4,none⟩=some (.slice A1' n1' c1')/\w'.cell? ⟨w.heap.size,5,none⟩=some (.slice AX x.length cx)/\
   w'.cell? ⟨w.heap.size+1,2,none⟩=some (.bool nb)/\w'.cell? ⟨w.heap.size+1,3,none⟩=some (.slice A2 n2 c2)/\w'.cell? ⟨w.heap.size+1,4,none⟩=some (.slice A2' n2' c2')/\w'.cell? ⟨w.heap.size+1,5,none⟩=some (.slice AY y.length cy))
  (first|exact⟨qi,qk,qn,qj,qf,qh,qm,qg⟩|exact⟨jzc qi _,jzc qk _,jzc qn _,jzc qj _,jzc qf _,jzc qh _,jzc qm _,jzc qg _⟩)
  (first
   |(go_at_call 20
     refine(jz4 na nb A1 n1 c1 A1' n1' c1' A2 n2 c2 A2' n2' c2' p q _ (by exact HA.out.keep W0.out) (by exact HB.out.keep W0.out) l1 l1' l2 l2').mono ?_;rintro e w5 ⟨rfl,qo⟩;have X5:=Hx (W0.out.tr qo);have B5:=Hx (BA.out.keep qo);have C5:=Hx (BB.out.keep qo);have qi:=B5.out.cell 2;have qk:=B5.out.cell 3;have qn:=B5.out.cell 4;have qj:=B5.out.cell 5;have qf:=C5.out.cell 2;have qh:=C5.out.cell 3;have qm:=C5.out.cell 4;have qg:=C5.out.cell 5;simp only [xI,List.getElem?_cons_zero,List.getElem?_cons_succ]at qi qk qn qj qf qh qm qg;clear qo)
   |(go_at_call 165
     refine(jzb9 x.length y.length _).mono ?_;rintro e w6 ⟨rfl,rfl⟩)
   |(go_at_call 166
     refine(jzcy AX AY cx cy x y _ (by exact HX.out.keep X5.out) (by exact HY.out.keep X5.out) hxl hyl).mono ?_;rintro e w6 ⟨rfl,rfl⟩)
   |(go_at_call 164
     refine(jzhd w5.heap.size (cmpQ p q) (cmpI x.length y.length) (lexI x y) _ (Blk.new _ _ _)).mono ?_;rintro e w7 ⟨rfl,rfl⟩;have qp:=Hx (X5.out.alloc (.cells #[.int .i64 (cmpQ p q),.int .i64 (cmpI x.length y.length),.int .i64 (lexI x y)] 3))))
 all_goals
  go_wp2;go_ret;exact⟨by rw [HR.out];rfl,qp.out⟩
def prQ(ps:List Rat)(arcs:List Nat):Rat:=arcs.foldl (fun s a=>s+ps[a]?.getD 0) 0
theorem jzdf(ps:List Rat)(arcs:List Nat)(a:Nat):prQ ps (arcs++[a])=prQ ps arcs+ps[a]?.getD 0:=by unfold prQ;rw [List.foldl_append];rfl
structure Lb where
 known:Bool
 done:Bool
 arcs:List Nat
def LbR(w:World)(ps:List Rat)(cs:List Value)(lb:Lb):Prop:=
 ∃(neg:Bool) (A:Option Addr) (n c:Nat) (A':Option Addr) (n' c':Nat) (AX:Option Addr) (cx:Nat),cs=[.bool lb.known,.bool lb.done,.bool neg,.slice A n c,.slice A' n' c',.slice AX lb.arcs.length cx]/\RatR w neg A n c A' n' c' (prQ ps lb.arcs)/\lb.arcs.length<=cx/\RdT w 3 AX (ints lb.arcs)
theorem LbR.keep{w w':World}{ps:List Rat}{cs:List Value}{lb:Lb}(h:LbR w ps cs lb)(hx:Ext w w'):LbR w' ps cs lb:=by
 obtain⟨neg,A,n,c,A',n',c',AX,cx,e,h1,h2,h3⟩:=h;exact⟨neg,A,n,c,A',n',c',AX,cx,e,h1.keep hx,h2,h3.keep hx⟩
def LbsR(w:World)(ps:List Rat)(g:Nat)(ls:List Lb):Prop:=
 ∃css:List (List Value),css.length=ls.length/\(∀cs∈css,cs.length=6)/\Blk w g 189 css.flatten.toArray/\∀(i:Nat) (lb:Lb),ls[i]?=some lb->∃cs,css[i]?=some cs/\LbR w ps cs lb
theorem LbsR.keep{w w':World}{ps:List Rat}{g:Nat}{ls:List Lb}(h:LbsR w ps g ls)(hx:Ext w w'):LbsR w' ps g ls:=by
 obtain⟨css,h1,h2,h3,h4⟩:=h;refine⟨css,h1,h2,h3.keep hx,fun i lb hl=>?_⟩;obtain⟨cs,k1,k2⟩:=h4 i lb hl;exact⟨cs,k1,k2.keep hx⟩
theorem LbsR.lt{w:World}{ps:List Rat}{g:Nat}{ls:List Lb}(h:LbsR w ps g ls):g<w.heap.size:=by
 obtain⟨css,_,_,h3,_⟩:=h;exact h3.lt
theorem LbsR.at_{w:World}{ps:List Rat}{g:Nat}{ls:List Lb}(h:LbsR w ps g ls){i:Nat}{lb:Lb}(hl:ls[i]?=some lb):
  ∃(neg:Bool) (A:Option Addr) (n c:Nat) (A':Option Addr) (n' c':Nat) (AX:Option Addr) (cx:Nat),
   (w.cell? ⟨g,i*6,none⟩=some (.bool lb.known)/\w.cell? ⟨g,i*6+1,none⟩=some (.bool lb.done)/\w.cell? ⟨g,i*6+2,none⟩=some (.bool neg)/\w.cell? ⟨g,i*6+3,none⟩=some (.slice A n c)/\w.cell? ⟨g,i*6+4,none⟩=some (.slice A' n' c')/\w.cell? ⟨g,i*6+5,none⟩=some (.slice AX lb.arcs.length cx))/\
   RatR w neg A n c A' n' c' (prQ ps lb.arcs)/\lb.arcs.length<=cx/\RdT w 3 AX (ints lb.arcs):=by
 obtain⟨css,h1,h2,h3,h4⟩:=h;obtain⟨cs,k1,neg,A,n,c,A',n',c',AX,cx,rfl,k2,k3,k4⟩:=h4 i lb hl;have hi:=(yH.1 hl).1;have qa:∀k,k<6->w.cell? ⟨g,i*6+k,none⟩=([.bool lb.known,.bool lb.done,.bool neg,.slice A n c,.slice A' n' c',.slice AX lb.arcs.length cx]:List Value)[k]?:=fun k hk=>by
  rw [h3.cell,xI,jzu css h2 i k (by omega) hk,k1];rfl
 exact⟨neg,A,n,c,A',n',c',AX,cx,⟨qa 0 (by omega),qa 1 (by omega),qa 2 (by omega),qa 3 (by omega),qa 4 (by omega),qa 5 (by omega)⟩,k2,k3,k4⟩
def befP(ps:List Rat)(x y:List Nat):Bool:=decide (cmpL (prQ ps x) (prQ ps y) x y<0)
def firstTo(ps:List Rat)(ls:List Lb):Nat->Int
 |0=> -1
 |k+1=>match ls[k]? with
  |none=>firstTo ps ls k
  |some l=>if l.known&&!l.done&&(decide (firstTo ps ls k<0)||befP ps l.arcs ((ls[(firstTo ps ls k).toNat]?.map Lb.arcs).getD []))then(k:Int)else firstTo ps ls k
def firstP(ps:List Rat)(ls:List Lb):Int:=firstTo ps ls ls.length
theorem jzbh(ps:List Rat)(ls:List Lb):∀k,firstTo ps ls k= -1\/(0<=firstTo ps ls k/\(firstTo ps ls k).toNat<k/\(firstTo ps ls k).toNat<ls.length)
 |0=>.inl rfl
 |k+1=>by
  have ih:=jzbh ps ls k;unfold firstTo
  split
  ·rcases ih with h|h
   ·exact .inl h
   ·exact .inr ⟨h.1,by omega,h.2.2⟩
  ·rename_i l hl
   split
   ·have:=(yH.1 hl).1
    exact .inr ⟨by omega,by omega,by omega⟩
   ·rcases ih with h|h
    ·exact .inl h
    ·exact .inr ⟨h.1,by omega,h.2.2⟩
def SzL(ps:List Rat)(ls:List Lb):Prop:=∀lb∈ls,SzQ (prQ ps lb.arcs) 268435456/\lb.arcs.length<=1000
theorem first_any(g:Nat)(ps:List Rat)(ls:List Lb)(w:World)(h:LbsR w ps g ls)(hsz:SzL ps ls)(hl:ls.length<=1000):
  Calls Tryz.prog 116 #[.slice (some ⟨g,0,none⟩) ls.length ls.length] w fun e w'=>e=.returned (.int .i64 (firstP ps ls))/\Ext w w':=by
 have H:=Hx h;have SZ:=Hx hsz;clear h hsz
 go_enter Tryz.func116,Tryz.ntmps116
 go_wp2
 go_loopg [3,4,5,8] ls.length (fun m bt _ _ it wr=>∃k:Nat,ls.length-k=m/\k<=ls.length/\it=.int .i64 k/\bt=.int .i64 (firstTo ps ls k)/\Ext w wr)
 case atStart=>exact⟨0,rfl,yZ _,rfl,rfl,Ext.refl _⟩
 case round=>
  obtain⟨k,rfl,hk,rfl,rfl,hx⟩:=hrel;have EX:=Hx hx;have qB:=jzbh ps ls k;have qw:=Hx (show firstTo ps ls (k+1)=match ls[k]? with
   |none=>firstTo ps ls k
   |some l=>if l.known&&!l.done&&(decide (firstTo ps ls k<0)||befP ps l.arcs ((ls[(firstTo ps ls k).toNat]?.map Lb.arcs).getD []))then(k:Int)else firstTo ps ls k from rfl)
  generalize hbb:firstTo ps ls k=b at*;have qJ:=Hx hbb;clear hbb;clear hx;by_cases qA:k<ls.length
  ·obtain⟨lb,qg⟩:∃lb,ls[k]?=some lb:=⟨_,yG qA⟩
   obtain⟨neg,A,n,c,A',n',c',AX,cx,⟨i0,i1,i2,i3,i4,i5⟩,hR,qD,qt⟩:=(H.out.keep EX.out).at_ qg;have qa:=qw.out;rw [qg]at qa;have qe:=Hx qa;have qo:=Hx (SZ.out lb (yJ qg));have R:=Hx hR;have X:=Hx qt;have qN:=Hx qg;clear qa hR qt qg qw
   go_upto_region 5 with fail
   obtain⟨kn,dn,arcs⟩:=lb;simp only []at i0 i1 i5 qD;obtain⟨bx,e0⟩:=boxes1 wr #[.bool kn,.bool dn,.bool neg,.slice A n c,.slice A' n' c',.slice AX arcs.length cx] 189;generalize wr.alloc (.cells #[.bool kn,.bool dn,.bool neg,.slice A n c,.slice A' n' c',.slice AX arcs.length cx] 189)=W at*;have y0:=XW.cell _ _ _ bx.lt (bx.cell 0);have y1:=XW.cell _ _ _ bx.lt (bx.cell 1);have EW:=Hx (EX.out.tr e0);have E0:=Hx e0;have BX:=Hx bx;clear e0 bx i0 i1 i2 i3 i4 i5 EX
   go_cut [32] (fun s wx=>s=.bool (kn&&!dn&&(decide (b<0)||befP ps arcs ((ls[b.toNat]?.map Lb.arcs).getD [])))/\Ext w wx)
   case first=>
    cases kn
    case false=>
     refine jzh (by kernel_rfl) (by kernel_rfl) ?_
     repeat (go_big_quiet_step (fail))
     refine wpQuiet_nil ?_;rintro _ ⟨x,rfl⟩;go_wp2;go_meet;exact⟨rfl,EW.out.tr x.ext⟩
    case true=>
     cases dn
     case true=>
      refine jzh (by kernel_rfl) (by kernel_rfl) ?_
      repeat (go_big_quiet_step (fail))
      refine wpQuiet_nil ?_;rintro _ ⟨x,rfl⟩;go_wp2;go_meet;exact⟨rfl,EW.out.tr x.ext⟩
     case false=>
      rcases qB with hb|⟨hb0,hbk,hbl⟩
      ·subst hb
       have qI:decide ((-1:Int)<0)=true:=rfl;refine jzh (by kernel_rfl) (by kernel_rfl) ?_
       repeat (go_big_quiet_step (fail))
       refine wpQuiet_nil ?_;rintro _ ⟨x,rfl⟩;go_wp2;go_meet;exact⟨rfl,EW.out.tr x.ext⟩
      ·obtain⟨m,rfl⟩:∃m:Nat,b=(m:Int):=⟨b.toNat,by omega⟩
       rw [xL]at hbk hbl;obtain⟨lm,qi⟩:∃lm,ls[m]?=some lm:=⟨_,yG hbl⟩;have qn:=Hx (SZ.out lm (yJ qi));have HV:=Hx (show befP ps arcs ((ls[m]?.map Lb.arcs).getD [])=befP ps arcs lm.arcs by rw [qi];rfl);obtain⟨qj,A2,n2,c2,qC,qK,qF,qG,qE,⟨j0,j1,j2,j3,j4,j5⟩,qx,qz,qh⟩:=(H.out.keep EW.out).at_ qi;have qf:=(H.out.keep EW.out).lt;have z0:=XW.cell _ _ _ qf j0;have z1:=XW.cell _ _ _ qf j1;have z2:=XW.cell _ _ _ qf j2;have z3:=XW.cell _ _ _ qf j3;have z4:=XW.cell _ _ _ qf j4;have z5:=XW.cell _ _ _ qf j5;have y2:=XW.cell _ _ _ BX.out.lt (BX.out.cell 2);have y3:=XW.cell _ _ _ BX.out.lt (BX.out.cell 3);have y4:=XW.cell _ _ _ BX.out.lt (BX.out.cell 4);have y5:=XW.cell _ _ _ BX.out.lt (BX.out.cell 5);have R2:=Hx qx;have X2:=Hx qh;have qM:(m:Int)<(ls.length:Int):=(by omega);have qL:(0:Int)<=(m:Int):=(by omega);have qI:decide ((m:Int)<0)=false:=(by simp);have qp:=R.out.lens qo.out.1;have qm:=R2.out.lens qn.out.1;clear qi qx qh j0 j1 j2 j3 j4 j5;refine jzh (by kernel_rfl) (by kernel_rfl) ?_
       repeat (go_big_quiet_step ((go_at_call 119;exact Calls.ext_of (jzd5 _ _ neg _ _ qj A n c A' n' c' A2 n2 c2 qC qK qF AX qG cx qE (prQ ps arcs) (prQ ps lm.arcs) arcs lm.arcs _ (R.out.keep (E0.out.tr (XW.ext _))) (R2.out.keep (XW.ext _)) qp.1 qp.2 qm.1 qm.2 (X.out.rd.keep (E0.out.tr (XW.ext _))) (X2.out.rd.keep (XW.ext _)) (by have:=qo.out.2;simp only []at this;omega) (by have:=qn.out.2;omega)))))
       refine wpQuiet_nil ?_;rintro _ ⟨x,rfl⟩;go_wp2;go_meet;refine⟨?_,EW.out.tr x.ext⟩;rw [xL,HV.out];rfl
   case rest=>
    obtain⟨rfl,qy⟩:=hcut;have qk:=Hx qy;clear qy y0 y1 EW E0 BX;have qa:=qe.out;simp only []at qa;generalize (kn&&!dn&&(decide (b<0)||befP ps arcs ((ls[b.toNat]?.map Lb.arcs).getD [])))=cond at*;cases cond
    case false=>
     have HS:=Hx (show firstTo ps ls (k+1)=b by rw [qa];rfl);clear qa qe;go_wp2
     go_roundg (ls.length-(k+1))
     case measure=>omega
     case rel=>exact⟨k+1,rfl,by omega,by go_num,by rw [HS.out],qk.out⟩
    case true=>
     have HS:=Hx (show firstTo ps ls (k+1)=(k:Int) by rw [qa];rfl);clear qa qe;go_wp2
     go_roundg (ls.length-(k+1))
     case measure=>omega
     case rel=>exact⟨k+1,rfl,by omega,by go_num,by rw [HS.out],qk.out⟩
  ·have qH:k=ls.length:=by omega
   subst qH;go_wp2;go_ret;exact⟨by unfold firstP;rw [qJ.out];rfl,EX.out⟩
theorem SzQ.mono{q:Rat}{k m:Nat}(h:SzQ q k)(hm:k<=m):SzQ q m:=⟨yL h.1 (Nat.pow_le_pow_right jzm hm),yL h.2 (Nat.pow_le_pow_right jzm hm)⟩
theorem SzQ.zero:SzQ 0 1:=⟨by decide,by decide⟩
theorem SzQ.add{a b:Rat}{k m:Nat}(ha:SzQ a k)(hb:SzQ b m):SzQ (a+b) (k+m+1):=by
 have hd:a.den*b.den≠0:=Nat.mul_ne_zero a.den_nz b.den_nz;have e:=Rat.add_def' a b;obtain⟨g,hg,e1,e2⟩:∃g:Nat,g≠0/\a.num*b.den+b.num*a.den=(a+b).num*g/\a.den*b.den=(a+b).den*g:=by
  have hq:mkRat (a.num*b.den+b.num*a.den) (a.den*b.den)=⟨(a+b).num,(a+b).den,(a+b).den_nz,(a+b).reduced⟩:=e.symm;exact Rat.mkRat_num_den hd hq
 have h1:1<=g:=(by omega);have hk:0<B32^k:=Nat.pow_pos jzm;have hm:0<B32^m:=Nat.pow_pos jzm;have p1:a.num.natAbs*b.den<B32^k*B32^m:=Nat.mul_lt_mul_of_lt_of_le ha.1 (Nat.le_of_lt hb.2) hm;have p2:b.num.natAbs*a.den<B32^m*B32^k:=Nat.mul_lt_mul_of_lt_of_le hb.1 (Nat.le_of_lt ha.2) hk;have p3:a.den*b.den<B32^k*B32^m:=Nat.mul_lt_mul_of_lt_of_le ha.2 (Nat.le_of_lt hb.2) hm;have hB:B32^(k+m+1)=B32^k*B32^m*B32:=(by rw [vD,Nat.pow_add]);rw [vE (B32^m)]at p2;unfold SzQ;rw [hB];generalize B32^k*B32^m=Z at*;have hZ:2*Z<=Z*B32:=(by rw [vE];exact Nat.mul_le_mul_left _ (by decide));constructor
 ·have q1:(a.num*b.den+b.num*a.den).natAbs=(a+b).num.natAbs*g:=by rw [e1,Int.natAbs_mul];rfl
  have q2:(a.num*b.den+b.num*a.den).natAbs<=a.num.natAbs*b.den+b.num.natAbs*a.den:=by
   refine yY (Int.natAbs_add_le _ _) ?_;rw [Int.natAbs_mul,Int.natAbs_mul];exact yX _
  have q3:(a+b).num.natAbs*1<=(a+b).num.natAbs*g:=Nat.mul_le_mul_left _ h1;omega
 ·have q3:(a+b).den*1<=(a+b).den*g:=Nat.mul_le_mul_left _ h1
  omega
theorem SzQ.pr{ps:List Rat}{P:Nat}(hP:1<=P)(h:∀q∈ps,SzQ q P)(arcs:List Nat):SzQ (prQ ps arcs) (1+arcs.length*(P+1)):=by
 have qa:∀(l:List Nat) (s:Rat) (k:Nat),SzQ s k->SzQ (l.foldl (fun s a=>s+ps[a]?.getD 0) s) (k+l.length*(P+1)):=by
  intro l
  induction l with
  |nil=>intro s k hs;simpa using hs
  |cons a l ih=>
   intro s k hs;have h1:SzQ (ps[a]?.getD 0) P:=by
    by_cases ha:a<ps.length
    ·rw [yG ha];exact h _ (xR ha)
    ·rw [yI (by omega)];exact SzQ.zero.mono hP
   have:=ih _ _ (hs.add h1);rw [List.foldl_cons];refine this.mono ?_;rw [List.length_cons,xP,xQ];omega
 exact qa arcs 0 1 SzQ.zero
def arcsOf(ls:List Lb)(n:Nat):List Nat:=(ls[n]?.map Lb.arcs).getD []
def relaxP(t:Tp)(down:List Bool)(ps:List Rat)(d n:Nat)(ls:List Lb)(a:Nat):List Lb:=
 match ls[(headP t a).toNat]? with
 |none=>ls
 |some lm=>if lm.done||!usableP t down a d then ls else if !lm.known||befP ps (arcsOf ls n++[a]) lm.arcs then ls.set (headP t a).toNat ⟨true,false,arcsOf ls n++[a]⟩else ls
def markP(ls:List Lb)(n:Nat):List Lb:=match ls[n]? with
 |none=>ls
 |some l=>ls.set n ⟨l.known,true,l.arcs⟩
def undone(ls:List Lb):Nat:=ls.countP (fun l=>!l.done)
def dijP(t:Tp)(down:List Bool)(ps:List Rat)(d:Nat):Nat->List Lb->Option (List Nat)
 |0,_=>none
 |f+1,ls=>if firstP ps ls<0 then none else if(firstP ps ls).toNat=d then some (arcsOf ls (firstP ps ls).toNat)else
  dijP t down ps d f ((leavP t (firstP ps ls).toNat).foldl (relaxP t down ps d (firstP ps ls).toNat) (markP ls (firstP ps ls).toNat))
def initP(N s:Nat):List Lb:=(List.replicate N ⟨false,false,[]⟩).set s ⟨true,false,[]⟩
def cheapP(t:Tp)(down:List Bool)(ps:List Rat)(s d:Nat):Option (List Nat):=dijP t down ps d (t.nodes.toNat+1) (initP t.nodes.toNat s)
theorem jza2(ps:List Rat)(ls:List Lb):∀k,0<=firstTo ps ls k->∃l,ls[(firstTo ps ls k).toNat]?=some l/\l.known=true/\l.done=false
 |0,h=>by simp [firstTo]at h
 |k+1,h=>by
  have ih:=jza2 ps ls k;unfold firstTo at h⊢
  split
  ·rename_i hl
   rw [hl]at h;exact ih h
  ·rename_i l hl
   rw [hl]at h;simp only []at h
   split
   ·rename_i hc
    simp only [vM,Bool.not_eq_true']at hc;refine⟨l,by rw [xL];exact hl,hc.1.1,hc.1.2⟩
   ·rename_i hc
    rw [if_neg hc]at h;exact ih h
theorem jzfv{ls:List Lb}{m:Nat}{lm l:Lb}(h:ls[m]?=some lm)(hd:lm.done=false)(hl:l.done=false):undone (ls.set m l)=undone ls:=by
 unfold undone
 induction ls generalizing m with
 |nil=>simp at h
 |cons x ls ih=>
  cases m with
  |zero=>simp at h;subst h;simp [List.countP_cons,hd,hl]
  |succ m=>simp at h;simp [List.countP_cons,ih h]
theorem jzd6{ls:List Lb}{n:Nat}{l:Lb}(h:ls[n]?=some l)(hd:l.done=false):undone (markP ls n)+1=undone ls:=by
 unfold markP;rw [h];simp only [];unfold undone
 induction ls generalizing n with
 |nil=>simp at h
 |cons x ls ih=>
  cases n with
  |zero=>simp at h;subst h;simp [List.countP_cons,hd]
  |succ n=>simp at h;have:=ih h;simp [List.countP_cons];omega
theorem jzdg(t:Tp)(down:List Bool)(ps:List Rat)(d n:Nat)(ls:List Lb)(a:Nat):undone (relaxP t down ps d n ls a)=undone ls:=by
 unfold relaxP
 split
 ·rfl
 ·rename_i lm hlm
  split
  ·rfl
  ·rename_i hc
   simp only [Bool.or_eq_true,not_or,Bool.not_eq_true]at hc
   split
   ·exact jzfv hlm hc.1 rfl
   ·rfl
def lenOk(ls:List Lb):Prop:=∀l∈ls,l.arcs.length+undone ls<=ls.length
theorem jzc4(ls:List Lb):undone ls<=ls.length:=List.countP_le_length
theorem RdT.other{w w':World}{t t':TypeId}{A:Option Addr}{xs:List Value}{g:Nat}{cs':Array Value}(h:RdT w t A xs)(hg:w.grownBy w' (some g))(hb:Blk w g t' cs')(hne:t≠t'):RdT w' t A xs:=
 h.grown hg (fun hx ad had e=>by
  obtain⟨b,o,cs,fr,e1,e2,_⟩:=h hx;rw [had]at e1;injection e1 with e1
  subst e1;injection e with e
  subst e;unfold Blk at hb;rw [e2]at hb;injection hb with hb
  injection hb with _ hb
  exact hne hb)
theorem NatR.other{w w':World}{A:Option Addr}{n c N g:Nat}{t':TypeId}{cs':Array Value}(h:NatR w A n c N)(hg:w.grownBy w' (some g))(hb:Blk w g t' cs')(hne:167≠t'):NatR w' A n c N:=by
 obtain⟨ds,h1,h2,h3,h4,h5⟩:=h;exact⟨ds,h1,h2,h3,h4,h5.other hg hb hne⟩
theorem RatR.other{w w':World}{neg:Bool}{A:Option Addr}{n c:Nat}{A':Option Addr}{n' c':Nat}{q:Rat}{g:Nat}{t':TypeId}{cs':Array Value}(h:RatR w neg A n c A' n' c' q)(hg:w.grownBy w' (some g))(hb:Blk w g t' cs')(hne:167≠t'):RatR w' neg A n c A' n' c' q:=
 ⟨h.1,h.2.1.other hg hb hne,h.2.2.other hg hb hne⟩
theorem LbR.other{w w':World}{ps:List Rat}{cs:List Value}{lb:Lb}{g:Nat}{cs':Array Value}(h:LbR w ps cs lb)(hg:w.grownBy w' (some g))(hb:Blk w g 189 cs'):LbR w' ps cs lb:=by
 obtain⟨neg,A,n,c,A',n',c',AX,cx,e,h1,h2,h3⟩:=h;exact⟨neg,A,n,c,A',n',c',AX,cx,e,h1.other hg hb (by decide),h2,h3.other hg hb (by decide)⟩
theorem LL.other{w w':World}{gl N g:Nat}{X:Nat->List Nat}{t':TypeId}{cs':Array Value}(h:LL w gl N X)(hg:w.grownBy w' (some g))(hb:Blk w g t' cs')(h1:44≠t')(h2:3≠t'):LL w' gl N X:=by
 obtain⟨V,k1,k2⟩:=h;refine⟨V,(hg.block gl k1.lt (fun e=>k1.ne_ hb h1 (by injection e))).trans k1,fun i hi=>?_⟩;obtain⟨A,c,k3,k4,k5⟩:=k2 i hi;exact⟨A,c,k3,k4,k5.other hg hb h2⟩
theorem jza3{m:Nat}:∀(css:List (List Value)),(∀cs∈css,cs.length=m)->∀(i k:Nat) (v:Value),i<css.length->k<m->css.flatten.set (i*m+k) v=(css.set i ((css[i]?.getD []).set k v)).flatten
 | [],_,i,k,v,hi,_=>by simp at hi
 |cs::css,h,0,k,v,_,hk=>by
  rw [Nat.zero_mul,Nat.zero_add,List.flatten_cons,List.set_append_left _ _ (by rw [h cs (by simp)];exact hk)];rfl
 |cs::css,h,i+1,k,v,hi,hk=>by
  have hl:=h cs (by simp);rw [List.flatten_cons,List.set_append_right _ _ (by rw [hl,xP,xQ];omega),hl,show(i+1)*m+k-m=i*m+k by rw [xP,xQ];omega];rw [jza3 css (fun c hc=>h c (by simp [hc])) i k v (by simpa using hi) hk];simp
theorem LbsR.upd{w w':World}{ps:List Rat}{g m:Nat}{ls:List Lb}{lb:Lb}{cs:List Value}{css:List (List Value)}(h1:css.length=ls.length)(h2:∀cs∈css,cs.length=6)(h3:Blk w g 189 css.flatten.toArray)(h4:∀(i:Nat) (lb:Lb),ls[i]?=some lb->∃cs,css[i]?=some cs/\LbR w ps cs lb)
  (hg:w.grownBy w' (some g)) (hb:Blk w' g 189 (css.set m cs).flatten.toArray) (hc:cs.length=6) (hl:LbR w' ps cs lb) (hm:m<ls.length):LbsR w' ps g (ls.set m lb):=by
 refine⟨css.set m cs,by simp [h1],fun c hcc=>?_,hb,fun i l hi=>?_⟩
 ·rcases xE hcc with h|h
  ·exact h2 c h
  ·rw [h];exact hc
 ·by_cases e:m=i
  ·subst e
   rw [yM hm]at hi;injection hi with hi
   subst hi;exact⟨cs,by rw [yM (by omega)],hl⟩
  ·rw [vN e]at hi
   obtain⟨c,k1,k2⟩:=h4 i l hi;exact⟨c,by rw [vN e];exact k1,k2.other hg h3⟩
theorem LbsR.mark{w:World}{ps:List Rat}{g n:Nat}{ls:List Lb}{l:Lb}(h:LbsR w ps g ls)(hl:ls[n]?=some l):LbsR (w.setCell ⟨g,n*6+1,none⟩ (.bool true)) ps g (markP ls n):=by
 have hn:=(yH.1 hl).1;obtain⟨css,h1,h2,h3,h4⟩:=h;obtain⟨cs,k1,k2⟩:=h4 n l hl;have hg:=jze w g (n*6+1) (.bool true);have qa:cs.length=6:=h2 cs (yJ k1);unfold markP;rw [hl];refine LbsR.upd (cs:=cs.set 1 (.bool true)) h1 h2 h3 h4 hg ?_ (by simp [qa]) ?_ hn
 ·have:=h3.set_ (n*6+1) (.bool true)
  rw [yD,jza3 css h2 n 1 _ (by omega) (by omega),k1]at this;exact this
 ·have:=k2.other hg h3
  obtain⟨neg,A,n,c,A',n',c',AX,cx,e,q1,q2,q3⟩:=this;exact⟨neg,A,n,c,A',n',c',AX,cx,by rw [e];rfl,q1,q2,q3⟩
theorem six_of(cs:List Value)(h:cs.length=6):∃a0 a1 a2 a3 a4 a5,cs=[a0,a1,a2,a3,a4,a5]:=by
 rcases cs with _|⟨a0,_|⟨a1,_|⟨a2,_|⟨a3,_|⟨a4,_|⟨a5,_|⟨a6,r⟩⟩⟩⟩⟩⟩⟩
 all_goals first|(simp at h;done)|exact⟨_,_,_,_,_,_,rfl⟩
theorem jzis(css:List (List Value))(h2:∀cs∈css,cs.length=6)(m:Nat)(hml:m<css.length)(c1:List Value)(k:Nat)(v:Value)(hc:c1.length=6)(hk:k<6):((css.set m c1).flatten).set (m*6+k) v=(css.set m (c1.set k v)).flatten:=by
 have qa:∀c∈css.set m c1,c.length=6:=fun c hcc=>by
  rcases xE hcc with h|h
  ·exact h2 c h
  ·rw [h];exact hc
 have h:=jza3 (css.set m c1) qa m k v (by rw [yV];exact hml) hk;rw [yM hml,Option.getD_some,List.set_set]at h;exact h
theorem put_six(css:List (List Value))(h2:∀cs∈css,cs.length=6)(m:Nat)(hml:m<css.length){a0 a1 a2 a3 a4 a5:Value}(hcs:css[m]?=some [a0,a1,a2,a3,a4,a5])(v0 v1 v2 v3 v4 v5:Value):
  (((((css.flatten.set (m*6+0) v0).set (m*6+1) v1).set (m*6+2) v2).set (m*6+3) v3).set (m*6+4) v4).set (m*6+5) v5=(css.set m [v0,v1,v2,v3,v4,v5]).flatten:=by
 have e0:css.flatten=(css.set m [a0,a1,a2,a3,a4,a5]).flatten:=by
  congr 1
  apply uK;intro i;rw [List.getElem?_set]
  split
  ·rename_i e;subst e;rw [hcs]
  ·rfl
 rw [e0,jzis css h2 m hml _ 0 v0 rfl (by omega),jzis css h2 m hml _ 1 v1 rfl (by omega),jzis css h2 m hml _ 2 v2 rfl (by omega),jzis css h2 m hml _ 3 v3 rfl (by omega),jzis css h2 m hml _ 4 v4 rfl (by omega),jzis css h2 m hml _ 5 v5 rfl (by omega)];rfl
theorem LbsR.put{w:World}{ps:List Rat}{g m:Nat}{ls:List Lb}{lb:Lb}{v0 v1 v2 v3 v4 v5:Value}(h:LbsR w ps g ls)(hm:m<ls.length)(hl:LbR w ps [v0,v1,v2,v3,v4,v5] lb):
  LbsR ((((((w.setCell ⟨g,m*6,none⟩ v0).setCell ⟨g,m*6+1,none⟩ v1).setCell ⟨g,m*6+2,none⟩ v2).setCell ⟨g,m*6+3,none⟩ v3).setCell ⟨g,m*6+4,none⟩ v4).setCell ⟨g,m*6+5,none⟩ v5) ps g (ls.set m lb):=by
 obtain⟨css,h1,h2,h3,h4⟩:=h;have g0:=jze w g (m*6) v0;have g1:=g0.trans (jze _ g (m*6+1) v1);have g2:=g1.trans (jze _ g (m*6+2) v2);have g3:=g2.trans (jze _ g (m*6+3) v3);have g4:=g3.trans (jze _ g (m*6+4) v4);have g5:=g4.trans (jze _ g (m*6+5) v5);refine LbsR.upd (cs:=[v0,v1,v2,v3,v4,v5]) h1 h2 h3 h4 g5 ?_ rfl (hl.other g5 h3) hm;have b:=(((((h3.set_ (m*6+0) v0).set_ (m*6+1) v1).set_ (m*6+2) v2).set_ (m*6+3) v3).set_ (m*6+4) v4).set_ (m*6+5) v5;have qf:m<css.length:=(by omega);obtain⟨cs,qe⟩:∃cs,css[m]?=some cs:=⟨_,yG qf⟩;have qg:cs.length=6:=h2 cs (yJ qe);obtain⟨a0,a1,a2,a3,a4,a5,rfl⟩:∃a0 a1 a2 a3 a4 a5,cs=[a0,a1,a2,a3,a4,a5]:=six_of cs qg;have qa:=put_six css h2 m qf qe v0 v1 v2 v3 v4 v5;simp only [yD]at b;rw [qa]at b;exact b
theorem Tryz.info104:(Tryz.prog.info? 189).map (fun i=>(i.zero,i.size,i.bytes))=some (some (.agg #[.bool false,.bool false,.bool false,.slice none 0 0,.slice none 0 0,.slice none 0 0]),6,88):=by kernel_rfl
theorem jzdy(n:Nat)(hn:n<=1000)(w:World):
  (Instr.makeSlice 187 (.int .i64 (n:Int)) (.int .i64 (n:Int))).run Tryz.prog w=.ok (.slice (some ⟨w.heap.size,0,none⟩) n n) (w.alloc (.cells (madeCells #[.bool false,.bool false,.bool false,.slice none 0 0,.slice none 0 0,.slice none 0 0] (n*6)) 189)):=by
 obtain⟨i,hi,hz,hs,hb⟩:=info_parts Tryz.info104;have qa:(i.bytes:Int)*(n:Int)<=281474976710656:=(by rw [hb];omega);have hr:=run_make (P:=Tryz.prog) w 187 189 i _ Tryz.underlying187 hi hz .i64 .i64 n n (by omega) (by omega) qa (by omega);simp only [xL]at hr;rw [hs]at hr;exact hr
def zeroCells:List Value:=[.bool false,.bool false,.bool false,.slice none 0 0,.slice none 0 0,.slice none 0 0]
theorem jzb0(N:Nat):madeCells #[.bool false,.bool false,.bool false,.slice none 0 0,.slice none 0 0,.slice none 0 0] (N*6)=(List.replicate N zeroCells).flatten.toArray:=by
 apply Array.ext';apply uK;intro i;have qa:∀cs∈List.replicate N zeroCells,cs.length=6:=fun cs h=>(by rw [uF h];rfl);have hl:=jzs _ qa;rw [xC]at hl;by_cases hi:i<N*6
 ·have h1:=jzu _ qa (i/6) (i%6) (by rw [xC];omega) (by omega)
  rw [show i/6*6+i%6=i by omega,xB,if_pos (by omega),Option.getD_some]at h1;simp only [];rw [h1];have h2:(madeCells #[.bool false,.bool false,.bool false,.slice none 0 0,.slice none 0 0,.slice none 0 0] (N*6)).toList[i]?=some ((#[.bool false,.bool false,.bool false,.slice none 0 0,.slice none 0 0,.slice none 0 0]:Array Value)[i%6]!):=by
   simp [madeCells,hi]
  rw [h2];have h6:i%6=0\/i%6=1\/i%6=2\/i%6=3\/i%6=4\/i%6=5:=(by omega);rcases h6 with e|e|e|e|e|e <;> rw [e] <;> rfl
 ·rw [yI (by simp [madeCells];omega),yI (by simp only [];omega)]
theorem jz6(w:World):RatR w false none 0 0 none 0 0 0:=⟨by decide,NatR.zero _ _ _,NatR.zero _ _ _⟩
theorem LbR.zero(w:World)(ps:List Rat):LbR w ps zeroCells ⟨false,false,[]⟩:=⟨false,none,0,0,none,0,0,none,0,rfl,jz6 w,yX _,RdT.nil _ _ _⟩
theorem jzit(w:World)(ps:List Rat)(N n:Nat)(hn:n<N):
  LbsR (w.alloc (.cells ((madeCells #[.bool false,.bool false,.bool false,.slice none 0 0,.slice none 0 0,.slice none 0 0] (N*6)).setIfInBounds (n*6) (.bool true)) 189)) ps w.heap.size (initP N n):=by
 have qa:∀cs∈List.replicate N zeroCells,cs.length=6:=fun cs h=>(by rw [uF h];rfl);have hf:=jza3 _ qa n 0 (.bool true) (by rw [xC];exact hn) (by omega);rw [Nat.add_zero,xB,if_pos hn,Option.getD_some]at hf;rw [jzb0,yD,hf];refine⟨_,by simp [initP],fun cs h=>?_,Blk.new _ _ _,fun i lb hl=>?_⟩
 ·rcases xE h with h|h
  ·exact qa cs h
  ·rw [h];rfl
 ·unfold initP at hl
  by_cases e:n=i
  ·subst e
   rw [yM (by simpa using hn)]at hl;injection hl with hl
   subst hl;exact⟨_,yM (by simpa using hn),false,none,0,0,none,0,0,none,0,rfl,jz6 _,yX _,RdT.nil _ _ _⟩
  ·rw [vN e,xB]at hl
   split at hl
   ·rename_i hi
    injection hl with hl
    subst hl;exact⟨zeroCells,by rw [vN e,xB,if_pos hi],LbR.zero _ _⟩
   ·cases hl
def ArF(w:World)(g B:Nat):Prop:=∀(i:Nat) (AX:Option Addr) (n cx:Nat),w.cell? ⟨g,i*6+5,none⟩=some (.slice AX n cx)->∀p,AX=some p->B<=p.block
theorem ArF.keep{w w':World}{g B:Nat}(h:ArF w g B)(hg:g<w.heap.size)(hx:Ext w w'):ArF w' g B:=fun i AX n cx hc=>h i AX n cx ((hx.cell (p:=⟨g,i*6+5,none⟩) hg).symm.trans hc)
theorem ArF.mark{w:World}{ps:List Rat}{g B n:Nat}{ls:List Lb}(h:ArF w g B)(hl:LbsR w ps g ls)(u:Value):ArF (w.setCell ⟨g,n*6+1,none⟩ u) g B:=fun i AX m cx hc=>by
 obtain⟨css,_,_,h3,_⟩:=hl;refine h i AX m cx ?_;rw [(h3.set_ (n*6+1) u).cell,xH (by omega), <-h3.cell]at hc;exact hc
theorem ArF.put{w:World}{ps:List Rat}{g B m:Nat}{ls:List Lb}(h:ArF w g B)(hl:LbsR w ps g ls)(v0 v1 v2 v3 v4:Value){AX:Option Addr}{n cx:Nat}(hA:∀p,AX=some p->B<=p.block):
  ArF ((((((w.setCell ⟨g,m*6,none⟩ v0).setCell ⟨g,m*6+1,none⟩ v1).setCell ⟨g,m*6+2,none⟩ v2).setCell ⟨g,m*6+3,none⟩ v3).setCell ⟨g,m*6+4,none⟩ v4).setCell ⟨g,m*6+5,none⟩ (.slice AX n cx)) g B:=fun i AX' n' cx' hc=>by
 obtain⟨css,_,_,h3,_⟩:=hl;have b:=(((((h3.set_ (m*6) v0).set_ (m*6+1) v1).set_ (m*6+2) v2).set_ (m*6+3) v3).set_ (m*6+4) v4).set_ (m*6+5) (.slice AX n cx);rw [b.cell]at hc;by_cases e:i=m
 ·subst e
  rw [Array.getElem?_setIfInBounds_self]at hc
  split at hc
  ·injection hc with hc
   injection hc with hc _ _
   exact fun p hp=>hA p (hc.trans hp)
  ·cases hc
 ·rw [xH (by omega),xH (by omega),xH (by omega),xH (by omega),xH (by omega),xH (by omega), <-h3.cell]at hc
  exact h i AX' n' cx' hc
theorem ArF.made(w:World)(N n B:Nat):ArF (w.alloc (.cells ((madeCells #[.bool false,.bool false,.bool false,.slice none 0 0,.slice none 0 0,.slice none 0 0] (N*6)).setIfInBounds (n*6) (.bool true)) 189)) w.heap.size B:=fun i AX m cx hc p hp=>by
 have qa:∀cs∈List.replicate N zeroCells,cs.length=6:=fun cs h=>(by rw [uF h];rfl);rw [(Blk.new w _ _).cell,xH (by omega),jzb0,xI]at hc;by_cases hi:i<N
 ·rw [jzu _ qa i 5 (by rw [xC];exact hi) (by omega),xB,if_pos hi]at hc
  injection hc with hc
  injection hc with hc
  rw [<-hc]at hp;cases hp
 ·have hl:=jzs _ qa
  rw [xC]at hl;rw [yI (by omega)]at hc;cases hc
structure ChSt(w wr:World)(t:Tp)(AO:Option Addr)(co:Nat)(AL:Option Addr)(cl:Nat)(ps:List Rat)(g gll N:Nat)(ls:List Lb):Prop where
 tt:Blk wr w.heap.size 25 #[.int .i64 t.nodes,.slice AO t.over.length co,.slice AL t.links.length cl]
 rr:Blk wr (w.heap.size+1) 35 #[.bool false,.slice none 0 0,.slice none 0 0]
 lab:LbsR wr ps g ls
 len:ls.length=N
 ok:lenOk ls
 ll:LL wr gll N (leavP t)
 gg:w.heap.size+2<=g
 ext:Ext w wr
 fa:ArF wr g w.heap.size
theorem ChSt.keep{w wr w':World}{t:Tp}{AO:Option Addr}{co:Nat}{AL:Option Addr}{cl:Nat}{ps:List Rat}{g gll N:Nat}{ls:List Lb}(h:ChSt w wr t AO co AL cl ps g gll N ls)(hx:Ext wr w'):ChSt w w' t AO co AL cl ps g gll N ls:=
 ⟨h.tt.keep hx,h.rr.keep hx,h.lab.keep hx,h.len,h.ok,h.ll.keep hx,h.gg,h.ext.tr hx,h.fa.keep h.lab.lt hx⟩
theorem ChSt.turn{w wr w':World}{t:Tp}{AO:Option Addr}{co:Nat}{AL:Option Addr}{cl:Nat}{ps:List Rat}{g gll N:Nat}{ls ls':List Lb}(h:ChSt w wr t AO co AL cl ps g gll N ls)(hg:wr.grownBy w' (some g))(hl:LbsR w' ps g ls')(hlen:ls'.length=N)(hok:lenOk ls')(hfa:ArF w' g w.heap.size):ChSt w w' t AO co AL cl ps g gll N ls':=by
 obtain⟨css,h1,h2,h3,h4⟩:=h.lab;have qa:=h.gg;exact⟨(hg.block _ h.tt.lt (fun e=>by injection e with e;omega)).trans h.tt,(hg.block _ h.rr.lt (fun e=>by injection e with e;omega)).trans h.rr,hl,hlen,hok,h.ll.other hg h3 (by decide) (by decide),qa,Below.grown h.ext hg h.ext.size (fun k hk=>by injection hk with hk;omega),hfa⟩
theorem SzL_of{ps:List Rat}{P N:Nat}{ls:List Lb}(hP:1<=P)(hP2:P<=1000000)(h:∀q∈ps,SzQ q P)(hok:lenOk ls)(hl:ls.length=N)(hN:N<=64):SzL ps ls:=fun lb hlb=>by
 have h1:=hok lb hlb;refine⟨(SzQ.pr hP h lb.arcs).mono ?_,by omega⟩;have h2:lb.arcs.length*(P+1)<=64*1000001:=Nat.mul_le_mul (by omega) (by omega);omega
theorem RdT.grownK{w w':World}{t t':TypeId}{A:Option Addr}{xs:List Value}{row:Option Nat}(h:RdT w t A xs)(hg:w.grownBy w' row)(hr:∀k,row=some k->∃cs fr,w.heap[k]?=some (.cells cs t' fr))(hne:t≠t'):RdT w' t A xs:=
 h.grown hg (fun hx ad had e=>by
  obtain⟨b,o,cs,fr,e1,e2,_⟩:=h hx;rw [had]at e1;injection e1 with e1
  subst e1;obtain⟨c9,f9,e9⟩:=hr _ e.symm;rw [e2]at e9;injection e9 with e9
  injection e9 with _ e9
  exact hne e9)
theorem RatR.grownK{w w':World}{t':TypeId}{neg:Bool}{A:Option Addr}{n c:Nat}{A':Option Addr}{n' c':Nat}{q:Rat}{row:Option Nat}(h:RatR w neg A n c A' n' c' q)(hg:w.grownBy w' row)(hr:∀k,row=some k->∃cs fr,w.heap[k]?=some (.cells cs t' fr))(hne:167≠t'):RatR w' neg A n c A' n' c' q:=by
 obtain⟨h1,⟨ds,a1,a2,a3,a4,a5⟩,⟨es,b1,b2,b3,b4,b5⟩⟩:=h;exact⟨h1,⟨ds,a1,a2,a3,a4,a5.grownK hg hr hne⟩,⟨es,b1,b2,b3,b4,b5.grownK hg hr hne⟩⟩
theorem Blk.grownK{w w':World}{t t':TypeId}{g:Nat}{cs:Array Value}{row:Option Nat}(h:Blk w g t cs)(hg:w.grownBy w' row)(hr:∀k,row=some k->∃cs fr,w.heap[k]?=some (.cells cs t' fr))(hne:t≠t'):Blk w' g t cs:=
 (hg.block g h.lt (fun e=>by
  obtain⟨c9,f9,e9⟩:=hr _ e.symm;unfold Blk at h;rw [h]at e9;injection e9 with e9
  injection e9 with _ e9
  exact hne e9)).trans h
theorem jzbu(AX:Option Addr)(cx:Nat)(l:List Nat)(w:World)(hq:RdT w 3 AX (ints l))(hl:l.length<=1000):
  Calls Tryz.prog 118 #[.slice AX l.length cx] w fun e w'=>∃v,e=.returned v/\w'.ownsRow w.heap.size 3 1 v l.length (ints l)/\Ext w w':=by
 obtain⟨ti,hi,qj,qf,qh⟩:=info_parts Tryz.info3;cases AX with
 |none=>
  have hn:l=[]:=by
   cases l with
   |nil=>rfl
   |cons a l=>obtain⟨_,_,_,_,e,_⟩:=hq (by simp [ints]);cases e
  subst hn;refine(Tryz.slices_Clone_nil 0 cx w).mono ?_;rintro e w' ⟨rfl,rfl⟩;exact⟨_,rfl,World.ownsRow_nil _ _ _ _,Ext.refl _⟩
 |some ad=>
  by_cases qg:l=[]
  ·subst qg
   refine(Tryz.slices_Clone_int_zero ad cx w).mono ?_;rintro e w' ⟨v',rfl,qe,_,qa⟩;exact⟨v',rfl,qe,qa⟩
  ·obtain⟨b,o,cs,fr,e,hb,hc⟩:=hq (by simpa [ints]using qg)
   injection e with e
   subst e;refine(Tryz.slices_Clone ti (.int .i64 0) 1 8 hi qj qf qh rfl (by decide) (fun w=>by simp [Go.sizeOf,typeInfo,hi,qf]) b o l.length cx (ints l) w (by simp [ints]) (by unfold maxLen;omega) (by omega) ?_ (jzj1 _)).mono ?_
   ·intro j u hj
    have qi:=(yH.1 hj).1;rw [cell_of_row w b (o+j) cs _ fr hb,hc j qi];exact hj
   ·rintro e w' ⟨v',rfl,qe,_,qa⟩
    exact⟨v',rfl,qe,qa⟩
theorem jzhe(w:World)(g m:Nat)(v0 v1 v2 v3 v4 v5:Value):w.grownBy ((((((w.setCell ⟨g,m*6,none⟩ v0).setCell ⟨g,m*6+1,none⟩ v1).setCell ⟨g,m*6+2,none⟩ v2).setCell ⟨g,m*6+3,none⟩ v3).setCell ⟨g,m*6+4,none⟩ v4).setCell ⟨g,m*6+5,none⟩ v5) (some g):=
 (((((jze w g (m*6) v0).trans (jze _ g (m*6+1) v1)).trans (jze _ g (m*6+2) v2)).trans (jze _ g (m*6+3) v3)).trans (jze _ g (m*6+4) v4)).trans (jze _ g (m*6+5) v5)
theorem jzt{w:World}{p:Addr}{v:Value}(h:w.cell? p=some v):w.drew.cell? p=some v:=h
theorem jzdh{w:World}{g:Nat}{a:Int}(h:Blk w g 3 #[.int .i64 a]):Rd w (some ⟨g,0,none⟩) [.int .i64 a]:=(RdT.of_blk h rfl).rd
def RdN(B:Nat)(w:World)(A:Option Addr)(xs:List Value):Prop:=RdT w 3 A xs/\∀p,A=some p->B<=p.block
theorem jzfw{w:World}{B g c a:Nat}{l:List Nat}(h:w.ownsRow B 3 1 (.slice (some ⟨g,0,none⟩) (l.length+1) c) (l.length+1) (ints l++[.int .i64 (a:Int)])):RdN B w (some ⟨g,0,none⟩) (ints (l++[a])):=by
 obtain⟨A',c',q1,q2,q3⟩:=jzai (l:=l++[a]) (by rw [jzbs];exact h) (by simp);injection q1 with q1 _ q4
 subst q1 q4;exact⟨q3,fun p hp=>by injection hp with hp;rw [<-hp];exact(h.lt g rfl).1⟩
def NextPost(w:World)(ps:List Rat)(arcs:List Nat)(p:Value)(wx:World):Prop:=
 ∃(gl:Nat) (neg:Bool) (A:Option Addr) (n c:Nat) (A':Option Addr) (n' c':Nat) (AX:Option Addr) (cx:Nat),p=.pointer (some ⟨gl,0,none⟩)/\Blk wx gl 189 #[.bool true,.bool false,.bool neg,.slice A n c,.slice A' n' c',.slice AX arcs.length cx]/\RatR wx neg A n c A' n' c' (prQ ps arcs)/\arcs.length<=cx/\RdN w.heap.size wx AX (ints arcs)/\w.heap.size<=gl/\Ext w wx
theorem jzdi{W w:World}{ps:List Rat}{arcs:List Nat}{neg:Bool}{A:Option Addr}{n c:Nat}{A':Option Addr}{n' c':Nat}{AX:Option Addr}{cx k:Nat}(hk:arcs.length=k)(hR:RatR w neg A n c A' n' c' (prQ ps arcs))(hc:arcs.length<=cx)(hX:RdN W.heap.size w AX (ints arcs))(hx:Ext W w):
  NextPost W ps arcs (.pointer (some ⟨w.heap.size,0,none⟩)) (w.alloc (.cells #[.bool true,.bool false,.bool neg,.slice A n c,.slice A' n' c',.slice AX k cx] 189)):=by
 subst hk;exact⟨w.heap.size,neg,A,n,c,A',n',c',AX,cx,rfl,Blk.new _ _ _,hR.keep ((Ext.refl w).alloc _),hc,⟨hX.1.keep ((Ext.refl w).alloc _),hX.2⟩,hx.size,hx.alloc _⟩
theorem jzdj{W w:World}{ps:List Rat}{arcs:List Nat}{neg:Bool}{A:Option Addr}{n c:Nat}{A':Option Addr}{n' c':Nat}{AX:Option Addr}{cx gl k:Nat}{z0 z1 z2 z3 z4 z5:Value}(hk:arcs.length=k)(hb:Blk w gl 189 #[z0,z1,z2,z3,z4,z5])(hR:RatR w neg A n c A' n' c' (prQ ps arcs))(hc:arcs.length<=cx)(hX:RdN W.heap.size w AX (ints arcs))(hg:W.heap.size<=gl)(hx:Ext W w):
  NextPost W ps arcs (.pointer (some ⟨gl,0,none⟩)) ((((((w.setCell ⟨gl,0,none⟩ (.bool true)).setCell ⟨gl,1,none⟩ (.bool false)).setCell ⟨gl,2,none⟩ (.bool neg)).setCell ⟨gl,3,none⟩ (.slice A n c)).setCell ⟨gl,4,none⟩ (.slice A' n' c')).setCell ⟨gl,5,none⟩ (.slice AX k cx)):=by
 subst hk;have b0:=hb.set_ 0 (.bool true);have b1:=b0.set_ 1 (.bool false);have b2:=b1.set_ 2 (.bool neg);have b3:=b2.set_ 3 (.slice A n c);have b4:=b3.set_ 4 (.slice A' n' c');have b5:=b4.set_ 5 (.slice AX arcs.length cx);refine⟨gl,neg,A,n,c,A',n',c',AX,cx,rfl,b5,?_,hc,?_,hg,?_⟩
 ·exact(((((hR.set_ (p:=⟨gl,0,none⟩) hb (by decide) _).set_ (p:=⟨gl,1,none⟩) b0 (by decide) _).set_ (p:=⟨gl,2,none⟩) b1 (by decide) _).set_ (p:=⟨gl,3,none⟩) b2 (by decide) _).set_ (p:=⟨gl,4,none⟩) b3 (by decide) _).set_ (p:=⟨gl,5,none⟩) b4 (by decide) _
 ·refine⟨?_,hX.2⟩
  exact(((((hX.1.set_ (p:=⟨gl,0,none⟩) hb (by decide) _).set_ (p:=⟨gl,1,none⟩) b0 (by decide) _).set_ (p:=⟨gl,2,none⟩) b1 (by decide) _).set_ (p:=⟨gl,3,none⟩) b2 (by decide) _).set_ (p:=⟨gl,4,none⟩) b3 (by decide) _).set_ (p:=⟨gl,5,none⟩) b4 (by decide) _
 ·exact(((((hx.set_ (p:=⟨gl,0,none⟩) hg _).set_ (p:=⟨gl,1,none⟩) hg _).set_ (p:=⟨gl,2,none⟩) hg _).set_ (p:=⟨gl,3,none⟩) hg _).set_ (p:=⟨gl,4,none⟩) hg _).set_ (p:=⟨gl,5,none⟩) hg _
theorem jzkc(w:World)(g:Nat)(a b c:Value):w.grownBy (((w.setCell ⟨g,0,none⟩ a).setCell ⟨g,1,none⟩ b).setCell ⟨g,2,none⟩ c) (some g):=
 ((jze w g 0 a).trans (jze _ g 1 b)).trans (jze _ g 2 c)
end Go.Proofs.YthbmikapohlikaaGreatDoor
namespace Go.Proofs.YthbmikapohlikaaGreatDoor
open Go.RowKit Go.Sort
theorem jziu{w:World}{B n:Nat}{e:TypeId}{v:Value}{xs:List Value}(h:w.ownsRow B e 1 v n xs):∃(A:Option Addr) (c:Nat),v=.slice A n c/\n<=c/\RdT w e A xs:=by
 obtain⟨h1,h2⟩:=h;rw [Nat.mul_one]at h1;rcases h2 with⟨h3,h4⟩|⟨g,cap,cur,h3,_,h5,h6,_,_,h9⟩
 ·subst h4
  obtain rfl:xs=[]:=List.eq_nil_of_length_eq_zero h1;exact⟨none,0,h3,yX _,RdT.nil _ _ _⟩
 ·refine⟨_,cap,h3,h6,fun _=>⟨g,0,cur,(0,0),rfl,h5,fun i hi=>?_⟩⟩
  rw [Nat.mul_one]at h9;rw [Nat.zero_add, <-h9,xG,if_pos (by omega)];simp
theorem jzgj(M i:Nat):(UInt8.ofNat (48+M/10^i%10)).toNat=48+M/10^i%10:=by
 have:M/10^i%10<10:=xT _ (by decide);rw [UInt8.toNat_ofNat'];omega
theorem jzae{w W:World}{nb:Bool}{A A':Option Addr}{n c n' c' g:Nat}{q:Rat}{cs:Array Value}(h:RatR W nb A n c A' n' c' q)(hb:Blk W g 35 cs)(hg:w.heap.size<=g)(hx:Ext w W):
  RatR (((W.setCell ⟨g,0,none⟩ (.bool nb)).setCell ⟨g,1,none⟩ (.slice A n c)).setCell ⟨g,2,none⟩ (.slice A' n' c')) nb A n c A' n' c' q/\Ext w (((W.setCell ⟨g,0,none⟩ (.bool nb)).setCell ⟨g,1,none⟩ (.slice A n c)).setCell ⟨g,2,none⟩ (.slice A' n' c')):=
 ⟨h.other (jzkc W g _ _ _) hb (by decide),((hx.set_ (p:=⟨g,0,none⟩) hg _).set_ (p:=⟨g,1,none⟩) hg _).set_ (p:=⟨g,2,none⟩) hg _⟩
end Go.Proofs.YthbmikapohlikaaGreatDoor
namespace Go.Proofs.YthbmikapohlikaaGreatDoor
open Go.RowKit
theorem div_mkQ(a b:Rat)(h:b≠0):a/b=mkQ (decide (a.num<0) !=decide (b.num<0)) (a.num.natAbs*b.den) (b.num.natAbs*a.den):=by
 have hn:b.num≠0:=fun e=>h (Rat.num_eq_zero.1 e);have h1:(b⁻¹).num.natAbs=b.den:=by
  rw [Rat.num_inv,Int.natAbs_mul,Int.natAbs_sign_of_ne_zero hn];simp
 have h2:(b⁻¹).den=b.num.natAbs:=(by rw [Rat.den_inv,if_neg hn]);have h3:decide ((b⁻¹).num<0)=decide (b.num<0):=by
  rw [Rat.num_inv];have hd:=b.den_pos;rcases Int.lt_or_gt_of_ne hn with x|x
  ·rw [Int.sign_eq_neg_one_of_neg x]
   simp [x];omega
  ·rw [Int.sign_eq_one_of_pos x]
   simp;omega
 rw [Rat.div_def,jzka,h1,h2,h3,vE a.den]
theorem neg_dec(q:Rat)(h:q≠0):(!decide (q.num<0))=decide ((-q).num<0):=by
 have hn:q.num≠0:=fun e=>h (Rat.num_eq_zero.1 e);have:(-q).num= -q.num:=rfl;rw [this];rcases Int.lt_or_gt_of_ne hn with x|x
 ·rw [yO x,yP (by omega)];rfl
 ·rw [yP (by omega),yO (by omega)];rfl
theorem RatR.neg{w:World}{neg:Bool}{A:Option Addr}{n c:Nat}{A':Option Addr}{n' c':Nat}{q:Rat}(h:RatR w neg A n c A' n' c' q)(h0:q≠0):RatR w (!neg) A n c A' n' c' (-q):=by
 refine⟨?_,?_,h.2.2⟩
 ·rw [h.1];exact neg_dec q h0
 ·have:(-q).num.natAbs=q.num.natAbs:=by show(-(q.num)).natAbs=_;omega
  rw [this];exact h.2.1
theorem jzkd(na:Bool)(A1:Option Addr)(n1 c1:Nat)(A1':Option Addr)(n1' c1':Nat)(a:Rat)(w:World)(ha:RatR w na A1 n1 c1 A1' n1' c1' a):
  Calls Tryz.prog 147 #[.agg #[.bool na,.slice A1 n1 c1,.slice A1' n1' c1']] w fun e w'=>∃nb,e=.returned (.agg #[.bool nb,.slice A1 n1 c1,.slice A1' n1' c1'])/\RatR w' nb A1 n1 c1 A1' n1' c1' (-a)/\Ext w w':=by
 obtain⟨qf,qa,e0⟩:=boxes2 w #[.bool na,.slice A1 n1 c1,.slice A1' n1' c1'] 35 #[.bool false,.slice none 0 0,.slice none 0 0] 35;have HA:=Hx ha;by_cases h0:a=0
 ·have hs:sgnI a=0:=jzam.2 h0
  have HN:=Hx (show-a=a by rw [h0];rfl);have HS:=Hx hs;clear ha h0 hs
  go_enter Tryz.func147,Tryz.ntmps147
  go_wp2_with fail
  refine(jzz na A1 n1 c1 A1' n1' c1' a _ (HA.out.keep e0)).mono ?_;rintro e w1 ⟨rfl,qe⟩;rw [HS.out];have qf:=qf.keep qe;have qa:=qa.keep qe;obtain⟨⟨i0,i1,i2⟩,h0,h1,h2⟩:=qf.three;obtain⟨⟨k0,k1,k2⟩,f0,f1,f2⟩:=qa.three;have E1:=Hx (e0.tr qe);clear qe e0;go_wp2;refine bodyPost_ret (v:=.agg #[.bool na,.slice A1 n1 c1,.slice A1' n1' c1']) (by simp [results,Tryz.results147,go_sem,(((qa.set_ 0 _).set_ 1 _).set_ 2 _).cell]) rfl ?_;obtain⟨q1,q2⟩:=jzae (w:=w) (HA.out.keep E1.out) qa (by omega) E1.out;exact⟨na,rfl,by rw [HN.out];exact q1,q2⟩
 ·have hs:(sgnI a==0)=false:=yK.2 (fun h=>h0 (jzam.1 h))
  have HN:=Hx (ha.neg h0);clear ha h0
  go_enter Tryz.func147,Tryz.ntmps147
  go_wp2_with fail
  refine(jzz na A1 n1 c1 A1' n1' c1' a _ (HA.out.keep e0)).mono ?_;rintro e w1 ⟨rfl,qe⟩;generalize sgnI a=sa at*;have qf:=qf.keep qe;have qa:=qa.keep qe;obtain⟨⟨i0,i1,i2⟩,h0,h1,h2⟩:=qf.three;obtain⟨⟨k0,k1,k2⟩,f0,f1,f2⟩:=qa.three;have E1:=Hx (e0.tr qe);clear qe e0;go_wp2;refine bodyPost_ret (v:=.agg #[.bool (!na),.slice A1 n1 c1,.slice A1' n1' c1']) (by simp [results,Tryz.results147,go_sem,(((qa.set_ 0 _).set_ 1 _).set_ 2 _).cell]) rfl ?_;obtain⟨q1,q2⟩:=jzae (w:=w) (HN.out.keep E1.out) qa (by omega) E1.out;exact⟨!na,rfl,q1,q2⟩
theorem jzca(na nb:Bool)(A1:Option Addr)(n1 c1:Nat)(A1':Option Addr)(n1' c1':Nat)(A2:Option Addr)(n2 c2:Nat)(A2':Option Addr)(n2' c2':Nat)(a b:Rat)(w:World)
  (ha:RatR w na A1 n1 c1 A1' n1' c1' a) (hb:RatR w nb A2 n2 c2 A2' n2' c2' b) (l1:n1<=134217728) (l1':n1'<=134217728) (l2:n2<=134217728) (l2':n2'<=134217728):
  Calls Tryz.prog 94 #[.agg #[.bool na,.slice A1 n1 c1,.slice A1' n1' c1'],.agg #[.bool nb,.slice A2 n2 c2,.slice A2' n2' c2']] w (RatPost w (a-b)):=by
 obtain⟨b0,b1,b2,e0⟩:=boxes3 w #[.bool na,.slice A1 n1 c1,.slice A1' n1' c1'] 35 #[.bool nb,.slice A2 n2 c2,.slice A2' n2' c2'] 35 #[.bool false,.slice none 0 0,.slice none 0 0] 35;have x1:Ext (((w.alloc (.cells #[.bool na,.slice A1 n1 c1,.slice A1' n1' c1'] 35)).alloc (.cells #[.bool nb,.slice A2 n2 c2,.slice A2' n2' c2'] 35)).alloc (.cells #[.bool false,.slice none 0 0,.slice none 0 0] 35)) (((w.alloc (.cells #[.bool na,.slice A1 n1 c1,.slice A1' n1' c1'] 35)).alloc (.cells #[.bool nb,.slice A2 n2 c2,.slice A2' n2' c2'] 35)).alloc (.cells #[.bool false,.slice none 0 0,.slice none 0 0] 35)).drew:=(Ext.refl _).drewN 1;have HA:=Hx (And.intro ((ha.keep e0).keep x1) ((hb.keep e0).keep x1));have E0:=Hx (e0.tr x1);have BB:=Hx (And.intro (b0.keep x1) (And.intro (b1.keep x1) (b2.keep x1)));obtain⟨⟨i0,i1,i2⟩,_⟩:=BB.out.1.three;obtain⟨⟨j0,j1,j2⟩,_⟩:=BB.out.2.1.three;clear ha hb b0 b1 b2 e0 x1
 go_enter Tryz.func94,Tryz.ntmps94
 go_wp2
 go_region_held3 (fun w'=>w'.cell? ⟨w.heap.size,0,none⟩=some (.bool na)/\w'.cell? ⟨w.heap.size,1,none⟩=some (.slice A1 n1 c1)/\w'.cell? ⟨w.heap.size,2,none⟩=some (.slice A1' n1' c1')/\w'.cell? ⟨w.heap.size+1,0,none⟩=some (.bool nb)/\w'.cell? ⟨w.heap.size+1,1,none⟩=some (.slice A2 n2 c2)/\w'.cell? ⟨w.heap.size+1,2,none⟩=some (.slice A2' n2' c2'))
  (first|with_reducible exact⟨i0,i1,i2,j0,j1,j2⟩|exact fj _ _ _|fail)
  (first
   |(go_at_call 147
     refine(jzkd nb A2 n2 c2 A2' n2' c2' b _ HA.out.2).mono ?_;rintro e w3 ⟨n3,rfl,h3,x3⟩;have G3:=Hx (And.intro (BB.out.1.keep x3) (And.intro (BB.out.2.1.keep x3) (BB.out.2.2.keep x3)));have E3:=Hx (E0.out.tr x3);have R3:=Hx (And.intro h3 (HA.out.1.keep x3));obtain⟨⟨i0,i1,i2⟩,_⟩:=G3.out.1.three;obtain⟨⟨j0,j1,j2⟩,_⟩:=G3.out.2.1.three;clear x3 h3)
   |(go_at_call 67
     refine(jz7 na n3 A1 n1 c1 A1' n1' c1' A2 n2 c2 A2' n2' c2' a (-b) _ R3.out.2 R3.out.1 (by omega) (by omega) (by omega) (by omega) (jzp (Nat.mul_ne_zero (Rat.den_nz _) (Rat.den_nz _)))).mono ?_;rintro e w4 ⟨nq,B,m,d,B',m',d',rfl,h4,x4⟩;rw [<-Rat.sub_eq_add_neg]at h4;have G4:=Hx (And.intro (G3.out.1.keep x4) (And.intro (G3.out.2.1.keep x4) (G3.out.2.2.keep x4)));have E4:=Hx (E3.out.tr x4);obtain⟨⟨i0,i1,i2⟩,_⟩:=G4.out.1.three;obtain⟨⟨j0,j1,j2⟩,_⟩:=G4.out.2.1.three;obtain⟨⟨p0,p1,p2⟩,f0,f1,f2⟩:=G4.out.2.2.three;obtain⟨r1,r2⟩:=jzae (w:=w) h4 G4.out.2.2 (by omega) E4.out;have q3:=((G4.out.2.2.set_ 0 (.bool nq)).set_ 1 (.slice B m d)).set_ 2 (.slice B' m' d');have RF:=Hx (And.intro q3 (And.intro r1 r2));have hf:=fun u0 u1 u2=>((G4.out.1.far (p:=⟨w.heap.size+1+1,0,none⟩) (by simp;omega) u0).far (p:=⟨w.heap.size+1+1,1,none⟩) (by simp;omega) u1).far (p:=⟨w.heap.size+1+1,2,none⟩) (by simp;omega) u2;have hg:=fun u0 u1 u2=>((G4.out.2.1.far (p:=⟨w.heap.size+1+1,0,none⟩) (by simp) u0).far (p:=⟨w.heap.size+1+1,1,none⟩) (by simp) u1).far (p:=⟨w.heap.size+1+1,2,none⟩) (by simp) u2;have fj:=fun u0 u1 u2=>And.intro ((hf u0 u1 u2).cell 0) (And.intro ((hf u0 u1 u2).cell 1) (And.intro ((hf u0 u1 u2).cell 2) (And.intro ((hg u0 u1 u2).cell 0) (And.intro ((hg u0 u1 u2).cell 1) ((hg u0 u1 u2).cell 2)))));clear x4 h4 q3 r1 r2)
   |fail)
 go_wp2;exact bodyPost_ret (v:=.agg #[.bool nq,.slice B m d,.slice B' m' d']) (by simp [results,Tryz.results94,go_sem,RF.out.1.cell]) rfl ⟨_,_,_,_,_,_,_,rfl,RF.out.2.1,RF.out.2.2⟩
def QuoPost(w:World)(q:Rat)(e:Ending)(w':World):Prop:=
 ∃(neg:Bool) (A:Option Addr) (n c:Nat) (A':Option Addr) (n' c':Nat),e=.returned (.tuple #[.agg #[.bool neg,.slice A n c,.slice A' n' c'],.int .i64 0])/\RatR w' neg A n c A' n' c' q/\Ext w w'
theorem jzcb(na nb:Bool)(A1:Option Addr)(n1 c1:Nat)(A1':Option Addr)(n1' c1':Nat)(A2:Option Addr)(n2 c2:Nat)(A2':Option Addr)(n2' c2':Nat)(a b:Rat)(w:World)
  (ha:RatR w na A1 n1 c1 A1' n1' c1' a) (hb:RatR w nb A2 n2 c2 A2' n2' c2' b) (hb0:b≠0) (l1:n1<=134217728) (l1':n1'<=134217728) (l2:n2<=134217728) (l2':n2'<=134217728):
  Calls Tryz.prog 145 #[.agg #[.bool na,.slice A1 n1 c1,.slice A1' n1' c1'],.agg #[.bool nb,.slice A2 n2 c2,.slice A2' n2' c2']] w (QuoPost w (a/b)):=by
 obtain⟨b0,b1,b2,e0⟩:=boxes3 w #[.bool na,.slice A1 n1 c1,.slice A1' n1' c1'] 35 #[.bool nb,.slice A2 n2 c2,.slice A2' n2' c2'] 35 #[.bool false,.slice none 0 0,.slice none 0 0] 35;have hq:=div_mkQ a b hb0;rw [<-ha.1, <-hb.1]at hq;have qf:b.num≠0:=fun e=>hb0 (Rat.num_eq_zero.1 e);have qe:=Hx (jzp (N:=a.num.natAbs*b.den) (D:=b.num.natAbs*a.den) (Nat.mul_ne_zero (by omega) a.den_nz));have hs:(sgnI b==0)=false:=yK.2 (fun h=>hb0 (jzam.1 h));have HQ:=Hx (hq);have HA:=Hx (ha);have HB:=Hx (hb);obtain⟨⟨j0,j1,j2⟩,_⟩:=b1.three;clear ha hb hq qf hb0
 go_enter Tryz.func145,Tryz.ntmps145
 go_wp2_with fail
 refine(jzz nb A2 n2 c2 A2' n2' c2' b _ (HB.out.keep e0)).mono ?_;rintro e w1 ⟨rfl,x1⟩;generalize sgnI b=sb at*;have xd:Ext w1 w1.drew:=(Ext.refl w1).drewN 1;have BB:=Hx (And.intro ((b0.keep x1).keep xd) (And.intro ((b1.keep x1).keep xd) ((b2.keep x1).keep xd)));have E0:=Hx ((e0.tr x1).tr xd);clear b0 b1 b2 e0 x1 xd j0 j1 j2;obtain⟨⟨i0,i1,i2⟩,_⟩:=BB.out.1.three;obtain⟨⟨j0,j1,j2⟩,_⟩:=BB.out.2.1.three;have qa:True:=trivial;go_wp2
 go_region_held3 (fun w'=>w'.cell? ⟨w.heap.size,0,none⟩=some (.bool na)/\w'.cell? ⟨w.heap.size,1,none⟩=some (.slice A1 n1 c1)/\w'.cell? ⟨w.heap.size,2,none⟩=some (.slice A1' n1' c1')/\w'.cell? ⟨w.heap.size+1,0,none⟩=some (.bool nb)/\w'.cell? ⟨w.heap.size+1,1,none⟩=some (.slice A2 n2 c2)/\w'.cell? ⟨w.heap.size+1,2,none⟩=some (.slice A2' n2' c2'))
  (first|with_reducible exact⟨i0,i1,i2,j0,j1,j2⟩|exact fj _ _ _|fail)
  (first
   |(go_at_call 57
     have _t:=qa;refine(jzau A1 A2' n1 c1 n2' c2' a.num.natAbs (dk b) _ (HA.out.2.1.keep E0.out) (HB.out.2.2.keep E0.out) (by omega) (by omega)).mono ?_;rintro e w3 ⟨A3,n3,c3,rfl,h3,x3⟩;clear qa;have L3:=jzal h3 (HA.out.2.1.keep E0.out) (HB.out.2.2.keep E0.out);have h3:NatR w3 A3 n3 c3 (a.num.natAbs*b.den):=(by rw [dn_dk]at h3;exact h3);have G3:=Hx (And.intro (BB.out.1.keep x3) (And.intro (BB.out.2.1.keep x3) (BB.out.2.2.keep x3)));have E3:=Hx (E0.out.tr x3);have R3:=Hx h3;obtain⟨⟨i0,i1,i2⟩,_⟩:=G3.out.1.three;obtain⟨⟨j0,j1,j2⟩,_⟩:=G3.out.2.1.three;clear x3 h3)
   |(go_at_call 57
     refine(jzau A2 A1' n2 c2 n1' c1' b.num.natAbs (dk a) _ (HB.out.2.1.keep E3.out) (HA.out.2.2.keep E3.out) (by omega) (by omega)).mono ?_;rintro e w4 ⟨A4,n4,c4,rfl,h4,x4⟩;have L4:=jzal h4 (HB.out.2.1.keep E3.out) (HA.out.2.2.keep E3.out);have h4:NatR w4 A4 n4 c4 (b.num.natAbs*a.den):=(by rw [dn_dk]at h4;exact h4);have G4:=Hx (And.intro (G3.out.1.keep x4) (And.intro (G3.out.2.1.keep x4) (G3.out.2.2.keep x4)));have E4:=Hx (E3.out.tr x4);have R4:=Hx (And.intro (R3.out.keep x4) h4);obtain⟨⟨i0,i1,i2⟩,_⟩:=G4.out.1.three;obtain⟨⟨j0,j1,j2⟩,_⟩:=G4.out.2.1.three;clear x4 h4)
   |(go_at_call 61
     refine(qe.out (na !=nb) A3 A4 n3 c3 n4 c4 _ R4.out.1 R4.out.2 (by omega) (by omega)).mono ?_;rintro e w5 ⟨nq,B,m,d,B',m',d',rfl,h5,x5⟩;rw [<-HQ.out]at h5;have G5:=Hx (And.intro (G4.out.1.keep x5) (And.intro (G4.out.2.1.keep x5) (G4.out.2.2.keep x5)));have E5:=Hx (E4.out.tr x5);obtain⟨⟨i0,i1,i2⟩,_⟩:=G5.out.1.three;obtain⟨⟨j0,j1,j2⟩,_⟩:=G5.out.2.1.three;obtain⟨⟨p0,p1,p2⟩,f0,f1,f2⟩:=G5.out.2.2.three;obtain⟨r1,r2⟩:=jzae (w:=w) h5 G5.out.2.2 (by omega) E5.out;have q3:=((G5.out.2.2.set_ 0 (.bool nq)).set_ 1 (.slice B m d)).set_ 2 (.slice B' m' d');have RF:=Hx (And.intro q3 (And.intro r1 r2));have hf:=fun u0 u1 u2=>((G5.out.1.far (p:=⟨w.heap.size+1+1,0,none⟩) (by simp;omega) u0).far (p:=⟨w.heap.size+1+1,1,none⟩) (by simp;omega) u1).far (p:=⟨w.heap.size+1+1,2,none⟩) (by simp;omega) u2;have hg:=fun u0 u1 u2=>((G5.out.2.1.far (p:=⟨w.heap.size+1+1,0,none⟩) (by simp) u0).far (p:=⟨w.heap.size+1+1,1,none⟩) (by simp) u1).far (p:=⟨w.heap.size+1+1,2,none⟩) (by simp) u2;have fj:=fun u0 u1 u2=>And.intro ((hf u0 u1 u2).cell 0) (And.intro ((hf u0 u1 u2).cell 1) (And.intro ((hf u0 u1 u2).cell 2) (And.intro ((hg u0 u1 u2).cell 0) (And.intro ((hg u0 u1 u2).cell 1) ((hg u0 u1 u2).cell 2)))));clear x5 h5 q3 r1 r2)
   |fail)
 go_wp2;exact bodyPost_ret (v:=.tuple #[.agg #[.bool nq,.slice B m d,.slice B' m' d'],.int .i64 0]) (by simp [results,Tryz.results145,go_sem,RF.out.1.cell]) rfl ⟨_,_,_,_,_,_,_,rfl,RF.out.2.1,RF.out.2.2⟩
def flN(q:Rat):Nat:=q.num.natAbs/q.den
def flQ(q:Rat):Rat:=mkQ false (flN q) 1
theorem Tryz.info44:(Tryz.prog.info? 35).map (fun i=>(i.zero,i.size,i.bytes))=some (some (.agg #[.bool false,.slice none 0 0,.slice none 0 0]),3,56):=by kernel_rfl
section
variable (R:World->List Value->Rat->Prop) (t:TypeId)
def OQ(w:World)(B:Nat)(v:Value)(qs:List Rat):Prop:=
 ∃css:List (List Value),css.length=qs.length/\(∀cs∈css,cs.length=3)/\w.ownsRow B t 3 v qs.length css.flatten/\∀(i:Nat) (q:Rat),qs[i]?=some q->∃cs,css[i]?=some cs/\R w cs q
end
section
variable {R:World->List Value->Rat->Prop} {t:TypeId} {w w':World} {B:Nat} {v v':Value} {qs:List Rat}
theorem OQ.nil:OQ R t w B (.slice none 0 0) []:=⟨[],rfl,(fun _ h=>by cases h),World.ownsRow_nil _ _ _ _,fun i q h=>by simp at h⟩
theorem OQ.keep(hR:∀(w w':World) (cs:List Value) (q:Rat),R w cs q->Ext w w'->R w' cs q)(h:OQ R t w B v qs)(hx:Ext w w'):OQ R t w' B v qs:=by
 obtain⟨css,h1,h2,h3,h4⟩:=h;refine⟨css,h1,h2,h3.kept (jzn hx) (jzr _),fun i q hq=>?_⟩;obtain⟨cs,k1,k2⟩:=h4 i q hq;exact⟨cs,k1,hR _ _ _ _ k2 hx⟩
theorem OQ.push{css:List (List Value)}{cs:List Value}{q:Rat}(h1:css.length=qs.length)(h2:∀cs∈css,cs.length=3)(hl:cs.length=3)(h4:∀(i:Nat) (q:Rat),qs[i]?=some q->∃cs,css[i]?=some cs/\R w' cs q)
  (hq:R w' cs q) (hown:w'.ownsRow B t 3 v' (qs.length+1) (css.flatten++cs)):OQ R t w' B v' (qs++[q]):=by
 refine⟨css++[cs],by simp [h1],fun c hc=>?_,by rw [List.flatten_append,yQ];simpa using hown,fun i q' hq'=>?_⟩
 ·rcases xY.1 hc with h|h
  ·exact h2 c h
  ·simp at h;rw [h];exact hl
 ·by_cases hi:i<qs.length
  ·rw [yR hi]at hq'
   obtain⟨c,k1,k2⟩:=h4 i q' hq';exact⟨c,by rw [yR (by omega)];exact k1,k2⟩
  ·rw [yS (by omega)]at hq'
   have qa:i-qs.length=0:=by
    rcases Nat.eq_zero_or_pos (i-qs.length)with h0|h0
    ·exact h0
    ·rw [yI (by simp;omega)]at hq';cases hq'
   rw [qa]at hq';simp at hq';subst hq';exact⟨cs,by rw [yS (by omega),show i-css.length=0 by omega];rfl,hq⟩
end
end Go.Proofs.YthbmikapohlikaaGreatDoor
