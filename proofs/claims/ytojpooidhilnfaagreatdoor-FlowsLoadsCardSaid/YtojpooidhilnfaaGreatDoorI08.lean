/- Part 8 of 25 of what the Flows claims share (the white space is struck, the texts are joined). -/
import Derived.Laws.MakeOwn
import Derived.Test.YtojpooidhilnfaaGreatDoorI07
set_option linter.unusedVariables false
set_option linter.unusedSimpArgs false
set_option maxRecDepth 100000
set_option maxHeartbeats 8000000
namespace Go.Proofs.YtojpooidhilnfaaGreatDoor
open Go.RowKit
def SzQ(q:Rat)(k:Nat):Prop:=q.num.natAbs<B32^k/\q.den<B32^k
def QR(w:World)(cs:List Value)(q:Rat):Prop:=
 ∃(neg:Bool) (A:OA) (n c:Nat) (A':OA) (n' c':Nat),cs=[.bool neg,.s A n c,.s A' n' c']/\aE w neg A n c A' n' c' q
theorem QR.K{w w'}{cs:List Value}{q:Rat}(h:QR w cs q)(hx:Ext w w'):QR w' cs q:=by
 obtain⟨neg,A,n,c,A',n',c',e,h1⟩:=h;exact⟨neg,A,n,c,A',n',c',e,h1.K hx⟩
theorem aF.lenOf{w}{A}{n c N k:Nat}(h:aF w A n c N)(hN:N<B32^k):n<=k:=by
 obtain⟨ds,rfl,_,qa,rfl,_⟩:=h;exact qa.len_le iL hN
theorem aE.lens{w}{neg:Bool}{A}{n c:Nat}{A'}{n' c':Nat}{q:Rat}{k:Nat}(h:aE w neg A n c A' n' c' q)(hs:SzQ q k):n<=k/\n'<=k:=by
 refine⟨h.2.1.lenOf hs.1,h.2.2.lenOf ?_⟩;unfold dk;split;{exact kQy aY};exact hs.2
theorem dK{m:Nat}:∀(css:List (List Value)),(∀cs∈css,cs.length=m)->∀(i k:Nat),i<css.length->k<m->css.flatten[i*m+k]?=(css[i]?.getD [])[k]?
 | [],_,i,k,hi,_=>by simp at hi
 |cs::css,h,0,k,_,hk=>by
  rw[Nat.zero_mul,kQu,List.flatten_cons,yR (by rw[h cs (by simp)];exact hk)];rfl
 |cs::css,h,i+1,k,hi,hk=>by
  have hl:=h cs (by simp);rw[List.flatten_cons,yS (by rw[hl,xP,xQ];omega),hl,show(i+1)*m+k-m=i*m+k by rw[xP,xQ];omega];rw[dK css (fun c hc=>h c (by simp[hc])) i k (by simpa using hi) hk];simp
theorem fQ{m:Nat}(css:List (List Value))(h:∀cs∈css,cs.length=m):css.flatten.length=css.length*m:=by
 (induction css with|nil=>simp|cons a l ih=>rw[List.flatten_cons,yQ,h a (by simp),ih (fun c hc=>h c (by simp[hc])),kQo,xP,xQ,kZl])
def QL(w:World)(P:OA)(qs:LQ):Prop:=
 ∃css:List (List Value),css.length=qs.length/\(∀cs∈css,cs.length=3)/\Rd w P css.flatten/\∀(i:Nat) (q:Rat),qs[i]?=some q->∃cs,css[i]?=some cs/\QR w cs q
theorem QL.K{w w'}{P}{qs:LQ}(h:QL w P qs)(hx:Ext w w'):QL w' P qs:=by
 obtain⟨css,h1,h2,h3,h4⟩:=h;refine⟨css,h1,h2,h3.K hx,fun i q hq=>?_⟩;obtain⟨cs,k1,k2⟩:=h4 i q hq;exact⟨cs,k1,k2.K hx⟩
theorem QL.at_{w}{P}{qs:LQ}(h:QL w P qs){i:Nat}{q:Rat}(hq:qs[i]?=some q):
  ∃(b o:Nat) (neg:Bool) (A:OA) (n c:Nat) (A':OA) (n' c':Nat),P=some (aD b o)/\b<w.heap.size/\w.cell? (aD b (o+i*3))=some (.bool neg)/\w.cell? (aD b (o+i*3+1))=some (.s A n c)/\w.cell? (aD b (o+i*3+2))=some (.s A' n' c')/\aE w neg A n c A' n' c' q:=by
 obtain⟨css,h1,h2,h3,h4⟩:=h;obtain⟨cs,k1,neg,A,n,c,A',n',c',rfl,k2⟩:=h4 i q hq;have hi:=(yH.1 hq).1;have hl:=fQ css h2;have qa:∀k,k<3->css.flatten[i*3+k]?=([.bool neg,.s A n c,.s A' n' c']:List Value)[k]?:=fun k hk=>(by rw[dK css h2 i k (by omega) hk,k1];rfl);obtain⟨b,o,rfl,hb,hc⟩:=h3.at_ (i:=i*3) (by omega);refine⟨b,o,neg,A,n,c,A',n',c',rfl,hb,?_,?_,?_,k2⟩;{have:=hc (i*3+0) (by omega);rw[qa 0 (by omega)]at this;exact this};{have:=hc (i*3+1) (by omega);rw[qa 1 (by omega)]at this;exact this};have:=hc (i*3+2) (by omega);rw[qa 2 (by omega)]at this;exact this
theorem jzi6(neg:Bool)A(n c:Nat)A'(n' c':Nat)(q:Rat)w(h:aE w neg A n c A' n' c' q):
  Calls Tryz.prog 186 #[.agg #[.bool neg,.s A n c,.s A' n' c']] w fun e w'=>e=.returned (.bool (decide (aC q<0)))/\Ext w w':=by
 obtain⟨qe,e0⟩:=aZ w #[.bool neg,.s A n c,.s A' n' c'] 35;obtain⟨⟨i0,i1,i2⟩,g0,g1,g2⟩:=qe.t3;have H:=Hx h;clear h;go_enter Tryz.func186,Tryz.ntmps186;(go_wp2_with fail);refine(cT neg A n c A' n' c' q _ (H.o.K e0)).mono ?_;rintro e w1 ⟨rfl,qa⟩;have HX:=Hx (e0.tr qa);clear qa;go_wp2;go_ret;exact⟨rfl,HX.o⟩
def jzi7(w:World)(qs:LQ)(e:Ending)(w':World):Prop:=∃r:Int,e=.returned (vI r)/\decide (0<=r)=qs.any (fun q=>decide (aC q<0))/\Ext w w'
theorem jzi8 P(cp:Nat)(qs:LQ)w(h:QL w P qs)(hl:qs.length<=1000000):
  Calls Tryz.prog 224 #[.s P qs.length cp,.func (.func 186) #[] #[]] w (jzi7 w qs):=by
 have H:=Hx h;clear h;go_enter Tryz.func224,Tryz.ntmps224;go_wp2;(go_loopw [5,8] (fun _ it wr=>∃k:Nat,k<=qs.length/\it=vI k/\(qs.take k).any (fun q=>decide (aC q<0))=false/\Ext w wr) (fun _ i _=>qs.length-(intOf i).toNat));(case atStart=>exact⟨0,yZ _,rfl,rfl,eR _⟩);obtain⟨k,hk,rfl,qh,hx⟩:=hrel;have qf:=Hx qh;have HX:=Hx hx;clear qh hx;by_cases qk:k<qs.length;{obtain⟨q,hq⟩:∃q,qs[k]?=some q:=⟨_,yG qk⟩;obtain⟨b,o,neg,A,n,c,A',n',c',rfl,hb,i0,i1,i2,hR⟩:=(H.o.K HX.o).at_ hq;have R:=Hx hR;have qe:=Hx (show(qs.take (k+1)).any (fun q=>decide (aC q<0))=decide (aC q<0) by rw[kQr,hq,List.any_append,qf.o];simp);have qm:Hid (decide (aC q<0)=true->qs.any (fun q=>decide (aC q<0))=true):=Hx (fun e=>List.any_eq_true.2 ⟨q,yJ hq,e⟩);clear hq hR;(go_wp2_with fail);refine(jzi6 neg A n c A' n' c' q _ R.o).mono ?_;rintro e w1 ⟨rfl,qj⟩;have qi:=Hx (HX.o.tr qj);clear qj i0 i1 i2;cases hs:decide (aC q<0);(case true=>have qa:=qm.o hs;have qg:=Hx qa;clear qa hs;go_wp2;go_ret;exact⟨(k:Int),rfl,by rw[qg.o];simp,qi.o⟩);have HS:=Hx (qe.o.trans hs);clear hs;go_wp2;go_roundw;(case rel=>exact⟨k+1,by omega,by go_num,HS.o,qi.o⟩);simp[intOf];omega};have qn:k=qs.length:=(by omega);subst qn;rw[yU (yX _)]at qf;go_wp2;go_ret;exact⟨-1,rfl,by rw[qf.o];rfl,HX.o⟩
theorem jzi9 P(cp:Nat)(qs:LQ)w(h:QL w P qs)(hl:qs.length<=1000000):
  Calls Tryz.prog 187 #[.s P qs.length cp,.func (.func 186) #[] #[]] w fun e w'=>e=.returned (.bool (qs.any (fun q=>decide (aC q<0))))/\Ext w w':=by
 have H:=Hx h;clear h;generalize hB:qs.any (fun q=>decide (aC q<0))=B;have HB:=Hx hB;clear hB;go_enter Tryz.func187,Tryz.ntmps187;(go_wp2_with fail);refine(jzi8 P cp qs _ H.o hl).mono ?_;rintro e w1 ⟨r,rfl,hr,qa⟩;rw[HB.o]at hr;subst hr;go_wp2;go_ret;exact⟨rfl,qa⟩
def dZ(t:Tp)(qs:LQ):Bool:=decide (qs.length=2*t.links.length)&&!qs.any (fun q=>decide (aC q<0))
theorem jzja t AO(co:Nat)AL(cl:Nat)P(cp:Nat)(qs:LQ)w(ht:bA w t AO co AL cl)(h:QL w P qs)(hl:qs.length<=1000000):
  Calls Tryz.prog 136 #[.agg #[vI t.nodes,.s AO t.over.length co,.s AL t.links.length cl],.s P qs.length cp] w fun e w'=>e=.returned (.bool (dZ t qs))/\Ext w w':=by
 obtain⟨qg,e0⟩:=aZ w #[vI t.nodes,.s AO t.over.length co,.s AL t.links.length cl] 25;obtain⟨⟨i0,i1,i2⟩,g0,g1,g2⟩:=qg.t3;have H:=Hx h;have HT:=Hx ht;have h3:=ht.ll;have h4:=ht.cl;generalize hB:dZ t qs=B;have HB:=Hx hB;clear h ht hB;go_enter Tryz.func136,Tryz.ntmps136;(go_wp2_with fail);refine(fO t AO co AL cl _ (HT.o.K e0)).mono ?_;rintro e w1 ⟨rfl,qf⟩;have HX:=Hx (e0.tr qf);clear qf i0 i1 i2 g0 g1 g2;by_cases he:qs.length=2*t.links.length;{(have qi:((qs.length:Int)==2*(t.links.length:Int))=true:=by simp;omega);have qa:B=!qs.any (fun q=>decide (aC q<0)):=(by rw[<-HB.o];unfold dZ;rw[yO he];rfl);subst qa;clear he HB;(go_wp2_with fail);refine(jzi9 P cp qs _ (H.o.K HX.o) hl).mono ?_;rintro e w2 ⟨rfl,qe⟩;have qh:=Hx (HX.o.tr qe);clear qe;generalize hZ:qs.any (fun q=>decide (aC q<0))=Z at*;have HZ:=Hx hZ;clear hZ;go_wp2;go_ret;exact⟨by rw[HZ.o];rfl,qh.o⟩};have qi:((qs.length:Int)==2*(t.links.length:Int))=false:=yK.2 (by omega);have qa:B=false:=(by rw[<-HB.o];unfold dZ;rw[yP he];rfl);subst qa;clear he HB;go_wp2;go_ret;exact⟨rfl,HX.o⟩
def or3(x y z:Int):Int:=if x≠0 then x else if y≠0 then y else z
def bH:LN->LN->Int
 | [],[]=>0
 | [],_::_=> -1
 |_::_,[]=>1
 |a::x,b::y=>if a<b then-1 else if a=b then bH x y else 1
theorem jzay(g:Nat)(x y z:Int)w(h:Blk w g 3 #[vI x,vI y,vI z]):
  Calls Tryz.prog 188 #[.s (sA g) 3 3] w fun e w'=>e=.returned (vI (or3 x y z))/\w=w':=by
 obtain⟨⟨i0,i1,i2⟩,_⟩:=h.t3;have hR:∃R,R=or3 x y z:=⟨_,rfl⟩;obtain⟨R,hR⟩:=hR;have HR:=Hx hR;rw[<-hR];clear h hR;go_enter Tryz.func188,Tryz.ntmps188;go_wp2;(go_loop [5,8] (fun _ it=>∃k:Nat,k<=3/\it=vI k/\(1<=k->x=0)/\(2<=k->y=0)/\(3<=k->z=0)) (fun _ i=>3-(intOf i).toNat));(case atStart=>exact⟨0,by omega,rfl,by omega,by omega,by omega⟩);(obtain⟨k,hk,rfl,h1,h2,h3⟩:=hrel;have H1:=Hx h1;have H2:=Hx h2;have H3:=Hx h3;clear h1 h2 h3;obtain rfl|rfl|rfl|rfl:k=0\/k=1\/k=2\/k=3:=by omega);{by_cases hx:x=0;{(have hb:(x !=0)=false:=by simp[hx]);have HX:=Hx hx;clear hx;go_wp2;(go_round);(case rel=>exact⟨1,by omega,rfl,fun _=>HX.o,by omega,by omega⟩);simp[intOf]};have hb:(x !=0)=true:=bne_iff_ne.2 hx;have HX:=Hx (show x=R by rw[HR.o];unfold or3;rw[if_pos hx]);go_wp2;go_ret;exact⟨by rw[<-HX.o];rfl,rfl⟩};{by_cases hx:y=0;{(have hb:(y !=0)=false:=by simp[hx]);have HX:=Hx hx;clear hx;go_wp2;(go_round);(case rel=>exact⟨2,by omega,rfl,fun _=>H1.o (by omega),fun _=>HX.o,by omega⟩);simp[intOf]};have hb:(y !=0)=true:=bne_iff_ne.2 hx;have HX:=Hx (show y=R by rw[HR.o];unfold or3;rw[if_neg (by simpa using H1.o (by omega)),if_pos hx]);go_wp2;go_ret;exact⟨by rw[<-HX.o];rfl,rfl⟩};{by_cases hx:z=0;{(have hb:(z !=0)=false:=by simp[hx]);have HX:=Hx hx;clear hx;go_wp2;(go_round);(case rel=>exact⟨3,by omega,rfl,fun _=>H1.o (by omega),fun _=>H2.o (by omega),fun _=>HX.o⟩);simp[intOf]};have hb:(z !=0)=true:=bne_iff_ne.2 hx;have HX:=Hx (show z=R by rw[HR.o];unfold or3;rw[if_neg (by simpa using H1.o (by omega)),if_neg (by simpa using H2.o (by omega))]);go_wp2;go_ret;exact⟨by rw[<-HX.o];rfl,rfl⟩};have HX:=Hx (show 0=R by rw[HR.o];unfold or3;rw[if_neg (by simpa using H1.o (by omega)),if_neg (by simpa using H2.o (by omega)),H3.o (by omega)]);go_wp2;go_ret;exact⟨by rw[<-HX.o];rfl,rfl⟩
theorem jzjb(x y:Nat):Lib.compareInt (x:Int) (y:Int)=aI x y:=by
 unfold Lib.compareInt aI;split <;> split <;> (try split) <;> omega
theorem pM(x y:Nat)w:Calls Tryz.prog 189 #[vI x,vI y] w fun e w'=>e=.returned (vI (aI x y))/\w=w':=by
 refine(Tryz.cmp_Compare_int x y w).mono ?_;rintro e w' ⟨rfl,rfl⟩;exact⟨by rw[jzjb],rfl⟩
theorem jzjc{l1 l2:LN}{k a b:Nat}(h1:l1[k]?=some a)(h2:l2[k]?=some b):bH (l1.drop k) (l2.drop k)=if a<b then-1 else if a=b then bH (l1.drop (k+1)) (l2.drop (k+1))else 1:=by
 obtain⟨qe,e1⟩:=yH.1 h1;obtain⟨qa,e2⟩:=yH.1 h2;rw[kQ6 qe,kQ6 qa,bH,e1,e2]
theorem jzaz A1 A2(c1 c2:Nat)(l1 l2:LN)w(hr1:Rd w A1 (ints l1))(hr2:Rd w A2 (ints l2))(hl1:l1.length<=1000000)(hl2:l2.length<=1000000):
  Calls Tryz.prog 190 #[.s A1 l1.length c1,.s A2 l2.length c2] w fun e w'=>e=.returned (vI (bH l1 l2))/\w=w':=by
 have R1:=Hx hr1;have R2:=Hx hr2;obtain⟨R,hR⟩:∃R,R=bH l1 l2:=⟨_,rfl⟩;have HR:=Hx hR;rw[<-hR];clear hr1 hr2 hR;go_enter Tryz.func190,Tryz.ntmps190;go_wp2;(go_loop [5,6,7,8,11] (fun _ _ _ _ it=>∃k:Nat,k<=l1.length/\k<=l2.length/\it=vI k/\bH (l1.drop k) (l2.drop k)=R) (fun _ _ _ _ i=>l1.length-(intOf i).toNat));(case atStart=>exact⟨0,yZ _,yZ _,rfl,HR.o.symm⟩);obtain⟨k,qt,qp,rfl,qh⟩:=hrel;have HL:=Hx qh;clear qh;by_cases qi:k<l1.length;{obtain⟨a,ha⟩:∃a,l1[k]?=some a:=⟨_,yG qi⟩;obtain⟨b,o,rfl,hb,qn⟩:=R1.o.ints_ qi;rw[ha,kQ1]at qn;by_cases qe:k<l2.length;{obtain⟨a2,qj⟩:∃a,l2[k]?=some a:=⟨_,yG qe⟩;obtain⟨b2,o2,rfl,qw,qm⟩:=R2.o.ints_ qe;rw[qj,kQ1]at qm;have hl:=HL.o;rw[jzjc ha qj]at hl;have qk:=Hx hl;clear hl ha qj;(go_wp2_with fail);refine(pM a a2 _).mono ?_;rintro e w1 ⟨rfl,rfl⟩;by_cases qf:a<a2;{(have hv:aI a a2= -1:=by unfold aI;rw[if_pos qf]);have qa:=Hx (show-1=R by rw[<-qk.o,if_pos qf]);rw[hv];clear hv;go_wp2;go_ret;exact⟨by rw[<-qa.o];rfl,rfl⟩};by_cases qg:a=a2;{(have hv:aI a a2=0:=by unfold aI;rw[if_neg qf,if_pos qg]);have qa:=Hx (show bH (l1.drop (k+1)) (l2.drop (k+1))=R by rw[<-qk.o,if_neg qf,if_pos qg]);rw[hv];clear hv qg;go_wp2;(go_round);(case rel=>exact⟨k+1,by omega,by omega,by go_num,qa.o⟩);simp[intOf];omega};have hv:aI a a2=1:=(by unfold aI;rw[if_neg qf,if_neg qg]);have qa:=Hx (show 1=R by rw[<-qk.o,if_neg qf,if_neg qg]);rw[hv];clear hv;go_wp2;go_ret;exact⟨by rw[<-qa.o];rfl,rfl⟩};have qa:=Hx (show 1=R by rw[<-HL.o,kQ6 qi,kQf (show l2.length<=k by omega)];rfl);clear ha;go_wp2;go_ret;exact⟨by rw[<-qa.o];rfl,rfl⟩};have qo:k=l1.length:=(by omega);subst qo;by_cases qe:l1.length<l2.length;{have qa:=Hx (show-1=R by rw[<-HL.o,kQf (yX _),kQ6 qe];rfl);go_wp2;go_ret;exact⟨by rw[<-qa.o];rfl,rfl⟩};have qa:=Hx (show 0=R by rw[<-HL.o,kQf (yX _),kQf (show l2.length<=l1.length by omega)];rfl);go_wp2;go_ret;exact⟨by rw[<-qa.o];rfl,rfl⟩
def mX(p q:Rat)(x y:LN):Int:=or3 (aX p q) (aI x.length y.length) (bH x y)
theorem jza0(k1 d1 na k2 d2 nb:Bool)A1(n1 c1:Nat)A1'(n1' c1':Nat)A2(n2 c2:Nat)A2'(n2' c2':Nat)AX AY(cx cy:Nat)(p q:Rat)(x y:LN)w
  (ha:aE w na A1 n1 c1 A1' n1' c1' p) (hb:aE w nb A2 n2 c2 A2' n2' c2' q) (l1:n1<=268435456) (l1':n1'<=268435456) (l2:n2<=268435456) (l2':n2'<=268435456) (hx:Rd w AX (ints x)) (hy:Rd w AY (ints y)) (hxl:x.length<=1000000) (hyl:y.length<=1000000):
  Calls Tryz.prog 140 #[.agg #[.bool k1,.bool d1,.bool na,.s A1 n1 c1,.s A1' n1' c1',.s AX x.length cx],.agg #[.bool k2,.bool d2,.bool nb,.s A2 n2 c2,.s A2' n2' c2',.s AY y.length cy]] w fun e w'=>e=.returned (vI (mX p q x y))/\Ext w w':=by
 obtain⟨qe,qa,e0⟩:=dD w #[.bool k1,.bool d1,.bool na,.s A1 n1 c1,.s A1' n1' c1',.s AX x.length cx] 216 #[.bool k2,.bool d2,.bool nb,.s A2 n2 c2,.s A2' n2' c2',.s AY y.length cy] 216;have HA:=Hx ha;have HB:=Hx hb;have HX:=Hx hx;have HY:=Hx hy;obtain⟨R,hR⟩:∃R,R=mX p q x y:=⟨_,rfl⟩;have HR:=Hx hR;rw[<-hR];clear ha hb hx hy hR;generalize hW:(w.alloc (.cells #[.bool k1,.bool d1,.bool na,.s A1 n1 c1,.s A1' n1' c1',.s AX x.length cx] 216)).alloc (.cells #[.bool k2,.bool d2,.bool nb,.s A2 n2 c2,.s A2' n2' c2',.s AY y.length cy] 216)=W at*;have qm:=qe.cell 2;have qg:=qe.cell 3;have qh:=qe.cell 4;have qj:=qe.cell 5;have qn:=qa.cell 2;have qi:=qa.cell 3;have qf:=qa.cell 4;have qk:=qa.cell 5;simp only[xI,kQi,List.getElem?_cons_succ]at qm qg qh qj qn qi qf qk;have BA:=Hx qe;have BB:=Hx qa;have E0:=Hx e0;clear qe qa e0;go_enter Tryz.func140,Tryz.ntmps140;go_wp2;clear hW;have W0:Hid (Ext w W.drew):=Hx (E0.o.drewN 1);have BA:Hid (Blk W.drew _ _ _):=BA.o;have BB:Hid (Blk W.drew _ _ _):=BB.o
 go_region_held3 (fun w'=>w'.cell? (aD w.heap.size 2)=some (.bool na)/\w'.cell? (aD w.heap.size 3)=some (.s A1 n1 c1)/\w'.cell? (aD w.heap.size 4)=some (.s A1' n1' c1')/\w'.cell? (aD w.heap.size 5)=some (.s AX x.length cx)/\
   w'.cell? (aD (w.heap.size+1) 2)=some (.bool nb)/\w'.cell? (aD (w.heap.size+1) 3)=some (.s A2 n2 c2)/\w'.cell? (aD (w.heap.size+1) 4)=some (.s A2' n2' c2')/\w'.cell? (aD (w.heap.size+1) 5)=some (.s AY y.length cy))
  (first|exact⟨qm,qg,qh,qj,qn,qi,qf,qk⟩|exact⟨aH qm _,aH qg _,aH qh _,aH qj _,aH qn _,aH qi _,aH qf _,aH qk _⟩)
  (first
   |(go_at_call 30
     refine(gM na nb A1 n1 c1 A1' n1' c1' A2 n2 c2 A2' n2' c2' p q _ (by exact HA.o.K W0.o) (by exact HB.o.K W0.o) l1 l1' l2 l2').mono ?_;rintro e w5 ⟨rfl,qo⟩;have X5:=Hx (W0.o.tr qo);have B5:=Hx (BA.o.K qo);have C5:=Hx (BB.o.K qo);have qm:=B5.o.cell 2;have qg:=B5.o.cell 3;have qh:=B5.o.cell 4;have qj:=B5.o.cell 5;have qn:=C5.o.cell 2;have qi:=C5.o.cell 3;have qf:=C5.o.cell 4;have qk:=C5.o.cell 5;simp only[xI,kQi,List.getElem?_cons_succ]at qm qg qh qj qn qi qf qk;clear qo)
   |(go_at_call 189
     refine(pM x.length y.length _).mono ?_;rintro e w6 ⟨rfl,rfl⟩)
   |(go_at_call 190
     refine(jzaz AX AY cx cy x y _ (by exact HX.o.K X5.o) (by exact HY.o.K X5.o) hxl hyl).mono ?_;rintro e w6 ⟨rfl,rfl⟩)
   |(go_at_call 188
     refine(jzay w5.heap.size (aX p q) (aI x.length y.length) (bH x y) _ (eN _ _ _)).mono ?_;rintro e w7 ⟨rfl,rfl⟩;have qp:=Hx (X5.o.alloc (.cells #[vI (aX p q),vI (aI x.length y.length),vI (bH x y)] 3))))
 all_goals
  go_wp2;go_ret;exact⟨by rw[HR.o];rfl,qp.o⟩
def prQ(ps:LQ)(arcs:LN):Rat:=arcs.foldl (fun s a=>s+ps[a]?.getD 0) 0
theorem mY(ps:LQ)(arcs:LN)(a:Nat):prQ ps (arcs++[a])=prQ ps arcs+ps[a]?.getD 0:=by unfold prQ;rw[kZt];rfl
structure Lb where
 known:Bool
 done:Bool
 arcs:LN
def LbR(w:World)(ps:LQ)(cs:List Value)(lb:Lb):Prop:=
 ∃(neg:Bool) (A:OA) (n c:Nat) (A':OA) (n' c':Nat) (AX:OA) (cx:Nat),cs=[.bool lb.known,.bool lb.done,.bool neg,.s A n c,.s A' n' c',.s AX lb.arcs.length cx]/\aE w neg A n c A' n' c' (prQ ps lb.arcs)/\lb.arcs.length<=cx/\RdT w 3 AX (ints lb.arcs)
theorem LbR.K{w w'}{ps:LQ}{cs:List Value}{lb:Lb}(h:LbR w ps cs lb)(hx:Ext w w'):LbR w' ps cs lb:=by
 obtain⟨neg,A,n,c,A',n',c',AX,cx,e,h1,h2,h3⟩:=h;exact⟨neg,A,n,c,A',n',c',AX,cx,e,h1.K hx,h2,h3.K hx⟩
def cO(w:World)(ps:LQ)(g:Nat)(ls:List Lb):Prop:=
 ∃css:List (List Value),css.length=ls.length/\(∀cs∈css,cs.length=6)/\Blk w g 216 css.flatten.toArray/\∀(i:Nat) (lb:Lb),ls[i]?=some lb->∃cs,css[i]?=some cs/\LbR w ps cs lb
theorem cO.K{w w'}{ps:LQ}{g:Nat}{ls:List Lb}(h:cO w ps g ls)(hx:Ext w w'):cO w' ps g ls:=by
 obtain⟨css,h1,h2,h3,h4⟩:=h;refine⟨css,h1,h2,h3.K hx,fun i lb hl=>?_⟩;obtain⟨cs,k1,k2⟩:=h4 i lb hl;exact⟨cs,k1,k2.K hx⟩
theorem cO.lt{w}{ps:LQ}{g:Nat}{ls:List Lb}(h:cO w ps g ls):g<w.heap.size:=by
 obtain⟨css,_,_,h3,_⟩:=h;exact h3.lt
theorem cO.at_{w}{ps:LQ}{g:Nat}{ls:List Lb}(h:cO w ps g ls){i:Nat}{lb:Lb}(hl:ls[i]?=some lb):
  ∃(neg:Bool) (A:OA) (n c:Nat) (A':OA) (n' c':Nat) (AX:OA) (cx:Nat),
   (w.cell? (aD g (i*6))=some (.bool lb.known)/\w.cell? (aD g (i*6+1))=some (.bool lb.done)/\w.cell? (aD g (i*6+2))=some (.bool neg)/\w.cell? (aD g (i*6+3))=some (.s A n c)/\w.cell? (aD g (i*6+4))=some (.s A' n' c')/\w.cell? (aD g (i*6+5))=some (.s AX lb.arcs.length cx))/\
   aE w neg A n c A' n' c' (prQ ps lb.arcs)/\lb.arcs.length<=cx/\RdT w 3 AX (ints lb.arcs):=by
 obtain⟨css,h1,h2,h3,h4⟩:=h;obtain⟨cs,k1,neg,A,n,c,A',n',c',AX,cx,rfl,k2,k3,k4⟩:=h4 i lb hl;have hi:=(yH.1 hl).1;have qa:∀k,k<6->w.cell? (aD g (i*6+k))=([.bool lb.known,.bool lb.done,.bool neg,.s A n c,.s A' n' c',.s AX lb.arcs.length cx]:List Value)[k]?:=fun k hk=>(by rw[h3.cell,xI,dK css h2 i k (by omega) hk,k1];rfl);exact⟨neg,A,n,c,A',n',c',AX,cx,⟨qa 0 (by omega),qa 1 (by omega),qa 2 (by omega),qa 3 (by omega),qa 4 (by omega),qa 5 (by omega)⟩,k2,k3,k4⟩
def cA(ps:LQ)(x y:LN):Bool:=decide (mX (prQ ps x) (prQ ps y) x y<0)
def bV(ps:LQ)(ls:List Lb):Nat->Int
 |0=> -1
 |k+1=>match ls[k]? with
  |none=>bV ps ls k
  |some l=>if l.known&&!l.done&&(decide (bV ps ls k<0)||cA ps l.arcs ((ls[(bV ps ls k).toNat]?.map Lb.arcs).getD []))then(k:Int)else bV ps ls k
def bS(ps:LQ)(ls:List Lb):Int:=bV ps ls ls.length
theorem tM(ps:LQ)(ls:List Lb):∀k,bV ps ls k= -1\/(0<=bV ps ls k/\(bV ps ls k).toNat<k/\(bV ps ls k).toNat<ls.length)
 |0=>.inl rfl
 |k+1=>by
  have ih:=tM ps ls k;unfold bV
  split
  ·rcases ih with h|h
   ·exact .inl h
   ·exact .inr ⟨h.1,by omega,h.2.2⟩
  ·rename_i l hl
   split
   ·have:=(yH.1 hl).1
    exact .inr ⟨by omega,by omega,by omega⟩
   ·rcases ih with h|h
    ·exact .inl h
    ·exact .inr ⟨h.1,by omega,h.2.2⟩
def SzL(ps:LQ)(ls:List Lb):Prop:=∀lb∈ls,SzQ (prQ ps lb.arcs) 268435456/\lb.arcs.length<=1000
theorem jzjd(g:Nat)(ps:LQ)(ls:List Lb)w(h:cO w ps g ls)(hsz:SzL ps ls)(hl:ls.length<=1000):
  Calls Tryz.prog 137 #[.s (sA g) ls.length ls.length] w fun e w'=>e=.returned (vI (bS ps ls))/\Ext w w':=by
 have H:=Hx h;have SZ:=Hx hsz;clear h hsz;go_enter Tryz.func137,Tryz.ntmps137;go_wp2;go_loopg [3,4,5,8] ls.length (fun m bt _ _ it wr=>∃k:Nat,ls.length-k=m/\k<=ls.length/\it=vI k/\bt=vI (bV ps ls k)/\Ext w wr);(case atStart=>exact⟨0,rfl,yZ _,rfl,rfl,eR _⟩)
 obtain⟨k,rfl,hk,rfl,rfl,hx⟩:=hrel;have EX:=Hx hx;have qF:=tM ps ls k;have qk:=Hx (show bV ps ls (k+1)=match ls[k]? with
  |none=>bV ps ls k
  |some l=>if l.known&&!l.done&&(decide (bV ps ls k<0)||cA ps l.arcs ((ls[(bV ps ls k).toNat]?.map Lb.arcs).getD []))then(k:Int)else bV ps ls k from rfl)
 generalize hbb:bV ps ls k=b at*;have qJ:=Hx hbb;clear hbb;clear hx;by_cases qG:k<ls.length;{obtain⟨lb,qh⟩:∃lb,ls[k]?=some lb:=⟨_,yG qG⟩;obtain⟨neg,A,n,c,A',n',c',AX,cx,⟨i0,i1,i2,i3,i4,i5⟩,hR,qz,qw⟩:=(H.o.K EX.o).at_ qh;have qa:=qk.o;rw[qh]at qa;have qe:=Hx qa;have qp:=Hx (SZ.o lb (yJ qh));have R:=Hx hR;have X:=Hx qw;clear qa hR qw qh qk;(go_upto_region 5 with fail);obtain⟨kn,dn,arcs⟩:=lb;simp only[]at i0 i1 i5 qz;obtain⟨bx,e0⟩:=aZ wr #[.bool kn,.bool dn,.bool neg,.s A n c,.s A' n' c',.s AX arcs.length cx] 216;generalize wr.alloc (.cells #[.bool kn,.bool dn,.bool neg,.s A n c,.s A' n' c',.s AX arcs.length cx] 216)=W at*;have y0:=XW.cell _ _ _ bx.lt (bx.cell 0);have y1:=XW.cell _ _ _ bx.lt (bx.cell 1);have EW:=Hx (EX.o.tr e0);have E0:=Hx e0;have BX:=Hx bx;clear e0 bx i0 i1 i2 i3 i4 i5 EX;go_cut [32] (fun s wx=>s=.bool (kn&&!dn&&(decide (b<0)||cA ps arcs ((ls[b.toNat]?.map Lb.arcs).getD [])))/\Ext w wx);(case first=>cases kn;(case false=>refine cM (by kernel_rfl) (by kernel_rfl) ?_;(repeat (go_big_quiet_step (fail)));refine wpQuiet_nil ?_;rintro _ ⟨x,rfl⟩;go_wp2;go_meet;exact⟨rfl,EW.o.tr x.ext⟩);cases dn;(case true=>refine cM (by kernel_rfl) (by kernel_rfl) ?_;(repeat (go_big_quiet_step (fail)));refine wpQuiet_nil ?_;rintro _ ⟨x,rfl⟩;go_wp2;go_meet;exact⟨rfl,EW.o.tr x.ext⟩);(rcases qF with hb|⟨hb0,hbk,hbl⟩);{subst hb;have qC:decide ((-1:Int)<0)=true:=rfl;refine cM (by kernel_rfl) (by kernel_rfl) ?_;(repeat (go_big_quiet_step (fail)));refine wpQuiet_nil ?_;rintro _ ⟨x,rfl⟩;go_wp2;go_meet;exact⟨rfl,EW.o.tr x.ext⟩};obtain⟨m,rfl⟩:∃m:Nat,b=(m:Int):=⟨b.toNat,by omega⟩;rw[xL]at hbk hbl;obtain⟨lm,qi⟩:∃lm,ls[m]?=some lm:=⟨_,yG hbl⟩;have qn:=Hx (SZ.o lm (yJ qi));have HV:=Hx (show cA ps arcs ((ls[m]?.map Lb.arcs).getD [])=cA ps arcs lm.arcs by rw[qi];rfl);obtain⟨qj,A2,n2,c2,qA,qE,qI,qD,qB,⟨j0,j1,j2,j3,j4,j5⟩,qy,qH,qg⟩:=(H.o.K EW.o).at_ qi;have qf:=(H.o.K EW.o).lt;have z0:=XW.cell _ _ _ qf j0;have z1:=XW.cell _ _ _ qf j1;have z2:=XW.cell _ _ _ qf j2;have z3:=XW.cell _ _ _ qf j3;have z4:=XW.cell _ _ _ qf j4;have z5:=XW.cell _ _ _ qf j5;have y2:=XW.cell _ _ _ BX.o.lt (BX.o.cell 2);have y3:=XW.cell _ _ _ BX.o.lt (BX.o.cell 3);have y4:=XW.cell _ _ _ BX.o.lt (BX.o.cell 4);have y5:=XW.cell _ _ _ BX.o.lt (BX.o.cell 5);have R2:=Hx qy;have X2:=Hx qg;have qN:(m:Int)<(ls.length:Int):=(by omega);have qM:(0:Int)<=(m:Int):=(by omega);have qC:decide ((m:Int)<0)=false:=(by simp);have qt:=R.o.lens qp.o.1;have qo:=R2.o.lens qn.o.1;clear qi qy qg j0 j1 j2 j3 j4 j5;refine cM (by kernel_rfl) (by kernel_rfl) ?_;(repeat (go_big_quiet_step ((go_at_call 140;exact Calls.ext_of (jza0 _ _ neg _ _ qj A n c A' n' c' A2 n2 c2 qA qE qI AX qD cx qB (prQ ps arcs) (prQ ps lm.arcs) arcs lm.arcs _ (R.o.K (E0.o.tr (XW.ext _))) (R2.o.K (XW.ext _)) qt.1 qt.2 qo.1 qo.2 (X.o.rd.K (E0.o.tr (XW.ext _))) (X2.o.rd.K (XW.ext _)) (by have:=qp.o.2;simp only[]at this;omega) (by have:=qn.o.2;omega))))));refine wpQuiet_nil ?_;rintro _ ⟨x,rfl⟩;go_wp2;go_meet;refine⟨?_,EW.o.tr x.ext⟩;rw[xL,HV.o];rfl);obtain⟨rfl,qm⟩:=hcut;have qx:=Hx qm;clear qm y0 y1 EW E0 BX;have qa:=qe.o;simp only[]at qa;generalize (kn&&!dn&&(decide (b<0)||cA ps arcs ((ls[b.toNat]?.map Lb.arcs).getD [])))=cond at*;cases cond;(case false=>have HS:=Hx (show bV ps ls (k+1)=b by rw[qa];rfl);clear qa qe;go_wp2;go_roundg (ls.length-(k+1));(case measure=>omega);exact⟨k+1,rfl,by omega,by go_num,by rw[HS.o],qx.o⟩);have HS:=Hx (show bV ps ls (k+1)=(k:Int) by rw[qa];rfl);clear qa qe;go_wp2;go_roundg (ls.length-(k+1));(case measure=>omega);exact⟨k+1,rfl,by omega,by go_num,by rw[HS.o],qx.o⟩};have qK:k=ls.length:=(by omega);subst qK;go_wp2;go_ret;exact⟨by unfold bS;rw[qJ.o];rfl,EX.o⟩
theorem SzQ.mono{q:Rat}{k m:Nat}(h:SzQ q k)(hm:k<=m):SzQ q m:=⟨yL h.1 (kQk aY hm),yL h.2 (kQk aY hm)⟩
theorem SzQ.zero:SzQ 0 1:=⟨by decide,by decide⟩
theorem SzQ.add{a b:Rat}{k m:Nat}(ha:SzQ a k)(hb:SzQ b m):SzQ (a+b) (k+m+1):=by
 have hd:a.den*b.den≠0:=kQx a.den_nz b.den_nz;have e:=Rat.add_def' a b;obtain⟨g,hg,e1,e2⟩:∃g:Nat,g≠0/\a.num*b.den+b.num*a.den=(a+b).num*g/\a.den*b.den=(a+b).den*g:=(by have hq:mkRat (a.num*b.den+b.num*a.den) (a.den*b.den)=⟨(a+b).num,(a+b).den,(a+b).den_nz,(a+b).reduced⟩:=e.symm;exact Rat.mkRat_num_den hd hq);have h1:1<=g:=(by omega);have hk:0<B32^k:=kQy aY;have hm:0<B32^m:=kQy aY;have p1:a.num.natAbs*b.den<B32^k*B32^m:=kZb ha.1 (kQe hb.2) hm;have p2:b.num.natAbs*a.den<B32^m*B32^k:=kZb hb.1 (kQe ha.2) hk;have p3:a.den*b.den<B32^k*B32^m:=kZb ha.2 (kQe hb.2) hm;have hB:B32^(k+m+1)=B32^k*B32^m*B32:=(by rw[vD,Nat.pow_add]);rw[vE (B32^m)]at p2;unfold SzQ;rw[hB];generalize B32^k*B32^m=Z at*;have hZ:2*Z<=Z*B32:=(by rw[vE];exact kQh _ (by decide));constructor;{(have q1:(a.num*b.den+b.num*a.den).natAbs=(a+b).num.natAbs*g:=by rw[e1,Int.natAbs_mul];rfl);have q2:(a.num*b.den+b.num*a.den).natAbs<=a.num.natAbs*b.den+b.num.natAbs*a.den:=(by refine yY (Int.natAbs_add_le _ _) ?_;rw[Int.natAbs_mul,Int.natAbs_mul];exact yX _);have q3:(a+b).num.natAbs*1<=(a+b).num.natAbs*g:=kQh _ h1;omega};have q3:(a+b).den*1<=(a+b).den*g:=kQh _ h1;omega
theorem SzQ.pr{ps:LQ}{P:Nat}(hP:1<=P)(h:∀q∈ps,SzQ q P)(arcs:LN):SzQ (prQ ps arcs) (1+arcs.length*(P+1)):=by
 have qa:∀(l:LN) (s:Rat) (k:Nat),SzQ s k->SzQ (l.foldl (fun s a=>s+ps[a]?.getD 0) s) (k+l.length*(P+1)):=(by intro l;(induction l with|nil=>intro s k hs;simpa using hs|cons a l ih=>intro s k hs;have h1:SzQ (ps[a]?.getD 0) P:=(by by_cases ha:a<ps.length;{rw[yG ha];exact h _ (xR ha)};rw[yI (by omega)];exact SzQ.zero.mono hP);have:=ih _ _ (hs.add h1);rw[List.foldl_cons];refine this.mono ?_;rw[kQo,xP,xQ];omega));exact qa arcs 0 1 SzQ.zero
def cX(ls:List Lb)(n:Nat):LN:=(ls[n]?.map Lb.arcs).getD []
def dL(t:Tp)(down:List Bool)(ps:LQ)(d n:Nat)(ls:List Lb)(a:Nat):List Lb:=
 match ls[(aM t a).toNat]? with
 |none=>ls
 |some lm=>if lm.done||!cZ t down a d then ls else if !lm.known||cA ps (cX ls n++[a]) lm.arcs then ls.set (aM t a).toNat ⟨true,false,cX ls n++[a]⟩else ls
def dV(ls:List Lb)(n:Nat):List Lb:=match ls[n]? with
 |none=>ls
 |some l=>ls.set n ⟨l.known,true,l.arcs⟩
def bZ(ls:List Lb):Nat:=ls.countP (fun l=>!l.done)
def gS(t:Tp)(down:List Bool)(ps:LQ)(d:Nat):Nat->List Lb->Option (LN)
 |0,_=>none
 |f+1,ls=>if bS ps ls<0 then none else if(bS ps ls).toNat=d then some (cX ls (bS ps ls).toNat)else
  gS t down ps d f ((aW t (bS ps ls).toNat).foldl (dL t down ps d (bS ps ls).toNat) (dV ls (bS ps ls).toNat))
def cH(N s:Nat):List Lb:=(List.replicate N ⟨false,false,[]⟩).set s ⟨true,false,[]⟩
def eS(t:Tp)(down:List Bool)(ps:LQ)(s d:Nat):Option (LN):=gS t down ps d (t.nodes.toNat+1) (cH t.nodes.toNat s)
theorem mZ(ps:LQ)(ls:List Lb):∀k,0<=bV ps ls k->∃l,ls[(bV ps ls k).toNat]?=some l/\l.known=true/\l.done=false
 |0,h=>by simp[bV]at h
 |k+1,h=>by
  have ih:=mZ ps ls k;unfold bV at h⊢
  split
  ·rename_i hl
   rw[hl]at h;exact ih h
  ·rename_i l hl
   rw[hl]at h;simp only[]at h
   split
   ·rename_i hc
    simp only[vM,Bool.not_eq_true']at hc;refine⟨l,by rw[xL];exact hl,hc.1.1,hc.1.2⟩
   ·rename_i hc
    rw[if_neg hc]at h;exact ih h
theorem jza1{ls:List Lb}{m:Nat}{lm l:Lb}(h:ls[m]?=some lm)(hd:lm.done=false)(hl:l.done=false):bZ (ls.set m l)=bZ ls:=by
 unfold bZ;(induction ls generalizing m with|nil=>simp at h|cons x ls ih=>(cases m with|zero=>simp at h;subst h;simp[List.countP_cons,hd,hl]|succ m=>simp at h;simp[List.countP_cons,ih h]))
theorem jza2{ls:List Lb}{n:Nat}{l:Lb}(h:ls[n]?=some l)(hd:l.done=false):bZ (dV ls n)+1=bZ ls:=by
 unfold dV;rw[h];simp only[];unfold bZ;(induction ls generalizing n with|nil=>simp at h|cons x ls ih=>(cases n with|zero=>simp at h;subst h;simp[List.countP_cons,hd]|succ n=>simp at h;have:=ih h;simp[List.countP_cons];omega))
theorem jza3 t(down:List Bool)(ps:LQ)(d n:Nat)(ls:List Lb)(a:Nat):bZ (dL t down ps d n ls a)=bZ ls:=by
 unfold dL;split;{rfl};rename_i lm hlm;split;{rfl};rename_i hc;simp only[Bool.or_eq_true,not_or,Bool.not_eq_true]at hc;split;{exact jza1 hlm hc.1 rfl};rfl
def nA(ls:List Lb):Prop:=∀l∈ls,l.arcs.length+bZ ls<=ls.length
theorem pN(ls:List Lb):bZ ls<=ls.length:=List.countP_le_length
theorem RdT.other{w w'}{t t':TypeId}{A}{xs:List Value}{g:Nat}{cs':Array Value}(h:RdT w t A xs)(hg:w.grownBy w' (some g))(hb:Blk w g t' cs')(hne:t≠t'):RdT w' t A xs:=
 h.grown hg (fun hx ad had e=>by
  obtain⟨b,o,cs,fr,e1,e2,_⟩:=h hx;rw[had]at e1;injection e1 with e1
  subst e1;injection e with e
  subst e;unfold Blk at hb;rw[e2]at hb;injection hb with hb
  injection hb with _ hb
  exact hne hb)
theorem aF.other{w w'}{A}{n c N g:Nat}{t':TypeId}{cs':Array Value}(h:aF w A n c N)(hg:w.grownBy w' (some g))(hb:Blk w g t' cs')(hne:188≠t'):aF w' A n c N:=by
 obtain⟨ds,h1,h2,h3,h4,h5⟩:=h;exact⟨ds,h1,h2,h3,h4,h5.other hg hb hne⟩
theorem aE.other{w w'}{neg:Bool}{A}{n c:Nat}{A'}{n' c':Nat}{q:Rat}{g:Nat}{t':TypeId}{cs':Array Value}(h:aE w neg A n c A' n' c' q)(hg:w.grownBy w' (some g))(hb:Blk w g t' cs')(hne:188≠t'):aE w' neg A n c A' n' c' q:=
 ⟨h.1,h.2.1.other hg hb hne,h.2.2.other hg hb hne⟩
theorem LbR.other{w w'}{ps:LQ}{cs:List Value}{lb:Lb}{g:Nat}{cs':Array Value}(h:LbR w ps cs lb)(hg:w.grownBy w' (some g))(hb:Blk w g 216 cs'):LbR w' ps cs lb:=by
 obtain⟨neg,A,n,c,A',n',c',AX,cx,e,h1,h2,h3⟩:=h;exact⟨neg,A,n,c,A',n',c',AX,cx,e,h1.other hg hb (by decide),h2,h3.other hg hb (by decide)⟩
theorem LL.other{w w'}{gl N g:Nat}{X:Nat->LN}{t':TypeId}{cs':Array Value}(h:LL w gl N X)(hg:w.grownBy w' (some g))(hb:Blk w g t' cs')(h1:44≠t')(h2:3≠t'):LL w' gl N X:=by
 obtain⟨V,k1,k2⟩:=h;refine⟨V,(hg.block gl k1.lt (fun e=>k1.ne_ hb h1 (by injection e))).trans k1,fun i hi=>?_⟩;obtain⟨A,c,k3,k4,k5⟩:=k2 i hi;exact⟨A,c,k3,k4,k5.other hg hb h2⟩
theorem nB{m:Nat}:∀(css:List (List Value)),(∀cs∈css,cs.length=m)->∀(i k:Nat) (v:Value),i<css.length->k<m->css.flatten.set (i*m+k) v=(css.set i ((css[i]?.getD []).set k v)).flatten
 | [],_,i,k,v,hi,_=>by simp at hi
 |cs::css,h,0,k,v,_,hk=>by
  rw[Nat.zero_mul,kQu,List.flatten_cons,List.set_append_left _ _ (by rw[h cs (by simp)];exact hk)];rfl
 |cs::css,h,i+1,k,v,hi,hk=>by
  have hl:=h cs (by simp);rw[List.flatten_cons,List.set_append_right _ _ (by rw[hl,xP,xQ];omega),hl,show(i+1)*m+k-m=i*m+k by rw[xP,xQ];omega];rw[nB css (fun c hc=>h c (by simp[hc])) i k v (by simpa using hi) hk];simp
theorem cO.upd{w w'}{ps:LQ}{g m:Nat}{ls:List Lb}{lb:Lb}{cs:List Value}{css:List (List Value)}(h1:css.length=ls.length)(h2:∀cs∈css,cs.length=6)(h3:Blk w g 216 css.flatten.toArray)(h4:∀(i:Nat) (lb:Lb),ls[i]?=some lb->∃cs,css[i]?=some cs/\LbR w ps cs lb)
  (hg:w.grownBy w' (some g)) (hb:Blk w' g 216 (css.set m cs).flatten.toArray) (hc:cs.length=6) (hl:LbR w' ps cs lb) (hm:m<ls.length):cO w' ps g (ls.set m lb):=by
 refine⟨css.set m cs,by simp[h1],fun c hcc=>?_,hb,fun i l hi=>?_⟩;{(rcases xE hcc with h|h);{exact h2 c h};rw[h];exact hc};by_cases e:m=i;{subst e;(rw[yM hm]at hi;injection hi with hi);subst hi;exact⟨cs,by rw[yM (by omega)],hl⟩};rw[vN e]at hi;obtain⟨c,k1,k2⟩:=h4 i l hi;exact⟨c,by rw[vN e];exact k1,k2.other hg h3⟩
theorem cO.mark{w}{ps:LQ}{g n:Nat}{ls:List Lb}{l:Lb}(h:cO w ps g ls)(hl:ls[n]?=some l):cO (w.setCell (aD g (n*6+1)) (.bool true)) ps g (dV ls n):=by
 have hn:=(yH.1 hl).1;obtain⟨css,h1,h2,h3,h4⟩:=h;obtain⟨cs,k1,k2⟩:=h4 n l hl;have hg:=aL w g (n*6+1) (.bool true);have qa:cs.length=6:=h2 cs (yJ k1);unfold dV;rw[hl];refine cO.upd (cs:=cs.set 1 (.bool true)) h1 h2 h3 h4 hg ?_ (by simp[qa]) ?_ hn;{have:=h3.sT (n*6+1) (.bool true);rw[yD,nB css h2 n 1 _ (by omega) (by omega),k1]at this;exact this};have:=k2.other hg h3;obtain⟨neg,A,n,c,A',n',c',AX,cx,e,q1,q2,q3⟩:=this;exact⟨neg,A,n,c,A',n',c',AX,cx,by rw[e];rfl,q1,q2,q3⟩
theorem jzje(cs:List Value)(h:cs.length=6):∃a0 a1 a2 a3 a4 a5,cs=[a0,a1,a2,a3,a4,a5]:=by
 rcases cs with _|⟨a0,_|⟨a1,_|⟨a2,_|⟨a3,_|⟨a4,_|⟨a5,_|⟨a6,r⟩⟩⟩⟩⟩⟩⟩
 all_goals first|(simp at h;done)|exact⟨_,_,_,_,_,_,rfl⟩
theorem lX(css:List (List Value))(h2:∀cs∈css,cs.length=6)(m:Nat)(hml:m<css.length)(c1:List Value)(k:Nat)(v:Value)(hc:c1.length=6)(hk:k<6):((css.set m c1).flatten).set (m*6+k) v=(css.set m (c1.set k v)).flatten:=by
 have qa:∀c∈css.set m c1,c.length=6:=fun c hcc=>(by (rcases xE hcc with h|h);{exact h2 c h};rw[h];exact hc);have h:=nB (css.set m c1) qa m k v (by rw[yV];exact hml) hk;rw[yM hml,kQ1,List.set_set]at h;exact h
theorem jzjf(css:List (List Value))(h2:∀cs∈css,cs.length=6)(m:Nat)(hml:m<css.length){a0 a1 a2 a3 a4 a5:Value}(hcs:css[m]?=some [a0,a1,a2,a3,a4,a5])(v0 v1 v2 v3 v4 v5:Value):
  (((((css.flatten.set (m*6+0) v0).set (m*6+1) v1).set (m*6+2) v2).set (m*6+3) v3).set (m*6+4) v4).set (m*6+5) v5=(css.set m [v0,v1,v2,v3,v4,v5]).flatten:=by
 have e0:css.flatten=(css.set m [a0,a1,a2,a3,a4,a5]).flatten:=(by congr 1;apply uK;intro i;rw[kZs];split;{rename_i e;subst e;rw[hcs]};rfl);rw[e0,lX css h2 m hml _ 0 v0 rfl (by omega),lX css h2 m hml _ 1 v1 rfl (by omega),lX css h2 m hml _ 2 v2 rfl (by omega),lX css h2 m hml _ 3 v3 rfl (by omega),lX css h2 m hml _ 4 v4 rfl (by omega),lX css h2 m hml _ 5 v5 rfl (by omega)];rfl
theorem cO.put{w}{ps:LQ}{g m:Nat}{ls:List Lb}{lb:Lb}{v0 v1 v2 v3 v4 v5:Value}(h:cO w ps g ls)(hm:m<ls.length)(hl:LbR w ps [v0,v1,v2,v3,v4,v5] lb):
  cO ((((((w.setCell (aD g (m*6)) v0).setCell (aD g (m*6+1)) v1).setCell (aD g (m*6+2)) v2).setCell (aD g (m*6+3)) v3).setCell (aD g (m*6+4)) v4).setCell (aD g (m*6+5)) v5) ps g (ls.set m lb):=by
 obtain⟨css,h1,h2,h3,h4⟩:=h;have g0:=aL w g (m*6) v0;have g1:=g0.trans (aL _ g (m*6+1) v1);have g2:=g1.trans (aL _ g (m*6+2) v2);have g3:=g2.trans (aL _ g (m*6+3) v3);have g4:=g3.trans (aL _ g (m*6+4) v4);have g5:=g4.trans (aL _ g (m*6+5) v5);refine cO.upd (cs:=[v0,v1,v2,v3,v4,v5]) h1 h2 h3 h4 g5 ?_ rfl (hl.other g5 h3) hm;have b:=(((((h3.sT (m*6+0) v0).sT (m*6+1) v1).sT (m*6+2) v2).sT (m*6+3) v3).sT (m*6+4) v4).sT (m*6+5) v5;have qe:m<css.length:=(by omega);obtain⟨cs,qf⟩:∃cs,css[m]?=some cs:=⟨_,yG qe⟩;have qg:cs.length=6:=h2 cs (yJ qf);obtain⟨a0,a1,a2,a3,a4,a5,rfl⟩:∃a0 a1 a2 a3 a4 a5,cs=[a0,a1,a2,a3,a4,a5]:=jzje cs qg;have qa:=jzjf css h2 m qe qf v0 v1 v2 v3 v4 v5;simp only[yD]at b;rw[qa]at b;exact b
theorem Tryz.info104:(Tryz.prog.info? 216).map (fun i=>(i.zero,i.size,i.bytes))=some (some (.agg #[.bool false,.bool false,.bool false,zN,zN,zN]),6,88):=by kernel_rfl
theorem jzjg(n:Nat)(hn:n<=1000)w:
  (Instr.makeSlice 214 (vI (n:Int)) (vI (n:Int))).run Tryz.prog w=.ok (.s (sA w.heap.size) n n) (w.alloc (.cells (madeCells #[.bool false,.bool false,.bool false,zN,zN,zN] (n*6)) 216)):=by
 obtain⟨i,hi,hz,hs,hb⟩:=info_parts Tryz.info104;have qa:(i.bytes:Int)*(n:Int)<=281474976710656:=(by rw[hb];omega);have hr:=run_make (P:=Tryz.prog) w 214 216 i _ Tryz.underlying214 hi hz .i64 .i64 n n (by omega) (by omega) qa (by omega);simp only[xL]at hr;rw[hs]at hr;exact hr
def zeroCells:List Value:=[.bool false,.bool false,.bool false,zN,zN,zN]
theorem tN(N:Nat):madeCells #[.bool false,.bool false,.bool false,zN,zN,zN] (N*6)=(List.replicate N zeroCells).flatten.toArray:=by
 apply Array.ext';apply uK;intro i;have qa:∀cs∈List.replicate N zeroCells,cs.length=6:=fun cs h=>(by rw[uF h];rfl);have hl:=fQ _ qa;rw[xC]at hl;by_cases hi:i<N*6;{have h1:=dK _ qa (i/6) (i%6) (by rw[xC];omega) (by omega);rw[show i/6*6+i%6=i by omega,xB,if_pos (by omega),kQ1]at h1;simp only[];rw[h1];have h2:(madeCells #[.bool false,.bool false,.bool false,zN,zN,zN] (N*6)).toList[i]?=some ((#[.bool false,.bool false,.bool false,zN,zN,zN]:Array Value)[i%6]!):=(by simp[madeCells,hi]);rw[h2];have h6:i%6=0\/i%6=1\/i%6=2\/i%6=3\/i%6=4\/i%6=5:=(by omega);rcases h6 with e|e|e|e|e|e <;> rw[e] <;> rfl};rw[yI (by simp[madeCells];omega),yI (by simp only[];omega)]
theorem eZ w:aE w false none 0 0 none 0 0 0:=⟨by decide,aF.zero _ _ _,aF.zero _ _ _⟩
theorem LbR.zero w(ps:LQ):LbR w ps zeroCells ⟨false,false,[]⟩:=⟨false,none,0,0,none,0,0,none,0,rfl,eZ w,yX _,RdT.nil _ _ _⟩
theorem jzjh(w:World)(ps:LQ)(N n:Nat)(hn:n<N):
  cO (w.alloc (.cells ((madeCells #[.bool false,.bool false,.bool false,zN,zN,zN] (N*6)).setIfInBounds (n*6) (.bool true)) 216)) ps w.heap.size (cH N n):=by
 have qa:∀cs∈List.replicate N zeroCells,cs.length=6:=fun cs h=>(by rw[uF h];rfl);have hf:=nB _ qa n 0 (.bool true) (by rw[xC];exact hn) (by omega);rw[kQ3,xB,if_pos hn,kQ1]at hf;rw[tN,yD,hf];refine⟨_,by simp[cH],fun cs h=>?_,eN _ _ _,fun i lb hl=>?_⟩;{(rcases xE h with h|h);{exact qa cs h};rw[h];rfl};unfold cH at hl;by_cases e:n=i;{subst e;(rw[yM (by simpa using hn)]at hl;injection hl with hl);subst hl;exact⟨_,yM (by simpa using hn),false,none,0,0,none,0,0,none,0,rfl,eZ _,yX _,RdT.nil _ _ _⟩};rw[vN e,xB]at hl;split at hl;{rename_i hi;(injection hl with hl);subst hl;exact⟨zeroCells,by rw[vN e,xB,if_pos hi],LbR.zero _ _⟩};cases hl
def ArF(w:World)(g B:Nat):Prop:=∀(i:Nat) (AX:OA) (n cx:Nat),w.cell? (aD g (i*6+5))=some (.s AX n cx)->∀p,AX=some p->B<=p.block
theorem ArF.K{w w'}{g B:Nat}(h:ArF w g B)(hg:g<w.heap.size)(hx:Ext w w'):ArF w' g B:=fun i AX n cx hc=>h i AX n cx ((hx.cell (p:=(aD g (i*6+5))) hg).symm.trans hc)
theorem ArF.mark{w}{ps:LQ}{g B n:Nat}{ls:List Lb}(h:ArF w g B)(hl:cO w ps g ls)(u:Value):ArF (w.setCell (aD g (n*6+1)) u) g B:=fun i AX m cx hc=>by
 obtain⟨css,_,_,h3,_⟩:=hl;refine h i AX m cx ?_;rw[(h3.sT (n*6+1) u).cell,xH (by omega), <-h3.cell]at hc;exact hc
theorem ArF.put{w}{ps:LQ}{g B m:Nat}{ls:List Lb}(h:ArF w g B)(hl:cO w ps g ls)(v0 v1 v2 v3 v4:Value){AX:OA}{n cx:Nat}(hA:∀p,AX=some p->B<=p.block):
  ArF ((((((w.setCell (aD g (m*6)) v0).setCell (aD g (m*6+1)) v1).setCell (aD g (m*6+2)) v2).setCell (aD g (m*6+3)) v3).setCell (aD g (m*6+4)) v4).setCell (aD g (m*6+5)) (.s AX n cx)) g B:=fun i AX' n' cx' hc=>by
 obtain⟨css,_,_,h3,_⟩:=hl;have b:=(((((h3.sT (m*6) v0).sT (m*6+1) v1).sT (m*6+2) v2).sT (m*6+3) v3).sT (m*6+4) v4).sT (m*6+5) (.s AX n cx);rw[b.cell]at hc;by_cases e:i=m;{subst e;rw[Array.getElem?_setIfInBounds_self]at hc;split at hc;{(injection hc with hc);(injection hc with hc _ _);exact fun p hp=>hA p (hc.trans hp)};{cases hc}};{rw[xH (by omega),xH (by omega),xH (by omega),xH (by omega),xH (by omega),xH (by omega), <-h3.cell]at hc;exact h i AX' n' cx' hc}
theorem ArF.made(w:World)(N n B:Nat):ArF (w.alloc (.cells ((madeCells #[.bool false,.bool false,.bool false,zN,zN,zN] (N*6)).setIfInBounds (n*6) (.bool true)) 216)) w.heap.size B:=fun i AX m cx hc p hp=>by
 have qa:∀cs∈List.replicate N zeroCells,cs.length=6:=fun cs h=>(by rw[uF h];rfl);rw[(eN w _ _).cell,xH (by omega),tN,xI]at hc;by_cases hi:i<N;{rw[dK _ qa i 5 (by rw[xC];exact hi) (by omega),xB,if_pos hi]at hc;(injection hc with hc);(injection hc with hc);rw[<-hc]at hp;cases hp};{have hl:=fQ _ qa;rw[xC]at hl;rw[yI (by omega)]at hc;cases hc}
structure gT(w wr:World)(t:Tp)(AO:OA)(co:Nat)(AL:OA)(cl:Nat)(ps:LQ)(g gll N:Nat)(ls:List Lb):Prop where
 tt:Blk wr w.heap.size 25 #[vI t.nodes,.s AO t.over.length co,.s AL t.links.length cl]
 rr:Blk wr (w.heap.size+1) 35 #[.bool false,zN,zN]
 lab:cO wr ps g ls
 len:ls.length=N
 ok:nA ls
 ll:LL wr gll N (aW t)
 gg:w.heap.size+2<=g
 ext:Ext w wr
 fa:ArF wr g w.heap.size
theorem gT.K{w wr w'}{t}{AO}{co:Nat}{AL}{cl:Nat}{ps:LQ}{g gll N:Nat}{ls:List Lb}(h:gT w wr t AO co AL cl ps g gll N ls)(hx:Ext wr w'):gT w w' t AO co AL cl ps g gll N ls:=
 ⟨h.tt.K hx,h.rr.K hx,h.lab.K hx,h.len,h.ok,h.ll.K hx,h.gg,h.ext.tr hx,h.fa.K h.lab.lt hx⟩
theorem gT.turn{w wr w'}{t}{AO}{co:Nat}{AL}{cl:Nat}{ps:LQ}{g gll N:Nat}{ls ls':List Lb}(h:gT w wr t AO co AL cl ps g gll N ls)(hg:wr.grownBy w' (some g))(hl:cO w' ps g ls')(hlen:ls'.length=N)(hok:nA ls')(hfa:ArF w' g w.heap.size):gT w w' t AO co AL cl ps g gll N ls':=by
 obtain⟨css,h1,h2,h3,h4⟩:=h.lab;have qa:=h.gg;exact⟨(hg.block _ h.tt.lt (fun e=>by injection e with e;omega)).trans h.tt,(hg.block _ h.rr.lt (fun e=>by injection e with e;omega)).trans h.rr,hl,hlen,hok,h.ll.other hg h3 (by decide) (by decide),qa,Below.grown h.ext hg h.ext.size (fun k hk=>by injection hk with hk;omega),hfa⟩
theorem jza4{ps:LQ}{P N:Nat}{ls:List Lb}(hP:1<=P)(hP2:P<=1000000)(h:∀q∈ps,SzQ q P)(hok:nA ls)(hl:ls.length=N)(hN:N<=64):SzL ps ls:=fun lb hlb=>by
 have h1:=hok lb hlb;refine⟨(SzQ.pr hP h lb.arcs).mono ?_,by omega⟩;have h2:lb.arcs.length*(P+1)<=64*1000001:=kQq (by omega) (by omega);omega
theorem RdT.gK{w w'}{t t':TypeId}{A}{xs:List Value}{row:Option Nat}(h:RdT w t A xs)(hg:w.grownBy w' row)(hr:∀k,row=some k->∃cs fr,w.heap[k]?=some (.cells cs t' fr))(hne:t≠t'):RdT w' t A xs:=
 h.grown hg (fun hx ad had e=>by
  obtain⟨b,o,cs,fr,e1,e2,_⟩:=h hx;rw[had]at e1;injection e1 with e1
  subst e1;obtain⟨c9,f9,e9⟩:=hr _ e.symm;rw[e2]at e9;injection e9 with e9
  injection e9 with _ e9
  exact hne e9)
theorem aE.gK{w w'}{t':TypeId}{neg:Bool}{A}{n c:Nat}{A'}{n' c':Nat}{q:Rat}{row:Option Nat}(h:aE w neg A n c A' n' c' q)(hg:w.grownBy w' row)(hr:∀k,row=some k->∃cs fr,w.heap[k]?=some (.cells cs t' fr))(hne:188≠t'):aE w' neg A n c A' n' c' q:=by
 obtain⟨h1,⟨ds,a1,a2,a3,a4,a5⟩,⟨es,b1,b2,b3,b4,b5⟩⟩:=h;exact⟨h1,⟨ds,a1,a2,a3,a4,a5.gK hg hr hne⟩,⟨es,b1,b2,b3,b4,b5.gK hg hr hne⟩⟩
theorem Blk.gK{w w'}{t t':TypeId}{g:Nat}{cs:Array Value}{row:Option Nat}(h:Blk w g t cs)(hg:w.grownBy w' row)(hr:∀k,row=some k->∃cs fr,w.heap[k]?=some (.cells cs t' fr))(hne:t≠t'):Blk w' g t cs:=
 (hg.block g h.lt (fun e=>by
  obtain⟨c9,f9,e9⟩:=hr _ e.symm;unfold Blk at h;rw[h]at e9;injection e9 with e9
  injection e9 with _ e9
  exact hne e9)).trans h
theorem lY AX(cx:Nat)(l:LN)w(hq:RdT w 3 AX (ints l))(hl:l.length<=1000):
  Calls Tryz.prog 70 #[.s AX l.length cx] w fun e w'=>∃v,e=.returned v/\w'.ownsRow w.heap.size 3 1 v l.length (ints l)/\Ext w w':=by
 (obtain⟨ti,hi,qi,qg,qh⟩:=info_parts Tryz.info3;cases AX with|none=>have hn:l=[]:=(by (cases l with|nil=>rfl|cons a l=>obtain⟨_,_,_,_,e,_⟩:=hq (by simp[ints]);cases e));subst hn;refine(Tryz.slices_Clone_nil 0 cx w).mono ?_;rintro e w' ⟨rfl,rfl⟩;exact⟨_,rfl,World.ownsRow_nil _ _ _ _,eR _⟩|some ad=>by_cases qf:l=[];{subst qf;refine(Tryz.slices_Clone_int_zero ad cx w).mono ?_;rintro e w' ⟨v',rfl,qa,_,qe⟩;exact⟨v',rfl,qa,qe⟩};obtain⟨b,o,cs,fr,e,hb,hc⟩:=hq (by simpa [ints]using qf);injection e with e;subst e;refine(Tryz.slices_Clone ti (vI 0) 1 8 hi qi qg qh rfl (by decide) (fun w=>by simp[Go.sizeOf,typeInfo,hi,qg]) b o l.length cx (ints l) w (by simp[ints]) (by unfold maxLen;omega) (by omega) ?_ (lV _)).mono ?_;{intro j u hj;have qj:=(yH.1 hj).1;rw[cell_of_row w b (o+j) cs _ fr hb,hc j qj];exact hj};rintro e w' ⟨v',rfl,qa,_,qe⟩;exact⟨v',rfl,qa,qe⟩)
theorem jza5(w:World)(g m:Nat)(v0 v1 v2 v3 v4 v5:Value):w.grownBy ((((((w.setCell (aD g (m*6)) v0).setCell (aD g (m*6+1)) v1).setCell (aD g (m*6+2)) v2).setCell (aD g (m*6+3)) v3).setCell (aD g (m*6+4)) v4).setCell (aD g (m*6+5)) v5) (some g):=
 (((((aL w g (m*6) v0).trans (aL _ g (m*6+1) v1)).trans (aL _ g (m*6+2) v2)).trans (aL _ g (m*6+3) v3)).trans (aL _ g (m*6+4) v4)).trans (aL _ g (m*6+5) v5)
theorem cS{w:World}{p:Addr}{v:Value}(h:w.cell? p=some v):w.drew.cell? p=some v:=h
theorem gA{w}{g:Nat}{a:Int}(h:Blk w g 3 #[vI a]):Rd w (sA g) [vI a]:=(RdT.of_blk h rfl).rd
def RdN(B:Nat)(w:World)(A:OA)(xs:List Value):Prop:=RdT w 3 A xs/\∀p,A=some p->B<=p.block
theorem nC{w:World}{B g c a:Nat}{l:LN}(h:w.ownsRow B 3 1 (.s (sA g) (l.length+1) c) (l.length+1) (ints l++[vI (a:Int)])):RdN B w (sA g) (ints (l++[a])):=by
 obtain⟨A',c',q1,q2,q3⟩:=fX (l:=l++[a]) (by rw[kF];exact h) (by simp);injection q1 with q1 _ q4;subst q1 q4;exact⟨q3,fun p hp=>by injection hp with hp;rw[<-hp];exact(h.lt g rfl).1⟩
def tO(w:World)(ps:LQ)(arcs:LN)(p:Value)(wx:World):Prop:=
 ∃(gl:Nat) (neg:Bool) (A:OA) (n c:Nat) (A':OA) (n' c':Nat) (AX:OA) (cx:Nat),p=.pointer (sA gl)/\Blk wx gl 216 #[.bool true,.bool false,.bool neg,.s A n c,.s A' n' c',.s AX arcs.length cx]/\aE wx neg A n c A' n' c' (prQ ps arcs)/\arcs.length<=cx/\RdN w.heap.size wx AX (ints arcs)/\w.heap.size<=gl/\Ext w wx
theorem nD{W w:World}{ps:LQ}{arcs:LN}{neg:Bool}{A}{n c:Nat}{A'}{n' c':Nat}{AX}{cx k:Nat}(hk:arcs.length=k)(hR:aE w neg A n c A' n' c' (prQ ps arcs))(hc:arcs.length<=cx)(hX:RdN W.heap.size w AX (ints arcs))(hx:Ext W w):
  tO W ps arcs (.pointer (sA w.heap.size)) (w.alloc (.cells #[.bool true,.bool false,.bool neg,.s A n c,.s A' n' c',.s AX k cx] 216)):=by
 subst hk;exact⟨w.heap.size,neg,A,n,c,A',n',c',AX,cx,rfl,eN _ _ _,hR.K ((eR w).alloc _),hc,⟨hX.1.K ((eR w).alloc _),hX.2⟩,hx.size,hx.alloc _⟩
theorem nE{W w:World}{ps:LQ}{arcs:LN}{neg:Bool}{A}{n c:Nat}{A'}{n' c':Nat}{AX}{cx gl k:Nat}{z0 z1 z2 z3 z4 z5:Value}(hk:arcs.length=k)(hb:Blk w gl 216 #[z0,z1,z2,z3,z4,z5])(hR:aE w neg A n c A' n' c' (prQ ps arcs))(hc:arcs.length<=cx)(hX:RdN W.heap.size w AX (ints arcs))(hg:W.heap.size<=gl)(hx:Ext W w):
  tO W ps arcs (.pointer (sA gl)) ((((((w.setCell (aD gl 0) (.bool true)).setCell (aD gl 1) (.bool false)).setCell (aD gl 2) (.bool neg)).setCell (aD gl 3) (.s A n c)).setCell (aD gl 4) (.s A' n' c')).setCell (aD gl 5) (.s AX k cx)):=by
 subst hk;have b0:=hb.sT 0 (.bool true);have b1:=b0.sT 1 (.bool false);have b2:=b1.sT 2 (.bool neg);have b3:=b2.sT 3 (.s A n c);have b4:=b3.sT 4 (.s A' n' c');have b5:=b4.sT 5 (.s AX arcs.length cx);refine⟨gl,neg,A,n,c,A',n',c',AX,cx,rfl,b5,?_,hc,?_,hg,?_⟩;{exact(((((hR.sT (p:=(aD gl 0)) hb (by decide) _).sT (p:=(aD gl 1)) b0 (by decide) _).sT (p:=(aD gl 2)) b1 (by decide) _).sT (p:=(aD gl 3)) b2 (by decide) _).sT (p:=(aD gl 4)) b3 (by decide) _).sT (p:=(aD gl 5)) b4 (by decide) _};{refine⟨?_,hX.2⟩;exact(((((hX.1.sT (p:=(aD gl 0)) hb (by decide) _).sT (p:=(aD gl 1)) b0 (by decide) _).sT (p:=(aD gl 2)) b1 (by decide) _).sT (p:=(aD gl 3)) b2 (by decide) _).sT (p:=(aD gl 4)) b3 (by decide) _).sT (p:=(aD gl 5)) b4 (by decide) _};exact(((((hx.sT (p:=(aD gl 0)) hg _).sT (p:=(aD gl 1)) hg _).sT (p:=(aD gl 2)) hg _).sT (p:=(aD gl 3)) hg _).sT (p:=(aD gl 4)) hg _).sT (p:=(aD gl 5)) hg _
theorem tP(w:World)(g:Nat)(a b c:Value):w.grownBy (((w.setCell (aD g 0) a).setCell (aD g 1) b).setCell (aD g 2) c) (some g):=
 ((aL w g 0 a).trans (aL _ g 1 b)).trans (aL _ g 2 c)
def RQR(w:World)(neg:Bool)(A:OA)(n c:Nat)(A':OA)(n' c':Nat)(q:Rat):Prop:=
 neg=decide (q.num<0)/\aK w A n c q.num.natAbs/\aK w A' n' c' (dk q)
theorem aK.other{w w'}{A}{n c N g:Nat}{t':TypeId}{cs':Array Value}(h:aK w A n c N)(hg:w.grownBy w' (some g))(hb:Blk w g t' cs')(hne:3≠t'):aK w' A n c N:=by
 obtain⟨ds,h1,h2,h3,h4,h5⟩:=h;exact⟨ds,h1,h2,h3,h4,h5.other hg hb hne⟩
section
variable {w w':World} {neg:Bool} {A:Option Addr} {n c:Nat} {A':Option Addr} {n' c':Nat} {q:Rat}
theorem RQR.K(h:RQR w neg A n c A' n' c' q)(hb:Ext w w'):RQR w' neg A n c A' n' c' q:=⟨h.1,h.2.1.K hb,h.2.2.K hb⟩
theorem RQR.other(h:RQR w neg A n c A' n' c' q){g:Nat}{t':TypeId}{cs':Array Value}(hg:w.grownBy w' (some g))(hb:Blk w g t' cs')(hne:3≠t'):RQR w' neg A n c A' n' c' q:=
 ⟨h.1,h.2.1.other hg hb hne,h.2.2.other hg hb hne⟩
end
def lE(w:World)(q:Rat)(e:Ending)(w':World):Prop:=
 ∃(neg:Bool) (A:OA) (n c:Nat) (A':OA) (n' c':Nat),e=.returned (.agg #[.bool neg,.s A n c,.s A' n' c'])/\RQR w' neg A n c A' n' c' q/\Ext w w'
theorem aK.one{w}{A}{n c:Nat}(h:aK w A n c 1):n=1/\∃b o:Nat,A=some (aD b o)/\b<w.heap.size/\w.cell? (aD b o)=some (vI 1):=by
 obtain⟨ds,hl,_,qa,hv,hr⟩:=h;have e:ds=[1]:=Dig.Canon.unique mT qa ⟨by simp[G6],by simp⟩ (by rw[hv];simp[Dig.val]);subst e;obtain⟨b,o,e,hb,hc⟩:=hr.rd.ints (k:=0) (by simp);exact⟨by simpa using hl.symm,b,o,e,hb,(hc 0 (by simp)).trans (by simp)⟩
theorem aK.notone{w}{A}{c N:Nat}(h:aK w A 1 c N)(hN:N≠1):∃b o d:Nat,A=some (aD b o)/\b<w.heap.size/\w.cell? (aD b o)=some (vI (d:Int))/\((d:Int)==1)=false:=by
 obtain⟨ds,hl,_,qa,hv,hr⟩:=h;obtain⟨d,rfl⟩:∃d,ds=[d]:=(by (match ds,hl with| [d],_=>exact⟨d,rfl⟩));obtain⟨b,o,e,hb,hc⟩:=hr.rd.ints (k:=0) (by simp);refine⟨b,o,d,e,hb,(hc 0 (by simp)).trans (by simp),?_⟩;simp[Dig.val]at hv;exact yK.2 (by omega)
theorem jzji(neg:Bool){n d:Nat}(hd:d≠0):dk (mkQ neg n d)=if d/n.gcd d=1 then 0 else d/n.gcd d:=by
 unfold dk;rw[lQ neg hd]
theorem lZ{w W:World}{neg:Bool}{N D:Nat}{A A'}{n c n' c' g:Nat}{cs:Array Value}(hD:D≠0)(nb:Bool)(hn:nb=(neg&&N !=0))(h1:aK W A n c (N/N.gcd D))(h2:aK W A' n' c' (if D/N.gcd D=1 then 0 else D/N.gcd D))
  (hb:Blk W g 47 cs) (hg:w.heap.size<=g) (hx:Ext w W):
  RQR (((W.setCell (aD g 0) (.bool nb)).setCell (aD g 1) (.s A n c)).setCell (aD g 2) (.s A' n' c')) nb A n c A' n' c' (mkQ neg N D)/\Ext w (((W.setCell (aD g 0) (.bool nb)).setCell (aD g 1) (.s A n c)).setCell (aD g 2) (.s A' n' c')):=by
 refine⟨RQR.other (w:=W) ⟨by rw[sM neg hD,hn],by rw[lP neg hD];exact h1,by rw[jzji neg hD];exact h2⟩ (tP W g _ _ _) hb (by decide),?_⟩;exact((hx.sT (p:=(aD g 0)) hg _).sT (p:=(aD g 1)) hg _).sT (p:=(aD g 2)) hg _
def fR(w:World)(A A':OA):Prop:=(∀ad,A=some ad->w.heap.size<=ad.block)/\∀ad,A'=some ad->w.heap.size<=ad.block
theorem fR.le{w w':World}{A A'}(h:fR w' A A')(hx:w.heap.size<=w'.heap.size):fR w A A':=⟨fun ad e=>yY hx (h.1 ad e),fun ad e=>yY hx (h.2 ad e)⟩
theorem fR.zl{w}{A A'}(h:fR w A A'):fR w none A':=⟨fun _ e=>(by cases e),h.2⟩
theorem fR.zr{w}{A A'}(h:fR w A A'):fR w A none:=⟨h.1,fun _ e=>(by cases e)⟩
def nF(w:World)(q:Rat)(e:Ending)(w':World):Prop:=
 ∃(neg:Bool) (A:OA) (n c:Nat) (A':OA) (n' c':Nat),e=.returned (.agg #[.bool neg,.s A n c,.s A' n' c'])/\RQR w' neg A n c A' n' c' q/\Ext w w'/\fR w A A'
theorem nF.ok{w w'}{q:Rat}{e:Ending}(h:nF w q e w'):lE w q e w':=by
 obtain⟨neg,A,n,c,A',n',c',k0,k1,k2,_⟩:=h;exact⟨neg,A,n,c,A',n',c',k0,k1,k2⟩
theorem jzjj(neg:Bool)A1 A2(n1 c1 n2 c2 N D:Nat)w(h1:aK w A1 n1 c1 N)(h2:aK w A2 n2 c2 D)(hn1:n1<=1000000)(hn2:n2<=1000000)(hD:0<D):
  Calls Tryz.prog 106 #[.bool neg,.s A1 n1 c1,.s A2 n2 c2] w fun e w'=>∃(nb:Bool) (A:OA) (n c:Nat) (A':OA) (n' c':Nat),e=.returned (.tuple #[.agg #[.bool nb,.s A n c,.s A' n' c'],vI 0])/\RQR w' nb A n c A' n' c' (mkQ neg N D)/\Ext w w'/\fR w A A':=by
 obtain⟨b0,e0⟩:=aZ w #[.bool false,zN,zN] 47;have z2:((n2:Int)==0)=false:=(by have:=h2.eq_zero;exact yK.2 (by omega));have H1:=Hx (h1.K e0);have H2:=Hx (h2.K e0);have qj:0<N.gcd D:=Nat.gcd_pos_of_pos_right N hD;have qh:N.gcd D<=D:=Nat.le_of_dvd hD (Nat.gcd_dvd_right N D);have G:=Hx (kQa qj qh);have B0:=Hx (b0);have E0:=Hx (e0);clear h1 h2 b0 e0 qj qh;go_enter Tryz.func106,Tryz.ntmps106;(go_wp2_with fail);refine(jzi3 A1 A2 n1 c1 n2 c2 N D _ H1.o H2.o hn1 hn2).mono ?_;rintro e w1 ⟨A3,n3,c3,rfl,h3,x1⟩;have qz:n3<=n2:=h3.lenOf (kQ2 G.o.2 H2.o.lt_pow);have H3:=Hx (kQa h3 (kQa (H1.o.K x1) (H2.o.K x1)));have B1:=Hx (B0.o.K x1);have E1:=Hx (E0.o.tr x1);clear h3 x1 B0 E0 H1 H2;(go_wp2_with fail);refine(tK A1 A3 n1 c1 n3 c3 N _ _ H3.o.2.1 H3.o.1 (by omega) (by omega) G.o.1).mono ?_;rintro e w2 ⟨A4,n4,c4,A5,n5,c5,rfl,h4,h5,x2,qn⟩;have qk:Hid (∀ad,A4=some ad->w.heap.size<=ad.block):=Hx (fun ad h=>yY E1.o.size (qn ad h));clear qn;have H4:=Hx (kQa h4 (kQa (H3.o.1.K x2) (H3.o.2.2.K x2)));have B2:=Hx (B1.o.K x2);have E2:=Hx (E1.o.tr x2);clear h4 h5 x2 H3 B1 E1;(go_wp2_with fail);refine(tK A2 A3 n2 c2 n3 c3 D _ _ H4.o.2.2 H4.o.2.1 (by omega) (by omega) G.o.1).mono ?_;rintro e w3 ⟨A6,n6,c6,A7,n7,c7,rfl,h6,h7,x3,qm⟩;have FR:Hid (fR w A4 A6):=Hx (⟨qk.o,fun ad h=>yY E2.o.size (qm ad h)⟩);clear qm qk;have qo:=(H4.o.1.K x3).eq_zero;have H6:=Hx (kQa (H4.o.1.K x3) h6);have B3:=Hx (B2.o.K x3);have E3:=Hx (E2.o.tr x3);obtain⟨⟨i0,i1,i2⟩,f0,f1,f2⟩:=B3.o.t3;have qp:N/N.gcd D=0↔N=0:=(by constructor;{intro h;(rcases kQm N with h0|h0);{exact h0};have:=Nat.div_pos (Nat.le_of_dvd h0 (Nat.gcd_dvd_left N D)) G.o.1;omega};intro h;rw[h];simp);have qg:=Hx qo;have qe:=Hx qp;clear h6 h7 x3 H4 B2 E2 qo qp;by_cases qf:D/N.gcd D=1;{obtain⟨rfl,bb,oo,rfl,qw,qx⟩:n6=1/\∃b o:Nat,A6=some (aD b o)/\b<w3.heap.size/\w3.cell? (aD b o)=some (vI 1):=(by have h:=H6.o.2;rw[qf]at h;exact h.one);have DD:Hid (aK w3 none 0 0 (if D/N.gcd D=1 then 0 else D/N.gcd D)):=Hx (by rw[if_pos qf];exact aK.zero _ _ _);clear qf;by_cases qa:N=0;{obtain rfl:n4=0:=qg.o.2 (qe.o.2 qa);obtain⟨r1,r2⟩:=lZ (w:=w) (neg:=neg) (N:=N) (D:=D) (g:=w.heap.size) (by omega) false (by rw[qa];simp) (by rw[qe.o.2 qa];exact aK.zero w3 none 0) DD.o B3.o (yX _) E3.o;have q3:=((B3.o.sT 0 (.bool false)).sT 1 zN).sT 2 zN;have RF:=Hx (kQa q3 (kQa r1 r2));clear q3 r1 r2 qa;go_wp2;exact bodyPost_ret (v:=.tuple #[.agg #[.bool false,zN,zN],vI 0]) (by simp[results,Tryz.results106,go_sem,RF.o.1.cell]) rfl ⟨_,_,_,_,_,_,_,rfl,RF.o.2.1,RF.o.2.2,FR.o.zr.zl⟩};have zn:((n4:Int)==0)=false:=yK.2 (fun h=>qa (qe.o.1 (qg.o.1 (by omega))));obtain⟨r1,r2⟩:=lZ (w:=w) (neg:=neg) (N:=N) (D:=D) (g:=w.heap.size) (by omega) neg (by simp[qa]) H6.o.1 DD.o B3.o (yX _) E3.o;have q3:=((B3.o.sT 0 (.bool neg)).sT 1 (.s A4 n4 c4)).sT 2 zN;have RF:=Hx (kQa q3 (kQa r1 r2));clear q3 r1 r2 qa;go_wp2;exact bodyPost_ret (v:=.tuple #[.agg #[.bool neg,.s A4 n4 c4,zN],vI 0]) (by simp[results,Tryz.results106,go_sem,RF.o.1.cell]) rfl ⟨_,_,_,_,_,_,_,rfl,RF.o.2.1,RF.o.2.2,FR.o.zr⟩};have DD:Hid (aK w3 A6 n6 c6 (if D/N.gcd D=1 then 0 else D/N.gcd D)):=Hx (by rw[if_neg qf];exact H6.o.2);by_cases qi:n6=1;{subst qi;obtain⟨bb,oo,dd,rfl,qw,qx,qy⟩:=H6.o.2.notone qf;clear qf;by_cases qa:N=0;{obtain rfl:n4=0:=qg.o.2 (qe.o.2 qa);obtain⟨r1,r2⟩:=lZ (w:=w) (neg:=neg) (N:=N) (D:=D) (g:=w.heap.size) (by omega) false (by rw[qa];simp) (by rw[qe.o.2 qa];exact aK.zero w3 none 0) DD.o B3.o (yX _) E3.o;have q3:=((B3.o.sT 0 (.bool false)).sT 1 zN).sT 2 (.s (some (aD bb oo)) 1 c6);have RF:=Hx (kQa q3 (kQa r1 r2));clear q3 r1 r2 qa;go_wp2;exact bodyPost_ret (v:=.tuple #[.agg #[.bool false,zN,.s (some (aD bb oo)) 1 c6],vI 0]) (by simp[results,Tryz.results106,go_sem,RF.o.1.cell]) rfl ⟨_,_,_,_,_,_,_,rfl,RF.o.2.1,RF.o.2.2,FR.o.zl⟩};have zn:((n4:Int)==0)=false:=yK.2 (fun h=>qa (qe.o.1 (qg.o.1 (by omega))));obtain⟨r1,r2⟩:=lZ (w:=w) (neg:=neg) (N:=N) (D:=D) (g:=w.heap.size) (by omega) neg (by simp[qa]) H6.o.1 DD.o B3.o (yX _) E3.o;have q3:=((B3.o.sT 0 (.bool neg)).sT 1 (.s A4 n4 c4)).sT 2 (.s (some (aD bb oo)) 1 c6);have RF:=Hx (kQa q3 (kQa r1 r2));clear q3 r1 r2 qa;go_wp2;exact bodyPost_ret (v:=.tuple #[.agg #[.bool neg,.s A4 n4 c4,.s (some (aD bb oo)) 1 c6],vI 0]) (by simp[results,Tryz.results106,go_sem,RF.o.1.cell]) rfl ⟨_,_,_,_,_,_,_,rfl,RF.o.2.1,RF.o.2.2,FR.o⟩};have qt:((n6:Int)==1)=false:=yK.2 (by omega);clear qf qi;by_cases qa:N=0;{obtain rfl:n4=0:=qg.o.2 (qe.o.2 qa);obtain⟨r1,r2⟩:=lZ (w:=w) (neg:=neg) (N:=N) (D:=D) (g:=w.heap.size) (by omega) false (by rw[qa];simp) (by rw[qe.o.2 qa];exact aK.zero w3 none 0) DD.o B3.o (yX _) E3.o;have q3:=((B3.o.sT 0 (.bool false)).sT 1 zN).sT 2 (.s A6 n6 c6);have RF:=Hx (kQa q3 (kQa r1 r2));clear q3 r1 r2 qa;go_wp2;exact bodyPost_ret (v:=.tuple #[.agg #[.bool false,zN,.s A6 n6 c6],vI 0]) (by simp[results,Tryz.results106,go_sem,RF.o.1.cell]) rfl ⟨_,_,_,_,_,_,_,rfl,RF.o.2.1,RF.o.2.2,FR.o.zl⟩};have zn:((n4:Int)==0)=false:=yK.2 (fun h=>qa (qe.o.1 (qg.o.1 (by omega))));obtain⟨r1,r2⟩:=lZ (w:=w) (neg:=neg) (N:=N) (D:=D) (g:=w.heap.size) (by omega) neg (by simp[qa]) H6.o.1 DD.o B3.o (yX _) E3.o;have q3:=((B3.o.sT 0 (.bool neg)).sT 1 (.s A4 n4 c4)).sT 2 (.s A6 n6 c6);have RF:=Hx (kQa q3 (kQa r1 r2));clear q3 r1 r2 qa;go_wp2;exact bodyPost_ret (v:=.tuple #[.agg #[.bool neg,.s A4 n4 c4,.s A6 n6 c6],vI 0]) (by simp[results,Tryz.results106,go_sem,RF.o.1.cell]) rfl ⟨_,_,_,_,_,_,_,rfl,RF.o.2.1,RF.o.2.2,FR.o⟩
end Go.Proofs.YtojpooidhilnfaaGreatDoor
namespace Go.Proofs.YtojpooidhilnfaaGreatDoor
open Go.RowKit Go.Sort
theorem iT{w W:World}{nb:Bool}{A A'}{n c n' c' g:Nat}{q:Rat}{cs:Array Value}(h:RQR W nb A n c A' n' c' q)(hb:Blk W g 47 cs)(hg:w.heap.size<=g)(hx:Ext w W):
  RQR (((W.setCell (aD g 0) (.bool nb)).setCell (aD g 1) (.s A n c)).setCell (aD g 2) (.s A' n' c')) nb A n c A' n' c' q/\Ext w (((W.setCell (aD g 0) (.bool nb)).setCell (aD g 1) (.s A n c)).setCell (aD g 2) (.s A' n' c')):=
 ⟨h.other (tP W g _ _ _) hb (by decide),((hx.sT (p:=(aD g 0)) hg _).sT (p:=(aD g 1)) hg _).sT (p:=(aD g 2)) hg _⟩
theorem pO(neg:Bool)A1 A2(n1 c1 n2 c2 N D:Nat)w(h1:aK w A1 n1 c1 N)(h2:aK w A2 n2 c2 D)(hn1:n1<=1000000)(hn2:n2<=1000000)(hD:0<D):
  Calls Tryz.prog 50 #[.bool neg,.s A1 n1 c1,.s A2 n2 c2] w (nF w (mkQ neg N D)):=by
 obtain⟨b0,e0⟩:=aZ w #[.bool false,zN,zN] 47;have H1:=Hx (h1.K e0);have H2:=Hx (h2.K e0);have B0:=Hx (b0);have E0:=Hx (e0);clear h1 h2 b0 e0;go_enter Tryz.func50,Tryz.ntmps50;(go_wp2_with fail);refine(jzjj neg A1 A2 n1 c1 n2 c2 N D _ H1.o H2.o hn1 hn2 hD).mono ?_;rintro e w1 ⟨nb,A,n,c,A',n',c',rfl,hq,x1,qa⟩;have FR:=Hx (qa.le E0.o.size);clear qa;have X1:=Hx ((eR w1).alloc (.cells #[.bool nb,.s A n c,.s A' n' c'] 47));have B1:=Hx ((B0.o.K x1).K X1.o);have E1:=Hx ((E0.o.tr x1).tr X1.o);have Q1:=Hx (hq.K X1.o);obtain⟨⟨j0,j1,j2⟩,_⟩:=(eN w1 47 #[.bool nb,.s A n c,.s A' n' c']).t3;obtain⟨⟨i0,i1,i2⟩,f0,f1,f2⟩:=B1.o.t3;clear x1 hq B0 E0 X1;obtain⟨r1,r2⟩:=iT (w:=w) Q1.o B1.o (yX _) E1.o;have q3:=((B1.o.sT 0 (.bool nb)).sT 1 (.s A n c)).sT 2 (.s A' n' c');have RF:=Hx (kQa q3 (kQa r1 r2));clear q3 r1 r2;go_wp2;exact bodyPost_ret (v:=.agg #[.bool nb,.s A n c,.s A' n' c']) (by simp[results,Tryz.results50,go_sem,RF.o.1.cell]) rfl ⟨_,_,_,_,_,_,_,rfl,RF.o.2.1,RF.o.2.2,FR.o⟩
theorem jza6(neg:Bool)A1 A2(n1 c1 n2 c2 N D:Nat)w(h1:aK w A1 n1 c1 N)(h2:aK w A2 n2 c2 D)(hn1:n1<=1000000)(hn2:n2<=1000000)(hD:0<D):
 Calls Tryz.prog 50 #[.bool neg,.s A1 n1 c1,.s A2 n2 c2] w (lE w (mkQ neg N D)):=(pO neg A1 A2 n1 c1 n2 c2 N D w h1 h2 hn1 hn2 hD).mono fun e w' h=>h.ok
theorem jza7(x:Int)w(hx: -2147483648<x)(hx2:x<2147483648):
  Calls Tryz.prog 51 #[vI x] w (iS w x.natAbs):=by
 by_cases h0:x<0;{obtain⟨N,hN⟩:∃N:Nat,N=x.natAbs:=⟨_,rfl⟩;have qa:x= -(N:Int):=(by omega);have qe:1<=N:=(by omega);have qf:N<2147483648:=(by omega);rw[<-hN];subst qa;clear hN;have hd:decide (-(N:Int)<0)=true:=(by simp;omega);clear hx hx2 h0;go_enter Tryz.func51,Tryz.ntmps51;(go_wp2_with fail);rw[show-(-(N:Int)+1)+1=(N:Int) by omega];refine(mU N _ (by omega)).mono ?_;rintro e w1 ⟨A,n,c,rfl,h1,x1,fr⟩;have F:=Hx (kQa h1 (kQa x1 fr));clear h1 x1 fr;go_wp2;go_ret;exact⟨_,_,_,rfl,F.o.1,F.o.2.1,F.o.2.2⟩};(obtain⟨N,hN⟩:∃N:Nat,N=x.natAbs:=⟨_,rfl⟩;have qa:x=(N:Int):=(by omega);rw[<-hN];subst qa;clear hN;have hd:decide ((N:Int)<0)=false:=by simp);go_enter Tryz.func51,Tryz.ntmps51;(go_wp2_with fail);refine(mU N _ (by omega)).mono ?_;rintro e w1 ⟨A,n,c,rfl,h1,x1,fr⟩;have F:=Hx (kQa h1 (kQa x1 fr));clear h1 x1 fr;go_wp2;go_ret;exact⟨_,_,_,rfl,F.o.1,F.o.2.1,F.o.2.2⟩
theorem jza8{w}{A}{n c:Nat}{x:Int}(h:aK w A n c x.natAbs)(hx: -2147483648<x)(hx2:x<2147483648):n<=2:=h.lenOf (by
 have:G6^2=1000000000000:=(by decide);omega)
theorem tQ(x y:Int)w(hx: -2147483648<x)(hx2:x<2147483648)(hy: -2147483648<y)(hy2:y<2147483648)(hy0:y≠0):
  Calls Tryz.prog 14 #[vI x,vI y] w (lE w (ofQ x y)):=by
 obtain⟨b0,e0⟩:=aZ w #[.bool false,zN,zN] 47;have B0:=Hx (b0);have E0:=Hx (e0);clear b0 e0;go_enter Tryz.func14,Tryz.ntmps14;(go_wp2_with fail);refine(jza7 x _ hx hx2).mono ?_;rintro e w1 ⟨A1,n1,c1,rfl,h1,x1,_⟩;have l1:=jza8 h1 hx hx2;have H1:=Hx h1;have B1:=Hx (B0.o.K x1);have E1:=Hx (E0.o.tr x1);clear h1 x1 B0 E0;(go_wp2_with fail);refine(jza7 y _ hy hy2).mono ?_;rintro e w2 ⟨A2,n2,c2,rfl,h2,x2,_⟩;have l2:=jza8 h2 hy hy2;have H2:=Hx (kQa (H1.o.K x2) h2);have B2:=Hx (B1.o.K x2);have E2:=Hx (E1.o.tr x2);clear h2 x2 B1 E1 H1;generalize hng:(decide (x<0) !=decide (y<0))=ng at*;(go_wp2_with fail);refine(jza6 _ A1 A2 n1 c1 n2 c2 _ _ _ H2.o.1 H2.o.2 (by omega) (by omega) (by omega)).mono ?_;rintro e w3 ⟨nb,A,n,c,A',n',c',rfl,hq,x3⟩;have B3:=Hx (B2.o.K x3);have E3:=Hx (E2.o.tr x3);obtain⟨⟨i0,i1,i2⟩,f0,f1,f2⟩:=B3.o.t3;obtain⟨r1,r2⟩:=iT (w:=w) hq B3.o (yX _) E3.o;have q3:=((B3.o.sT 0 (.bool nb)).sT 1 (.s A n c)).sT 2 (.s A' n' c');have RF:=Hx (kQa q3 (kQa r1 r2));clear q3 r1 r2 hq x3;go_wp2;exact bodyPost_ret (v:=.agg #[.bool nb,.s A n c,.s A' n' c']) (by simp[results,Tryz.results14,go_sem,RF.o.1.cell]) rfl ⟨_,_,_,_,_,_,_,rfl,RF.o.2.1,RF.o.2.2⟩
theorem jza9{w}{A}{n c N:Nat}(h:aK w A n c N)(hn:n<=1000000):(Lib.decDigits N).length<=6000001:=by
 have h1:=h.lt_pow;have h2:N<10^(6*n+1):=(by refine yL h1 ?_;rw[show G6=10^6 from rfl, <-Nat.pow_mul];exact kQk (by decide) (by omega));rw[Lib.decDigits_length];have:=tE _ _ h2;omega
theorem jzba(neg:Bool)A(n c:Nat)A'(n' c':Nat)(q:Rat)w(h:RQR w neg A n c A' n' c' q)(hn:n<=1000000)(hn':n'<=1000000):
  Calls Tryz.prog 24 #[.agg #[.bool neg,.s A n c,.s A' n' c']] w fun e w'=>e=.returned (.string ⟨(cU q).toArray⟩)/\Ext w w':=by
 obtain⟨qa,e0⟩:=aZ w #[.bool neg,.s A n c,.s A' n' c'] 47;have hz:=h.2.2.eq_zero;have qf:(n'=0/\q.den=1)\/(0<n'/\q.den≠1/\dk q=q.den):=(by have hd:=q.den_nz;unfold dk at hz⊢;by_cases h1:q.den=1;{rw[if_pos h1]at hz;exact .inl ⟨hz.2 rfl,h1⟩};rw[if_neg h1]at hz⊢;exact .inr ⟨by omega,h1,rfl⟩);have qp:=jza9 h.2.1 hn;have qo:=jza9 h.2.2 hn';have H:=Hx (h);have qh:=h.1;have SG:=Hx (show(if q.num<0 then [45]else([]:List UInt8))=if neg then [45]else [] by rw[qh];simp);clear h hz qh;obtain⟨⟨i0,i1,i2⟩,g0,g1,g2⟩:=qa.t3;have goal:∀(s:ByteArray),s.data.toList=cU q->s=⟨(cU q).toArray⟩:=fun s hs=>(by rw[<-hs])
 have qg:=Hx goal;clear goal;have qj:∀b1:Bool,neg=b1->Calls Tryz.prog 24 #[.agg #[.bool neg,.s A n c,.s A' n' c']] w fun e w'=>e=.returned (.string ⟨(cU q).toArray⟩)/\Ext w w':=by
  intro b1 qn;subst qn;rcases qf with⟨rfl,hd⟩|⟨zb,hd,hdk⟩
  ·have HD:=Hx hd;clear hd;cases neg
   all_goals
    go_enter Tryz.func24,Tryz.ntmps24
    go_wp2_with fail
    refine(tL A n c q.num.natAbs _ (H.o.2.1.K e0) hn).mono ?_;rintro e w1 ⟨rfl,qe⟩;have qa:=qa.K qe;obtain⟨⟨i0,i1,i2⟩,g0,g1,g2⟩:=qa.t3;have HX:=Hx (e0.tr qe);clear qe;go_wp2;go_ret;refine⟨congrArg (fun s=>Ending.returned (.string s)) (qg.o _ ?_),HX.o⟩;unfold cU;rw[SG.o,HD.o];simp[ByteArray.data_append]
  have HD:=Hx hd;have qk:=Hx hdk;have zd:decide ((n':Int)>0)=true:=(by simp;omega);clear hd hdk;cases neg
  all_goals
   go_enter Tryz.func24,Tryz.ntmps24
   go_wp2_with fail
   refine(tL A n c q.num.natAbs _ (H.o.2.1.K e0) hn).mono ?_;rintro e w1 ⟨rfl,qe⟩;have qa:=qa.K qe;obtain⟨⟨i0,i1,i2⟩,g0,g1,g2⟩:=qa.t3;have HX:=Hx (e0.tr qe);clear qe
   go_wp2_with fail
   refine(tL A' n' c' (dk q) _ (H.o.2.2.K HX.o) hn').mono ?_;rintro e w3 ⟨rfl,qi⟩;have qm:=Hx (HX.o.tr qi);clear qi;go_wp2;go_ret;refine⟨congrArg (fun s=>Ending.returned (.string s)) (qg.o _ ?_),qm.o⟩;unfold cU;rw[SG.o,if_neg HD.o,qk.o];simp[ByteArray.data_append]
 exact qj neg rfl
end Go.Proofs.YtojpooidhilnfaaGreatDoor
