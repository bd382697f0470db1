/- Walks, part 8. -/
import Derived.Laws.MakeOwn
import Derived.Lib.SliceRun
import Derived.Test.YtfeeacaofjpkaaaGreatDoorK07
set_option linter.unusedVariables false
set_option linter.unusedSimpArgs false
set_option maxRecDepth 100000
set_option maxHeartbeats 8000000
namespace Go.Proofs.YtfeeacaofjpkaaaGreatDoor
open Go.Proofs.Tryz
open Go.RowKit
def SzQ(q:Rat)(k:Nat):Prop:=q.num.natAbs<B32^k/\q.den<B32^k
def QR(w:World)(cs:List Value)(q:Rat):Prop:=
 ∃(neg:Bool) (A:OA) (n c:Nat) (A':OA) (n' c':Nat),cs=[.bool neg,.s A n c,.s A' n' c']/\aB w neg A n c A' n' c' q
theorem QR.K{w w'}{cs:List Value}{q:Rat}(h:QR w cs q)(hx:Ext w w'):QR w' cs q:=by
 obtain⟨neg,A,n,c,A',n',c',e,h1⟩:=h;exact⟨neg,A,n,c,A',n',c',e,h1.K hx⟩
theorem aE.lenOf{w}{A}{n c N k:Nat}(h:aE w A n c N)(hN:N<B32^k):n<=k:=by
 obtain⟨ds,rfl,_,qa,rfl,_⟩:=h;exact qa.len_le kC hN
theorem aB.lens{w}{neg:Bool}{A}{n c:Nat}{A'}{n' c':Nat}{q:Rat}{k:Nat}(h:aB w neg A n c A' n' c' q)(hs:SzQ q k):n<=k/\n'<=k:=by
 refine⟨h.2.1.lenOf hs.1,h.2.2.lenOf ?_⟩;unfold dk;split;{exact kQy bB};exact hs.2
theorem eL{m:Nat}:∀(css:List (List Value)),(∀cs∈css,cs.length=m)->∀(i k:Nat),i<css.length->k<m->css.flatten[i*m+k]?=(css[i]?.getD [])[k]?
 | [],_,i,k,hi,_=>by simp at hi
 |cs::css,h,0,k,_,hk=>by
  rw[Nat.zero_mul,kQu,List.flatten_cons,yR (by rw[h cs qS];exact hk)];rfl
 |cs::css,h,i+1,k,hi,hk=>by
  have hl:=h cs qS;rw[List.flatten_cons,yS (by rw[hl,xP,xQ];omega),hl,show(i+1)*m+k-m=i*m+k by rw[xP,xQ];omega];rw[eL css (fun c hc=>h c (by simp[hc])) i k (by simpa using hi) hk];simp
theorem fZ{m:Nat}(css:List (List Value))(h:∀cs∈css,cs.length=m):css.flatten.length=css.length*m:=by
 (induction css with|nil=>simp|cons a l ih=>rw[List.flatten_cons,yQ,h a qS,ih (fun c hc=>h c (by simp[hc])),kQo,xP,xQ,kZl])
def QL(w:World)(P:OA)(qs:LQ):Prop:=
 ∃css:List (List Value),css.length=qs.length/\(∀cs∈css,cs.length=3)/\Rd w P css.flatten/\∀(i:Nat) (q:Rat),qs[i]?=some q->∃cs,css[i]?=some cs/\QR w cs q
theorem QL.K{w w'}{P}{qs:LQ}(h:QL w P qs)(hx:Ext w w'):QL w' P qs:=by
 obtain⟨css,h1,h2,h3,h4⟩:=h;refine⟨css,h1,h2,h3.K hx,fun i q hq=>?_⟩;obtain⟨cs,k1,k2⟩:=h4 i q hq;exact⟨cs,k1,k2.K hx⟩
theorem QL.at_{w}{P}{qs:LQ}(h:QL w P qs){i:Nat}{q:Rat}(hq:qs[i]?=some q):
  ∃(b o:Nat) (neg:Bool) (A:OA) (n c:Nat) (A':OA) (n' c':Nat),P=some (aD b o)/\b<w.heap.size/\w.cell? (aD b (o+i*3))=some (.bool neg)/\w.cell? (aD b (o+i*3+1))=some (.s A n c)/\w.cell? (aD b (o+i*3+2))=some (.s A' n' c')/\aB w neg A n c A' n' c' q:=by
 obtain⟨css,h1,h2,h3,h4⟩:=h;obtain⟨cs,k1,neg,A,n,c,A',n',c',rfl,k2⟩:=h4 i q hq;have hi:=(yH.1 hq).1;have hl:=fZ css h2;have qa:∀k,k<3->css.flatten[i*3+k]?=([.bool neg,.s A n c,.s A' n' c']:List Value)[k]?:=fun k hk=>(by rw[eL css h2 i k qO hk,k1];rfl);obtain⟨b,o,rfl,hb,hc⟩:=h3.at_ (i:=i*3) qO;refine⟨b,o,neg,A,n,c,A',n',c',rfl,hb,?_,?_,?_,k2⟩;{have:=hc (i*3+0) qO;rw[qa 0 qO]at this;exact this};{have:=hc (i*3+1) qO;rw[qa 1 qO]at this;exact this};have:=hc (i*3+2) qO;rw[qa 2 qO]at this;exact this
theorem jzim(neg:Bool)A(n c:Nat)A'(n' c':Nat)(q:Rat)w(h:aB w neg A n c A' n' c' q):
  Calls prog 162 #[.agg #[.bool neg,.s A n c,.s A' n' c']] w fun e w'=>e=.returned (.bool (decide (aC q<0)))/\Ext w w':=by
 obtain⟨qe,e0⟩:=bA w #[.bool neg,.s A n c,.s A' n' c'] 33;obtain⟨⟨i0,i1,i2⟩,g0,g1,g2⟩:=qe.t3;have H:=Hx h;clear h;go_enter func162,ntmps162;go_wp2_with fail;refine(cV neg A n c A' n' c' q _ (H.o.K e0)).mono ?_;rintro e w1 ⟨rfl,qa⟩;have HX:=Hx (e0.tr qa);clear qa;go_wp2;go_ret;exact⟨rfl,HX.o⟩
def jzin(w:World)(qs:LQ)(e:Ending)(w':World):Prop:=∃r:Int,e=.returned (vI r)/\decide (0<=r)=qs.any (fun q=>decide (aC q<0))/\Ext w w'
theorem jzio P(cp:Nat)(qs:LQ)w(h:QL w P qs)(hl:qs.length<=1000000):
  Calls prog 202 #[.s P qs.length cp,.func (.func 162) #[] #[]] w (jzin w qs):=by
 have H:=Hx h;clear h;go_enter func202,ntmps202;go_wp2;(go_loopw [5,8] (fun _ it wr=>∃k:Nat,k<=qs.length/\it=vI k/\(qs.take k).any (fun q=>decide (aC q<0))=false/\Ext w wr) (fun _ i _=>qs.length-(intOf i).toNat));exact⟨0,yZ _,rfl,rfl,eR _⟩;obtain⟨k,hk,rfl,qh,hx⟩:=hrel;have qf:=Hx qh;have HX:=Hx hx;clear qh hx;by_cases qk:k<qs.length;{obtain⟨q,hq⟩:∃q,qs[k]?=some q:=⟨_,yG qk⟩;obtain⟨b,o,neg,A,n,c,A',n',c',rfl,hb,i0,i1,i2,hR⟩:=(H.o.K HX.o).at_ hq;have R:=Hx hR;have qe:=Hx (show(qs.take (k+1)).any (fun q=>decide (aC q<0))=decide (aC q<0) by rw[kQr,hq,List.any_append,qf.o];simp);have qm:Hid (decide (aC q<0)=true->qs.any (fun q=>decide (aC q<0))=true):=Hx (fun e=>List.any_eq_true.2 ⟨q,yJ hq,e⟩);clear hq hR;go_wp2_with fail;refine(jzim neg A n c A' n' c' q _ R.o).mono ?_;rintro e w1 ⟨rfl,qj⟩;have qi:=Hx (HX.o.tr qj);clear qj i0 i1 i2;cases hs:decide (aC q<0);(case true=>have qa:=qm.o hs;have qg:=Hx qa;clear qa hs;go_wp2;go_ret;exact⟨(k:Int),rfl,by rw[qg.o];simp,qi.o⟩);have HS:=Hx (qe.o.trans hs);clear hs;go_wp2;go_roundw;(case rel=>exact⟨k+1,qO,by go_num,HS.o,qi.o⟩);simp[intOf];omega};have qn:k=qs.length:=qO;subst qn;rw[yU (yX _)]at qf;go_wp2;go_ret;exact⟨-1,rfl,by rw[qf.o];rfl,HX.o⟩
theorem jzip P(cp:Nat)(qs:LQ)w(h:QL w P qs)(hl:qs.length<=1000000):
  Calls prog 163 #[.s P qs.length cp,.func (.func 162) #[] #[]] w fun e w'=>e=.returned (.bool (qs.any (fun q=>decide (aC q<0))))/\Ext w w':=by
 have H:=Hx h;clear h;generalize hB:qs.any (fun q=>decide (aC q<0))=B;have HB:=Hx hB;clear hB;go_enter func163,ntmps163;go_wp2_with fail;refine(jzio P cp qs _ H.o hl).mono ?_;rintro e w1 ⟨r,rfl,hr,qa⟩;rw[HB.o]at hr;subst hr;go_wp2;go_ret;exact⟨rfl,qa⟩
def eM(t:Tp)(qs:LQ):Bool:=decide (qs.length=2*t.links.length)&&!qs.any (fun q=>decide (aC q<0))
theorem jziq t AO(co:Nat)AL(cl:Nat)P(cp:Nat)(qs:LQ)w(ht:bD w t AO co AL cl)(h:QL w P qs)(hl:qs.length<=1000000):
  Calls prog 104 #[.agg #[vI t.nodes,.s AO t.over.length co,.s AL t.links.length cl],.s P qs.length cp] w fun e w'=>e=.returned (.bool (eM t qs))/\Ext w w':=by
 obtain⟨qg,e0⟩:=bA w #[vI t.nodes,.s AO t.over.length co,.s AL t.links.length cl] 25;obtain⟨⟨i0,i1,i2⟩,g0,g1,g2⟩:=qg.t3;have H:=Hx h;have HT:=Hx ht;have h3:=ht.ll;have h4:=ht.cl;generalize hB:eM t qs=B;have HB:=Hx hB;clear h ht hB;go_enter func104,ntmps104;go_wp2_with fail;refine(fX t AO co AL cl _ (HT.o.K e0)).mono ?_;rintro e w1 ⟨rfl,qf⟩;have HX:=Hx (e0.tr qf);clear qf i0 i1 i2 g0 g1 g2;by_cases he:qs.length=2*t.links.length;{(have qi:((qs.length:Int)==2*(t.links.length:Int))=true:=by simp;omega);have qa:B=!qs.any (fun q=>decide (aC q<0)):=(by rw[<-HB.o];unfold eM;rw[yO he];rfl);subst qa;clear he HB;go_wp2_with fail;refine(jzip P cp qs _ (H.o.K HX.o) hl).mono ?_;rintro e w2 ⟨rfl,qe⟩;have qh:=Hx (HX.o.tr qe);clear qe;generalize hZ:qs.any (fun q=>decide (aC q<0))=Z at*;have HZ:=Hx hZ;clear hZ;go_wp2;go_ret;exact⟨by rw[HZ.o];rfl,qh.o⟩};have qi:((qs.length:Int)==2*(t.links.length:Int))=false:=yK.2 qO;have qa:B=false:=(by rw[<-HB.o];unfold eM;rw[yP he];rfl);subst qa;clear he HB;go_wp2;go_ret;exact⟨rfl,HX.o⟩
def or3(x y z:Int):Int:=if x≠0 then x else if y≠0 then y else z
def bP:LN->LN->Int
 | [],[]=>0
 | [],_::_=> -1
 |_::_,[]=>1
 |a::x,b::y=>if a<b then-1 else if a=b then bP x y else 1
theorem jzav(g:Nat)(x y z:Int)w(h:Blk w g 3 #[vI x,vI y,vI z]):
  Calls prog 164 #[.s (sA g) 3 3] w fun e w'=>e=.returned (vI (or3 x y z))/\w=w':=by
 obtain⟨⟨i0,i1,i2⟩,_⟩:=h.t3;have hR:∃R,R=or3 x y z:=⟨_,rfl⟩;obtain⟨R,hR⟩:=hR;have HR:=Hx hR;rw[<-hR];clear h hR;go_enter func164,ntmps164;go_wp2;(go_loop [5,8] (fun _ it=>∃k:Nat,k<=3/\it=vI k/\(1<=k->x=0)/\(2<=k->y=0)/\(3<=k->z=0)) (fun _ i=>3-(intOf i).toNat));exact⟨0,qO,rfl,qO,qO,qO⟩;(obtain⟨k,hk,rfl,h1,h2,h3⟩:=hrel;have H1:=Hx h1;have H2:=Hx h2;have H3:=Hx h3;clear h1 h2 h3;obtain rfl|rfl|rfl|rfl:k=0\/k=1\/k=2\/k=3:=by omega);{by_cases hx:x=0;{(have hb:(x !=0)=false:=by simp[hx]);have HX:=Hx hx;clear hx;go_wp2;(go_round);(case rel=>exact⟨1,qO,rfl,fun _=>HX.o,qO,qO⟩);simp[intOf]};have hb:(x !=0)=true:=bne_iff_ne.2 hx;have HX:=Hx (show x=R by rw[HR.o];unfold or3;rw[qE hx]);go_wp2;go_ret;exact⟨by rw[<-HX.o];rfl,rfl⟩};{by_cases hx:y=0;{(have hb:(y !=0)=false:=by simp[hx]);have HX:=Hx hx;clear hx;go_wp2;(go_round);(case rel=>exact⟨2,qO,rfl,fun _=>H1.o qO,fun _=>HX.o,qO⟩);simp[intOf]};have hb:(y !=0)=true:=bne_iff_ne.2 hx;have HX:=Hx (show y=R by rw[HR.o];unfold or3;rw[qF (by simpa using H1.o qO),qE hx]);go_wp2;go_ret;exact⟨by rw[<-HX.o];rfl,rfl⟩};{by_cases hx:z=0;{(have hb:(z !=0)=false:=by simp[hx]);have HX:=Hx hx;clear hx;go_wp2;(go_round);(case rel=>exact⟨3,qO,rfl,fun _=>H1.o qO,fun _=>H2.o qO,fun _=>HX.o⟩);simp[intOf]};have hb:(z !=0)=true:=bne_iff_ne.2 hx;have HX:=Hx (show z=R by rw[HR.o];unfold or3;rw[qF (by simpa using H1.o qO),qF (by simpa using H2.o qO)]);go_wp2;go_ret;exact⟨by rw[<-HX.o];rfl,rfl⟩};have HX:=Hx (show 0=R by rw[HR.o];unfold or3;rw[qF (by simpa using H1.o qO),qF (by simpa using H2.o qO),H3.o qO]);go_wp2;go_ret;exact⟨by rw[<-HX.o];rfl,rfl⟩
theorem jzir(x y:Nat):Lib.compareInt (x:Int) (y:Int)=aS x y:=by
 unfold Lib.compareInt aS;split <;> split <;> (try split) <;> omega
theorem pQ(x y:Nat)w:Calls prog 165 #[vI x,vI y] w fun e w'=>e=.returned (vI (aS x y))/\w=w':=by
 refine(Tryz.cmp_Compare_int x y w).mono ?_;rintro e w' ⟨rfl,rfl⟩;exact⟨by rw[jzir],rfl⟩
theorem jzis{l1 l2:LN}{k a b:Nat}(h1:l1[k]?=some a)(h2:l2[k]?=some b):bP (l1.drop k) (l2.drop k)=if a<b then-1 else if a=b then bP (l1.drop (k+1)) (l2.drop (k+1))else 1:=by
 obtain⟨qe,e1⟩:=yH.1 h1;obtain⟨qa,e2⟩:=yH.1 h2;rw[kQ6 qe,kQ6 qa,bP,e1,e2]
theorem jzaw A1 A2(c1 c2:Nat)(l1 l2:LN)w(hr1:Rd w A1 (ints l1))(hr2:Rd w A2 (ints l2))(hl1:l1.length<=1000000)(hl2:l2.length<=1000000):
  Calls prog 166 #[.s A1 l1.length c1,.s A2 l2.length c2] w fun e w'=>e=.returned (vI (bP l1 l2))/\w=w':=by
 have R1:=Hx hr1;have R2:=Hx hr2;obtain⟨R,hR⟩:∃R,R=bP l1 l2:=⟨_,rfl⟩;have HR:=Hx hR;rw[<-hR];clear hr1 hr2 hR;go_enter func166,ntmps166;go_wp2;(go_loop [5,6,7,8,11] (fun _ _ _ _ it=>∃k:Nat,k<=l1.length/\k<=l2.length/\it=vI k/\bP (l1.drop k) (l2.drop k)=R) (fun _ _ _ _ i=>l1.length-(intOf i).toNat));exact⟨0,yZ _,yZ _,rfl,HR.o.symm⟩;obtain⟨k,qt,qp,rfl,qh⟩:=hrel;have HL:=Hx qh;clear qh;by_cases qi:k<l1.length;{obtain⟨a,ha⟩:∃a,l1[k]?=some a:=⟨_,yG qi⟩;obtain⟨b,o,rfl,hb,qn⟩:=R1.o.ints_ qi;rw[ha,kQ1]at qn;by_cases qe:k<l2.length;{obtain⟨a2,qj⟩:∃a,l2[k]?=some a:=⟨_,yG qe⟩;obtain⟨b2,o2,rfl,qw,qm⟩:=R2.o.ints_ qe;rw[qj,kQ1]at qm;have hl:=HL.o;rw[jzis ha qj]at hl;have qk:=Hx hl;clear hl ha qj;go_wp2_with fail;refine(pQ a a2 _).mono ?_;rintro e w1 ⟨rfl,rfl⟩;by_cases qf:a<a2;{(have hv:aS a a2= -1:=by unfold aS;rw[qE qf]);have qa:=Hx (show-1=R by rw[<-qk.o,qE qf]);rw[hv];clear hv;go_wp2;go_ret;exact⟨by rw[<-qa.o];rfl,rfl⟩};by_cases qg:a=a2;{(have hv:aS a a2=0:=by unfold aS;rw[qF qf,qE qg]);have qa:=Hx (show bP (l1.drop (k+1)) (l2.drop (k+1))=R by rw[<-qk.o,qF qf,qE qg]);rw[hv];clear hv qg;go_wp2;(go_round);(case rel=>exact⟨k+1,qO,qO,by go_num,qa.o⟩);simp[intOf];omega};have hv:aS a a2=1:=(by unfold aS;rw[qF qf,qF qg]);have qa:=Hx (show 1=R by rw[<-qk.o,qF qf,qF qg]);rw[hv];clear hv;go_wp2;go_ret;exact⟨by rw[<-qa.o];rfl,rfl⟩};have qa:=Hx (show 1=R by rw[<-HL.o,kQ6 qi,kQf (show l2.length<=k by omega)];rfl);clear ha;go_wp2;go_ret;exact⟨by rw[<-qa.o];rfl,rfl⟩};have qo:k=l1.length:=qO;subst qo;by_cases qe:l1.length<l2.length;{have qa:=Hx (show-1=R by rw[<-HL.o,kQf (yX _),kQ6 qe];rfl);go_wp2;go_ret;exact⟨by rw[<-qa.o];rfl,rfl⟩};have qa:=Hx (show 0=R by rw[<-HL.o,kQf (yX _),kQf (show l2.length<=l1.length by omega)];rfl);go_wp2;go_ret;exact⟨by rw[<-qa.o];rfl,rfl⟩
def nH(p q:Rat)(x y:LN):Int:=or3 (bG p q) (aS x.length y.length) (bP x y)
theorem jzax(k1 d1 na k2 d2 nb:Bool)A1(n1 c1:Nat)A1'(n1' c1':Nat)A2(n2 c2:Nat)A2'(n2' c2':Nat)AX AY(cx cy:Nat)(p q:Rat)(x y:LN)w
  (ha:aB w na A1 n1 c1 A1' n1' c1' p) (hb:aB w nb A2 n2 c2 A2' n2' c2' q) (l1:n1<=268435456) (l1':n1'<=268435456) (l2:n2<=268435456) (l2':n2'<=268435456) (hx:Rd w AX (ints x)) (hy:Rd w AY (ints y)) (hxl:x.length<=1000000) (hyl:y.length<=1000000):
  Calls prog 109 #[.agg #[.bool k1,.bool d1,.bool na,.s A1 n1 c1,.s A1' n1' c1',.s AX x.length cx],.agg #[.bool k2,.bool d2,.bool nb,.s A2 n2 c2,.s A2' n2' c2',.s AY y.length cy]] w fun e w'=>e=.returned (vI (nH p q x y))/\Ext w w':=by
 obtain⟨qe,qa,e0⟩:=dK w #[.bool k1,.bool d1,.bool na,.s A1 n1 c1,.s A1' n1' c1',.s AX x.length cx] 170 #[.bool k2,.bool d2,.bool nb,.s A2 n2 c2,.s A2' n2' c2',.s AY y.length cy] 170;have HA:=Hx ha;have HB:=Hx hb;have HX:=Hx hx;have HY:=Hx hy;obtain⟨R,hR⟩:∃R,R=nH p q x y:=⟨_,rfl⟩;have HR:=Hx hR;rw[<-hR];clear ha hb hx hy hR;generalize hW:(w.alloc (.cells #[.bool k1,.bool d1,.bool na,.s A1 n1 c1,.s A1' n1' c1',.s AX x.length cx] 170)).alloc (.cells #[.bool k2,.bool d2,.bool nb,.s A2 n2 c2,.s A2' n2' c2',.s AY y.length cy] 170)=W at*;have qm:=qe.cell 2;have qg:=qe.cell 3;have qh:=qe.cell 4;have qj:=qe.cell 5;have qn:=qa.cell 2;have qi:=qa.cell 3;have qf:=qa.cell 4;have qk:=qa.cell 5;simp only[xI,kQi,List.getElem?_cons_succ]at qm qg qh qj qn qi qf qk;have BA:=Hx qe;have BB:=Hx qa;have E0:=Hx e0;clear qe qa e0;go_enter func109,ntmps109;go_wp2;clear hW;have W0:Hid (Ext w W.drew):=Hx (E0.o.drewN 1);have BA:Hid (Blk W.drew _ _ _):=BA.o;have BB:Hid (Blk W.drew _ _ _):=BB.o
 go_region_held3 (fun w'=>w'.cell? (aD w.heap.size 2)=some (.bool na)/\w'.cell? (aD w.heap.size 3)=some (.s A1 n1 c1)/\w'.cell? (aD w.heap.size 4)=some (.s A1' n1' c1')/\w'.cell? (aD w.heap.size 5)=some (.s AX x.length cx)/\
   w'.cell? (aD (w.heap.size+1) 2)=some (.bool nb)/\w'.cell? (aD (w.heap.size+1) 3)=some (.s A2 n2 c2)/\w'.cell? (aD (w.heap.size+1) 4)=some (.s A2' n2' c2')/\w'.cell? (aD (w.heap.size+1) 5)=some (.s AY y.length cy))
  (first|exact⟨qm,qg,qh,qj,qn,qi,qf,qk⟩|exact⟨aU qm _,aU qg _,aU qh _,aU qj _,aU qn _,aU qi _,aU qf _,aU qk _⟩)
  (first
   |(go_at_call 19
     refine(fE na nb A1 n1 c1 A1' n1' c1' A2 n2 c2 A2' n2' c2' p q _ (by exact HA.o.K W0.o) (by exact HB.o.K W0.o) l1 l1' l2 l2').mono ?_;rintro e w5 ⟨rfl,qo⟩;have X5:=Hx (W0.o.tr qo);have B5:=Hx (BA.o.K qo);have C5:=Hx (BB.o.K qo);have qm:=B5.o.cell 2;have qg:=B5.o.cell 3;have qh:=B5.o.cell 4;have qj:=B5.o.cell 5;have qn:=C5.o.cell 2;have qi:=C5.o.cell 3;have qf:=C5.o.cell 4;have qk:=C5.o.cell 5;simp only[xI,kQi,List.getElem?_cons_succ]at qm qg qh qj qn qi qf qk;clear qo)
   |(go_at_call 165
     refine(pQ x.length y.length _).mono ?_;rintro e w6 ⟨rfl,rfl⟩)
   |(go_at_call 166
     refine(jzaw AX AY cx cy x y _ (by exact HX.o.K X5.o) (by exact HY.o.K X5.o) hxl hyl).mono ?_;rintro e w6 ⟨rfl,rfl⟩)
   |(go_at_call 164
     refine(jzav w5.heap.size (bG p q) (aS x.length y.length) (bP x y) _ (eN _ _ _)).mono ?_;rintro e w7 ⟨rfl,rfl⟩;have qp:=Hx (X5.o.alloc (.cells #[vI (bG p q),vI (aS x.length y.length),vI (bP x y)] 3))))
 all_goals
  go_wp2;go_ret;exact⟨by rw[HR.o];rfl,qp.o⟩
def prQ(ps:LQ)(arcs:LN):Rat:=arcs.foldl (fun s a=>s+ps[a]?.getD 0) 0
theorem jzit(ps:LQ)(arcs:LN)(a:Nat):prQ ps (arcs++[a])=prQ ps arcs+ps[a]?.getD 0:=by unfold prQ;rw[kZt];rfl
structure Lb where
 known:Bool
 done:Bool
 arcs:LN
def LbR(w:World)(ps:LQ)(cs:List Value)(lb:Lb):Prop:=
 ∃(neg:Bool) (A:OA) (n c:Nat) (A':OA) (n' c':Nat) (AX:OA) (cx:Nat),cs=[.bool lb.known,.bool lb.done,.bool neg,.s A n c,.s A' n' c',.s AX lb.arcs.length cx]/\aB w neg A n c A' n' c' (prQ ps lb.arcs)/\lb.arcs.length<=cx/\RdT w 3 AX (ints lb.arcs)
theorem LbR.K{w w'}{ps:LQ}{cs:List Value}{lb:Lb}(h:LbR w ps cs lb)(hx:Ext w w'):LbR w' ps cs lb:=by
 obtain⟨neg,A,n,c,A',n',c',AX,cx,e,h1,h2,h3⟩:=h;exact⟨neg,A,n,c,A',n',c',AX,cx,e,h1.K hx,h2,h3.K hx⟩
def dD(w:World)(ps:LQ)(g:Nat)(ls:List Lb):Prop:=
 ∃css:List (List Value),css.length=ls.length/\(∀cs∈css,cs.length=6)/\Blk w g 170 css.flatten.toArray/\∀(i:Nat) (lb:Lb),ls[i]?=some lb->∃cs,css[i]?=some cs/\LbR w ps cs lb
theorem dD.K{w w'}{ps:LQ}{g:Nat}{ls:List Lb}(h:dD w ps g ls)(hx:Ext w w'):dD w' ps g ls:=by
 obtain⟨css,h1,h2,h3,h4⟩:=h;refine⟨css,h1,h2,h3.K hx,fun i lb hl=>?_⟩;obtain⟨cs,k1,k2⟩:=h4 i lb hl;exact⟨cs,k1,k2.K hx⟩
theorem dD.lt{w}{ps:LQ}{g:Nat}{ls:List Lb}(h:dD w ps g ls):g<w.heap.size:=by
 obtain⟨css,_,_,h3,_⟩:=h;exact h3.lt
theorem dD.at_{w}{ps:LQ}{g:Nat}{ls:List Lb}(h:dD w ps g ls){i:Nat}{lb:Lb}(hl:ls[i]?=some lb):
  ∃(neg:Bool) (A:OA) (n c:Nat) (A':OA) (n' c':Nat) (AX:OA) (cx:Nat),
   (w.cell? (aD g (i*6))=some (.bool lb.known)/\w.cell? (aD g (i*6+1))=some (.bool lb.done)/\w.cell? (aD g (i*6+2))=some (.bool neg)/\w.cell? (aD g (i*6+3))=some (.s A n c)/\w.cell? (aD g (i*6+4))=some (.s A' n' c')/\w.cell? (aD g (i*6+5))=some (.s AX lb.arcs.length cx))/\
   aB w neg A n c A' n' c' (prQ ps lb.arcs)/\lb.arcs.length<=cx/\RdT w 3 AX (ints lb.arcs):=by
 obtain⟨css,h1,h2,h3,h4⟩:=h;obtain⟨cs,k1,neg,A,n,c,A',n',c',AX,cx,rfl,k2,k3,k4⟩:=h4 i lb hl;have hi:=(yH.1 hl).1;have qa:∀k,k<6->w.cell? (aD g (i*6+k))=([.bool lb.known,.bool lb.done,.bool neg,.s A n c,.s A' n' c',.s AX lb.arcs.length cx]:List Value)[k]?:=fun k hk=>(by rw[h3.cell,xI,eL css h2 i k qO hk,k1];rfl);exact⟨neg,A,n,c,A',n',c',AX,cx,⟨qa 0 qO,qa 1 qO,qa 2 qO,qa 3 qO,qa 4 qO,qa 5 qO⟩,k2,k3,k4⟩
def cM(ps:LQ)(x y:LN):Bool:=decide (nH (prQ ps x) (prQ ps y) x y<0)
def cF(ps:LQ)(ls:List Lb):Nat->Int
 |0=> -1
 |k+1=>match ls[k]? with
  |none=>cF ps ls k
  |some l=>if l.known&&!l.done&&(decide (cF ps ls k<0)||cM ps l.arcs ((ls[(cF ps ls k).toNat]?.map Lb.arcs).getD []))then(k:Int)else cF ps ls k
def cB(ps:LQ)(ls:List Lb):Int:=cF ps ls ls.length
theorem tK(ps:LQ)(ls:List Lb):∀k,cF ps ls k= -1\/(0<=cF ps ls k/\(cF ps ls k).toNat<k/\(cF ps ls k).toNat<ls.length)
 |0=>.inl rfl
 |k+1=>by
  have ih:=tK ps ls k;unfold cF
  split
  ·rcases ih with h|h
   ·exact .inl h
   ·exact .inr ⟨h.1,qO,h.2.2⟩
  ·rename_i l hl
   split
   ·have:=(yH.1 hl).1
    exact .inr ⟨qO,qO,qO⟩
   ·rcases ih with h|h
    ·exact .inl h
    ·exact .inr ⟨h.1,qO,h.2.2⟩
def SzL(ps:LQ)(ls:List Lb):Prop:=∀lb∈ls,SzQ (prQ ps lb.arcs) 268435456/\lb.arcs.length<=1000
theorem jziu(g:Nat)(ps:LQ)(ls:List Lb)w(h:dD w ps g ls)(hsz:SzL ps ls)(hl:ls.length<=1000):
  Calls prog 105 #[.s (sA g) ls.length ls.length] w fun e w'=>e=.returned (vI (cB ps ls))/\Ext w w':=by
 have H:=Hx h;have SZ:=Hx hsz;clear h hsz;go_enter func105,ntmps105;go_wp2;go_loopg [3,4,5,8] ls.length (fun m bt _ _ it wr=>∃k:Nat,ls.length-k=m/\k<=ls.length/\it=vI k/\bt=vI (cF ps ls k)/\Ext w wr);exact⟨0,rfl,yZ _,rfl,rfl,eR _⟩
 obtain⟨k,rfl,hk,rfl,rfl,hx⟩:=hrel;have EX:=Hx hx;have qJ:=tK ps ls k;have qk:=Hx (show cF ps ls (k+1)=match ls[k]? with
  |none=>cF ps ls k
  |some l=>if l.known&&!l.done&&(decide (cF ps ls k<0)||cM ps l.arcs ((ls[(cF ps ls k).toNat]?.map Lb.arcs).getD []))then(k:Int)else cF ps ls k from rfl)
 generalize hbb:cF ps ls k=b at*;have qU:=Hx hbb;clear hbb;clear hx;by_cases qM:k<ls.length;{obtain⟨lb,qh⟩:∃lb,ls[k]?=some lb:=⟨_,yG qM⟩;obtain⟨neg,A,n,c,A',n',c',AX,cx,⟨i0,i1,i2,i3,i4,i5⟩,hR,qz,qw⟩:=(H.o.K EX.o).at_ qh;have qa:=qk.o;rw[qh]at qa;have qe:=Hx qa;have qp:=Hx (SZ.o lb (yJ qh));have R:=Hx hR;have X:=Hx qw;clear qa hR qw qh qk;(go_upto_region 5 with fail);obtain⟨kn,dn,arcs⟩:=lb;simp only[]at i0 i1 i5 qz;obtain⟨bx,e0⟩:=bA wr #[.bool kn,.bool dn,.bool neg,.s A n c,.s A' n' c',.s AX arcs.length cx] 170;generalize wr.alloc (.cells #[.bool kn,.bool dn,.bool neg,.s A n c,.s A' n' c',.s AX arcs.length cx] 170)=W at*;have y0:=XW.cell _ _ _ bx.lt (bx.cell 0);have y1:=XW.cell _ _ _ bx.lt (bx.cell 1);have EW:=Hx (EX.o.tr e0);have E0:=Hx e0;have BX:=Hx bx;clear e0 bx i0 i1 i2 i3 i4 i5 EX;go_cut [32] (fun s wx=>s=.bool (kn&&!dn&&(decide (b<0)||cM ps arcs ((ls[b.toNat]?.map Lb.arcs).getD [])))/\Ext w wx);(case first=>cases kn;(case false=>refine dG qK qK ?_;(repeat (go_big_quiet_step (fail)));refine wpQuiet_nil ?_;rintro _ ⟨x,rfl⟩;go_wp2;go_meet;exact⟨rfl,EW.o.tr x.ext⟩);cases dn;(case true=>refine dG qK qK ?_;(repeat (go_big_quiet_step (fail)));refine wpQuiet_nil ?_;rintro _ ⟨x,rfl⟩;go_wp2;go_meet;exact⟨rfl,EW.o.tr x.ext⟩);(rcases qJ with hb|⟨hb0,hbk,hbl⟩);{subst hb;have qC:decide ((-1:Int)<0)=true:=rfl;refine dG qK qK ?_;(repeat (go_big_quiet_step (fail)));refine wpQuiet_nil ?_;rintro _ ⟨x,rfl⟩;go_wp2;go_meet;exact⟨rfl,EW.o.tr x.ext⟩};obtain⟨m,rfl⟩:∃m:Nat,b=(m:Int):=⟨b.toNat,qO⟩;rw[xL]at hbk hbl;obtain⟨lm,qi⟩:∃lm,ls[m]?=some lm:=⟨_,yG hbl⟩;have qn:=Hx (SZ.o lm (yJ qi));have HV:=Hx (show cM ps arcs ((ls[m]?.map Lb.arcs).getD [])=cM ps arcs lm.arcs by rw[qi];rfl);obtain⟨qj,A2,n2,c2,qA,qI,qT,qH,qB,⟨j0,j1,j2,j3,j4,j5⟩,qy,qQ,qg⟩:=(H.o.K EW.o).at_ qi;have qf:=(H.o.K EW.o).lt;have z0:=XW.cell _ _ _ qf j0;have z1:=XW.cell _ _ _ qf j1;have z2:=XW.cell _ _ _ qf j2;have z3:=XW.cell _ _ _ qf j3;have z4:=XW.cell _ _ _ qf j4;have z5:=XW.cell _ _ _ qf j5;have y2:=XW.cell _ _ _ BX.o.lt (BX.o.cell 2);have y3:=XW.cell _ _ _ BX.o.lt (BX.o.cell 3);have y4:=XW.cell _ _ _ BX.o.lt (BX.o.cell 4);have y5:=XW.cell _ _ _ BX.o.lt (BX.o.cell 5);have R2:=Hx qy;have X2:=Hx qg;have qY:(m:Int)<(ls.length:Int):=qO;have qX:(0:Int)<=(m:Int):=qO;have qC:decide ((m:Int)<0)=false:=qS;have qt:=R.o.lens qp.o.1;have qo:=R2.o.lens qn.o.1;clear qi qy qg j0 j1 j2 j3 j4 j5;refine dG qK qK ?_;(repeat (go_big_quiet_step ((go_at_call 109;exact Calls.ext_of (jzax _ _ neg _ _ qj A n c A' n' c' A2 n2 c2 qA qI qT AX qH cx qB (prQ ps arcs) (prQ ps lm.arcs) arcs lm.arcs _ (R.o.K (E0.o.tr (XW.ext _))) (R2.o.K (XW.ext _)) qt.1 qt.2 qo.1 qo.2 (X.o.rd.K (E0.o.tr (XW.ext _))) (X2.o.rd.K (XW.ext _)) (by have:=qp.o.2;simp only[]at this;omega) (by have:=qn.o.2;omega))))));refine wpQuiet_nil ?_;rintro _ ⟨x,rfl⟩;go_wp2;go_meet;refine⟨?_,EW.o.tr x.ext⟩;rw[xL,HV.o];rfl);obtain⟨rfl,qm⟩:=hcut;have qx:=Hx qm;clear qm y0 y1 EW E0 BX;have qa:=qe.o;simp only[]at qa;generalize (kn&&!dn&&(decide (b<0)||cM ps arcs ((ls[b.toNat]?.map Lb.arcs).getD [])))=cond at*;cases cond;(case false=>have HS:=Hx (show cF ps ls (k+1)=b by rw[qa];rfl);clear qa qe;go_wp2;go_roundg (ls.length-(k+1));exact⟨k+1,rfl,qO,by go_num,by rw[HS.o],qx.o⟩;omega);have HS:=Hx (show cF ps ls (k+1)=(k:Int) by rw[qa];rfl);clear qa qe;go_wp2;go_roundg (ls.length-(k+1));exact⟨k+1,rfl,qO,by go_num,by rw[HS.o],qx.o⟩;omega};have qV:k=ls.length:=qO;subst qV;go_wp2;go_ret;exact⟨by unfold cB;rw[qU.o];rfl,EX.o⟩
theorem SzQ.mono{q:Rat}{k m:Nat}(h:SzQ q k)(hm:k<=m):SzQ q m:=⟨yL h.1 (kQk bB hm),yL h.2 (kQk bB hm)⟩
theorem SzQ.zero:SzQ 0 1:=⟨qD,qD⟩
theorem SzQ.add{a b:Rat}{k m:Nat}(ha:SzQ a k)(hb:SzQ b m):SzQ (a+b) (k+m+1):=by
 have hd:a.den*b.den≠0:=kQx a.den_nz b.den_nz;have e:=Rat.add_def' a b;obtain⟨g,hg,e1,e2⟩:∃g:Nat,g≠0/\a.num*b.den+b.num*a.den=(a+b).num*g/\a.den*b.den=(a+b).den*g:=(by have hq:mkRat (a.num*b.den+b.num*a.den) (a.den*b.den)=⟨(a+b).num,(a+b).den,(a+b).den_nz,(a+b).reduced⟩:=e.symm;exact Rat.mkRat_num_den hd hq);have h1:1<=g:=qO;have hk:0<B32^k:=kQy bB;have hm:0<B32^m:=kQy bB;have p1:a.num.natAbs*b.den<B32^k*B32^m:=kZb ha.1 (kQe hb.2) hm;have p2:b.num.natAbs*a.den<B32^m*B32^k:=kZb hb.1 (kQe ha.2) hk;have p3:a.den*b.den<B32^k*B32^m:=kZb ha.2 (kQe hb.2) hm;have hB:B32^(k+m+1)=B32^k*B32^m*B32:=(by rw[vD,Nat.pow_add]);rw[vE (B32^m)]at p2;unfold SzQ;rw[hB];generalize B32^k*B32^m=Z at*;have hZ:2*Z<=Z*B32:=(by rw[vE];exact kQh _ qD);constructor;{(have q1:(a.num*b.den+b.num*a.den).natAbs=(a+b).num.natAbs*g:=by rw[e1,Int.natAbs_mul];rfl);have q2:(a.num*b.den+b.num*a.den).natAbs<=a.num.natAbs*b.den+b.num.natAbs*a.den:=(by refine yY (Int.natAbs_add_le _ _) ?_;rw[Int.natAbs_mul,Int.natAbs_mul];exact yX _);have q3:(a+b).num.natAbs*1<=(a+b).num.natAbs*g:=kQh _ h1;omega};have q3:(a+b).den*1<=(a+b).den*g:=kQh _ h1;omega
theorem SzQ.pr{ps:LQ}{P:Nat}(hP:1<=P)(h:∀q∈ps,SzQ q P)(arcs:LN):SzQ (prQ ps arcs) (1+arcs.length*(P+1)):=by
 have qa:∀(l:LN) (s:Rat) (k:Nat),SzQ s k->SzQ (l.foldl (fun s a=>s+ps[a]?.getD 0) s) (k+l.length*(P+1)):=(by intro l;(induction l with|nil=>intro s k hs;simpa using hs|cons a l ih=>intro s k hs;have h1:SzQ (ps[a]?.getD 0) P:=(by by_cases ha:a<ps.length;{rw[yG ha];exact h _ (xR ha)};rw[yI qO];exact SzQ.zero.mono hP);have:=ih _ _ (hs.add h1);rw[List.foldl_cons];refine this.mono ?_;rw[kQo,xP,xQ];omega));exact qa arcs 0 1 SzQ.zero
def dL(ls:List Lb)(n:Nat):LN:=(ls[n]?.map Lb.arcs).getD []
def dY(t:Tp)(down:List Bool)(ps:LQ)(d n:Nat)(ls:List Lb)(a:Nat):List Lb:=
 match ls[(aK t a).toNat]? with
 |none=>ls
 |some lm=>if lm.done||!dF t down a d then ls else if !lm.known||cM ps (dL ls n++[a]) lm.arcs then ls.set (aK t a).toNat ⟨true,false,dL ls n++[a]⟩else ls
def eI(ls:List Lb)(n:Nat):List Lb:=match ls[n]? with
 |none=>ls
 |some l=>ls.set n ⟨l.known,true,l.arcs⟩
def cK(ls:List Lb):Nat:=ls.countP (fun l=>!l.done)
def iG(t:Tp)(down:List Bool)(ps:LQ)(d:Nat):Nat->List Lb->Option (LN)
 |0,_=>none
 |f+1,ls=>if cB ps ls<0 then none else if(cB ps ls).toNat=d then some (dL ls (cB ps ls).toNat)else
  iG t down ps d f ((aL t (cB ps ls).toNat).foldl (dY t down ps d (cB ps ls).toNat) (eI ls (cB ps ls).toNat))
def cZ(N s:Nat):List Lb:=(List.replicate N ⟨false,false,[]⟩).set s ⟨true,false,[]⟩
def fF(t:Tp)(down:List Bool)(ps:LQ)(s d:Nat):Option (LN):=iG t down ps d (t.nodes.toNat+1) (cZ t.nodes.toNat s)
theorem nI(ps:LQ)(ls:List Lb):∀k,0<=cF ps ls k->∃l,ls[(cF ps ls k).toNat]?=some l/\l.known=true/\l.done=false
 |0,h=>by simp[cF]at h
 |k+1,h=>by
  have ih:=nI ps ls k;unfold cF at h⊢
  split
  ·rename_i hl
   rw[hl]at h;exact ih h
  ·rename_i l hl
   rw[hl]at h;simp only[]at h
   split
   ·rename_i hc
    simp only[vM,Bool.not_eq_true']at hc;refine⟨l,by rw[xL];exact hl,hc.1.1,hc.1.2⟩
   ·rename_i hc
    rw[qF hc]at h;exact ih h
theorem jzay{ls:List Lb}{m:Nat}{lm l:Lb}(h:ls[m]?=some lm)(hd:lm.done=false)(hl:l.done=false):cK (ls.set m l)=cK ls:=by
 unfold cK;(induction ls generalizing m with|nil=>simp at h|cons x ls ih=>(cases m with|zero=>simp at h;subst h;simp[List.countP_cons,hd,hl]|succ m=>simp at h;simp[List.countP_cons,ih h]))
theorem jzaz{ls:List Lb}{n:Nat}{l:Lb}(h:ls[n]?=some l)(hd:l.done=false):cK (eI ls n)+1=cK ls:=by
 unfold eI;rw[h];simp only[];unfold cK;(induction ls generalizing n with|nil=>simp at h|cons x ls ih=>(cases n with|zero=>simp at h;subst h;simp[List.countP_cons,hd]|succ n=>simp at h;have:=ih h;simp[List.countP_cons];omega))
theorem jza0 t(down:List Bool)(ps:LQ)(d n:Nat)(ls:List Lb)(a:Nat):cK (dY t down ps d n ls a)=cK ls:=by
 unfold dY;split;{rfl};rename_i lm hlm;split;{rfl};rename_i hc;simp only[Bool.or_eq_true,not_or,Bool.not_eq_true]at hc;split;{exact jzay hlm hc.1 rfl};rfl
def nJ(ls:List Lb):Prop:=∀l∈ls,l.arcs.length+cK ls<=ls.length
theorem pR(ls:List Lb):cK ls<=ls.length:=List.countP_le_length
theorem RdT.other{w w'}{t t':TypeId}{A}{xs:List Value}{g:Nat}{cs':Array Value}(h:RdT w t A xs)(hg:w.grownBy w' (some g))(hb:Blk w g t' cs')(hne:t≠t'):RdT w' t A xs:=
 h.grown hg (fun hx ad had e=>by
  obtain⟨b,o,cs,fr,e1,e2,_⟩:=h hx;rw[had]at e1;injection e1 with e1
  subst e1;injection e with e
  subst e;unfold Blk at hb;rw[e2]at hb;injection hb with hb
  injection hb with _ hb
  exact hne hb)
theorem aE.other{w w'}{A}{n c N g:Nat}{t':TypeId}{cs':Array Value}(h:aE w A n c N)(hg:w.grownBy w' (some g))(hb:Blk w g t' cs')(hne:196≠t'):aE w' A n c N:=by
 obtain⟨ds,h1,h2,h3,h4,h5⟩:=h;exact⟨ds,h1,h2,h3,h4,h5.other hg hb hne⟩
theorem aB.other{w w'}{neg:Bool}{A}{n c:Nat}{A'}{n' c':Nat}{q:Rat}{g:Nat}{t':TypeId}{cs':Array Value}(h:aB w neg A n c A' n' c' q)(hg:w.grownBy w' (some g))(hb:Blk w g t' cs')(hne:196≠t'):aB w' neg A n c A' n' c' q:=
 ⟨h.1,h.2.1.other hg hb hne,h.2.2.other hg hb hne⟩
theorem LbR.other{w w'}{ps:LQ}{cs:List Value}{lb:Lb}{g:Nat}{cs':Array Value}(h:LbR w ps cs lb)(hg:w.grownBy w' (some g))(hb:Blk w g 170 cs'):LbR w' ps cs lb:=by
 obtain⟨neg,A,n,c,A',n',c',AX,cx,e,h1,h2,h3⟩:=h;exact⟨neg,A,n,c,A',n',c',AX,cx,e,h1.other hg hb qD,h2,h3.other hg hb qD⟩
theorem LL.other{w w'}{gl N g:Nat}{X:Nat->LN}{t':TypeId}{cs':Array Value}(h:LL w gl N X)(hg:w.grownBy w' (some g))(hb:Blk w g t' cs')(h1:42≠t')(h2:3≠t'):LL w' gl N X:=by
 obtain⟨V,k1,k2⟩:=h;refine⟨V,(hg.block gl k1.lt (fun e=>k1.ne_ hb h1 (by injection e))).trans k1,fun i hi=>?_⟩;obtain⟨A,c,k3,k4,k5⟩:=k2 i hi;exact⟨A,c,k3,k4,k5.other hg hb h2⟩
theorem nL{m:Nat}:∀(css:List (List Value)),(∀cs∈css,cs.length=m)->∀(i k:Nat) (v:Value),i<css.length->k<m->css.flatten.set (i*m+k) v=(css.set i ((css[i]?.getD []).set k v)).flatten
 | [],_,i,k,v,hi,_=>by simp at hi
 |cs::css,h,0,k,v,_,hk=>by
  rw[Nat.zero_mul,kQu,List.flatten_cons,List.set_append_left _ _ (by rw[h cs qS];exact hk)];rfl
 |cs::css,h,i+1,k,v,hi,hk=>by
  have hl:=h cs qS;rw[List.flatten_cons,List.set_append_right _ _ (by rw[hl,xP,xQ];omega),hl,show(i+1)*m+k-m=i*m+k by rw[xP,xQ];omega];rw[nL css (fun c hc=>h c (by simp[hc])) i k v (by simpa using hi) hk];simp
theorem dD.upd{w w'}{ps:LQ}{g m:Nat}{ls:List Lb}{lb:Lb}{cs:List Value}{css:List (List Value)}(h1:css.length=ls.length)(h2:∀cs∈css,cs.length=6)(h3:Blk w g 170 css.flatten.toArray)(h4:∀(i:Nat) (lb:Lb),ls[i]?=some lb->∃cs,css[i]?=some cs/\LbR w ps cs lb)
  (hg:w.grownBy w' (some g)) (hb:Blk w' g 170 (css.set m cs).flatten.toArray) (hc:cs.length=6) (hl:LbR w' ps cs lb) (hm:m<ls.length):dD w' ps g (ls.set m lb):=by
 refine⟨css.set m cs,by simp[h1],fun c hcc=>?_,hb,fun i l hi=>?_⟩;{(rcases xE hcc with h|h);{exact h2 c h};rw[h];exact hc};by_cases e:m=i;{subst e;(rw[yM hm]at hi;injection hi with hi);subst hi;exact⟨cs,by rw[yM qO],hl⟩};rw[vN e]at hi;obtain⟨c,k1,k2⟩:=h4 i l hi;exact⟨c,by rw[vN e];exact k1,k2.other hg h3⟩
theorem dD.mark{w}{ps:LQ}{g n:Nat}{ls:List Lb}{l:Lb}(h:dD w ps g ls)(hl:ls[n]?=some l):dD (w.setCell (aD g (n*6+1)) (.bool true)) ps g (eI ls n):=by
 have hn:=(yH.1 hl).1;obtain⟨css,h1,h2,h3,h4⟩:=h;obtain⟨cs,k1,k2⟩:=h4 n l hl;have hg:=aM w g (n*6+1) (.bool true);have qa:cs.length=6:=h2 cs (yJ k1);unfold eI;rw[hl];refine dD.upd (cs:=cs.set 1 (.bool true)) h1 h2 h3 h4 hg ?_ (by simp[qa]) ?_ hn;{have:=h3.sT (n*6+1) (.bool true);rw[yD,nL css h2 n 1 _ qO qO,k1]at this;exact this};have:=k2.other hg h3;obtain⟨neg,A,n,c,A',n',c',AX,cx,e,q1,q2,q3⟩:=this;exact⟨neg,A,n,c,A',n',c',AX,cx,by rw[e];rfl,q1,q2,q3⟩
theorem jziv(cs:List Value)(h:cs.length=6):∃a0 a1 a2 a3 a4 a5,cs=[a0,a1,a2,a3,a4,a5]:=by
 rcases cs with _|⟨a0,_|⟨a1,_|⟨a2,_|⟨a3,_|⟨a4,_|⟨a5,_|⟨a6,r⟩⟩⟩⟩⟩⟩⟩
 all_goals first|(simp at h;done)|exact⟨_,_,_,_,_,_,rfl⟩
theorem mH(css:List (List Value))(h2:∀cs∈css,cs.length=6)(m:Nat)(hml:m<css.length)(c1:List Value)(k:Nat)(v:Value)(hc:c1.length=6)(hk:k<6):((css.set m c1).flatten).set (m*6+k) v=(css.set m (c1.set k v)).flatten:=by
 have qa:∀c∈css.set m c1,c.length=6:=fun c hcc=>(by (rcases xE hcc with h|h);{exact h2 c h};rw[h];exact hc);have h:=nL (css.set m c1) qa m k v (by rw[yV];exact hml) hk;rw[yM hml,kQ1,List.set_set]at h;exact h
theorem jziw(css:List (List Value))(h2:∀cs∈css,cs.length=6)(m:Nat)(hml:m<css.length){a0 a1 a2 a3 a4 a5:Value}(hcs:css[m]?=some [a0,a1,a2,a3,a4,a5])(v0 v1 v2 v3 v4 v5:Value):
  (((((css.flatten.set (m*6+0) v0).set (m*6+1) v1).set (m*6+2) v2).set (m*6+3) v3).set (m*6+4) v4).set (m*6+5) v5=(css.set m [v0,v1,v2,v3,v4,v5]).flatten:=by
 have e0:css.flatten=(css.set m [a0,a1,a2,a3,a4,a5]).flatten:=(by congr 1;apply uK;intro i;rw[kZs];split;{rename_i e;subst e;rw[hcs]};rfl);rw[e0,mH css h2 m hml _ 0 v0 rfl qO,mH css h2 m hml _ 1 v1 rfl qO,mH css h2 m hml _ 2 v2 rfl qO,mH css h2 m hml _ 3 v3 rfl qO,mH css h2 m hml _ 4 v4 rfl qO,mH css h2 m hml _ 5 v5 rfl qO];rfl
theorem dD.put{w}{ps:LQ}{g m:Nat}{ls:List Lb}{lb:Lb}{v0 v1 v2 v3 v4 v5:Value}(h:dD w ps g ls)(hm:m<ls.length)(hl:LbR w ps [v0,v1,v2,v3,v4,v5] lb):
  dD ((((((w.setCell (aD g (m*6)) v0).setCell (aD g (m*6+1)) v1).setCell (aD g (m*6+2)) v2).setCell (aD g (m*6+3)) v3).setCell (aD g (m*6+4)) v4).setCell (aD g (m*6+5)) v5) ps g (ls.set m lb):=by
 obtain⟨css,h1,h2,h3,h4⟩:=h;have g0:=aM w g (m*6) v0;have g1:=g0.trans (aM _ g (m*6+1) v1);have g2:=g1.trans (aM _ g (m*6+2) v2);have g3:=g2.trans (aM _ g (m*6+3) v3);have g4:=g3.trans (aM _ g (m*6+4) v4);have g5:=g4.trans (aM _ g (m*6+5) v5);refine dD.upd (cs:=[v0,v1,v2,v3,v4,v5]) h1 h2 h3 h4 g5 ?_ rfl (hl.other g5 h3) hm;have b:=(((((h3.sT (m*6+0) v0).sT (m*6+1) v1).sT (m*6+2) v2).sT (m*6+3) v3).sT (m*6+4) v4).sT (m*6+5) v5;have qe:m<css.length:=qO;obtain⟨cs,qf⟩:∃cs,css[m]?=some cs:=⟨_,yG qe⟩;have qg:cs.length=6:=h2 cs (yJ qf);obtain⟨a0,a1,a2,a3,a4,a5,rfl⟩:∃a0 a1 a2 a3 a4 a5,cs=[a0,a1,a2,a3,a4,a5]:=jziv cs qg;have qa:=jziw css h2 m qe qf v0 v1 v2 v3 v4 v5;simp only[yD]at b;rw[qa]at b;exact b
theorem Tryz.info104:(prog.info? 170).map (fun i=>(i.zero,i.size,i.bytes))=some (some (.agg rW),6,88):=by kernel_rfl
theorem jzix(n:Nat)(hn:n<=1000)w:
  (Instr.makeSlice 168 (vI (n:Int)) (vI (n:Int))).run prog w=.ok (.s (sA w.heap.size) n n) (w.alloc (.cells (madeCells rW (n*6)) 170)):=by
 obtain⟨i,hi,hz,hs,hb⟩:=info_parts Tryz.info104;have qa:(i.bytes:Int)*(n:Int)<=281474976710656:=(by rw[hb];omega);have hr:=run_make (P:=prog) w 168 170 i _ underlying168 hi hz .i64 .i64 n n qO qO qa qO;simp only[xL]at hr;rw[hs]at hr;exact hr
def zeroCells:List Value:=[bF,bF,bF,zN,zN,zN]
theorem tL(N:Nat):madeCells rW (N*6)=(List.replicate N zeroCells).flatten.toArray:=by
 apply Array.ext';apply uK;intro i;have qa:∀cs∈List.replicate N zeroCells,cs.length=6:=fun cs h=>(by rw[uF h];rfl);have hl:=fZ _ qa;rw[xC]at hl;by_cases hi:i<N*6;{have h1:=eL _ qa (i/6) (i%6) (by rw[xC];omega) qO;rw[show i/6*6+i%6=i by omega,xB,qE qO,kQ1]at h1;simp only[];rw[h1];have h2:(madeCells rW (N*6)).toList[i]?=some ((rW:Array Value)[i%6]!):=(by simp[madeCells,hi]);rw[h2];have h6:i%6=0\/i%6=1\/i%6=2\/i%6=3\/i%6=4\/i%6=5:=qO;rcases h6 with e|e|e|e|e|e <;> rw[e] <;> rfl};rw[yI (by simp[madeCells];omega),yI (by simp only[];omega)]
theorem eJ w:aB w false none 0 0 none 0 0 0:=⟨qD,aE.zero _ _ _,aE.zero _ _ _⟩
theorem LbR.zero w(ps:LQ):LbR w ps zeroCells ⟨false,false,[]⟩:=⟨false,none,0,0,none,0,0,none,0,rfl,eJ w,yX _,RdT.nil _ _ _⟩
theorem jziy(w:World)(ps:LQ)(N n:Nat)(hn:n<N):
  dD (w.alloc (.cells ((madeCells rW (N*6)).setIfInBounds (n*6) (.bool true)) 170)) ps w.heap.size (cZ N n):=by
 have qa:∀cs∈List.replicate N zeroCells,cs.length=6:=fun cs h=>(by rw[uF h];rfl);have hf:=nL _ qa n 0 (.bool true) (by rw[xC];exact hn) qO;rw[kQ3,xB,qE hn,kQ1]at hf;rw[tL,yD,hf];refine⟨_,by simp[cZ],fun cs h=>?_,eN _ _ _,fun i lb hl=>?_⟩;{(rcases xE h with h|h);{exact qa cs h};rw[h];rfl};unfold cZ at hl;by_cases e:n=i;{subst e;(rw[yM (by simpa using hn)]at hl;injection hl with hl);subst hl;exact⟨_,yM (by simpa using hn),false,none,0,0,none,0,0,none,0,rfl,eJ _,yX _,RdT.nil _ _ _⟩};rw[vN e,xB]at hl;split at hl;{rename_i hi;(injection hl with hl);subst hl;exact⟨zeroCells,by rw[vN e,xB,qE hi],LbR.zero _ _⟩};cases hl
def ArF(w:World)(g B:Nat):Prop:=∀(i:Nat) (AX:OA) (n cx:Nat),w.cell? (aD g (i*6+5))=some (.s AX n cx)->∀p,AX=some p->B<=p.block
theorem ArF.K{w w'}{g B:Nat}(h:ArF w g B)(hg:g<w.heap.size)(hx:Ext w w'):ArF w' g B:=fun i AX n cx hc=>h i AX n cx ((hx.cell (p:=(aD g (i*6+5))) hg).symm.trans hc)
theorem ArF.mark{w}{ps:LQ}{g B n:Nat}{ls:List Lb}(h:ArF w g B)(hl:dD w ps g ls)(u:Value):ArF (w.setCell (aD g (n*6+1)) u) g B:=fun i AX m cx hc=>by
 obtain⟨css,_,_,h3,_⟩:=hl;refine h i AX m cx ?_;rw[(h3.sT (n*6+1) u).cell,xH qO, <-h3.cell]at hc;exact hc
theorem ArF.put{w}{ps:LQ}{g B m:Nat}{ls:List Lb}(h:ArF w g B)(hl:dD w ps g ls)(v0 v1 v2 v3 v4:Value){AX:OA}{n cx:Nat}(hA:∀p,AX=some p->B<=p.block):
  ArF ((((((w.setCell (aD g (m*6)) v0).setCell (aD g (m*6+1)) v1).setCell (aD g (m*6+2)) v2).setCell (aD g (m*6+3)) v3).setCell (aD g (m*6+4)) v4).setCell (aD g (m*6+5)) (.s AX n cx)) g B:=fun i AX' n' cx' hc=>by
 obtain⟨css,_,_,h3,_⟩:=hl;have b:=(((((h3.sT (m*6) v0).sT (m*6+1) v1).sT (m*6+2) v2).sT (m*6+3) v3).sT (m*6+4) v4).sT (m*6+5) (.s AX n cx);rw[b.cell]at hc;by_cases e:i=m;{subst e;rw[Array.getElem?_setIfInBounds_self]at hc;split at hc;{(injection hc with hc);(injection hc with hc _ _);exact fun p hp=>hA p (hc.trans hp)};{cases hc}};{rw[xH qO,xH qO,xH qO,xH qO,xH qO,xH qO, <-h3.cell]at hc;exact h i AX' n' cx' hc}
theorem ArF.made(w:World)(N n B:Nat):ArF (w.alloc (.cells ((madeCells rW (N*6)).setIfInBounds (n*6) (.bool true)) 170)) w.heap.size B:=fun i AX m cx hc p hp=>by
 have qa:∀cs∈List.replicate N zeroCells,cs.length=6:=fun cs h=>(by rw[uF h];rfl);rw[(eN w _ _).cell,xH qO,tL,xI]at hc;by_cases hi:i<N;{rw[eL _ qa i 5 (by rw[xC];exact hi) qO,xB,qE hi]at hc;(injection hc with hc);(injection hc with hc);rw[<-hc]at hp;cases hp};{have hl:=fZ _ qa;rw[xC]at hl;rw[yI qO]at hc;cases hc}
structure iH(w wr:World)(t:Tp)(AO:OA)(co:Nat)(AL:OA)(cl:Nat)(ps:LQ)(g gll N:Nat)(ls:List Lb):Prop where
 tt:Blk wr w.heap.size 25 #[vI t.nodes,.s AO t.over.length co,.s AL t.links.length cl]
 rr:Blk wr (w.heap.size+1) 33 rV
 lab:dD wr ps g ls
 len:ls.length=N
 ok:nJ ls
 ll:LL wr gll N (aL t)
 gg:w.heap.size+2<=g
 ext:Ext w wr
 fa:ArF wr g w.heap.size
theorem iH.K{w wr w'}{t}{AO}{co:Nat}{AL}{cl:Nat}{ps:LQ}{g gll N:Nat}{ls:List Lb}(h:iH w wr t AO co AL cl ps g gll N ls)(hx:Ext wr w'):iH w w' t AO co AL cl ps g gll N ls:=
 ⟨h.tt.K hx,h.rr.K hx,h.lab.K hx,h.len,h.ok,h.ll.K hx,h.gg,h.ext.tr hx,h.fa.K h.lab.lt hx⟩
theorem iH.turn{w wr w'}{t}{AO}{co:Nat}{AL}{cl:Nat}{ps:LQ}{g gll N:Nat}{ls ls':List Lb}(h:iH w wr t AO co AL cl ps g gll N ls)(hg:wr.grownBy w' (some g))(hl:dD w' ps g ls')(hlen:ls'.length=N)(hok:nJ ls')(hfa:ArF w' g w.heap.size):iH w w' t AO co AL cl ps g gll N ls':=by
 obtain⟨css,h1,h2,h3,h4⟩:=h.lab;have qa:=h.gg;exact⟨(hg.block _ h.tt.lt (fun e=>by injection e with e;omega)).trans h.tt,(hg.block _ h.rr.lt (fun e=>by injection e with e;omega)).trans h.rr,hl,hlen,hok,h.ll.other hg h3 qD qD,qa,Below.grown h.ext hg h.ext.size (fun k hk=>by injection hk with hk;omega),hfa⟩
theorem jza1{ps:LQ}{P N:Nat}{ls:List Lb}(hP:1<=P)(hP2:P<=1000000)(h:∀q∈ps,SzQ q P)(hok:nJ ls)(hl:ls.length=N)(hN:N<=64):SzL ps ls:=fun lb hlb=>by
 have h1:=hok lb hlb;refine⟨(SzQ.pr hP h lb.arcs).mono ?_,qO⟩;have h2:lb.arcs.length*(P+1)<=64*1000001:=kQq qO qO;omega
theorem RdT.gK{w w'}{t t':TypeId}{A}{xs:List Value}{row:Option Nat}(h:RdT w t A xs)(hg:w.grownBy w' row)(hr:∀k,row=some k->∃cs fr,w.heap[k]?=some (.cells cs t' fr))(hne:t≠t'):RdT w' t A xs:=
 h.grown hg (fun hx ad had e=>by
  obtain⟨b,o,cs,fr,e1,e2,_⟩:=h hx;rw[had]at e1;injection e1 with e1
  subst e1;obtain⟨c9,f9,e9⟩:=hr _ e.symm;rw[e2]at e9;injection e9 with e9
  injection e9 with _ e9
  exact hne e9)
theorem aB.gK{w w'}{t':TypeId}{neg:Bool}{A}{n c:Nat}{A'}{n' c':Nat}{q:Rat}{row:Option Nat}(h:aB w neg A n c A' n' c' q)(hg:w.grownBy w' row)(hr:∀k,row=some k->∃cs fr,w.heap[k]?=some (.cells cs t' fr))(hne:196≠t'):aB w' neg A n c A' n' c' q:=by
 obtain⟨h1,⟨ds,a1,a2,a3,a4,a5⟩,⟨es,b1,b2,b3,b4,b5⟩⟩:=h;exact⟨h1,⟨ds,a1,a2,a3,a4,a5.gK hg hr hne⟩,⟨es,b1,b2,b3,b4,b5.gK hg hr hne⟩⟩
theorem Blk.gK{w w'}{t t':TypeId}{g:Nat}{cs:Array Value}{row:Option Nat}(h:Blk w g t cs)(hg:w.grownBy w' row)(hr:∀k,row=some k->∃cs fr,w.heap[k]?=some (.cells cs t' fr))(hne:t≠t'):Blk w' g t cs:=
 (hg.block g h.lt (fun e=>by
  obtain⟨c9,f9,e9⟩:=hr _ e.symm;unfold Blk at h;rw[h]at e9;injection e9 with e9
  injection e9 with _ e9
  exact hne e9)).trans h
theorem jza2 AX(cx:Nat)(l:LN)w(hq:RdT w 3 AX (ints l))(hl:l.length<=1000):
  Calls prog 108 #[.s AX l.length cx] w fun e w'=>∃v,e=.returned v/\w'.ownsRow w.heap.size 3 1 v l.length (ints l)/\Ext w w':=by
 (obtain⟨ti,hi,qi,qg,qh⟩:=info_parts Tryz.info3;cases AX with|none=>have hn:l=[]:=(by (cases l with|nil=>rfl|cons a l=>obtain⟨_,_,_,_,e,_⟩:=hq (by simp[ints]);cases e));subst hn;refine(Tryz.slices_Clone_nil 0 cx w).mono ?_;rintro e w' ⟨rfl,rfl⟩;exact⟨_,rfl,World.ownsRow_nil _ _ _ _,eR _⟩|some ad=>by_cases qf:l=[];{subst qf;refine(Tryz.slices_Clone_int_zero ad cx w).mono ?_;rintro e w' ⟨v',rfl,qa,_,qe⟩;exact⟨v',rfl,qa,qe⟩};obtain⟨b,o,cs,fr,e,hb,hc⟩:=hq (by simpa [ints]using qf);injection e with e;subst e;refine(Tryz.slices_Clone ti (vI 0) 1 8 hi qi qg qh rfl qD (fun w=>by simp[Go.sizeOf,typeInfo,hi,qg]) b o l.length cx (ints l) w (by simp[ints]) (by unfold maxLen;omega) qO ?_ (mE _)).mono ?_;{intro j u hj;have qj:=(yH.1 hj).1;rw[cell_of_row w b (o+j) cs _ fr hb,hc j qj];exact hj};rintro e w' ⟨v',rfl,qa,_,qe⟩;exact⟨v',rfl,qa,qe⟩)
theorem jza3(w:World)(g m:Nat)(v0 v1 v2 v3 v4 v5:Value):w.grownBy ((((((w.setCell (aD g (m*6)) v0).setCell (aD g (m*6+1)) v1).setCell (aD g (m*6+2)) v2).setCell (aD g (m*6+3)) v3).setCell (aD g (m*6+4)) v4).setCell (aD g (m*6+5)) v5) (some g):=
 (((((aM w g (m*6) v0).trans (aM _ g (m*6+1) v1)).trans (aM _ g (m*6+2) v2)).trans (aM _ g (m*6+3) v3)).trans (aM _ g (m*6+4) v4)).trans (aM _ g (m*6+5) v5)
theorem jza4{w:World}{p:Addr}{v:Value}(h:w.cell? p=some v):w.drew.cell? p=some v:=h
theorem jziz{w}{g:Nat}{a:Int}(h:Blk w g 3 #[vI a]):Rd w (sA g) [vI a]:=(RdT.of_blk h rfl).rd
def RdN(B:Nat)(w:World)(A:OA)(xs:List Value):Prop:=RdT w 3 A xs/\∀p,A=some p->B<=p.block
theorem jzi0{w:World}{B g c a:Nat}{l:LN}(h:w.ownsRow B 3 1 (.s (sA g) (l.length+1) c) (l.length+1) (ints l++[vI (a:Int)])):RdN B w (sA g) (ints (l++[a])):=by
 obtain⟨A',c',q1,q2,q3⟩:=iE (l:=l++[a]) (by rw[kU];exact h) qS;injection q1 with q1 _ q4;subst q1 q4;exact⟨q3,fun p hp=>by injection hp with hp;rw[<-hp];exact(h.lt g rfl).1⟩
def nO(w:World)(ps:LQ)(arcs:LN)(p:Value)(wx:World):Prop:=
 ∃(gl:Nat) (neg:Bool) (A:OA) (n c:Nat) (A':OA) (n' c':Nat) (AX:OA) (cx:Nat),p=.pointer (sA gl)/\Blk wx gl 170 #[.bool true,bF,.bool neg,.s A n c,.s A' n' c',.s AX arcs.length cx]/\aB wx neg A n c A' n' c' (prQ ps arcs)/\arcs.length<=cx/\RdN w.heap.size wx AX (ints arcs)/\w.heap.size<=gl/\Ext w wx
theorem jzi1{W w:World}{ps:LQ}{arcs:LN}{neg:Bool}{A}{n c:Nat}{A'}{n' c':Nat}{AX}{cx k:Nat}(hk:arcs.length=k)(hR:aB w neg A n c A' n' c' (prQ ps arcs))(hc:arcs.length<=cx)(hX:RdN W.heap.size w AX (ints arcs))(hx:Ext W w):
  nO W ps arcs (.pointer (sA w.heap.size)) (w.alloc (.cells #[.bool true,bF,.bool neg,.s A n c,.s A' n' c',.s AX k cx] 170)):=by
 subst hk;exact⟨w.heap.size,neg,A,n,c,A',n',c',AX,cx,rfl,eN _ _ _,hR.K ((eR w).alloc _),hc,⟨hX.1.K ((eR w).alloc _),hX.2⟩,hx.size,hx.alloc _⟩
theorem jzi2{W w:World}{ps:LQ}{arcs:LN}{neg:Bool}{A}{n c:Nat}{A'}{n' c':Nat}{AX}{cx gl k:Nat}{z0 z1 z2 z3 z4 z5:Value}(hk:arcs.length=k)(hb:Blk w gl 170 #[z0,z1,z2,z3,z4,z5])(hR:aB w neg A n c A' n' c' (prQ ps arcs))(hc:arcs.length<=cx)(hX:RdN W.heap.size w AX (ints arcs))(hg:W.heap.size<=gl)(hx:Ext W w):
  nO W ps arcs (.pointer (sA gl)) ((((((w.setCell (aD gl 0) (.bool true)).setCell (aD gl 1) bF).setCell (aD gl 2) (.bool neg)).setCell (aD gl 3) (.s A n c)).setCell (aD gl 4) (.s A' n' c')).setCell (aD gl 5) (.s AX k cx)):=by
 subst hk;have b0:=hb.sT 0 (.bool true);have b1:=b0.sT 1 bF;have b2:=b1.sT 2 (.bool neg);have b3:=b2.sT 3 (.s A n c);have b4:=b3.sT 4 (.s A' n' c');have b5:=b4.sT 5 (.s AX arcs.length cx);refine⟨gl,neg,A,n,c,A',n',c',AX,cx,rfl,b5,?_,hc,?_,hg,?_⟩;{exact(((((hR.sT (p:=(aD gl 0)) hb qD _).sT (p:=(aD gl 1)) b0 qD _).sT (p:=(aD gl 2)) b1 qD _).sT (p:=(aD gl 3)) b2 qD _).sT (p:=(aD gl 4)) b3 qD _).sT (p:=(aD gl 5)) b4 qD _};{refine⟨?_,hX.2⟩;exact(((((hX.1.sT (p:=(aD gl 0)) hb qD _).sT (p:=(aD gl 1)) b0 qD _).sT (p:=(aD gl 2)) b1 qD _).sT (p:=(aD gl 3)) b2 qD _).sT (p:=(aD gl 4)) b3 qD _).sT (p:=(aD gl 5)) b4 qD _};exact(((((hx.sT (p:=(aD gl 0)) hg _).sT (p:=(aD gl 1)) hg _).sT (p:=(aD gl 2)) hg _).sT (p:=(aD gl 3)) hg _).sT (p:=(aD gl 4)) hg _).sT (p:=(aD gl 5)) hg _
theorem jzi3(w:World)(g:Nat)(a b c:Value):w.grownBy (((w.setCell (aD g 0) a).setCell (aD g 1) b).setCell (aD g 2) c) (some g):=
 ((aM w g 0 a).trans (aM _ g 1 b)).trans (aM _ g 2 c)
end Go.Proofs.YtfeeacaofjpkaaaGreatDoor
namespace Go.Proofs.YtfeeacaofjpkaaaGreatDoor
open Go.Proofs.Tryz
open Go.RowKit Go.Sort
theorem jzi4{w:World}{B n:Nat}{e:TypeId}{v:Value}{xs:List Value}(h:w.ownsRow B e 1 v n xs):∃(A:OA) (c:Nat),v=.s A n c/\n<=c/\RdT w e A xs:=by
 (obtain⟨h1,h2⟩:=h;rw[Nat.mul_one]at h1;rcases h2 with⟨h3,h4⟩|⟨g,cap,cur,h3,_,h5,h6,_,_,h9⟩);{subst h4;obtain rfl:xs=[]:=kQz h1;exact⟨none,0,h3,yX _,RdT.nil _ _ _⟩};refine⟨_,cap,h3,h6,fun _=>⟨g,0,cur,(0,0),rfl,h5,fun i hi=>?_⟩⟩;rw[Nat.mul_one]at h9;rw[kQu, <-h9,xG,qE qO];simp
theorem tM(M i:Nat):(UInt8.ofNat (48+M/10^i%10)).toNat=48+M/10^i%10:=by
 have:M/10^i%10<10:=xT _ qD;rw[UInt8.toNat_ofNat'];omega
theorem dH{w W:World}{nb:Bool}{A A'}{n c n' c' g:Nat}{q:Rat}{cs:Array Value}(h:aB W nb A n c A' n' c' q)(hb:Blk W g 33 cs)(hg:w.heap.size<=g)(hx:Ext w W):
  aB (((W.setCell (aD g 0) (.bool nb)).setCell (aD g 1) (.s A n c)).setCell (aD g 2) (.s A' n' c')) nb A n c A' n' c' q/\Ext w (((W.setCell (aD g 0) (.bool nb)).setCell (aD g 1) (.s A n c)).setCell (aD g 2) (.s A' n' c')):=
 ⟨h.other (jzi3 W g _ _ _) hb qD,((hx.sT (p:=(aD g 0)) hg _).sT (p:=(aD g 1)) hg _).sT (p:=(aD g 2)) hg _⟩
end Go.Proofs.YtfeeacaofjpkaaaGreatDoor
namespace Go.Proofs.YtfeeacaofjpkaaaGreatDoor
open Go.Proofs.Tryz
open Go.RowKit
theorem jza5(a b:Rat)(h:b≠0):a/b=mkQ (decide (a.num<0) !=decide (b.num<0)) (a.num.natAbs*b.den) (b.num.natAbs*a.den):=by
 have hn:b.num≠0:=fun e=>h (Rat.num_eq_zero.1 e);have h1:(b⁻¹).num.natAbs=b.den:=(by rw[Rat.num_inv,Int.natAbs_mul,Int.natAbs_sign_of_ne_zero hn];simp);have h2:(b⁻¹).den=b.num.natAbs:=(by rw[Rat.den_inv,qF hn]);have h3:decide ((b⁻¹).num<0)=decide (b.num<0):=(by (rw[Rat.num_inv];have hd:=b.den_pos;rcases Int.lt_or_gt_of_ne hn with x|x);{rw[Int.sign_eq_neg_one_of_neg x];simp[x];omega};rw[Int.sign_eq_one_of_pos x];simp;omega);rw[Rat.div_def,tJ,h1,h2,h3,vE a.den]
theorem jzi5(q:Rat)(h:q≠0):(!decide (q.num<0))=decide ((-q).num<0):=by
 have hn:q.num≠0:=fun e=>h (Rat.num_eq_zero.1 e);have:(-q).num= -q.num:=rfl;rw[this];rcases Int.lt_or_gt_of_ne hn with x|x
 ·rw[yO x,yP qO];rfl
 rw[yP qO,yO qO];rfl
theorem aB.neg{w}{neg:Bool}{A}{n c:Nat}{A'}{n' c':Nat}{q:Rat}(h:aB w neg A n c A' n' c' q)(h0:q≠0):aB w (!neg) A n c A' n' c' (-q):=by
 refine⟨?_,?_,h.2.2⟩;{rw[h.1];exact jzi5 q h0};have:(-q).num.natAbs=q.num.natAbs:=(by show(-(q.num)).natAbs=_;omega);rw[this];exact h.2.1
theorem jzi6(na:Bool)A1(n1 c1:Nat)A1'(n1' c1':Nat)(a:Rat)w(ha:aB w na A1 n1 c1 A1' n1' c1' a):
  Calls prog 152 #[.agg #[.bool na,.s A1 n1 c1,.s A1' n1' c1']] w fun e w'=>∃nb,e=.returned (.agg #[.bool nb,.s A1 n1 c1,.s A1' n1' c1'])/\aB w' nb A1 n1 c1 A1' n1' c1' (-a)/\Ext w w':=by
 obtain⟨qf,qa,e0⟩:=dK w #[.bool na,.s A1 n1 c1,.s A1' n1' c1'] 33 rV 33;have HA:=Hx ha;by_cases h0:a=0;{have hs:aC a=0:=kT.2 h0;have HN:=Hx (show-a=a by rw[h0];rfl);have HS:=Hx hs;clear ha h0 hs;go_enter func152,ntmps152;go_wp2_with fail;refine(cV na A1 n1 c1 A1' n1' c1' a _ (HA.o.K e0)).mono ?_;rintro e w1 ⟨rfl,qe⟩;rw[HS.o];have qf:=qf.K qe;have qa:=qa.K qe;obtain⟨⟨i0,i1,i2⟩,h0,h1,h2⟩:=qf.t3;obtain⟨⟨k0,k1,k2⟩,f0,f1,f2⟩:=qa.t3;have E1:=Hx (e0.tr qe);clear qe e0;go_wp2;refine bodyPost_ret (v:=.agg #[.bool na,.s A1 n1 c1,.s A1' n1' c1']) (by simp[results,results152,go_sem,(((qa.sT 0 _).sT 1 _).sT 2 _).cell]) rfl ?_;obtain⟨q1,q2⟩:=dH (w:=w) (HA.o.K E1.o) qa qO E1.o;exact⟨na,rfl,by rw[HN.o];exact q1,q2⟩};have hs:(aC a==0)=false:=yK.2 (fun h=>h0 (kT.1 h));have HN:=Hx (ha.neg h0);clear ha h0;go_enter func152,ntmps152;go_wp2_with fail;refine(cV na A1 n1 c1 A1' n1' c1' a _ (HA.o.K e0)).mono ?_;rintro e w1 ⟨rfl,qe⟩;generalize aC a=sa at*;have qf:=qf.K qe;have qa:=qa.K qe;obtain⟨⟨i0,i1,i2⟩,h0,h1,h2⟩:=qf.t3;obtain⟨⟨k0,k1,k2⟩,f0,f1,f2⟩:=qa.t3;have E1:=Hx (e0.tr qe);clear qe e0;go_wp2;refine bodyPost_ret (v:=.agg #[.bool (!na),.s A1 n1 c1,.s A1' n1' c1']) (by simp[results,results152,go_sem,(((qa.sT 0 _).sT 1 _).sT 2 _).cell]) rfl ?_;obtain⟨q1,q2⟩:=dH (w:=w) (HN.o.K E1.o) qa qO E1.o;exact⟨!na,rfl,q1,q2⟩
theorem nP(na nb:Bool)A1(n1 c1:Nat)A1'(n1' c1':Nat)A2(n2 c2:Nat)A2'(n2' c2':Nat)(a b:Rat)w
  (ha:aB w na A1 n1 c1 A1' n1' c1' a) (hb:aB w nb A2 n2 c2 A2' n2' c2' b) (l1:n1<=134217728) (l1':n1'<=134217728) (l2:n2<=134217728) (l2':n2'<=134217728):
  Calls prog 87 #[.agg #[.bool na,.s A1 n1 c1,.s A1' n1' c1'],.agg #[.bool nb,.s A2 n2 c2,.s A2' n2' c2']] w (cO w (a-b)):=by
 obtain⟨b0,b1,b2,e0⟩:=iD w #[.bool na,.s A1 n1 c1,.s A1' n1' c1'] 33 #[.bool nb,.s A2 n2 c2,.s A2' n2' c2'] 33 rV 33;have x1:Ext (((w.alloc (.cells #[.bool na,.s A1 n1 c1,.s A1' n1' c1'] 33)).alloc (.cells #[.bool nb,.s A2 n2 c2,.s A2' n2' c2'] 33)).alloc (.cells rV 33)) (((w.alloc (.cells #[.bool na,.s A1 n1 c1,.s A1' n1' c1'] 33)).alloc (.cells #[.bool nb,.s A2 n2 c2,.s A2' n2' c2'] 33)).alloc (.cells rV 33)).drew:=(eR _).drewN 1;have HA:=Hx (kQa ((ha.K e0).K x1) ((hb.K e0).K x1));have E0:=Hx (e0.tr x1);have BB:=Hx (kQa (b0.K x1) (kQa (b1.K x1) (b2.K x1)));obtain⟨⟨i0,i1,i2⟩,_⟩:=BB.o.1.t3;obtain⟨⟨j0,j1,j2⟩,_⟩:=BB.o.2.1.t3;clear ha hb b0 b1 b2 e0 x1;go_enter func87,ntmps87;go_wp2
 go_region_held3 (fun w'=>w'.cell? (aD w.heap.size 0)=some (.bool na)/\w'.cell? (aD w.heap.size 1)=some (.s A1 n1 c1)/\w'.cell? (aD w.heap.size 2)=some (.s A1' n1' c1')/\w'.cell? (aD (w.heap.size+1) 0)=some (.bool nb)/\w'.cell? (aD (w.heap.size+1) 1)=some (.s A2 n2 c2)/\w'.cell? (aD (w.heap.size+1) 2)=some (.s A2' n2' c2'))
  (first|with_reducible exact⟨i0,i1,i2,j0,j1,j2⟩|exact fj _ _ _|fail)
  (first
   |(go_at_call 152
     refine(jzi6 nb A2 n2 c2 A2' n2' c2' b _ HA.o.2).mono ?_;rintro e w3 ⟨n3,rfl,h3,x3⟩;have G3:=Hx (kQa (BB.o.1.K x3) (kQa (BB.o.2.1.K x3) (BB.o.2.2.K x3)));have E3:=Hx (E0.o.tr x3);have R3:=Hx (kQa h3 (HA.o.1.K x3));obtain⟨⟨i0,i1,i2⟩,_⟩:=G3.o.1.t3;obtain⟨⟨j0,j1,j2⟩,_⟩:=G3.o.2.1.t3;clear x3 h3)
   |(go_at_call 18
     refine(kF na n3 A1 n1 c1 A1' n1' c1' A2 n2 c2 A2' n2' c2' a (-b) _ R3.o.2 R3.o.1 qO qO qO qO (gI (kQx (kQ7 _) (kQ7 _)))).mono ?_;rintro e w4 ⟨nq,B,m,d,B',m',d',rfl,h4,x4⟩;rw[<-Rat.sub_eq_add_neg]at h4;have G4:=Hx (kQa (G3.o.1.K x4) (kQa (G3.o.2.1.K x4) (G3.o.2.2.K x4)));have E4:=Hx (E3.o.tr x4);obtain⟨⟨i0,i1,i2⟩,_⟩:=G4.o.1.t3;obtain⟨⟨j0,j1,j2⟩,_⟩:=G4.o.2.1.t3;obtain⟨⟨p0,p1,p2⟩,f0,f1,f2⟩:=G4.o.2.2.t3;obtain⟨r1,r2⟩:=dH (w:=w) h4 G4.o.2.2 qO E4.o;have q3:=((G4.o.2.2.sT 0 (.bool nq)).sT 1 (.s B m d)).sT 2 (.s B' m' d');have RF:=Hx (kQa q3 (kQa r1 r2));have hf:=fun u0 u1 u2=>((G4.o.1.far (p:=(aD (w.heap.size+1+1) 0)) (by simp;omega) u0).far (p:=(aD (w.heap.size+1+1) 1)) (by simp;omega) u1).far (p:=(aD (w.heap.size+1+1) 2)) (by simp;omega) u2;have hg:=fun u0 u1 u2=>((G4.o.2.1.far (p:=(aD (w.heap.size+1+1) 0)) qS u0).far (p:=(aD (w.heap.size+1+1) 1)) qS u1).far (p:=(aD (w.heap.size+1+1) 2)) qS u2;have fj:=fun u0 u1 u2=>kQa ((hf u0 u1 u2).cell 0) (kQa ((hf u0 u1 u2).cell 1) (kQa ((hf u0 u1 u2).cell 2) (kQa ((hg u0 u1 u2).cell 0) (kQa ((hg u0 u1 u2).cell 1) ((hg u0 u1 u2).cell 2)))));clear x4 h4 q3 r1 r2)
   |fail)
 go_wp2;exact bodyPost_ret (v:=.agg #[.bool nq,.s B m d,.s B' m' d']) (by simp[results,results87,go_sem,RF.o.1.cell]) rfl ⟨_,_,_,_,_,_,_,rfl,RF.o.2.1,RF.o.2.2⟩
def jza6(w:World)(q:Rat)(e:Ending)(w':World):Prop:=
 ∃(neg:Bool) (A:OA) (n c:Nat) (A':OA) (n' c':Nat),e=.returned (.tuple #[.agg #[.bool neg,.s A n c,.s A' n' c'],vI 0])/\aB w' neg A n c A' n' c' q/\Ext w w'
theorem pS(na nb:Bool)A1(n1 c1:Nat)A1'(n1' c1':Nat)A2(n2 c2:Nat)A2'(n2' c2':Nat)(a b:Rat)w
  (ha:aB w na A1 n1 c1 A1' n1' c1' a) (hb:aB w nb A2 n2 c2 A2' n2' c2' b) (hb0:b≠0) (l1:n1<=134217728) (l1':n1'<=134217728) (l2:n2<=134217728) (l2':n2'<=134217728):
  Calls prog 150 #[.agg #[.bool na,.s A1 n1 c1,.s A1' n1' c1'],.agg #[.bool nb,.s A2 n2 c2,.s A2' n2' c2']] w (jza6 w (a/b)):=by
 obtain⟨b0,b1,b2,e0⟩:=iD w #[.bool na,.s A1 n1 c1,.s A1' n1' c1'] 33 #[.bool nb,.s A2 n2 c2,.s A2' n2' c2'] 33 rV 33;have hq:=jza5 a b hb0;rw[<-ha.1, <-hb.1]at hq;have qf:b.num≠0:=fun e=>hb0 (Rat.num_eq_zero.1 e);have qe:=Hx (gI (N:=a.num.natAbs*b.den) (D:=b.num.natAbs*a.den) (kQx qO a.den_nz));have hs:(aC b==0)=false:=yK.2 (fun h=>hb0 (kT.1 h));have HQ:=Hx (hq);have HA:=Hx (ha);have HB:=Hx (hb);obtain⟨⟨j0,j1,j2⟩,_⟩:=b1.t3;clear ha hb hq qf hb0;go_enter func150,ntmps150;go_wp2_with fail;refine(cV nb A2 n2 c2 A2' n2' c2' b _ (HB.o.K e0)).mono ?_;rintro e w1 ⟨rfl,x1⟩;generalize aC b=sb at*;have xd:Ext w1 w1.drew:=(eR w1).drewN 1;have BB:=Hx (kQa ((b0.K x1).K xd) (kQa ((b1.K x1).K xd) ((b2.K x1).K xd)));have E0:=Hx ((e0.tr x1).tr xd);clear b0 b1 b2 e0 x1 xd j0 j1 j2;obtain⟨⟨i0,i1,i2⟩,_⟩:=BB.o.1.t3;obtain⟨⟨j0,j1,j2⟩,_⟩:=BB.o.2.1.t3;have qa:True:=trivial;go_wp2
 go_region_held3 (fun w'=>w'.cell? (aD w.heap.size 0)=some (.bool na)/\w'.cell? (aD w.heap.size 1)=some (.s A1 n1 c1)/\w'.cell? (aD w.heap.size 2)=some (.s A1' n1' c1')/\w'.cell? (aD (w.heap.size+1) 0)=some (.bool nb)/\w'.cell? (aD (w.heap.size+1) 1)=some (.s A2 n2 c2)/\w'.cell? (aD (w.heap.size+1) 2)=some (.s A2' n2' c2'))
  (first|with_reducible exact⟨i0,i1,i2,j0,j1,j2⟩|exact fj _ _ _|fail)
  (first
   |(go_at_call 57
     have _t:=qa;refine(kS A1 A2' n1 c1 n2' c2' a.num.natAbs (dk b) _ (HA.o.2.1.K E0.o) (HB.o.2.2.K E0.o) qO qO).mono ?_;rintro e w3 ⟨A3,n3,c3,rfl,h3,x3⟩;clear qa;have L3:=kE h3 (HA.o.2.1.K E0.o) (HB.o.2.2.K E0.o);have h3:aE w3 A3 n3 c3 (a.num.natAbs*b.den):=(by rw[kD]at h3;exact h3);have G3:=Hx (kQa (BB.o.1.K x3) (kQa (BB.o.2.1.K x3) (BB.o.2.2.K x3)));have E3:=Hx (E0.o.tr x3);have R3:=Hx h3;obtain⟨⟨i0,i1,i2⟩,_⟩:=G3.o.1.t3;obtain⟨⟨j0,j1,j2⟩,_⟩:=G3.o.2.1.t3;clear x3 h3)
   |(go_at_call 57
     refine(kS A2 A1' n2 c2 n1' c1' b.num.natAbs (dk a) _ (HB.o.2.1.K E3.o) (HA.o.2.2.K E3.o) qO qO).mono ?_;rintro e w4 ⟨A4,n4,c4,rfl,h4,x4⟩;have L4:=kE h4 (HB.o.2.1.K E3.o) (HA.o.2.2.K E3.o);have h4:aE w4 A4 n4 c4 (b.num.natAbs*a.den):=(by rw[kD]at h4;exact h4);have G4:=Hx (kQa (G3.o.1.K x4) (kQa (G3.o.2.1.K x4) (G3.o.2.2.K x4)));have E4:=Hx (E3.o.tr x4);have R4:=Hx (kQa (R3.o.K x4) h4);obtain⟨⟨i0,i1,i2⟩,_⟩:=G4.o.1.t3;obtain⟨⟨j0,j1,j2⟩,_⟩:=G4.o.2.1.t3;clear x4 h4)
   |(go_at_call 59
     refine(qe.o (na !=nb) A3 A4 n3 c3 n4 c4 _ R4.o.1 R4.o.2 qO qO).mono ?_;rintro e w5 ⟨nq,B,m,d,B',m',d',rfl,h5,x5⟩;rw[<-HQ.o]at h5;have G5:=Hx (kQa (G4.o.1.K x5) (kQa (G4.o.2.1.K x5) (G4.o.2.2.K x5)));have E5:=Hx (E4.o.tr x5);obtain⟨⟨i0,i1,i2⟩,_⟩:=G5.o.1.t3;obtain⟨⟨j0,j1,j2⟩,_⟩:=G5.o.2.1.t3;obtain⟨⟨p0,p1,p2⟩,f0,f1,f2⟩:=G5.o.2.2.t3;obtain⟨r1,r2⟩:=dH (w:=w) h5 G5.o.2.2 qO E5.o;have q3:=((G5.o.2.2.sT 0 (.bool nq)).sT 1 (.s B m d)).sT 2 (.s B' m' d');have RF:=Hx (kQa q3 (kQa r1 r2));have hf:=fun u0 u1 u2=>((G5.o.1.far (p:=(aD (w.heap.size+1+1) 0)) (by simp;omega) u0).far (p:=(aD (w.heap.size+1+1) 1)) (by simp;omega) u1).far (p:=(aD (w.heap.size+1+1) 2)) (by simp;omega) u2;have hg:=fun u0 u1 u2=>((G5.o.2.1.far (p:=(aD (w.heap.size+1+1) 0)) qS u0).far (p:=(aD (w.heap.size+1+1) 1)) qS u1).far (p:=(aD (w.heap.size+1+1) 2)) qS u2;have fj:=fun u0 u1 u2=>kQa ((hf u0 u1 u2).cell 0) (kQa ((hf u0 u1 u2).cell 1) (kQa ((hf u0 u1 u2).cell 2) (kQa ((hg u0 u1 u2).cell 0) (kQa ((hg u0 u1 u2).cell 1) ((hg u0 u1 u2).cell 2)))));clear x5 h5 q3 r1 r2)
   |fail)
 go_wp2;exact bodyPost_ret (v:=.tuple #[.agg #[.bool nq,.s B m d,.s B' m' d'],vI 0]) (by simp[results,results150,go_sem,RF.o.1.cell]) rfl ⟨_,_,_,_,_,_,_,rfl,RF.o.2.1,RF.o.2.2⟩
def flN(q:Rat):Nat:=q.num.natAbs/q.den
def flQ(q:Rat):Rat:=mkQ false (flN q) 1
theorem Tryz.info44:(prog.info? 33).map (fun i=>(i.zero,i.size,i.bytes))=some (some (.agg rV),3,56):=by kernel_rfl
section
variable (R:World->List Value->Rat->Prop) (t:TypeId)
def OQ(w:World)(B:Nat)(v:Value)(qs:LQ):Prop:=
 ∃css:List (List Value),css.length=qs.length/\(∀cs∈css,cs.length=3)/\w.ownsRow B t 3 v qs.length css.flatten/\∀(i:Nat) (q:Rat),qs[i]?=some q->∃cs,css[i]?=some cs/\R w cs q
end
section
variable {R:World->List Value->Rat->Prop} {t:TypeId} {w w':World} {B:Nat} {v v':Value} {qs:List Rat}
theorem OQ.nil:OQ R t w B zN []:=⟨[],rfl,(fun _ h=>by cases h),World.ownsRow_nil _ _ _ _,fun i q h=>by simp at h⟩
theorem OQ.K(hR:∀(w w':World) (cs:List Value) (q:Rat),R w cs q->Ext w w'->R w' cs q)(h:OQ R t w B v qs)(hx:Ext w w'):OQ R t w' B v qs:=by
 obtain⟨css,h1,h2,h3,h4⟩:=h;refine⟨css,h1,h2,h3.kept (eZ hx) (fA _),fun i q hq=>?_⟩;obtain⟨cs,k1,k2⟩:=h4 i q hq;exact⟨cs,k1,hR _ _ _ _ k2 hx⟩
theorem OQ.push{css:List (List Value)}{cs:List Value}{q:Rat}(h1:css.length=qs.length)(h2:∀cs∈css,cs.length=3)(hl:cs.length=3)(h4:∀(i:Nat) (q:Rat),qs[i]?=some q->∃cs,css[i]?=some cs/\R w' cs q)
  (hq:R w' cs q) (hown:w'.ownsRow B t 3 v' (qs.length+1) (css.flatten++cs)):OQ R t w' B v' (qs++[q]):=by
 refine⟨css++[cs],by simp[h1],fun c hc=>?_,by rw[List.flatten_append,yQ];simpa using hown,fun i q' hq'=>?_⟩;{(rcases xY.1 hc with h|h);{exact h2 c h};simp at h;rw[h];exact hl};by_cases hi:i<qs.length;{rw[yR hi]at hq';obtain⟨c,k1,k2⟩:=h4 i q' hq';exact⟨c,by rw[yR qO];exact k1,k2⟩};rw[yS qO]at hq';have qa:i-qs.length=0:=(by (rcases kQm (i-qs.length)with h0|h0);{exact h0};rw[yI (by simp;omega)]at hq';cases hq');rw[qa]at hq';simp at hq';subst hq';exact⟨cs,by rw[yS qO,show i-css.length=0 by omega];rfl,hq⟩
end
def QP(w:World)(g:Nat)(qs:LQ):Prop:=
 ∃cur:Array Value,Blk w g 33 cur/\∀(i:Nat) (q:Rat),qs[i]?=some q->∃(neg:Bool) (A:OA) (n c:Nat) (A':OA) (n' c':Nat),
  (cur[i*3]?=some (.bool neg)/\cur[i*3+1]?=some (.s A n c)/\cur[i*3+2]?=some (.s A' n' c'))/\aB w neg A n c A' n' c' q
theorem QP.K{w w'}{g:Nat}{qs:LQ}(h:QP w g qs)(hx:Ext w w'):QP w' g qs:=by
 obtain⟨qa,h1,h2⟩:=h;refine⟨qa,h1.K hx,fun i q hq=>?_⟩;obtain⟨neg,A,n,c,A',n',c',h3,h4⟩:=h2 i q hq;exact⟨neg,A,n,c,A',n',c',h3,h4.K hx⟩
theorem QP.lt{w}{g:Nat}{qs:LQ}(h:QP w g qs):g<w.heap.size:=by
 obtain⟨qa,h1,_⟩:=h;exact h1.lt
theorem QP.at_{w}{g:Nat}{qs:LQ}(h:QP w g qs){i:Nat}{q:Rat}(hl:qs[i]?=some q):
  ∃(neg:Bool) (A:OA) (n c:Nat) (A':OA) (n' c':Nat),
   (w.cell? (aD g (i*3))=some (.bool neg)/\w.cell? (aD g (i*3+1))=some (.s A n c)/\w.cell? (aD g (i*3+2))=some (.s A' n' c'))/\
   (w.frozen? (aD g (i*3))=false/\w.frozen? (aD g (i*3+1))=false/\w.frozen? (aD g (i*3+2))=false)/\aB w neg A n c A' n' c' q:=by
 obtain⟨qa,h1,h2⟩:=h;obtain⟨neg,A,n,c,A',n',c',⟨e0,e1,e2⟩,h4⟩:=h2 i q hl;exact⟨neg,A,n,c,A',n',c',⟨by rw[h1.cell];exact e0,by rw[h1.cell];exact e1,by rw[h1.cell];exact e2⟩,⟨h1.frozen _,h1.frozen _,h1.frozen _⟩,h4⟩
theorem QP.take{w}{g:Nat}{qs:LQ}(h:QP w g qs)(m:Nat):QP w g (qs.take m):=by
 obtain⟨qa,h1,h2⟩:=h;refine⟨qa,h1,fun i q hq=>h2 i q ?_⟩;rw[xG]at hq;split at hq;{exact hq};cases hq
theorem mI{cur:Array Value}{m j:Nat}{u0 u1 u2:Value}(hm:m*3+2<cur.size):(((cur.setIfInBounds (m*3) u0).setIfInBounds (m*3+1) u1).setIfInBounds (m*3+2) u2)[j]?=if j=m*3 then some u0 else if j=m*3+1 then some u1 else if j=m*3+2 then some u2 else cur[j]?:=by
 rw[Array.getElem?_setIfInBounds,Array.getElem?_setIfInBounds,Array.getElem?_setIfInBounds];simp only[Array.size_setIfInBounds]
 repeat' split
 all_goals first|rfl|omega
theorem QP.put{w}{g m:Nat}{qs:LQ}{q:Rat}{neg:Bool}{A}{n c:Nat}{A'}{n' c':Nat}(h:QP w g qs)(hm:m<qs.length)(hl:aB w neg A n c A' n' c' q):
  QP (((w.setCell (aD g (m*3)) (.bool neg)).setCell (aD g (m*3+1)) (.s A n c)).setCell (aD g (m*3+2)) (.s A' n' c')) g (qs.set m q):=by
 obtain⟨qf,h1,h2⟩:=h;have g2:=((aM w g (m*3) (.bool neg)).trans (aM _ g (m*3+1) (.s A n c))).trans (aM _ g (m*3+2) (.s A' n' c'));have b:=((h1.sT (m*3) (.bool neg)).sT (m*3+1) (.s A n c)).sT (m*3+2) (.s A' n' c');have qa:m*3+2<qf.size:=(by obtain⟨_,_,_,_,_,_,_,⟨_,_,e2⟩,_⟩:=h2 m _ (yG hm);exact(kZn.1 e2).1);refine⟨_,b,fun i p hi=>?_⟩;by_cases e:m=i;{subst e;(rw[yM hm]at hi;injection hi with hi);subst hi;refine⟨neg,A,n,c,A',n',c',⟨?_,?_,?_⟩,hl.other g2 h1 qD⟩;{rw[mI qa,qE rfl]};{rw[mI qa,qF qO,qE rfl]};rw[mI qa,qF qO,qF qO,qE rfl]};rw[vN e]at hi;obtain⟨qe,B,k,d,B',k',d',⟨e0,e1,e2⟩,h4⟩:=h2 i p hi;refine⟨qe,B,k,d,B',k',d',⟨?_,?_,?_⟩,h4.other g2 h1 qD⟩;{rw[mI qa,qF qO,qF qO,qF qO];exact e0};{rw[mI qa,qF qO,qF qO,qF qO];exact e1};rw[mI qa,qF qO,qF qO,qF qO];exact e2
end Go.Proofs.YtfeeacaofjpkaaaGreatDoor
namespace Go.Proofs.YtfeeacaofjpkaaaGreatDoor
open Go.Proofs.Tryz
def atL(l:LN)(i:Nat):Nat:=l[i]?.getD 0
def jzi7(l:LN)(i j:Nat):LN:=(l.set i (atL l j)).set j (atL l i)
theorem jza7{l:LN}{i:Nat}(h:i<l.length):l[i]?=some (atL l i):=by
 unfold atL;rw[yG h];rfl
theorem jzi8(l:LN)(i k v:Nat)(hi:i<l.length):atL (l.set i v) k=if k=i then v else atL l k:=by
 unfold atL;by_cases e:k=i;{subst e;rw[yM hi,qE rfl];rfl};rw[vN (fun h=>e h.symm),qF e]
open Go.RowKit
def dR(w:World)(g:Nat)(l:LN):Prop:=∃cs:Array Value,Blk w g 3 cs/\∀i,i<l.length->cs[i]?=some (vI ((atL l i:Nat):Int))
theorem dR.K{w w'}{g:Nat}{l:LN}(h:dR w g l)(hx:Ext w w'):dR w' g l:=by
 obtain⟨cs,h1,h2⟩:=h;exact⟨cs,h1.K hx,h2⟩
theorem dR.cell{w}{g:Nat}{l:LN}(h:dR w g l){i:Nat}(hi:i<l.length):w.cell? (aD g i)=some (vI ((atL l i:Nat):Int)):=by
 obtain⟨cs,h1,h2⟩:=h;rw[h1.cell];exact h2 i hi
theorem dR.lt{w}{g:Nat}{l:LN}(h:dR w g l):g<w.heap.size:=by
 obtain⟨cs,h1,_⟩:=h;exact h1.lt
theorem dR.frozen{w}{g:Nat}{l:LN}(h:dR w g l)(i:Nat):w.frozen? (aD g i)=false:=by
 obtain⟨cs,h1,_⟩:=h;exact h1.frozen i
theorem dR.put{w}{g:Nat}{l:LN}(h:dR w g l){i:Nat}(v:Nat)(hi:i<l.length):dR (w.setCell (aD g i) (vI ((v:Nat):Int))) g (l.set i v):=by
 obtain⟨cs,h1,h2⟩:=h;refine⟨_,h1.sT i _,fun k hk=>?_⟩;rw[yV]at hk;rw[jzi8 _ _ _ _ hi,Array.getElem?_setIfInBounds];have hs:=(kZn.1 (h2 i hi)).1;by_cases e:i=k;{subst e;rw[qE rfl,qE hs,qE rfl]};rw[qF e,qF (fun h=>e h.symm)];exact h2 k hk
theorem dR.swap{w}{g:Nat}{l:LN}(h:dR w g l){i j:Nat}(hi:i<l.length)(hj:j<l.length):dR ((w.setCell (aD g i) (vI ((atL l j:Nat):Int))).setCell (aD g j) (vI ((atL l i:Nat):Int))) g (jzi7 l i j):=
 (h.put (atL l j) hi).put (atL l i) (by rw[yV];exact hj)
theorem OI.row{w}{B:Nat}{A}{n c:Nat}{l:LN}(h:OI w B (.s A n c) l)(hl:l.length=n)(h0:0<n):∃g,A=(sA g)/\B<=g/\dR w g l:=by
 obtain⟨h1,h2⟩:=h;rcases h2 with⟨h3,h4⟩|⟨g',cap,cur,h3,h4,h5,h6,h7,h8,h9⟩
 ·have:l=[]:=by simpa [ints]using h4
  subst this;simp at hl;omega
 injection h3 with e1 e2 e3
 refine⟨g',e1,h4,cur,h5,fun i hi=>?_⟩;have qa:(cur.toList.take l.length)[i]?=(ints l)[i]?:=by
  have:=h9;rw[<-this];simp
 rw[xG,qE hi]at qa;rw[<-kQw,qa];unfold ints;rw[yW,jza7 hi];rfl
end Go.Proofs.YtfeeacaofjpkaaaGreatDoor
