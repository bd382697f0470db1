/- Walks, part 3. -/
import Derived.Laws.MakeOwn
import Derived.Lib.SliceRun
import Derived.Test.YtfeeacaofjpkaaaGreatDoorT02
set_option linter.defProp false set_option linter.unusedVariables false
set_option linter.unusedSimpArgs false
set_option maxRecDepth 100000
set_option maxHeartbeats 8000000
namespace Go.Proofs.YtfeeacaofjpkaaaGreatDoor
open Go.Proofs.Tryz
open Go.RowKit
def dx(q:Rat)(k:Nat):Prop:=q.num.natAbs<dh^k/\q.den<dh^k
def QR(w:World)(cs:List Value)(q:Rat):Prop:=
 ∃(neg:Bool) (A:OA) (n c:Nat) (A':OA) (n' c':Nat),cs=[.bool neg,.s A n c,.s A' n' c']/\aC w neg A n c A' n' c' q
def QR.K{w w'}{cs:List Value}{q:Rat}(h:QR w cs q)(hx:Ext w w'):QR w' cs q:=by
 obtain⟨neg,A,n,c,A',n',c',e,h1⟩:=h;exact⟨neg,A,n,c,A',n',c',e,h1.K hx⟩
def aE.lenOf{w}{A}{n c N k:Nat}(h:aE w A n c N)(hN:N<dh^k):n<=k:=by
 obtain⟨ds,rfl,_,qa,rfl,_⟩:=h;exact qa.wm iU hN
def aC.lens{w}{neg:Bool}{A}{n c:Nat}{A'}{n' c':Nat}{q:Rat}{k:Nat}(h:aC w neg A n c A' n' c' q)(hs:dx q k):n<=k/\n'<=k:=by
 refine⟨h.2.1.lenOf hs.1,h.2.2.lenOf ?_⟩;unfold dk;split;{exact Du bA};exact hs.2
def dV{m:Nat}:∀(css:List (List Value)),(∀cs∈css,cs.length=m)->∀(i k:Nat),i<css.length->k<m->css.flatten[i*m+k]?=(css[i]?.getD [])[k]?
 | [],_,i,k,hi,_=>by simp at hi
 |cs::css,h,0,k,_,hk=>by
  rw[Nat.zero_mul,CU,List.flatten_cons,yR (by rw[h cs qS];exact hk)];rfl
 |cs::css,h,i+1,k,hi,hk=>by
  have hl:=h cs qS;rw[List.flatten_cons,yS (by rw[hl,xP,xQ];omega),hl,show(i+1)*m+k-m=i*m+k by rw[xP,xQ];omega];rw[dV css (fun c hc=>h c (by simp[hc])) i k (by simpa using hi) hk];simp
def fR{m:Nat}(css:List (List Value))(h:∀cs∈css,cs.length=m):css.flatten.length=css.length*m:=by
 (induction css with|nil=>simp|cons a l ih=>rw[List.flatten_cons,yQ,h a qS,ih (fun c hc=>h c (by simp[hc])),Dw,xP,xQ,FI])
def QL(w:World)(P:OA)(qs:LQ):Prop:=
 ∃css:List (List Value),css.length=qs.length/\(∀cs∈css,cs.length=3)/\Rd w P css.flatten/\∀(i:Nat) (q:Rat),qs[i]?=some q->∃cs,css[i]?=some cs/\QR w cs q
def QL.K{w w'}{P}{qs:LQ}(h:QL w P qs)(hx:Ext w w'):QL w' P qs:=by
 obtain⟨css,h1,h2,h3,h4⟩:=h;refine⟨css,h1,h2,h3.K hx,fun i q hq=>?_⟩;obtain⟨cs,k1,k2⟩:=h4 i q hq;exact⟨cs,k1,k2.K hx⟩
def QL.at_{w}{P}{qs:LQ}(h:QL w P qs){i:Nat}{q:Rat}(hq:qs[i]?=some q):
  ∃(b o:Nat) (neg:Bool) (A:OA) (n c:Nat) (A':OA) (n' c':Nat),P=some (aD b o)/\b<w.heap.size/\w.C b (o+i*3) (.bool neg)/\w.C b (o+i*3+1) (.s A n c)/\w.C b (o+i*3+2) (.s A' n' c')/\aC w neg A n c A' n' c' q:=by
 obtain⟨css,h1,h2,h3,h4⟩:=h;obtain⟨cs,k1,neg,A,n,c,A',n',c',rfl,k2⟩:=h4 i q hq;have hi:=(yH.1 hq).1;have hl:=fR css h2;have qa:∀k,k<3->css.flatten[i*3+k]?=([.bool neg,.s A n c,.s A' n' c']:List Value)[k]?:=fun k hk=>(by rw[dV css h2 i k qO hk,k1];rfl);obtain⟨b,o,rfl,hb,hc⟩:=h3.at_ (i:=i*3) qO;refine⟨b,o,neg,A,n,c,A',n',c',rfl,hb,?_,?_,?_,k2⟩;{have:=hc (i*3+0) qO;rw[qa 0 qO]at this;exact this};{have:=hc (i*3+1) qO;rw[qa 1 qO]at this;exact this};have:=hc (i*3+2) qO;rw[qa 2 qO]at this;exact this
def jzkm(neg:Bool)A(n c:Nat)A'(n' c':Nat)(q:Rat)w(h:aC w neg A n c A' n' c' q):
  Calls prog 162 #[.agg #[.bool neg,.s A n c,.s A' n' c']] w fun e w'=>e=.returned (.bool (decide (aB q<0)))/\Ext w w':=by
 obtain⟨qe,e0⟩:=aU w #[.bool neg,.s A n c,.s A' n' c'] 33;obtain⟨⟨i0,i1,i2⟩,g0,g1,g2⟩:=qe.t3;have H:=Hx h;clear h;go_enter func162,ntmps162;go_wp2_with fail;refine(dA neg A n c A' n' c' q _ (H.o.K e0)).r fun w1 qa=>?_;have HX:=Hx (e0.tr qa);clear qa;go_wp2;go_ret;exact⟨rfl,HX.o⟩
def jzkn(w:World)(qs:LQ)(e:Ending)(w':World):Prop:=∃r:Int,e=.returned (vI r)/\decide (0<=r)=qs.any (fun q=>decide (aB q<0))/\Ext w w'
def jzko P(cp:Nat)(qs:LQ)w(h:QL w P qs)(hl:qs.length<=1000000):
  Calls prog 202 #[.s P qs.length cp,.func (.func 162) #[] #[]] w (jzkn w qs):=by
 have H:=Hx h;clear h;go_enter func202,ntmps202;go_wp2;(go_loopw [5,8] (fun _ it wr=>∃k:Nat,k<=qs.length/\it=vI k/\(qs.take k).any (fun q=>decide (aB q<0))=false/\Ext w wr) (fun _ i _=>qs.length-(intOf i).toNat));exact⟨0,yZ _,rfl,rfl,eR _⟩;obtain⟨k,hk,rfl,qh,hx⟩:=hrel;have qf:=Hx qh;have HX:=Hx hx;clear qh hx;by_cases qk:k<qs.length;{obtain⟨q,hq⟩:∃q,qs[k]?=some q:=⟨_,yG qk⟩;obtain⟨b,o,neg,A,n,c,A',n',c',rfl,hb,i0,i1,i2,hR⟩:=(H.o.K HX.o).at_ hq;have R:=Hx hR;have qe:=Hx (show(qs.take (k+1)).any (fun q=>decide (aB q<0))=decide (aB q<0) by rw[Dj,hq,List.any_append,qf.o];simp);have qm:Hid (decide (aB q<0)=true->qs.any (fun q=>decide (aB q<0))=true):=Hx (fun e=>List.any_eq_true.2 ⟨q,yJ hq,e⟩);clear hq hR;go_wp2_with fail;refine(jzkm neg A n c A' n' c' q _ R.o).r fun w1 qj=>?_;have qi:=Hx (HX.o.tr qj);clear qj i0 i1 i2;cases hs:decide (aB q<0);(case true=>have qa:=qm.o hs;have qg:=Hx qa;clear qa hs;go_wp2;go_ret;exact⟨(k:Int),rfl,by rw[qg.o];simp,qi.o⟩);have HS:=Hx (qe.o.trans hs);clear hs;go_wp2;go_roundw;(case rel=>exact⟨k+1,qO,by go_num,HS.o,qi.o⟩);simp[intOf];omega};have qn:k=qs.length:=qO;subst qn;rw[yU (yX _)]at qf;go_wp2;go_ret;exact⟨-1,rfl,by rw[qf.o];rfl,HX.o⟩
def jzkp P(cp:Nat)(qs:LQ)w(h:QL w P qs)(hl:qs.length<=1000000):
  Calls prog 163 #[.s P qs.length cp,.func (.func 162) #[] #[]] w fun e w'=>e=.returned (.bool (qs.any (fun q=>decide (aB q<0))))/\Ext w w':=by
 have H:=Hx h;clear h;generalize hB:qs.any (fun q=>decide (aB q<0))=B;have HB:=Hx hB;clear hB;go_enter func163,ntmps163;go_wp2_with fail;refine(jzko P cp qs _ H.o hl).mono ?_;rintro e w1 ⟨r,rfl,hr,qa⟩;rw[HB.o]at hr;subst hr;go_wp2;go_ret;exact⟨rfl,qa⟩
def dL(t:Tp)(qs:LQ):Bool:=decide (qs.length=2*t.links.length)&&!qs.any (fun q=>decide (aB q<0))
def jzkq t AO(co:Nat)AL(cl:Nat)P(cp:Nat)(qs:LQ)w(ht:aR w t AO co AL cl)(h:QL w P qs)(hl:qs.length<=1000000):
  Calls prog 104 #[.agg #[vI t.nodes,.s AO t.over.length co,.s AL t.links.length cl],.s P qs.length cp] w fun e w'=>e=.returned (.bool (dL t qs))/\Ext w w':=by
 obtain⟨qg,e0⟩:=aU w #[vI t.nodes,.s AO t.over.length co,.s AL t.links.length cl] 25;obtain⟨⟨i0,i1,i2⟩,g0,g1,g2⟩:=qg.t3;have H:=Hx h;have HT:=Hx ht;have h3:=ht.ll;have h4:=ht.cl;generalize hB:dL t qs=B;have HB:=Hx hB;clear h ht hB;go_enter func104,ntmps104;go_wp2_with fail;refine(fQ t AO co AL cl _ (HT.o.K e0)).r fun w1 qf=>?_;have HX:=Hx (e0.tr qf);clear qf i0 i1 i2 g0 g1 g2;by_cases he:qs.length=2*t.links.length;{(have qi:((qs.length:Int)==2*(t.links.length:Int))=true:=by simp;omega);have qa:B=!qs.any (fun q=>decide (aB q<0)):=(by rw[<-HB.o];unfold dL;rw[yO he];rfl);subst qa;clear he;go_wp2_with fail;refine(jzkp P cp qs _ (H.o.K HX.o) hl).r fun w2 qe=>?_;have qh:=Hx (HX.o.tr qe);clear qe;generalize hZ:qs.any (fun q=>decide (aB q<0))=Z at*;have HZ:=Hx hZ;clear hZ;go_wp2;go_ret;exact⟨by rw[HZ.o];rfl,qh.o⟩};have qi:((qs.length:Int)==2*(t.links.length:Int))=false:=yK.2 qO;have qa:B=false:=(by rw[<-HB.o];unfold dL;rw[yP he];rfl);subst qa;clear he;go_wp2;go_ret;exact⟨rfl,HX.o⟩
def FH(x y z:Int):Int:=if x≠0 then x else if y≠0 then y else z
def bG:LN->LN->Int
 | [],[]=>0
 | [],_::_=> -1
 |_::_,[]=>1
 |a::x,b::y=>if a<b then-1 else if a=b then bG x y else 1
def jzb6(g:Nat)(x y z:Int)w(h:ak w g 3 #[vI x,vI y,vI z]):
  Calls prog 164 #[.s (sA g) 3 3] w fun e w'=>e=.returned (vI (FH x y z))/\w=w':=by
 obtain⟨⟨i0,i1,i2⟩,_⟩:=h.t3;have hR:∃R,R=FH x y z:=⟨_,rfl⟩;obtain⟨R,hR⟩:=hR;have HR:=Hx hR;rw[<-hR];clear h hR;go_enter func164,ntmps164;go_wp2;(go_loop [5,8] (fun _ it=>∃k:Nat,k<=3/\it=vI k/\(1<=k->x=0)/\(2<=k->y=0)/\(3<=k->z=0)) (fun _ i=>3-(intOf i).toNat));exact⟨0,qO,rfl,qO,qO,qO⟩;(obtain⟨k,hk,rfl,h1,h2,h3⟩:=hrel;have H1:=Hx h1;have H2:=Hx h2;have H3:=Hx h3;clear h1 h2 h3;obtain rfl|rfl|rfl|rfl:k=0\/k=1\/k=2\/k=3:=by omega);{by_cases hx:x=0;{(have hb:(x !=0)=false:=by simp[hx]);have HX:=Hx hx;clear hx;go_wp2;(go_round);(case rel=>exact⟨1,qO,rfl,fun _=>HX.o,qO,qO⟩);simp[intOf]};have hb:(x !=0)=true:=bne_iff_ne.2 hx;have HX:=Hx (show x=R by rw[HR.o];unfold FH;rw[qE hx]);go_wp2;go_ret;exact⟨by rw[<-HX.o];rfl,rfl⟩};{by_cases hx:y=0;{(have hb:(y !=0)=false:=by simp[hx]);have HX:=Hx hx;clear hx;go_wp2;(go_round);(case rel=>exact⟨2,qO,rfl,fun _=>H1.o qO,fun _=>HX.o,qO⟩);simp[intOf]};have hb:(y !=0)=true:=bne_iff_ne.2 hx;have HX:=Hx (show y=R by rw[HR.o];unfold FH;rw[qF (by simpa using H1.o qO),qE hx]);go_wp2;go_ret;exact⟨by rw[<-HX.o];rfl,rfl⟩};{by_cases hx:z=0;{(have hb:(z !=0)=false:=by simp[hx]);have HX:=Hx hx;clear hx;go_wp2;(go_round);(case rel=>exact⟨3,qO,rfl,fun _=>H1.o qO,fun _=>H2.o qO,fun _=>HX.o⟩);simp[intOf]};have hb:(z !=0)=true:=bne_iff_ne.2 hx;have HX:=Hx (show z=R by rw[HR.o];unfold FH;rw[qF (by simpa using H1.o qO),qF (by simpa using H2.o qO)]);go_wp2;go_ret;exact⟨by rw[<-HX.o];rfl,rfl⟩};have HX:=Hx (show 0=R by rw[HR.o];unfold FH;rw[qF (by simpa using H1.o qO),qF (by simpa using H2.o qO),H3.o qO]);go_wp2;go_ret;exact⟨by rw[<-HX.o];rfl,rfl⟩
def jzkr(x y:Nat):Lib.compareInt (x:Int) (y:Int)=aI x y:=by
 unfold Lib.compareInt aI;split <;> split <;> (try split) <;> omega
def pW(x y:Nat)w:Calls prog 165 #[vI x,vI y] w fun e w'=>e=.returned (vI (aI x y))/\w=w':=by
 refine(Tryz.cmp_Compare_int x y w).mono ?_;rintro e w' ⟨rfl,rfl⟩;exact⟨by rw[jzkr],rfl⟩
def jzb7{l1 l2:LN}{k a b:Nat}(h1:l1[k]?=some a)(h2:l2[k]?=some b):bG (l1.drop k) (l2.drop k)=if a<b then-1 else if a=b then bG (l1.drop (k+1)) (l2.drop (k+1))else 1:=by
 obtain⟨qe,e1⟩:=yH.1 h1;obtain⟨qa,e2⟩:=yH.1 h2;rw[Ju qe,Ju qa,bG,e1,e2]
def jzb8 A1 A2(c1 c2:Nat)(l1 l2:LN)w(hr1:Rd w A1 (ints l1))(hr2:Rd w A2 (ints l2))(hl1:l1.length<=1000000)(hl2:l2.length<=1000000):
  Calls prog 166 #[.s A1 l1.length c1,.s A2 l2.length c2] w fun e w'=>e=.returned (vI (bG l1 l2))/\w=w':=by
 have R1:=Hx hr1;have R2:=Hx hr2;obtain⟨R,hR⟩:∃R,R=bG l1 l2:=⟨_,rfl⟩;have HR:=Hx hR;rw[<-hR];clear hr1 hr2 hR;go_enter func166,ntmps166;go_wp2;(go_loop [5,6,7,8,11] (fun _ _ _ _ it=>∃k:Nat,k<=l1.length/\k<=l2.length/\it=vI k/\bG (l1.drop k) (l2.drop k)=R) (fun _ _ _ _ i=>l1.length-(intOf i).toNat));exact⟨0,yZ _,yZ _,rfl,HR.o.symm⟩;obtain⟨k,qt,qp,rfl,qh⟩:=hrel;have HL:=Hx qh;clear qh;by_cases qi:k<l1.length;{obtain⟨a,ha⟩:∃a,l1[k]?=some a:=⟨_,yG qi⟩;obtain⟨b,o,rfl,hb,qn⟩:=R1.o.Cg qi;rw[ha,DL]at qn;by_cases qe:k<l2.length;{obtain⟨a2,qj⟩:∃a,l2[k]?=some a:=⟨_,yG qe⟩;obtain⟨b2,o2,rfl,qw,qm⟩:=R2.o.Cg qe;rw[qj,DL]at qm;have hl:=HL.o;rw[jzb7 ha qj]at hl;have qk:=Hx hl;clear hl ha qj;go_wp2_with fail;refine(pW a a2 _).mono ?_;rintro e w1 ⟨rfl,rfl⟩;by_cases qf:a<a2;{(have hv:aI a a2= -1:=by unfold aI;rw[qE qf]);have qa:=Hx (show-1=R by rw[<-qk.o,qE qf]);rw[hv];clear hv;go_wp2;go_ret;exact⟨by rw[<-qa.o];rfl,rfl⟩};by_cases qg:a=a2;{(have hv:aI a a2=0:=by unfold aI;rw[qF qf,qE qg]);have qa:=Hx (show bG (l1.drop (k+1)) (l2.drop (k+1))=R by rw[<-qk.o,qF qf,qE qg]);rw[hv];clear hv qg;go_wp2;(go_round);(case rel=>exact⟨k+1,qO,qO,by go_num,qa.o⟩);simp[intOf];omega};have hv:aI a a2=1:=(by unfold aI;rw[qF qf,qF qg]);have qa:=Hx (show 1=R by rw[<-qk.o,qF qf,qF qg]);rw[hv];clear hv;go_wp2;go_ret;exact⟨by rw[<-qa.o];rfl,rfl⟩};have qa:=Hx (show 1=R by rw[<-HL.o,Ju qi,D5 (show l2.length<=k by omega)];rfl);clear ha;go_wp2;go_ret;exact⟨by rw[<-qa.o];rfl,rfl⟩};have qo:k=l1.length:=qO;subst qo;by_cases qe:l1.length<l2.length;{have qa:=Hx (show-1=R by rw[<-HL.o,D5 (yX _),Ju qe];rfl);go_wp2;go_ret;exact⟨by rw[<-qa.o];rfl,rfl⟩};have qa:=Hx (show 0=R by rw[<-HL.o,D5 (yX _),D5 (show l2.length<=l1.length by omega)];rfl);go_wp2;go_ret;exact⟨by rw[<-qa.o];rfl,rfl⟩
def kP(p q:Rat)(x y:LN):Int:=FH (aW p q) (aI x.length y.length) (bG x y)
def jzb9(k1 d1 na k2 d2 nb:Bool)A1(n1 c1:Nat)kr(n1' c1':Nat)A2(n2 c2:Nat)mg(ko c2':Nat)AX AY(cx cy:Nat)(p q:Rat)(x y:LN)w
  (ha:aC w na A1 n1 c1 kr n1' c1' p) (hb:aC w nb A2 n2 c2 mg ko c2' q) (l1:n1<=268435456) (EO:n1'<=268435456) (l2:n2<=268435456) (Fw:ko<=268435456) (hx:Rd w AX (ints x)) (hy:Rd w AY (ints y)) (hxl:x.length<=1000000) (hyl:y.length<=1000000):
  Calls prog 109 #[.agg #[.bool k1,.bool d1,.bool na,.s A1 n1 c1,.s kr n1' c1',.s AX x.length cx],.agg #[.bool k2,.bool d2,.bool nb,.s A2 n2 c2,.s mg ko c2',.s AY y.length cy]] w fun e w'=>e=.returned (vI (kP p q x y))/\Ext w w':=by
 obtain⟨qe,qa,e0⟩:=cN w #[.bool k1,.bool d1,.bool na,.s A1 n1 c1,.s kr n1' c1',.s AX x.length cx] 170 #[.bool k2,.bool d2,.bool nb,.s A2 n2 c2,.s mg ko c2',.s AY y.length cy] 170;have HA:=Hx ha;have HB:=Hx hb;have HX:=Hx hx;have HY:=Hx hy;obtain⟨R,hR⟩:∃R,R=kP p q x y:=⟨_,rfl⟩;have HR:=Hx hR;rw[<-hR];clear ha hb hx hy hR;generalize hW:(w.alloc (.cells #[.bool k1,.bool d1,.bool na,.s A1 n1 c1,.s kr n1' c1',.s AX x.length cx] 170)).alloc (.cells #[.bool k2,.bool d2,.bool nb,.s A2 n2 c2,.s mg ko c2',.s AY y.length cy] 170)=W at*;have qm:=qe.cell 2;have qg:=qe.cell 3;have qh:=qe.cell 4;have qj:=qe.cell 5;have qn:=qa.cell 2;have qi:=qa.cell 3;have qf:=qa.cell 4;have qk:=qa.cell 5;simp only[xI,EP,List.getElem?_cons_succ]at qm qg qh qj qn qi qf qk;have BA:=Hx qe;have BB:=Hx qa;have E0:=Hx e0;clear qe qa e0;go_enter func109,ntmps109;go_wp2;clear hW;have W0:Hid (Ext w W.drew):=Hx (E0.o.drewN 1);have BA:Hid (ak W.drew _ _ _):=BA.o;have BB:Hid (ak W.drew _ _ _):=BB.o
 go_region_held3 (fun w'=>w'.C w.heap.size 2 (.bool na)/\w'.C w.heap.size 3 (.s A1 n1 c1)/\w'.C w.heap.size 4 (.s kr n1' c1')/\w'.C w.heap.size 5 (.s AX x.length cx)/\
   w'.C (w.heap.size+1) 2 (.bool nb)/\w'.C (w.heap.size+1) 3 (.s A2 n2 c2)/\w'.C (w.heap.size+1) 4 (.s mg ko c2')/\w'.C (w.heap.size+1) 5 (.s AY y.length cy))
  (first|exact⟨qm,qg,qh,qj,qn,qi,qf,qk⟩|exact⟨aS qm _,aS qg _,aS qh _,aS qj _,aS qn _,aS qi _,aS qf _,aS qk _⟩)
  (first
   |(go_at_call 19
     refine(gT na nb A1 n1 c1 kr n1' c1' A2 n2 c2 mg ko c2' p q _ (by exact HA.o.K W0.o) (by exact HB.o.K W0.o) l1 EO l2 Fw).r fun w5 qo=>?_;have X5:=Hx (W0.o.tr qo);have B5:=Hx (BA.o.K qo);have C5:=Hx (BB.o.K qo);have qm:=B5.o.cell 2;have qg:=B5.o.cell 3;have qh:=B5.o.cell 4;have qj:=B5.o.cell 5;have qn:=C5.o.cell 2;have qi:=C5.o.cell 3;have qf:=C5.o.cell 4;have qk:=C5.o.cell 5;simp only[xI,EP,List.getElem?_cons_succ]at qm qg qh qj qn qi qf qk;clear qo)
   |(go_at_call 165
     refine(pW x.length y.length _).mono ?_;rintro e w6 ⟨rfl,rfl⟩)
   |(go_at_call 166
     refine(jzb8 AX AY cx cy x y _ (by exact HX.o.K X5.o) (by exact HY.o.K X5.o) hxl hyl).mono ?_;rintro e w6 ⟨rfl,rfl⟩)
   |(go_at_call 164
     refine(jzb6 w5.heap.size (aW p q) (aI x.length y.length) (bG x y) _ (eN _ _ _)).mono ?_;rintro e w7 ⟨rfl,rfl⟩;have qp:=Hx (X5.o.alloc (.cells #[vI (aW p q),vI (aI x.length y.length),vI (bG x y)] 3))))
 all_goals
  go_wp2;go_ret;exact⟨by rw[HR.o];rfl,qp.o⟩
def nu(ps:LQ)(aj:LN):Rat:=aj.foldl (fun s a=>s+ps[a]?.getD 0) 0
def jzca(ps:LQ)(aj:LN)(a:Nat):nu ps (aj++[a])=nu ps aj+ps[a]?.getD 0:=by unfold nu;rw[Jq];rfl
structure Lb where
 known:Bool
 done:Bool
 aj:LN
def GH(w:World)(ps:LQ)(cs:List Value)(lb:Lb):Prop:=
 ∃(neg:Bool) (A:OA) (n c:Nat) (A':OA) (n' c':Nat) (AX:OA) (cx:Nat),cs=[.bool lb.known,.bool lb.done,.bool neg,.s A n c,.s A' n' c',.s AX lb.aj.length cx]/\aC w neg A n c A' n' c' (nu ps lb.aj)/\lb.aj.length<=cx/\og w 3 AX (ints lb.aj)
def GH.K{w w'}{ps:LQ}{cs:List Value}{lb:Lb}(h:GH w ps cs lb)(hx:Ext w w'):GH w' ps cs lb:=by
 obtain⟨neg,A,n,c,A',n',c',AX,cx,e,h1,h2,h3⟩:=h;exact⟨neg,A,n,c,A',n',c',AX,cx,e,h1.K hx,h2,h3.K hx⟩
def cY(w:World)(ps:LQ)(g:Nat)(ls:List Lb):Prop:=
 ∃css:List (List Value),css.length=ls.length/\(∀cs∈css,cs.length=6)/\ak w g 170 css.flatten.toArray/\∀(i:Nat) (lb:Lb),ls[i]?=some lb->∃cs,css[i]?=some cs/\GH w ps cs lb
def cY.K{w w'}{ps:LQ}{g:Nat}{ls:List Lb}(h:cY w ps g ls)(hx:Ext w w'):cY w' ps g ls:=by
 obtain⟨css,h1,h2,h3,h4⟩:=h;refine⟨css,h1,h2,h3.K hx,fun i lb hl=>?_⟩;obtain⟨cs,k1,k2⟩:=h4 i lb hl;exact⟨cs,k1,k2.K hx⟩
def cY.lt{w}{ps:LQ}{g:Nat}{ls:List Lb}(h:cY w ps g ls):g<w.heap.size:=by
 obtain⟨css,_,_,h3,_⟩:=h;exact h3.lt
def cY.at_{w}{ps:LQ}{g:Nat}{ls:List Lb}(h:cY w ps g ls){i:Nat}{lb:Lb}(hl:ls[i]?=some lb):
  ∃(neg:Bool) (A:OA) (n c:Nat) (A':OA) (n' c':Nat) (AX:OA) (cx:Nat),
   (w.C g (i*6) (.bool lb.known)/\w.C g (i*6+1) (.bool lb.done)/\w.C g (i*6+2) (.bool neg)/\w.C g (i*6+3) (.s A n c)/\w.C g (i*6+4) (.s A' n' c')/\w.C g (i*6+5) (.s AX lb.aj.length cx))/\
   aC w neg A n c A' n' c' (nu ps lb.aj)/\lb.aj.length<=cx/\og w 3 AX (ints lb.aj):=by
 obtain⟨css,h1,h2,h3,h4⟩:=h;obtain⟨cs,k1,neg,A,n,c,A',n',c',AX,cx,rfl,k2,k3,k4⟩:=h4 i lb hl;have hi:=(yH.1 hl).1;have qa:∀k,k<6->w.cell? (aD g (i*6+k))=([.bool lb.known,.bool lb.done,.bool neg,.s A n c,.s A' n' c',.s AX lb.aj.length cx]:List Value)[k]?:=fun k hk=>(by rw[h3.cell,xI,dV css h2 i k qO hk,k1];rfl);exact⟨neg,A,n,c,A',n',c',AX,cx,⟨qa 0 qO,qa 1 qO,qa 2 qO,qa 3 qO,qa 4 qO,qa 5 qO⟩,k2,k3,k4⟩
def bJ(ps:LQ)(x y:LN):Bool:=decide (kP (nu ps x) (nu ps y) x y<0)
def cI(ps:LQ)(ls:List Lb):Nat->Int
 |0=> -1
 |k+1=>match ls[k]? with
  |none=>cI ps ls k
  |some l=>if l.known&&!l.done&&(decide (cI ps ls k<0)||bJ ps l.aj ((ls[(cI ps ls k).toNat]?.map Lb.aj).getD []))then(k:Int)else cI ps ls k
def bZ(ps:LQ)(ls:List Lb):Int:=cI ps ls ls.length
def uO(ps:LQ)(ls:List Lb):∀k,cI ps ls k= -1\/(0<=cI ps ls k/\(cI ps ls k).toNat<k/\(cI ps ls k).toNat<ls.length)
 |0=>.inl rfl
 |k+1=>by
  have ih:=uO ps ls k;unfold cI
  split
  ·rcases ih with h|h
   ·exact .inl h
   ·exact .inr ⟨h.1,qO,h.2.2⟩
  ·rename_i l hl
   split
   ·have:=(yH.1 hl).1
    exact .inr ⟨qO,qO,qO⟩
   ·rcases ih with h|h
    ·exact .inl h
    ·exact .inr ⟨h.1,qO,h.2.2⟩
def SzL(ps:LQ)(ls:List Lb):Prop:=∀lb∈ls,dx (nu ps lb.aj) 268435456/\lb.aj.length<=1000
def jzks(g:Nat)(ps:LQ)(ls:List Lb)w(h:cY w ps g ls)(hsz:SzL ps ls)(hl:ls.length<=1000):
  Calls prog 105 #[.s (sA g) ls.length ls.length] w fun e w'=>e=.returned (vI (bZ ps ls))/\Ext w w':=by
 have H:=Hx h;have SZ:=Hx hsz;clear h hsz;go_enter func105,ntmps105;go_wp2;go_loopg [3,4,5,8] ls.length (fun m bt _ _ it wr=>∃k:Nat,ls.length-k=m/\k<=ls.length/\it=vI k/\bt=vI (cI ps ls k)/\Ext w wr);exact⟨0,rfl,yZ _,rfl,rfl,eR _⟩
 obtain⟨k,rfl,hk,rfl,rfl,hx⟩:=hrel;have EX:=Hx hx;have qJ:=uO ps ls k;have qk:=Hx (show cI ps ls (k+1)=match ls[k]? with
  |none=>cI ps ls k
  |some l=>if l.known&&!l.done&&(decide (cI ps ls k<0)||bJ ps l.aj ((ls[(cI ps ls k).toNat]?.map Lb.aj).getD []))then(k:Int)else cI ps ls k from rfl)
 generalize hbb:cI ps ls k=b at*;have qU:=Hx hbb;clear hbb;clear hx;by_cases qM:k<ls.length;{obtain⟨lb,qh⟩:∃lb,ls[k]?=some lb:=⟨_,yG qM⟩;obtain⟨neg,A,n,c,A',n',c',AX,cx,⟨i0,i1,i2,i3,i4,i5⟩,hR,qz,qw⟩:=(H.o.K EX.o).at_ qh;have qa:=qk.o;rw[qh]at qa;have qe:=Hx qa;have qp:=Hx (SZ.o lb (yJ qh));have R:=Hx hR;have X:=Hx qw;clear qa hR qw qh qk;(go_upto_region 5 with fail);obtain⟨kn,dn,aj⟩:=lb;simp only[]at i0 i1 i5 qz;obtain⟨bx,e0⟩:=aU wr #[.bool kn,.bool dn,.bool neg,.s A n c,.s A' n' c',.s AX aj.length cx] 170;generalize wr.alloc (.cells #[.bool kn,.bool dn,.bool neg,.s A n c,.s A' n' c',.s AX aj.length cx] 170)=W at*;have y0:=XW.cell _ _ _ bx.lt (bx.cell 0);have y1:=XW.cell _ _ _ bx.lt (bx.cell 1);have EW:=Hx (EX.o.tr e0);have E0:=Hx e0;have BX:=Hx bx;clear e0 bx i0 i1 i2 i3 i4 i5;go_cut [32] (fun s wx=>s=.bool (kn&&!dn&&(decide (b<0)||bJ ps aj ((ls[b.toNat]?.map Lb.aj).getD [])))/\Ext w wx);(case first=>cases kn;(case false=>refine cA qK qK ?_;(repeat (go_big_quiet_step (fail)));refine wpQuiet_nil ?_;rintro _ ⟨x,rfl⟩;go_wp2;go_meet;exact⟨rfl,EW.o.tr x.ext⟩);cases dn;(case true=>refine cA qK qK ?_;(repeat (go_big_quiet_step (fail)));refine wpQuiet_nil ?_;rintro _ ⟨x,rfl⟩;go_wp2;go_meet;exact⟨rfl,EW.o.tr x.ext⟩);(rcases qJ with hb|⟨hb0,hbk,hbl⟩);{subst hb;have qC:decide ((-1:Int)<0)=true:=rfl;refine cA qK qK ?_;(repeat (go_big_quiet_step (fail)));refine wpQuiet_nil ?_;rintro _ ⟨x,rfl⟩;go_wp2;go_meet;exact⟨rfl,EW.o.tr x.ext⟩};obtain⟨m,rfl⟩:∃m:Nat,b=(m:Int):=⟨b.toNat,qO⟩;rw[xL]at hbk hbl;obtain⟨lm,qi⟩:∃lm,ls[m]?=some lm:=⟨_,yG hbl⟩;have qn:=Hx (SZ.o lm (yJ qi));have HV:=Hx (show bJ ps aj ((ls[m]?.map Lb.aj).getD [])=bJ ps aj lm.aj by rw[qi];rfl);obtain⟨qj,A2,n2,c2,qA,qI,qT,qH,qB,⟨j0,j1,j2,j3,j4,j5⟩,qy,qQ,qg⟩:=(H.o.K EW.o).at_ qi;have qf:=(H.o.K EW.o).lt;have z0:=XW.cell _ _ _ qf j0;have z1:=XW.cell _ _ _ qf j1;have z2:=XW.cell _ _ _ qf j2;have z3:=XW.cell _ _ _ qf j3;have z4:=XW.cell _ _ _ qf j4;have z5:=XW.cell _ _ _ qf j5;have y2:=XW.cell _ _ _ BX.o.lt (BX.o.cell 2);have y3:=XW.cell _ _ _ BX.o.lt (BX.o.cell 3);have y4:=XW.cell _ _ _ BX.o.lt (BX.o.cell 4);have y5:=XW.cell _ _ _ BX.o.lt (BX.o.cell 5);have R2:=Hx qy;have X2:=Hx qg;have qY:(m:Int)<(ls.length:Int):=qO;have qX:(0:Int)<=(m:Int):=qO;have qC:decide ((m:Int)<0)=false:=qS;have qt:=R.o.lens qp.o.1;have qo:=R2.o.lens qn.o.1;clear qi qy qg j0 j1 j2 j3 j4 j5;refine cA qK qK ?_;(repeat (go_big_quiet_step ((go_at_call 109;exact Calls.ru (jzb9 _ _ neg _ _ qj A n c A' n' c' A2 n2 c2 qA qI qT AX qH cx qB (nu ps aj) (nu ps lm.aj) aj lm.aj _ (R.o.K (E0.o.tr (XW.ext _))) (R2.o.K (XW.ext _)) qt.1 qt.2 qo.1 qo.2 (X.o.rd.K (E0.o.tr (XW.ext _))) (X2.o.rd.K (XW.ext _)) (by have:=qp.o.2;simp only[]at this;omega) (by have:=qn.o.2;omega))))));refine wpQuiet_nil ?_;rintro _ ⟨x,rfl⟩;go_wp2;go_meet;refine⟨?_,EW.o.tr x.ext⟩;rw[xL,HV.o];rfl);obtain⟨rfl,qm⟩:=hcut;have qx:=Hx qm;clear qm y0 y1;have qa:=qe.o;simp only[]at qa;generalize (kn&&!dn&&(decide (b<0)||bJ ps aj ((ls[b.toNat]?.map Lb.aj).getD [])))=cond at*;cases cond;(case false=>have HS:=Hx (show cI ps ls (k+1)=b by rw[qa];rfl);clear qa qe;go_wp2;go_roundg (ls.length-(k+1));exact⟨k+1,rfl,qO,by go_num,by rw[HS.o],qx.o⟩;omega);have HS:=Hx (show cI ps ls (k+1)=(k:Int) by rw[qa];rfl);clear qa qe;go_wp2;go_roundg (ls.length-(k+1));exact⟨k+1,rfl,qO,by go_num,by rw[HS.o],qx.o⟩;omega};have qV:k=ls.length:=qO;subst qV;go_wp2;go_ret;exact⟨by unfold bZ;rw[qU.o];rfl,EX.o⟩
def dx.mono{q:Rat}{k m:Nat}(h:dx q k)(hm:k<=m):dx q m:=⟨yL h.1 (DU bA hm),yL h.2 (DU bA hm)⟩
def dx.zero:dx 0 1:=⟨qD,qD⟩
def dx.add{a b:Rat}{k m:Nat}(ha:dx a k)(hb:dx b m):dx (a+b) (k+m+1):=by
 have hd:a.den*b.den≠0:=Hq a.den_nz b.den_nz;have e:=Rat.add_def' a b;obtain⟨g,hg,e1,e2⟩:∃g:Nat,g≠0/\a.num*b.den+b.num*a.den=(a+b).num*g/\a.den*b.den=(a+b).den*g:=(by have hq:mkRat (a.num*b.den+b.num*a.den) (a.den*b.den)=⟨(a+b).num,(a+b).den,(a+b).den_nz,(a+b).reduced⟩:=e.symm;exact Rat.mkRat_num_den hd hq);have h1:1<=g:=qO;have hk:0<dh^k:=Du bA;have hm:0<dh^m:=Du bA;have p1:a.num.natAbs*b.den<dh^k*dh^m:=J7 ha.1 (Bg hb.2) hm;have p2:b.num.natAbs*a.den<dh^m*dh^k:=J7 hb.1 (Bg ha.2) hk;have p3:a.den*b.den<dh^k*dh^m:=J7 ha.2 (Bg hb.2) hm;have hB:dh^(k+m+1)=dh^k*dh^m*dh:=(by rw[vD,Nat.pow_add]);rw[vE (dh^m)]at p2;unfold dx;rw[hB];generalize dh^k*dh^m=Z at*;have hZ:2*Z<=Z*dh:=(by rw[vE];exact Dx _ qD);constructor;{(have q1:(a.num*b.den+b.num*a.den).natAbs=(a+b).num.natAbs*g:=by rw[e1,Int.natAbs_mul];rfl);have q2:(a.num*b.den+b.num*a.den).natAbs<=a.num.natAbs*b.den+b.num.natAbs*a.den:=(by refine yY (Int.natAbs_add_le _ _) ?_;rw[Int.natAbs_mul,Int.natAbs_mul];exact yX _);have q3:(a+b).num.natAbs*1<=(a+b).num.natAbs*g:=Dx _ h1;omega};have q3:(a+b).den*1<=(a+b).den*g:=Dx _ h1;omega
def dx.pr{ps:LQ}{P:Nat}(hP:1<=P)(h:∀q∈ps,dx q P)(aj:LN):dx (nu ps aj) (1+aj.length*(P+1)):=by
 have qa:∀(l:LN) (s:Rat) (k:Nat),dx s k->dx (l.foldl (fun s a=>s+ps[a]?.getD 0) s) (k+l.length*(P+1)):=(by intro l;(induction l with|nil=>intro s k hs;simpa using hs|cons a l ih=>intro s k hs;have h1:dx (ps[a]?.getD 0) P:=(by by_cases ha:a<ps.length;{rw[yG ha];exact h _ (xR ha)};rw[yI qO];exact dx.zero.mono hP);have:=ih _ _ (hs.add h1);rw[List.foldl_cons];refine this.mono ?_;rw[Dw,xP,xQ];omega));exact qa aj 0 1 dx.zero
def dH(ls:List Lb)(n:Nat):LN:=(ls[n]?.map Lb.aj).getD []
def dW(t:Tp)(down:List Bool)(ps:LQ)(d n:Nat)(ls:List Lb)(a:Nat):List Lb:=
 match ls[(aK t a).toNat]? with
 |none=>ls
 |some lm=>if lm.done||!cV t down a d then ls else if !lm.known||bJ ps (dH ls n++[a]) lm.aj then ls.set (aK t a).toNat ⟨true,false,dH ls n++[a]⟩else ls
def eF(ls:List Lb)(n:Nat):List Lb:=match ls[n]? with
 |none=>ls
 |some l=>ls.set n ⟨l.known,true,l.aj⟩
def cM(ls:List Lb):Nat:=ls.countP (fun l=>!l.done)
def gD(t:Tp)(down:List Bool)(ps:LQ)(d:Nat):Nat->List Lb->Option (LN)
 |0,_=>none
 |f+1,ls=>if bZ ps ls<0 then none else if(bZ ps ls).toNat=d then some (dH ls (bZ ps ls).toNat)else
  gD t down ps d f ((aL t (bZ ps ls).toNat).foldl (dW t down ps d (bZ ps ls).toNat) (eF ls (bZ ps ls).toNat))
def cC(N s:Nat):List Lb:=(List.replicate N ⟨false,false,[]⟩).set s ⟨true,false,[]⟩
def eH(t:Tp)(down:List Bool)(ps:LQ)(s d:Nat):Option (LN):=gD t down ps d (t.nodes.toNat+1) (cC t.nodes.toNat s)
def nL(ps:LQ)(ls:List Lb):∀k,0<=cI ps ls k->∃l,ls[(cI ps ls k).toNat]?=some l/\l.known=true/\l.done=false
 |0,h=>by simp[cI]at h
 |k+1,h=>by
  have ih:=nL ps ls k;unfold cI at h⊢
  split
  ·rename_i hl
   rw[hl]at h;exact ih h
  ·rename_i l hl
   rw[hl]at h;simp only[]at h
   split
   ·rename_i hc
    simp only[vM,Bool.not_eq_true']at hc;refine⟨l,by rw[xL];exact hl,hc.1.1,hc.1.2⟩
   ·rename_i hc
    rw[qF hc]at h;exact ih h
def jzcb{ls:List Lb}{m:Nat}{lm l:Lb}(h:ls[m]?=some lm)(hd:lm.done=false)(hl:l.done=false):cM (ls.set m l)=cM ls:=by
 unfold cM;(induction ls generalizing m with|nil=>simp at h|cons x ls ih=>(cases m with|zero=>simp at h;subst h;simp[List.countP_cons,hd,hl]|succ m=>simp at h;simp[List.countP_cons,ih h]))
def jzcc{ls:List Lb}{n:Nat}{l:Lb}(h:ls[n]?=some l)(hd:l.done=false):cM (eF ls n)+1=cM ls:=by
 unfold eF;rw[h];simp only[];unfold cM;(induction ls generalizing n with|nil=>simp at h|cons x ls ih=>(cases n with|zero=>simp at h;subst h;simp[List.countP_cons,hd]|succ n=>simp at h;have:=ih h;simp[List.countP_cons];omega))
def jzcd t(down:List Bool)(ps:LQ)(d n:Nat)(ls:List Lb)(a:Nat):cM (dW t down ps d n ls a)=cM ls:=by
 unfold dW;split;{rfl};rename_i lm hlm;split;{rfl};rename_i hc;simp only[Bool.or_eq_true,not_or,Bool.not_eq_true]at hc;split;{exact jzcb hlm hc.1 rfl};rfl
def nO(ls:List Lb):Prop:=∀l∈ls,l.aj.length+cM ls<=ls.length
def nP(ls:List Lb):cM ls<=ls.length:=List.countP_le_length
def og.other{w w'}{t t':TypeId}{A}{xs:List Value}{g:Nat}{cs':Array Value}(h:og w t A xs)(hg:w.grownBy w' (some g))(hb:ak w g t' cs')(hne:t≠t'):og w' t A xs:=
 h.grown hg (fun hx ad had e=>by
  obtain⟨b,o,cs,fr,e1,e2,_⟩:=h hx;rw[had]at e1;injection e1 with e1
  subst e1;injection e with e
  subst e;unfold ak at hb;rw[e2]at hb;injection hb with hb
  injection hb with _ hb
  exact hne hb)
def aE.other{w w'}{A}{n c N g:Nat}{t':TypeId}{cs':Array Value}(h:aE w A n c N)(hg:w.grownBy w' (some g))(hb:ak w g t' cs')(hne:196≠t'):aE w' A n c N:=by
 obtain⟨ds,h1,h2,h3,h4,h5⟩:=h;exact⟨ds,h1,h2,h3,h4,h5.other hg hb hne⟩
def aC.other{w w'}{neg:Bool}{A}{n c:Nat}{A'}{n' c':Nat}{q:Rat}{g:Nat}{t':TypeId}{cs':Array Value}(h:aC w neg A n c A' n' c' q)(hg:w.grownBy w' (some g))(hb:ak w g t' cs')(hne:196≠t'):aC w' neg A n c A' n' c' q:=
 ⟨h.1,h.2.1.other hg hb hne,h.2.2.other hg hb hne⟩
def GH.other{w w'}{ps:LQ}{cs:List Value}{lb:Lb}{g:Nat}{cs':Array Value}(h:GH w ps cs lb)(hg:w.grownBy w' (some g))(hb:ak w g 170 cs'):GH w' ps cs lb:=by
 obtain⟨neg,A,n,c,A',n',c',AX,cx,e,h1,h2,h3⟩:=h;exact⟨neg,A,n,c,A',n',c',AX,cx,e,h1.other hg hb qD,h2,h3.other hg hb qD⟩
def LL.other{w w'}{gl N g:Nat}{X:Nat->LN}{t':TypeId}{cs':Array Value}(h:LL w gl N X)(hg:w.grownBy w' (some g))(hb:ak w g t' cs')(h1:42≠t')(h2:3≠t'):LL w' gl N X:=by
 obtain⟨V,k1,k2⟩:=h;refine⟨V,(hg.block gl k1.lt (fun e=>k1.ne_ hb h1 (by injection e))).trans k1,fun i hi=>?_⟩;obtain⟨A,c,k3,k4,k5⟩:=k2 i hi;exact⟨A,c,k3,k4,k5.other hg hb h2⟩
def nQ{m:Nat}:∀(css:List (List Value)),(∀cs∈css,cs.length=m)->∀(i k:Nat) (v:Value),i<css.length->k<m->css.flatten.set (i*m+k) v=(css.set i ((css[i]?.getD []).set k v)).flatten
 | [],_,i,k,v,hi,_=>by simp at hi
 |cs::css,h,0,k,v,_,hk=>by
  rw[Nat.zero_mul,CU,List.flatten_cons,List.set_append_left _ _ (by rw[h cs qS];exact hk)];rfl
 |cs::css,h,i+1,k,v,hi,hk=>by
  have hl:=h cs qS;rw[List.flatten_cons,List.set_append_right _ _ (by rw[hl,xP,xQ];omega),hl,show(i+1)*m+k-m=i*m+k by rw[xP,xQ];omega];rw[nQ css (fun c hc=>h c (by simp[hc])) i k v (by simpa using hi) hk];simp
def cY.upd{w w'}{ps:LQ}{g m:Nat}{ls:List Lb}{lb:Lb}{cs:List Value}{css:List (List Value)}(h1:css.length=ls.length)(h2:∀cs∈css,cs.length=6)(h3:ak w g 170 css.flatten.toArray)(h4:∀(i:Nat) (lb:Lb),ls[i]?=some lb->∃cs,css[i]?=some cs/\GH w ps cs lb)
  (hg:w.grownBy w' (some g)) (hb:ak w' g 170 (css.set m cs).flatten.toArray) (hc:cs.length=6) (hl:GH w' ps cs lb) (hm:m<ls.length):cY w' ps g (ls.set m lb):=by
 refine⟨css.set m cs,by simp[h1],fun c hcc=>?_,hb,fun i l hi=>?_⟩;{(rcases xE hcc with h|h);{exact h2 c h};rw[h];exact hc};by_cases e:m=i;{subst e;(rw[yM hm]at hi;injection hi with hi);subst hi;exact⟨cs,by rw[yM qO],hl⟩};rw[vN e]at hi;obtain⟨c,k1,k2⟩:=h4 i l hi;exact⟨c,by rw[vN e];exact k1,k2.other hg h3⟩
def cY.mark{w}{ps:LQ}{g n:Nat}{ls:List Lb}{l:Lb}(h:cY w ps g ls)(hl:ls[n]?=some l):cY (w.setCell (aD g (n*6+1)) (.bool true)) ps g (eF ls n):=by
 have hn:=(yH.1 hl).1;obtain⟨css,h1,h2,h3,h4⟩:=h;obtain⟨cs,k1,k2⟩:=h4 n l hl;have hg:=aM w g (n*6+1) (.bool true);have qa:cs.length=6:=h2 cs (yJ k1);unfold eF;rw[hl];refine cY.upd (cs:=cs.set 1 (.bool true)) h1 h2 h3 h4 hg ?_ (by simp[qa]) ?_ hn;{have:=h3.sT (n*6+1) (.bool true);rw[yD,nQ css h2 n 1 _ qO qO,k1]at this;exact this};have:=k2.other hg h3;obtain⟨neg,A,n,c,A',n',c',AX,cx,e,q1,q2,q3⟩:=this;exact⟨neg,A,n,c,A',n',c',AX,cx,by rw[e];rfl,q1,q2,q3⟩
def jzkt(cs:List Value)(h:cs.length=6):∃a0 a1 a2 a3 a4 a5,cs=[a0,a1,a2,a3,a4,a5]:=by
 rcases cs with _|⟨a0,_|⟨a1,_|⟨a2,_|⟨a3,_|⟨a4,_|⟨a5,_|⟨a6,r⟩⟩⟩⟩⟩⟩⟩
 all_goals first|(simp at h;done)|exact⟨_,_,_,_,_,_,rfl⟩
def mI(css:List (List Value))(h2:∀cs∈css,cs.length=6)(m:Nat)(hml:m<css.length)(c1:List Value)(k:Nat)(v:Value)(hc:c1.length=6)(hk:k<6):((css.set m c1).flatten).set (m*6+k) v=(css.set m (c1.set k v)).flatten:=by
 have qa:∀c∈css.set m c1,c.length=6:=fun c hcc=>(by (rcases xE hcc with h|h);{exact h2 c h};rw[h];exact hc);have h:=nQ (css.set m c1) qa m k v (by rw[yV];exact hml) hk;rw[yM hml,DL,List.set_set]at h;exact h
def jzku(css:List (List Value))(h2:∀cs∈css,cs.length=6)(m:Nat)(hml:m<css.length){a0 a1 a2 a3 a4 a5:Value}(hcs:css[m]?=some [a0,a1,a2,a3,a4,a5])(v0 v1 v2 v3 v4 v5:Value):
  (((((css.flatten.set (m*6+0) v0).set (m*6+1) v1).set (m*6+2) v2).set (m*6+3) v3).set (m*6+4) v4).set (m*6+5) v5=(css.set m [v0,v1,v2,v3,v4,v5]).flatten:=by
 have e0:css.flatten=(css.set m [a0,a1,a2,a3,a4,a5]).flatten:=(by congr 1;apply uK;intro i;rw[kZs];split;{rename_i e;subst e;rw[hcs]};rfl);rw[e0,mI css h2 m hml _ 0 v0 rfl qO,mI css h2 m hml _ 1 v1 rfl qO,mI css h2 m hml _ 2 v2 rfl qO,mI css h2 m hml _ 3 v3 rfl qO,mI css h2 m hml _ 4 v4 rfl qO,mI css h2 m hml _ 5 v5 rfl qO];rfl
def cY.put{w}{ps:LQ}{g m:Nat}{ls:List Lb}{lb:Lb}{v0 v1 v2 v3 v4 v5:Value}(h:cY w ps g ls)(hm:m<ls.length)(hl:GH w ps [v0,v1,v2,v3,v4,v5] lb):
  cY ((((((w.setCell (aD g (m*6)) v0).setCell (aD g (m*6+1)) v1).setCell (aD g (m*6+2)) v2).setCell (aD g (m*6+3)) v3).setCell (aD g (m*6+4)) v4).setCell (aD g (m*6+5)) v5) ps g (ls.set m lb):=by
 obtain⟨css,h1,h2,h3,h4⟩:=h;have g0:=aM w g (m*6) v0;have g1:=g0.trans (aM _ g (m*6+1) v1);have g2:=g1.trans (aM _ g (m*6+2) v2);have g3:=g2.trans (aM _ g (m*6+3) v3);have g4:=g3.trans (aM _ g (m*6+4) v4);have g5:=g4.trans (aM _ g (m*6+5) v5);refine cY.upd (cs:=[v0,v1,v2,v3,v4,v5]) h1 h2 h3 h4 g5 ?_ rfl (hl.other g5 h3) hm;have b:=(((((h3.sT (m*6+0) v0).sT (m*6+1) v1).sT (m*6+2) v2).sT (m*6+3) v3).sT (m*6+4) v4).sT (m*6+5) v5;have qe:m<css.length:=qO;obtain⟨cs,qf⟩:∃cs,css[m]?=some cs:=⟨_,yG qe⟩;have qg:cs.length=6:=h2 cs (yJ qf);obtain⟨a0,a1,a2,a3,a4,a5,rfl⟩:∃a0 a1 a2 a3 a4 a5,cs=[a0,a1,a2,a3,a4,a5]:=jzkt cs qg;have qa:=jzku css h2 m qe qf v0 v1 v2 v3 v4 v5;simp only[yD]at b;rw[qa]at b;exact b
def Tryz.JO:(prog.info? 170).map (fun i=>(i.zero,i.size,i.bytes))=some (some (.agg rW),6,88):=by kernel_rfl
def jzkv(n:Nat)(hn:n<=1000)w:
  (Instr.makeSlice 168 (vI (n:Int)) (vI (n:Int))).run prog w=.ok (.s (sA w.heap.size) n n) (w.alloc (.cells (madeCells rW (n*6)) 170)):=by
 obtain⟨i,hi,hz,hs,hb⟩:=info_parts Tryz.JO;have qa:(i.bytes:Int)*(n:Int)<=281474976710656:=(by rw[hb];omega);have hr:=run_make (P:=prog) w 168 170 i _ underlying168 hi hz .i64 .i64 n n qO qO qa qO;simp only[xL]at hr;rw[hs]at hr;exact hr
def zeroCells:List Value:=[bF,bF,bF,zN,zN,zN]
def uP(N:Nat):madeCells rW (N*6)=(List.replicate N zeroCells).flatten.toArray:=by
 apply Array.ext';apply uK;intro i;have qa:∀cs∈List.replicate N zeroCells,cs.length=6:=fun cs h=>(by rw[uF h];rfl);have hl:=fR _ qa;rw[xC]at hl;by_cases hi:i<N*6;{have h1:=dV _ qa (i/6) (i%6) (by rw[xC];omega) qO;rw[show i/6*6+i%6=i by omega,xB,qE qO,DL]at h1;simp only[];rw[h1];have h2:(madeCells rW (N*6)).toList[i]?=some ((rW:Array Value)[i%6]!):=(by simp[madeCells,hi]);rw[h2];have h6:i%6=0\/i%6=1\/i%6=2\/i%6=3\/i%6=4\/i%6=5:=qO;rcases h6 with e|e|e|e|e|e <;> rw[e] <;> rfl};rw[yI (by simp[madeCells];omega),yI (by simp only[];omega)]
def fE w:aC w false none 0 0 none 0 0 0:=⟨qD,aE.zero _ _ _,aE.zero _ _ _⟩
def GH.zero w(ps:LQ):GH w ps zeroCells ⟨false,false,[]⟩:=⟨false,none,0,0,none,0,0,none,0,rfl,fE w,yX _,og.nil _ _ _⟩
def jzkw(w:World)(ps:LQ)(N n:Nat)(hn:n<N):
  cY (w.alloc (.cells ((madeCells rW (N*6)).setIfInBounds (n*6) (.bool true)) 170)) ps w.heap.size (cC N n):=by
 have qa:∀cs∈List.replicate N zeroCells,cs.length=6:=fun cs h=>(by rw[uF h];rfl);have hf:=nQ _ qa n 0 (.bool true) (by rw[xC];exact hn) qO;rw[Ef,xB,qE hn,DL]at hf;rw[uP,yD,hf];refine⟨_,by simp[cC],fun cs h=>?_,eN _ _ _,fun i lb hl=>?_⟩;{(rcases xE h with h|h);{exact qa cs h};rw[h];rfl};unfold cC at hl;by_cases e:n=i;{subst e;(rw[yM (by simpa using hn)]at hl;injection hl with hl);subst hl;exact⟨_,yM (by simpa using hn),false,none,0,0,none,0,0,none,0,rfl,fE _,yX _,og.nil _ _ _⟩};rw[vN e,xB]at hl;split at hl;{rename_i hi;(injection hl with hl);subst hl;exact⟨zeroCells,by rw[vN e,xB,qE hi],GH.zero _ _⟩};cases hl
def GJ(w:World)(g B:Nat):Prop:=∀(i:Nat) (AX:OA) (n cx:Nat),w.cell? (aD g (i*6+5))=some (.s AX n cx)->∀p,AX=some p->B<=p.block
def GJ.K{w w'}{g B:Nat}(h:GJ w g B)(hg:g<w.heap.size)(hx:Ext w w'):GJ w' g B:=fun i AX n cx hc=>h i AX n cx ((hx.cell (p:=(aD g (i*6+5))) hg).symm.trans hc)
def GJ.mark{w}{ps:LQ}{g B n:Nat}{ls:List Lb}(h:GJ w g B)(hl:cY w ps g ls)(u:Value):GJ (w.setCell (aD g (n*6+1)) u) g B:=fun i AX m cx hc=>by
 obtain⟨css,_,_,h3,_⟩:=hl;refine h i AX m cx ?_;rw[(h3.sT (n*6+1) u).cell,xH qO, <-h3.cell]at hc;exact hc
def GJ.put{w}{ps:LQ}{g B m:Nat}{ls:List Lb}(h:GJ w g B)(hl:cY w ps g ls)(v0 v1 v2 v3 v4:Value){AX:OA}{n cx:Nat}(hA:∀p,AX=some p->B<=p.block):
  GJ ((((((w.setCell (aD g (m*6)) v0).setCell (aD g (m*6+1)) v1).setCell (aD g (m*6+2)) v2).setCell (aD g (m*6+3)) v3).setCell (aD g (m*6+4)) v4).setCell (aD g (m*6+5)) (.s AX n cx)) g B:=fun i AX' n' cx' hc=>by
 obtain⟨css,_,_,h3,_⟩:=hl;have b:=(((((h3.sT (m*6) v0).sT (m*6+1) v1).sT (m*6+2) v2).sT (m*6+3) v3).sT (m*6+4) v4).sT (m*6+5) (.s AX n cx);rw[b.cell]at hc;by_cases e:i=m;{subst e;rw[Array.getElem?_setIfInBounds_self]at hc;split at hc;{(injection hc with hc);(injection hc with hc _ _);exact fun p hp=>hA p (hc.trans hp)};{cases hc}};{rw[xH qO,xH qO,xH qO,xH qO,xH qO,xH qO, <-h3.cell]at hc;exact h i AX' n' cx' hc}
def GJ.made(w:World)(N n B:Nat):GJ (w.alloc (.cells ((madeCells rW (N*6)).setIfInBounds (n*6) (.bool true)) 170)) w.heap.size B:=fun i AX m cx hc p hp=>by
 have qa:∀cs∈List.replicate N zeroCells,cs.length=6:=fun cs h=>(by rw[uF h];rfl);rw[(eN w _ _).cell,xH qO,uP,xI]at hc;by_cases hi:i<N;{rw[dV _ qa i 5 (by rw[xC];exact hi) qO,xB,qE hi]at hc;(injection hc with hc);(injection hc with hc);rw[<-hc]at hp;cases hp};{have hl:=fR _ qa;rw[xC]at hl;rw[yI qO]at hc;cases hc}
structure gZ(w wr:World)(t:Tp)(AO:OA)(co:Nat)(AL:OA)(cl:Nat)(ps:LQ)(g Io N:Nat)(ls:List Lb):Prop where
 tt:ak wr w.heap.size 25 #[vI t.nodes,.s AO t.over.length co,.s AL t.links.length cl]
 rr:ak wr (w.heap.size+1) 33 rV
 lab:cY wr ps g ls
 len:ls.length=N
 ok:nO ls
 ll:LL wr Io N (aL t)
 gg:w.heap.size+2<=g
 ext:Ext w wr
 fa:GJ wr g w.heap.size
def gZ.K{w wr w'}{t}{AO}{co:Nat}{AL}{cl:Nat}{ps:LQ}{g Io N:Nat}{ls:List Lb}(h:gZ w wr t AO co AL cl ps g Io N ls)(hx:Ext wr w'):gZ w w' t AO co AL cl ps g Io N ls:=
 ⟨h.tt.K hx,h.rr.K hx,h.lab.K hx,h.len,h.ok,h.ll.K hx,h.gg,h.ext.tr hx,h.fa.K h.lab.lt hx⟩
def gZ.turn{w wr w'}{t}{AO}{co:Nat}{AL}{cl:Nat}{ps:LQ}{g Io N:Nat}{ls ls':List Lb}(h:gZ w wr t AO co AL cl ps g Io N ls)(hg:wr.grownBy w' (some g))(hl:cY w' ps g ls')(hlen:ls'.length=N)(hok:nO ls')(hfa:GJ w' g w.heap.size):gZ w w' t AO co AL cl ps g Io N ls':=by
 obtain⟨css,h1,h2,h3,h4⟩:=h.lab;have qa:=h.gg;exact⟨(hg.block _ h.tt.lt (fun e=>by injection e with e;omega)).trans h.tt,(hg.block _ h.rr.lt (fun e=>by injection e with e;omega)).trans h.rr,hl,hlen,hok,h.ll.other hg h3 qD qD,qa,Below.grown h.ext hg h.ext.size (fun k hk=>by injection hk with hk;omega),hfa⟩
def jzce{ps:LQ}{P N:Nat}{ls:List Lb}(hP:1<=P)(hP2:P<=1000000)(h:∀q∈ps,dx q P)(hok:nO ls)(hl:ls.length=N)(hN:N<=64):SzL ps ls:=fun lb hlb=>by
 have h1:=hok lb hlb;refine⟨(dx.pr hP h lb.aj).mono ?_,qO⟩;have h2:lb.aj.length*(P+1)<=64*1000001:=DK qO qO;omega
def og.gK{w w'}{t t':TypeId}{A}{xs:List Value}{row:Option Nat}(h:og w t A xs)(hg:w.grownBy w' row)(hr:∀k,row=some k->∃cs fr,w.heap[k]?=some (.cells cs t' fr))(hne:t≠t'):og w' t A xs:=
 h.grown hg (fun hx ad had e=>by
  obtain⟨b,o,cs,fr,e1,e2,_⟩:=h hx;rw[had]at e1;injection e1 with e1
  subst e1;obtain⟨c9,f9,e9⟩:=hr _ e.symm;rw[e2]at e9;injection e9 with e9
  injection e9 with _ e9
  exact hne e9)
def aC.gK{w w'}{t':TypeId}{neg:Bool}{A}{n c:Nat}{A'}{n' c':Nat}{q:Rat}{row:Option Nat}(h:aC w neg A n c A' n' c' q)(hg:w.grownBy w' row)(hr:∀k,row=some k->∃cs fr,w.heap[k]?=some (.cells cs t' fr))(hne:196≠t'):aC w' neg A n c A' n' c' q:=by
 obtain⟨h1,⟨ds,a1,a2,a3,a4,a5⟩,⟨es,b1,b2,b3,b4,b5⟩⟩:=h;exact⟨h1,⟨ds,a1,a2,a3,a4,a5.gK hg hr hne⟩,⟨es,b1,b2,b3,b4,b5.gK hg hr hne⟩⟩
def ak.gK{w w'}{t t':TypeId}{g:Nat}{cs:Array Value}{row:Option Nat}(h:ak w g t cs)(hg:w.grownBy w' row)(hr:∀k,row=some k->∃cs fr,w.heap[k]?=some (.cells cs t' fr))(hne:t≠t'):ak w' g t cs:=
 (hg.block g h.lt (fun e=>by
  obtain⟨c9,f9,e9⟩:=hr _ e.symm;unfold ak at h;rw[h]at e9;injection e9 with e9
  injection e9 with _ e9
  exact hne e9)).trans h
def jzcf AX(cx:Nat)(l:LN)w(hq:og w 3 AX (ints l))(hl:l.length<=1000):
  Calls prog 108 #[.s AX l.length cx] w fun e w'=>∃v,e=.returned v/\w'.ownsRow w.heap.size 3 1 v l.length (ints l)/\Ext w w':=by
 (obtain⟨ti,hi,qi,qg,qh⟩:=info_parts Tryz.info3;cases AX with|none=>have hn:l=[]:=(by (cases l with|nil=>rfl|cons a l=>obtain⟨_,_,_,_,e,_⟩:=hq (by simp[ints]);cases e));subst hn;refine(Tryz.slices_Clone_nil 0 cx w).mono ?_;rintro e w' ⟨rfl,rfl⟩;exact⟨_,rfl,World.ownsRow_nil _ _ _ _,eR _⟩|some ad=>by_cases qf:l=[];{subst qf;refine(Tryz.slices_Clone_int_zero ad cx w).mono ?_;rintro e w' ⟨v',rfl,qa,_,qe⟩;exact⟨v',rfl,qa,qe⟩};obtain⟨b,o,cs,fr,e,hb,hc⟩:=hq (by simpa [ints]using qf);injection e with e;subst e;refine(Tryz.slices_Clone ti (vI 0) 1 8 hi qi qg qh rfl qD (fun w=>by simp[Go.sizeOf,typeInfo,hi,qg]) b o l.length cx (ints l) w (by simp[ints]) (by unfold maxLen;omega) qO ?_ (gW _)).mono ?_;{intro j u hj;have qj:=(yH.1 hj).1;rw[cell_of_row w b (o+j) cs _ fr hb,hc j qj];exact hj};rintro e w' ⟨v',rfl,qa,_,qe⟩;exact⟨v',rfl,qa,qe⟩)
def jzcg(w:World)(g m:Nat)(v0 v1 v2 v3 v4 v5:Value):w.grownBy ((((((w.setCell (aD g (m*6)) v0).setCell (aD g (m*6+1)) v1).setCell (aD g (m*6+2)) v2).setCell (aD g (m*6+3)) v3).setCell (aD g (m*6+4)) v4).setCell (aD g (m*6+5)) v5) (some g):=
 (((((aM w g (m*6) v0).trans (aM _ g (m*6+1) v1)).trans (aM _ g (m*6+2) v2)).trans (aM _ g (m*6+3) v3)).trans (aM _ g (m*6+4) v4)).trans (aM _ g (m*6+5) v5)
def jzch{w:World}{p:Addr}{v:Value}(h:w.cell? p=some v):w.drew.cell? p=some v:=h
def jzkx{w}{g:Nat}{a:Int}(h:ak w g 3 #[vI a]):Rd w (sA g) [vI a]:=(og.BM h rfl).rd
def Ie(B:Nat)(w:World)(A:OA)(xs:List Value):Prop:=og w 3 A xs/\∀p,A=some p->B<=p.block
def jzky{w:World}{B g c a:Nat}{l:LN}(h:w.ownsRow B 3 1 (.s (sA g) (l.length+1) c) (l.length+1) (ints l++[vI (a:Int)])):Ie B w (sA g) (ints (l++[a])):=by
 obtain⟨A',c',q1,q2,q3⟩:=fA (l:=l++[a]) (by rw[gU];exact h) qS;injection q1 with q1 _ q4;subst q1 q4;exact⟨q3,fun p hp=>by injection hp with hp;rw[<-hp];exact(h.lt g rfl).1⟩
def nS(w:World)(ps:LQ)(aj:LN)(p:Value)(wx:World):Prop:=
 ∃(gl:Nat) (neg:Bool) (A:OA) (n c:Nat) (A':OA) (n' c':Nat) (AX:OA) (cx:Nat),p=.pointer (sA gl)/\ak wx gl 170 #[.bool true,bF,.bool neg,.s A n c,.s A' n' c',.s AX aj.length cx]/\aC wx neg A n c A' n' c' (nu ps aj)/\aj.length<=cx/\Ie w.heap.size wx AX (ints aj)/\w.heap.size<=gl/\Ext w wx
def jzkz{W w:World}{ps:LQ}{aj:LN}{neg:Bool}{A}{n c:Nat}{A'}{n' c':Nat}{AX}{cx k:Nat}(hk:aj.length=k)(hR:aC w neg A n c A' n' c' (nu ps aj))(hc:aj.length<=cx)(hX:Ie W.heap.size w AX (ints aj))(hx:Ext W w):
  nS W ps aj (.pointer (sA w.heap.size)) (w.alloc (.cells #[.bool true,bF,.bool neg,.s A n c,.s A' n' c',.s AX k cx] 170)):=by
 subst hk;exact⟨w.heap.size,neg,A,n,c,A',n',c',AX,cx,rfl,eN _ _ _,hR.K ((eR w).alloc _),hc,⟨hX.1.K ((eR w).alloc _),hX.2⟩,hx.size,hx.alloc _⟩
def jzk0{W w:World}{ps:LQ}{aj:LN}{neg:Bool}{A}{n c:Nat}{A'}{n' c':Nat}{AX}{cx gl k:Nat}{z0 z1 z2 z3 z4 z5:Value}(hk:aj.length=k)(hb:ak w gl 170 #[z0,z1,z2,z3,z4,z5])(hR:aC w neg A n c A' n' c' (nu ps aj))(hc:aj.length<=cx)(hX:Ie W.heap.size w AX (ints aj))(hg:W.heap.size<=gl)(hx:Ext W w):
  nS W ps aj (.pointer (sA gl)) ((((((w.setCell (aD gl 0) (.bool true)).setCell (aD gl 1) bF).setCell (aD gl 2) (.bool neg)).setCell (aD gl 3) (.s A n c)).setCell (aD gl 4) (.s A' n' c')).setCell (aD gl 5) (.s AX k cx)):=by
 subst hk;have b0:=hb.sT 0 (.bool true);have b1:=b0.sT 1 bF;have b2:=b1.sT 2 (.bool neg);have b3:=b2.sT 3 (.s A n c);have b4:=b3.sT 4 (.s A' n' c');have b5:=b4.sT 5 (.s AX aj.length cx);refine⟨gl,neg,A,n,c,A',n',c',AX,cx,rfl,b5,?_,hc,?_,hg,?_⟩;{exact(((((hR.sT (p:=(aD gl 0)) hb qD _).sT (p:=(aD gl 1)) b0 qD _).sT (p:=(aD gl 2)) b1 qD _).sT (p:=(aD gl 3)) b2 qD _).sT (p:=(aD gl 4)) b3 qD _).sT (p:=(aD gl 5)) b4 qD _};{refine⟨?_,hX.2⟩;exact(((((hX.1.sT (p:=(aD gl 0)) hb qD _).sT (p:=(aD gl 1)) b0 qD _).sT (p:=(aD gl 2)) b1 qD _).sT (p:=(aD gl 3)) b2 qD _).sT (p:=(aD gl 4)) b3 qD _).sT (p:=(aD gl 5)) b4 qD _};exact(((((hx.sT (p:=(aD gl 0)) hg _).sT (p:=(aD gl 1)) hg _).sT (p:=(aD gl 2)) hg _).sT (p:=(aD gl 3)) hg _).sT (p:=(aD gl 4)) hg _).sT (p:=(aD gl 5)) hg _
def uQ(w:World)(g:Nat)(a b c:Value):w.grownBy (((w.setCell (aD g 0) a).setCell (aD g 1) b).setCell (aD g 2) c) (some g):=
 ((aM w g 0 a).trans (aM _ g 1 b)).trans (aM _ g 2 c)
def uf(w:World)(neg:Bool)(A:OA)(n c:Nat)(A':OA)(n' c':Nat)(q:Rat):Prop:=
 neg=decide (q.num<0)/\aJ w A n c q.num.natAbs/\aJ w A' n' c' (dk q)
def aJ.other{w w'}{A}{n c N g:Nat}{t':TypeId}{cs':Array Value}(h:aJ w A n c N)(hg:w.grownBy w' (some g))(hb:ak w g t' cs')(hne:3≠t'):aJ w' A n c N:=by
 obtain⟨ds,h1,h2,h3,h4,h5⟩:=h;exact⟨ds,h1,h2,h3,h4,h5.other hg hb hne⟩
section
variable {w w':World} {neg:Bool} {A:Option Addr} {n c:Nat} {A':Option Addr} {n' c':Nat} {q:Rat}
def uf.K(h:uf w neg A n c A' n' c' q)(hb:Ext w w'):uf w' neg A n c A' n' c' q:=⟨h.1,h.2.1.K hb,h.2.2.K hb⟩
def uf.other(h:uf w neg A n c A' n' c' q){g:Nat}{t':TypeId}{cs':Array Value}(hg:w.grownBy w' (some g))(hb:ak w g t' cs')(hne:3≠t'):uf w' neg A n c A' n' c' q:=
 ⟨h.1,h.2.1.other hg hb hne,h.2.2.other hg hb hne⟩
end
def gE(w:World)(q:Rat)(e:Ending)(w':World):Prop:=
 ∃(neg:Bool) (A:OA) (n c:Nat) (A':OA) (n' c':Nat),e=.returned (.agg #[.bool neg,.s A n c,.s A' n' c'])/\uf w' neg A n c A' n' c' q/\Ext w w'
def aJ.one{w}{A}{n c:Nat}(h:aJ w A n c 1):n=1/\∃b o:Nat,A=some (aD b o)/\b<w.heap.size/\w.cell? (aD b o)=some (vI 1):=by
 obtain⟨ds,hl,_,qa,hv,hr⟩:=h;have e:ds=[1]:=av.Canon.unique nI qa ⟨by simp[G6],qS⟩ (by rw[hv];simp[av.val]);subst e;obtain⟨b,o,e,hb,hc⟩:=hr.rd.ints (k:=0) qS;exact⟨by simpa using hl.symm,b,o,e,hb,(hc 0 qS).trans qS⟩
def aJ.KA{w}{A}{c N:Nat}(h:aJ w A 1 c N)(hN:N≠1):∃b o d:Nat,A=some (aD b o)/\b<w.heap.size/\w.C b o (vI (d:Int))/\((d:Int)==1)=false:=by
 obtain⟨ds,hl,_,qa,hv,hr⟩:=h;obtain⟨d,rfl⟩:∃d,ds=[d]:=(by (match ds,hl with| [d],_=>exact⟨d,rfl⟩));obtain⟨b,o,e,hb,hc⟩:=hr.rd.ints (k:=0) qS;refine⟨b,o,d,e,hb,(hc 0 qS).trans qS,?_⟩;simp[av.val]at hv;exact yK.2 qO
def jzk1(neg:Bool){n d:Nat}(hd:d≠0):dk (Am neg n d)=if d/n.gcd d=1 then 0 else d/n.gcd d:=by
 unfold dk;rw[nD neg hd]
def mJ{w W:World}{neg:Bool}{N D:Nat}{A A'}{n c n' c' g:Nat}{cs:Array Value}(hD:D≠0)(nb:Bool)(hn:nb=(neg&&N !=0))(h1:aJ W A n c (N/N.gcd D))(h2:aJ W A' n' c' (if D/N.gcd D=1 then 0 else D/N.gcd D))
  (hb:ak W g 45 cs) (hg:w.heap.size<=g) (hx:Ext w W):
  uf (((W.setCell (aD g 0) (.bool nb)).setCell (aD g 1) (.s A n c)).setCell (aD g 2) (.s A' n' c')) nb A n c A' n' c' (Am neg N D)/\Ext w (((W.setCell (aD g 0) (.bool nb)).setCell (aD g 1) (.s A n c)).setCell (aD g 2) (.s A' n' c')):=by
 refine⟨uf.other (w:=W) ⟨by rw[tM neg hD,hn],by rw[nC neg hD];exact h1,by rw[jzk1 neg hD];exact h2⟩ (uQ W g _ _ _) hb qD,?_⟩;exact((hx.sT (p:=(aD g 0)) hg _).sT (p:=(aD g 1)) hg _).sT (p:=(aD g 2)) hg _
def fS(w:World)(A A':OA):Prop:=(∀ad,A=some ad->w.heap.size<=ad.block)/\∀ad,A'=some ad->w.heap.size<=ad.block
def fS.le{w w':World}{A A'}(h:fS w' A A')(hx:w.heap.size<=w'.heap.size):fS w A A':=⟨fun ad e=>yY hx (h.1 ad e),fun ad e=>yY hx (h.2 ad e)⟩
def fS.zl{w}{A A'}(h:fS w A A'):fS w none A':=⟨fun _ e=>(by cases e),h.2⟩
def fS.zr{w}{A A'}(h:fS w A A'):fS w A none:=⟨h.1,fun _ e=>(by cases e)⟩
def nT(w:World)(q:Rat)(e:Ending)(w':World):Prop:=
 ∃(neg:Bool) (A:OA) (n c:Nat) (A':OA) (n' c':Nat),e=.returned (.agg #[.bool neg,.s A n c,.s A' n' c'])/\uf w' neg A n c A' n' c' q/\Ext w w'/\fS w A A'
def nT.ok{w w'}{q:Rat}{e:Ending}(h:nT w q e w'):gE w q e w':=by
 obtain⟨neg,A,n,c,A',n',c',k0,k1,k2,_⟩:=h;exact⟨neg,A,n,c,A',n',c',k0,k1,k2⟩
def jzci(neg:Bool)A1 A2(n1 c1 n2 c2 N D:Nat)w(h1:aJ w A1 n1 c1 N)(h2:aJ w A2 n2 c2 D)(hn1:n1<=1000000)(hn2:n2<=1000000)(hD:0<D):
  Calls prog 156 #[.bool neg,.s A1 n1 c1,.s A2 n2 c2] w fun e w'=>∃(nb:Bool) (A:OA) (n c:Nat) (A':OA) (n' c':Nat),e=.returned (.tuple #[.agg #[.bool nb,.s A n c,.s A' n' c'],vI 0])/\uf w' nb A n c A' n' c' (Am neg N D)/\Ext w w'/\fS w A A':=by
 obtain⟨b0,e0⟩:=aU w rV 45;have z2:((n2:Int)==0)=false:=(by have:=h2.iw;exact yK.2 qO);have H1:=Hx (h1.K e0);have H2:=Hx (h2.K e0);have qj:0<N.gcd D:=Nat.gcd_pos_of_pos_right N hD;have qh:N.gcd D<=D:=Nat.le_of_dvd hD (Nat.gcd_dvd_right N D);have G:=Hx (ah qj qh);have B0:=Hx (b0);have E0:=Hx (e0);clear h1 h2 b0 e0 qj qh;go_enter func156,ntmps156;go_wp2_with fail;refine(jzkl A1 A2 n1 c1 n2 c2 N D _ H1.o H2.o hn1 hn2).mono ?_;rintro e w1 ⟨A3,n3,c3,rfl,h3,x1⟩;have qz:n3<=n2:=h3.lenOf (Im G.o.2 H2.o.vv);have H3:=Hx (ah h3 (ah (H1.o.K x1) (H2.o.K x1)));have B1:=Hx (B0.o.K x1);have E1:=Hx (E0.o.tr x1);clear h3 x1;go_wp2_with fail;refine(uN A1 A3 n1 c1 n3 c3 N _ _ H3.o.2.1 H3.o.1 qO qO G.o.1).mono ?_;rintro e w2 ⟨A4,n4,c4,A5,n5,c5,rfl,h4,h5,x2,qn⟩;have qk:Hid (∀ad,A4=some ad->w.heap.size<=ad.block):=Hx (fun ad h=>yY E1.o.size (qn ad h));clear qn;have H4:=Hx (ah h4 (ah (H3.o.1.K x2) (H3.o.2.2.K x2)));have B2:=Hx (B1.o.K x2);have E2:=Hx (E1.o.tr x2);clear h4 h5 x2;go_wp2_with fail;refine(uN A2 A3 n2 c2 n3 c3 D _ _ H4.o.2.2 H4.o.2.1 qO qO G.o.1).mono ?_;rintro e w3 ⟨A6,n6,c6,A7,n7,c7,rfl,h6,h7,x3,qm⟩;have FR:Hid (fS w A4 A6):=Hx (⟨qk.o,fun ad h=>yY E2.o.size (qm ad h)⟩);clear qm qk;have qo:=(H4.o.1.K x3).iw;have H6:=Hx (ah (H4.o.1.K x3) h6);have B3:=Hx (B2.o.K x3);have E3:=Hx (E2.o.tr x3);obtain⟨⟨i0,i1,i2⟩,f0,f1,f2⟩:=B3.o.t3;have qp:N/N.gcd D=0↔N=0:=(by constructor;{intro h;(rcases Ee N with h0|h0);{exact h0};have:=Nat.div_pos (Nat.le_of_dvd h0 (Nat.gcd_dvd_left N D)) G.o.1;omega};intro h;rw[h];simp);have qg:=Hx qo;have qe:=Hx qp;clear h6 h7 x3 qo qp;by_cases qf:D/N.gcd D=1;{obtain⟨rfl,bb,oo,rfl,qw,qx⟩:n6=1/\∃b o:Nat,A6=some (aD b o)/\b<w3.heap.size/\w3.cell? (aD b o)=some (vI 1):=(by have h:=H6.o.2;rw[qf]at h;exact h.one);have DD:Hid (aJ w3 none 0 0 (if D/N.gcd D=1 then 0 else D/N.gcd D)):=Hx (by rw[qE qf];exact aJ.zero _ _ _);clear qf;by_cases qa:N=0;{obtain rfl:n4=0:=qg.o.2 (qe.o.2 qa);obtain⟨r1,r2⟩:=mJ (w:=w) (neg:=neg) (N:=N) (D:=D) (g:=w.heap.size) qO false (by rw[qa];simp) (by rw[qe.o.2 qa];exact aJ.zero w3 none 0) DD.o B3.o (yX _) E3.o;have q3:=((B3.o.sT 0 bF).sT 1 zN).sT 2 zN;have RF:=Hx (ah q3 (ah r1 r2));clear q3 r1 r2 qa;go_wp2;exact bodyPost_ret (v:=.tuple #[.agg rV,vI 0]) (by simp[results,results156,go_sem,RF.o.1.cell]) rfl ⟨_,_,_,_,_,_,_,rfl,RF.o.2.1,RF.o.2.2,FR.o.zr.zl⟩};have zn:((n4:Int)==0)=false:=yK.2 (fun h=>qa (qe.o.1 (qg.o.1 qO)));obtain⟨r1,r2⟩:=mJ (w:=w) (neg:=neg) (N:=N) (D:=D) (g:=w.heap.size) qO neg (by simp[qa]) H6.o.1 DD.o B3.o (yX _) E3.o;have q3:=((B3.o.sT 0 (.bool neg)).sT 1 (.s A4 n4 c4)).sT 2 zN;have RF:=Hx (ah q3 (ah r1 r2));clear q3 r1 r2 qa;go_wp2;exact bodyPost_ret (v:=.tuple #[.agg #[.bool neg,.s A4 n4 c4,zN],vI 0]) (by simp[results,results156,go_sem,RF.o.1.cell]) rfl ⟨_,_,_,_,_,_,_,rfl,RF.o.2.1,RF.o.2.2,FR.o.zr⟩};have DD:Hid (aJ w3 A6 n6 c6 (if D/N.gcd D=1 then 0 else D/N.gcd D)):=Hx (by rw[qF qf];exact H6.o.2);by_cases qi:n6=1;{subst qi;obtain⟨bb,oo,dd,rfl,qw,qx,qy⟩:=H6.o.2.KA qf;clear qf;by_cases qa:N=0;{obtain rfl:n4=0:=qg.o.2 (qe.o.2 qa);obtain⟨r1,r2⟩:=mJ (w:=w) (neg:=neg) (N:=N) (D:=D) (g:=w.heap.size) qO false (by rw[qa];simp) (by rw[qe.o.2 qa];exact aJ.zero w3 none 0) DD.o B3.o (yX _) E3.o;have q3:=((B3.o.sT 0 bF).sT 1 zN).sT 2 (.s (some (aD bb oo)) 1 c6);have RF:=Hx (ah q3 (ah r1 r2));clear q3 r1 r2 qa;go_wp2;exact bodyPost_ret (v:=.tuple #[.agg #[bF,zN,.s (some (aD bb oo)) 1 c6],vI 0]) (by simp[results,results156,go_sem,RF.o.1.cell]) rfl ⟨_,_,_,_,_,_,_,rfl,RF.o.2.1,RF.o.2.2,FR.o.zl⟩};have zn:((n4:Int)==0)=false:=yK.2 (fun h=>qa (qe.o.1 (qg.o.1 qO)));obtain⟨r1,r2⟩:=mJ (w:=w) (neg:=neg) (N:=N) (D:=D) (g:=w.heap.size) qO neg (by simp[qa]) H6.o.1 DD.o B3.o (yX _) E3.o;have q3:=((B3.o.sT 0 (.bool neg)).sT 1 (.s A4 n4 c4)).sT 2 (.s (some (aD bb oo)) 1 c6);have RF:=Hx (ah q3 (ah r1 r2));clear q3 r1 r2 qa;go_wp2;exact bodyPost_ret (v:=.tuple #[.agg #[.bool neg,.s A4 n4 c4,.s (some (aD bb oo)) 1 c6],vI 0]) (by simp[results,results156,go_sem,RF.o.1.cell]) rfl ⟨_,_,_,_,_,_,_,rfl,RF.o.2.1,RF.o.2.2,FR.o⟩};have qt:((n6:Int)==1)=false:=yK.2 qO;clear qf qi;by_cases qa:N=0;{obtain rfl:n4=0:=qg.o.2 (qe.o.2 qa);obtain⟨r1,r2⟩:=mJ (w:=w) (neg:=neg) (N:=N) (D:=D) (g:=w.heap.size) qO false (by rw[qa];simp) (by rw[qe.o.2 qa];exact aJ.zero w3 none 0) DD.o B3.o (yX _) E3.o;have q3:=((B3.o.sT 0 bF).sT 1 zN).sT 2 (.s A6 n6 c6);have RF:=Hx (ah q3 (ah r1 r2));clear q3 r1 r2 qa;go_wp2;exact bodyPost_ret (v:=.tuple #[.agg #[bF,zN,.s A6 n6 c6],vI 0]) (by simp[results,results156,go_sem,RF.o.1.cell]) rfl ⟨_,_,_,_,_,_,_,rfl,RF.o.2.1,RF.o.2.2,FR.o.zl⟩};have zn:((n4:Int)==0)=false:=yK.2 (fun h=>qa (qe.o.1 (qg.o.1 qO)));obtain⟨r1,r2⟩:=mJ (w:=w) (neg:=neg) (N:=N) (D:=D) (g:=w.heap.size) qO neg (by simp[qa]) H6.o.1 DD.o B3.o (yX _) E3.o;have q3:=((B3.o.sT 0 (.bool neg)).sT 1 (.s A4 n4 c4)).sT 2 (.s A6 n6 c6);have RF:=Hx (ah q3 (ah r1 r2));clear q3 r1 r2 qa;go_wp2;exact bodyPost_ret (v:=.tuple #[.agg #[.bool neg,.s A4 n4 c4,.s A6 n6 c6],vI 0]) (by simp[results,results156,go_sem,RF.o.1.cell]) rfl ⟨_,_,_,_,_,_,_,rfl,RF.o.2.1,RF.o.2.2,FR.o⟩
def jzcj(neg:Bool)A1 A2(n1 c1 n2 c2 N D:Nat)w(h1:aJ w A1 n1 c1 N)(h2:aJ w A2 n2 c2 D)(hn1:n1<=1000000)(hn2:n2<=1000000)(hD:0<D):
  Calls prog 156 #[.bool neg,.s A1 n1 c1,.s A2 n2 c2] w fun e w'=>∃(nb:Bool) (A:OA) (n c:Nat) (A':OA) (n' c':Nat),e=.returned (.tuple #[.agg #[.bool nb,.s A n c,.s A' n' c'],vI 0])/\uf w' nb A n c A' n' c' (Am neg N D)/\Ext w w':=
 (jzci neg A1 A2 n1 c1 n2 c2 N D w h1 h2 hn1 hn2 hD).mono fun e w' ⟨nb,A,n,c,A',n',c',k0,k1,k2,_⟩=>⟨nb,A,n,c,A',n',c',k0,k1,k2⟩
end Go.Proofs.YtfeeacaofjpkaaaGreatDoor
namespace Go.Proofs.YtfeeacaofjpkaaaGreatDoor
open Go.Proofs.Tryz
open Go.RowKit Go.Sort
def eI{w W:World}{nb:Bool}{A A'}{n c n' c' g:Nat}{q:Rat}{cs:Array Value}(h:uf W nb A n c A' n' c' q)(hb:ak W g 45 cs)(hg:w.heap.size<=g)(hx:Ext w W):
  uf (((W.setCell (aD g 0) (.bool nb)).setCell (aD g 1) (.s A n c)).setCell (aD g 2) (.s A' n' c')) nb A n c A' n' c' q/\Ext w (((W.setCell (aD g 0) (.bool nb)).setCell (aD g 1) (.s A n c)).setCell (aD g 2) (.s A' n' c')):=
 ⟨h.other (uQ W g _ _ _) hb qD,((hx.sT (p:=(aD g 0)) hg _).sT (p:=(aD g 1)) hg _).sT (p:=(aD g 2)) hg _⟩
def pX(neg:Bool)A1 A2(n1 c1 n2 c2 N D:Nat)w(h1:aJ w A1 n1 c1 N)(h2:aJ w A2 n2 c2 D)(hn1:n1<=1000000)(hn2:n2<=1000000)(hD:0<D):
  Calls prog 94 #[.bool neg,.s A1 n1 c1,.s A2 n2 c2] w (nT w (Am neg N D)):=by
 obtain⟨b0,e0⟩:=aU w rV 45;have H1:=Hx (h1.K e0);have H2:=Hx (h2.K e0);have B0:=Hx (b0);have E0:=Hx (e0);clear h1 h2 b0 e0;go_enter func94,ntmps94;go_wp2_with fail;refine(jzci neg A1 A2 n1 c1 n2 c2 N D _ H1.o H2.o hn1 hn2 hD).mono ?_;rintro e w1 ⟨nb,A,n,c,A',n',c',rfl,hq,x1,qa⟩;have FR:=Hx (qa.le E0.o.size);clear qa;have X1:=Hx ((eR w1).alloc (.cells #[.bool nb,.s A n c,.s A' n' c'] 45));have B1:=Hx ((B0.o.K x1).K X1.o);have E1:=Hx ((E0.o.tr x1).tr X1.o);have Q1:=Hx (hq.K X1.o);obtain⟨⟨j0,j1,j2⟩,_⟩:=(eN w1 45 #[.bool nb,.s A n c,.s A' n' c']).t3;obtain⟨⟨i0,i1,i2⟩,f0,f1,f2⟩:=B1.o.t3;clear x1 hq;obtain⟨r1,r2⟩:=eI (w:=w) Q1.o B1.o (yX _) E1.o;have q3:=((B1.o.sT 0 (.bool nb)).sT 1 (.s A n c)).sT 2 (.s A' n' c');have RF:=Hx (ah q3 (ah r1 r2));clear q3 r1 r2;go_wp2;exact bodyPost_ret (v:=.agg #[.bool nb,.s A n c,.s A' n' c']) (by simp[results,results94,go_sem,RF.o.1.cell]) rfl ⟨_,_,_,_,_,_,_,rfl,RF.o.2.1,RF.o.2.2,FR.o⟩
def uR(neg:Bool)A1 A2(n1 c1 n2 c2 N D:Nat)w(h1:aJ w A1 n1 c1 N)(h2:aJ w A2 n2 c2 D)(hn1:n1<=1000000)(hn2:n2<=1000000)(hD:0<D):
 Calls prog 94 #[.bool neg,.s A1 n1 c1,.s A2 n2 c2] w (gE w (Am neg N D)):=(pX neg A1 A2 n1 c1 n2 c2 N D w h1 h2 hn1 hn2 hD).mono fun e w' h=>h.ok
def jzck(x:Int)w(hx: -2147483648<x)(hx2:x<2147483648):
  Calls prog 158 #[vI x] w (iZ w x.natAbs):=by
 by_cases h0:x<0;{obtain⟨N,hN⟩:∃N:Nat,N=x.natAbs:=⟨_,rfl⟩;have qa:x= -(N:Int):=qO;have qe:1<=N:=qO;have qf:N<2147483648:=qO;rw[<-hN];subst qa;clear hN;have hd:decide (-(N:Int)<0)=true:=(by simp;omega);clear hx hx2 h0;go_enter func158,ntmps158;go_wp2_with fail;rw[show-(-(N:Int)+1)+1=(N:Int) by omega];refine(lM N _ qO).mono ?_;rintro e w1 ⟨A,n,c,rfl,h1,x1,fr⟩;have F:=Hx (ah h1 (ah x1 fr));clear h1 x1 fr;go_wp2;go_ret;exact⟨_,_,_,rfl,F.o.1,F.o.2.1,F.o.2.2⟩};(obtain⟨N,hN⟩:∃N:Nat,N=x.natAbs:=⟨_,rfl⟩;have qa:x=(N:Int):=qO;rw[<-hN];subst qa;clear hN;have hd:decide ((N:Int)<0)=false:=by simp);go_enter func158,ntmps158;go_wp2_with fail;refine(lM N _ qO).mono ?_;rintro e w1 ⟨A,n,c,rfl,h1,x1,fr⟩;have F:=Hx (ah h1 (ah x1 fr));clear h1 x1 fr;go_wp2;go_ret;exact⟨_,_,_,rfl,F.o.1,F.o.2.1,F.o.2.2⟩
def jzcl{w}{A}{n c:Nat}{x:Int}(h:aJ w A n c x.natAbs)(hx: -2147483648<x)(hx2:x<2147483648):n<=2:=h.lenOf (by
 have:G6^2=1000000000000:=qD;omega)
def jzk2(x y:Int)w(hx: -2147483648<x)(hx2:x<2147483648)(hy: -2147483648<y)(hy2:y<2147483648)(hy0:y≠0):
  Calls prog 100 #[vI x,vI y] w (gE w (ofQ x y)):=by
 obtain⟨b0,e0⟩:=aU w rV 45;have B0:=Hx (b0);have E0:=Hx (e0);clear b0 e0;go_enter func100,ntmps100;go_wp2_with fail;refine(jzck x _ hx hx2).mono ?_;rintro e w1 ⟨A1,n1,c1,rfl,h1,x1,_⟩;have l1:=jzcl h1 hx hx2;have H1:=Hx h1;have B1:=Hx (B0.o.K x1);have E1:=Hx (E0.o.tr x1);clear h1 x1;go_wp2_with fail;refine(jzck y _ hy hy2).mono ?_;rintro e w2 ⟨A2,n2,c2,rfl,h2,x2,_⟩;have l2:=jzcl h2 hy hy2;have H2:=Hx (ah (H1.o.K x2) h2);have B2:=Hx (B1.o.K x2);have E2:=Hx (E1.o.tr x2);clear h2 x2;generalize hng:(decide (x<0) !=decide (y<0))=ng at*;go_wp2_with fail;refine(uR _ A1 A2 n1 c1 n2 c2 _ _ _ H2.o.1 H2.o.2 qO qO qO).mono ?_;rintro e w3 ⟨nb,A,n,c,A',n',c',rfl,hq,x3⟩;have B3:=Hx (B2.o.K x3);have E3:=Hx (E2.o.tr x3);obtain⟨⟨i0,i1,i2⟩,f0,f1,f2⟩:=B3.o.t3;obtain⟨r1,r2⟩:=eI (w:=w) hq B3.o (yX _) E3.o;have q3:=((B3.o.sT 0 (.bool nb)).sT 1 (.s A n c)).sT 2 (.s A' n' c');have RF:=Hx (ah q3 (ah r1 r2));clear q3 r1 r2 hq x3;go_wp2;exact bodyPost_ret (v:=.agg #[.bool nb,.s A n c,.s A' n' c']) (by simp[results,results100,go_sem,RF.o.1.cell]) rfl ⟨_,_,_,_,_,_,_,rfl,RF.o.2.1,RF.o.2.2⟩
def jzk3{w:World}{B n:Nat}{e:TypeId}{v:Value}{xs:List Value}(h:w.ownsRow B e 1 v n xs):∃(A:OA) (c:Nat),v=.s A n c/\n<=c/\og w e A xs:=by
 (obtain⟨h1,h2⟩:=h;rw[Nat.mul_one]at h1;rcases h2 with⟨h3,h4⟩|⟨g,cap,cur,h3,_,h5,h6,_,_,h9⟩);{subst h4;obtain rfl:xs=[]:=Kc h1;exact⟨none,0,h3,yX _,og.nil _ _ _⟩};refine⟨_,cap,h3,h6,fun _=>⟨g,0,cur,(0,0),rfl,h5,fun i hi=>?_⟩⟩;rw[Nat.mul_one]at h9;rw[CU, <-h9,xG,qE qO];simp
def jzcm{M i:Nat}(hi:i<Lib.nDigits M):(Lib.decDigits M)[i]?=some (UInt8.ofNat (48+M/10^(Lib.nDigits M-1-i)%10)):=by
 rw[Lib.decDigits_eq,yW,xJ hi];rfl
def nU(M i:Nat):(UInt8.ofNat (48+M/10^i%10)).toNat=48+M/10^i%10:=by
 have:M/10^i%10<10:=xT _ qD;rw[UInt8.toNat_ofNat'];omega
def jzk4{M:Nat}(h:1<Lib.nDigits M):M/10^(Lib.nDigits M-1)%10≠0:=by
 have qa:∀M,0<M->M/10^(Lib.nDigits M-1)%10≠0:=(by intro M;(induction M using Nat.strongRecOn with|ind M ih=>intro hM;by_cases h1:M<10;{rw[Lib.nDigits_small h1];simp;omega};rw[Lib.nDigits_big h1];have:=ih (M/10) qO qO;have h2:=Lib.nDigits_pos (M/10);rw[show Lib.nDigits (M/10)+1-1=(Lib.nDigits (M/10)-1)+1 by omega,vD,vE, <-Nat.div_div_eq_div_mul];exact this));(refine qa M ?_;rcases Ee M with h0|h0);{subst h0;rw[Lib.nDigits_small qD]at h;omega};exact h0
def jzcn(M:Nat):M<10^Lib.nDigits M:=by
 (induction M using Nat.strongRecOn with|ind M ih=>by_cases h1:M<10;{rw[Lib.nDigits_small h1];omega};rw[Lib.nDigits_big h1,vD];have:=ih (M/10) qO;omega)
def nV{S:ByteArray}{i:Nat}(h:i<S.size){x:UInt8}(hx:S.data.toList[i]?=some x):S[i]=x:=by
 have:S.data[i]?=some x:=(by simpa using hx);exact(KM.1 this).2
def eY{w W:World}{nb:Bool}{A A'}{n c n' c' g:Nat}{q:Rat}{cs:Array Value}(h:aC W nb A n c A' n' c' q)(hb:ak W g 33 cs)(hg:w.heap.size<=g)(hx:Ext w W):
  aC (((W.setCell (aD g 0) (.bool nb)).setCell (aD g 1) (.s A n c)).setCell (aD g 2) (.s A' n' c')) nb A n c A' n' c' q/\Ext w (((W.setCell (aD g 0) (.bool nb)).setCell (aD g 1) (.s A n c)).setCell (aD g 2) (.s A' n' c')):=
 ⟨h.other (uQ W g _ _ _) hb qD,((hx.sT (p:=(aD g 0)) hg _).sT (p:=(aD g 1)) hg _).sT (p:=(aD g 2)) hg _⟩
def jzco(M:Nat)(c:UInt8)(hc:c.toNat<48):∀b∈Lib.decDigits M,(b==c)=false:=by
 intro b hb;obtain⟨i,hi,he⟩:=List.getElem_of_mem hb;have h1:=jzcm (M:=M) (i:=i) (by rw[<-Lib.decDigits_length];exact hi);rw[yG hi,he]at h1;injection h1 with h1
 have h2:=nU M (Lib.nDigits M-1-i);rw[<-h1]at h2;refine yK.2 (fun e=>?_);rw[e]at h2;omega
end Go.Proofs.YtfeeacaofjpkaaaGreatDoor
namespace Go.Proofs.YtfeeacaofjpkaaaGreatDoor
open Go.Proofs.Tryz
open Go.RowKit
def jzcp(a b:Rat)(h:b≠0):a/b=Am (decide (a.num<0) !=decide (b.num<0)) (a.num.natAbs*b.den) (b.num.natAbs*a.den):=by
 have hn:b.num≠0:=fun e=>h (Rat.num_eq_zero.1 e);have h1:(b⁻¹).num.natAbs=b.den:=(by rw[Rat.num_inv,Int.natAbs_mul,Int.natAbs_sign_of_ne_zero hn];simp);have h2:(b⁻¹).den=b.num.natAbs:=(by rw[Rat.den_inv,qF hn]);have h3:decide ((b⁻¹).num<0)=decide (b.num<0):=(by (rw[Rat.num_inv];have hd:=b.den_pos;rcases Int.lt_or_gt_of_ne hn with x|x);{rw[Int.sign_eq_neg_one_of_neg x];simp[x];omega};rw[Int.sign_eq_one_of_pos x];simp;omega);rw[Rat.div_def,nH,h1,h2,h3,vE a.den]
def jzk5(q:Rat)(h:q≠0):(!decide (q.num<0))=decide ((-q).num<0):=by
 have hn:q.num≠0:=fun e=>h (Rat.num_eq_zero.1 e);have:(-q).num= -q.num:=rfl;rw[this];rcases Int.lt_or_gt_of_ne hn with x|x
 ·rw[yO x,yP qO];rfl
 rw[yP qO,yO qO];rfl
def aC.neg{w}{neg:Bool}{A}{n c:Nat}{A'}{n' c':Nat}{q:Rat}(h:aC w neg A n c A' n' c' q)(h0:q≠0):aC w (!neg) A n c A' n' c' (-q):=by
 refine⟨?_,?_,h.2.2⟩;{rw[h.1];exact jzk5 q h0};have:(-q).num.natAbs=q.num.natAbs:=(by show(-(q.num)).natAbs=_;omega);rw[this];exact h.2.1
def jzk6(na:Bool)A1(n1 c1:Nat)kr(n1' c1':Nat)(a:Rat)w(ha:aC w na A1 n1 c1 kr n1' c1' a):
  Calls prog 152 #[.agg #[.bool na,.s A1 n1 c1,.s kr n1' c1']] w fun e w'=>∃nb,e=.returned (.agg #[.bool nb,.s A1 n1 c1,.s kr n1' c1'])/\aC w' nb A1 n1 c1 kr n1' c1' (-a)/\Ext w w':=by
 obtain⟨qf,qa,e0⟩:=cN w #[.bool na,.s A1 n1 c1,.s kr n1' c1'] 33 rV 33;have HA:=Hx ha;by_cases h0:a=0;{have hs:aB a=0:=kL.2 h0;have HN:=Hx (show-a=a by rw[h0];rfl);have HS:=Hx hs;clear ha h0 hs;go_enter func152,ntmps152;go_wp2_with fail;refine(dA na A1 n1 c1 kr n1' c1' a _ (HA.o.K e0)).r fun w1 qe=>?_;rw[HS.o];have qf:=qf.K qe;have qa:=qa.K qe;obtain⟨⟨i0,i1,i2⟩,h0,h1,h2⟩:=qf.t3;obtain⟨⟨k0,k1,k2⟩,f0,f1,f2⟩:=qa.t3;have E1:=Hx (e0.tr qe);clear qe e0;go_wp2;refine bodyPost_ret (v:=.agg #[.bool na,.s A1 n1 c1,.s kr n1' c1']) (by simp[results,results152,go_sem,(((qa.sT 0 _).sT 1 _).sT 2 _).cell]) rfl ?_;obtain⟨q1,q2⟩:=eY (w:=w) (HA.o.K E1.o) qa qO E1.o;exact⟨na,rfl,by rw[HN.o];exact q1,q2⟩};have hs:(aB a==0)=false:=yK.2 (fun h=>h0 (kL.1 h));have HN:=Hx (ha.neg h0);clear ha h0;go_enter func152,ntmps152;go_wp2_with fail;refine(dA na A1 n1 c1 kr n1' c1' a _ (HA.o.K e0)).r fun w1 qe=>?_;generalize aB a=sa at*;have qf:=qf.K qe;have qa:=qa.K qe;obtain⟨⟨i0,i1,i2⟩,h0,h1,h2⟩:=qf.t3;obtain⟨⟨k0,k1,k2⟩,f0,f1,f2⟩:=qa.t3;have E1:=Hx (e0.tr qe);clear qe e0;go_wp2;refine bodyPost_ret (v:=.agg #[.bool (!na),.s A1 n1 c1,.s kr n1' c1']) (by simp[results,results152,go_sem,(((qa.sT 0 _).sT 1 _).sT 2 _).cell]) rfl ?_;obtain⟨q1,q2⟩:=eY (w:=w) (HN.o.K E1.o) qa qO E1.o;exact⟨!na,rfl,q1,q2⟩
def pY(na nb:Bool)A1(n1 c1:Nat)kr(n1' c1':Nat)A2(n2 c2:Nat)mg(ko c2':Nat)(a b:Rat)w
  (ha:aC w na A1 n1 c1 kr n1' c1' a) (hb:aC w nb A2 n2 c2 mg ko c2' b) (l1:n1<=134217728) (EO:n1'<=134217728) (l2:n2<=134217728) (Fw:ko<=134217728):
  Calls prog 87 #[.agg #[.bool na,.s A1 n1 c1,.s kr n1' c1'],.agg #[.bool nb,.s A2 n2 c2,.s mg ko c2']] w (eM w (a-b)):=by
 obtain⟨b0,b1,b2,e0⟩:=fP w #[.bool na,.s A1 n1 c1,.s kr n1' c1'] 33 #[.bool nb,.s A2 n2 c2,.s mg ko c2'] 33 rV 33;have x1:Ext (((w.alloc (.cells #[.bool na,.s A1 n1 c1,.s kr n1' c1'] 33)).alloc (.cells #[.bool nb,.s A2 n2 c2,.s mg ko c2'] 33)).alloc (.cells rV 33)) (((w.alloc (.cells #[.bool na,.s A1 n1 c1,.s kr n1' c1'] 33)).alloc (.cells #[.bool nb,.s A2 n2 c2,.s mg ko c2'] 33)).alloc (.cells rV 33)).drew:=(eR _).drewN 1;have HA:=Hx (ah ((ha.K e0).K x1) ((hb.K e0).K x1));have E0:=Hx (e0.tr x1);have BB:=Hx (ah (b0.K x1) (ah (b1.K x1) (b2.K x1)));obtain⟨⟨i0,i1,i2⟩,_⟩:=BB.o.1.t3;obtain⟨⟨j0,j1,j2⟩,_⟩:=BB.o.2.1.t3;clear ha hb b0 b1 b2 e0 x1;go_enter func87,ntmps87;go_wp2
 go_region_held3 (fun w'=>w'.C w.heap.size 0 (.bool na)/\w'.C w.heap.size 1 (.s A1 n1 c1)/\w'.C w.heap.size 2 (.s kr n1' c1')/\w'.C (w.heap.size+1) 0 (.bool nb)/\w'.C (w.heap.size+1) 1 (.s A2 n2 c2)/\w'.C (w.heap.size+1) 2 (.s mg ko c2'))
  (first|with_reducible exact⟨i0,i1,i2,j0,j1,j2⟩|exact fj _ _ _|fail)
  (first
   |(go_at_call 152
     refine(jzk6 nb A2 n2 c2 mg ko c2' b _ HA.o.2).mono ?_;rintro e w3 ⟨n3,rfl,h3,x3⟩;have G3:=Hx (ah (BB.o.1.K x3) (ah (BB.o.2.1.K x3) (BB.o.2.2.K x3)));have E3:=Hx (E0.o.tr x3);have R3:=Hx (ah h3 (HA.o.1.K x3));obtain⟨⟨i0,i1,i2⟩,_⟩:=G3.o.1.t3;obtain⟨⟨j0,j1,j2⟩,_⟩:=G3.o.2.1.t3;clear x3 h3)
   |(go_at_call 18
     refine(lG na n3 A1 n1 c1 kr n1' c1' A2 n2 c2 mg ko c2' a (-b) _ R3.o.2 R3.o.1 qO qO qO qO (iX (Hq (Gv _) (Gv _)))).mono ?_;rintro e w4 ⟨nq,B,m,d,B',m',d',rfl,h4,x4⟩;rw[<-Rat.sub_eq_add_neg]at h4;have G4:=Hx (ah (G3.o.1.K x4) (ah (G3.o.2.1.K x4) (G3.o.2.2.K x4)));have E4:=Hx (E3.o.tr x4);obtain⟨⟨i0,i1,i2⟩,_⟩:=G4.o.1.t3;obtain⟨⟨j0,j1,j2⟩,_⟩:=G4.o.2.1.t3;obtain⟨⟨p0,p1,p2⟩,f0,f1,f2⟩:=G4.o.2.2.t3;obtain⟨r1,r2⟩:=eY (w:=w) h4 G4.o.2.2 qO E4.o;have q3:=((G4.o.2.2.sT 0 (.bool nq)).sT 1 (.s B m d)).sT 2 (.s B' m' d');have RF:=Hx (ah q3 (ah r1 r2));have hf:=fun u0 u1 u2=>((G4.o.1.far (p:=(aD (w.heap.size+1+1) 0)) (by simp;omega) u0).far (p:=(aD (w.heap.size+1+1) 1)) (by simp;omega) u1).far (p:=(aD (w.heap.size+1+1) 2)) (by simp;omega) u2;have hg:=fun u0 u1 u2=>((G4.o.2.1.far (p:=(aD (w.heap.size+1+1) 0)) qS u0).far (p:=(aD (w.heap.size+1+1) 1)) qS u1).far (p:=(aD (w.heap.size+1+1) 2)) qS u2;have fj:=fun u0 u1 u2=>ah ((hf u0 u1 u2).cell 0) (ah ((hf u0 u1 u2).cell 1) (ah ((hf u0 u1 u2).cell 2) (ah ((hg u0 u1 u2).cell 0) (ah ((hg u0 u1 u2).cell 1) ((hg u0 u1 u2).cell 2)))));clear x4 h4 q3 r1 r2)
   |fail)
 go_wp2;exact bodyPost_ret (v:=.agg #[.bool nq,.s B m d,.s B' m' d']) (by simp[results,results87,go_sem,RF.o.1.cell]) rfl ⟨_,_,_,_,_,_,_,rfl,RF.o.2.1,RF.o.2.2⟩
def jzk7(w:World)(q:Rat)(e:Ending)(w':World):Prop:=
 ∃(neg:Bool) (A:OA) (n c:Nat) (A':OA) (n' c':Nat),e=.returned (.tuple #[.agg #[.bool neg,.s A n c,.s A' n' c'],vI 0])/\aC w' neg A n c A' n' c' q/\Ext w w'
def pZ(na nb:Bool)A1(n1 c1:Nat)kr(n1' c1':Nat)A2(n2 c2:Nat)mg(ko c2':Nat)(a b:Rat)w
  (ha:aC w na A1 n1 c1 kr n1' c1' a) (hb:aC w nb A2 n2 c2 mg ko c2' b) (hb0:b≠0) (l1:n1<=134217728) (EO:n1'<=134217728) (l2:n2<=134217728) (Fw:ko<=134217728):
  Calls prog 150 #[.agg #[.bool na,.s A1 n1 c1,.s kr n1' c1'],.agg #[.bool nb,.s A2 n2 c2,.s mg ko c2']] w (jzk7 w (a/b)):=by
 obtain⟨b0,b1,b2,e0⟩:=fP w #[.bool na,.s A1 n1 c1,.s kr n1' c1'] 33 #[.bool nb,.s A2 n2 c2,.s mg ko c2'] 33 rV 33;have hq:=jzcp a b hb0;rw[<-ha.1, <-hb.1]at hq;have qf:b.num≠0:=fun e=>hb0 (Rat.num_eq_zero.1 e);have qe:=Hx (iX (N:=a.num.natAbs*b.den) (D:=b.num.natAbs*a.den) (Hq qO a.den_nz));have hs:(aB b==0)=false:=yK.2 (fun h=>hb0 (kL.1 h));have HQ:=Hx (hq);have HA:=Hx (ha);have HB:=Hx (hb);obtain⟨⟨j0,j1,j2⟩,_⟩:=b1.t3;clear ha hb hq qf hb0;go_enter func150,ntmps150;go_wp2_with fail;refine(dA nb A2 n2 c2 mg ko c2' b _ (HB.o.K e0)).r fun w1 x1=>?_;generalize aB b=sb at*;have xd:Ext w1 w1.drew:=(eR w1).drewN 1;have BB:=Hx (ah ((b0.K x1).K xd) (ah ((b1.K x1).K xd) ((b2.K x1).K xd)));have E0:=Hx ((e0.tr x1).tr xd);clear b0 b1 b2 e0 x1 xd j0 j1 j2;obtain⟨⟨i0,i1,i2⟩,_⟩:=BB.o.1.t3;obtain⟨⟨j0,j1,j2⟩,_⟩:=BB.o.2.1.t3;have qa:True:=trivial;go_wp2
 go_region_held3 (fun w'=>w'.C w.heap.size 0 (.bool na)/\w'.C w.heap.size 1 (.s A1 n1 c1)/\w'.C w.heap.size 2 (.s kr n1' c1')/\w'.C (w.heap.size+1) 0 (.bool nb)/\w'.C (w.heap.size+1) 1 (.s A2 n2 c2)/\w'.C (w.heap.size+1) 2 (.s mg ko c2'))
  (first|with_reducible exact⟨i0,i1,i2,j0,j1,j2⟩|exact fj _ _ _|fail)
  (first
   |(go_at_call 57
     have _t:=qa;refine(kK A1 mg n1 c1 ko c2' a.num.natAbs (dk b) _ (HA.o.2.1.K E0.o) (HB.o.2.2.K E0.o) qO qO).mono ?_;rintro e w3 ⟨A3,n3,c3,rfl,h3,x3⟩;clear qa;have L3:=iW h3 (HA.o.2.1.K E0.o) (HB.o.2.2.K E0.o);have h3:aE w3 A3 n3 c3 (a.num.natAbs*b.den):=(by rw[iV]at h3;exact h3);have G3:=Hx (ah (BB.o.1.K x3) (ah (BB.o.2.1.K x3) (BB.o.2.2.K x3)));have E3:=Hx (E0.o.tr x3);have R3:=Hx h3;obtain⟨⟨i0,i1,i2⟩,_⟩:=G3.o.1.t3;obtain⟨⟨j0,j1,j2⟩,_⟩:=G3.o.2.1.t3;clear x3 h3)
   |(go_at_call 57
     refine(kK A2 kr n2 c2 n1' c1' b.num.natAbs (dk a) _ (HB.o.2.1.K E3.o) (HA.o.2.2.K E3.o) qO qO).mono ?_;rintro e w4 ⟨A4,n4,c4,rfl,h4,x4⟩;have L4:=iW h4 (HB.o.2.1.K E3.o) (HA.o.2.2.K E3.o);have h4:aE w4 A4 n4 c4 (b.num.natAbs*a.den):=(by rw[iV]at h4;exact h4);have G4:=Hx (ah (G3.o.1.K x4) (ah (G3.o.2.1.K x4) (G3.o.2.2.K x4)));have E4:=Hx (E3.o.tr x4);have R4:=Hx (ah (R3.o.K x4) h4);obtain⟨⟨i0,i1,i2⟩,_⟩:=G4.o.1.t3;obtain⟨⟨j0,j1,j2⟩,_⟩:=G4.o.2.1.t3;clear x4 h4)
   |(go_at_call 59
     refine(qe.o (na !=nb) A3 A4 n3 c3 n4 c4 _ R4.o.1 R4.o.2 qO qO).mono ?_;rintro e w5 ⟨nq,B,m,d,B',m',d',rfl,h5,x5⟩;rw[<-HQ.o]at h5;have G5:=Hx (ah (G4.o.1.K x5) (ah (G4.o.2.1.K x5) (G4.o.2.2.K x5)));have E5:=Hx (E4.o.tr x5);obtain⟨⟨i0,i1,i2⟩,_⟩:=G5.o.1.t3;obtain⟨⟨j0,j1,j2⟩,_⟩:=G5.o.2.1.t3;obtain⟨⟨p0,p1,p2⟩,f0,f1,f2⟩:=G5.o.2.2.t3;obtain⟨r1,r2⟩:=eY (w:=w) h5 G5.o.2.2 qO E5.o;have q3:=((G5.o.2.2.sT 0 (.bool nq)).sT 1 (.s B m d)).sT 2 (.s B' m' d');have RF:=Hx (ah q3 (ah r1 r2));have hf:=fun u0 u1 u2=>((G5.o.1.far (p:=(aD (w.heap.size+1+1) 0)) (by simp;omega) u0).far (p:=(aD (w.heap.size+1+1) 1)) (by simp;omega) u1).far (p:=(aD (w.heap.size+1+1) 2)) (by simp;omega) u2;have hg:=fun u0 u1 u2=>((G5.o.2.1.far (p:=(aD (w.heap.size+1+1) 0)) qS u0).far (p:=(aD (w.heap.size+1+1) 1)) qS u1).far (p:=(aD (w.heap.size+1+1) 2)) qS u2;have fj:=fun u0 u1 u2=>ah ((hf u0 u1 u2).cell 0) (ah ((hf u0 u1 u2).cell 1) (ah ((hf u0 u1 u2).cell 2) (ah ((hg u0 u1 u2).cell 0) (ah ((hg u0 u1 u2).cell 1) ((hg u0 u1 u2).cell 2)))));clear x5 h5 q3 r1 r2)
   |fail)
 go_wp2;exact bodyPost_ret (v:=.tuple #[.agg #[.bool nq,.s B m d,.s B' m' d'],vI 0]) (by simp[results,results150,go_sem,RF.o.1.cell]) rfl ⟨_,_,_,_,_,_,_,rfl,RF.o.2.1,RF.o.2.2⟩
def flN(q:Rat):Nat:=q.num.natAbs/q.den
def flQ(q:Rat):Rat:=Am false (flN q) 1
end Go.Proofs.YtfeeacaofjpkaaaGreatDoor
namespace Go.Proofs.YtfeeacaofjpkaaaGreatDoor
open Go.Proofs.Tryz
open Go.RowKit Go.Sort
def gF(q:Rat):List UInt8:=Lib.decDigits q.num.natAbs++(if q.den=1 then []else [47]++Lib.decDigits q.den)
def jzk8(q:Rat):eD q=(if q.num<0 then [45]else [])++gF q:=by unfold eD gF;rw[List.append_assoc]
def jzk9(M:Nat):∃b l,Lib.decDigits M=b::l/\(b==45)=false:=by
 have h1:=Lib.nDigits_pos M;have h2:=Lib.decDigits_length M;(match h:Lib.decDigits M,h2 with| [],h2=>simp at h2;omega|b::l,_=>exact⟨b,l,rfl,jzco M 45 qD b (by rw[h];simp)⟩)
def jzla(l r:List UInt8):(⟨(l++r).toArray⟩:ByteArray).extract 0 l.length=⟨l.toArray⟩:=by
 apply ByteArray.ext;rw[ByteArray.data_extract];apply Array.toList_inj.1;simp
def jzcq(l r:List UInt8)(c:UInt8):(⟨(l++c::r).toArray⟩:ByteArray).extract (l.length+1) (⟨(l++c::r).toArray⟩:ByteArray).size=⟨r.toArray⟩:=by
 apply ByteArray.ext;rw[ByteArray.data_extract];apply Array.toList_inj.1;rw[show(⟨(l++c::r).toArray⟩:ByteArray).size=(l++c::r).length from rfl];simp;exact yU qO
end Go.Proofs.YtfeeacaofjpkaaaGreatDoor
namespace Go.Proofs.YtfeeacaofjpkaaaGreatDoor
open Go.Proofs.Tryz
open Go.RowKit
def Tryz.Ja:(prog.info? 33).map (fun i=>(i.zero,i.size,i.bytes))=some (some (.agg rV),3,56):=by kernel_rfl
def Tryz.Lg:(prog.info? 45).map (fun i=>(i.zero,i.size,i.bytes))=some (some (.agg rV),3,56):=by kernel_rfl
section
variable (R:World->List Value->Rat->Prop) (t:TypeId)
def Gn(w:World)(P:OA)(qs:LQ):Prop:=
 ∃css:List (List Value),css.length=qs.length/\(∀cs∈css,cs.length=3)/\Rd w P css.flatten/\∀(i:Nat) (q:Rat),qs[i]?=some q->∃cs,css[i]?=some cs/\R w cs q
def OQ(w:World)(B:Nat)(v:Value)(qs:LQ):Prop:=
 ∃css:List (List Value),css.length=qs.length/\(∀cs∈css,cs.length=3)/\w.ownsRow B t 3 v qs.length css.flatten/\∀(i:Nat) (q:Rat),qs[i]?=some q->∃cs,css[i]?=some cs/\R w cs q
end
section
variable {R:World->List Value->Rat->Prop} {t:TypeId} {w w':World} {B:Nat} {v v':Value} {qs:List Rat}
def OQ.nil:OQ R t w B zN []:=⟨[],rfl,(fun _ h=>by cases h),World.ownsRow_nil _ _ _ _,fun i q h=>by simp at h⟩
def OQ.K(hR:∀(w w':World) (cs:List Value) (q:Rat),R w cs q->Ext w w'->R w' cs q)(h:OQ R t w B v qs)(hx:Ext w w'):OQ R t w' B v qs:=by
 obtain⟨css,h1,h2,h3,h4⟩:=h;refine⟨css,h1,h2,h3.kept (eU hx) (eV _),fun i q hq=>?_⟩;obtain⟨cs,k1,k2⟩:=h4 i q hq;exact⟨cs,k1,hR _ _ _ _ k2 hx⟩
def OQ.push{css:List (List Value)}{cs:List Value}{q:Rat}(h1:css.length=qs.length)(h2:∀cs∈css,cs.length=3)(hl:cs.length=3)(h4:∀(i:Nat) (q:Rat),qs[i]?=some q->∃cs,css[i]?=some cs/\R w' cs q)
  (hq:R w' cs q) (hown:w'.ownsRow B t 3 v' (qs.length+1) (css.flatten++cs)):OQ R t w' B v' (qs++[q]):=by
 refine⟨css++[cs],by simp[h1],fun c hc=>?_,by rw[List.flatten_append,yQ];simpa using hown,fun i q' hq'=>?_⟩;{(rcases xY.1 hc with h|h);{exact h2 c h};simp at h;rw[h];exact hl};by_cases hi:i<qs.length;{rw[yR hi]at hq';obtain⟨c,k1,k2⟩:=h4 i q' hq';exact⟨c,by rw[yR qO];exact k1,k2⟩};rw[yS qO]at hq';have qa:i-qs.length=0:=(by (rcases Ee (i-qs.length)with h0|h0);{exact h0};rw[yI (by simp;omega)]at hq';cases hq');rw[qa]at hq';simp at hq';subst hq';exact⟨cs,by rw[yS qO,show i-css.length=0 by omega];rfl,hq⟩
end
def QP(w:World)(g:Nat)(qs:LQ):Prop:=
 ∃cur:Array Value,ak w g 33 cur/\∀(i:Nat) (q:Rat),qs[i]?=some q->∃(neg:Bool) (A:OA) (n c:Nat) (A':OA) (n' c':Nat),
  (cur[i*3]?=some (.bool neg)/\cur[i*3+1]?=some (.s A n c)/\cur[i*3+2]?=some (.s A' n' c'))/\aC w neg A n c A' n' c' q
def QP.K{w w'}{g:Nat}{qs:LQ}(h:QP w g qs)(hx:Ext w w'):QP w' g qs:=by
 obtain⟨qa,h1,h2⟩:=h;refine⟨qa,h1.K hx,fun i q hq=>?_⟩;obtain⟨neg,A,n,c,A',n',c',h3,h4⟩:=h2 i q hq;exact⟨neg,A,n,c,A',n',c',h3,h4.K hx⟩
def QP.lt{w}{g:Nat}{qs:LQ}(h:QP w g qs):g<w.heap.size:=by
 obtain⟨qa,h1,_⟩:=h;exact h1.lt
def QP.at_{w}{g:Nat}{qs:LQ}(h:QP w g qs){i:Nat}{q:Rat}(hl:qs[i]?=some q):
  ∃(neg:Bool) (A:OA) (n c:Nat) (A':OA) (n' c':Nat),
   (w.cell? (aD g (i*3))=some (.bool neg)/\w.cell? (aD g (i*3+1))=some (.s A n c)/\w.cell? (aD g (i*3+2))=some (.s A' n' c'))/\
   (w.frozen? (aD g (i*3))=false/\w.frozen? (aD g (i*3+1))=false/\w.frozen? (aD g (i*3+2))=false)/\aC w neg A n c A' n' c' q:=by
 obtain⟨qa,h1,h2⟩:=h;obtain⟨neg,A,n,c,A',n',c',⟨e0,e1,e2⟩,h4⟩:=h2 i q hl;exact⟨neg,A,n,c,A',n',c',⟨by rw[h1.cell];exact e0,by rw[h1.cell];exact e1,by rw[h1.cell];exact e2⟩,⟨h1.frozen _,h1.frozen _,h1.frozen _⟩,h4⟩
def QP.take{w}{g:Nat}{qs:LQ}(h:QP w g qs)(m:Nat):QP w g (qs.take m):=by
 obtain⟨qa,h1,h2⟩:=h;refine⟨qa,h1,fun i q hq=>h2 i q ?_⟩;rw[xG]at hq;split at hq;{exact hq};cases hq
def mK{cur:Array Value}{m j:Nat}{u0 u1 u2:Value}(hm:m*3+2<cur.size):(((cur.setIfInBounds (m*3) u0).setIfInBounds (m*3+1) u1).setIfInBounds (m*3+2) u2)[j]?=if j=m*3 then some u0 else if j=m*3+1 then some u1 else if j=m*3+2 then some u2 else cur[j]?:=by
 rw[Array.getElem?_setIfInBounds,Array.getElem?_setIfInBounds,Array.getElem?_setIfInBounds];simp only[Array.size_setIfInBounds]
 repeat' split
 all_goals first|rfl|omega
def QP.put{w}{g m:Nat}{qs:LQ}{q:Rat}{neg:Bool}{A}{n c:Nat}{A'}{n' c':Nat}(h:QP w g qs)(hm:m<qs.length)(hl:aC w neg A n c A' n' c' q):
  QP (((w.setCell (aD g (m*3)) (.bool neg)).setCell (aD g (m*3+1)) (.s A n c)).setCell (aD g (m*3+2)) (.s A' n' c')) g (qs.set m q):=by
 obtain⟨qf,h1,h2⟩:=h;have g2:=((aM w g (m*3) (.bool neg)).trans (aM _ g (m*3+1) (.s A n c))).trans (aM _ g (m*3+2) (.s A' n' c'));have b:=((h1.sT (m*3) (.bool neg)).sT (m*3+1) (.s A n c)).sT (m*3+2) (.s A' n' c');have qa:m*3+2<qf.size:=(by obtain⟨_,_,_,_,_,_,_,⟨_,_,e2⟩,_⟩:=h2 m _ (yG hm);exact(KM.1 e2).1);refine⟨_,b,fun i p hi=>?_⟩;by_cases e:m=i;{subst e;(rw[yM hm]at hi;injection hi with hi);subst hi;refine⟨neg,A,n,c,A',n',c',⟨?_,?_,?_⟩,hl.other g2 h1 qD⟩;{rw[mK qa,qE rfl]};{rw[mK qa,qF qO,qE rfl]};rw[mK qa,qF qO,qF qO,qE rfl]};rw[vN e]at hi;obtain⟨qe,B,k,d,B',k',d',⟨e0,e1,e2⟩,h4⟩:=h2 i p hi;refine⟨qe,B,k,d,B',k',d',⟨?_,?_,?_⟩,h4.other g2 h1 qD⟩;{rw[mK qa,qF qO,qF qO,qF qO];exact e0};{rw[mK qa,qF qO,qF qO,qF qO];exact e1};rw[mK qa,qF qO,qF qO,qF qO];exact e2
end Go.Proofs.YtfeeacaofjpkaaaGreatDoor
namespace Go.Proofs.YtfeeacaofjpkaaaGreatDoor
open Go.Proofs.Tryz
def Gy(l:LN)(i:Nat):Nat:=l[i]?.getD 0
def jzlb(l:LN)(i j:Nat):LN:=(l.set i (Gy l j)).set j (Gy l i)
def jzcr{l:LN}{i:Nat}(h:i<l.length):l[i]?=some (Gy l i):=by
 unfold Gy;rw[yG h];rfl
def jzlc(l:LN)(i k v:Nat)(hi:i<l.length):Gy (l.set i v) k=if k=i then v else Gy l k:=by
 unfold Gy;by_cases e:k=i;{subst e;rw[yM hi,qE rfl];rfl};rw[vN (fun h=>e h.symm),qF e]
open Go.RowKit
def dM(w:World)(g:Nat)(l:LN):Prop:=∃cs:Array Value,ak w g 3 cs/\∀i,i<l.length->cs[i]?=some (vI ((Gy l i:Nat):Int))
def dM.K{w w'}{g:Nat}{l:LN}(h:dM w g l)(hx:Ext w w'):dM w' g l:=by
 obtain⟨cs,h1,h2⟩:=h;exact⟨cs,h1.K hx,h2⟩
def dM.cell{w}{g:Nat}{l:LN}(h:dM w g l){i:Nat}(hi:i<l.length):w.cell? (aD g i)=some (vI ((Gy l i:Nat):Int)):=by
 obtain⟨cs,h1,h2⟩:=h;rw[h1.cell];exact h2 i hi
def dM.lt{w}{g:Nat}{l:LN}(h:dM w g l):g<w.heap.size:=by
 obtain⟨cs,h1,_⟩:=h;exact h1.lt
def dM.frozen{w}{g:Nat}{l:LN}(h:dM w g l)(i:Nat):w.frozen? (aD g i)=false:=by
 obtain⟨cs,h1,_⟩:=h;exact h1.frozen i
def dM.put{w}{g:Nat}{l:LN}(h:dM w g l){i:Nat}(v:Nat)(hi:i<l.length):dM (w.setCell (aD g i) (vI ((v:Nat):Int))) g (l.set i v):=by
 obtain⟨cs,h1,h2⟩:=h;refine⟨_,h1.sT i _,fun k hk=>?_⟩;rw[yV]at hk;rw[jzlc _ _ _ _ hi,Array.getElem?_setIfInBounds];have hs:=(KM.1 (h2 i hi)).1;by_cases e:i=k;{subst e;rw[qE rfl,qE hs,qE rfl]};rw[qF e,qF (fun h=>e h.symm)];exact h2 k hk
def dM.swap{w}{g:Nat}{l:LN}(h:dM w g l){i j:Nat}(hi:i<l.length)(hj:j<l.length):dM ((w.setCell (aD g i) (vI ((Gy l j:Nat):Int))).setCell (aD g j) (vI ((Gy l i:Nat):Int))) g (jzlb l i j):=
 (h.put (Gy l j) hi).put (Gy l i) (by rw[yV];exact hj)
def OI.row{w}{B:Nat}{A}{n c:Nat}{l:LN}(h:OI w B (.s A n c) l)(hl:l.length=n)(h0:0<n):∃g,A=(sA g)/\B<=g/\dM w g l:=by
 obtain⟨h1,h2⟩:=h;rcases h2 with⟨h3,h4⟩|⟨g',cap,cur,h3,h4,h5,h6,h7,h8,h9⟩
 ·have:l=[]:=by simpa [ints]using h4
  subst this;simp at hl;omega
 injection h3 with e1 e2 e3
 refine⟨g',e1,h4,cur,h5,fun i hi=>?_⟩;have qa:(cur.toList.take l.length)[i]?=(ints l)[i]?:=by
  have:=h9;rw[<-this];simp
 rw[xG,qE hi]at qa;rw[<-Gi,qa];unfold ints;rw[yW,jzcr hi];rfl
def QR.other{w w'}{cs:List Value}{q:Rat}{g:Nat}{t':TypeId}{cs':Array Value}(h:QR w cs q)(hg:w.grownBy w' (some g))(hb:ak w g t' cs')(hne:196≠t'):QR w' cs q:=by
 obtain⟨neg,A,n,c,A',n',c',e,h1⟩:=h;exact⟨neg,A,n,c,A',n',c',e,h1.other hg hb hne⟩
def QB(w:World)(g:Nat)(qs:LQ):Prop:=
 ∃css:List (List Value),css.length=qs.length/\(∀cs∈css,cs.length=3)/\ak w g 33 css.flatten.toArray/\∀(i:Nat) (q:Rat),qs[i]?=some q->∃cs,css[i]?=some cs/\QR w cs q
def QB.K{w w'}{g:Nat}{qs:LQ}(h:QB w g qs)(hx:Ext w w'):QB w' g qs:=by
 obtain⟨css,h1,h2,h3,h4⟩:=h;refine⟨css,h1,h2,h3.K hx,fun i q hl=>?_⟩;obtain⟨cs,k1,k2⟩:=h4 i q hl;exact⟨cs,k1,k2.K hx⟩
def QB.lt{w}{g:Nat}{qs:LQ}(h:QB w g qs):g<w.heap.size:=by
 obtain⟨css,_,_,h3,_⟩:=h;exact h3.lt
def QB.blk{w}{g:Nat}{qs:LQ}(h:QB w g qs):∃cs,ak w g 33 cs:=by
 obtain⟨css,_,_,h3,_⟩:=h;exact⟨_,h3⟩
def QB.at_{w}{g:Nat}{qs:LQ}(h:QB w g qs){i:Nat}{q:Rat}(hl:qs[i]?=some q):
  ∃(neg:Bool) (A:OA) (n c:Nat) (A':OA) (n' c':Nat),
   (w.C g (i*3) (.bool neg)/\w.C g (i*3+1) (.s A n c)/\w.C g (i*3+2) (.s A' n' c'))/\
   (w.frozen? (aD g (i*3))=false/\w.frozen? (aD g (i*3+1))=false/\w.frozen? (aD g (i*3+2))=false)/\aC w neg A n c A' n' c' q:=by
 obtain⟨css,h1,h2,h3,h4⟩:=h;obtain⟨cs,k1,neg,A,n,c,A',n',c',rfl,k2⟩:=h4 i q hl;have hi:=(yH.1 hl).1;have qa:∀k,k<3->w.cell? (aD g (i*3+k))=([.bool neg,.s A n c,.s A' n' c']:List Value)[k]?:=fun k hk=>(by rw[h3.cell,xI,dV css h2 i k qO hk,k1];rfl);exact⟨neg,A,n,c,A',n',c',⟨qa 0 qO,qa 1 qO,qa 2 qO⟩,⟨h3.frozen _,h3.frozen _,h3.frozen _⟩,k2⟩
def QB.other{w w'}{g g':Nat}{qs:LQ}{t':TypeId}{cs':Array Value}(h:QB w g qs)(hg:w.grownBy w' (some g'))(hb:ak w g' t' cs')(hne:196≠t')(hgg:g≠g'):QB w' g qs:=by
 obtain⟨css,h1,h2,h3,h4⟩:=h;refine⟨css,h1,h2,(hg.block g h3.lt (fun e=>hgg (by injection e))).trans h3,fun i q hq=>?_⟩;obtain⟨cs,k1,k2⟩:=h4 i q hq;exact⟨cs,k1,k2.other hg hb hne⟩
def fF{K:Nat}(css:List (List Value))(h2:∀cs∈css,cs.length=K)(m:Nat)(hml:m<css.length)(c1:List Value)(k:Nat)(v:Value)(hc:c1.length=K)(hk:k<K):((css.set m c1).flatten).set (m*K+k) v=(css.set m (c1.set k v)).flatten:=by
 have qa:∀c∈css.set m c1,c.length=K:=fun c hcc=>(by (rcases xE hcc with h|h);{exact h2 c h};rw[h];exact hc);have h:=nQ (css.set m c1) qa m k v (by rw[yV];exact hml) hk;rw[yM hml,DL,List.set_set]at h;exact h
def QB.put{w}{g m:Nat}{qs:LQ}{q:Rat}{neg:Bool}{A}{n c:Nat}{A'}{n' c':Nat}(h:QB w g qs)(hm:m<qs.length)(hl:aC w neg A n c A' n' c' q):
  QB (((w.setCell (aD g (m*3)) (.bool neg)).setCell (aD g (m*3+1)) (.s A n c)).setCell (aD g (m*3+2)) (.s A' n' c')) g (qs.set m q):=by
 obtain⟨css,h1,h2,h3,h4⟩:=h;have g2:=((aM w g (m*3) (.bool neg)).trans (aM _ g (m*3+1) (.s A n c))).trans (aM _ g (m*3+2) (.s A' n' c'));have qa:m<css.length:=qO;obtain⟨cs,qf⟩:∃cs,css[m]?=some cs:=⟨_,yG qa⟩;have qe:cs.length=3:=h2 cs (yJ qf);have e0:css=css.set m cs:=(by apply uK;intro i;by_cases e:m=i;{subst e;rw[yM qa];exact qf};rw[vN e]);have b:=((h3.sT (m*3+0) (.bool neg)).sT (m*3+1) (.s A n c)).sT (m*3+2) (.s A' n' c');rw[yD,yD,yD,e0,fF css h2 m qa cs 0 _ qe qO,fF css h2 m qa _ 1 _ (by simp[qe]) qO,fF css h2 m qa _ 2 _ (by simp[qe]) qO]at b;have e3:((cs.set 0 (.bool neg)).set 1 (.s A n c)).set 2 (.s A' n' c')=[.bool neg,.s A n c,.s A' n' c']:=(by (rcases cs with _|⟨a0,_|⟨a1,_|⟨a2,_|⟨a3,r⟩⟩⟩⟩);all_goals first|(simp at qe;done)|rfl);rw[e3]at b;refine⟨css.set m [.bool neg,.s A n c,.s A' n' c'],by simp[h1],fun c hcc=>?_,b,fun i p hi=>?_⟩;{(rcases xE hcc with h|h);{exact h2 c h};rw[h];rfl};by_cases e:m=i;{subst e;(rw[yM hm]at hi;injection hi with hi);subst hi;exact⟨_,yM qa,neg,A,n,c,A',n',c',rfl,hl.other g2 h3 qD⟩};rw[vN e]at hi;obtain⟨qg,k1,k2⟩:=h4 i p hi;exact⟨qg,by rw[vN e];exact k1,k2.other g2 h3 qD⟩
def QB.ql{w}{g:Nat}{qs:LQ}(h:QB w g qs):QL w (sA g) qs:=by
 obtain⟨css,h1,h2,h3,h4⟩:=h;exact⟨css,h1,h2,(og.BM h3 rfl).rd,h4⟩
def jzcs(N:Nat):madeCells rV (N*3)=(List.replicate N [Value.bool false,zN,zN]).flatten.toArray:=by
 apply Array.ext';apply uK;intro i;have qa:∀cs∈List.replicate N [Value.bool false,zN,zN],cs.length=3:=fun cs h=>(by rw[uF h];rfl);have hl:=fR _ qa;rw[xC]at hl;by_cases hi:i<N*3;{have h1:=dV _ qa (i/3) (i%3) (by rw[xC];omega) qO;rw[show i/3*3+i%3=i by omega,xB,qE qO,DL]at h1;simp only[];rw[h1];have h2:(madeCells rV (N*3)).toList[i]?=some ((rV:Array Value)[i%3]!):=(by simp[madeCells,hi]);rw[h2];have h6:i%3=0\/i%3=1\/i%3=2:=qO;rcases h6 with e|e|e <;> rw[e] <;> rfl};rw[yI (by simp[madeCells];omega),yI (by simp only[];omega)]
def QB.made(w:World)(N:Nat):QB (w.alloc (.cells (madeCells rV (N*3)) 33)) w.heap.size (List.replicate N 0):=by
 refine⟨List.replicate N [bF,zN,zN],qS,fun cs h=>by rw[uF h];rfl,?_,fun i q hq=>?_⟩;{rw[jzcs];exact eN _ _ _};rw[xB]at hq;split at hq;{rename_i hi;(injection hq with hq);subst hq;exact⟨_,by rw[xB,qE hi],false,none,0,0,none,0,0,rfl,fE _⟩};cases hq
def dx.KE{s:Bool}{n d k:Nat}(hd:d≠0)(hn:n<dh^k)(hdd:d<dh^k):dx (Am s n d) k:=by
 refine⟨?_,?_⟩;{rw[nC _ hd];exact Im (JL _ _) hn};rw[nD _ hd];exact Im (JL _ _) hdd
def rA{a b k m:Nat}(ha:a<dh^k)(hb:b<dh^m):a*b<dh^(k+m):=by
 rw[Nat.pow_add];rcases Ee b with h0|h0
 ·rw[h0,ER];exact Nat.mul_pos (Du bA) (Du bA)
 exact J7 ha (Bg hb) (Du bA)
def dx.mul{a b:Rat}{k m:Nat}(ha:dx a k)(hb:dx b m):dx (a*b) (k+m):=by
 rw[nH];exact dx.KE (Hq a.den_nz b.den_nz) (rA ha.1 hb.1) (rA ha.2 hb.2)
def dx.div{a b:Rat}{k m:Nat}(ha:dx a k)(hb:dx b m)(h0:b≠0):dx (a/b) (k+m):=by
 have hn:b.num≠0:=fun e=>h0 (Rat.num_eq_zero.1 e);rw[jzcp a b h0];refine dx.KE (Hq qO a.den_nz) (rA ha.1 hb.2) ?_;rw[FI];exact rA hb.1 ha.2
def dx.fl{a:Rat}{k:Nat}(ha:dx a k)(hk:1<=k):dx (flQ a) k:=by
 unfold flQ flN;refine dx.KE qD (Im (JL _ _) ha.1) ?_;have h1:=DU bA hk;have h2:1<dh^1:=qD;omega
def jzld(q:Rat):aB q<0↔q<0:=by
 have h:q.num<0↔q<0:=(by rw[<-Int.not_le,Rat.num_nonneg,Rat.not_le]);unfold aB;split;{rename_i h0;rw[<-h,h0]};split;{rename_i h1;exact⟨fun _=>h.1 h1,fun _=>qD⟩};rename_i h1;exact⟨fun x=>qO,fun x=>absurd (h.2 x) h1⟩
def dM.made(w:World)(n:Nat):dM (w.alloc (.cells (madeCells #[vI 0] n) 3)) w.heap.size (List.replicate n 0):=by
 refine⟨_,eN _ _ _,fun i hi=>?_⟩;rw[xC]at hi;rw[<-Gi,toList_madeCells_one];unfold Gy;rw[xB,qE hi,xB,qE hi];rfl
def dM.Bz{w}{g:Nat}{l:LN}(h:dM w g l):og w 3 (sA g) (ints l):=fun _=>by
 obtain⟨cs,h1,h2⟩:=h;refine⟨g,0,cs,(0,0),rfl,h1,fun i hi=>?_⟩;rw[bX]at hi;rw[CU,h2 i hi];unfold ints;rw[yW,jzcr hi];rfl
structure fu(S:Nat->Prop)(w w':World):Prop where
 os:w'.os=w.os
 tape:w'.tape=w.tape
 output:w'.output=w.output
 size:w.heap.size<=w'.heap.size
 block:∀b,b<w.heap.size->¬S b->w'.heap[b]?=w.heap[b]?
def oh(S:Nat->Prop)(w:World)(t:TypeId):Prop:=∀b,S b->∀cs fr,w.heap[b]?≠some (.cells cs t fr)
section
variable {S S':Nat->Prop} {w w' w2:World}
def fu.Aj(h:Ext w w'):fu S w w':=⟨h.os,h.tape,h.output,h.size,fun b hb _=>h.block b hb⟩
def eE:type_of% @fu.Aj:=@fu.Aj
def fu.refl(S:Nat->Prop)w:fu S w w:=eE (eR w)
def fu.Fp{row:Option Nat}(h:w.grownBy w' row)(hs:∀g,row=some g->S g):fu S w w':=⟨h.os,h.tape,h.output,h.size,fun b hb hn=>h.block b hb (fun e=>hn (hs b e.symm))⟩
def eG:type_of% @fu.Fp:=@fu.Fp
def fu.tr(h:fu S w w')(k:fu S' w' w2)(hs:∀b,S' b->S b\/w.heap.size<=b):fu S w w2:=
 ⟨k.os.trans h.os,k.tape.trans h.tape,k.output.trans h.output,yY h.size k.size,fun b hb hn=>(k.block b (yL hb h.size) (fun h1=>by
  rcases hs b h1 with h2|h2
  ·exact hn h2
  ·omega)).trans (h.block b hb hn)⟩
def fu.mono(h:fu S w w')(hs:∀b,S b->S' b):fu S' w w':=⟨h.os,h.tape,h.output,h.size,fun b hb hn=>h.block b hb fun h1=>hn (hs b h1)⟩
def fu.ext{w0}(k:fu S w w')(h:Ext w0 w)(hs:∀b,S b->w0.heap.size<=b):Ext w0 w':=
 ⟨k.os.trans h.os,k.tape.trans h.tape,k.output.trans h.output,yY h.size k.size,fun b hb=>(k.block b (yL hb h.size) (fun h1=>by have:=hs b h1;omega)).trans (h.block b hb)⟩
def fu.blk{b:Nat}{t:TypeId}{cs:Array Value}(k:fu S w w')(h:ak w b t cs)(hb:¬S b):ak w' b t cs:=(k.block b h.lt hb).trans h
def fu.Bz{t:TypeId}{A}{xs:List Value}(k:fu S w w')(hn:oh S w t)(h:og w t A xs):og w' t A xs:=fun hx=>by
 obtain⟨b,o,cs,fr,e1,e2,e3⟩:=h hx;refine⟨b,o,cs,fr,e1,(k.block b (gB e2) (fun h1=>?_)).trans e2,e3⟩;exact hn b h1 cs fr e2
def fu.natR{A}{n c N:Nat}(k:fu S w w')(hn:oh S w 196)(h:aE w A n c N):aE w' A n c N:=by
 obtain⟨ds,h1,h2,h3,h4,h5⟩:=h;exact⟨ds,h1,h2,h3,h4,k.Bz hn h5⟩
def fu.oz{neg:Bool}{A}{n c:Nat}{A'}{n' c':Nat}{q:Rat}(k:fu S w w')(hn:oh S w 196)(h:aC w neg A n c A' n' c' q):aC w' neg A n c A' n' c' q:=
 ⟨h.1,k.natR hn h.2.1,k.natR hn h.2.2⟩
def fu.qr{cs:List Value}{q:Rat}(k:fu S w w')(hn:oh S w 196)(h:QR w cs q):QR w' cs q:=by
 obtain⟨neg,A,n,c,A',n',c',e,h1⟩:=h;exact⟨neg,A,n,c,A',n',c',e,k.oz hn h1⟩
def fu.own{B n s:Nat}{e:TypeId}{v:Value}{xs:List Value}(k:fu S w w')(h:w.ownsRow B e s v n xs)(hn:∀g,v.ownBlock=some g->¬S g):w'.ownsRow B e s v n xs:=by
 refine⟨h.1,?_⟩;rcases h.2 with h1|⟨g,cap,cur,h1,h2,h3,h4⟩
 ·exact .inl h1
 exact .inr ⟨g,cap,cur,h1,h2,(k.block g (gB h3) (hn g (by rw[h1];rfl))).trans h3,h4⟩
def fu.oq{B:Nat}{v:Value}{qs:LQ}(k:fu S w w')(hn:oh S w 196)(h:OQ QR 33 w B v qs)(hv:∀g,v.ownBlock=some g->¬S g):OQ QR 33 w' B v qs:=by
 obtain⟨css,h1,h2,h3,h4⟩:=h;refine⟨css,h1,h2,k.own h3 hv,fun i q hq=>?_⟩;obtain⟨cs,k1,k2⟩:=h4 i q hq;exact⟨cs,k1,k.qr hn k2⟩
def bQ{B n s:Nat}{e:TypeId}{v:Value}{xs:List Value}(h:w.ownsRow B e s v n xs){g:Nat}(hg:v.ownBlock=some g){t:TypeId}(ht:e≠t):∀cs fr,w.heap[g]?≠some (.cells cs t fr):=fun cs fr e2=>by
 (rcases h.2 with⟨h1,_⟩|⟨g',cap,cur,h1,h2,h3,h4⟩);{rw[h1]at hg;cases hg};{rw[h1]at hg;(injection hg with hg);(have hg:g'=g:=hg;subst hg;rw[h3]at e2;injection e2 with e2);(injection e2 with _ e2);exact ht e2}
def oh.one{g:Nat}{t t':TypeId}{cs:Array Value}(h:ak w g t cs)(ht:t≠t'):oh (fun b=>b=g) w t':=fun b hb cs' fr e=>by
 subst hb;unfold ak at h;rw[h]at e;injection e with e
 injection e with _ e
 exact ht e
def aT{B n s:Nat}{e:TypeId}{v:Value}{xs:List Value}(h:w.ownsRow B e s v n xs){g:Nat}(hg:v.ownBlock=some g):∃cs,ak w g e cs:=by
 rcases h.2 with⟨h1,_⟩|⟨g',cap,cur,h1,h2,h3,h4⟩
 ·rw[h1]at hg;cases hg
 rw[h1]at hg;injection hg with hg
 have hg:g'=g:=hg;subst hg;exact⟨cur,h3⟩
def OQ.cell{B g c:Nat}{qs:LQ}{n:Nat}(h:OQ QR 33 w B (.s (sA g) n c) qs){i:Nat}{q:Rat}(hl:qs[i]?=some q):
  ∃(neg:Bool) (A:OA) (n c:Nat) (A':OA) (n' c':Nat),
   (w.C g (i*3) (.bool neg)/\w.C g (i*3+1) (.s A n c)/\w.C g (i*3+2) (.s A' n' c'))/\
   (w.frozen? (aD g (i*3))=false/\w.frozen? (aD g (i*3+1))=false/\w.frozen? (aD g (i*3+2))=false)/\aC w neg A n c A' n' c' q:=by
 obtain⟨css,h1,h2,h3,h4⟩:=h;obtain⟨cs,k1,neg,A,n1,c1,A',n',c',rfl,k2⟩:=h4 i q hl;have hi:=(yH.1 hl).1;obtain⟨cb,hb⟩:=aT h3 (g:=g) rfl;have qa:∀k,k<3->w.cell? (aD g (i*3+k))=([.bool neg,.s A n1 c1,.s A' n' c']:List Value)[k]?:=fun k hk=>(by (have hf:=dV css h2 i k qO hk;rw[k1]at hf;rcases h3.2 with⟨e,_⟩|⟨g',cap,cur,e,_,h5,h6,h7,h8,h9⟩);{cases e};(injection e with e1 e2 e3);(injection e1 with e1);(injection e1 with e1);subst e1;have qe:ak w g 33 cur:=h5;rw[qe.cell, <-Gi];rw[<-h9,xG,qE qO]at hf;exact hf);exact⟨neg,A,n1,c1,A',n',c',⟨qa 0 qO,qa 1 qO,qa 2 qO⟩,⟨hb.frozen _,hb.frozen _,hb.frozen _⟩,k2⟩
def nW{B g n c s k:Nat}{e:TypeId}{xs:List Value}(h:w.ownsRow B e s (.s (sA g) n c) n xs)(u:Value):(w.setCell (aD g k) u).ownsRow B e s (.s (sA g) n c) n (xs.set k u):=by
 refine⟨by rw[yV];exact h.1,?_⟩;rcases h.2 with⟨h3,h4⟩|⟨g',cap,cur,h3,h4,h5,h6,h7,h8,h9⟩
 ·cases h3
 have qa:=h3;injection h3 with e1 e2 e3
 injection e1 with e1
 injection e1 with e1
 subst e1;refine .inr ⟨g,cap,cur.setIfInBounds k u,qa,h4,(show ak w g e cur from h5).sT k u,h6,h7,by simpa using h8,?_⟩;rw[Array.toList_setIfInBounds, <-h9,List.take_set]
def dC(w:World)(g i:Nat)(v0 v1 v2:Value):w.grownBy (((w.setCell (aD g i) v0).setCell (aD g (i+1)) v1).setCell (aD g (i+2)) v2) (some g):=
 ((aM w g i v0).trans (aM _ g (i+1) v1)).trans (aM _ g (i+2) v2)
def OQ.put{B g n c m:Nat}{qs:LQ}{q:Rat}{neg:Bool}{A}{n1 c1:Nat}{A'}{n' c':Nat}(h:OQ QR 33 w B (.s (sA g) n c) qs)(hn:qs.length=n)(hm:m<qs.length)(hl:aC w neg A n1 c1 A' n' c' q):
  OQ QR 33 (((w.setCell (aD g (m*3)) (.bool neg)).setCell (aD g (m*3+1)) (.s A n1 c1)).setCell (aD g (m*3+2)) (.s A' n' c')) B (.s (sA g) n c) (qs.set m q):=by
 obtain⟨css,h1,h2,h3,h4⟩:=h;rw[hn]at h3;obtain⟨cb,hb⟩:=aT h3 (g:=g) rfl;have g2:=dC w g (m*3) (.bool neg) (.s A n1 c1) (.s A' n' c');have qa:m<css.length:=qO;obtain⟨cs,qf⟩:∃cs,css[m]?=some cs:=⟨_,yG qa⟩;have qe:cs.length=3:=h2 cs (yJ qf);have e0:css=css.set m cs:=(by apply uK;intro i;by_cases e:m=i;{subst e;rw[yM qa];exact qf};rw[vN e]);have b:=nW (k:=m*3+2) (nW (k:=m*3+1) (nW (k:=m*3+0) h3 (.bool neg)) (.s A n1 c1)) (.s A' n' c');rw[e0,fF css h2 m qa cs 0 _ qe qO,fF css h2 m qa _ 1 _ (by simp[qe]) qO,fF css h2 m qa _ 2 _ (by simp[qe]) qO]at b;have e3:((cs.set 0 (.bool neg)).set 1 (.s A n1 c1)).set 2 (.s A' n' c')=[.bool neg,.s A n1 c1,.s A' n' c']:=(by (rcases cs with _|⟨a0,_|⟨a1,_|⟨a2,_|⟨a3,r⟩⟩⟩⟩);all_goals first|(simp at qe;done)|rfl);rw[e3]at b;refine⟨css.set m [.bool neg,.s A n1 c1,.s A' n' c'],by simp[h1],fun c hcc=>?_,by rw[yV,hn];exact b,fun i p hi=>?_⟩;{(rcases xE hcc with h|h);{exact h2 c h};rw[h];rfl};by_cases e:m=i;{subst e;(rw[yM hm]at hi;injection hi with hi);subst hi;exact⟨_,yM qa,neg,A,n1,c1,A',n',c',rfl,hl.other g2 hb qD⟩};rw[vN e]at hi;obtain⟨qg,k1,k2⟩:=h4 i p hi;exact⟨qg,by rw[vN e];exact k1,k2.other g2 hb qD⟩
def Ic(w:World)(cs:List Value)(V:Value)(q:Rat):Prop:=
 ∃(neg:Bool) (A:OA) (n c:Nat) (A':OA) (n' c':Nat),cs=[V,.bool neg,.s A n c,.s A' n' c']/\aC w neg A n c A' n' c' q
def Ic.K{cs:List Value}{V:Value}{q:Rat}(h:Ic w cs V q)(hx:Ext w w'):Ic w' cs V q:=by
 obtain⟨neg,A,n,c,A',n',c',e,h1⟩:=h;exact⟨neg,A,n,c,A',n',c',e,h1.K hx⟩
def fu.Gc{cs:List Value}{V:Value}{q:Rat}(k:fu S w w')(hn:oh S w 196)(h:Ic w cs V q):Ic w' cs V q:=by
 obtain⟨neg,A,n,c,A',n',c',e,h1⟩:=h;exact⟨neg,A,n,c,A',n',c',e,k.oz hn h1⟩
end
end Go.Proofs.YtfeeacaofjpkaaaGreatDoor
namespace Go.Proofs.YtfeeacaofjpkaaaGreatDoor
open Go.Proofs.Tryz
namespace Sx
def sm:Nat->(Nat->Rat)->Rat
 |0,_=>0
 |n+1,f=>sm n f+f n
def au:∀(n:Nat) {f g:Nat->Rat},(∀k,k<n->f k=g k)->sm n f=sm n g
 |0,_,_,_=>rfl
 |n+1,f,g,h=>by
  show sm n f+f n=sm n g+g n;rw[au n (fun k hk=>h k qO),h n qO]
def ku:∀(n:Nat) {f:Nat->Rat},(∀k,k<n->f k=0)->sm n f=0
 |0,_,_=>rfl
 |n+1,f,h=>by
  show sm n f+f n=0;rw[ku n (fun k hk=>h k qO),h n qO];grind
def u7:∀(n:Nat) (f g:Nat->Rat),sm n (fun k=>f k+g k)=sm n f+sm n g
 |0,_,_=>by show(0:Rat)=0+0;grind
 |n+1,f,g=>by
  show sm n (fun k=>f k+g k)+(f n+g n)=(sm n f+f n)+(sm n g+g n);rw[u7 n f g];grind
def eO:∀(n:Nat) (c:Rat) (f:Nat->Rat),sm n (fun k=>c*f k)=c*sm n f
 |0,c,_=>by show(0:Rat)=c*0;grind
 |n+1,c,f=>by
  show sm n (fun k=>c*f k)+c*f n=c*(sm n f+f n);rw[eO n c f];grind
def uS(n:Nat)(c:Rat)(f:Nat->Rat):sm n (fun k=>f k*c)=sm n f*c:=by
 rw[Rat.mul_comm, <-eO];exact au n fun k _=>Rat.mul_comm _ _
def jzct(n:Nat)(f g:Nat->Rat):sm n (fun k=>f k-g k)=sm n f-sm n g:=by
 have h:=u7 n (fun k=>f k-g k) g;have h2:sm n (fun k=>f k-g k+g k)=sm n f:=au n fun k _=>qG;rw[h2]at h;grind
def iy:∀(n:Nat) {f:Nat->Rat} {l:Nat},l<n->(∀k,k<n->k≠l->f k=0)->sm n f=f l
 |n+1,f,l,hl,h=>by
  show sm n f+f n=f l;by_cases e:l=n
  ·subst e
   rw[ku l (fun k hk=>h k qO qO)];grind
  ·rw[iy n qO (fun k hk hkl=>h k qO hkl),h n qO (fun e2=>e e2.symm)];grind
def mL(n:Nat):∀(m:Nat) (f:Nat->Nat->Rat),sm n (fun k=>sm m (fun l=>f k l))=sm m (fun l=>sm n (fun k=>f k l))
 |0,f=>ku n fun k _=>rfl
 |m+1,f=>by
  show sm n (fun k=>sm m (fun l=>f k l)+f k m)=sm m (fun l=>sm n (fun k=>f k l))+sm n (fun k=>f k m);rw[u7,mL n m f]
def kQ:∀(n:Nat) {f:Nat->Rat},(∀k,k<n->0<=f k)->0<=sm n f
 |0,_,_=>vC
 |n+1,f,h=>by
  show 0<=sm n f+f n;have h1:=kQ n (fun k hk=>h k qO);have h2:=h n qO;grind
def Cw:∀(n:Nat) {f g:Nat->Rat},(∀k,k<n->f k<=g k)->sm n f<=sm n g
 |0,_,_,_=>vC
 |n+1,f,g,h=>by
  show sm n f+f n<=sm n g+g n;have h1:=Cw n (fun k hk=>h k qO);have h2:=h n qO;grind
def jzcu:∀(n:Nat) {f:Nat->Rat},0<sm n f->∃k,k<n/\0<f k
 |0,f,h=>absurd h (by show¬(0:Rat)<0;exact Gt)
 |n+1,f,h=>by
  have h:0<sm n f+f n:=h;by_cases h1:0<f n
  ·exact⟨n,qO,h1⟩
  ·obtain⟨k,hk,h2⟩:=jzcu n (f:=f) qG
   exact⟨k,qO,h2⟩
def piv(M:Nat->Nat->Rat)(i e:Nat):Nat->Nat->Rat:=fun k v=>if k=i then M i v/M i e else M k v-M k e*(M i v/M i e)
def fH(bn:Nat->Nat)(i e:Nat):Nat->Nat:=fun k=>if k=i then e else bn k
structure gG(m nv:Nat)(M:Nat->Nat->Rat)(bn:Nat->Nat):Prop where
 unit:∀l,l<m->∀k,k<=m->M k (bn l)=if k=l then 1 else 0
 lt:∀l,l<m->bn l<nv
def gG.inj{m nv:Nat}{M:Nat->Nat->Rat}{bn:Nat->Nat}(h:gG m nv M bn){k l:Nat}(hk:k<m)(hl:l<m)(e:bn k=bn l):k=l:=by
 by_cases h1:k=l;{exact h1};have h2:=h.unit k hk k qO;have h3:=h.unit l hl k qO;rw[e]at h2;rw[h2,qE rfl,qF h1]at h3;exact absurd h3 qD
def fI(M:Nat->Nat->Rat)(i e v:Nat):piv M i e i v=M i v/M i e:=by unfold piv;rw[qE rfl]
def dX(M:Nat->Nat->Rat){i k:Nat}(e v:Nat)(h:k≠i):piv M i e k v=M k v-M k e*(M i v/M i e):=by unfold piv;rw[qF h]
def nX(bn:Nat->Nat)(i e:Nat):fH bn i e i=e:=by unfold fH;rw[qE rfl]
def mM(bn:Nat->Nat){i k:Nat}(e:Nat)(h:k≠i):fH bn i e k=bn k:=by unfold fH;rw[qF h]
def gG.pivot{m nv:Nat}{M:Nat->Nat->Rat}{bn:Nat->Nat}(h:gG m nv M bn){i e:Nat}(hi:i<m)(he:e<nv)(hp:M i e≠0):gG m nv (piv M i e) (fH bn i e):=by
 refine⟨fun l hl k hk=>?_,fun l hl=>?_⟩;{by_cases qa:l=i;{subst qa;rw[nX];by_cases qe:k=l;{subst qe;rw[fI,qE rfl];grind};rw[dX M e e qe,qF qe];grind};rw[mM bn e qa];have h0:=h.unit l hl i qO;rw[qF (fun e=>qa e.symm)]at h0;by_cases qe:k=i;{subst qe;rw[fI,h0,qF (fun e=>qa e.symm)];grind};rw[dX M e _ qe,h0,h.unit l hl k hk];grind};by_cases qa:l=i;{rw[qa,nX];exact he};rw[mM bn e qa];exact h.lt l hl
def Sp(m:Nat)(M M':Nat->Nat->Rat):Prop:=∃(A:Nat->Nat->Rat) (L:Nat->Rat),(∀k,k<m->∀v,M' k v=sm m fun l=>A k l*M l v)/\∀v,M' m v=M m v+sm m fun l=>L l*M l v
def Sp.refl(m:Nat)(M:Nat->Nat->Rat):Sp m M M:=⟨fun k l=>if k=l then 1 else 0,fun _=>0,fun k hk v=>by
 rw[iy m hk (fun l hl hlk=>by dsimp only;rw[qF (fun e=>hlk e.symm)];grind)];dsimp only;rw[qE rfl];grind,fun v=>by
 rw[ku m (fun l _=>qG)];grind⟩
def Sp.trans{m:Nat}{M M' M2:Nat->Nat->Rat}(h:Sp m M M')(h2:Sp m M' M2):Sp m M M2:=by
 obtain⟨A,L,h3,h4⟩:=h;obtain⟨A',L',h5,h6⟩:=h2;have qa:∀(C:Nat->Rat) (v:Nat),sm m (fun l=>C l*M' l v)=sm m fun j=>(sm m fun l=>C l*A l j)*M j v:=fun C v=>(by have e1:sm m (fun l=>C l*M' l v)=sm m fun l=>sm m fun j=>C l*A l j*M j v:=au m fun l hl=>(by rw[h3 l hl v, <-eO];exact au m fun j _=>qG);rw[e1,mL];exact au m fun j _=>by rw[<-uS]);refine⟨fun k j=>sm m fun l=>A' k l*A l j,fun j=>L j+sm m fun l=>L' l*A l j,fun k hk v=>?_,fun v=>?_⟩;{rw[h5 k hk v,qa]};rw[h6 v,h4 v,qa,Rat.add_assoc, <-u7];congr 1;exact au m fun j _=>by grind
def Sp.fwd{m:Nat}(M:Nat->Nat->Rat){i:Nat}(e:Nat)(hi:i<m):Sp m M (piv M i e):=by
 refine⟨fun k l=>if k=i then(if l=i then 1/M i e else 0)else(if l=k then 1 else if l=i then-M k e/M i e else 0),fun l=>if l=i then-M m e/M i e else 0,fun k hk v=>?_,fun v=>?_⟩;{by_cases qa:k=i;{subst qa;rw[fI,iy m hi (fun l _ hl=>by dsimp only;rw[qE rfl,qF hl];grind)];dsimp only;rw[qE rfl,qE rfl];grind};rw[dX M e v qa];have e1:sm m (fun l=>(if k=i then(if l=i then 1/M i e else 0)else(if l=k then 1 else if l=i then-M k e/M i e else 0))*M l v)=sm m (fun l=>(if l=k then M k v else 0)+(if l=i then(-M k e/M i e)*M i v else 0)):=au m fun l _=>(by rw[qF qa];by_cases h1:l=k;{subst h1;rw[qE rfl,qE rfl,qF qa];grind};rw[qF h1,qF h1];by_cases h2:l=i;{subst h2;rw[qE rfl,qE rfl];grind};rw[qF h2,qF h2];grind);rw[e1,u7,iy m hk (fun l _ hl=>by rw[qF hl]),iy m hi (fun l _ hl=>by rw[qF hl]),qE rfl,qE rfl];grind};rw[dX M e v qO,iy m hi (fun l _ hl=>by dsimp only;rw[qF hl];grind)];dsimp only;rw[qE rfl];grind
def Sp.bwd{m:Nat}(M:Nat->Nat->Rat){i:Nat}(e:Nat)(hi:i<m)(hp:M i e≠0):Sp m (piv M i e) M:=by
 refine⟨fun k l=>if k=i then(if l=i then M i e else 0)else(if l=k then 1 else if l=i then M k e else 0),fun l=>if l=i then M m e else 0,fun k hk v=>?_,fun v=>?_⟩;{by_cases qa:k=i;{subst qa;rw[iy m hi (fun l _ hl=>by dsimp only;rw[qE rfl,qF hl];grind)];dsimp only;rw[qE rfl,qE rfl,fI];grind};have e1:sm m (fun l=>(if k=i then(if l=i then M i e else 0)else(if l=k then 1 else if l=i then M k e else 0))*piv M i e l v)=sm m (fun l=>(if l=k then piv M i e k v else 0)+(if l=i then M k e*piv M i e i v else 0)):=au m fun l _=>(by rw[qF qa];by_cases h1:l=k;{subst h1;rw[qE rfl,qE rfl,qF qa];grind};rw[qF h1,qF h1];by_cases h2:l=i;{subst h2;rw[qE rfl,qE rfl];grind};rw[qF h2,qF h2];grind);rw[e1,u7,iy m hk (fun l _ hl=>by rw[qF hl]),iy m hi (fun l _ hl=>by rw[qF hl]),qE rfl,qE rfl,dX M e v qa,fI];grind};rw[iy m hi (fun l _ hl=>by dsimp only;rw[qF hl];grind)];dsimp only;rw[qE rfl,dX M e v qO,fI];grind
def Sp.goal{m nv:Nat}{M M':Nat->Nat->Rat}{bn:Nat->Nat}(h:Sp m M M')(hd:gG m nv M bn)(v:Nat):M' m v=M m v+sm m fun l=>M' m (bn l)*M l v:=by
 obtain⟨A,L,_,h4⟩:=h;rw[h4 v];congr 1;refine au m fun l hl=>?_;have h5:=h4 (bn l);rw[hd.unit l hl m qO,qF qO,iy m hl (fun j hj hjl=>by rw[hd.unit l hl j qO,qF hjl];grind),hd.unit l hl l qO,qE rfl]at h5;rw[h5];grind
structure Bl(m nv:Nat)(M:Nat->Nat->Rat)(bn:Nat->Nat)(i e:Nat):Prop where
 hi:i<m
 he:e<nv
 neg:M m e<0
 first:∀v,v<e->0<=M m v
 pos:0<M i e
 least:∀k,k<m->0<M k e->M i nv/M i e<=M k nv/M k e
 tie:∀k,k<m->0<M k e->M i nv/M i e=M k nv/M k e->bn i<=bn k
def jzcv{a b:Rat}(h:0<=a)(h2:0<b):0<=a/b:=by
 rw[Rat.div_def];exact vA h (vB (Rat.inv_pos.2 h2))
def jzle{a b c:Rat}(h:0<c)(h2:a<=b/c):a*c<=b:=by
 have:=Ke h2 (vB h);have e:b/c*c=b:=qG;rw[e]at this;exact this
def Bl.D9{m nv:Nat}{M:Nat->Nat->Rat}{bn:Nat->Nat}{i e:Nat}(h:Bl m nv M bn i e)(hf:∀k,k<m->0<=M k nv):∀k,k<m->0<=piv M i e k nv:=fun k hk=>by
 have h0:=jzcv (hf i h.hi) h.pos;by_cases qa:k=i;{subst qa;rw[fI];exact h0};rw[dX M e nv qa];by_cases hp:0<M k e;{have h1:=jzle hp (h.least k hk hp);grind};have h1:=hf k hk;have h2:M k e*(M i nv/M i e)<=0:=(by have:=Ke (Dy.1 hp) h0;grind);grind
def Bl.goal{m nv:Nat}{M:Nat->Nat->Rat}{bn:Nat->Nat}{i e:Nat}(h:Bl m nv M bn i e)(hf:∀k,k<m->0<=M k nv):M m nv<=piv M i e m nv/\(piv M i e m nv=M m nv->M i nv=0):=by
 have h0:=jzcv (hf i h.hi) h.pos;have qa:m≠i:=(by have:=h.hi;omega);rw[dX M e nv qa];refine⟨?_,fun e2=>?_⟩;{have:=Ke (vB h.neg) h0;grind};have h3:M m e*(M i nv/M i e)=0:=qG;have h4:=h.neg;have h5:=h.pos;have h6:M i nv/M i e=0:=(by (rcases Rat.mul_eq_zero.1 h3 with h7|h7);{grind};exact h7);grind
def uT:∀(n:Nat) (f:Nat->Nat),(∀k,k<n+1->f k<n)->∃a b,a<b/\b<n+1/\f a=f b
 |0,f,h=>absurd (h 0 qO) qO
 |n+1,f,h=>by
  by_cases h1:∃a,a<n+1/\f a=f (n+1)
  ·obtain⟨a,ha,e⟩:=h1
   exact⟨a,n+1,ha,qO,e⟩
  ·have qa:∀k,k<n+1->f k≠f (n+1):=fun k hk e=>h1 ⟨k,hk,e⟩
   obtain⟨a,b,qe,hb,e⟩:=uT n (fun k=>if f k=n then f (n+1)else f k) (fun k hk=>by
    have h2:=h k qO;have h3:=h (n+1) qO;have h4:=qa k hk
    split <;> omega)
   refine⟨a,b,qe,qO,?_⟩;have h5:=qa a qO;have h6:=qa b hb;by_cases ea:f a=n
   ·by_cases eb:f b=n
    ·rw[ea,eb]
    ·rw[qE ea,qF eb]at e;exact absurd e.symm h6
   ·by_cases eb:f b=n
    ·rw[qF ea,qE eb]at e;exact absurd e h5
    ·rw[qF ea,qF eb]at e;exact e
def bH(p:Nat->Bool):Nat->Nat
 |0=>0
 |n+1=>2*bH p n+if p n then 1 else 0
def jzcw(p:Nat->Bool):∀n,bH p n<2^n
 |0=>by show 0<1;omega
 |n+1=>by
  have h:=jzcw p n;show 2*bH p n+(if p n then 1 else 0)<2^(n+1);rw[vD]
  split <;> omega
def jzcx{p q:Nat->Bool}:∀{n:Nat},bH p n=bH q n->∀k,k<n->p k=q k
 |n+1,h,k,hk=>by
  have h:2*bH p n+(if p n then 1 else 0)=2*bH q n+(if q n then 1 else 0):=h;have e1:p n=q n:=by
   cases h1:p n <;> cases h2:q n
   ·rfl
   ·rw[h1,h2]at h;simp at h;omega
   ·rw[h1,h2]at h;simp at h;omega
   rfl
  have e2:bH p n=bH q n:=(by rw[e1]at h;omega);by_cases qa:k=n
  ·rw[qa];exact e1
  exact jzcx e2 k qO
def uU{p:Nat->Prop}{a:Nat}:∀{b:Nat},a<=b->¬p a->p b->∃n,a<=n/\n<b/\¬p n/\p (n+1)
 |b,hab,ha,hb=>by
  induction b with
  |zero=>obtain rfl:a=0:=by omega
         exact absurd hb ha
  |succ b ih=>
   by_cases h:p b
   ·by_cases qa:a<=b
    ·obtain⟨n,h1,h2,h3⟩:=ih qa h
     exact⟨n,h1,qO,h3⟩
    ·obtain rfl:a=b+1:=by omega
     exact absurd hb ha
   ·by_cases qa:a<=b
    ·exact⟨b,qa,qO,h,hb⟩
    ·obtain rfl:a=b+1:=by omega
     exact absurd hb ha
def jzcy{p:Nat->Prop}{a b:Nat}(hab:a<=b)(ha:p a)(hb:¬p b):∃n,a<=n/\n<b/\p n/\¬p (n+1):=by
 obtain⟨n,h1,h2,h3,h4⟩:=uU (p:=fun n=> ¬p n) hab (fun h=>h ha) hb;exact⟨n,h1,h2,Classical.not_not.1 h3,h4⟩
def jzlf(f:Nat->Nat)(a:Nat):∀b,a<b->∃c,a<=c/\c<b/\∀n,a<=n->n<b->f n<=f c
 |b,hab=>by
  induction b with
  |zero=>omega
  |succ b ih=>
   by_cases h:a<b
   ·obtain⟨c,h1,h2,h3⟩:=ih h
    by_cases h4:f b<=f c
    ·exact⟨c,h1,qO,fun n h5 h6=>by
     by_cases e:n=b
     ·rw[e];exact h4
     ·exact h3 n h5 qO⟩
    ·exact⟨b,qO,qO,fun n h5 h6=>by
     by_cases e:n=b
     ·rw[e];exact yX _
     ·have:=h3 n h5 qO;omega⟩
   ·obtain rfl:a=b:=by omega
    exact⟨a,yX _,qO,fun n h5 h6=>by
     obtain rfl:n=a:=qO;exact yX _⟩
structure Run(m nv N:Nat)(M:Nat->Nat->Nat->Rat)(bn:Nat->Nat->Nat)(i e:Nat->Nat):Prop where
 dict:gG m nv (M 0) (bn 0)
 D9:∀k,k<m->0<=M 0 k nv
 bl:∀n,n<N->Bl m nv (M n) (bn n) (i n) (e n)
 Ed:∀n,n<N->M (n+1)=piv (M n) (i n) (e n)
 Fq:∀n,n<N->bn (n+1)=fH (bn n) (i n) (e n)
section
variable {m nv N:Nat} {M:Nat->Nat->Nat->Rat} {bn:Nat->Nat->Nat} {i e:Nat->Nat}
def Run.d(h:Run m nv N M bn i e):∀n,n<=N->gG m nv (M n) (bn n)/\∀k,k<m->0<=M n k nv
 |0,_=>⟨h.dict,h.D9⟩
 |n+1,hn=>by
  obtain⟨h1,h2⟩:=h.d n qO;have h3:=h.bl n qO;rw[h.Ed n qO,h.Fq n qO];exact⟨h1.pivot h3.hi h3.he (fun e=>by have:=h3.pos;rw[e]at this;exact absurd this qD),h3.D9 h2⟩
def Run.sp(h:Run m nv N M bn i e){a b:Nat}(hab:a<=b)(hb:b<=N):Sp m (M a) (M b)/\Sp m (M b) (M a):=by
 induction b with
 |zero=>obtain rfl:a=0:=by omega
        exact⟨Sp.refl _ _,Sp.refl _ _⟩
 |succ b ih=>
  by_cases e2:a=b+1
  ·subst e2;exact⟨Sp.refl _ _,Sp.refl _ _⟩
  obtain⟨h1,h2⟩:=ih qO qO;have h3:=h.bl b qO;rw[h.Ed b qO];exact⟨h1.trans (Sp.fwd _ _ h3.hi),(Sp.bwd _ _ h3.hi (fun e=>by have:=h3.pos;rw[e]at this;exact absurd this qD)).trans h2⟩
def Run.sp2(h:Run m nv N M bn i e){a b:Nat}(ha:a<=N)(hb:b<=N):Sp m (M a) (M b):=by
 rcases Nat.le_total a b with h1|h1
 ·exact(h.sp h1 hb).1
 exact(h.sp h1 ha).2
def Run.mono(h:Run m nv N M bn i e){a b:Nat}(hab:a<=b)(hb:b<=N):M a m nv<=M b m nv:=by
 induction b with
 |zero=>obtain rfl:a=0:=by omega
        exact vC
 |succ b ih=>
  by_cases e2:a=b+1
  ·subst e2;exact vC
  have h1:=ih qO qO;have h3:=((h.bl b qO).goal (h.d b qO).2).1;rw[<-h.Ed b qO]at h3;exact Dv h1 h3
def kg(m:Nat)(bn:Nat->Nat)(v:Nat):Prop:=∃l,l<m/\bn l=v
def gG.ent{m nv:Nat}{M:Nat->Nat->Rat}{bn:Nat->Nat}(h:gG m nv M bn){v:Nat}(hv:M m v≠0):¬kg m bn v:=fun⟨l,hl,e⟩=>by
 have:=h.unit l hl m (yX _);rw[e,qF qO]at this;exact hv this
def Run.ent(h:Run m nv N M bn i e){n:Nat}(hn:n<N):¬kg m (bn n) (e n)/\kg m (bn (n+1)) (e n):=by
 have h1:=h.bl n hn;refine⟨(h.d n qO).1.ent (fun e2=>by have:=h1.neg;rw[e2]at this;exact absurd this qD),i n,h1.hi,?_⟩;rw[h.Fq n hn,nX]
def Run.came(h:Run m nv N M bn i e){n v:Nat}(hn:n<N)(h1:¬kg m (bn n) v)(h2:kg m (bn (n+1)) v):e n=v:=by
 obtain⟨l,hl,h3⟩:=h2;rw[h.Fq n hn]at h3;by_cases e2:l=i n;{rw[e2,nX]at h3;exact h3};rw[mM _ _ e2]at h3;exact absurd ⟨l,hl,h3⟩ h1
def Run.went(h:Run m nv N M bn i e){n v:Nat}(hn:n<N)(h1:kg m (bn n) v)(h2:¬kg m (bn (n+1)) v):bn n (i n)=v:=by
 obtain⟨l,hl,h3⟩:=h1;by_cases e2:l=i n;{rw[<-e2];exact h3};refine absurd ⟨l,hl,?_⟩ h2;rw[h.Fq n hn,mM _ _ e2];exact h3
def Run.still(h:Run m nv N M bn i e){n v:Nat}(hn:n<N)(hz:M n (i n) nv=0)(x:Rat)(hx:x≠0):(∃l,l<m/\bn n l=v/\M n l nv=x)↔∃l,l<m/\bn (n+1) l=v/\M (n+1) l nv=x:=by
 have hr:∀l,l≠i n->bn (n+1) l=bn n l/\M (n+1) l nv=M n l nv:=fun l hl=>(by rw[h.Fq n hn,h.Ed n hn,mM _ _ hl,dX _ _ _ hl,hz];exact⟨rfl,qG⟩);have qe:M (n+1) (i n) nv=0:=(by rw[h.Ed n hn,fI,hz];grind);constructor;{rintro ⟨l,hl,h1,h2⟩;have qa:l≠i n:=fun e2=>(by rw[e2,hz]at h2;exact hx h2.symm);obtain⟨h3,h4⟩:=hr l qa;exact⟨l,hl,by rw[h3];exact h1,by rw[h4];exact h2⟩};rintro ⟨l,hl,h1,h2⟩;have qa:l≠i n:=fun e2=>(by rw[e2,qe]at h2;exact hx h2.symm);obtain⟨h3,h4⟩:=hr l qa;exact⟨l,hl,by rw[<-h3];exact h1,by rw[<-h4];exact h2⟩
def Run.stay(h:Run m nv N M bn i e){a b v:Nat}(hab:a<=b)(hb:b<=N)(hz:∀n,a<=n->n<b->M n (i n) nv=0)(x:Rat)(hx:x≠0):(∃l,l<m/\bn a l=v/\M a l nv=x)↔∃l,l<m/\bn b l=v/\M b l nv=x:=by
 induction b with
 |zero=>obtain rfl:a=0:=by omega
        exact Iff.rfl
 |succ b ih=>
  by_cases e2:a=b+1
  ·subst e2;exact Iff.rfl
  exact(ih qO qO (fun n h1 h2=>hz n h1 qO)).trans (h.still qO (hz b qO qO) x hx)
def Run.twice(h:Run m nv N M bn i e){a b:Nat}(hab:a<b)(hb:b<=N)(hs:∀v,kg m (bn a) v↔kg m (bn b) v):False:=by
 have qz:M b m nv=M a m nv:=(by have h1:=(h.sp2 (a:=a) (b:=b) qO hb).goal (h.d a qO).1 nv;rw[ku m (fun l hl=>by obtain⟨k,hk,qt⟩:=(hs (bn a l)).1 ⟨l,hl,rfl⟩;have:=(h.d b hb).1.unit k hk m (yX _);rw[qt,qF qO]at this;rw[this];grind)]at h1;grind);have hz:∀n,a<=n->n<b->M n (i n) nv=0:=fun n h1 h2=>(by refine((h.bl n qO).goal (h.d n qO).2).2 ?_;rw[<-h.Ed n qO];have h3:=h.mono h1 qO;have h4:=h.mono (a:=n) (b:=n+1) qO qO;have h5:=h.mono (a:=n+1) (b:=b) qO hb;grind);have qy:∀c c' v (x:Rat),a<=c->c<=b->a<=c'->c'<=b->x≠0->(∃l,l<m/\bn c l=v/\M c l nv=x)->∃l,l<m/\bn c' l=v/\M c' l nv=x:=fun c c' v x h1 h2 h3 h4 hx hp=>(by (rcases Nat.le_total c c' with h5|h5);{exact(h.stay h5 qO (fun n h6 h7=>hz n qO qO) x hx).1 hp};exact(h.stay h5 qO (fun n h6 h7=>hz n qO qO) x hx).2 hp);obtain⟨c',qo,qJ,qg⟩:=jzlf e a b hab;obtain⟨qB,qA⟩:=h.ent (n:=c') qO;obtain⟨c,qh,qk,qj⟩:∃c,a<=c/\c<b/\bn c (i c)=e c':=(by by_cases hA:kg m (bn a) (e c');{obtain⟨n,h1,h2,h3,h4⟩:=jzcy (p:=fun n=>kg m (bn n) (e c')) qo hA qB;exact⟨n,h1,qO,h.went qO h3 h4⟩};obtain⟨n,h1,h2,h3,h4⟩:=jzcy (p:=fun n=>kg m (bn n) (e c')) (a:=c'+1) (b:=b) qO qA (fun h5=>hA ((hs _).2 h5));exact⟨n,qO,h2,h.went qO h3 h4⟩);have qe:=h.bl c qO;have qa:=h.bl c' qO;have hD:=(h.d c qO).1;have qI:=(h.d c' qO).1;have qx:e c<e c':=(by have h1:=qg c qh qk;have h2:e c≠e c':=fun e2=>(h.ent (n:=c) qO).1 ⟨i c,qe.hi,by rw[qj,e2]⟩;omega);have hg:=(h.sp2 (a:=c) (b:=c') qO qO).goal hD (e c);have h1:=qa.first _ qx;have h2:=qe.neg;obtain⟨l,hl,qf⟩:=jzcu m (f:=fun l=>M c' m (bn c l)*M c l (e c)) qG;have qC:M c' m (bn c l)≠0:=fun e2=>(by rw[e2]at qf;grind);have qn:=qI.ent qC;have qw:kg m (bn c) (bn c l):=⟨l,hl,rfl⟩;have qM:bn c l<=e c':=(by have qi:∃n,a<=n/\n<b/\e n=bn c l:=(by by_cases hA:kg m (bn a) (bn c l);{obtain⟨n,h3,h4,h5,h6⟩:=uU (p:=fun n=>kg m (bn n) (bn c l)) (a:=c') (b:=b) qO qn ((hs _).1 hA);exact⟨n,qO,h4,h.came qO h5 h6⟩};obtain⟨n,h3,h4,h5,h6⟩:=uU (p:=fun n=>kg m (bn n) (bn c l)) qh hA qw;exact⟨n,h3,qO,h.came qO h5 h6⟩);obtain⟨n,h3,h4,h5⟩:=qi;rw[<-h5];exact qg n h3 h4);by_cases qm:bn c l=e c';{have qH:l=i c:=hD.inj hl qe.hi (by rw[qm,qj]);rw[qm,qH]at qf;have h3:=qa.neg;have h4:=Ke (vB h3) (vB qe.pos);grind};have h3:=qa.first _ (show bn c l<e c' by omega);have h4:0<M c l (e c):=(by refine Rat.not_le.1 fun h5=>?_;have h6:=yT h5 h3;grind);have h0:M c l nv=0:=(by refine Classical.byContradiction fun hx=>?_;obtain⟨k,hk,qp,_⟩:=qy c c' (bn c l) _ qh qO qo qO hx ⟨l,hl,rfl,rfl⟩;exact qn ⟨k,hk,qp⟩);have h5:=qe.tie l hl h4 (by rw[h0,hz c qh qk];grind);rw[qj]at h5;omega
open Classical in
def Run.short(h:Run m nv N M bn i e):N<2^nv:=by
 refine Nat.lt_of_not_le fun hN=>?_;obtain⟨a,b,qa,hb,hc⟩:=uT (2^nv) (fun n=>bH (fun v=>decide (kg m (bn n) v)) nv) (fun n _=>jzcw _ nv);refine h.twice qa qO fun v=>?_;by_cases hv:v<nv;{have:=jzcx hc v hv;simpa using this};exact⟨fun⟨l,hl,e2⟩=>absurd ((h.d a qO).1.lt l hl) qO,fun⟨l,hl,e2⟩=>absurd ((h.d b qO).1.lt l hl) qO⟩
end
end Sx
namespace Sx
def sg(j:Nat):Rat:=if j%2=0 then 1 else-1
def jzlg(j:Nat):sg (j+1)= -sg j:=by
 unfold sg;by_cases h:j%2=0;{rw[qE h,qF qO]};rw[qF h,qE qO];rfl
def sk(j l:Nat):Nat:=if l<j then l else l+1
def mn(a:Nat->Nat->Rat)(j:Nat):Nat->Nat->Rat:=fun i l=>a (i+1) (sk j l)
def dt:Nat->(Nat->Nat->Rat)->Rat
 |0,_=>1
 |m+1,a=>sm (m+1) fun j=>sg j*a 0 j*dt m (mn a j)
def gH(m:Nat)(a:Nat->Nat->Rat):dt (m+1) a=sm (m+1) fun j=>sg j*a 0 j*dt m (mn a j):=rfl
def kR:∀(m:Nat) {a b:Nat->Nat->Rat},(∀i,i<m->∀j,j<m->a i j=b i j)->dt m a=dt m b
 |0,_,_,_=>rfl
 |m+1,a,b,h=>by
  rw[gH,gH];refine au _ fun j hj=>?_;have e:dt m (mn a j)=dt m (mn b j):=kR m fun i hi l hl=>h (i+1) qO (sk j l) (by unfold sk;split <;> omega);rw[h 0 qO j hj,e]
def rc(a:Nat->Nat->Rat)(k:Nat)(u:Nat->Rat):Nat->Nat->Rat:=fun i j=>if j=k then u i else a i j
def nY(a:Nat->Nat->Rat)(k:Nat)(u:Nat->Rat):mn (rc a k u) k=mn a k:=by
 funext i l;unfold mn rc sk;rw[qF (by split <;> omega)]
def us(j k:Nat):Nat:=if k<j then k else k-1
def nZ(a:Nat->Nat->Rat){j k:Nat}(u:Nat->Rat)(h:j≠k):mn (rc a k u) j=rc (mn a j) (us j k) (fun i=>u (i+1)):=by
 funext i l;(unfold mn rc sk us;have:((if l<j then l else l+1)=k)↔(l=if k<j then k else k-1):=(by split <;> split <;> omega);by_cases h2:l=if k<j then k else k-1);{rw[qE (this.2 h2),qE h2]};rw[qF (fun h3=>h2 (this.1 h3)),qF h2]
def hJ(a:Nat->Nat->Rat)(k:Nat)(u:Nat->Rat)(i:Nat):rc a k u i k=u i:=by unfold rc;rw[qE rfl]
def gI(a:Nat->Nat->Rat){j k:Nat}(u:Nat->Rat)(i:Nat)(h:j≠k):rc a k u i j=a i j:=by unfold rc;rw[qF h]
def rB:∀(m:Nat) (a:Nat->Nat->Rat) (k:Nat) (u v:Nat->Rat),k<m->dt m (rc a k (fun i=>u i+v i))=dt m (rc a k u)+dt m (rc a k v)
 |0,_,_,_,_,h=>absurd h qO
 |m+1,a,k,u,v,hk=>by
  rw[gH,gH,gH, <-u7];refine au _ fun j hj=>?_;by_cases h:j=k
  ·subst h
   rw[hJ,hJ,hJ,nY,nY,nY];grind
  ·rw[gI _ _ _ h,gI _ _ _ h,gI _ _ _ h,nZ _ _ h,nZ _ _ h,nZ _ _ h,rB m _ _ _ _ (by unfold us;split <;> omega)];grind
def uV:∀(m:Nat) (a:Nat->Nat->Rat) (k:Nat) (c:Rat) (u:Nat->Rat),k<m->dt m (rc a k (fun i=>c*u i))=c*dt m (rc a k u)
 |0,_,_,_,_,h=>absurd h qO
 |m+1,a,k,c,u,hk=>by
  rw[gH,gH, <-eO];refine au _ fun j hj=>?_;by_cases h:j=k
  ·subst h
   rw[hJ,hJ,nY,nY];grind
  ·rw[gI _ _ _ h,gI _ _ _ h,nZ _ _ h,nZ _ _ h,uV m _ _ _ _ (by unfold us;split <;> omega)];grind
def jzcz(m:Nat)(a:Nat->Nat->Rat)(k:Nat)(hk:k<m)(c:Nat->Rat)(u:Nat->Nat->Rat):∀n,dt m (rc a k (fun i=>sm n fun l=>c l*u l i))=sm n fun l=>c l*dt m (rc a k (u l))
 |0=>by
  have h:=uV m a k 0 (fun _=>0) hk;have e:(fun i:Nat=>sm 0 fun l=>c l*u l i)=fun i=>(0:Rat)*(fun _:Nat=>(0:Rat)) i:=by
   funext i
   show(0:Rat)=0*0;grind
  rw[e,h];show 0*_=(0:Rat);grind
 |n+1=>by
  have h:=rB m a k (fun i=>sm n fun l=>c l*u l i) (fun i=>c n*u n i) hk;refine Eq.trans h ?_;rw[jzcz m a k hk c u n,uV m a k _ _ hk];rfl
def jzlh(n:Nat){f:Nat->Rat}{k l:Nat}(hk:k<n)(hl:l<n)(hkl:k≠l)(h:∀j,j<n->j≠k->j≠l->f j=0):sm n f=f k+f l:=by
 have e:sm n f=sm n fun j=>(if j=k then f k else 0)+(if j=l then f l else 0):=au n fun j hj=>(by by_cases h1:j=k;{subst h1;rw[qE rfl,qF hkl];grind};by_cases h2:j=l;{subst h2;rw[qF h1,qE rfl];grind};rw[qF h1,qF h2,h j hj h1 h2];grind);rw[e,u7,iy n hk (fun j _ hj=>by rw[qF hj]),iy n hl (fun j _ hj=>by rw[qF hj]),qE rfl,qE rfl]
def rC:∀(m:Nat) (a:Nat->Nat->Rat) (k:Nat),k+1<m->(∀i,i<m->a i k=a i (k+1))->dt m a=0
 |0,_,_,h,_=>absurd h qO
 |m+1,a,k,hk,h=>by
  rw[gH,jzlh (m+1) (k:=k) (l:=k+1) qO hk qO (fun j hj h1 h2=>by
   have:dt m (mn a j)=0:=by
    by_cases h3:k<j
    ·exact rC m _ k qO (fun i hi=>by
     unfold mn sk;rw[qE h3,qE qO];exact h (i+1) qO)
    obtain⟨k',rfl⟩:∃k',k=k'+1:=⟨k-1,qO⟩;exact rC m _ k' qO (fun i hi=>by
     unfold mn sk;rw[qF qO,qF qO];exact h (i+1) qO)
   rw[this];grind)]
  have e:dt m (mn a k)=dt m (mn a (k+1)):=kR m fun i hi l hl=>by
   unfold mn sk;by_cases h1:l<k
   ·rw[qE h1,qE qO]
   by_cases h2:l=k
   ·subst h2
    rw[qF qO,qE qO];exact(h (i+1) qO).symm
   rw[qF h1,qF qO]
  rw[e, <-h 0 qO,jzlg];grind
def uW(a:Nat->Nat->Rat){k l:Nat}(u v:Nat->Rat)(h:k≠l):rc (rc a k u) l v=rc (rc a l v) k u:=by
 funext i j;unfold rc;by_cases h1:j=l;{subst h1;rw[qE rfl,qF (fun e=>h e.symm),qE rfl]};rw[qF h1,qF h1]
def jzli(m:Nat)(a:Nat->Nat->Rat)(k:Nat)(hk:k+1<m)(u v:Nat->Rat):dt m (rc (rc a k u) (k+1) v)= -dt m (rc (rc a k v) (k+1) u):=by
 have h0:∀x:Nat->Rat,dt m (rc (rc a k x) (k+1) x)=0:=fun x=>rC m _ k hk fun i _=>(by rw[hJ,gI _ _ _ qO,hJ]);have h1:=h0 (fun i=>u i+v i);have ha:∀x:Nat->Rat,dt m (rc (rc a k (fun i=>u i+v i)) (k+1) x)=dt m (rc (rc a k u) (k+1) x)+dt m (rc (rc a k v) (k+1) x):=fun x=>(by rw[uW a _ x qO,rB m _ k u v qO,uW a u x qO,uW a v x qO]);rw[rB m _ (k+1) u v hk,ha,ha,h0,h0]at h1;grind
def uX(a:Nat->Nat->Rat)(k:Nat):rc a k (fun i=>a i k)=a:=by
 funext i j;unfold rc;by_cases h:j=k;{rw[qE h,h]};rw[qF h]
def uY:∀(n m:Nat) (a:Nat->Nat->Rat) (k:Nat),k+1+n<m->(∀i,i<m->a i k=a i (k+1+n))->dt m a=0
 |0,m,a,k,hk,h=>rC m a k hk h
 |n+1,m,a,k,hk,h=>by
  have e:a=rc (rc a (k+1+n) (fun i=>a i (k+1+n))) (k+1+n+1) (fun i=>a i (k+1+n+1)):=by
   rw[uX];exact(uX a (k+1+n+1)).symm
  rw[e,jzli m a (k+1+n) hk,uY n m _ k qO (fun i hi=>?_)]
  ·grind
  rw[gI _ _ _ qO,gI _ _ _ qO,gI _ _ _ qO,hJ];exact h i hi
def jzlj(m:Nat)(a:Nat->Nat->Rat){k l:Nat}(hk:k<m)(hl:l<m)(hkl:k≠l)(h:∀i,i<m->a i k=a i l):dt m a=0:=by
 (rcases Nat.lt_or_gt_of_ne hkl with h1|h1);{obtain⟨n,rfl⟩:∃n,l=k+1+n:=⟨l-k-1,qO⟩;exact uY n m a k hl h};obtain⟨n,rfl⟩:∃n,k=l+1+n:=⟨k-l-1,qO⟩;exact uY n m a l hk fun i hi=>(h i hi).symm
def jzlk(m:Nat)(a:Nat->Nat->Rat)(k:Nat)(hk:k<m)(c:Nat->Rat)(u:Nat->Rat)(h:∀i,i<m->u i=sm m fun l=>c l*a i l):dt m (rc a k u)=c k*dt m a:=by
 have e:dt m (rc a k u)=dt m (rc a k (fun i=>sm m fun l=>c l*(fun l i=>a i l) l i)):=kR m fun i hi j hj=>(by unfold rc;by_cases h1:j=k;{rw[qE h1,qE h1];exact h i hi};rw[qF h1,qF h1]);rw[e,jzcz m a k hk,iy m hk (fun l hl hlk=>by rw[jzlj m _ hk hl (fun e=>hlk e.symm) (fun i hi=>by rw[hJ,gI _ _ _ hlk])];grind),uX]
def jzc0:∀m,dt m (fun i j=>if i=j then 1 else 0)=1
 |0=>rfl
 |m+1=>by
  rw[gH,iy (m+1) (l:=0) qO (fun j _ hj=>by rw[qF (fun e=>hj e.symm)];grind)];have e:dt m (mn (fun i j=>if i=j then 1 else 0) 0)=dt m (fun i j=>if i=j then 1 else 0):=kR m fun i _ j _=>by
   unfold mn sk;rw[qF qO]
   dsimp only
   by_cases h:i=j
   ·rw[qE h,qE qO]
   ·rw[qF h,qF qO]
  rw[e,jzc0 m,qE rfl];unfold sg;rw[qE rfl];grind
def sj(q:Rat):Prop:=∃z:Int,q=(z:Rat)
def sj.add{a b:Rat}:sj a->sj b->sj (a+b):=fun⟨x,h⟩ ⟨y,h2⟩=>⟨x+y,by rw[h,h2,Rat.intCast_add]⟩
def sj.mul{a b:Rat}:sj a->sj b->sj (a*b):=fun⟨x,h⟩ ⟨y,h2⟩=>⟨x*y,by rw[h,h2,Jp]⟩
def sj.neg{a:Rat}:sj a->sj (-a):=fun⟨x,h⟩=>⟨-x,by rw[h,Rat.intCast_neg]⟩
def sj.zero:sj 0:=⟨0,rfl⟩
def sj.one:sj 1:=⟨1,rfl⟩
def sj.sm:∀(n:Nat) {f:Nat->Rat},(∀k,k<n->sj (f k))->sj (sm n f)
 |0,_,_=>sj.zero
 |n+1,_,h=>(sj.sm n fun k hk=>h k qO).add (h n qO)
def jzc1:∀(m:Nat) {a:Nat->Nat->Rat},(∀i,i<m->∀j,j<m->sj (a i j))->sj (dt m a)
 |0,_,_=>sj.one
 |m+1,a,h=>by
  rw[gH];refine sj.sm _ fun j hj=>((?_:sj (sg j)).mul (h 0 qO j hj)).mul (jzc1 m fun i hi l hl=>h (i+1) qO _ (by unfold sk;split <;> omega));unfold sg
  split
  ·exact sj.one
  ·exact sj.one.neg
def ab(q:Rat):Rat:=if q<0 then-q else q
def oA(q:Rat):0<=ab q:=by unfold ab;split <;> grind
def jzc2(a b:Rat):ab (a+b)<=ab a+ab b:=by unfold ab;split <;> split <;> split <;> grind
def lP(a:Rat):ab (-a)=ab a:=by unfold ab;split <;> split <;> grind
def uZ(a b:Rat):ab (a*b)=ab a*ab b:=by
 have qa:∀x y:Rat,0<=x->0<=y->ab (x*y)=x*y:=fun x y hx hy=>(by unfold ab;rw[qF (Dy.2 (vA hx hy))]);(have hp:∀x:Rat,0<=x->ab x=x:=fun x hx=>(by unfold ab;rw[qF (Dy.2 hx)]);rcases Rat.le_total (a:=0) (b:=a)with h1|h1 <;> rcases Rat.le_total (a:=0) (b:=b)with h2|h2);{rw[qa a b h1 h2,hp a h1,hp b h2]};{have h3:=qa a (-b) h1 qG;rw[<-lP b,hp a h1,hp (-b) qG, <-h3, <-lP];congr 1;grind};{have h3:=qa (-a) b qG h2;rw[<-lP a,hp b h2,hp (-a) qG, <-h3, <-lP];congr 1;grind};have h3:=qa (-a) (-b) qG qG;rw[<-lP a, <-lP b,hp (-a) qG,hp (-b) qG, <-h3];congr 1;grind
def wD:∀(n:Nat) (f:Nat->Rat),ab (sm n f)<=sm n fun k=>ab (f k)
 |0,_=>by show ab 0<=0;decide
 |n+1,f=>by
  show ab (sm n f+f n)<=sm n (fun k=>ab (f k))+ab (f n);have h:=jzc2 (sm n f) (f n);have h2:=wD n f;grind
def pr:Nat->(Nat->Rat)->Rat
 |0,_=>1
 |n+1,f=>pr n f*f n
def jzc3:∀(n:Nat) {f:Nat->Rat},(∀k,k<n->0<=f k)->0<=pr n f
 |0,_,_=>by show(0:Rat)<=1;decide
 |n+1,_,h=>vA (jzc3 n fun k hk=>h k qO) (h n qO)
def jzc4:∀(n:Nat) {f g:Nat->Rat},(∀k,k<n->f k=g k)->pr n f=pr n g
 |0,_,_,_=>rfl
 |n+1,f,g,h=>by
  show pr n f*f n=pr n g*g n;rw[jzc4 n (fun k hk=>h k qO),h n qO]
def wE:∀(n:Nat) {f g:Nat->Rat},(∀k,k<n->0<=f k)->(∀k,k<n->f k<=g k)->pr n f<=pr n g
 |0,_,_,_,_=>vC
 |n+1,f,g,h0,h=>by
  show pr n f*f n<=pr n g*g n;have h1:=wE n (fun k hk=>h0 k qO) (fun k hk=>h k qO);have h2:=jzc3 n (fun k hk=>h0 k qO);have h3:=h0 n qO;have h4:=h n qO;exact Dv (Ke h1 h3) (yT h4 (Dv h2 h1))
def jzc5(x y:Nat->Rat)(hx:∀k,0<=x k)(hy:∀k,0<=y k):∀m,(sm (m+1) fun j=>x j*pr m fun l=>y (sk j l))<=pr (m+1) fun j=>x j+y j
 |0=>by
  show 0+x 0*1<=1*(x 0+y 0);have:=hy 0;grind
 |m+1=>by
  have ih:=jzc5 x y hx hy m;have e1:sm (m+1+1) (fun j=>x j*pr (m+1) fun l=>y (sk j l))=sm (m+1) (fun j=>(x j*pr m fun l=>y (sk j l))*y (m+1))+x (m+1)*pr (m+1) y:=by
   show sm (m+1) _+_=_
   congr 1
   ·refine au _ fun j hj=>?_
    show x j*(pr m (fun l=>y (sk j l))*y (sk j m))=_;have:sk j m=m+1:=(by unfold sk;rw[qF qO]);rw[this];grind
   show x (m+1)*(pr (m+1) fun l=>y (sk (m+1) l))=_
   congr 1
   exact jzc4 (m+1) fun l hl=>by unfold sk;rw[qE qO]
  rw[e1,uS];show _<=pr (m+1) (fun j=>x j+y j)*(x (m+1)+y (m+1));have h1:=Ke ih (hy (m+1));have h2:pr (m+1) y<=pr (m+1) fun j=>x j+y j:=wE _ (fun k _=>hy k) (fun k _=>by have:=hx k;grind);have h3:=yT h2 (hx (m+1));grind
def jzll(n:Nat)(f:Nat->Rat):sm (n+1) f=f 0+sm n fun k=>f (k+1):=by
 (induction n with|zero=>show(0:Rat)+f 0=f 0+0;grind|succ n ih=>show sm (n+1) f+f (n+1)=f 0+(sm n (fun k=>f (k+1))+f (n+1));rw[ih];grind)
def jzc6:∀(m:Nat) (a:Nat->Nat->Rat),ab (dt m a)<=pr m fun j=>sm m fun i=>ab (a i j)
 |0,_=>by show ab 1<=1;decide
 |m+1,a=>by
  have h1:=wD (m+1) fun j=>sg j*a 0 j*dt m (mn a j);have h2:sm (m+1) (fun j=>ab (sg j*a 0 j*dt m (mn a j)))<=sm (m+1) (fun j=>ab (a 0 j)*pr m fun l=>sm m fun i=>ab (a (i+1) (sk j l))):=by
   refine Cw (m+1) fun j hj=>?_;have h3:ab (sg j)=1:=(by unfold sg;split <;> rfl);have h4:ab (sg j*a 0 j*dt m (mn a j))=ab (a 0 j)*ab (dt m (mn a j)):=(by rw[uZ,uZ,h3,Rat.one_mul]);rw[h4];exact yT (jzc6 m (mn a j)) (oA _)
  have h3:=jzc5 (fun j=>ab (a 0 j)) (fun c=>sm m fun i=>ab (a (i+1) c)) (fun k=>oA _) (fun k=>kQ m fun i _=>oA _) m;have h4:(fun j=>ab (a 0 j)+sm m fun i=>ab (a (i+1) j))=fun j=>sm (m+1) fun i=>ab (a i j):=by
   funext j
   exact(jzll m fun i=>ab (a i j)).symm
  have h5:pr (m+1) (fun j=>ab (a 0 j)+sm m fun i=>ab (a (i+1) j))=pr (m+1) fun j=>sm (m+1) fun i=>ab (a i j):=(by rw[h4]);rw[gH, <-h5];exact Dv h1 (Dv h2 h3)
def Col(m nv:Nat)(M:Nat->Nat->Rat)(bn:Nat->Nat)(col:Nat->Nat->Rat)(cost:Nat->Rat):Prop:=
 ∀v,v<=nv->(∀i,i<m->col v i=sm m fun l=>M l v*col (bn l) i)/\M m v=(sm m fun l=>M l v*cost (bn l))-cost v
def jzc7{m:Nat}{M:Nat->Nat->Rat}{bn:Nat->Nat}{i e:Nat}(hi:i<m)(hp:M i e≠0)(v:Nat)(f:Nat->Rat):(sm m fun l=>piv M i e l v*f (fH bn i e l))=(sm m fun l=>M l v*f (bn l))+(M i v/M i e)*(f e-sm m fun l=>M l e*f (bn l)):=by
 (have e1:(sm m fun l=>piv M i e l v*f (fH bn i e l))=sm m fun l=>((M l v*f (bn l))-(M i v/M i e)*(M l e*f (bn l)))+if l=i then(M i v/M i e)*f e else 0:=au m fun l _=>(by by_cases h:l=i;{subst h;rw[fI,nX,qE rfl];grind};rw[dX M e v h,mM bn e h,qF h];grind));rw[e1,u7,jzct,eO,iy m (f:=fun l=>if l=i then(M i v/M i e)*f e else 0) hi (fun l _ hl=>by rw[qF hl]),qE rfl];grind
def Col.pivot{m nv:Nat}{M:Nat->Nat->Rat}{bn:Nat->Nat}{col:Nat->Nat->Rat}{cost:Nat->Rat}(h:Col m nv M bn col cost){i e:Nat}(hi:i<m)(he:e<nv)(hp:M i e≠0):Col m nv (piv M i e) (fH bn i e) col cost:=fun v hv=>by
 have h1:=h v hv;have h2:=h e qO;refine⟨fun j hj=>?_,?_⟩;{rw[jzc7 hi hp v fun v=>col v j, <-h1.1 j hj, <-h2.1 j hj];grind};{rw[jzc7 hi hp v cost,dX M e v qO,h1.2,h2.2];grind}
def dB(m:Nat)(col:Nat->Nat->Rat)(bn:Nat->Nat):Rat:=dt m fun i l=>col (bn l) i
def Col.Lm{m nv:Nat}{M:Nat->Nat->Rat}{bn:Nat->Nat}{col:Nat->Nat->Rat}{cost:Nat->Rat}(h:Col m nv M bn col cost){k:Nat}(hk:k<m){v:Nat}(hv:v<=nv):dt m (rc (fun i l=>col (bn l) i) k (col v))=M k v*dB m col bn:=
 jzlk m _ k hk (fun l=>M l v) (col v) fun i hi=>(h v hv).1 i hi
def Col.JV{m nv:Nat}{M:Nat->Nat->Rat}{bn:Nat->Nat}{col:Nat->Nat->Rat}{cost:Nat->Rat}(h:Col m nv M bn col cost){i e:Nat}(hi:i<m)(he:e<nv):dB m col (fH bn i e)=M i e*dB m col bn:=by
 rw[<-h.Lm hi (show e<=nv by omega)];unfold dB;refine kR m fun k _ l _=>?_;unfold rc fH;by_cases h1:l=i;{rw[qE h1,qE h1]};rw[qF h1,qF h1]
def rD(m nv:Nat)(M:Nat->Nat->Rat)(col:Nat->Nat->Rat)(cost:Nat->Rat):Prop:=
 ∀v,v<=nv->(∀k,k<m->M k v=sm m fun i=>M k i*col v i)/\M m v=(sm m fun i=>M m i*col v i)-cost v
def rD.pivot{m nv:Nat}{M:Nat->Nat->Rat}{col:Nat->Nat->Rat}{cost:Nat->Rat}(h:rD m nv M col cost){i:Nat}(e:Nat)(hi:i<m):rD m nv (piv M i e) col cost:=fun v hv=>by
 obtain⟨h1,h2⟩:=h v hv;have qf:∀c:Rat,(sm m fun j=>(M i j/M i e)*col v j)=M i v/M i e:=fun _=>(by have e1:(sm m fun j=>(M i j/M i e)*col v j)=sm m fun j=>(1/M i e)*(M i j*col v j):=au m fun j _=>qG;rw[e1,eO, <-h1 i hi];grind);have qa:∀k,k≠i->(sm m fun j=>piv M i e k j*col v j)=(sm m fun j=>M k j*col v j)-M k e*(M i v/M i e):=fun k hk=>(by have e1:(sm m fun j=>piv M i e k j*col v j)=sm m fun j=>M k j*col v j-M k e*((M i j/M i e)*col v j):=au m fun j _=>(by rw[dX M e j hk];grind);rw[e1,jzct,eO,qf 0]);refine⟨fun k hk=>?_,?_⟩;{by_cases qe:k=i;{subst qe;rw[fI, <-qf 0];exact au m fun j _=>by rw[fI]};{rw[qa k qe,dX M e v qe, <-h1 k hk]}};{rw[qa m qO,dX M e v qO,h2];grind}
end Sx
namespace Sx
structure Rw where
 co:LQ
 re:Rat
structure Tb where
 rows:List Rw
 bn:LN
 ay:LN
 goal:Rw
 iq:Nat
def at_(l:LQ)(k:Nat):Rat:=l[k]?.getD 0
def cu(l:LN)(k:Nat):Nat:=l[k]?.getD 0
def Tb.row(T:Tb)(i:Nat):Rw:=T.rows[i]?.getD ⟨[],0⟩
def rE(n:Nat)(f:Nat->Rat){k:Nat}(hk:k<n):at_ ((List.range n).map f) k=f k:=by
 unfold at_;rw[yW,xJ hk];rfl
def Bh(x:LQ)(j:Nat)(f:Rat)(y:LQ)(i:Nat):LQ:=(List.range x.length).map fun k=>if k<i then(if k=j then 0 else at_ x k)-f*at_ y k else(if k=j then 0 else at_ x k)
def Au(r:Rw)(j:Nat)(b:Rw):Rw:=if at_ r.co j=0 then r else⟨Bh r.co j (at_ r.co j) b.co r.co.length,r.re-at_ r.co j*b.re⟩
def AZ(x:LQ)(j:Nat)(q:Rat)(i:Nat):LQ:=(List.range x.length).map fun k=>if k<i then(if k=j then 1 else at_ x k)*q else(if k=j then 1 else at_ x k)
def ug(r:Rw)(j:Nat):Rw:=⟨AZ r.co j (1/at_ r.co j) r.co.length,r.re*(1/at_ r.co j)⟩
def Ai(T:Tb)(i j:Nat):Tb:=
 ⟨(List.range T.rows.length).map (fun k=>if k=i then ug (T.row i) j else Au (T.row k) j (ug (T.row i) j)),T.bn.set i (cu T.ay j),T.ay.set j (cu T.bn i),Au T.goal j (ug (T.row i) j),T.iq⟩
def Aw(x:LQ)(j:Nat)(f:Rat)(y:LQ)(i:Nat):(Bh x j f y i).length=x.length:=by unfold Bh;simp
def Ad(x:LQ)(j:Nat)(q:Rat)(i:Nat):(AZ x j q i).length=x.length:=by unfold AZ;simp
def jzc8(r:Rw)(j:Nat)(b:Rw):(Au r j b).co.length=r.co.length:=by
 unfold Au;split;{rfl};exact Aw _ _ _ _ _
def jzlm(r:Rw)(j:Nat):(ug r j).co.length=r.co.length:=Ad _ _ _ _
def jzc9(r:Rw)(j:Nat)(b:Rw){k:Nat}(hk:k<r.co.length):at_ (Au r j b).co k=(if k=j then 0 else at_ r.co k)-at_ r.co j*at_ b.co k:=by
 unfold Au;split;{rename_i h;rw[h];by_cases e:k=j;{subst e;rw[qE rfl,h];grind};rw[qF e];grind};unfold Bh;rw[rE _ _ hk,qE hk]
def jzda(r:Rw)(j:Nat)(b:Rw):(Au r j b).re=r.re-at_ r.co j*b.re:=by
 unfold Au;split;{rename_i h;rw[h];grind};rfl
def jzln(r:Rw)(j:Nat){k:Nat}(hk:k<r.co.length):at_ (ug r j).co k=(if k=j then 1 else at_ r.co k)/at_ r.co j:=by
 unfold ug AZ;simp only[];rw[rE _ _ hk,qE hk];grind
def jzlo(T:Tb)(i j:Nat):(Ai T i j).rows.length=T.rows.length:=by unfold Ai;simp
def jzlp(T:Tb)(i j:Nat){k:Nat}(hk:k<T.rows.length):(Ai T i j).row k=if k=i then ug (T.row i) j else Au (T.row k) j (ug (T.row i) j):=by
 unfold Ai;show(((List.range T.rows.length).map _)[k]?).getD _=_;rw[yW,xJ hk];rfl
structure Gz(T:Tb)(m nv:Nat)(M:Nat->Nat->Rat):Prop where
 rl:T.rows.length=m
 bl:T.bn.length=m
 fl:T.ay.length+m=nv
 cl:∀k,k<m->(T.row k).co.length=T.ay.length
 gl:T.goal.co.length=T.ay.length
 fv:∀j,j<T.ay.length->cu T.ay j<nv
 fi:∀j k,j<T.ay.length->k<T.ay.length->cu T.ay j=cu T.ay k->j=k
 fb:∀j l,j<T.ay.length->l<m->cu T.ay j≠cu T.bn l
 co:∀k j,k<m->j<T.ay.length->at_ (T.row k).co j=M k (cu T.ay j)
 go:∀j,j<T.ay.length->at_ T.goal.co j=M m (cu T.ay j)
 re:∀k,k<m->(T.row k).re=M k nv
 gr:T.goal.re=M m nv
 di:gG m nv M (cu T.bn)
def iA(l:LN)(i v k:Nat)(hi:i<l.length):cu (l.set i v) k=if k=i then v else cu l k:=by
 unfold cu;by_cases e:k=i;{subst e;rw[qE rfl,yM hi];rfl};rw[qF e,vN (fun h=>e h.symm)]
def Gz.pivot{T:Tb}{m nv:Nat}{M:Nat->Nat->Rat}(h:Gz T m nv M){i j:Nat}(hi:i<m)(hj:j<T.ay.length)(hp:at_ (T.row i).co j≠0):Gz (Ai T i j) m nv (Sx.piv M i (cu T.ay j)):=by
 (have qn:i<T.bn.length:=(by rw[h.bl];exact hi);have e1:(Ai T i j).bn=T.bn.set i (cu T.ay j):=rfl;have e2:(Ai T i j).ay=T.ay.set j (cu T.bn i):=rfl;have e3:(Ai T i j).goal=Au T.goal j (ug (T.row i) j):=rfl;have qe:(Ai T i j).ay.length=T.ay.length:=(by rw[e2,yV]);have qf:∀k,k<m->(Ai T i j).row k=if k=i then ug (T.row i) j else Au (T.row k) j (ug (T.row i) j):=fun k hk=>jzlp T i j (by rw[h.rl];exact hk));(have qj:=h.co i j hi hj;rw[qj]at hp;have qm:∀k,k<=m->M k (cu T.bn i)=if k=i then 1 else 0:=h.di.unit i hi);have qk:M i (cu T.bn i)=1:=(by rw[qm i qO,qE rfl]);have qg:=h.cl i hi;have qh:∀k,k<T.ay.length->at_ (ug (T.row i) j).co k=(if k=j then 1 else M i (cu T.ay k))/M i (cu T.ay j):=fun k hk=>(by rw[jzln _ _ (by rw[qg];exact hk),qj,h.co i k hi hk]);have qi:(ug (T.row i) j).re=M i nv/M i (cu T.ay j):=(by show(T.row i).re*(1/at_ (T.row i).co j)=_;rw[qj,h.re i hi];grind);refine⟨by rw[jzlo];exact h.rl,by rw[e1,yV];exact h.bl,by rw[qe];exact h.fl,fun k hk=>?_,by rw[e3,jzc8,qe];exact h.gl,fun k hk=>?_,fun k l hk hl e=>?_,fun k l hk hl e=>?_,fun k l hk hl=>?_,fun l hl=>?_,fun k hk=>?_,?_,?_⟩;{rw[qf k hk,qe];split;{rw[jzlm];exact qg};rw[jzc8];exact h.cl k hk};{rw[qe]at hk;rw[e2,iA _ _ _ _ hj];split;{exact h.di.lt i hi};exact h.fv k hk};{rw[qe]at hk hl;rw[e2,iA _ _ _ _ hj,iA _ _ _ _ hj]at e;by_cases h1:k=j;{by_cases h2:l=j;{rw[h1,h2]};rw[qE h1,qF h2]at e;exact absurd e.symm (h.fb l i hl hi)};by_cases h2:l=j;{rw[qF h1,qE h2]at e;exact absurd e (h.fb k i hk hi)};rw[qF h1,qF h2]at e;exact h.fi k l hk hl e};{rw[qe]at hk;rw[e1,e2,iA _ _ _ _ hj,iA _ _ _ _ qn]at e;by_cases h1:k=j;{by_cases h2:l=i;{rw[qE h1,qE h2]at e;exact h.fb j i hj hi e.symm};rw[qE h1,qF h2]at e;exact h2 (h.di.inj hl hi e.symm)};by_cases h2:l=i;{rw[qF h1,qE h2]at e;exact h1 (h.fi k j hk hj e)};rw[qF h1,qF h2]at e;exact h.fb k l hk hl e};{rw[qe]at hl;rw[qf k hk,e2,iA _ _ _ _ hj];by_cases qa:k=i;{subst qa;rw[qE rfl,qh l hl,fI];split;{rw[qk]};rfl};rw[qF qa,jzc9 _ _ _ (by rw[h.cl k hk];exact hl),qh l hl,h.co k j hk hj,h.co k l hk hl,dX _ _ _ qa];split;{rw[qm k qO,qF qa,qk]};rfl};{rw[qe]at hl;rw[e3,e2,iA _ _ _ _ hj,jzc9 _ _ _ (by rw[h.gl];exact hl),qh l hl,h.go j hj,h.go l hl,dX _ _ _ qO];split;{rw[qm m qO,qF qO,qk]};rfl};{rw[qf k hk];by_cases qa:k=i;{subst qa;rw[qE rfl,qi,fI]};rw[qF qa,jzda,qi,h.co k j hk hj,h.re k hk,dX _ _ _ qa]};{rw[e3,jzda,qi,h.go j hj,h.gr,dX _ _ _ qO]};have hb:cu (Ai T i j).bn=fH (cu T.bn) i (cu T.ay j):=(by funext l;rw[e1,iA _ _ _ _ qn];rfl);rw[hb];exact h.di.pivot hi (h.fv j hj) hp
def uq(T:Tb):Nat->Option Nat
 |0=>none
 |j+1=>if at_ T.goal.co j<0 then(match uq T j with
  |none=>some j
  |some b=>if cu T.ay j<cu T.ay b then some j else some b)else uq T j
def Bw(T:Tb):Option Nat:=uq T T.goal.co.length
def Aq(T:Tb):∀(n:Nat) {b:Nat},uq T n=some b->b<n/\at_ T.goal.co b<0/\∀j,j<n->at_ T.goal.co j<0->cu T.ay b<=cu T.ay j
 |0,_,h=>by cases h
 |n+1,b,h=>by
  have h:(if at_ T.goal.co n<0 then(match uq T n with
   |none=>some n
   |some b=>if cu T.ay n<cu T.ay b then some n else some b)else uq T n)=some b:=h
  by_cases h1:at_ T.goal.co n<0
  ·rw[qE h1]at h
   cases h2:uq T n with
   |none=>
    rw[h2]at h;injection h with h
    subst h;refine⟨qO,h1,fun j hj hn=>?_⟩;by_cases e:j=n
    ·rw[e];exact yX _
    ·exfalso
     have qa:∀k,uq T k=none->∀j,j<k->¬at_ T.goal.co j<0:=fun k=>by
      induction k with
      |zero=>intro _ j hj;omega
      |succ k ih=>
       intro hk j hj;have hk:(if at_ T.goal.co k<0 then(match uq T k with
        |none=>some k
        |some b=>if cu T.ay k<cu T.ay b then some k else some b)else uq T k)=none:=hk
       by_cases h3:at_ T.goal.co k<0
       ·rw[qE h3]at hk
        cases h4:uq T k with
        |none=>rw[h4]at hk;cases hk
        |some c=>rw[h4]at hk;simp only[]at hk;split at hk <;> cases hk
       ·rw[qF h3]at hk
        by_cases e:j=k
        ·rw[e];exact h3
        ·exact ih hk j qO
     exact qa n h2 j qO hn
   |some c=>
    rw[h2]at h;obtain⟨g1,g2,g3⟩:=Aq T n h2;simp only[]at h;by_cases h3:cu T.ay n<cu T.ay c
    ·rw[qE h3]at h
     injection h with h
     subst h;refine⟨qO,h1,fun j hj hn=>?_⟩;by_cases e:j=n
     ·rw[e];exact yX _
     ·have:=g3 j qO hn;omega
    ·rw[qF h3]at h
     injection h with h
     subst h;refine⟨qO,g2,fun j hj hn=>?_⟩;by_cases e:j=n
     ·rw[e];omega
     ·exact g3 j qO hn
  ·rw[qF h1]at h
   obtain⟨g1,g2,g3⟩:=Aq T n h;refine⟨qO,g2,fun j hj hn=>?_⟩;by_cases e:j=n
   ·rw[e]at hn;exact absurd hn h1
   ·exact g3 j qO hn
def jzdb(T:Tb):∀(n:Nat),uq T n=none->∀j,j<n->0<=at_ T.goal.co j
 |0,_,j,hj=>by omega
 |n+1,h,j,hj=>by
  have h:(if at_ T.goal.co n<0 then(match uq T n with
   |none=>some n
   |some b=>if cu T.ay n<cu T.ay b then some n else some b)else uq T n)=none:=h
  by_cases h1:at_ T.goal.co n<0
  ·rw[qE h1]at h
   cases h4:uq T n with
   |none=>rw[h4]at h;cases h
   |some c=>rw[h4]at h;simp only[]at h;split at h <;> cases h
  ·rw[qF h1]at h
   by_cases e:j=n
   ·rw[e];exact Dy.1 h1
   ·exact jzdb T n h j qO
def quo(T:Tb)(j k:Nat):Rat:=(T.row k).re/at_ (T.row k).co j
def um(T:Tb)(j:Nat):Nat->Option Nat
 |0=>none
 |i+1=>if 0<at_ (T.row i).co j then(match um T j i with
  |none=>some i
  |some b=>if quo T j i<quo T j b\/quo T j i=quo T j b/\cu T.bn i<cu T.bn b then some i else some b)else um T j i
def Ck(T:Tb)(j:Nat):Option Nat:=um T j T.rows.length
def wF(T:Tb)(j:Nat):∀(n:Nat),um T j n=none->∀k,k<n->at_ (T.row k).co j<=0
 |0,_,k,hk=>by omega
 |n+1,h,k,hk=>by
  have h:(if 0<at_ (T.row n).co j then(match um T j n with
   |none=>some n
   |some b=>if quo T j n<quo T j b\/quo T j n=quo T j b/\cu T.bn n<cu T.bn b then some n else some b)else um T j n)=none:=h
  by_cases h1:0<at_ (T.row n).co j
  ·rw[qE h1]at h
   cases h4:um T j n with
   |none=>rw[h4]at h;cases h
   |some c=>rw[h4]at h;simp only[]at h;split at h <;> cases h
  ·rw[qF h1]at h
   by_cases e:k=n
   ·rw[e];exact Dy.1 h1
   ·exact wF T j n h k qO
def wh(T:Tb)(j:Nat):∀(n:Nat) {b:Nat},um T j n=some b->b<n/\0<at_ (T.row b).co j/\∀k,k<n->0<at_ (T.row k).co j->quo T j b<=quo T j k/\(quo T j b=quo T j k->cu T.bn b<=cu T.bn k)
 |0,_,h=>by cases h
 |n+1,b,h=>by
  have h:(if 0<at_ (T.row n).co j then(match um T j n with
   |none=>some n
   |some b=>if quo T j n<quo T j b\/quo T j n=quo T j b/\cu T.bn n<cu T.bn b then some n else some b)else um T j n)=some b:=h
  by_cases h1:0<at_ (T.row n).co j
  ·rw[qE h1]at h
   cases h2:um T j n with
   |none=>
    rw[h2]at h;injection h with h
    subst h;refine⟨qO,h1,fun k hk hp=>?_⟩;by_cases e:k=n
    ·rw[e];exact⟨vC,fun _=>yX _⟩
    ·have:=wF T j n h2 k qO
     exact absurd hp (Dy.2 this)
   |some c=>
    rw[h2]at h;obtain⟨g1,g2,g3⟩:=wh T j n h2;simp only[]at h;by_cases h3:quo T j n<quo T j c\/quo T j n=quo T j c/\cu T.bn n<cu T.bn c
    ·rw[qE h3]at h
     injection h with h
     subst h;refine⟨qO,h1,fun k hk hp=>?_⟩;by_cases e:k=n
     ·rw[e];exact⟨vC,fun _=>yX _⟩
     ·obtain⟨k1,k2⟩:=g3 k qO hp
      rcases h3 with h3|⟨h3,h4⟩
      ·exact⟨qG,fun e2=>qG⟩
      ·exact⟨qG,fun e2=>by
       have:=k2 qG;omega⟩
    ·rw[qF h3]at h
     injection h with h
     subst h;refine⟨qO,g2,fun k hk hp=>?_⟩;by_cases e:k=n
     ·subst e
      refine⟨Dy.1 fun h4=>h3 (.inl h4),fun e2=>Nat.le_of_not_lt fun h4=>h3 (.inr ⟨e2.symm,h4⟩)⟩
     ·exact g3 k qO hp
  ·rw[qF h1]at h
   obtain⟨g1,g2,g3⟩:=wh T j n h;refine⟨qO,g2,fun k hk hp=>?_⟩;by_cases e:k=n
   ·rw[e]at hp;exact absurd hp h1
   ·exact g3 k qO hp
def Gz.all{T:Tb}{m nv:Nat}{M:Nat->Nat->Rat}(h:Gz T m nv M){v:Nat}(hv:v<nv):(∃l,l<m/\cu T.bn l=v)\/∃j,j<T.ay.length/\cu T.ay j=v:=by
 refine Classical.byContradiction fun hn=>?_;have hf:=h.fl;obtain⟨a,b,qf,hb,e⟩:=uT nv (fun k=>if k<m then cu T.bn k else if k<nv then cu T.ay (k-m)else v) (fun k hk=>by split;{rename_i h1;exact h.di.lt k h1};split;{exact h.fv (k-m) qO};exact hv);by_cases qa:b<m;{rw[qE (show a<m by omega),qE qa]at e;have:=h.di.inj (show a<m by omega) qa e;omega};rw[qF qa]at e;by_cases qe:b<nv;{rw[qE qe]at e;by_cases ha:a<m;{rw[qE ha]at e;exact h.fb (b-m) a qO ha e.symm};rw[qF ha,qE qO]at e;have:=h.fi (a-m) (b-m) qO qO e;omega};rw[qF qe]at e;by_cases ha:a<m;{rw[qE ha]at e;exact hn (.inl ⟨a,ha,e⟩)};rw[qF ha,qE qO]at e;exact hn (.inr ⟨a-m,qO,e⟩)
def Gz.Gx{T:Tb}{m nv:Nat}{M:Nat->Nat->Rat}(h:Gz T m nv M){i j:Nat}(hj:Bw T=some j)(hi:Ck T j=some i):j<T.ay.length/\i<m/\Bl m nv M (cu T.bn) i (cu T.ay j):=by
 obtain⟨e1,e2,e3⟩:=Aq T _ hj;obtain⟨l1,l2,l3⟩:=wh T j _ hi;rw[h.gl]at e1;rw[h.rl]at l1;refine⟨e1,l1,l1,h.fv j e1,by rw[<-h.go j e1];exact e2,fun v hv=>?_,by rw[<-h.co i j l1 e1];exact l2,fun k hk hp=>?_,fun k hk hp he=>?_⟩;{have qa:v<nv:=Nat.lt_trans hv (h.fv j e1);(rcases h.all qa with⟨l,hl,rfl⟩|⟨k,hk,rfl⟩);{rw[h.di.unit l hl m (yX _),qF qO];exact vC};rw[<-h.go k hk];refine Dy.1 fun hn=>?_;have:=e3 k (by rw[h.gl];exact hk) hn;omega};{rw[<-h.co k j hk e1]at hp;have:=(l3 k (by rw[h.rl];exact hk) hp).1;unfold quo at this;rw[h.re i l1,h.re k hk,h.co i j l1 e1,h.co k j hk e1]at this;exact this};rw[<-h.co k j hk e1]at hp;refine(l3 k (by rw[h.rl];exact hk) hp).2 ?_;unfold quo;rw[h.re i l1,h.re k hk,h.co i j l1 e1,h.co k j hk e1];exact he
def stepT(T:Tb):Option Tb:=match Bw T with
 |none=>none
 |some j=>match Ck T j with
  |none=>none
  |some i=>some (Ai T i j)
def Bj{T T':Tb}(h:stepT T=some T'):∃i j,Bw T=some j/\Ck T j=some i/\T'=Ai T i j:=by
 (unfold stepT at h;cases h1:Bw T with|none=>rw[h1]at h;cases h|some j=>(rw[h1]at h;simp only[]at h;cases h2:Ck T j with|none=>rw[h2]at h;cases h|some i=>(rw[h2]at h;injection h with h);exact⟨i,j,rfl,h2,h.symm⟩))
def ig:Nat->Tb->Tb
 |0,T=>T
 |n+1,T=>(stepT (ig n T)).getD (ig n T)
def jzlq{T:Tb}{m nv:Nat}{M:Nat->Nat->Rat}(h:Gz T m nv M)(hf:∀k,k<m->0<=M k nv):∃N,stepT (ig N T)=none/\∀n,n<N->stepT (ig n T)≠none:=by
 have qg:∃N,stepT (ig N T)=none:=(by refine Classical.byContradiction fun hn=>?_;have hs:∀n,∃i j,Bw (ig n T)=some j/\Ck (ig n T) j=some i/\ig (n+1) T=Ai (ig n T) i j:=fun n=>(by (cases h1:stepT (ig n T)with|none=>exact absurd ⟨n,h1⟩ hn|some T'=>obtain⟨i,j,h2,h3,h4⟩:=Bj h1;refine⟨i,j,h2,h3,?_⟩;show(stepT (ig n T)).getD _=_;rw[h1, <-h4];rfl));(let I:Nat->Nat:=fun n=>(hs n).choose);(let J:Nat->Nat:=fun n=>(hs n).choose_spec.choose);have qe:∀n,Bw (ig n T)=some (J n)/\Ck (ig n T) (J n)=some (I n)/\ig (n+1) T=Ai (ig n T) (I n) (J n):=fun n=>(hs n).choose_spec.choose_spec;(let MM:Nat->Nat->Nat->Rat:=fun n=>Nat.rec M (fun k Mk=>Sx.piv Mk (I k) (cu (ig k T).ay (J k))) n);have qa:∀n,Gz (ig n T) m nv (MM n):=fun n=>(by (induction n with|zero=>exact h|succ n ih=>obtain⟨h1,h2,h3⟩:=qe n;obtain⟨g1,g2,g3⟩:=ih.Gx h1 h2;rw[h3];exact ih.pivot g2 g1 (fun e=>by have:=g3.pos;rw[<-ih.co _ _ g2 g1,e]at this;exact absurd this qD)));have qf:Run m nv (2^nv) MM (fun n=>cu (ig n T).bn) I (fun n=>cu (ig n T).ay (J n)):=(by refine⟨h.di,hf,fun n _=>((qa n).Gx (qe n).1 (qe n).2.1).2.2,fun n _=>rfl,fun n _=>?_⟩;obtain⟨h1,h2,h3⟩:=qe n;obtain⟨g1,g2,g3⟩:=(qa n).Gx h1 h2;funext l;show cu (ig (n+1) T).bn l=_;rw[h3];show cu ((ig n T).bn.set (I n) _) l=_;rw[iA _ _ _ _ (by rw[(qa n).bl];exact g2)];rfl);have:=qf.short;omega);obtain⟨N,hN⟩:=qg;(induction N using Nat.strongRecOn with|ind N ih=>by_cases h1:∃n,n<N/\stepT (ig n T)=none;{obtain⟨n,hn,h2⟩:=h1;exact ih n hn h2};exact⟨N,hN,fun n hn h2=>h1 ⟨n,hn,h2⟩⟩)
end Sx
namespace Sx
def Gz.JZ{T:Tb}{m nv:Nat}{M:Nat->Nat->Rat}(h:Gz T m nv M)(f:Nat->Rat):sm m f=(sm m fun l=>if cu T.bn l<m then f (cu T.bn l)else 0)+sm T.ay.length fun j=>if cu T.ay j<m then f (cu T.ay j)else 0:=by
 (have e1:sm m f=sm m fun i=>(sm m fun l=>if cu T.bn l=i then f i else 0)+sm T.ay.length fun j=>if cu T.ay j=i then f i else 0:=au m fun i hi=>(by (have hf:=h.fl;rcases h.all (show i<nv by omega)with⟨l,hl,e⟩|⟨j,hj,e⟩);{rw[iy m hl (fun k hk hkl=>by rw[qF (fun e2=>hkl (h.di.inj hk hl (by rw[e2,e])))]),ku T.ay.length (fun j hj=>by rw[qF (fun e2=>h.fb j l hj hl (by rw[e2,e]))]),qE e];grind};rw[ku m (fun l hl=>by rw[qF (fun e2=>h.fb j l hj hl (by rw[e2,e]))]),iy T.ay.length hj (fun k hk hkj=>by rw[qF (fun e2=>hkj (h.fi k j hk hj (by rw[e2,e])))]),qE e];grind));(have e2:∀v:Nat,(sm m fun i=>if v=i then f i else 0)=if v<m then f v else 0:=fun v=>(by by_cases hv:v<m;{rw[qE hv,iy m hv (fun i _ hi=>by rw[qF (fun e=>hi e.symm)]),qE rfl]};rw[qF hv,ku m (fun i hi=>by rw[qF qO])]));rw[e1,u7];congr 1;{rw[mL];exact au m fun l _=>e2 _};(have:=mL m T.ay.length fun i j=>if cu T.ay j=i then f i else 0);rw[this];exact au _ fun j _=>e2 _
def Ay(T:Tb)(vals:LQ):Nat->LN
 |0=>[]
 |n+1=>if cu T.ay n<vals.length/\at_ vals (cu T.ay n)≠0 then Ay T vals n++[n]else Ay T vals n
def uy(T:Tb)(vals:LQ)(x:LQ)(base:Rat)(js:LN):Rat:=js.foldl (fun s j=>s+at_ x j*at_ vals (cu T.ay j)) base
def Ei(T:Tb)(vals x:LQ)(base:Rat)(js:LN)(j:Nat):uy T vals x base (js++[j])=uy T vals x base js+at_ x j*at_ vals (cu T.ay j):=by unfold uy;rw[Jq];rfl
def wG(T:Tb)(vals x:LQ)(base:Rat):∀n,uy T vals x base (Ay T vals n)=base+sm n fun j=>if cu T.ay j<vals.length then at_ x j*at_ vals (cu T.ay j)else 0
 |0=>by show base=base+0;grind
 |n+1=>by
  have ih:=wG T vals x base n;show uy T vals x base (if cu T.ay n<vals.length/\at_ vals (cu T.ay n)≠0 then Ay T vals n++[n]else Ay T vals n)=base+(sm n _+if cu T.ay n<vals.length then at_ x n*at_ vals (cu T.ay n)else 0);by_cases h1:cu T.ay n<vals.length
  ·rw[qE h1]
   by_cases h2:at_ vals (cu T.ay n)=0
   ·rw[qF (fun h=>h.2 h2),ih,h2];grind
   ·rw[qE ⟨h1,h2⟩,Ei,ih];grind
  ·rw[qF h1,qF (fun h=>h1 h.1),ih];grind
def Gm(T:Tb)(vals:LQ)(r:Rw)(base:Rat):Rw:=⟨r.co++[uy T vals r.co base (Ay T vals T.ay.length)],r.re⟩
def Aa(T:Tb)(cost:Rat)(vals:LQ):Tb:=
 ⟨(List.range T.rows.length).map (fun i=>Gm T vals (T.row i) (if cu T.bn i<vals.length then at_ vals (cu T.bn i)else 0)),T.bn,T.ay++[T.rows.length+T.iq],
   ⟨T.goal.co++[uy T vals T.goal.co 0 (Ay T vals T.ay.length)-cost],T.goal.re⟩,T.iq+1⟩
def newT(bounds:LQ):Tb:=⟨bounds.map fun b=>⟨[],b⟩,List.range bounds.length,[],⟨[],0⟩,0⟩
def cc(nv:Nat)(Cs:Nat->Nat->Rat)(b:Nat->Rat):Nat->Nat->Rat:=fun v=>if v<nv then Cs v else b
def kk(nv:Nat)(ks:Nat->Rat):Nat->Rat:=fun v=>if v<nv then ks v else 0
structure Cj(T:Tb)(m nv:Nat)(M:Nat->Nat->Rat)(Cs:Nat->Nat->Rat)(ks:Nat->Rat)(b:Nat->Rat):Prop where
 rep:Gz T m nv M
 col:Col m nv M (cu T.bn) (cc nv Cs b) (kk nv ks)
 row:rD m nv M (cc nv Cs b) (kk nv ks)
 D9:∀k,k<m->0<=M k nv
 Lm:dB m (cc nv Cs b) (cu T.bn)≠0
 iq:T.iq=T.ay.length
 unit:∀j,j<m->∀i,i<m->Cs j i=if i=j then 1 else 0
 free:∀j,j<m->ks j=0
def Cj.step{T:Tb}{m nv:Nat}{M:Nat->Nat->Rat}{Cs:Nat->Nat->Rat}{ks b:Nat->Rat}(h:Cj T m nv M Cs ks b){T':Tb}(hs:stepT T=some T'):∃M',Cj T' m nv M' Cs ks b:=by
 obtain⟨i,j,h1,h2,rfl⟩:=Bj hs;obtain⟨g1,g2,g3⟩:=h.rep.Gx h1 h2;have hp:M i (cu T.ay j)≠0:=fun e=>(by have:=g3.pos;rw[e]at this;exact absurd this qD);have hb:cu (Ai T i j).bn=fH (cu T.bn) i (cu T.ay j):=(by funext l;show cu (T.bn.set i _) l=_;rw[iA _ _ _ _ (by rw[h.rep.bl];exact g2)];rfl);refine⟨Sx.piv M i (cu T.ay j),h.rep.pivot g2 g1 (by rw[h.rep.co _ _ g2 g1];exact hp),by rw[hb];exact h.col.pivot g2 g3.he hp,h.row.pivot _ g2,g3.D9 h.D9,?_,?_,h.unit,h.free⟩;{rw[hb,h.col.JV g2 g3.he];exact fun e=>(by (rcases Rat.mul_eq_zero.1 e with e|e);{exact hp e};exact h.Lm e)};show T.iq=(T.ay.set j _).length;rw[yV];exact h.iq
def Cj.iter{T:Tb}{m nv:Nat}{M:Nat->Nat->Rat}{Cs:Nat->Nat->Rat}{ks b:Nat->Rat}(h:Cj T m nv M Cs ks b):∀n,∃M',Cj (ig n T) m nv M' Cs ks b
 |0=>⟨M,h⟩
 |n+1=>by
  obtain⟨M',h1⟩:=h.iter n;show∃M',Cj ((stepT (ig n T)).getD (ig n T)) m nv M' Cs ks b;cases h2:stepT (ig n T)with
  |none=>exact⟨M',h1⟩
  |some T'=>exact h1.step h2
def jzdc(l:LQ)(x:Rat)(k:Nat):at_ (l++[x]) k=if k=l.length then x else at_ l k:=by
 unfold at_;by_cases h:k<l.length;{rw[yR h,qF qO]};by_cases e:k=l.length;{rw[yS qO,e,qE rfl];simp};rw[yI (by simp;omega),yI qO,qF e]
def jzlr(l:LN)(x:Nat)(k:Nat):cu (l++[x]) k=if k=l.length then x else cu l k:=by
 unfold cu;by_cases h:k<l.length;{rw[yR h,qF qO]};by_cases e:k=l.length;{rw[yS qO,e,qE rfl];simp};rw[yI (by simp;omega),yI qO,qF e]
def dY(m nv:Nat)(M:Nat->Nat->Rat)(vals:LQ)(cost:Rat):Nat->Nat->Rat:=fun k v=>
 if v<nv then M k v else if v=nv then(sm m fun i=>M k i*at_ vals i)-(if k=m then cost else 0)else M k nv
def Cj.add{T:Tb}{m nv:Nat}{M:Nat->Nat->Rat}{Cs:Nat->Nat->Rat}{ks b:Nat->Rat}(h:Cj T m nv M Cs ks b)(cost:Rat)(vals:LQ)(hv:vals.length=m){El:Nat->Nat->Rat}{ks':Nat->Rat}
  (hC:∀v,v<nv->El v=Cs v) (hCn:∀i,i<m->El nv i=at_ vals i) (hk:∀v,v<nv->ks' v=ks v) (hkn:ks' nv=cost):
  Cj (Aa T cost vals) m (nv+1) (dY m nv M vals cost) El ks' b:=by
 have hr:=h.rep;have qC:T.rows.length+T.iq=nv:=(by rw[hr.rl,h.iq];have:=hr.fl;omega);have hm:m<=nv:=(by have:=hr.fl;omega);have qe:(Aa T cost vals).ay.length=T.ay.length+1:=(by show(T.ay++[_]).length=_;simp);have qh:∀k,k<m->(Aa T cost vals).row k=Gm T vals (T.row k) (if cu T.bn k<vals.length then at_ vals (cu T.bn k)else 0):=fun k hk=>(by show((List.range T.rows.length).map _)[k]?.getD _=_;rw[yW,xJ (by rw[hr.rl];exact hk)];rfl);(have qa:∀j,cu (Aa T cost vals).ay j=if j=T.ay.length then nv else cu T.ay j:=fun j=>(by show cu (T.ay++[_]) j=_;rw[jzlr,qC]));have qi:∀k v,v<nv->dY m nv M vals cost k v=M k v:=fun k v hv=>qE hv;have qk:∀k,dY m nv M vals cost k nv=(sm m fun i=>M k i*at_ vals i)-(if k=m then cost else 0):=fun k=>(by unfold dY;rw[qF qO,qE rfl]);have qm:∀k,dY m nv M vals cost k (nv+1)=M k nv:=fun k=>(by unfold dY;rw[qF qO,qF qO]);have qn:∀v,v<nv->cc (nv+1) El b v=cc nv Cs b v:=fun v hv=>(by unfold cc;rw[qE qO,qE hv,hC v hv]);have qz:cc (nv+1) El b nv=El nv:=(by unfold cc;rw[qE qO]);have qt:cc (nv+1) El b (nv+1)=cc nv Cs b nv:=(by unfold cc;rw[qF qO,qF qO]);have qw:∀v,v<nv->kk (nv+1) ks' v=kk nv ks v:=fun v hv=>(by unfold kk;rw[qE qO,qE hv,hk v hv]);have qp:kk (nv+1) ks' nv=cost:=(by unfold kk;rw[qE qO,hkn]);have qA:kk (nv+1) ks' (nv+1)=kk nv ks nv:=(by unfold kk;rw[qF qO,qF qO]);have qj:∀l,l<m->cu T.bn l<nv:=hr.di.lt;have qx:∀k,k<m->uy T vals (T.row k).co (if cu T.bn k<vals.length then at_ vals (cu T.bn k)else 0) (Ay T vals T.ay.length)=sm m fun i=>M k i*at_ vals i:=fun k hk=>(by rw[wG,hr.JZ fun i=>M k i*at_ vals i,hv];congr 1;{(have hu:M k (cu T.bn k)=1:=by rw[hr.di.unit k hk k qO,qE rfl]);rw[iy m hk (fun l hl hlk=>by have hu:M k (cu T.bn l)=0:=(by rw[hr.di.unit l hl k qO,qF (fun e=>hlk e.symm)]);rw[hu];split <;> grind),hu];split <;> grind};exact au _ fun j hj=>by rw[hr.co k j hk hj])
 have qo:uy T vals T.goal.co 0 (Ay T vals T.ay.length)=sm m fun i=>M m i*at_ vals i:=by
  rw[wG,hr.JZ fun i=>M m i*at_ vals i,hv];congr 1
  ·rw[ku m (fun l hl=>by
   have hu:M m (cu T.bn l)=0:=(by rw[hr.di.unit l hl m qO,qF qO]);rw[hu];split <;> grind)]
  exact au _ fun j hj=>by rw[hr.go j hj]
 refine⟨⟨?_,hr.bl,by rw[qe];have:=hr.fl;omega,fun k hk=>?_,?_,fun j hj=>?_,fun j k hj hk e=>?_,fun j l hj hl e=>?_,fun k j hk hj=>?_,fun j hj=>?_,fun k hk=>?_,?_,⟨fun l hl k hk=>?_,fun l hl=>?_⟩⟩,fun v hv2=>?_,fun v hv2=>?_,fun k hk=>?_,?_,?_,fun j hj i hi=>?_,fun j hj=>?_⟩;{show((List.range T.rows.length).map _).length=m;simp[hr.rl]};{rw[qh k hk,qe];show((T.row k).co++[_]).length=_;rw[yQ,hr.cl k hk];rfl};{rw[qe];show(T.goal.co++[_]).length=_;rw[yQ,hr.gl];rfl};{rw[qe]at hj;rw[qa];split;{omega};have:=hr.fv j qO;omega};{rw[qe]at hj hk;rw[qa,qa]at e;by_cases h1:j=T.ay.length;{by_cases h2:k=T.ay.length;{omega};rw[qE h1,qF h2]at e;have:=hr.fv k qO;omega};by_cases h2:k=T.ay.length;{rw[qF h1,qE h2]at e;have:=hr.fv j qO;omega};rw[qF h1,qF h2]at e;exact hr.fi j k qO qO e};{rw[qe]at hj;rw[qa]at e;have e:_=cu T.bn l:=e;by_cases h1:j=T.ay.length;{rw[qE h1]at e;have:=qj l hl;omega};rw[qF h1]at e;exact hr.fb j l qO hl e};{rw[qe]at hj;rw[qh k hk,qa];show at_ ((T.row k).co++[_]) j=_;rw[jzdc,hr.cl k hk];by_cases h1:j=T.ay.length;{rw[qE h1,qE h1,qk,qx k hk,qF (show¬k=m by omega)];grind};rw[qF h1,qF h1,qi _ _ (hr.fv j qO),hr.co k j hk qO]};{rw[qe]at hj;rw[qa];show at_ (T.goal.co++[_]) j=_;rw[jzdc,hr.gl];by_cases h1:j=T.ay.length;{rw[qE h1,qE h1,qk,qE rfl,qo]};rw[qF h1,qF h1,qi _ _ (hr.fv j qO),hr.go j qO]};{rw[qh k hk,qm];exact hr.re k hk};{rw[qm];exact hr.gr};{rw[show cu (Aa T cost vals).bn l=cu T.bn l from rfl,qi _ _ (qj l hl)];exact hr.di.unit l hl k hk};{have:=qj l hl;show cu T.bn l<nv+1;omega};{have qy:∀l,l<m->∀i,cc (nv+1) El b (cu (Aa T cost vals).bn l) i=cc nv Cs b (cu T.bn l) i:=fun l hl i=>(by show cc (nv+1) El b (cu T.bn l) i=_;rw[qn _ (qj l hl)]);have qB:∀l,l<m->kk (nv+1) ks' (cu (Aa T cost vals).bn l)=kk nv ks (cu T.bn l):=fun l hl=>qw _ (qj l hl);have old:∀v0 v,v<=nv->(∀k,dY m nv M vals cost k v0=M k v)->cc (nv+1) El b v0=cc nv Cs b v->kk (nv+1) ks' v0=kk nv ks v->(∀i,i<m->cc (nv+1) El b v0 i=sm m fun l=>dY m nv M vals cost l v0*cc (nv+1) El b (cu (Aa T cost vals).bn l) i)/\dY m nv M vals cost m v0=(sm m fun l=>dY m nv M vals cost l v0*kk (nv+1) ks' (cu (Aa T cost vals).bn l))-kk (nv+1) ks' v0:=fun v0 v hv0 h1 h2 h3=>(by obtain⟨g1,g2⟩:=h.col v hv0;refine⟨fun i hi=>?_,?_⟩;{rw[h2,g1 i hi];exact au m fun l hl=>by rw[h1,qy l hl]};rw[h1,h3,g2];congr 1;exact au m fun l hl=>by rw[h1,qB l hl]);by_cases h1:v<nv;{exact old v v qO (fun k=>qi k v h1) (qn v h1) (qw v h1)};by_cases h2:v=nv;{subst h2;have qg:∀g:Nat->Rat,(sm m fun l=>dY m v M vals cost l v*g l)=sm m fun j=>at_ vals j*sm m fun l=>M l j*g l:=fun g=>(by have e1:(sm m fun l=>dY m v M vals cost l v*g l)=sm m fun l=>sm m fun j=>at_ vals j*(M l j*g l):=au m fun l hl=>(by have h0:dY m v M vals cost l v=sm m fun i=>M l i*at_ vals i:=(by rw[qk,qF (show¬l=m by omega)];grind);rw[h0,Rat.mul_comm, <-eO];exact au m fun j _=>qG);rw[e1,mL];exact au m fun j _=>by rw[eO]);refine⟨fun i hi=>?_,?_⟩;{rw[qz,hCn i hi];(have e1:(sm m fun l=>dY m v M vals cost l v*cc (v+1) El b (cu (Aa T cost vals).bn l) i)=sm m fun l=>dY m v M vals cost l v*cc v Cs b (cu T.bn l) i:=au m fun l hl=>(by rw[qy l hl]);rw[e1,qg];have e2:(sm m fun j=>at_ vals j*sm m fun l=>M l j*cc v Cs b (cu T.bn l) i)=sm m fun j=>if j=i then at_ vals i else 0:=au m fun j hj=>(by (rw[<-(h.col j qO).1 i hi];have:cc v Cs b j i=if i=j then 1 else 0:=by unfold cc;rw[qE qO,h.unit j hj i hi]);rw[this];by_cases e:j=i;{subst e;rw[qE rfl,qE rfl];grind};rw[qF e,qF (fun e2=>e e2.symm)];grind));rw[e2,iy m hi (fun j _ hj=>by rw[qF hj]),qE rfl]};rw[qk,qE rfl,qp];congr 1;have e1:(sm m fun l=>dY m v M vals cost l v*kk (v+1) ks' (cu (Aa T cost vals).bn l))=sm m fun l=>dY m v M vals cost l v*kk v ks (cu T.bn l):=au m fun l hl=>(by rw[qB l hl]);rw[e1,qg];refine au m fun j hj=>?_;have h3:=(h.col j qO).2;have h4:kk v ks j=0:=(by unfold kk;rw[qE qO,h.free j hj]);rw[h4]at h3;rw[h3];grind};obtain rfl:v=nv+1:=qO;exact old (nv+1) nv (yX _) qm qt qA};{(have qf:∀k,(sm m fun i=>dY m nv M vals cost k i*cc (nv+1) El b v i)=sm m fun i=>M k i*cc (nv+1) El b v i:=fun k=>au m fun i hi=>by rw[qi k i qO]);rw[qf m];by_cases h1:v<nv;{obtain⟨g1,g2⟩:=h.row v qO;rw[qi m v h1,qw v h1];refine⟨fun k hk=>by rw[qf k,qi k v h1,qn v h1];exact g1 k hk,by rw[qn v h1];exact g2⟩};by_cases h2:v=nv;{subst h2;have e1:∀k,(sm m fun i=>M k i*cc (v+1) El b v i)=sm m fun i=>M k i*at_ vals i:=fun k=>au m fun i hi=>(by rw[qz,hCn i hi]);refine⟨fun k hk=>?_,?_⟩;{rw[qf k,qk,qF qO,e1];grind};rw[qk,qE rfl,e1,qp]};obtain rfl:v=nv+1:=qO;obtain⟨g1,g2⟩:=h.row nv (yX _);rw[qm m,qA,qt];exact⟨fun k hk=>by have h3:=qf k;rw[qt]at h3;rw[qm k,h3];exact g1 k hk,g2⟩};{rw[qm];exact h.D9 k hk};{have:dB m (cc (nv+1) El b) (cu (Aa T cost vals).bn)=dB m (cc nv Cs b) (cu T.bn):=kR m fun i _ l hl=>(by show cc (nv+1) El b (cu T.bn l) i=_;rw[qn _ (qj l hl)]);rw[this];exact h.Lm};{show T.iq+1=_;rw[qe,h.iq]};{rw[hC j qO];exact h.unit j hj i hi};rw[hk j qO];exact h.free j hj
end Sx
namespace Sx
def jzls(l:LQ){k:Nat}(hk:k<l.length):at_ l k=l[k]:=by unfold at_;rw[yG hk];rfl
def jzlt(n k:Nat)(hk:k<n):cu (List.range n) k=k:=by unfold cu;rw[xJ hk];rfl
def iB(m:Nat)(bounds:LQ):Nat->Nat->Rat:=fun k v=>if k<m then(if v<m then(if k=v then 1 else 0)else at_ bounds k)else 0
def Cj.start(bounds:LQ){m:Nat}(hm:bounds.length=m)(hb:∀k,k<m->0<=at_ bounds k){Cs:Nat->Nat->Rat}{ks:Nat->Rat}(hu:∀j,j<m->∀i,i<m->Cs j i=if i=j then 1 else 0)(hk:∀j,j<m->ks j=0):
  Cj (newT bounds) m m (iB m bounds) Cs ks (fun i=>at_ bounds i):=by
 have qf:∀k,k<m->(newT bounds).row k=⟨[],at_ bounds k⟩:=fun k hk=>(by show(bounds.map fun b=>(⟨[],b⟩:Rw))[k]?.getD _=_;rw[yW,yG qO,jzls _ qO];rfl);(have qa:∀l,l<m->cu (newT bounds).bn l=l:=fun l hl=>jzlt _ _ qO;have hM:∀k v,k<m->v<m->iB m bounds k v=if k=v then 1 else 0:=fun k v h1 h2=>by unfold iB;rw[qE h1,qE h2]);have qg:∀k,k<m->iB m bounds k m=at_ bounds k:=fun k h1=>(by unfold iB;rw[qE h1,qF qO]);have qe:∀v,iB m bounds m v=0:=fun v=>(by unfold iB;rw[qF qO]);have hc:∀v,v<m->cc m Cs (fun i=>at_ bounds i) v=Cs v:=fun v hv=>(by unfold cc;rw[qE hv]);have qi:cc m Cs (fun i=>at_ bounds i) m=fun i=>at_ bounds i:=(by unfold cc;rw[qF qO]);have qh:∀v,v<=m->kk m ks v=0:=fun v hv=>(by unfold kk;split;{rename_i h;exact hk v h};rfl);refine⟨⟨by show(bounds.map _).length=m;rw[xV,hm],by show(List.range _).length=m;rw[Jt,hm],by show 0+m=m;omega,fun k hk=>by rw[qf k hk];rfl,rfl,fun j hj=>absurd hj (by show¬j<0;omega),fun j k hj=>absurd hj (by show¬j<0;omega),fun j l hj=>absurd hj (by show¬j<0;omega),fun k j hk hj=>absurd hj (by show¬j<0;omega),fun j hj=>absurd hj (by show¬j<0;omega),fun k hk=>by rw[qf k hk,qg k hk],(qe m).symm,⟨fun l hl k hk=>?_,fun l hl=>by rw[qa l hl];exact hl⟩⟩,fun v hv=>⟨fun i hi=>?_,?_⟩,fun v hv=>⟨fun k hk2=>?_,?_⟩,fun k hk=>by rw[qg k hk];exact hb k hk,?_,rfl,hu,hk⟩;{rw[qa l hl];by_cases h:k<m;{exact hM k l h hl};obtain rfl:k=m:=qO;rw[qe,qF qO]};{have e1:(sm m fun l=>iB m bounds l v*cc m Cs (fun i=>at_ bounds i) (cu (newT bounds).bn l) i)=iB m bounds i v:=(by rw[iy m hi (fun l hl hli=>by rw[qa l hl,hc l hl,hu l hl i hi,qF (fun e=>hli e.symm)];grind),qa i hi,hc i hi,hu i hi i hi,qE rfl];grind);rw[e1];by_cases h:v<m;{rw[hc v h,hu v h i hi,hM i v hi h]};obtain rfl:v=m:=qO;rw[qi,qg i hi]};{rw[qe,qh v hv,ku m (fun l hl=>by rw[qa l hl,qh l qO];grind)];grind};{have e1:(sm m fun i=>iB m bounds k i*cc m Cs (fun i=>at_ bounds i) v i)=cc m Cs (fun i=>at_ bounds i) v k:=(by rw[iy m hk2 (fun i hi hik=>by rw[hM k i hk2 hi,qF (fun e=>hik e.symm)];grind),hM k k hk2 hk2,qE rfl];grind);rw[e1];by_cases h:v<m;{rw[hc v h,hu v h k hk2,hM k v hk2 h]};obtain rfl:v=m:=qO;rw[qi,qg k hk2]};{rw[qe,qh v hv,ku m (fun i hi=>by rw[qe];grind)];grind};have e1:dB m (cc m Cs (fun i=>at_ bounds i)) (cu (newT bounds).bn)=dt m (fun i j=>if i=j then 1 else 0):=kR m fun i hi l hl=>(by rw[qa l hl,hc l hl,hu l hl i hi]);rw[e1,jzc0];decide
def jzdd(c:Nat):∀n,pr n (fun _=>((c:Int):Rat))=(((c^n:Nat):Int):Rat)
 |0=>rfl
 |n+1=>by
  show pr n _*_=_;rw[jzdd c n, <-Jp,vD,Ii]
def wH(c:Nat):∀n,sm n (fun _=>((c:Int):Rat))=(((n*c:Nat):Int):Rat)
 |0=>by show(0:Rat)=_;rw[Nat.zero_mul];rfl
 |n+1=>by
  show sm n _+_=_;rw[wH c n, <-Rat.intCast_add,Nat.succ_mul,Jo]
def jzlu(z:Int):ab (z:Rat)=((z.natAbs:Int):Rat):=by
 unfold ab;by_cases h:z<0;{rw[qE (show((z:Int):Rat)<0 from Rat.intCast_lt_intCast.2 h), <-Rat.intCast_neg];congr 1;omega};rw[qF (fun h2=>h (by have:=Rat.intCast_lt_intCast.1 (show((z:Int):Rat)<((0:Int):Rat)from h2);omega))];congr 1;omega
def oC{z:Int}{n:Nat}(h:ab (z:Rat)<=((n:Int):Rat)):z.natAbs<=n:=by
 rw[jzlu]at h;have:=Hr.1 h;omega
def Kk(q:Rat)(Z:Nat):Prop:=q.num.natAbs<=Z/\q.den<=Z
def Ep{q:Rat}{D N:Int}{Z:Nat}(hD:D≠0)(h:q*(D:Rat)=(N:Rat))(h1:D.natAbs<=Z)(h2:N.natAbs<=Z):Kk q Z:=by
 have hz:q.num*D=N*q.den:=(by have h3:((q.num:Int):Rat)=q*((q.den:Int):Rat):=(by have h:=Rat.num_divInt_den q;have h3:((q.den:Int):Rat)≠0:=fun e=>(by have:=Rat.intCast_inj.1 (show((q.den:Int):Rat)=((0:Int):Rat)from e);have:=q.den_nz;omega);rw[Rat.divInt_eq_div]at h;grind);have h5:((q.num*D:Int):Rat)=((N*(q.den:Int):Int):Rat):=(by rw[Jp,Jp,h3, <-h];grind);exact Rat.intCast_inj.1 h5);have qa:q.num.natAbs*D.natAbs=N.natAbs*q.den:=(by have:=congrArg Int.natAbs hz;rw[Int.natAbs_mul,Int.natAbs_mul,Int.natAbs_natCast]at this;exact this);have qg:q.den∣D.natAbs:=(by have hc:Nat.Coprime q.den q.num.natAbs:=q.reduced.symm;exact hc.dvd_of_dvd_mul_left ⟨N.natAbs,by rw[qa,vE]⟩);have qe:0<D.natAbs:=Int.natAbs_pos.2 hD;obtain⟨c,hc⟩:=qg;have qf:0<c:=(by (rcases Ee c with h3|h3);{rw[h3]at hc;omega};exact h3);refine⟨?_,yY (Nat.le_of_dvd qe ⟨c,hc⟩) h1⟩;have qh:q.num.natAbs*c=N.natAbs:=(by have h3:q.den*(q.num.natAbs*c)=q.den*N.natAbs:=(by rw[<-Cb,vE q.den q.num.natAbs,Cb, <-hc,qa,vE]);exact Nat.eq_of_mul_eq_mul_left q.den_pos h3);have:q.num.natAbs<=q.num.natAbs*c:=Nat.le_mul_of_pos_right _ qf;omega
def Cj.size{T:Tb}{m nv:Nat}{M:Nat->Nat->Rat}{Cs:Nat->Nat->Rat}{ks b:Nat->Rat}(h:Cj T m nv M Cs ks b)(C:Nat)
  (hi:∀v,v<nv->∀i,i<m->sj (Cs v i)) (hbi:∀i,i<m->sj (b i)) (hki:∀v,v<nv->sj (ks v))
  (hc:∀v,v<nv->(sm m fun i=>ab (Cs v i))<=((C:Int):Rat)) (hcb:(sm m fun i=>ab (b i))<=((C:Int):Rat)) (hk:∀v,v<nv->ab (ks v)<=1):
  ∃Dn:Int,Dn≠0/\Dn.natAbs<=C^m/\∀k v,k<=m->v<=nv->sj (M k v*(Dn:Rat))/\Kk (M k v) ((m+1)*C^m):=by
 have qi:∀l,l<m->cu T.bn l<nv:=h.rep.di.lt;have ci:∀v,v<=nv->∀i,i<m->sj (cc nv Cs b v i):=fun v hv i hi2=>(by unfold cc;split;{rename_i h1;exact hi v h1 i hi2};exact hbi i hi2);have cn:∀v,v<=nv->(sm m fun i=>ab (cc nv Cs b v i))<=((C:Int):Rat):=fun v hv=>(by unfold cc;split;{rename_i h1;exact hc v h1};exact hcb);have kn:∀v,ab (kk nv ks v)<=1:=fun v=>(by unfold kk;split;{rename_i h1;exact hk v h1};decide);have ki:∀v,sj (kk nv ks v):=fun v=>(by unfold kk;split;{rename_i h1;exact hki v h1};exact sj.zero);have qf:∀a:Nat->Nat->Rat,(∀l,l<m->∃v,v<=nv/\∀i,i<m->a i l=cc nv Cs b v i)->sj (dt m a)/\ab (dt m a)<=(((C^m:Nat):Int):Rat):=fun a ha=>(by refine⟨jzc1 m fun i hi2 l hl=>?_,Dv (jzc6 m a) ?_⟩;{obtain⟨v,hv,e⟩:=ha l hl;rw[e i hi2];exact ci v hv i hi2};rw[<-jzdd];refine wE m (fun l _=>kQ m fun i _=>oA _) fun l hl=>?_;obtain⟨v,hv,e⟩:=ha l hl;have:(sm m fun i=>ab (a i l))=sm m fun i=>ab (cc nv Cs b v i):=au m fun i hi2=>(by rw[e i hi2]);rw[this];exact cn v hv);obtain⟨⟨D,hD⟩,qe⟩:=qf (fun i l=>cc nv Cs b (cu T.bn l) i) fun l hl=>⟨_,Bg (qi l hl),fun i _=>rfl⟩;have qj:dB m (cc nv Cs b) (cu T.bn)=(D:Rat):=hD;have qg:D≠0:=fun e=>h.Lm (by rw[qj,e];rfl);rw[hD]at qe;have qa:∀k,k<m->∀v,v<=nv->∃N:Int,M k v*(D:Rat)=(N:Rat)/\ab (N:Rat)<=(((C^m:Nat):Int):Rat):=fun k hk2 v hv=>(by have h1:=h.col.Lm hk2 hv;rw[qj]at h1;obtain⟨⟨N,hN⟩,qm⟩:=qf (rc (fun i l=>cc nv Cs b (cu T.bn l) i) k (cc nv Cs b v)) fun l hl=>(by by_cases e:l=k;{exact⟨v,hv,fun i _=>by rw[e,hJ]⟩};exact⟨_,Bg (qi l hl),fun i _=>by rw[gI _ _ _ e]⟩);exact⟨N,by rw[<-h1,hN],by rw[<-hN];exact qm⟩);have qh:C^m<=(m+1)*C^m:=Nat.le_mul_of_pos_left _ qO;refine⟨D,qg,oC qe,fun k v hk2 hv=>?_⟩;by_cases qk:k<m;{obtain⟨N,h1,h2⟩:=qa k qk v hv;exact⟨⟨N,h1⟩,Ep qg h1 (yY (oC qe) qh) (yY (oC h2) qh)⟩};obtain rfl:k=m:=qO;have h1:=(h.col v hv).2;have h2:M k v*(D:Rat)=(sm k fun l=>(M l v*(D:Rat))*kk nv ks (cu T.bn l))-kk nv ks v*(D:Rat):=(by rw[h1];have e1:(sm k fun l=>(M l v*(D:Rat))*kk nv ks (cu T.bn l))=sm k fun l=>(D:Rat)*(M l v*kk nv ks (cu T.bn l)):=au k fun l _=>qG;rw[e1,eO];grind);have hI:sj (M k v*(D:Rat)):=(by rw[h2];have h3:sj (sm k fun l=>(M l v*(D:Rat))*kk nv ks (cu T.bn l)):=sj.sm k fun l hl=>(by obtain⟨N,h4,_⟩:=qa l hl v hv;exact(show sj (M l v*(D:Rat))from⟨N,h4⟩).mul (ki _));have h4:sj (kk nv ks v*(D:Rat)):=(ki v).mul ⟨D,rfl⟩;have:=h3.add h4.neg;rwa [<-Rat.sub_eq_add_neg]at this);obtain⟨N,hN⟩:=hI;refine⟨⟨N,hN⟩,Ep qg hN (yY (oC qe) qh) (oC ?_)⟩;rw[<-hN,h2];have h5:ab ((sm k fun l=>(M l v*(D:Rat))*kk nv ks (cu T.bn l))-kk nv ks v*(D:Rat))<=ab (sm k fun l=>(M l v*(D:Rat))*kk nv ks (cu T.bn l))+ab (kk nv ks v*(D:Rat)):=(by have:=jzc2 (sm k fun l=>(M l v*(D:Rat))*kk nv ks (cu T.bn l)) (-(kk nv ks v*(D:Rat)));rw[lP, <-Rat.sub_eq_add_neg]at this;exact this);have one:∀x y c:Rat,ab x<=c->ab y<=1->ab (x*y)<=c:=fun x y c hx hy=>(by rw[uZ];have:=yT hy (oA x);grind);have h6:ab (kk nv ks v*(D:Rat))<=(((C^k:Nat):Int):Rat):=(by rw[Rat.mul_comm];exact one _ _ _ qe (kn v));have h7:ab (sm k fun l=>(M l v*(D:Rat))*kk nv ks (cu T.bn l))<=(((k*C^k:Nat):Int):Rat):=(by refine Dv (wD k _) ?_;rw[<-wH];refine Cw k fun l hl=>?_;obtain⟨N',h8,h9⟩:=qa l hl v hv;exact one _ _ _ (by rw[h8];exact h9) (kn _));have h8:((((k+1)*C^k:Nat):Int):Rat)=(((k*C^k:Nat):Int):Rat)+(((C^k:Nat):Int):Rat):=(by rw[<-Rat.intCast_add,Nat.succ_mul,Jo]);rw[h8];exact Dv h5 qG
section
variable {T:Tb} {m nv:Nat} {M:Nat->Nat->Rat} {Cs:Nat->Nat->Rat} {ks b:Nat->Rat}
def Cj.dual(h:Cj T m nv M Cs ks b):(∀v,v<nv->M m v=(sm m fun i=>M m i*Cs v i)-ks v)/\M m nv=sm m fun i=>M m i*b i:=by
 refine⟨fun v hv=>?_,?_⟩;{have:=(h.row v (Bg hv)).2;unfold cc kk at this;rw[qE hv]at this;simp only[qE hv]at this;exact this};have:=(h.row nv (yX _)).2;unfold cc kk at this;simp only[qF (Ho nv)]at this;rw[this];grind
def Cj.overall(h:Cj T m nv M Cs ks b)(g f:Nat->Rat):(sm m fun l=>g l*f (cu T.bn l))=sm nv fun v=>(sm m fun l=>if cu T.bn l=v then g l else 0)*f v:=by
 (have e1:(sm nv fun v=>(sm m fun l=>if cu T.bn l=v then g l else 0)*f v)=sm nv fun v=>sm m fun l=>if cu T.bn l=v then g l*f v else 0:=au nv fun v _=>(by rw[<-uS];exact au m fun l _=>(by by_cases e:cu T.bn l=v;{rw[qE e,qE e]};rw[qF e,qF e];grind)));rw[e1,mL];refine au m fun l hl=>?_;rw[iy nv (h.rep.di.lt l hl) (fun v _ hv=>by rw[qF (fun e=>hv e.symm)]),qE rfl]
def FE(T:Tb)(m nv:Nat)(M:Nat->Nat->Rat)(v:Nat):Rat:=sm m fun l=>if cu T.bn l=v then M l nv else 0
def Cj.Ky(h:Cj T m nv M Cs ks b):(∀v,0<=FE T m nv M v)/\(∀i,i<m->b i=sm nv fun v=>FE T m nv M v*Cs v i)/\M m nv=sm nv fun v=>FE T m nv M v*ks v:=by
 refine⟨fun v=>kQ m fun l hl=>?_,fun i hi=>?_,?_⟩;{split;{exact h.D9 l hl};exact vC};{have h1:=(h.col nv (yX _)).1 i hi;have e1:cc nv Cs b nv i=b i:=(by unfold cc;rw[qF (Ho nv)]);rw[e1]at h1;rw[h1];have e2:(sm m fun l=>M l nv*cc nv Cs b (cu T.bn l) i)=sm m fun l=>M l nv*(fun v=>Cs v i) (cu T.bn l):=au m fun l hl=>(by unfold cc;rw[qE (h.rep.di.lt l hl)]);rw[e2];exact h.overall (fun l=>M l nv) fun v=>Cs v i};have h1:=(h.col nv (yX _)).2;have e1:kk nv ks nv=0:=(by unfold kk;rw[qF (Ho nv)]);rw[e1]at h1;rw[h1];have e2:(sm m fun l=>M l nv*kk nv ks (cu T.bn l))=sm m fun l=>M l nv*ks (cu T.bn l):=au m fun l hl=>(by unfold kk;rw[qE (h.rep.di.lt l hl)]);rw[e2,h.overall];unfold FE;grind
def Cj.x_bas(h:Cj T m nv M Cs ks b){l:Nat}(hl:l<m):FE T m nv M (cu T.bn l)=M l nv:=by
 unfold FE;rw[iy m hl (fun k hk hkl=>by rw[qF (fun e=>hkl (h.rep.di.inj hk hl e))]),qE rfl]
def jzde{v:Nat}(hv:∀l,l<m->cu T.bn l≠v):FE T m nv M v=0:=
 ku m fun l hl=>by rw[qF (hv l hl)]
def Cj.noray(h:Cj T m nv M Cs ks b)(hn:∀r:Nat->Rat,(∀v,v<nv->0<=r v)->(∀i,i<m->(sm nv fun v=>r v*Cs v i)=0)->∀v,v<nv->r v=0){j:Nat}(hj:j<T.ay.length):Ck T j≠none:=fun hl=>by
 have qf:=wF T j _ hl;rw[h.rep.rl]at qf;have qa:=h.rep.fv j hj;have qg:∀l,l<m->cu T.bn l≠cu T.ay j:=fun l hl e=>h.rep.fb j l hj hl e.symm;have qe:∀l,l<m->0<= -M l (cu T.ay j):=fun l hl=>(by have:=qf l hl;rw[h.rep.co l j hl hj]at this;grind)
 have hr:=hn (fun v=>(if v=cu T.ay j then 1 else 0)+sm m fun l=>if cu T.bn l=v then-M l (cu T.ay j)else 0) (fun v _=>by
  have h1:(0:Rat)<=sm m fun l=>if cu T.bn l=v then-M l (cu T.ay j)else 0:=kQ m fun l hl=>(by split;{exact qe l hl};exact vC)
  split <;> grind) (fun i hi=>by
  have e1:(sm nv fun v=>((if v=cu T.ay j then 1 else 0)+sm m fun l=>if cu T.bn l=v then-M l (cu T.ay j)else 0)*Cs v i)=sm nv fun v=>(if v=cu T.ay j then Cs v i else 0)+(sm m fun l=>if cu T.bn l=v then-M l (cu T.ay j)else 0)*Cs v i:=au nv fun v _=>(by split <;> grind);rw[e1,u7,iy nv qa (fun v _ hv=>by rw[qF hv]),qE rfl, <-h.overall (fun l=> -M l (cu T.ay j)) (fun v=>Cs v i)];have h1:=(h.col (cu T.ay j) (Bg qa)).1 i hi;have e2:cc nv Cs b (cu T.ay j) i=Cs (cu T.ay j) i:=(by unfold cc;rw[qE qa]);have e3:(sm m fun l=>M l (cu T.ay j)*cc nv Cs b (cu T.bn l) i)=sm m fun l=>M l (cu T.ay j)*Cs (cu T.bn l) i:=au m fun l hl=>(by unfold cc;rw[qE (h.rep.di.lt l hl)]);rw[e2,e3]at h1;have e4:(sm m fun l=> -M l (cu T.ay j)*Cs (cu T.bn l) i)=(-1)*sm m fun l=>M l (cu T.ay j)*Cs (cu T.bn l) i:=(by rw[<-eO];exact au m fun l _=>qG)
  rw[e4, <-h1];grind) (cu T.ay j) qa
 rw[qE rfl,ku m (fun l hl=>by rw[qF (qg l hl)])]at hr;rw[Rat.add_zero]at hr;exact absurd hr qD
end
end Sx
namespace Sx
def lQ(m:Nat)(f:Nat->Rat):∀k,sm (m+k) f=sm m f+sm k fun i=>f (m+i)
 |0=>by show sm m f=sm m f+0;grind
 |k+1=>by
  show sm (m+k) f+f (m+k)=sm m f+(sm k (fun i=>f (m+i))+f (m+k));rw[lQ m f k];grind
def rF(m k:Nat)(f:Nat->Rat):sm (m+1+k) f=sm m f+f m+sm k fun i=>f (m+1+i):=by rw[lQ];rfl
def jzdf:∀(n:Nat) {f:Nat->Rat},(∀k,k<n->0<=f k)->sm n f=0->∀k,k<n->f k=0
 |n+1,f,h,h0,k,hk=>by
  have h0:sm n f+f n=0:=h0;have h1:=kQ n fun k hk=>h k qO;have h2:=h n qO;by_cases e:k=n
  ·rw[e];grind
  ·exact jzdf n (fun k hk=>h k qO) qG k qO
def BZ(L2:Nat)(am:Nat->Rat)(i:Nat):Rat:=if i<L2 then 0 else am (i-L2)
def Bb(L2:Nat)(p:Nat×LN)(i:Nat):Rat:=if i<L2 then(if i∈p.2 then 1 else 0)else if i=L2+p.1 then-1 else 0
def FC(L2 D:Nat)(am:Nat->Rat)(P:List (Nat×LN))(v i:Nat):Rat:=
 if v<L2+D then(if i=v then 1 else 0)else if v=L2+D then BZ L2 am i else Bb L2 (P[v-(L2+D+1)]?.getD (0,[])) i
def FK(m v:Nat):Rat:=if v=m then 1 else 0
def fb(L2:Nat)(cap:Nat->Rat)(i:Nat):Rat:=if i<L2 then cap i else 0
def lR(L2 D:Nat)(am:Nat->Rat)(P:List (Nat×LN)){v:Nat}(hv:v<L2+D)(i:Nat):FC L2 D am P v i=if i=v then 1 else 0:=qE hv
def kA(L2 D:Nat)(am:Nat->Rat)(P:List (Nat×LN))(i:Nat):FC L2 D am P (L2+D) i=BZ L2 am i:=by unfold FC;rw[qF (Ho _),qE rfl]
def lS(L2 D:Nat)(am:Nat->Rat)(P:List (Nat×LN))(k i:Nat):FC L2 D am P (L2+D+1+k) i=Bb L2 (P[k]?.getD (0,[])) i:=by
 unfold FC;rw[qF qO,qF qO,show L2+D+1+k-(L2+D+1)=k by omega]
def jzlv(L2 D:Nat)(am:Nat->Rat)(P:List (Nat×LN))(p:Nat×LN){v:Nat}(hv:v<L2+D+1+P.length):FC L2 D am (P++[p]) v=FC L2 D am P v:=by
 funext i;unfold FC;by_cases h1:v<L2+D;{rw[qE h1,qE h1]};by_cases h2:v=L2+D;{rw[qF h1,qF h1,qE h2,qE h2]};rw[qF h1,qF h1,qF h2,qF h2,yR qO]
def Cj.congr{T:Tb}{m nv:Nat}{M:Nat->Nat->Rat}{Cs:Nat->Nat->Rat}{ks b b':Nat->Rat}(h:Cj T m nv M Cs ks b)(hb:∀i,i<m->b i=b' i):Cj T m nv M Cs ks b':=by
 have hc:∀v i,i<m->cc nv Cs b' v i=cc nv Cs b v i:=fun v i hi=>(by unfold cc;split;{rfl};exact(hb i hi).symm);refine⟨h.rep,fun v hv=>⟨fun i hi=>?_,(h.col v hv).2⟩,fun v hv=>⟨fun k hk=>?_,?_⟩,h.D9,?_,h.iq,h.unit,h.free⟩;{rw[hc v i hi,(h.col v hv).1 i hi];exact au m fun l _=>by rw[hc _ i hi]};{rw[(h.row v hv).1 k hk];exact au m fun i hi=>by rw[hc v i hi]};{rw[(h.row v hv).2];congr 1;exact au m fun i hi=>by rw[hc v i hi]};have:dB m (cc nv Cs b') (cu T.bn)=dB m (cc nv Cs b) (cu T.bn):=kR m fun i hi l _=>hc _ i hi;rw[this];exact h.Lm
section
variable {L2 D:Nat} {am cap:Nat->Rat} {P:List (Nat×List Nat)}
def jzlw(hD:0<D)(FQ:∀d,d<D->0<am d)(hP:∀p∈P,∃a,a∈p.2/\a<L2):∀r:Nat->Rat,(∀v,v<L2+D+1+P.length->0<=r v)->(∀i,i<L2+D->(sm (L2+D+1+P.length) fun v=>r v*FC L2 D am P v i)=0)->∀v,v<L2+D+1+P.length->r v=0:=fun r hr h=>by
 have qh:∀i,i<L2+D->(sm (L2+D) fun v=>r v*FC L2 D am P v i)=r i:=fun i hi=>(by rw[iy (L2+D) hi (fun v hv hvi=>by rw[lR _ _ _ _ hv,qF (fun e=>hvi e.symm)];grind),lR _ _ _ _ hi,qE rfl];grind);have qf:∀a,a<L2->r a=0/\∀k,k<P.length->r (L2+D+1+k)*Bb L2 (P[k]?.getD (0,[])) a=0:=fun a ha=>(by have h1:=h a qO;rw[rF,qh a qO,kA]at h1;have e1:BZ L2 am a=0:=qE ha;have e2:(sm P.length fun k=>r (L2+D+1+k)*FC L2 D am P (L2+D+1+k) a)=sm P.length fun k=>r (L2+D+1+k)*Bb L2 (P[k]?.getD (0,[])) a:=au _ fun k _=>(by rw[lS]);rw[e1,e2]at h1;have qi:∀k,k<P.length->0<=r (L2+D+1+k)*Bb L2 (P[k]?.getD (0,[])) a:=fun k hk=>(by refine vA (hr _ qO) ?_;unfold Bb;rw[qE ha];split;{decide};exact vC);have h2:=kQ _ qi;have h3:=hr a qO;exact⟨qG,jzdf _ qi qG⟩);have qa:∀k,k<P.length->r (L2+D+1+k)=0:=fun k hk=>(by obtain⟨a,ha,qj⟩:=hP P[k] (xR hk);have h1:=(qf a qj).2 k hk;rw[yG hk]at h1;have h2:Bb L2 ((some P[k]).getD (0,[])) a=1:=(by unfold Bb;rw[qE qj];exact qE ha);rw[h2]at h1;grind);have qe:∀d,d<D->r (L2+d)+r (L2+D)*am d=0:=fun d hd=>(by have h1:=h (L2+d) qO;rw[rF,qh _ qO,kA,ku P.length (fun k hk=>by rw[qa k hk];grind)]at h1;have e1:BZ L2 am (L2+d)=am d:=(by unfold BZ;rw[qF qO,show L2+d-L2=d by omega]);rw[e1]at h1;grind);have qg:r (L2+D)=0:=(by (have h1:=qe 0 hD;have h2:=hr (L2+0) qO;have h3:=hr (L2+D) qO;have h4:=FQ 0 hD;have h5:=vA h3 (vB h4);have h6:r (L2+D)*am 0=0:=qG;rcases Rat.mul_eq_zero.1 h6 with h7|h7);{exact h7};grind);intro v hv;by_cases h1:v<L2;{exact(qf v h1).1};by_cases h2:v<L2+D;{have h3:=qe (v-L2) qO;rw[qg,show L2+(v-L2)=v by omega]at h3;grind};by_cases h3:v=L2+D;{rw[h3];exact qg};have:=qa (v-(L2+D+1)) qO;rw[show L2+D+1+(v-(L2+D+1))=v by omega]at this;exact this
def jzlx{T:Tb}{M:Nat->Nat->Rat}(h:Cj T (L2+D) (L2+D+1+P.length) M (FC L2 D am P) (FK (L2+D)) (fb L2 cap))(hg:∀v,v<L2+D+1+P.length->0<=M (L2+D) v):
  (sm L2 fun a=>M (L2+D) a*cap a)=M (L2+D) (L2+D+1+P.length)/\
  1<=(sm D fun d=>M (L2+D) (L2+d)*am d)/\
  (∀k,k<P.length->(P[k]?.getD (0,[])).1<D->M (L2+D) (L2+(P[k]?.getD (0,[])).1)<=sm L2 fun a=>if a∈(P[k]?.getD (0,[])).2 then M (L2+D) a else 0):=by
 obtain⟨h1,h2⟩:=h.dual;refine⟨?_,?_,fun k hk hd=>?_⟩;{rw[h2,lQ L2 _ D,ku D (fun d hd=>by unfold fb;rw[qF qO];grind)];have:(sm L2 fun i=>M (L2+D) i*fb L2 cap i)=sm L2 fun a=>M (L2+D) a*cap a:=au L2 fun a ha=>(by unfold fb;rw[qE ha]);rw[this];grind};{have h3:=h1 (L2+D) qO;have h4:=hg (L2+D) qO;rw[lQ L2 _ D,ku L2 (fun a ha=>by rw[kA];unfold BZ;rw[qE ha];grind)]at h3;have e1:(sm D fun d=>M (L2+D) (L2+d)*FC L2 D am P (L2+D) (L2+d))=sm D fun d=>M (L2+D) (L2+d)*am d:=au D fun d _=>(by rw[kA];unfold BZ;rw[qF qO,show L2+d-L2=d by omega]);have e2:FK (L2+D) (L2+D)=1:=qE rfl;rw[e1,e2]at h3;grind};(have h3:=h1 (L2+D+1+k) qO;have h4:=hg (L2+D+1+k) qO;have e2:FK (L2+D) (L2+D+1+k)=0:=qF qO;rw[e2,lQ L2 _ D]at h3;have e1:(sm L2 fun a=>M (L2+D) a*FC L2 D am P (L2+D+1+k) a)=sm L2 fun a=>if a∈(P[k]?.getD (0,[])).2 then M (L2+D) a else 0:=au L2 fun a ha=>(by rw[lS];unfold Bb;rw[qE ha];split <;> grind));have e3:(sm D fun d=>M (L2+D) (L2+d)*FC L2 D am P (L2+D+1+k) (L2+d))= -M (L2+D) (L2+(P[k]?.getD (0,[])).1):=(by rw[iy D hd (fun d _ hne=>by rw[lS];unfold Bb;rw[qF qO,qF qO];grind),lS];unfold Bb;rw[qF qO,qE rfl];grind);rw[e1,e3]at h3;grind
def jzly{T:Tb}{M:Nat->Nat->Rat}(h:Cj T (L2+D) (L2+D+1+P.length) M (FC L2 D am P) (FK (L2+D)) (fb L2 cap)):
  (∀v,0<=FE T (L2+D) (L2+D+1+P.length) M v)/\
  M (L2+D) (L2+D+1+P.length)=FE T (L2+D) (L2+D+1+P.length) M (L2+D)/\
  (∀a,a<L2->(sm P.length fun k=>if a∈(P[k]?.getD (0,[])).2 then FE T (L2+D) (L2+D+1+P.length) M (L2+D+1+k)else 0)<=cap a)/\
  (∀d,d<D->M (L2+D) (L2+D+1+P.length)*am d<=sm P.length fun k=>if(P[k]?.getD (0,[])).1=d then FE T (L2+D) (L2+D+1+P.length) M (L2+D+1+k)else 0):=by
 obtain⟨h1,h2,h3⟩:=h.Ky;generalize hx:FE T (L2+D) (L2+D+1+P.length) M=x at*;have hv:M (L2+D) (L2+D+1+P.length)=x (L2+D):=(by rw[h3,iy (L2+D+1+P.length) (show L2+D<L2+D+1+P.length by omega) (fun v _ hv=>by rw[show FK (L2+D) v=0 from qF hv];grind),show FK (L2+D) (L2+D)=1 from qE rfl];grind);have qa:∀i,i<L2+D->(sm (L2+D) fun v=>x v*FC L2 D am P v i)=x i:=fun i hi=>(by rw[iy (L2+D) hi (fun v hv hvi=>by rw[lR _ _ _ _ hv,qF (fun e=>hvi e.symm)];grind),lR _ _ _ _ hi,qE rfl];grind);refine⟨h1,hv,fun a ha=>?_,fun d hd=>?_⟩;{have h4:=h2 a qO;(rw[rF,qa a qO,kA]at h4;have e1:BZ L2 am a=0:=qE ha;have e2:(sm P.length fun k=>x (L2+D+1+k)*FC L2 D am P (L2+D+1+k) a)=sm P.length fun k=>if a∈(P[k]?.getD (0,[])).2 then x (L2+D+1+k)else 0:=au _ fun k _=>(by rw[lS];unfold Bb;rw[qE ha];split <;> grind));have e3:fb L2 cap a=cap a:=qE ha;rw[e1,e2,e3]at h4;have:=h1 a;grind};(have h4:=h2 (L2+d) qO;rw[rF,qa _ qO,kA]at h4;have e1:BZ L2 am (L2+d)=am d:=(by unfold BZ;rw[qF qO,show L2+d-L2=d by omega]);have e2:(sm P.length fun k=>x (L2+D+1+k)*FC L2 D am P (L2+D+1+k) (L2+d))=(-1)*sm P.length fun k=>if(P[k]?.getD (0,[])).1=d then x (L2+D+1+k)else 0:=(by rw[<-eO];refine au _ fun k _=>?_;rw[lS];unfold Bb;rw[qF qO];by_cases e:(P[k]?.getD (0,[])).1=d;{rw[qE qO,qE e];grind};rw[qF qO,qF e];grind));have e3:fb L2 cap (L2+d)=0:=qF qO;rw[e1,e2,e3]at h4;rw[hv];have:=h1 (L2+d);grind
def BH(L2 D:Nat)(am cap:Nat->Rat)(T:Tb)(P:List (Nat×LN)):Prop:=∃M,Cj T (L2+D) (L2+D+1+P.length) M (FC L2 D am P) (FK (L2+D)) (fb L2 cap)
def BH.start{bounds vals:LQ}(hb:bounds.length=L2+D)(hbv:∀i,i<L2+D->at_ bounds i=fb L2 cap i)(hcap:∀a,a<L2->0<=cap a)(hv:vals.length=L2+D)(hvv:∀i,i<L2+D->at_ vals i=BZ L2 am i):BH L2 D am cap (Aa (newT bounds) 1 vals) []:=by
 have h0:=Cj.start bounds hb (fun k hk=>by rw[hbv k hk];unfold fb;split;{rename_i h;exact hcap k h};exact vC) (Cs:=FC L2 D am []) (ks:=FK (L2+D)) (fun j hj i _=>lR _ _ _ _ hj i) (fun j hj=>qF qO);have h1:=h0.add (1:Rat) vals hv (El:=FC L2 D am []) (ks':=FK (L2+D)) (fun v _=>rfl) (fun i hi=>by rw[kA,hvv i hi]) (fun v _=>rfl) (qE rfl);exact⟨_,h1.congr hbv⟩
def BH.add{T:Tb}{p:Nat×LN}{vals:LQ}(h:BH L2 D am cap T P)(hv:vals.length=L2+D)(hvv:∀i,i<L2+D->at_ vals i=Bb L2 p i):BH L2 D am cap (Aa T 0 vals) (P++[p]):=by
 obtain⟨M,h⟩:=h;have h1:=h.add (0:Rat) vals hv (El:=FC L2 D am (P++[p])) (ks':=FK (L2+D)) (fun v hv=>jzlv _ _ _ _ _ hv) (fun i hi=>by rw[lS,yS (yX _),Nat.sub_self];exact(hvv i hi).symm) (fun v _=>rfl) (qF qO);rw[show L2+D+1+P.length+1=L2+D+1+(P++[p]).length by simp;omega]at h1;exact⟨_,h1⟩
def BH.iter{T:Tb}(h:BH L2 D am cap T P)(n:Nat):BH L2 D am cap (ig n T) P:=by
 obtain⟨M,h⟩:=h;obtain⟨M',h'⟩:=h.iter n;exact⟨M',h'⟩
def BH.max{T:Tb}(h:BH L2 D am cap T P)(hD:0<D)(FQ:∀d,d<D->0<am d)(hP:∀p∈P,∃a,a∈p.2/\a<L2):∃N,Bw (ig N T)=none/\∀n,n<N->∃j i,Bw (ig n T)=some j/\Ck (ig n T) j=some i:=by
 obtain⟨M,h0⟩:=h;obtain⟨N,h1,h2⟩:=jzlq h0.rep h0.D9;have qa:∀n j,Bw (ig n T)=some j->Ck (ig n T) j≠none:=fun n j hj=>(by obtain⟨M',h3⟩:=h0.iter n;have h4:=(Aq _ _ hj).1;rw[h3.rep.gl]at h4;exact h3.noray (jzlw hD FQ hP) h4);refine⟨N,?_,fun n hn=>?_⟩;{(cases h3:Bw (ig N T)with|none=>rfl|some j=>(exfalso;have h4:=qa N j h3;unfold stepT at h1;rw[h3]at h1;simp only[]at h1;cases h5:Ck (ig N T) j with|none=>exact h4 h5|some i=>rw[h5]at h1;cases h1))};(have h3:=h2 n hn;cases h4:stepT (ig n T)with|none=>exact absurd h4 h3|some T'=>obtain⟨i,j,g1,g2,_⟩:=Bj h4;exact⟨j,i,g1,g2⟩)
def jzdg(L2:Nat)(p:Nat×LN)(i:Nat):Bb L2 p i=0\/Bb L2 p i=1\/Bb L2 p i= -1:=by
 unfold Bb;split;{split;{exact .inr (.inl rfl)};exact .inl rfl};split;{exact .inr (.inr rfl)};exact .inl rfl
def BH.size{T:Tb}(h:BH L2 D am cap T P)(C:Nat)(hC:L2+D<=C)(hC1:1<=C)(hca:∀a,a<L2->sj (cap a)/\0<=cap a)(FQ:∀d,d<D->sj (am d)/\0<=am d)(hsc:sm L2 cap<=((C:Int):Rat))(hsa:sm D am<=((C:Int):Rat)):
  ∃M,Cj T (L2+D) (L2+D+1+P.length) M (FC L2 D am P) (FK (L2+D)) (fb L2 cap)/\∃Dn:Int,Dn≠0/\Dn.natAbs<=C^(L2+D)/\∀k v,k<=L2+D->v<=L2+D+1+P.length->sj (M k v*(Dn:Rat))/\Kk (M k v) ((L2+D+1)*C^(L2+D)):=by
 obtain⟨M,h⟩:=h;have c1:((1:Int):Rat)<=((C:Int):Rat):=Hr.2 qO;refine⟨M,h,h.size C (fun v hv i hi=>?_) (fun i hi=>?_) (fun v hv=>?_) (fun v hv=>?_) ?_ (fun v hv=>?_)⟩;{unfold FC;split;{split;{exact sj.one};exact sj.zero};split;{unfold BZ;split;{exact sj.zero};exact(FQ _ qO).1};(rcases jzdg L2 (P[v-(L2+D+1)]?.getD (0,[])) i with e|e|e);{rw[e];exact sj.zero};{rw[e];exact sj.one};rw[e];exact sj.one.neg};{unfold fb;split;{rename_i h1;exact(hca i h1).1};exact sj.zero};{unfold FK;split;{exact sj.one};exact sj.zero};{by_cases h1:v<L2+D;{rw[iy (L2+D) h1 (fun i _ hi=>by rw[lR _ _ _ _ h1,qF hi];rfl),lR _ _ _ _ h1,qE rfl];exact Dv (show ab 1<=((1:Int):Rat) by decide) c1};by_cases h2:v=L2+D;{subst h2;rw[lQ L2 _ D,ku L2 (fun i hi=>by rw[kA];unfold BZ;rw[qE hi];rfl)];have:(sm D fun d=>ab (FC L2 D am P (L2+D) (L2+d)))=sm D am:=au D fun d hd=>(by rw[kA];unfold BZ;rw[qF qO,show L2+d-L2=d by omega];unfold ab;rw[qF (Dy.2 (FQ d hd).2)]);rw[this];grind};have h3:∀i,ab (FC L2 D am P v i)<=((1:Int):Rat):=fun i=>(by (unfold FC;rw[qF h1,qF h2];rcases jzdg L2 (P[v-(L2+D+1)]?.getD (0,[])) i with e|e|e);{rw[e];decide};{rw[e];decide};rw[e];decide);refine Dv (Cw (L2+D) (g:=fun _=>((1:Nat):Int)) fun i _=>h3 i) ?_;rw[wH 1 (L2+D),Nat.mul_one];exact Hr.2 qO};{rw[lQ L2 _ D,ku D (fun d _=>by unfold fb;rw[qF qO];rfl)];have:(sm L2 fun i=>ab (fb L2 cap i))=sm L2 cap:=au L2 fun a ha=>(by unfold fb;rw[qE ha];unfold ab;rw[qF (Dy.2 (hca a ha).2)]);rw[this];grind};unfold FK;split;{decide};decide
end
end Sx
open Go.RowKit
structure aQ where
 p:Nat
 vr:Value
 vb:Value
 vf:Value
 V:Nat->Value
 m:Nat
def aQ.S(L:aQ)(b:Nat):Prop:=b=L.p\/L.vr.ownBlock=some b\/L.vb.ownBlock=some b\/L.vf.ownBlock=some b\/∃i,i<=L.m/\(L.V i).ownBlock=some b
structure aH(w:World)(B:Nat)(L:aQ)(T:Sx.Tb):Prop where
 rl:T.rows.length=L.m
 lo:B<=L.p
 box:∃gs,Ic w gs (L.V L.m) T.goal.re/\ak w L.p 147 ([L.vr,L.vb,L.vf]++gs++[Value.int .i64 (T.iq:Int)]).toArray
 rows:∃css:List (List Value),css.length=L.m/\(∀cs∈css,cs.length=4)/\w.ownsRow B 145 4 L.vr L.m css.flatten/\∀i,i<L.m->∃cs,css[i]?=some cs/\Ic w cs (L.V i) (T.row i).re
 bl:T.bn.length=L.m
 bn:w.ownsRow B 3 1 L.vb L.m (ints T.bn)
 ay:w.ownsRow B 3 1 L.vf T.ay.length (ints T.ay)
 bf:L.vb.ownBlock=none\/L.vb.ownBlock≠L.vf.ownBlock
 co:∀i,i<L.m->OQ QR 33 w B (L.V i) (T.row i).co
 go:OQ QR 33 w B (L.V L.m) T.goal.co
 sep:∀i k,i<=L.m->k<=L.m->i≠k->(L.V i).ownBlock=none\/(L.V i).ownBlock≠(L.V k).ownBlock
def QR.Dz:∀(w w':World) (cs:List Value) (q:Rat),QR w cs q->Ext w w'->QR w' cs q:=fun _ _ _ _ h hx=>h.K hx
def OQ.own{w}{B:Nat}{v:Value}{qs:LQ}(h:OQ QR 33 w B v qs):∃xs,w.ownsRow B 33 3 v qs.length xs:=by
 obtain⟨css,_,_,h3,_⟩:=h;exact⟨_,h3⟩
section
variable {w w':World} {B:Nat} {L:aQ} {T:Sx.Tb}
def aH.oq(h:aH w B L T){i:Nat}(hi:i<=L.m):∃qs,OQ QR 33 w B (L.V i) qs:=by
 by_cases e:i<L.m;{exact⟨_,h.co i e⟩};obtain rfl:i=L.m:=qO;exact⟨_,h.go⟩
def aH.ty(h:aH w B L T){b:Nat}(hb:L.S b):B<=b/\b<w.heap.size/\∃cs t,ak w b t cs/\(t=147\/t=145\/t=3\/t=33):=by
 (rcases hb with rfl|hb|hb|hb|⟨i,hi,hb⟩);{obtain⟨gs,_,h2⟩:=h.box;exact⟨h.lo,h2.lt,_,_,h2,.inl rfl⟩};{obtain⟨css,_,_,h3,_⟩:=h.rows;obtain⟨cs,h4⟩:=aT h3 hb;exact⟨(h3.lt b hb).1,h4.lt,_,_,h4,.inr (.inl rfl)⟩};{obtain⟨cs,h4⟩:=aT h.bn hb;exact⟨(h.bn.lt b hb).1,h4.lt,_,_,h4,.inr (.inr (.inl rfl))⟩};{obtain⟨cs,h4⟩:=aT h.ay hb;exact⟨(h.ay.lt b hb).1,h4.lt,_,_,h4,.inr (.inr (.inl rfl))⟩};obtain⟨qs,h1⟩:=h.oq hi;obtain⟨xs,h3⟩:=h1.own;obtain⟨cs,h4⟩:=aT h3 hb;exact⟨(h3.lt b hb).1,h4.lt,_,_,h4,.inr (.inr (.inr rfl))⟩
def aH.noT(h:aH w B L T){t:TypeId}(h1:147≠t)(h2:145≠t)(h3:3≠t)(h4:33≠t):oh L.S w t:=fun b hb cs fr e=>by
 obtain⟨_,_,qa,t',k1,k2⟩:=h.ty hb;unfold ak at k1;rw[k1]at e;injection e with e;(injection e with _ e);(rcases k2 with k2|k2|k2|k2);{exact h1 (by rw[<-k2,e])};{exact h2 (by rw[<-k2,e])};{exact h3 (by rw[<-k2,e])};{exact h4 (by rw[<-k2,e])}
def aH.IV(h:aH w B L T):oh L.S w 196:=h.noT qD qD qD qD
def aH.far{S:Nat->Prop}(h:aH w B L T)(k:fu S w w')(hn:oh S w 196)(hs:∀b,S b->¬L.S b):aH w' B L T:=by
 have hS:∀{b:Nat},L.S b->¬S b:=fun hb h1=>hs _ h1 hb;refine⟨h.rl,h.lo,?_,?_,h.bl,k.own h.bn fun g hg=>hS (.inr (.inr (.inl hg))),k.own h.ay fun g hg=>hS (.inr (.inr (.inr (.inl hg)))),h.bf,fun i hi=>k.oq hn (h.co i hi) fun g hg=>hS (.inr (.inr (.inr (.inr ⟨i,Bg hi,hg⟩)))),k.oq hn h.go fun g hg=>hS (.inr (.inr (.inr (.inr ⟨L.m,yX _,hg⟩)))),h.sep⟩;{obtain⟨gs,h1,h2⟩:=h.box;exact⟨gs,k.Gc hn h1,k.blk h2 (hS (.inl rfl))⟩};obtain⟨css,h1,h2,h3,h4⟩:=h.rows;refine⟨css,h1,h2,k.own h3 fun g hg=>hS (.inr (.inl hg)),fun i hi=>?_⟩;obtain⟨cs,h5,h6⟩:=h4 i hi;exact⟨cs,h5,k.Gc hn h6⟩
def aH.K(h:aH w B L T)(hx:Ext w w'):aH w' B L T:=h.far (S:=fun _=>False) (eE hx) (fun b hb=>hb.elim) (fun b hb=>hb.elim)
end
section
variable {o:Oper} {a:Act} {Q:Exit->Act->World->Prop}
def jzdh{w:World}{B n s:Nat}{e:TypeId}{v:Value}{xs:List Value}(h:w.ownsRow B e s v (n+1) xs):∃g c,v=.s (sA g) (n+1) c/\n+1<=c:=by
 rcases h.2 with⟨_,h4⟩|⟨g',cap,cur,h3,h4,h5,h6,_⟩
 ·omega
 exact⟨g',cap,h3,h6⟩
def lT{K:Act->World->Prop}(W:World)(tS e:TypeId)(z:Value)(sz bytes:Nat)(s x:Operand)
  (ho:o.op=.call {callee:=.builtin .append,args:=#[s,x],argTypes:=#[tS,tS]})
  (ht:prog.underlying tS=some (.slice e)) (hinfo:(prog.info? e).map (fun i=>(i.zero,i.size,i.bytes))=some (some z,sz,bytes)) (hzs:z.cells.size=sz) (hsz:0<sz)
  (B:Nat) (v:Value) (n:Nat) (xs:List Value) (hs:a.eval s=v) (hown:W.ownsRow B e sz v n xs) (us:List Value) (Ez:us.length=sz) (hone:∀u∈us,u.oneCell'=true) (g:Nat) (hx:a.eval x=.s (sA g) 1 1)
  (hblk:ak W g e us.toArray) (hl:n+1<=maxLen) (hb:(n+1)*bytes<=140737488355328) (hB:B<=W.heap.size)
  (h:∀g' c' w',w'.ownsRow B e sz (.s (sA g') (n+1) c') (n+1) (xs++us)->W.grownBy w' v.ownBlock->(some g'=v.ownBlock\/g'=W.heap.size)->K (a.put o.dst (.s (sA g') (n+1) c')) w'):o.wp prog a W K Q:=by
 obtain⟨ti,hi,qf,qg,qe⟩:=info_parts hinfo;obtain⟨v',w',qa,k1,k2,k3,k4⟩:=run_append_own_at (P:=prog) W B tS o.type e ti z sz bytes ht hi qf qg qe hzs hsz v n xs hown (aD g 0) 1 1 us qO (fun j u hj=>by rw[mE,CU];exact(hblk.cell j).trans (by simpa using hj)) hone hl hb hB;(unfold Oper.wp execOp;simp only[ho,resolve,invoke,builtin,Sem.run_bind,Sem.run_pure,Result.andThen_ok,List.map_toArray,Ka,List.map_nil,hs,hx,qa];obtain⟨g',c',rfl,_⟩:=jzdh k1;refine h g' c' w' k1 k2 ?_;rcases k4 with k4|k4);{exact .inl k4};(have k4:some g'=some W.heap.size:=k4;injection k4 with k4);exact .inr k4
def kS{ops:Array Oper}{rest:List Oper}(W:World)(tS e:TypeId)(z:Value)(sz bytes:Nat)(hgd:o.guard=none)(s x:Operand)
  (ho:o.op=.call {callee:=.builtin .append,args:=#[s,x],argTypes:=#[tS,tS]})
  (ht:prog.underlying tS=some (.slice e)) (hinfo:(prog.info? e).map (fun i=>(i.zero,i.size,i.bytes))=some (some z,sz,bytes)) (hzs:z.cells.size=sz) (hsz:0<sz)
  (B:Nat) (v:Value) (n:Nat) (xs:List Value) (hs:a.eval s=v) (hown:W.ownsRow B e sz v n xs) (us:List Value) (Ez:us.length=sz) (hone:∀u∈us,u.oneCell'=true) (g:Nat) (hx:a.eval x=.s (sA g) 1 1)
  (hblk:ak W g e us.toArray) (hl:n+1<=maxLen) (hb:(n+1)*bytes<=140737488355328) (hB:B<=W.heap.size)
  (h:∀g' c' w',w'.ownsRow B e sz (.s (sA g') (n+1) c') (n+1) (xs++us)->W.grownBy w' v.ownBlock->(some g'=v.ownBlock\/g'=W.heap.size)->wpList prog ops Q rest (a.put o.dst (.s (sA g') (n+1) c')) w'):wpList prog ops Q (o::rest) a W:=by
 obtain⟨ti,hi,qe,qf,qa⟩:=info_parts hinfo;refine wpList_append_own_at _ hgd s x tS ho B e ti z sz bytes ht hi qe qf qa hzs hsz v n xs hs hown (aD g 0) 1 1 us hx qO ?_ hone hl hb hB ?_;{intro j u hj;rw[mE,CU];exact(hblk.cell j).trans (by simpa using hj)};(intro v' w' k1 k2 _ k4;obtain⟨g',c',rfl,_⟩:=jzdh k1;refine h g' c' w' k1 k2 ?_;rcases k4 with k4|k4);{exact .inl k4};(have k4:some g'=some W.heap.size:=k4;injection k4 with k4);exact .inr k4
end
end Go.Proofs.YtfeeacaofjpkaaaGreatDoor
