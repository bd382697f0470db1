/- Walks, part 8. -/
import Derived.Lib.SliceRun
import Derived.Test.YtojpooidhilnfaaGreatDoorT07
set_option linter.unusedVariables false
set_option linter.unusedSimpArgs false
set_option maxRecDepth 100000
set_option maxHeartbeats 8000000
namespace Go.Proofs.YtojpooidhilnfaaGreatDoor
open Go.Proofs.Tryz
open Go.RowKit
def aZ:LQ->Rat
 | []=>0
 |a::l=>a+aZ l
def fZ:LQ->LQ
 |a::b::l=>(a+b)::fZ l
 |l=>l
theorem uH:∀l:LQ,aZ (fZ l)=aZ l
 | []=>rfl
 | [_]=>rfl
 |a::b::l=>by
  show a+b+aZ (fZ l)=a+(b+aZ l);rw[uH l,Rat.add_assoc]
theorem oQ:∀l:LQ,(fZ l).length=(l.length+1)/2
 | []=>rfl
 | [_]=>by simp[fZ]
 |a::b::l=>by
  show(fZ l).length+1=(l.length+1+1+1)/2;rw[oQ l];omega
theorem uI:∀(l:LQ) (j:Nat),j<(l.length+1)/2->(fZ l)[j]?=some (if 2*j+1<l.length then l[2*j]?.getD 0+l[2*j+1]?.getD 0 else l[2*j]?.getD 0)
 | [],j,h=>by simp at h
 | [a],j,h=>by
   obtain rfl:j=0:=(by simp at h;omega);rfl
 |a::b::l,0,h=>by
  show some (a+b)=_;simp
 |a::b::l,j+1,h=>by
  show(fZ l)[j]?=_;rw[uI l j (by simp at h;omega)];have e1:(a::b::l)[2*(j+1)]?=l[2*j]?:=(by rw[show 2*(j+1)=2*j+1+1 by omega];rfl);have e2:(a::b::l)[2*(j+1)+1]?=l[2*j+1]?:=(by rw[show 2*(j+1)+1=(2*j+1)+1+1 by omega];rfl);rw[e1,e2];simp only[kQo];by_cases h2:2*j+1<l.length
  ·rw[qE h2,qE qO]
  ·rw[qF h2,qF qO]
def fE(l:LQ):Nat->LQ
 |0=>l
 |i+1=>(fE l i).set i (l[2*i]?.getD 0+l[2*i+1]?.getD 0)
theorem lW(l:LQ):∀i,(fE l i).length=l.length
 |0=>rfl
 |i+1=>by
  show((fE l i).set i _).length=_;rw[yV];exact lW l i
theorem mY(l:LQ):∀(i j:Nat),j<l.length->(fE l i)[j]?=some (if j<i then l[2*j]?.getD 0+l[2*j+1]?.getD 0 else l[j]?.getD 0)
 |0,j,h=>by
  show l[j]?=_;rw[qF qO,yG h];rfl
 |i+1,j,h=>by
  show((fE l i).set i _)[j]?=_;by_cases e:i=j
  ·subst e
   rw[yM (by rw[lW];exact h),qE qO]
  ·rw[vN e,mY l i j h]
   by_cases h2:j<i
   ·rw[qE h2,qE qO]
   ·rw[qF h2,qF qO]
theorem jzkf{l:LQ}{p:Nat}(h:l.length=2*p):(fE l p).take p=fZ l:=by
 apply uK;intro j;by_cases hj:j<p;{rw[List.getElem?_take_of_lt hj,mY l p j qO,uI l j qO,qE hj,qE qO]};rw[yI (by rw[xF,lW];omega),yI (by rw[oQ];omega)]
theorem jzkg{l:LQ}{p:Nat}(h:l.length=2*p+1):((fE l p).set p (l[2*p]?.getD 0)).take (p+1)=fZ l:=by
 apply uK;intro j;by_cases hj:j<p+1;{rw[List.getElem?_take_of_lt hj,uI l j qO];by_cases e:p=j;{subst e;rw[yM (by rw[lW];omega),qF qO]};rw[vN e,mY l p j qO,qE qO,qE qO]};rw[yI (by rw[xF,yV,lW];omega),yI (by rw[oQ];omega)]
def SzR:LQ->Nat->Prop
 | [],_=>True
 |a::l,C=>∃k D,SzQ a k/\SzR l D/\k+1+D<=C
theorem SzR.halve_:∀{l:LQ} {C:Nat},SzR l C->SzR (fZ l) C
 | [],_,_=>trivial
 | [_],_,h=>h
 |a::b::l,C,h=>by
  obtain⟨k,D,h1,⟨k2,D2,h2,h3,h4⟩,h5⟩:=h;exact⟨k+k2+1,D2,h1.add h2,SzR.halve_ h3,qO⟩
theorem SzR.mem:∀{l:LQ} {C:Nat},SzR l C->∀q∈l,SzQ q C
 | [],_,_,q,hq=>by cases hq
 |a::l,C,h,q,hq=>by
  obtain⟨k,D,h1,h2,h3⟩:=h;rcases xZ.1 hq with rfl|hq
  ·exact h1.mono qO
  ·exact(SzR.mem h2 q hq).mono qO
theorem SzR.of{P:Nat}:∀{l:LQ},(∀q∈l,SzQ q P)->SzR l (l.length*(P+1))
 | [],_=>trivial
 |a::l,h=>⟨P,l.length*(P+1),h a qS,SzR.of (fun q hq=>h q (by simp[hq])),by rw[kQo,xP];omega⟩
theorem SzR.sum:∀{l:LQ} {C:Nat},SzR l C->SzQ (aZ l) (C+1)
 | [],_,_=>SzQ.zero.mono qO
 |a::l,C,h=>by
  obtain⟨k,D,h1,h2,h3⟩:=h;exact(h1.add (SzR.sum h2)).mono qO
def QP(w:World)(g:Nat)(qs:LQ):Prop:=
 ∃cur:Array Value,Blk w g 35 cur/\∀(i:Nat) (q:Rat),qs[i]?=some q->∃(neg:Bool) (A:OA) (n c:Nat) (A':OA) (n' c':Nat),
  (cur[i*3]?=some (.bool neg)/\cur[i*3+1]?=some (.s A n c)/\cur[i*3+2]?=some (.s A' n' c'))/\aC w neg A n c A' n' c' q
theorem QP.K{w w'}{g:Nat}{qs:LQ}(h:QP w g qs)(hx:Ext w w'):QP w' g qs:=by
 obtain⟨qa,h1,h2⟩:=h;refine⟨qa,h1.K hx,fun i q hq=>?_⟩;obtain⟨neg,A,n,c,A',n',c',h3,h4⟩:=h2 i q hq;exact⟨neg,A,n,c,A',n',c',h3,h4.K hx⟩
theorem QP.lt{w}{g:Nat}{qs:LQ}(h:QP w g qs):g<w.heap.size:=by
 obtain⟨qa,h1,_⟩:=h;exact h1.lt
theorem QP.at_{w}{g:Nat}{qs:LQ}(h:QP w g qs){i:Nat}{q:Rat}(hl:qs[i]?=some q):
  ∃(neg:Bool) (A:OA) (n c:Nat) (A':OA) (n' c':Nat),
   (w.cell? (aD g (i*3))=some (.bool neg)/\w.cell? (aD g (i*3+1))=some (.s A n c)/\w.cell? (aD g (i*3+2))=some (.s A' n' c'))/\
   (w.frozen? (aD g (i*3))=false/\w.frozen? (aD g (i*3+1))=false/\w.frozen? (aD g (i*3+2))=false)/\aC w neg A n c A' n' c' q:=by
 obtain⟨qa,h1,h2⟩:=h;obtain⟨neg,A,n,c,A',n',c',⟨e0,e1,e2⟩,h4⟩:=h2 i q hl;exact⟨neg,A,n,c,A',n',c',⟨by rw[h1.cell];exact e0,by rw[h1.cell];exact e1,by rw[h1.cell];exact e2⟩,⟨h1.frozen _,h1.frozen _,h1.frozen _⟩,h4⟩
theorem QP.take{w}{g:Nat}{qs:LQ}(h:QP w g qs)(m:Nat):QP w g (qs.take m):=by
 obtain⟨qa,h1,h2⟩:=h;refine⟨qa,h1,fun i q hq=>h2 i q ?_⟩;rw[xG]at hq;split at hq;{exact hq};cases hq
theorem mZ{cur:Array Value}{m j:Nat}{u0 u1 u2:Value}(hm:m*3+2<cur.size):(((cur.setIfInBounds (m*3) u0).setIfInBounds (m*3+1) u1).setIfInBounds (m*3+2) u2)[j]?=if j=m*3 then some u0 else if j=m*3+1 then some u1 else if j=m*3+2 then some u2 else cur[j]?:=by
 rw[Array.getElem?_setIfInBounds,Array.getElem?_setIfInBounds,Array.getElem?_setIfInBounds];simp only[Array.size_setIfInBounds]
 repeat' split
 all_goals first|rfl|omega
theorem QP.put{w}{g m:Nat}{qs:LQ}{q:Rat}{neg:Bool}{A}{n c:Nat}{A'}{n' c':Nat}(h:QP w g qs)(hm:m<qs.length)(hl:aC w neg A n c A' n' c' q):
  QP (((w.setCell (aD g (m*3)) (.bool neg)).setCell (aD g (m*3+1)) (.s A n c)).setCell (aD g (m*3+2)) (.s A' n' c')) g (qs.set m q):=by
 obtain⟨qf,h1,h2⟩:=h;have g2:=((aM w g (m*3) (.bool neg)).trans (aM _ g (m*3+1) (.s A n c))).trans (aM _ g (m*3+2) (.s A' n' c'));have b:=((h1.sT (m*3) (.bool neg)).sT (m*3+1) (.s A n c)).sT (m*3+2) (.s A' n' c');have qa:m*3+2<qf.size:=(by obtain⟨_,_,_,_,_,_,_,⟨_,_,e2⟩,_⟩:=h2 m _ (yG hm);exact(kZn.1 e2).1);refine⟨_,b,fun i p hi=>?_⟩;by_cases e:m=i;{subst e;(rw[yM hm]at hi;injection hi with hi);subst hi;refine⟨neg,A,n,c,A',n',c',⟨?_,?_,?_⟩,hl.other g2 h1 qD⟩;{rw[mZ qa,qE rfl]};{rw[mZ qa,qF qO,qE rfl]};rw[mZ qa,qF qO,qF qO,qE rfl]};rw[vN e]at hi;obtain⟨qe,B,k,d,B',k',d',⟨e0,e1,e2⟩,h4⟩:=h2 i p hi;refine⟨qe,B,k,d,B',k',d',⟨?_,?_,?_⟩,h4.other g2 h1 qD⟩;{rw[mZ qa,qF qO,qF qO,qF qO];exact e0};{rw[mZ qa,qF qO,qF qO,qF qO];exact e1};rw[mZ qa,qF qO,qF qO,qF qO];exact e2
theorem QP.of_own{w:World}{B n g cap:Nat}{v:Value}{css:List (List Value)}{qs:LQ}(hw:w.ownsRow B 35 3 v n css.flatten)(h0:0<n)(hl:css.length=n)(h3:∀cs∈css,cs.length=3)(hq:∀(i:Nat) (q:Rat),qs[i]?=some q->∃cs,css[i]?=some cs/\QR w cs q)(hv:v=.s (sA g) n cap):B<=g/\n<=cap/\QP w g qs:=by
 rcases hw.2 with⟨_,e2⟩|⟨g',cap',cur,k1,k2,k3,k4,k5,k6,k7⟩
 ·omega
 rw[hv]at k1;injection k1 with e1 e2 e3
 injection e1 with e1
 injection e1 with e1
 subst e1 e3;refine⟨k2,k4,cur,k3,fun i q hi=>?_⟩;obtain⟨cs,c1,neg,A,m,c,A',m',c',rfl,hR⟩:=hq i q hi;have qe:i<n:=(by rw[<-hl];exact(yH.1 c1).1);have qa:∀k,k<3->cur[i*3+k]?=([.bool neg,.s A m c,.s A' m' c']:List Value)[k]?:=fun k hk=>by
  rw[<-kQw];have h5:(cur.toList.take (n*3))[i*3+k]?=cur.toList[i*3+k]?:=(by rw[xG,qE qO]);rw[<-h5,k7,dW css h3 i k qO hk,c1];rfl
 exact⟨neg,A,m,c,A',m',c',⟨qa 0 qO,qa 1 qO,qa 2 qO⟩,hR⟩
theorem jzkh P(n c:Nat)(qs:LQ)(hn:qs.length=n)(h0:0<n)(hn2:n<=1000000)w(hq:QL w P qs):
  Calls prog 182 #[.s P n c] w fun e w'=>∃g cap:Nat,e=.returned (.s (sA g) n cap)/\w.heap.size<=g/\n<=cap/\QP w' g qs/\Ext w w':=by
 obtain⟨ti,hi,qi,qk,qm⟩:=info_parts Tryz.info44;obtain⟨css,q1,q2,q3,q4⟩:=hq;have qg:=fY css q2;obtain⟨b,o,rfl,hb,qf⟩:=q3.at_ (i:=0) (by rw[qg];omega);have HC:=Hx qf;have H1:=Hx q1;have H2:=Hx q2;have H4:=Hx q4;have HN:=Hx hn;have HF:=Hx qg;have qp:Hid (∀u∈css.flatten,u.oneCell'=true):=Hx (fun u hu=>by obtain⟨cs,c1,c2⟩:=List.mem_flatten.1 hu;obtain⟨i,qh⟩:=List.mem_iff_getElem?.1 c1;have qo:=(yH.1 qh).1;obtain⟨qt,c3,neg,A,m,c,A',m',c',rfl,_⟩:=q4 i _ (yG (by rw[<-q1];exact qo));rw[qh]at c3;injection c3 with c3;subst c3;simp only[xZ,List.not_mem_nil,or_false]at c2;rcases c2 with rfl|rfl|rfl <;> rfl);clear q1 q2 q3 q4 qf hn qg;have qw:∀(w:World) (a:OA) (n c n' c':Nat),(binOp .eql 37 (.s a n c) (.s none n' c')).run prog w=.ok (.bool a.isNone) w:=fun w a n c n' c'=>Lib.run_eql_slice_nil w _ _ a n c n' c' underlying37;go_enter func182,ntmps182;(go_wp2_with (at_builtin;go_must (refine wpList_append_own_at _ rfl (.tmp 5) (.tmp 6) 37 rfl w.heap.size 35 ti (.agg rV) 3 56 underlying37 hi qi qk qm rfl qD (.s (sA w.heap.size) 0 0) 0 [] rfl ?c0 (aD b o) n c css.flatten rfl ?c1 ?c2 qp.o ?c3 ?c4 ?c5 ?_)));(case c0=>exact World.ownsRow_made w #[] 0 (yX _) (yZ _) qS);(case c1=>rw[HF.o,H1.o,HN.o]);(case c2=>intro j u hj;have qj:=(yH.1 hj).1;have:=HC.o j qj;rw[hj]at this;rw[mT];exact(((eR w).alloc (.cells #[] 35)).cell (p:=(aD b (o+j))) hb).trans this);(case c3=>unfold maxLen;omega);(case c4=>omega);(case c5=>simp);intro v3 w3 qa qe _ _;have e3:Ext w w3:=Below.grown ((eR w).alloc (.cells #[] 35)) qe qS (fun k hk=>by simp[Value.ownBlock]at hk;omega);have qn:∃g cap,v3=.s (sA g) n cap:=(by (rcases qa.2 with⟨_,e2⟩|⟨g,cap,_,e1,_⟩);{omega};exact⟨g,cap,by simpa using e1⟩);obtain⟨g,cap,rfl⟩:=qn;have qa:w3.ownsRow w.heap.size 35 3 (.s (sA g) n cap) n css.flatten:=(by simpa using qa);have F:=Hx (QP.of_own (qs:=qs) qa h0 (by rw[H1.o,HN.o]) H2.o (fun i q hq=>by obtain⟨cs,c1,c2⟩:=H4.o i q hq;exact⟨cs,c1,c2.K e3⟩) rfl);have E3:=Hx e3;clear qa qe e3;go_wp2;go_ret;exact⟨g,cap,rfl,F.o.1,F.o.2.1,F.o.2.2,E3.o⟩
structure SuS(w wr:World)(g n cap:Nat)(K:LQ)(S:Rat)(C:Nat):Prop where
 len:K.length=n
 pos:0<n
 cap:n<=cap
 sum:aZ K=S
 sz:SzR K C
 row:QP wr g K
 ext:Ext w wr
theorem jzki{K:LQ}(h:K.length=1):K[0]?=some (aZ K):=by
 obtain⟨a,rfl⟩:=List.length_eq_one_iff.1 h;show some a=some (a+0);rw[Rat.add_zero]
theorem nA{K:LQ}{i:Nat}(h:i<K.length):K[i]?=some (K[i]?.getD 0):=by rw[yG h];rfl
theorem jzbu P(n c:Nat)(qs:LQ)(hn:qs.length=n)(h0:0<n)(hn2:n<=1000000)(C:Nat)(hC:C<=100000000)(hsz:SzR qs C)w(hq:QL w P qs):
  Calls prog 124 #[.s P n c] w (dY w (aZ qs)):=by
 obtain⟨b0,e0⟩:=bB w rV 35;have BB:=Hx b0;have HQ:=Hx (hq.K e0);have HN:=Hx hn;have HS:=Hx hsz;have E0:=Hx e0;have q0:((n:Int)==0)=false:=yK.2 qO;clear b0 e0 hq hn hsz
 go_enter func124,ntmps124
 go_wp2_with fail
 refine(jzkh P n c qs HN.o h0 hn2 _ HQ.o).mono ?_;rintro e w1 ⟨g,cap,rfl,hg,qm,qj,x1⟩;have S1:Hid (SuS w w1 g n cap qs (aZ qs) C):=Hx (⟨HN.o,h0,qm,rfl,HS.o,qj,E0.o.tr x1⟩);have B1:=Hx (BB.o.K x1);have qU:w.heap.size<g:=by
  have:w.heap.size<(w.alloc (.cells rV 35)).heap.size:=BB.o.lt;omega
 clear qj x1 BB HQ HN HS E0 hg;generalize aZ qs=S at*;go_wp2
 go_loopg [3,4,5] n (fun q pt _ _ wr=>∃(m:Nat) (K:LQ),m=q/\(1<=m/\m<=n)/\pt=.s (sA g) m cap/\Hid (SuS w wr g m cap K S C)/\Hid (Blk wr w.heap.size 35 rV))
 case atStart=>exact⟨n,qs,rfl,qO,rfl,S1,B1⟩
 obtain⟨m,K,rfl,hm,rfl,SU,BK⟩:=hrel;clear S1 B1;by_cases qJ:m=1
 ·subst qJ
  obtain⟨ng,A,l,d,A',l',d',⟨i0,i1,i2⟩,_,hR⟩:=SU.o.row.at_ (i:=0) (jzki SU.o.len);rw[SU.o.sum]at hR;have qt:=BK.o;obtain⟨⟨k0,k1,k2⟩,f0,f1,f2⟩:=qt.t3;have R:=Hx hR;have E:=Hx SU.o.ext;clear hR SU BK;go_wp2;exact bodyPost_ret (v:=.agg #[.bool ng,.s A l d,.s A' l' d']) (by simp[results,results124,go_sem,(((qt.sT 0 _).sT 1 _).sT 2 _).cell]) rfl (eI qt qD R.o E.o qO)
 have qY:(1:Int)<(m:Int):=qO;obtain⟨p,hp⟩:∃p:Nat,p=m/2:=⟨_,rfl⟩;have ep:(m:Int)/2=(p:Int):=qO;have qV:1<=p/\2*p<=m/\m<=2*p+1:=qO;have HK:=Hx SU.o.len;have qa:=Hx (kQa SU.o.sum (kQa SU.o.sz (kQa SU.o.cap SU.o.pos)));have T0:Hid (QP wr g (fE K 0)/\Ext w wr/\Blk wr w.heap.size 35 rV):=Hx (⟨SU.o.row,SU.o.ext,BK.o⟩);clear hp SU BK;go_wp2
 go_loopg [5,19] p (fun q _ it wx=>∃i:Nat,p-i=q/\i<=p/\it=vI i/\Hid (QP wx g (fE K i)/\Ext w wx/\Blk wx w.heap.size 35 rV))
 case atStart=>exact⟨0,rfl,yZ _,rfl,T0⟩
 obtain⟨i,rfl,hi,rfl,T⟩:=hrel;clear T0;by_cases qT:i<p
 ·have qH:(i:Int)<(p:Int):=by omega
  obtain⟨u,hu⟩:∃u:Nat,u=2*i:=⟨_,rfl⟩;have eu:2*(i:Int)=(u:Int):=qO;have ha:=mY K i u (by rw[HK.o];omega);have hb:=mY K i (u+1) (by rw[HK.o];omega);rw[qF qO]at ha hb;obtain⟨n1,X1,m1,d1,qi,qk,qh,⟨y0,y1,y2⟩,_,r1⟩:=T.o.1.at_ ha;obtain⟨n2,X2,m2,d2,qx,qz,qw,⟨z0,z1,z2⟩,_,r2⟩:=T.o.1.at_ hb;have s1:=qa.o.2.1.mem _ (yJ (nA (K:=K) (i:=u) (by rw[HK.o];omega)));have s2:=qa.o.2.1.mem _ (yJ (nA (K:=K) (i:=u+1) (by rw[HK.o];omega)));obtain⟨l1,qW⟩:=r1.lens s1;obtain⟨l2,qZ⟩:=r2.lens s2;have XD:Hid (Ext wr wr.drew):=Hx ((eR wr).drewN 1);have R:=Hx (kQa (r1.K XD.o) (r2.K XD.o));have y0:wr.drew.cell? (aD g (u*3))=some (.bool n1):=y0;have y1:wr.drew.cell? (aD g (u*3+1))=some (.s X1 m1 d1):=y1;have y2:wr.drew.cell? (aD g (u*3+2))=some (.s qi qk qh):=y2;have z0:wr.drew.cell? (aD g ((u+1)*3))=some (.bool n2):=z0;have z1:wr.drew.cell? (aD g ((u+1)*3+1))=some (.s X2 m2 d2):=z1;have z2:wr.drew.cell? (aD g ((u+1)*3+2))=some (.s qx qz qw):=z2;have TD:Hid (QP wr.drew g (fE K i)/\Ext w wr.drew/\Blk wr.drew w.heap.size 35 rV):=Hx (⟨T.o.1.K XD.o,T.o.2.1.tr XD.o,T.o.2.2.K XD.o⟩);have q1:(u:Int)<(m:Int):=qO;have q2:(u:Int)+1<(m:Int):=qO;have q3:(i:Int)<(m:Int):=qO;have qg:i<(fE K i).length:=(by rw[lW,HK.o];omega);have qA:=Hx qg;have qf:=Hx (show w.heap.size<=g by omega);clear ha hb r1 r2 s1 s2 T XD qg;generalize hva:K[u]?.getD 0=va at*;generalize hvb:K[u+1]?.getD 0=vb at*;have HV:=Hx (show K[2*i]?.getD 0=va/\K[2*i+1]?.getD 0=vb by rw[<-hu];exact⟨hva,hvb⟩);clear hva hvb hu;have qX:IntKind.i64.wrap (u:Int)=(u:Int):=IntWalk.i64_in _ qO;have qQ:IntKind.i64.wrap ((u:Int)+1)=(u:Int)+1:=IntWalk.i64_in _ qO;go_wp2
  go_region_with ((
   go_at_call 58
   refine(gT n1 n2 X1 m1 d1 qi qk qh X2 m2 d2 qx qz qw va vb _ R.o.1 R.o.2 qO qO qO qO (fW (kQx (kQ7 _) (kQ7 _)))).mono ?_;rintro e w6 ⟨n6,A6,l6,c6,qo,qn,qp,rfl,h6,x6⟩;obtain⟨_,_,_,_,_,_,_,⟨t0,t1,t2⟩,⟨f0,f1,f2⟩,_⟩:=(TD.o.1.K x6).at_ (i:=i) (yG qA.o);have qy:=TD.o.2.2.K x6;have qe:w.heap.size≠g:=qO;have NX:=Hx (show QP (((w6.setCell (aD g (i*3)) (.bool n6)).setCell (aD g (i*3+1)) (.s A6 l6 c6)).setCell (aD g (i*3+2)) (.s qo qn qp)) g (fE K (i+1))/\Ext w (((w6.setCell (aD g (i*3)) (.bool n6)).setCell (aD g (i*3+1)) (.s A6 l6 c6)).setCell (aD g (i*3+2)) (.s qo qn qp))/\Blk (((w6.setCell (aD g (i*3)) (.bool n6)).setCell (aD g (i*3+1)) (.s A6 l6 c6)).setCell (aD g (i*3+2)) (.s qo qn qp)) w.heap.size 35 rV from⟨by
    have:=(TD.o.1.K x6).put qA.o h6;rw[show fE K (i+1)=(fE K i).set i (K[2*i]?.getD 0+K[2*i+1]?.getD 0)from rfl,HV.o.1,HV.o.2];exact this,(((TD.o.2.1.tr x6).sT (p:=(aD g (i*3))) qf.o _).sT (p:=(aD g (i*3+1))) qf.o _).sT (p:=(aD g (i*3+2))) qf.o _,((qy.far (p:=(aD g (i*3))) qe _).far (p:=(aD g (i*3+1))) qe _).far (p:=(aD g (i*3+2))) qe _⟩)
   clear h6 x6 qy qe))
  all_goals
   go_wp2
   go_roundg (p-(i+1))
   case measure=>omega
   exact⟨i+1,rfl,qO,by go_num,NX⟩
 obtain rfl:i=p:=qO;have qH:¬(i:Int)<(i:Int):=qO;by_cases qI:m=2*i
 ·have qC:((m:Int)%2==1)=false:=by simp;omega
  have F:Hid (SuS w wr g i cap (fZ K) S C):=Hx (⟨by rw[oQ,HK.o];omega,qO,by have:=qa.o.2.2.1;omega,by rw[uH];exact qa.o.1,qa.o.2.1.halve_,by rw[<-jzkf (show K.length=2*i by rw[HK.o];exact qI)];exact T.o.1.take i,T.o.2.1⟩);have FB:=Hx T.o.2.2;have qB:(i:Int)<=(cap:Int):=(by have:=qa.o.2.2.1;omega);clear T;go_wp2
  go_roundg i
  case measure=>omega
  exact⟨i,_,rfl,qO,by go_num,F,FB⟩
 have qC:((m:Int)%2==1)=true:=(by simp;omega);obtain⟨u,hu⟩:∃u:Nat,u=2*i:=⟨_,rfl⟩;have ha:=mY K i u (by rw[HK.o];omega);rw[qF qO]at ha;obtain⟨n1,X1,m1,d1,qi,qk,qh,⟨y0,y1,y2⟩,_,r1⟩:=T.o.1.at_ ha;have qg:i<(fE K i).length:=(by rw[lW,HK.o];omega);obtain⟨_,_,_,_,_,_,_,⟨t0,t1,t2⟩,⟨f0,f1,f2⟩,qM⟩:=T.o.1.at_ (i:=i) (yG qg);clear qM;have qf:w.heap.size<=g:=qO;have qe:w.heap.size≠g:=qO;have F:Hid (SuS w (((wr.setCell (aD g (i*3)) (.bool n1)).setCell (aD g (i*3+1)) (.s X1 m1 d1)).setCell (aD g (i*3+2)) (.s qi qk qh)) g (i+1) cap (fZ K) S C):=Hx (⟨by rw[oQ,HK.o];omega,qO,by have:=qa.o.2.2.1;omega,by rw[uH];exact qa.o.1,qa.o.2.1.halve_,by rw[<-jzkg (show K.length=2*i+1 by rw[HK.o];omega)];exact(by rw[hu]at r1;exact(T.o.1.put qg r1).take (i+1)),((T.o.2.1.sT (p:=(aD g (i*3))) qf _).sT (p:=(aD g (i*3+1))) qf _).sT (p:=(aD g (i*3+2))) qf _⟩);have FB:=Hx (((T.o.2.2.far (p:=(aD g (i*3))) qe (.bool n1)).far (p:=(aD g (i*3+1))) qe (.s X1 m1 d1)).far (p:=(aD g (i*3+2))) qe (.s qi qk qh));have e1:(m:Int)-1=(u:Int):=qO;have q1:(u:Int)<(m:Int):=qO;have q3:(i:Int)<(m:Int):=qO;have qB:(i:Int)+1<=(cap:Int):=(by have:=qa.o.2.2.1;omega);clear T r1 ha qg hu;go_wp2
 go_roundg (i+1)
 case measure=>omega
 exact⟨i+1,_,rfl,qO,by go_num,F,FB⟩
end Go.Proofs.YtojpooidhilnfaaGreatDoor
namespace Go.Proofs.YtojpooidhilnfaaGreatDoor
open Go.Proofs.Tryz
def atL(l:LN)(i:Nat):Nat:=l[i]?.getD 0
def eL(l:LN)(i j:Nat):LN:=(l.set i (atL l j)).set j (atL l i)
theorem jzkj(l:LN)(i j:Nat):(eL l i j).length=l.length:=by unfold eL;simp
theorem lX{l:LN}{i:Nat}(h:i<l.length):l[i]?=some (atL l i):=by
 unfold atL;rw[yG h];rfl
theorem uJ(l:LN)(i k v:Nat)(hi:i<l.length):atL (l.set i v) k=if k=i then v else atL l k:=by
 unfold atL;by_cases e:k=i;{subst e;rw[yM hi,qE rfl];rfl};rw[vN (fun h=>e h.symm),qF e]
theorem nB{l:LN}{i j:Nat}(hi:i<l.length)(hj:j<l.length)(k:Nat):atL (eL l i j) k=if k=j then atL l i else if k=i then atL l j else atL l k:=by
 unfold eL;rw[uJ _ _ _ _ (by rw[yV];exact hj),uJ _ _ _ _ hi]
theorem jzkk{l:LN}{i j:Nat}(hi:i<l.length)(hj:j<l.length):(eL l i j).Perm l:=by
 have h:=Array.swap_perm (xs:=l.toArray) (i:=i) (j:=j) (by simpa using hi) (by simpa using hj);have e:(l.toArray.swap i j (by simpa using hi) (by simpa using hj)).toList=eL l i j:=(by unfold eL atL;rw[Array.swap_def];simp[hi,hj]);have h2:=Array.perm_iff_toList_perm.1 h;rw[e]at h2;exact h2
structure aW(a b:Nat)(l l':LN):Prop where
 len:l'.length=l.length
 perm:l'.Perm l
 o:∀i,i<a\/b<=i->atL l' i=atL l i
 sub:∀P:Nat->Prop,(∀i,a<=i->i<b->P (atL l i))->∀i,a<=i->i<b->P (atL l' i)
theorem aW.refl(a b:Nat)(l:LN):aW a b l l:=⟨rfl,.refl _,fun _ _=>rfl,fun _ h=>h⟩
theorem aW.trans{a b:Nat}{l l' l'':LN}(h:aW a b l l')(h2:aW a b l' l''):aW a b l l'':=
 ⟨h2.len.trans h.len,h2.perm.trans h.perm,fun i hi=>(h2.o i hi).trans (h.o i hi),fun P hp=>h2.sub P (h.sub P hp)⟩
theorem aW.mono{a b a' b':Nat}{l l':LN}(h:aW a b l l')(ha:a'<=a)(hb:b<=b'):aW a' b' l l':=
 ⟨h.len,h.perm,fun i hi=>h.o i qO,fun P hp i h1 h2=>by
  by_cases h3:a<=i/\i<b
  ·exact h.sub P (fun k k1 k2=>hp k qO qO) i h3.1 h3.2
  ·rw[h.o i qO];exact hp i h1 h2⟩
theorem aW.swap{a b i j:Nat}{l:LN}(hi:a<=i/\i<b)(hj:a<=j/\j<b)(hb:b<=l.length):aW a b l (eL l i j):=
 ⟨jzkj _ _ _,jzkk qO qO,fun k hk=>by
  rw[nB qO qO,qF qO,qF qO],fun P hp k h1 h2=>by
  rw[nB qO qO]
  split
  ·exact hp _ hi.1 hi.2
  ·split
   ·exact hp _ hj.1 hj.2
   ·exact hp _ h1 h2⟩
structure Ord(bf:Nat->Nat->Bool):Prop where
 irr:∀x,bf x x=false
 tr:∀x y z,bf x y=true->bf y z=true->bf x z=true
 eqv:∀x y z,bf x y=false->bf y z=false->bf x z=false
def ltB(bf:Nat->Nat->Bool)(x y:Nat):Prop:=bf x y=true\/(bf y x=false/\x<y)
theorem lC{bf:Nat->Nat->Bool}(o:Ord bf){x y z:Nat}(h:ltB bf x y)(h2:ltB bf y z):ltB bf x z:=by
 (unfold ltB at*;rcases h with h|⟨h,h'⟩ <;> rcases h2 with h2|⟨h2,h2'⟩);{exact .inl (o.tr _ _ _ h h2)};{left;cases e:bf x z;{have:=o.eqv _ _ _ e h2;rw[this]at h;cases h};rfl};{left;cases e:bf x z;{have:=o.eqv _ _ _ h e;rw[this]at h2;cases h2};rfl};right;exact⟨o.eqv _ _ _ h2 h,qO⟩
theorem uL{bf:Nat->Nat->Bool}(o:Ord bf)(x:Nat):¬ltB bf x x:=by
 unfold ltB;rw[o.irr];simp
theorem rM{bf:Nat->Nat->Bool}{x y:Nat}(h:y<x)(h2:bf x y=false):ltB bf y x:=by
 unfold ltB;cases e:bf y x;{exact .inr ⟨h2,h⟩};exact .inl rfl
def Srt(bf:Nat->Nat->Bool)(a b:Nat)(l:LN):Prop:=∀i j,a<=i->i<j->j<b->ltB bf (atL l i) (atL l j)
structure Ins(bf:Nat->Nat->Bool)(a i j:Nat)(l:LN):Prop where
 srt:∀p q,a<=p->p<q->q<=i->q≠j->ltB bf (atL l p) (atL l q)
 up:∀k,a<=k->k<=i->k≠j->atL l k<atL l j
theorem Ins.step{bf:Nat->Nat->Bool}{a i j:Nat}{l:LN}(h:Ins bf a i j l)(hj:a<j)(hji:j<=i)(hil:i<l.length)(hb:bf (atL l j) (atL l (j-1))=true):Ins bf a i (j-1) (eL l j (j-1)):=by
 have e:=nB (l:=l) (i:=j) (j:=j-1) qO qO;constructor;{intro p q h1 h2 h3 h4;rw[e p,e q];by_cases q1:q=j;{subst q1;rw[qF (show¬q=q-1 by omega),qE rfl];by_cases p1:p=q-1;{subst p1;rw[qE rfl];exact .inl hb};rw[qF p1,qF (show¬p=q by omega)];exact h.srt p (q-1) h1 qO qO qO};rw[qF h4,qF q1];by_cases p1:p=j-1;{rw[qE p1];exact h.srt j q qO qO h3 q1};rw[qF p1];by_cases p2:p=j;{rw[qE p2];exact h.srt (j-1) q qO qO h3 q1};rw[qF p2];exact h.srt p q h1 h2 h3 q1};intro k h1 h2 h3;rw[e k,e (j-1),qF h3,qE rfl];split;{exact h.up (j-1) qO qO qO};rename_i h4;exact h.up k h1 h2 h4
theorem Ins.stop{bf:Nat->Nat->Bool}(o:Ord bf){a i j:Nat}{l:LN}(h:Ins bf a i j l)(hj:a<=j)(hji:j<=i)(hb:j=a\/bf (atL l j) (atL l (j-1))=false):Srt bf a (i+1) l:=by
 intro p q h1 h2 h3;by_cases q1:q=j;{subst q1;(rcases hb with hb|hb);{omega};have h4:=rM (h.up (q-1) qO qO qO) hb;by_cases p1:p=q-1;{rw[p1];exact h4};exact lC o (h.srt p (q-1) h1 qO qO qO) h4};exact h.srt p q h1 h2 qO q1
def gN(l:LN)(a b n k:Nat):Nat:=if a<=k/\k<a+n then atL l (k-a+b)else if b<=k/\k<b+n then atL l (k-b+a)else atL l k
theorem jzkl{l l':LN}{a b i:Nat}(h:∀k,atL l' k=gN l a b i k)(hd:a+i<b)(hb:b+i<l'.length)(k:Nat):atL (eL l' (a+i) (b+i)) k=gN l a b (i+1) k:=by
 rw[nB qO qO,h,h,h];unfold gN;by_cases k1:k=b+i;{subst k1;rw[qE rfl];rw[qF qO,qF qO,qF qO,qE qO,show b+i-b+a=a+i by omega]};rw[qF k1];by_cases k2:k=a+i;{subst k2;rw[qE rfl,qF qO,qF qO,qE qO,show a+i-a+b=b+i by omega]};rw[qF k2];by_cases k3:a<=k/\k<a+i;{rw[qE k3,qE qO]};rw[qF k3,qF (show¬(a<=k/\k<a+(i+1)) by omega)];by_cases k4:b<=k/\k<b+i;{rw[qE k4,qE qO]};rw[qF k4,qF qO]
def dQ(l:LN)(a m b k:Nat):Nat:=if k<a\/b<=k then atL l k else if k<a+(b-m)then atL l (k+(m-a))else atL l (k-(b-m))
theorem jzkm{l l':LN}{m i j:Nat}(hj:0<j)(hi:j<i)(him:i<=m)(h:∀k,atL l' k=gN l (m-i) m j k)(k:Nat):dQ l' (m-(i-j)) m (m+j) k=dQ l (m-i) m (m+j) k:=by
 unfold dQ;rw[h,h,h];unfold gN
 repeat' split
 all_goals first|omega|(congr 1;done)|(congr 1;omega)
theorem jzkn{l l':LN}{m i j:Nat}(hi:0<i)(hj:i<j)(him:i<=m)(h:∀k,atL l' k=gN l (m-i) (m+j-i) i k)(k:Nat):dQ l' (m-i) m (m+(j-i)) k=dQ l (m-i) m (m+j) k:=by
 unfold dQ;rw[h,h,h];unfold gN
 repeat' split
 all_goals first|omega|(congr 1;done)|(congr 1;omega)
theorem jzko{l l':LN}{m i:Nat}(hi:0<i)(him:i<=m)(h:∀k,atL l' k=gN l (m-i) m i k)(k:Nat):atL l' k=dQ l (m-i) m (m+i) k:=by
 unfold dQ;rw[h];unfold gN
 repeat' split
 all_goals first|omega|(congr 1;done)|(congr 1;omega)
def lD(l:LN)(a e k:Nat):Nat:=if a<=k/\k<e then atL l (k+1)else if k=e then atL l a else atL l k
theorem jzkp{l l':LN}{a e:Nat}(h:∀k,atL l' k=lD l a e k)(ha:a<=e)(hl:e+1<l'.length)(k:Nat):atL (eL l' e (e+1)) k=lD l a (e+1) k:=by
 rw[nB qO qO,h,h,h];unfold lD
 repeat' split
 all_goals first|omega|rfl|(congr 1;done)|(congr 1;omega)
theorem jzkq(l:LN)(a k:Nat):atL l k=lD l a a k:=by
 unfold lD
 repeat' split
 all_goals first|omega|rfl|(congr 1;done)|(congr 1;omega)
def lE(l:LN)(m e k:Nat):Nat:=if e<k/\k<=m then atL l (k-1)else if k=e then atL l m else atL l k
theorem jzkr{l l':LN}{m e:Nat}(h:∀k,atL l' k=lE l m e k)(h0:0<e)(he:e<=m)(hl:m<l'.length)(k:Nat):atL (eL l' e (e-1)) k=lE l m (e-1) k:=by
 rw[nB qO qO,h,h,h];unfold lE
 repeat' split
 all_goals first|omega|rfl|(congr 1;done)|(congr 1;omega)
theorem jzks(l:LN)(m k:Nat):atL l k=lE l m m k:=by
 unfold lE
 repeat' split
 all_goals first|omega|rfl|(congr 1;done)|(congr 1;omega)
structure Mrg(bf:Nat->Nat->Bool)(a m b:Nat)(l:LN):Prop where
 lo:Srt bf a m l
 hi:Srt bf m b l
 cr:∀i j,a<=i->i<m->m<=j->j<b->atL l i<atL l j
theorem jzkt{bf:Nat->Nat->Bool}(o:Ord bf){a m b i:Nat}{l l':LN}(h:Mrg bf a m b l)(hm:m=a+1)(him:m<=i)(hib:i<=b)(h1:∀k,m<=k->k<i->bf (atL l k) (atL l a)=true)(h2:∀k,i<=k->k<b->bf (atL l k) (atL l a)=false)(hu:∀k,atL l' k=lD l a (i-1) k):Srt bf a b l':=by
 intro p q k1 k2 k3;rw[hu,hu];unfold lD;by_cases p1:a<=p/\p<i-1;{rw[qE p1];by_cases q1:a<=q/\q<i-1;{rw[qE q1];exact h.hi _ _ qO qO qO};rw[qF q1];by_cases q2:q=i-1;{rw[qE q2];exact .inl (h1 _ qO qO)};rw[qF q2];exact h.hi _ _ qO qO qO};rw[qF p1,qF (show¬(a<=q/\q<i-1) by omega),qF (show¬q=i-1 by omega)];by_cases p2:p=i-1;{rw[qE p2];exact rM (h.cr a q qO qO qO qO) (h2 q qO k3)};rw[qF p2];exact h.hi _ _ qO qO qO
theorem jzku{bf:Nat->Nat->Bool}(o:Ord bf){a m b i:Nat}{l l':LN}(h:Mrg bf a m b l)(hm:b=m+1)(hai:a<=i)(him:i<=m)(h1:∀k,a<=k->k<i->bf (atL l m) (atL l k)=false)(h2:∀k,i<=k->k<m->bf (atL l m) (atL l k)=true)(hu:∀k,atL l' k=lE l m i k):Srt bf a b l':=by
 intro p q k1 k2 k3;rw[hu,hu];unfold lE;by_cases q1:i<q/\q<=m;{rw[qE q1];by_cases p1:i<p/\p<=m;{rw[qE p1];exact h.lo _ _ qO qO qO};rw[qF p1];by_cases p2:p=i;{rw[qE p2];exact .inl (h2 _ qO qO)};rw[qF p2];exact h.lo _ _ qO qO qO};rw[qF q1,qF (show¬(i<p/\p<=m) by omega),qF (show¬p=i by omega)];by_cases q2:q=i;{rw[qE q2];exact rM (h.cr p m qO qO qO qO) (h1 p k1 qO)};rw[qF q2];exact h.lo _ _ qO qO qO
theorem jzkv{bf:Nat->Nat->Bool}(o:Ord bf){a m b mid s e:Nat}{l l':LN}(h:Mrg bf a m b l)(ham:a<m)(hmb:m<b)(hmid:mid=(a+b)/2)(hs:a<=s/\s<=m/\s<=mid)(he:e=mid+m-s)(heb:e<=b)
  (hno:s=a\/e=b\/bf (atL l e) (atL l (s-1))=false) (hyes:s=m\/e=m\/bf (atL l (e-1)) (atL l s)=true) (hr:∀k,atL l' k=dQ l s m e k):
  Mrg bf a s mid l'/\Mrg bf mid e b l'/\∀i j,a<=i->i<mid->mid<=j->j<b->ltB bf (atL l' i) (atL l' j):=by
 have qa:m<=e:=qO;have r1:∀k,k<s\/e<=k->atL l' k=atL l k:=fun k hk=>(by rw[hr];unfold dQ;rw[qE hk]);have r2:∀k,s<=k->k<mid->atL l' k=atL l (k+(m-s)):=fun k h1 h2=>(by rw[hr];unfold dQ;rw[qF qO,qE qO]);have r3:∀k,mid<=k->k<e->atL l' k=atL l (k-(e-m)):=fun k h1 h2=>(by rw[hr];unfold dQ;rw[qF qO,qF qO]);have c1:∀i j,a<=i->i<s->e<=j->j<b->ltB bf (atL l i) (atL l j):=fun i j h1 h2 h3 h4=>(by (rcases hno with x|x|x);{omega};{omega};have y:=rM (h.cr (s-1) e qO qO qO qO) x;have y2:ltB bf (atL l i) (atL l e):=(by by_cases z:i=s-1;{rw[z];exact y};exact lC o (h.lo i (s-1) qO qO qO) y);by_cases z:j=e;{rw[z];exact y2};exact lC o y2 (h.hi e j qO qO qO));have c2:∀i j,m<=i->i<e->s<=j->j<m->ltB bf (atL l i) (atL l j):=fun i j h1 h2 h3 h4=>(by (rcases hyes with x|x|x);{omega};{omega};have y:ltB bf (atL l (e-1)) (atL l s):=.inl x;have y2:ltB bf (atL l i) (atL l s):=(by by_cases z:i=e-1;{rw[z];exact y};exact lC o (h.hi i (e-1) qO qO qO) y);by_cases z:j=s;{rw[z];exact y2};exact lC o y2 (h.lo s j qO qO qO));refine⟨⟨?_,?_,?_⟩,⟨?_,?_,?_⟩,?_⟩;{intro i j h1 h2 h3;rw[r1 i qO,r1 j qO];exact h.lo i j h1 h2 qO};{intro i j h1 h2 h3;rw[r2 i h1 qO,r2 j qO h3];exact h.hi _ _ qO qO qO};{intro i j h1 h2 h3 h4;rw[r1 i qO,r2 j h3 h4];exact h.cr _ _ h1 qO qO qO};{intro i j h1 h2 h3;rw[r3 i h1 qO,r3 j qO h3];exact h.lo _ _ qO qO qO};{intro i j h1 h2 h3;rw[r1 i qO,r1 j qO];exact h.hi i j qO h2 h3};{intro i j h1 h2 h3 h4;rw[r3 i h1 h2,r1 j qO];exact h.cr _ _ qO qO qO h4};intro i j h1 h2 h3 h4;by_cases i1:i<s;{rw[r1 i qO];by_cases j1:j<e;{rw[r3 j h3 j1];exact h.lo _ _ h1 qO qO};rw[r1 j qO];exact c1 i j h1 i1 qO h4};rw[r2 i qO h2];by_cases j1:j<e;{rw[r3 j h3 j1];exact c2 _ _ qO qO qO qO};rw[r1 j qO];exact h.hi _ _ qO qO h4
theorem jzkw{bf:Nat->Nat->Bool}{a mid b:Nat}{l l1 l2:LN}(hx:∀i j,a<=i->i<mid->mid<=j->j<b->ltB bf (atL l i) (atL l j))(m1:aW a mid l l1)(s1:Srt bf a mid l1)(m2:aW mid b l1 l2)(s2:Srt bf mid b l2):Srt bf a b l2:=by
 intro i j h1 h2 h3;by_cases i1:mid<=i;{exact s2 i j i1 h2 h3};by_cases j1:j<mid;{rw[m2.o i qO,m2.o j qO];exact s1 i j h1 h2 j1};rw[m2.o i qO];refine m2.sub (fun y=>ltB bf (atL l1 i) y) (fun k k1 k2=>?_) j qO h3;rw[m1.o k qO];exact m1.sub (fun x=>ltB bf x (atL l k)) (fun p p1 p2=>hx p k p1 p2 k1 k2) i h1 qO
def nC(bf:Nat->Nat->Bool)(n s:Nat)(l:LN):Prop:=∀a,a%s=0->a<n->Srt bf a (min (a+s) n) l/\∀i,a<=i->i<min (a+s) n->a<=atL l i/\atL l i<min (a+s) n
structure nD(bf:Nat->Nat->Bool)(n s c:Nat)(l:LN):Prop where
 dv:c%(2*s)=0
 lo:∀a,a%(2*s)=0->a<c->a<n->Srt bf a (min (a+2*s) n) l/\∀i,a<=i->i<min (a+2*s) n->a<=atL l i/\atL l i<min (a+2*s) n
 hi:∀a,a%s=0->c<=a->a<n->Srt bf a (min (a+s) n) l/\∀i,a<=i->i<min (a+s) n->a<=atL l i/\atL l i<min (a+s) n
theorem jzkx{bf:Nat->Nat->Bool}{n s:Nat}{l:LN}(h:nC bf n s l):nD bf n s 0 l:=
 ⟨qS,fun a _ h2=>qO,fun a h1 _ h3=>h a h1 h3⟩
theorem jzbv{bf:Nat->Nat->Bool}{n s c:Nat}{l:LN}(h:nD bf n s c l)(hs:0<s)(hc:c+s<n):Mrg bf c (c+s) (min (c+2*s) n) l:=by
 have d1:c%s=0:=(by have:=h.dv;have e:=Nat.mod_mul_left_mod c 2 s;rw[this]at e;simpa using e.symm);have d2:(c+s)%s=0:=(by rw[Nat.add_mod_right];exact d1);have h1:=h.hi c d1 (yX _) qO;have h2:=h.hi (c+s) d2 qO hc;rw[show min (c+s) n=c+s by omega]at h1;rw[show min (c+s+s) n=min (c+2*s) n by omega]at h2;exact⟨h1.1,h2.1,fun i j k1 k2 k3 k4=>by have:=h1.2 i k1 k2;have:=h2.2 j k3 k4;omega⟩
theorem jzbw{bf:Nat->Nat->Bool}{n s c:Nat}{l l':LN}(h:nD bf n s c l)(hs:0<s)(hc:c+s<n)(hm:aW c (min (c+2*s) n) l l')(hsr:Srt bf c (min (c+2*s) n) l'):nD bf n s (c+2*s) l':=by
 have d1:c%s=0:=(by have:=h.dv;have e:=Nat.mod_mul_left_mod c 2 s;rw[this]at e;simpa using e.symm);have d2:(c+s)%s=0:=(by rw[Nat.add_mod_right];exact d1);have h1:=h.hi c d1 (yX _) qO;have h2:=h.hi (c+s) d2 qO hc;rw[show min (c+s) n=c+s by omega]at h1;rw[show min (c+s+s) n=min (c+2*s) n by omega]at h2;refine⟨by rw[Nat.add_mod_right];exact h.dv,fun a k1 k2 k3=>?_,fun a k1 k2 k3=>?_⟩;{by_cases ac:a=c;{subst ac;refine⟨hsr,fun i i1 i2=>?_⟩;refine hm.sub (fun x=>a<=x/\x<min (a+2*s) n) (fun k q1 q2=>?_) i i1 i2;by_cases kk:k<a+s;{have:=h1.2 k q1 kk;omega};have:=h2.2 k qO q2;omega};have qf:a+2*s<=c:=(by obtain⟨x,hx⟩:=Nat.dvd_of_mod_eq_zero k1;obtain⟨y,hy⟩:=Nat.dvd_of_mod_eq_zero h.dv;subst hx;subst hy;have:x<y:=(by apply Nat.lt_of_not_le;intro qe;have:=kQh (2*s) qe;have qg:x≠y:=fun e=>ac (by rw[e]);have qa:y+1<=x:=qO;have:=kQh (2*s) qa;rw[kQc,Nat.mul_one]at this;omega);have:=kQh (2*s) (show x+1<=y from this);rw[kQc,Nat.mul_one]at this;exact this);obtain⟨g1,g2⟩:=h.lo a k1 qO k3;refine⟨fun i j i1 i2 i3=>?_,fun i i1 i2=>?_⟩;{rw[hm.o i qO,hm.o j qO];exact g1 i j i1 i2 i3};rw[hm.o i qO];exact g2 i i1 i2};obtain⟨g1,g2⟩:=h.hi a k1 qO k3;refine⟨fun i j i1 i2 i3=>?_,fun i i1 i2=>?_⟩;{rw[hm.o i qO,hm.o j qO];exact g1 i j i1 i2 i3};rw[hm.o i qO];exact g2 i i1 i2
theorem jzbx{bf:Nat->Nat->Bool}{n s c:Nat}{l:LN}(h:nD bf n s c l)(hs:0<s)(hc:n<=c+s):nC bf n (2*s) l:=by
 intro a k1 k2;by_cases ac:a<c;{exact h.lo a k1 ac k2};have d1:a%s=0:=(by have e:=Nat.mod_mul_left_mod a 2 s;rw[k1]at e;simpa using e.symm);have:=h.hi a d1 qO k2;rw[show min (a+2*s) n=min (a+s) n by omega];exact this
structure nE(bf:Nat->Nat->Bool)(n s c:Nat)(l:LN):Prop where
 dv:c%s=0
 lo:∀a,a%s=0->a<c->Srt bf a (a+s) l/\∀i,a<=i->i<a+s->a<=atL l i/\atL l i<a+s
 hi:∀i,c<=i->i<n->atL l i=i
theorem jzky{bf:Nat->Nat->Bool}{n s c:Nat}{l l':LN}(h:nE bf n s c l)(hs:0<s)(hc:c+s<=n)(hm:aW c (c+s) l l')(hsr:Srt bf c (c+s) l'):nE bf n s (c+s) l':=by
 refine⟨by rw[Nat.add_mod_right];exact h.dv,fun a k1 k2=>?_,fun i h1 h2=>?_⟩;{by_cases ac:a=c;{subst ac;refine⟨hsr,fun i i1 i2=>hm.sub (fun x=>a<=x/\x<a+s) (fun k q1 q2=>?_) i i1 i2⟩;rw[h.hi k q1 qO];omega};have qe:a+s<=c:=(by obtain⟨x,hx⟩:=Nat.dvd_of_mod_eq_zero k1;obtain⟨y,hy⟩:=Nat.dvd_of_mod_eq_zero h.dv;subst hx;subst hy;have:x<y:=(by apply Nat.lt_of_not_le;intro qg;have qf:x≠y:=fun e=>ac (by rw[e]);have qa:y+1<=x:=qO;have:=kQh s qa;rw[kQc,Nat.mul_one]at this;omega);have:=kQh s (show x+1<=y from this);rw[kQc,Nat.mul_one]at this;exact this);obtain⟨g1,g2⟩:=h.lo a k1 qO;refine⟨fun i j i1 i2 i3=>?_,fun i i1 i2=>?_⟩;{rw[hm.o i qO,hm.o j qO];exact g1 i j i1 i2 i3};rw[hm.o i qO];exact g2 i i1 i2};rw[hm.o i qO];exact h.hi i qO h2
theorem jzkz{bf:Nat->Nat->Bool}{n s c:Nat}{l l':LN}(h:nE bf n s c l)(hs:0<s)(hc:c<=n)(hn:n<c+s)(hm:aW c n l l')(hsr:Srt bf c n l'):nC bf n s l':=by
 intro a k1 k2;by_cases ac:a<c;{have qa:a+s<=c:=(by obtain⟨x,hx⟩:=Nat.dvd_of_mod_eq_zero k1;obtain⟨y,hy⟩:=Nat.dvd_of_mod_eq_zero h.dv;subst hx;subst hy;have:x<y:=Nat.lt_of_mul_lt_mul_left ac;have:=kQh s (show x+1<=y from this);rw[kQc,Nat.mul_one]at this;exact this);obtain⟨g1,g2⟩:=h.lo a k1 ac;rw[show min (a+s) n=a+s by omega];refine⟨fun i j i1 i2 i3=>?_,fun i i1 i2=>?_⟩;{rw[hm.o i qO,hm.o j qO];exact g1 i j i1 i2 i3};rw[hm.o i qO];exact g2 i i1 i2};have ac:a=c:=(by obtain⟨x,hx⟩:=Nat.dvd_of_mod_eq_zero k1;obtain⟨y,hy⟩:=Nat.dvd_of_mod_eq_zero h.dv;subst hx;subst hy;by_cases e:y<x;{have:=kQh s (show y+1<=x from e);rw[kQc,Nat.mul_one]at this;omega};have:x<=y:=qO;have:=kQh s this;omega);subst ac;rw[show min (a+s) n=n by omega];refine⟨hsr,fun i i1 i2=>hm.sub (fun x=>a<=x/\x<n) (fun k q1 q2=>?_) i i1 i2⟩;rw[h.hi k q1 q2];omega
theorem jzk0(bf:Nat->Nat->Bool)(n s:Nat):nE bf n s 0 (List.range n):=
 ⟨qS,fun a _ h=>qO,fun i _ h=>by unfold atL;rw[xJ h];rfl⟩
theorem jzk1{bf:Nat->Nat->Bool}{n s:Nat}{l:LN}(h:nC bf n s l)(hs:n<=s)(hn:0<n):Srt bf 0 n l:=by
 have:=(h 0 qS hn).1;rw[show min (0+s) n=n by omega]at this;exact this
theorem jzk2{bf:Nat->Nat->Bool}(o:Ord bf){n:Nat}{l:LN}[DecidableRel (ltB bf)](hl:l.length=n)(hp:l.Perm (List.range n))(hs:Srt bf 0 n l)(p:Nat)(hpn:p<n):(List.range n).countP (fun k=>decide (ltB bf k (atL l p)))=p:=by
 rw[<-hp.countP_eq];have h1:l=l.take p++l.drop p:=(kZz p l).symm;rw[h1,List.countP_append];rw[kZz];have e1:(l.take p).countP (fun k=>decide (ltB bf k (atL l p)))=(l.take p).length:=(by rw[List.countP_eq_length];intro x hx;obtain⟨i,hi⟩:=List.mem_iff_getElem?.1 hx;have qa:i<p:=(by have:=(yH.1 hi).1;simp at this;omega);(rw[List.getElem?_take_of_lt qa,lX qO]at hi;injection hi with hi);rw[<-hi];simpa using hs i p qO qa hpn);have e2:(l.drop p).countP (fun k=>decide (ltB bf k (atL l p)))=0:=(by rw[List.countP_eq_zero];intro x hx;obtain⟨i,hi⟩:=List.mem_iff_getElem?.1 hx;rw[List.getElem?_drop]at hi;have qa:p+i<n:=(by have:=(yH.1 hi).1;omega);(rw[lX qO]at hi;injection hi with hi);rw[<-hi];simp only[decide_eq_true_eq];intro h;by_cases e:i=0;{subst e;exact uL o _ h};exact uL o _ (lC o h (hs p (p+i) qO qO qa)));rw[e1,e2,xF];omega
open Go.RowKit
def aO(w:World)(g:Nat)(l:LN):Prop:=∃cs:Array Value,Blk w g 3 cs/\∀i,i<l.length->cs[i]?=some (vI ((atL l i:Nat):Int))
theorem aO.K{w w'}{g:Nat}{l:LN}(h:aO w g l)(hx:Ext w w'):aO w' g l:=by
 obtain⟨cs,h1,h2⟩:=h;exact⟨cs,h1.K hx,h2⟩
theorem aO.cell{w}{g:Nat}{l:LN}(h:aO w g l){i:Nat}(hi:i<l.length):w.cell? (aD g i)=some (vI ((atL l i:Nat):Int)):=by
 obtain⟨cs,h1,h2⟩:=h;rw[h1.cell];exact h2 i hi
theorem aO.lt{w}{g:Nat}{l:LN}(h:aO w g l):g<w.heap.size:=by
 obtain⟨cs,h1,_⟩:=h;exact h1.lt
theorem aO.frozen{w}{g:Nat}{l:LN}(h:aO w g l)(i:Nat):w.frozen? (aD g i)=false:=by
 obtain⟨cs,h1,_⟩:=h;exact h1.frozen i
theorem aO.put{w}{g:Nat}{l:LN}(h:aO w g l){i:Nat}(v:Nat)(hi:i<l.length):aO (w.setCell (aD g i) (vI ((v:Nat):Int))) g (l.set i v):=by
 obtain⟨cs,h1,h2⟩:=h;refine⟨_,h1.sT i _,fun k hk=>?_⟩;rw[yV]at hk;rw[uJ _ _ _ _ hi,Array.getElem?_setIfInBounds];have hs:=(kZn.1 (h2 i hi)).1;by_cases e:i=k;{subst e;rw[qE rfl,qE hs,qE rfl]};rw[qF e,qF (fun h=>e h.symm)];exact h2 k hk
theorem aO.swap{w}{g:Nat}{l:LN}(h:aO w g l){i j:Nat}(hi:i<l.length)(hj:j<l.length):aO ((w.setCell (aD g i) (vI ((atL l j:Nat):Int))).setCell (aD g j) (vI ((atL l i:Nat):Int))) g (eL l i j):=
 (h.put (atL l j) hi).put (atL l i) (by rw[yV];exact hj)
def cvQ(qs:LQ)(i k:Nat):Int:=aU (qs[k]?.getD 0) (qs[i]?.getD 0)
theorem jzk3 P(n c gl:Nat)(qs:LQ)(hn:qs.length=n)(i k:Nat)(hi:i<n)(hk:k<n)w(hb:Blk w gl 37 #[.s P n c])(hq:QL w P qs)(hsz:∀q∈qs,SzQ q 100000)(hn2:n<=1000000):
  Calls prog 184 #[vI i,vI k,.pointer (sA gl)] w fun e w'=>e=.returned (vI (cvQ qs i k))/\Ext w w':=by
 obtain⟨qi,qe⟩:∃q,qs[i]?=some q:=⟨_,yG qO⟩;obtain⟨qk,qa⟩:∃q,qs[k]?=some q:=⟨_,yG qO⟩;rw[show cvQ qs i k=aU qk qi by unfold cvQ;rw[qe,qa];rfl];obtain⟨b1,o1,n1,X1,m1,f1,qx,qo,qw,rfl,qm,y0,y1,y2,qj⟩:=hq.at_ qe;obtain⟨b2,o2,n2,X2,m2,f2,qp,qt,qy,qg,qh,z0,z1,z2,qf⟩:=hq.at_ qa;injection qg with qg;(injection qg with hA1 hA2);subst hA1 hA2;have l1:=qj.lens (hsz qi (yJ qe));have l2:=qf.lens (hsz qk (yJ qa));have R1:=Hx qj;have R2:=Hx qf;have hc:=hb.one.1;have p0:=XW.cell _ _ _ qm y0;have p1:=XW.cell _ _ _ qm y1;have p2:=XW.cell _ _ _ qm y2;have p3:=XW.cell _ _ _ qh z0;have p4:=XW.cell _ _ _ qh z1;have p5:=XW.cell _ _ _ qh z2;have p6:=XW.cell _ _ _ hb.lt hc;have i0:(i:Int)<(n:Int):=qO;have k0:(k:Int)<(n:Int):=qO;clear qe qa y0 y1 y2 z0 z1 z2 qj qf hq hsz hn hb hc;go_enter func184,ntmps184;go_wp2_with fail;refine cI qK qK ?_;(repeat (go_big_quiet_step ((go_at_call 30;exact Calls.ext_of (fM n2 n1 X2 m2 f2 qp qt qy X1 m1 f1 qx qo qw qk qi _ (R2.o.K (XW.ext _)) (R1.o.K (XW.ext _)) qO qO qO qO)))));refine wpQuiet_nil ?_;rintro _ ⟨x,rfl⟩;have qn:=x.ext;clear p0 p1 p2 p3 p4 p5 p6;generalize x.val=w9 at*;clear x;have E9:=Hx qn;clear qn;go_wp2;go_ret;exact⟨rfl,E9.o⟩
structure SwS(w0 wr:World)(g:Nat)(l l':LN)(a b n i:Nat):Prop where
 at_:∀k,atL l' k=gN l a b i k
 mv:aW a (b+n) l l'
 row:aO wr g l'
 ext:Ext w0 wr
theorem SwS.step{w0 wr}{g:Nat}{l l':LN}{a b n i:Nat}(h:SwS w0 wr g l l' a b n i)(hi:i<n)(hab:a+n<=b)(hb:b+n<=l.length)(hg:w0.heap.size<=g):
  SwS w0 ((wr.setCell (aD g (a+i)) (vI ((atL l' (b+i):Nat):Int))).setCell (aD g (b+i)) (vI ((atL l' (a+i):Nat):Int))) g l (eL l' (a+i) (b+i)) a b n (i+1):=by
 have hl:=h.mv.len;exact⟨jzkl h.at_ qO qO,h.mv.trans (aW.swap qO qO qO),h.row.swap qO qO,(h.ext.sT (p:=(aD g (a+i))) hg _).sT (p:=(aD g (b+i))) hg _⟩
theorem SwS.K{w0 wr w'}{g:Nat}{l l':LN}{a b n i:Nat}(h:SwS w0 wr g l l' a b n i)(hx:Ext wr w'):SwS w0 w' g l l' a b n i:=⟨h.at_,h.mv,h.row.K hx,h.ext.tr hx⟩
theorem jzk4(l:LN)(a b k:Nat):atL l k=gN l a b 0 k:=by
 unfold gN;rw[qF qO,qF qO]
theorem uM(g N C:Nat)(cl:Value)(l:LN)(hl:l.length=N)(a b n:Nat)(hab:a+n<=b)(hb:b+n<=N)(hN:N<=1000000)w0 w(hx:Ext w0 w)(hg:w0.heap.size<=g)(hr:aO w g l):
  Calls prog 253 #[.s (sA g) N C,vI a,vI b,vI n,cl] w fun e w'=>e=.returned (.tuple #[])/\∃l',SwS w0 w' g l l' a b n n:=by
 have S0:Hid (SwS w0 w g l l a b n 0):=Hx (⟨jzk4 l a b,aW.refl _ _ _,hr,hx⟩);have HL:=Hx hl;clear hr hx hl;go_enter func253,ntmps253;go_wp2;go_loopg [10] n (fun j it wr=>∃(i:Nat) (l':LN),n-i=j/\i<=n/\it=vI i/\Hid (SwS w0 wr g l l' a b n i));exact⟨0,l,rfl,yZ _,rfl,S0⟩;obtain⟨i,l',rfl,hi,rfl,S⟩:=hrel;clear S0;by_cases qe:i<n;{have qa:l'.length=N:=S.o.mv.len.trans HL.o;have c1:=S.o.row.cell (i:=a+i) qO;have c2:=S.o.row.cell (i:=b+i) qO;have f1:=S.o.row.frozen (a+i);have f2:=S.o.row.frozen (b+i);have NX:=Hx ((S.o.step qe hab (by rw[HL.o];exact hb) hg).K ((eR _).drewN 1));generalize atL l' (a+i)=x at*;generalize atL l' (b+i)=y at*;have a0:(a:Int)+(i:Int)<(N:Int):=qO;have b0:(b:Int)+(i:Int)<(N:Int):=qO;have iN:(i:Int)<(n:Int):=qO;clear qa;go_wp2;go_region;go_wp2;go_roundg (n-(i+1));exact⟨i+1,_,rfl,qO,by go_num,NX⟩;omega};obtain rfl:i=n:=qO;go_wp2;(go_end0);exact⟨rfl,l',S.o⟩
def bfV(cv:Nat->Nat->Int)(x y:Nat):Bool:=decide (cv x y<0)
def lF(w0:World)(gl n:Nat)(cv:Nat->Nat->Int):Prop:=∀(W:World) (x y:Nat),Ext w0 W->x<n->y<n->Calls prog 184 #[vI x,vI y,.pointer (sA gl)] W fun e w'=>e=.returned (vI (cv x y))/\Ext W w'
structure nF(w0 wr:World)(g:Nat)(bf:Nat->Nat->Bool)(l l':LN)(a i:Nat):Prop where
 mv:aW a i l l'
 srt:Srt bf a i l'
 row:aO wr g l'
 ext:Ext w0 wr
structure gQ(w0 wr:World)(g:Nat)(bf:Nat->Nat->Bool)(l l':LN)(a i j:Nat):Prop where
 mv:aW a (i+1) l l'
 ins:Ins bf a i j l'
 row:aO wr g l'
 ext:Ext w0 wr
theorem gQ.K{w0 wr w'}{g:Nat}{bf:Nat->Nat->Bool}{l l':LN}{a i j:Nat}(h:gQ w0 wr g bf l l' a i j)(hx:Ext wr w'):gQ w0 w' g bf l l' a i j:=⟨h.mv,h.ins,h.row.K hx,h.ext.tr hx⟩
theorem nF.inn{w0 wr}{g:Nat}{bf:Nat->Nat->Bool}{l l':LN}{a b i:Nat}(h:nF w0 wr g bf l l' a i)(hid:∀k,a<=k->k<b->atL l k=k)(hai:a<=i)(hib:i<b):gQ w0 wr g bf l l' a i i:=by
 refine⟨h.mv.mono (yX _) qO,⟨fun p q h1 h2 h3 h4=>h.srt p q h1 h2 qO,fun k h1 h2 h3=>?_⟩,h.row,h.ext⟩;rw[h.mv.o i qO,hid i hai hib];exact h.mv.sub (fun x=>x<i) (fun p p1 p2=>by rw[hid p p1 qO];exact p2) k h1 qO
theorem gQ.step{w0 wr}{g:Nat}{bf:Nat->Nat->Bool}{l l':LN}{a i j:Nat}(h:gQ w0 wr g bf l l' a i j)(hj:a<j)(hji:j<=i)(hil:i<l.length)(hb:bf (atL l' j) (atL l' (j-1))=true)(hg:w0.heap.size<=g):
  gQ w0 ((wr.setCell (aD g j) (vI ((atL l' (j-1):Nat):Int))).setCell (aD g (j-1)) (vI ((atL l' j:Nat):Int))) g bf l (eL l' j (j-1)) a i (j-1):=by
 have hl:=h.mv.len;exact⟨h.mv.trans (aW.swap qO qO qO),h.ins.step hj hji qO hb,h.row.swap qO qO,(h.ext.sT (p:=(aD g j)) hg _).sT (p:=(aD g (j-1))) hg _⟩
theorem gQ.stop{w0 wr}{g:Nat}{bf:Nat->Nat->Bool}{l l':LN}{a i j:Nat}(o:Ord bf)(h:gQ w0 wr g bf l l' a i j)(hj:a<=j)(hji:j<=i)(hb:j=a\/bf (atL l' j) (atL l' (j-1))=false):nF w0 wr g bf l l' a (i+1):=
 ⟨h.mv,h.ins.stop o hj hji hb,h.row,h.ext⟩
theorem gQ.lt{w0 wr}{g:Nat}{bf:Nat->Nat->Bool}{l l':LN}{a b i j:Nat}(h:gQ w0 wr g bf l l' a i j)(hid:∀k,a<=k->k<b->atL l k=k)(hib:i<b){k:Nat}(h1:a<=k)(h2:k<=i):atL l' k<b:=
 h.mv.sub (fun x=>x<b) (fun p p1 p2=>by rw[hid p p1 qO];omega) k h1 qO
theorem jzby(g N C gl n:Nat)(cv:Nat->Nat->Int)(o:Ord (bfV cv))(l:LN)(hl:l.length=N)(hN:N<=1000000)(a b:Nat)(hb:b<=N)(haN:a<=N)(hid:∀k,a<=k->k<b->atL l k=k)(hbn:b<=n)w0 w(hc:lF w0 gl n cv)(hx:Ext w0 w)(hg:w0.heap.size<=g)(hr:aO w g l):
  Calls prog 237 #[.s (sA g) N C,vI a,vI b,.func (.func 184) #[] #[.pointer (sA gl)]] w fun e w'=>e=.returned (.tuple #[])/\∃l',aW a b l l'/\Srt (bfV cv) a b l'/\aO w' g l'/\Ext w0 w':=by
 have S0:Hid (nF w0 w g (bfV cv) l l a (a+1)):=Hx (⟨aW.refl _ _ _,fun i j h1 h2 h3=>qO,hr,hx⟩);have HL:=Hx hl;have qe:=Hx hid;have HC:=Hx hc;have O:=Hx o;clear hr hx hl hid hc o;go_enter func237,ntmps237;go_wp2;go_loopg [8,9] (b-(a+1)) (fun m it _ wr=>∃(i:Nat) (l':LN),b-i=m/\a+1<=i/\(i<=b\/(i=a+1/\l'=l))/\it=vI i/\Hid (nF w0 wr g (bfV cv) l l' a i));exact⟨a+1,l,rfl,yX _,.inr ⟨rfl,rfl⟩,by go_num,S0⟩;obtain⟨i,l1,rfl,qx,qj,rfl,S⟩:=hrel;clear S0;by_cases qi:i<b;{have SI:=Hx (S.o.inn qe.o qO qi);have iB:(i:Int)<(b:Int):=qO;clear S qj;go_wp2;go_loopg [9] (i-a) (fun m jt wx=>∃(j:Nat) (l':LN),j-a=m/\a<=j/\j<=i/\jt=vI j/\Hid (gQ w0 wx g (bfV cv) l l' a i j));exact⟨i,l1,rfl,qO,yX _,rfl,SI⟩;obtain⟨j,l2,rfl,qh,qa,rfl,T⟩:=hrel;clear SI;have qp:l2.length=N:=T.o.mv.len.trans HL.o;by_cases qk:a<j;{have c1:=T.o.row.cell (i:=j) qO;(have c2:=T.o.row.cell (i:=j-1) qO;have qf:=T.o.row.lt;have p1:=XW.cell _ _ _ qf c1;have p2:=XW.cell _ _ _ qf c2;have X1:=Hx (T.o.lt qe.o qi qh qa);have X2:=Hx (T.o.lt qe.o qi (k:=j-1) qO qO);generalize hx1:atL l2 j=x at*;generalize hx2:atL l2 (j-1)=y at*;have qy:(j:Int)<(N:Int):=qO;have qo:(j:Int)-1<(N:Int):=qO;have qw:0<=(j:Int)-1:=qO;have qm:(a:Int)<(j:Int):=by omega);(go_upto_region 4 with fail);go_cut [34] (fun s wy=>s=.bool (decide (cv x y<0))/\Hid (Ext wr wy));(case first=>refine cI qK qK ?_;(repeat (go_big_quiet_step ((go_at_call 184;exact Calls.ext_of (HC.o _ x y (T.o.ext.tr (XW.ext _)) (by have:=X1.o;omega) (by have:=X2.o;omega))))));refine wpQuiet_nil ?_;rintro _ ⟨z,rfl⟩;go_wp2;go_meet;exact⟨rfl,Hx z.ext⟩);obtain⟨rfl,EY⟩:=hcut;have T2:=Hx (T.o.K EY.o);clear p1 p2 c1 c2 T EY qf X1 X2;have c1:=T2.o.row.cell (i:=j) qO;have c2:=T2.o.row.cell (i:=j-1) qO;have f1:=T2.o.row.frozen j;have f2:=T2.o.row.frozen (j-1);rw[hx1]at c1;rw[hx2]at c2;cases hcv:decide (cv x y<0);(case true=>have qg:=T2.o.step qk qa (by rw[HL.o];omega) (by rw[hx1,hx2];exact hcv) hg;rw[hx1,hx2]at qg;have NX:=Hx (qg.K ((eR _).drewN 1));clear qg hx1 hx2 hcv T2;go_wp2;go_region;go_wp2;go_roundg (j-1-a);exact⟨j-1,_,rfl,qO,qO,by go_num,NX⟩;omega);have NX:=Hx (T2.o.stop O.o qh qa (.inr (by rw[hx1,hx2];exact hcv)));clear hx1 hx2 hcv T2 c1 c2 f1 f2;go_wp2;go_roundg (b-(i+1));exact⟨i+1,_,rfl,qO,.inl qO,by go_num,NX⟩;omega};have qm:¬(a:Int)<(j:Int):=qO;have qn:decide ((a:Int)<(j:Int))=false:=(by simp;omega);have NX:=Hx (T.o.stop O.o qh qa (.inl qO));clear T;go_wp2;refine cI qK qK ?_;(repeat (go_big_quiet_step (fail)));refine wpQuiet_nil ?_;rintro _ ⟨z,rfl⟩;have NY:Hid (nF w0 z.val g (bfV cv) l l2 a (i+1)):=Hx (⟨NX.o.mv,NX.o.srt,NX.o.row.K z.ext,NX.o.ext.tr z.ext⟩);generalize z.val=wz at*;clear z NX;go_wp2;go_roundg (b-(i+1));exact⟨i+1,_,rfl,qO,.inl qO,by go_num,NY⟩;omega};have qt:¬(i:Int)<(b:Int):=qO;go_wp2;(go_end0);(rcases qj with h|⟨h1,h2⟩);{(obtain rfl:i=b:=by omega);exact⟨rfl,l1,S.o.mv,S.o.srt,S.o.row,S.o.ext⟩};subst h2;exact⟨rfl,l1,aW.refl _ _ _,fun p q h3 h4 h5=>qO,S.o.row,S.o.ext⟩
theorem jzbz{bf:Nat->Nat->Bool}(o:Ord bf){x y z:Nat}(h:ltB bf x y)(h2:bf y z=true):bf x z=true:=by
 (rcases h with h|⟨h,_⟩);{exact o.tr _ _ _ h h2};cases e:bf x z;{have:=o.eqv _ _ _ h e;rw[this]at h2;cases h2};rfl
theorem jzb0{bf:Nat->Nat->Bool}(o:Ord bf){x y z:Nat}(h:ltB bf x y)(h2:bf z x=true):bf z y=true:=by
 (rcases h with h|⟨h,_⟩);{exact o.tr _ _ _ h2 h};cases e:bf z y;{have:=o.eqv _ _ _ e h;rw[this]at h2;cases h2};rfl
structure BsS(P:Nat->Bool)(lo hi i j:Nat):Prop where
 li:lo<=i
 ij:i<=j
 jh:j<=hi
 yes:∀k,lo<=k->k<i->P k=true
 no:∀k,j<=k->k<hi->P k=false
theorem BsS.start(P:Nat->Bool){lo hi:Nat}(h:lo<=hi):BsS P lo hi lo hi:=⟨yX _,h,yX _,fun k h1 h2=>qO,fun k h1 h2=>qO⟩
theorem BsS.up{P:Nat->Bool}{lo hi i j:Nat}(h:BsS P lo hi i j)(hm:∀k k',lo<=k->k<k'->k'<hi->P k'=true->P k=true){c:Nat}(hc:c=(i+j)/2)(hij:i<j)(hp:P c=true):BsS P lo hi (c+1) j:=
 have h1:=h.li;have h2:=h.jh
 ⟨qO,qO,h2,fun k k1 k2=>by
  by_cases e:k=c
  ·rw[e];exact hp
  ·exact hm k c k1 qO qO hp,h.no⟩
theorem BsS.down{P:Nat->Bool}{lo hi i j:Nat}(h:BsS P lo hi i j)(hm:∀k k',lo<=k->k<k'->k'<hi->P k'=true->P k=true){c:Nat}(hc:c=(i+j)/2)(hij:i<j)(hp:P c=false):BsS P lo hi i c:=
 have h1:=h.li;have h2:=h.jh
 ⟨h1,qO,qO,h.yes,fun k k1 k2=>by
  by_cases e:k=c
  ·rw[e];exact hp
  ·cases ek:P k
   ·rfl
   ·have:=hm c k qO qO k2 ek
    rw[this]at hp;cases hp⟩
structure RoS(w0 wr:World)(g:Nat)(l l':LN)(a m b i j:Nat):Prop where
 at_:∀k,dQ l' (m-i) m (m+j) k=dQ l a m b k
 mv:aW a b l l'
 row:aO wr g l'
 ext:Ext w0 wr
theorem jzk5(g N C:Nat)(cl:Value)(l:LN)(hl:l.length=N)(hN:N<=1000000)(a m b:Nat)(ham:a<m)(hmb:m<b)(hb:b<=N)w0 w(hx:Ext w0 w)(hg:w0.heap.size<=g)(hr:aO w g l):
  Calls prog 248 #[.s (sA g) N C,vI a,vI m,vI b,cl] w fun e w'=>e=.returned (.tuple #[])/\∃l',(∀k,atL l' k=dQ l a m b k)/\aW a b l l'/\aO w' g l'/\Ext w0 w':=by
 have S0:Hid (RoS w0 w g l l a m b (m-a) (b-m)):=Hx (⟨fun k=>by rw[show m-(m-a)=a by omega,show m+(b-m)=b by omega],aW.refl _ _ _,hr,hx⟩);have HL:=Hx hl;clear hr hx hl;go_enter func248,ntmps248;go_wp2;go_loopg [10,11] (m-a+(b-m)) (fun q it jt wr=>∃(i j:Nat) (l':LN),i+j=q/\0<i/\0<j/\i<=m-a/\j<=b-m/\it=vI i/\jt=vI j/\Hid (RoS w0 wr g l l' a m b i j));exact⟨m-a,b-m,l,rfl,qO,qO,yX _,yX _,by go_num,by go_num,S0⟩;obtain⟨i,j,l1,rfl,qi,qm,qt,qp,rfl,rfl,S⟩:=hrel;clear S0;have qe:((m-i:Nat):Int)=(m:Int)-(i:Int):=qO;have qh:l1.length=N:=S.o.mv.len.trans HL.o;have qf:=Hx qh;clear qh;by_cases qj:i=j;{subst qj;have qa:=uM g N C cl l1 qf.o (m-i) m i qO qO hN w0 wr S.o.ext hg S.o.row;rw[qe]at qa;have HSW:=Hx qa;clear qa qe;go_wp2_with fail;refine(HSW.o).mono ?_;rintro e w1 ⟨rfl,l2,T⟩;have F:Hid ((∀k,atL l2 k=dQ l a m b k)/\aW a b l l2/\aO w1 g l2/\Ext w0 w1):=Hx (⟨fun k=>(jzko qi qO T.at_ k).trans (S.o.at_ k),S.o.mv.trans (T.mv.mono qO qO),T.row,T.ext⟩);clear T S;go_wp2;(go_end0);exact⟨rfl,l2,F.o⟩};have qo:((i:Int) !=(j:Int))=true:=(by simp;omega);by_cases qk:j<i;{have qa:=uM g N C cl l1 qf.o (m-i) m j qO qO hN w0 wr S.o.ext hg S.o.row;rw[qe]at qa;have HSW:=Hx qa;have qn:(j:Int)<(i:Int):=qO;clear qa qe;go_wp2_with fail;refine(HSW.o).mono ?_;rintro e w1 ⟨rfl,l2,T⟩;have F:Hid (RoS w0 w1 g l l2 a m b (i-j) j):=Hx (⟨fun k=>(jzkm qm qk qO T.at_ k).trans (S.o.at_ k),S.o.mv.trans (T.mv.mono qO qO),T.row,T.ext⟩);clear T S;go_wp2;go_roundg (i-j+j);exact⟨i-j,j,l2,rfl,qO,qO,qO,qO,by go_num,by go_num,F⟩;omega};have qa:=uM g N C cl l1 qf.o (m-i) (m+j-i) i qO qO hN w0 wr S.o.ext hg S.o.row;have qg:((m+j-i:Nat):Int)=(m:Int)+(j:Int)-(i:Int):=qO;rw[qe,qg]at qa;have HSW:=Hx qa;have qn:¬(j:Int)<(i:Int):=qO;clear qa qe qg;go_wp2_with fail;refine(HSW.o).mono ?_;rintro e w1 ⟨rfl,l2,T⟩;have F:Hid (RoS w0 w1 g l l2 a m b i (j-i)):=Hx (⟨fun k=>(jzkn qi qO qO T.at_ k).trans (S.o.at_ k),S.o.mv.trans (T.mv.mono qO qO),T.row,T.ext⟩);clear T S;go_wp2;go_roundg (i+(j-i));exact⟨i,j-i,l2,rfl,qO,qO,qO,qO,by go_num,by go_num,F⟩;omega
structure UpS(w0 wr:World)(g:Nat)(l l':LN)(a b k:Nat):Prop where
 at_:∀q,atL l' q=lD l a k q
 mv:aW a b l l'
 row:aO wr g l'
 ext:Ext w0 wr
theorem UpS.step{w0 wr}{g:Nat}{l l':LN}{a b k:Nat}(h:UpS w0 wr g l l' a b k)(hak:a<=k)(hk:k+1<b)(hb:b<=l.length)(hg:w0.heap.size<=g):
  UpS w0 ((wr.setCell (aD g k) (vI ((atL l' (k+1):Nat):Int))).setCell (aD g (k+1)) (vI ((atL l' k:Nat):Int))).drew g l (eL l' k (k+1)) a b (k+1):=by
 have hl:=h.mv.len;have hd:∀W:World,Ext W W.drew:=fun W=>(eR W).drewN 1;exact⟨jzkp h.at_ hak qO,h.mv.trans (aW.swap qO qO qO),(h.row.swap qO qO).K (hd _),((h.ext.sT (p:=(aD g k)) hg _).sT (p:=(aD g (k+1))) hg _).tr (hd _)⟩
structure DnS(w0 wr:World)(g:Nat)(l l':LN)(a m k:Nat):Prop where
 at_:∀q,atL l' q=lE l m k q
 mv:aW a (m+1) l l'
 row:aO wr g l'
 ext:Ext w0 wr
theorem DnS.step{w0 wr}{g:Nat}{l l':LN}{a m k:Nat}(h:DnS w0 wr g l l' a m k)(hak:a<k)(hk:k<=m)(hb:m<l.length)(hg:w0.heap.size<=g):
  DnS w0 ((wr.setCell (aD g k) (vI ((atL l' (k-1):Nat):Int))).setCell (aD g (k-1)) (vI ((atL l' k:Nat):Int))).drew g l (eL l' k (k-1)) a m (k-1):=by
 have hl:=h.mv.len;have hd:∀W:World,Ext W W.drew:=fun W=>(eR W).drewN 1;exact⟨jzkr h.at_ qO hk qO,h.mv.trans (aW.swap qO qO qO),(h.row.swap qO qO).K (hd _),((h.ext.sT (p:=(aD g k)) hg _).sT (p:=(aD g (k-1))) hg _).tr (hd _)⟩
theorem jzk6(g N C gl n:Nat)(cv:Nat->Nat->Int)(o:Ord (bfV cv))(l:LN)(hl:l.length=N)(hN:N<=1000000)(a m b:Nat)(hma:m=a+1)(hmb:m<b)(hb:b<=N)(hn:∀k,k<N->atL l k<n)(hm:Mrg (bfV cv) a m b l)w0 w(hc:lF w0 gl n cv)(hx:Ext w0 w)(hg:w0.heap.size<=g)(hr:aO w g l):
  Calls prog 238 #[.s (sA g) N C,vI a,vI m,vI b,.func (.func 184) #[] #[.pointer (sA gl)]] w fun e w'=>e=.returned (.tuple #[])/\∃l',aW a b l l'/\Srt (bfV cv) a b l'/\aO w' g l'/\Ext w0 w':=by
 have S0:Hid (aO w g l/\Ext w0 w):=Hx (⟨hr,hx⟩);have HL:=Hx hl;have HM:=Hx hm;have HC:=Hx hc;have O:=Hx o;have HN:=Hx hn;have B0:=Hx (BsS.start (fun k=>bfV cv (atL l k) (atL l a)) (show m<=b by omega));have qp:=Hx hma;have qj:Hid (∀k k',m<=k->k<k'->k'<b->bfV cv (atL l k') (atL l a)=true->bfV cv (atL l k) (atL l a)=true):=Hx (fun k k' h1 h2 h3 h4=>jzbz o (hm.hi k k' h1 h2 h3) h4);have h1:((m:Int)-(a:Int)==1)=true:=(by simp;omega);have qA:a<m:=qO;clear hr hx hl hm hc o hn hma;go_enter func238,ntmps238;go_wp2;go_loopg [10,11,12] (b-m) (fun q it jt _ wr=>∃i j:Nat,j-i=q/\(m<=i/\i<=j/\j<=b)/\it=vI i/\jt=vI j/\Hid (BsS (fun k=>bfV cv (atL l k) (atL l a)) m b i j)/\Hid (aO wr g l/\Ext w0 wr));exact⟨m,b,rfl,qO,by go_num,by go_num,B0,S0⟩;obtain⟨i,j,rfl,qh,rfl,rfl,B,S⟩:=hrel;clear B0 S0;by_cases qg:i<j;{(have qt:(i:Int)<(j:Int):=by omega);obtain⟨c,qe⟩:∃c:Nat,c=(i+j)/2:=⟨_,rfl⟩;have qo:((i:Int)+(j:Int))/2=(c:Int):=qO;have qf:=Hx (fun hp=>B.o.up qj.o qe qg hp);have qa:=Hx (fun hp=>B.o.down qj.o qe qg hp);have qC:m<=c/\c<b/\i<=c/\c<j:=qO;clear B qe;(go_upto_region 5 with fail);clear qo;have qx:=HL.o;have c1:=S.o.1.cell (i:=c) qO;have c2:=S.o.1.cell (i:=a) qO;have X1:=Hx (HN.o (c) qO);have X2:=Hx (HN.o (a) qO);clear qx;generalize hx1:atL l (c)=x at*;generalize hx2:atL l (a)=y at*;clear hx1 hx2;have p1:=XW.cell _ _ _ S.o.1.lt c1;have p2:=XW.cell _ _ _ S.o.1.lt c2;have q1:(c:Int)<(N:Int):=qO;have q2:(a:Int)<(N:Int):=qO;have q3:(m:Int)<(N:Int):=qO;clear c1 c2;go_cut [50] (fun s wy=>s=.bool (decide (cv x y<0))/\Hid (Ext wr wy));(case first=>refine cI qK qK ?_;(repeat (go_big_quiet_step ((go_at_call 184;exact Calls.ext_of (HC.o _ x y (S.o.2.tr (XW.ext _)) X1.o X2.o)))));refine wpQuiet_nil ?_;rintro _ ⟨z,rfl⟩;go_wp2;go_meet;exact⟨qS,Hx z.ext⟩);obtain⟨rfl,EY⟩:=hcut;have S2:=Hx (kQa (S.o.1.K EY.o) (S.o.2.tr EY.o));clear p1 p2 S EY X1 X2;cases hcv:decide (cv x y<0);(case true=>have NB:=Hx (qf.o (by unfold bfV;rw[hcv]));clear hcv qf qa;go_wp2;go_roundg (j-(c+1));exact⟨c+1,j,rfl,qO,by go_num,by go_num,NB,S2⟩;omega);have NB:=Hx (qa.o (by unfold bfV;rw[hcv]));clear hcv qf qa;go_wp2;go_roundg (c-i);exact⟨i,c,rfl,qO,by go_num,by go_num,NB,S2⟩;omega};obtain rfl:i=j:=qO;have qB:¬(i:Int)<(i:Int):=qO;have U0:Hid (UpS w0 wr g l l a b a):=Hx (⟨jzkq l a,aW.refl _ _ _,S.o.1,S.o.2⟩);clear S;have qm:m<=i:=qh.1;have qn:i<=b:=qh.2.2;go_wp2;go_loopg [13] (i-1-a) (fun q kt wx=>∃(k:Nat) (l':LN),i-1-k=q/\a<=k/\k<=i-1/\kt=vI k/\Hid (UpS w0 wx g l l' a b k));exact⟨a,l,rfl,yX _,qO,rfl,U0⟩;obtain⟨k,l1,rfl,qk,qy,rfl,U⟩:=hrel;clear U0;by_cases qz:k<i-1;{have qw:l1.length=N:=U.o.mv.len.trans HL.o;have c1:=U.o.row.cell (i:=k) qO;have c2:=U.o.row.cell (i:=k+1) qO;have f1:=U.o.row.frozen k;have f2:=U.o.row.frozen (k+1);have NX:=Hx (U.o.step qk qO (by rw[HL.o];exact hb) hg);generalize atL l1 k=x at*;generalize atL l1 (k+1)=y at*;have k1:(k:Int)<(i:Int)-1:=qO;have k2:(k:Int)+1<(N:Int):=qO;have k3:(k:Int)<(N:Int):=qO;clear qw U;go_wp2;go_region;go_wp2;go_roundg (i-1-(k+1));exact⟨k+1,_,rfl,qO,qO,by go_num,NX⟩;omega};have qi:k=i-1:=qO;have k1:¬(k:Int)<(i:Int)-1:=qO;have F:Hid (aW a b l l1/\Srt (bfV cv) a b l1/\aO wr g l1/\Ext w0 wr):=Hx (⟨U.o.mv,jzkt O.o HM.o qp.o qm qn B.o.yes B.o.no (by rw[<-qi];exact U.o.at_),U.o.row,U.o.ext⟩);clear U qi;go_wp2;refine bodyPost_ret (results_none rfl _ _ _) rfl ?_;exact⟨rfl,l1,F.o⟩
theorem jzk7(g N C gl n:Nat)(cv:Nat->Nat->Int)(o:Ord (bfV cv))(l:LN)(hl:l.length=N)(hN:N<=1000000)(a m b:Nat)(ham:a+1<m)(hbm:b=m+1)(hb:b<=N)(hn:∀k,k<N->atL l k<n)(hm:Mrg (bfV cv) a m b l)w0 w(hc:lF w0 gl n cv)(hx:Ext w0 w)(hg:w0.heap.size<=g)(hr:aO w g l):
  Calls prog 238 #[.s (sA g) N C,vI a,vI m,vI b,.func (.func 184) #[] #[.pointer (sA gl)]] w fun e w'=>e=.returned (.tuple #[])/\∃l',aW a b l l'/\Srt (bfV cv) a b l'/\aO w' g l'/\Ext w0 w':=by
 have S0:Hid (aO w g l/\Ext w0 w):=Hx (⟨hr,hx⟩);have HL:=Hx hl;have HM:=Hx hm;have HC:=Hx hc;have O:=Hx o;have HN:=Hx hn;have B0:=Hx (BsS.start (fun k=>!bfV cv (atL l m) (atL l k)) (show a<=m by omega));have qk:=Hx hbm;have qm:Hid (∀k k',a<=k->k<k'->k'<m->(!bfV cv (atL l m) (atL l k'))=true->(!bfV cv (atL l m) (atL l k))=true):=Hx (fun k k' h1 h2 h3 h4=>by cases e:bfV cv (atL l m) (atL l k);{rfl};rw[jzb0 o (hm.lo k k' h1 h2 h3) e]at h4;cases h4);have h1:((m:Int)-(a:Int)==1)=false:=(by simp;omega);have h2:((b:Int)-(m:Int)==1)=true:=(by simp;omega);have qA:m<b:=qO;clear hr hx hl hm hc o hn hbm;go_enter func238,ntmps238;go_wp2;go_loopg [14,15,16] (m-a) (fun q it jt _ wr=>∃i j:Nat,j-i=q/\(a<=i/\i<=j/\j<=m)/\it=vI i/\jt=vI j/\Hid (BsS (fun k=>!bfV cv (atL l m) (atL l k)) a m i j)/\Hid (aO wr g l/\Ext w0 wr));exact⟨a,m,rfl,qO,by go_num,by go_num,B0,S0⟩;obtain⟨i,j,rfl,qh,rfl,rfl,B,S⟩:=hrel;clear B0 S0;by_cases qg:i<j;{(have qt:(i:Int)<(j:Int):=by omega);obtain⟨c,qe⟩:∃c:Nat,c=(i+j)/2:=⟨_,rfl⟩;have qo:((i:Int)+(j:Int))/2=(c:Int):=qO;have qf:=Hx (fun hp=>B.o.up qm.o qe qg hp);have qa:=Hx (fun hp=>B.o.down qm.o qe qg hp);have qC:a<=c/\c<m/\i<=c/\c<j:=qO;clear B qe;(go_upto_region 17 with fail);clear qo;have qx:=HL.o;have c1:=S.o.1.cell (i:=m) qO;have c2:=S.o.1.cell (i:=c) qO;have X1:=Hx (HN.o (m) qO);have X2:=Hx (HN.o (c) qO);clear qx;generalize hx1:atL l (m)=x at*;generalize hx2:atL l (c)=y at*;clear hx1 hx2;have p1:=XW.cell _ _ _ S.o.1.lt c1;have p2:=XW.cell _ _ _ S.o.1.lt c2;have q1:(c:Int)<(N:Int):=qO;have q2:(a:Int)<(N:Int):=qO;have q3:(m:Int)<(N:Int):=qO;clear c1 c2;go_cut [103] (fun s wy=>s=.bool (!decide (cv x y<0))/\Hid (Ext wr wy));(case first=>refine cI qK qK ?_;(repeat (go_big_quiet_step ((go_at_call 184;exact Calls.ext_of (HC.o _ x y (S.o.2.tr (XW.ext _)) X1.o X2.o)))));refine wpQuiet_nil ?_;rintro _ ⟨z,rfl⟩;go_wp2;go_meet;exact⟨qS,Hx z.ext⟩);obtain⟨rfl,EY⟩:=hcut;have S2:=Hx (kQa (S.o.1.K EY.o) (S.o.2.tr EY.o));clear p1 p2 S EY X1 X2;cases hcv:decide (cv x y<0);(case false=>have NB:=Hx (qf.o (by unfold bfV;rw[hcv];rfl));clear hcv qf qa;go_wp2;go_roundg (j-(c+1));exact⟨c+1,j,rfl,qO,by go_num,by go_num,NB,S2⟩;omega);have NB:=Hx (qa.o (by unfold bfV;rw[hcv];rfl));clear hcv qf qa;go_wp2;go_roundg (c-i);exact⟨i,c,rfl,qO,by go_num,by go_num,NB,S2⟩;omega};obtain rfl:i=j:=qO;have qB:¬(i:Int)<(i:Int):=qO;have U0:Hid (DnS w0 wr g l l a m m):=Hx (⟨jzks l m,aW.refl _ _ _,S.o.1,S.o.2⟩);clear S;have qp:a<=i:=qh.1;have qi:i<=m:=qh.2.2;go_wp2;go_loopg [17] (m-i) (fun q kt wx=>∃(k:Nat) (l':LN),k-i=q/\i<=k/\k<=m/\kt=vI k/\Hid (DnS w0 wx g l l' a m k));exact⟨m,l,rfl,qi,yX _,rfl,U0⟩;obtain⟨k,l1,rfl,qy,qn,rfl,U⟩:=hrel;clear U0;by_cases qz:i<k;{have qw:l1.length=N:=U.o.mv.len.trans HL.o;have c1:=U.o.row.cell (i:=k) qO;have c2:=U.o.row.cell (i:=k-1) qO;have f1:=U.o.row.frozen k;have f2:=U.o.row.frozen (k-1);have NX:=Hx (U.o.step qO qn (by rw[HL.o];omega) hg);generalize atL l1 k=x at*;generalize atL l1 (k-1)=y at*;have k1:(i:Int)<(k:Int):=qO;have k2:(k:Int)-1<(N:Int):=qO;have k3:(k:Int)<(N:Int):=qO;have k4:0<=(k:Int)-1:=qO;clear qw U;go_wp2;go_region;go_wp2;go_roundg (k-1-i);exact⟨k-1,_,rfl,qO,qO,by go_num,NX⟩;omega};have qj:k=i:=qO;have k1:¬(i:Int)<(k:Int):=qO;have F:Hid (aW a b l l1/\Srt (bfV cv) a b l1/\aO wr g l1/\Ext w0 wr):=Hx (⟨by rw[qk.o];exact U.o.mv,jzku O.o HM.o qk.o qp qi (fun q q1 q2=>by simpa using B.o.yes q q1 q2) (fun q q1 q2=>by simpa using B.o.no q q1 q2) (by rw[<-qj];exact U.o.at_),U.o.row,U.o.ext⟩);clear U qj;go_wp2;refine bodyPost_ret (results_none rfl _ _ _) rfl ?_;exact⟨rfl,l1,F.o⟩
def jzb1(g N C gl n:Nat)(cv:Nat->Nat->Int)(w0:World)(s:Nat):Prop:=∀(a m b:Nat) (l:LN) (w:World),b-a<=s->a<m->m<b->b<=N->l.length=N->(∀k,k<N->atL l k<n)->Mrg (bfV cv) a m b l->Ext w0 w->aO w g l->
    Calls prog 238 #[.s (sA g) N C,vI a,vI m,vI b,.func (.func 184) #[] #[.pointer (sA gl)]] w fun e w'=>e=.returned (.tuple #[])/\∃l',aW a b l l'/\Srt (bfV cv) a b l'/\aO w' g l'/\Ext w0 w'
theorem aW.lt{a b N n:Nat}{l l':LN}(h:aW a b l l')(hb:b<=N)(hn:∀k,k<N->atL l k<n):∀k,k<N->atL l' k<n:=fun k hk=>
 (h.mono (yZ a) hb).sub (fun x=>x<n) (fun i _ h2=>hn i h2) k (yZ _) hk
theorem Mrg.congr{bf:Nat->Nat->Bool}{a m b:Nat}{l l':LN}(h:Mrg bf a m b l)(hmb:m<=b)(ham:a<=m)(he:∀k,a<=k->k<b->atL l' k=atL l k):Mrg bf a m b l':=
 ⟨fun i j h1 h2 h3=>by rw[he i qO qO,he j qO qO];exact h.lo i j h1 h2 h3,
  fun i j h1 h2 h3=>by rw[he i qO qO,he j qO qO];exact h.hi i j h1 h2 h3,
  fun i j h1 h2 h3 h4=>by rw[he i qO qO,he j qO qO];exact h.cr i j h1 h2 h3 h4⟩
theorem jzk8{l:LN}{s m e:Nat}(hs:s<=m)(he:m<=e)(h:¬(s<m/\m<e))(k:Nat):atL l k=dQ l s m e k:=by
 unfold dQ
 repeat' split
 all_goals first|omega|rfl|(congr 1;omega)
theorem jzk9{bf:Nat->Nat->Bool}(o:Ord bf){a m b mid p s0 r0 i e:Nat}{l:LN}(h:Mrg bf a m b l)(ham:a+1<m)(hmb:m+1<b)(hmid:mid=(a+b)/2)(hsr:(m<=mid/\s0=a/\r0=m)\/(mid<m/\s0+b=mid+m/\r0=mid))(hp:p+1=mid+m)(he:e=mid+m-i)(hB:BsS (fun k=>!bf (atL l (p-k)) (atL l k)) s0 r0 i i):
  ∀l':LN,(∀k,atL l' k=dQ l i m e k)->Mrg bf a i mid l'/\Mrg bf mid e b l'/\∀x y,a<=x->x<mid->mid<=y->y<b->ltB bf (atL l' x) (atL l' y):=fun l' hr=>by
 have h1:=hB.li;have h2:=hB.jh;refine jzkv o h qO qO hmid qO he qO ?_ ?_ hr;{by_cases qa:i=s0;{(rcases hsr with q|q);{exact .inl qO};{exact .inr (.inl qO)}};{have h5:=hB.yes (i-1) qO qO;have h6:p-(i-1)=e:=qO;simp only[h6]at h5;exact .inr (.inr (by simpa using h5))}};{by_cases qa:i=r0;{(rcases hsr with q|q);{exact .inl qO};{exact .inr (.inl qO)}};{have h5:=hB.no i (yX _) qO;have h6:p-i=e-1:=qO;simp only[h6]at h5;exact .inr (.inr (by simpa using h5))}}
theorem jzla(s:Nat)(g N C gl n:Nat)(cv:Nat->Nat->Int)(o:Ord (bfV cv))(l:LN)(hl:l.length=N)(hN:N<=1000000)(a m b:Nat)(ham:a+1<m)(hmb:m+1<b)(hb:b<=N)(hn:∀k,k<N->atL l k<n)(hm:Mrg (bfV cv) a m b l)(w0 w:World)(hc:lF w0 gl n cv)(hx:Ext w0 w)(hg:w0.heap.size<=g)(hr:aO w g l)(hs:b-a<=s+1)(IH:jzb1 g N C gl n cv w0 s):
  Calls prog 238 #[.s (sA g) N C,vI a,vI m,vI b,.func (.func 184) #[] #[.pointer (sA gl)]] w fun e w'=>e=.returned (.tuple #[])/\∃l',aW a b l l'/\Srt (bfV cv) a b l'/\aO w' g l'/\Ext w0 w':=by
 have S0:Hid (aO w g l/\Ext w0 w):=Hx (⟨hr,hx⟩);have HL:=Hx hl;have HM:=Hx hm;have HC:=Hx hc;have O:=Hx o;have HN:=Hx hn;have HI:=Hx IH;obtain⟨qa,qf⟩:∃qa:Nat,qa=(a+b)/2:=⟨_,rfl⟩;have qJ:((a:Int)+(b:Int))/2=(qa:Int):=qO;have qh:=Hx qf;have q6:a<qa/\qa<b/\2*qa<=a+b/\a+b<=2*qa+1:=qO;obtain⟨p,hp⟩:∃p:Nat,p+1=qa+m:=⟨qa+m-1,qO⟩;have ep:(qa:Int)+(m:Int)-1=(p:Int):=qO;have HP:=Hx hp;have h1:((m:Int)-(a:Int)==1)=false:=(by simp;omega);have h2:((b:Int)-(m:Int)==1)=false:=(by simp;omega);clear hr hx hl hm hc hn qf IH hp
 go_enter func238,ntmps238
 go_upto_if 140 with(fail)
 go_cut [20,21] (fun s r wx=>∃s0 r0:Nat,s=vI s0/\r=vI r0/\((m<=qa/\s0=a/\r0=m)\/(qa<m/\s0+b=qa+m/\r0=qa))/\wx=w)
 case first=>as_aux_lemma=>
  by_cases qQ:qa<m
  ·have qW:(qa:Int)<(m:Int):=by omega
   have qV:decide ((qa:Int)<(m:Int))=true:=(by simp;omega);go_wp2;go_meet;exact⟨qa+m-b,qa,by go_num,by go_num,.inr ⟨qQ,qO,rfl⟩,rfl⟩
  have qW:¬(qa:Int)<(m:Int):=qO;have qV:decide ((qa:Int)<(m:Int))=false:=(by simp;omega);go_wp2;go_meet;exact⟨a,m,by go_num,by go_num,.inl ⟨qO,rfl,rfl⟩,rfl⟩
 obtain⟨s0,r0,rfl,rfl,qC,rfl⟩:=hcut;have qB:=Hx qC;have qI:s0<=r0/\a<=s0/\r0<=m/\r0<=qa:=qO;have qg:Hid (∀c,s0<=c->c<r0->m<=p-c/\p-c<b/\c<=p):=Hx (fun c h1 h2=>by have:=HP.o;omega);have qi:=Hx (show∀k k',s0<=k->k<k'->k'<r0->(!bfV cv (atL l (p-k')) (atL l k'))=true->(!bfV cv (atL l (p-k)) (atL l k))=true from fun k k' h1 h2 h3 h4=>by
  cases e:bfV cv (atL l (p-k)) (atL l k)
  ·rfl
  have e1:=jzb0 o (HM.o.lo k k' qO h2 qO) e;have q1:=qg.o k qO qO;have q2:=qg.o k' qO qO;rw[jzbz o (HM.o.hi (p-k') (p-k) qO qO qO) e1]at h4;cases h4)
 have B0:=Hx (BsS.start (fun k=>!bfV cv (atL l (p-k)) (atL l k)) qI.1);clear qC o;go_wp2
 go_loopg [20,21,23] (r0-s0) (fun q it jt _ wr=>∃i j:Nat,j-i=q/\(s0<=i/\i<=j/\j<=r0)/\it=vI i/\jt=vI j/\Hid (BsS (fun k=>!bfV cv (atL l (p-k)) (atL l k)) s0 r0 i j)/\Hid (aO wr g l/\Ext w0 wr))
 case atStart=>exact⟨s0,r0,rfl,qO,by go_num,by go_num,B0,S0⟩
 obtain⟨i,j,rfl,q7,rfl,rfl,B,S⟩:=hrel;clear B0 S0;by_cases qA:i<j
 ·have qZ:(i:Int)<(j:Int):=by omega
  obtain⟨c,qk⟩:∃c:Nat,c=(i+j)/2:=⟨_,rfl⟩;have qX:((i:Int)+(j:Int))/2=(c:Int):=qO;have qm:=Hx (fun hp=>B.o.up qi.o qk qA hp);have qj:=Hx (fun hp=>B.o.down qi.o qk qA hp);have qH:s0<=c/\c<r0/\i<=c/\c<j:=qO;clear B qk
  go_upto_region 35 with fail
  clear qX;have qp:=HL.o;have q0:=qg.o c qH.1 qH.2.1;have qT:((p-c:Nat):Int)=(p:Int)-(c:Int):=qO;have q4:(p:Int)-(c:Int)<(N:Int):=qO;have q5:0<=(p:Int)-(c:Int):=qO;clear qT;have c1:=S.o.1.cell (i:=p-c) qO;have c2:=S.o.1.cell (i:=c) qO;have X1:=Hx (HN.o (p-c) qO);have X2:=Hx (HN.o (c) qO);clear qp;generalize hx1:atL l (p-c)=x at*;generalize hx2:atL l (c)=y at*;clear hx1 hx2;have p1:=XW.cell _ _ _ S.o.1.lt c1;have p2:=XW.cell _ _ _ S.o.1.lt c2;have q1:(c:Int)<(N:Int):=qO;have q2:(a:Int)<(N:Int):=qO;have q3:(m:Int)<(N:Int):=qO;clear c1 c2
  go_cut [171] (fun s wy=>s=.bool (!decide (cv x y<0))/\Hid (Ext wr wy))
  case first=>
   refine cI qK qK ?_
   repeat (go_big_quiet_step ((go_at_call 184;exact Calls.ext_of (HC.o _ x y (S.o.2.tr (XW.ext _)) X1.o X2.o))))
   refine wpQuiet_nil ?_;rintro _ ⟨z,rfl⟩;go_wp2;go_meet;exact⟨qS,Hx z.ext⟩
  obtain⟨rfl,EY⟩:=hcut;have S2:=Hx (kQa (S.o.1.K EY.o) (S.o.2.tr EY.o));clear p1 p2 S EY X1 X2;cases hcv:decide (cv x y<0)
  case false=>
   have NB:=Hx (qm.o (by unfold bfV;rw[hcv];rfl));clear hcv qm qj;go_wp2
   go_roundg (j-(c+1))
   case measure=>omega
   exact⟨c+1,j,rfl,qO,by go_num,by go_num,NB,S2⟩
  have NB:=Hx (qj.o (by unfold bfV;rw[hcv];rfl));clear hcv qm qj;go_wp2
  go_roundg (c-i)
  case measure=>omega
  exact⟨i,c,rfl,qO,by go_num,by go_num,NB,S2⟩
 obtain rfl:i=j:=qO;have qY:¬(i:Int)<(i:Int):=qO;obtain⟨e,qw⟩:∃e:Nat,e=qa+m-i:=⟨_,rfl⟩;have ee:(qa:Int)+(m:Int)-(i:Int)=(e:Int):=qO;have q8:e<=b/\m<=e/\qa<=e/\a<=i/\i<=m/\i<=qa/\e+i=qa+m:=(by have:=qB.o;omega);have qz:=Hx (jzk9 O.o HM.o ham hmb qh.o qB.o HP.o qw B.o);have qp:=HL.o;clear B qw qi qg qY
 go_upto_region 39 with fail
 go_cut [185] (fun s wx=>∃B:Bool,s=.bool B/\Hid (B=true↔i<m/\m<e)/\wx=wr)
 case first=>as_aux_lemma=>
  by_cases x1:i<m
  ·have y1:(i:Int)<(m:Int):=by omega
   have y2:decide ((i:Int)<(m:Int))=true:=(by simp;omega);go_wp2;go_meet;exact⟨_,rfl,Hx (by simp[x1]),rfl⟩
  have y1:¬(i:Int)<(m:Int):=qO;have y2:decide ((i:Int)<(m:Int))=false:=(by simp;omega);go_wp2;go_meet;exact⟨_,rfl,Hx (by simp[x1]),rfl⟩
 obtain⟨B,rfl,HB,rfl⟩:=hcut
 go_upto_if 185 with(fail)
 go_cut [191] (fun _ wx=>∃l':LN,Hid (∀k,atL l' k=dQ l i m e k)/\Hid (aW a b l l'/\aO wx g l'/\Ext w0 wx))
 case first=>as_aux_lemma=>
  cases B
  case true=>
   have qe:i<m/\m<e:=HB.o.1 rfl
   go_wp2_with fail
   refine(jzk5 g N C _ l HL.o hN i m e qe.1 qe.2 qO w0 _ S.o.2 hg S.o.1).mono ?_;rintro e' w1 ⟨rfl,l1,t1,t2,t3,t4⟩;have T:Hid (aW a b l l1/\aO w1 g l1/\Ext w0 w1):=Hx (⟨t2.mono qO qO,t3,t4⟩);have T1:=Hx t1;clear t1 t2 t3 t4;go_wp2;go_meet;exact⟨l1,T1,T⟩
  have qe:¬(i<m/\m<e):=fun h=>(by have:=HB.o.2 h;cases this);have T1:=Hx (jzk8 (l:=l) (s:=i) (m:=m) (e:=e) qO qO qe);clear qe;go_wp2;go_meet;exact⟨l,T1,Hx ⟨aW.refl _ _ _,S.o.1,S.o.2⟩⟩
 obtain⟨l1,T1,T⟩:=hcut;have MM:=Hx (qz.o l1 T1.o);have qy:l1.length=N:=(by rw[T.o.1.len];exact qp);have qo:=Hx qy;have qn:=Hx (T.o.1.lt hb HN.o);clear S T1 qz qy
 go_upto_region 41 with fail
 go_cut [199] (fun s wx=>∃B:Bool,s=.bool B/\Hid (B=true↔a<i/\i<qa)/\wx=wc)
 case first=>as_aux_lemma=>
  by_cases x1:a<i
  ·have y1:(a:Int)<(i:Int):=by omega
   have y2:decide ((a:Int)<(i:Int))=true:=(by simp;omega);go_wp2;go_meet;exact⟨_,rfl,Hx (by simp[x1]),rfl⟩
  have y1:¬(a:Int)<(i:Int):=qO;have y2:decide ((a:Int)<(i:Int))=false:=(by simp;omega);go_wp2;go_meet;exact⟨_,rfl,Hx (by simp[x1]),rfl⟩
 obtain⟨B,rfl,HB,rfl⟩:=hcut
 go_upto_if 199 with(fail)
 go_cut [205] (fun _ wx=>∃l':LN,Hid (aW a qa l1 l'/\Srt (bfV cv) a qa l')/\Hid (aO wx g l'/\Ext w0 wx))
 case first=>as_aux_lemma=>
  cases B
  case true=>
   have qe:a<i/\i<qa:=HB.o.1 rfl
   go_wp2_with fail
   refine(HI.o a i qa l1 _ qO qe.1 qe.2 qO qo.o qn.o MM.o.1 T.o.2.2 T.o.2.1).mono ?_;rintro e' w1 ⟨rfl,l2,t1,t2,t3,t4⟩;have U1:=Hx (kQa t1 t2);have U2:=Hx (kQa t3 t4);clear t1 t2 t3 t4;go_wp2;go_meet;exact⟨l2,U1,U2⟩
  have qe:¬(a<i/\i<qa):=fun h=>(by have:=HB.o.2 h;cases this);have T1:=Hx (show Srt (bfV cv) a qa l1 from by
   by_cases h3:i=a
   ·have:=MM.o.1.hi;rw[h3]at this;exact this
   have h4:i=qa:=qO;have:=MM.o.1.lo;rw[h4]at this;exact this)
  clear qe;go_wp2;go_meet;exact⟨l1,Hx ⟨aW.refl _ _ _,T1.o⟩,Hx ⟨T.o.2.1,T.o.2.2⟩⟩
 obtain⟨l2,U1,U2⟩:=hcut;have M2:=Hx (MM.o.2.1.congr qO qO (fun k h1 h2=>U1.o.1.o k (.inr h1)));have qx:l2.length=N:=(by rw[U1.o.1.len];exact qo.o);have qM:=Hx qx;have qU:=Hx (U1.o.1.lt qO qn.o);have qt:Hid (∀l3,aW qa b l2 l3->Srt (bfV cv) qa b l3->aW a b l l3/\Srt (bfV cv) a b l3):=Hx (fun l3 v1 v2=>⟨(T.o.1.trans (U1.o.1.mono qO qO)).trans (v1.mono qO qO),jzkw MM.o.2.2 U1.o.1 U1.o.2 v1 v2⟩);clear qx qo qn MM T U1;by_cases qe:qa<e/\e<b
 ·have y1:(qa:Int)<(e:Int):=by omega
  have y2:(e:Int)<(b:Int):=by omega
  go_wp2_with fail
  refine(HI.o qa e b l2 _ qO qe.1 qe.2 hb qM.o qU.o M2.o U2.o.2 U2.o.1).mono ?_;rintro e' w1 ⟨rfl,l3,t1,t2,t3,t4⟩;have F:=Hx (kQa (qt.o l3 t1 t2) (kQa t3 t4));clear t1 t2 t3 t4;go_wp2
  go_end0
  exact⟨rfl,l3,F.o.1.1,F.o.1.2,F.o.2.1,F.o.2.2⟩
 have F:=Hx (kQa (qt.o l2 (aW.refl _ _ _) (by
  by_cases h3:e=qa
  ·have:=M2.o.hi;rw[h3]at this;exact this
  have h4:e=b:=qO;have:=M2.o.lo;rw[h4]at this;exact this)) U2.o)
 clear qt M2 U2;by_cases x1:qa<e
 ·have y1:(qa:Int)<(e:Int):=by omega
  have y2:¬(e:Int)<(b:Int):=qO;go_wp2
  go_end0
  exact⟨rfl,l2,F.o.1.1,F.o.1.2,F.o.2.1,F.o.2.2⟩
 have y1:¬(qa:Int)<(e:Int):=qO;go_wp2
 go_end0
 exact⟨rfl,l2,F.o.1.1,F.o.1.2,F.o.2.1,F.o.2.2⟩
theorem jzb2(g N C gl n:Nat)(cv:Nat->Nat->Int)(o:Ord (bfV cv))(hN:N<=1000000)w0(hc:lF w0 gl n cv)(hg:w0.heap.size<=g):∀s,jzb1 g N C gl n cv w0 s
 |0=>fun a m b l w h1 h2 h3 _ _ _ _ _ _=>by omega
 |s+1=>fun a m b l w h1 h2 h3 h4 h5 h6 h7 h8 h9=>by
  by_cases e1:m=a+1
  ·exact jzk6 g N C gl n cv o l h5 hN a m b e1 h3 h4 h6 h7 w0 w hc h8 hg h9
  ·by_cases e2:b=m+1
   ·exact jzk7 g N C gl n cv o l h5 hN a m b qO e2 h4 h6 h7 w0 w hc h8 hg h9
   ·exact jzla s g N C gl n cv o l h5 hN a m b qO qO h4 h6 h7 w0 w hc h8 hg h9 h1 (jzb2 g N C gl n cv o hN w0 hc hg s)
end Go.Proofs.YtojpooidhilnfaaGreatDoor
