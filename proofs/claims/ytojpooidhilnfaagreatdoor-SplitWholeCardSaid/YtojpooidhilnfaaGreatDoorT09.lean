/- Walks, part 9. -/
import Derived.Test.YtojpooidhilnfaaGreatDoorT08
set_option linter.unusedVariables false
set_option linter.unusedSimpArgs false
set_option maxRecDepth 100000
set_option maxHeartbeats 8000000
namespace Go.Proofs.YtojpooidhilnfaaGreatDoor
open Go.Proofs.Tryz
open Go.RowKit
structure StS(w0 wr:World)(g N:Nat)(l:LN):Prop where
 mv:aW 0 N (List.range N) l
 row:aO wr g l
 ext:Ext w0 wr
theorem StS.len{w0 wr}{g N:Nat}{l:LN}(h:StS w0 wr g N l):l.length=N:=by rw[h.mv.len];simp
theorem StS.lt{w0 wr}{g N:Nat}{l:LN}(h:StS w0 wr g N l):∀k,k<N->atL l k<N:=
 h.mv.lt (yX _) (fun k hk=>by unfold atL;rw[xJ hk];exact hk)
theorem StS.next{w0 wr w'}{g N a b:Nat}{l l':LN}(h:StS w0 wr g N l)(hm:aW a b l l')(hb:b<=N)(hr:aO w' g l')(hx:Ext w0 w'):StS w0 w' g N l':=
 ⟨h.mv.trans (hm.mono (yZ _) hb),hr,hx⟩
theorem jzlb(g N C gl:Nat)(cv:Nat->Nat->Int)(o:Ord (bfV cv))(hN:N<=100000)w0 w(hc:lF w0 gl N cv)(hx:Ext w0 w)(hg:w0.heap.size<=g)(hr:aO w g (List.range N)):
  Calls prog 219 #[.s (sA g) N C,vI N,.func (.func 184) #[] #[.pointer (sA gl)]] w fun e w'=>e=.returned (.tuple #[])/\∃l,Srt (bfV cv) 0 N l/\StS w0 w' g N l:=by
 have S0:Hid (StS w0 w g N (List.range N)/\nE (bfV cv) N 20 0 (List.range N)):=Hx (⟨⟨aW.refl _ _ _,hr,hx⟩,jzk0 _ _ _⟩);have HC:=Hx hc;have O:=Hx o;clear hr hx hc o;go_enter func219,ntmps219;go_wp2;go_loopg [7,8] (N-0) (fun q at_ bt wr=>∃(c:Nat) (l:LN),N-c=q/\c<=N/\at_=vI c/\bt=vI ((c+20:Nat):Int)/\Hid (StS w0 wr g N l/\nE (bfV cv) N 20 c l));exact⟨0,_,rfl,yZ _,by go_num,by go_num,S0⟩;obtain⟨c,l1,rfl,qm,rfl,rfl,S⟩:=hrel;clear S0;by_cases qa:c+20<=N;{(have qj:((c:Int)+20<=(N:Int)):=by omega);have qg:=jzby g N C gl N cv O.o l1 S.o.1.len qO c (c+20) qa qO (fun k h1 h2=>S.o.2.hi k h1 qO) qa w0 wr HC.o S.o.1.ext hg S.o.1.row;have qf:=Hx qg;clear qg;go_wp2_with fail;refine(qf.o).mono ?_;rintro e w1 ⟨rfl,l2,t1,t2,t3,t4⟩;have T:=Hx (kQa (S.o.1.next t1 qa t3 t4) (jzky S.o.2 qD qa t1 t2));clear t1 t2 t3 t4 S qf;go_wp2;go_roundg (N-(c+20));exact⟨c+20,l2,rfl,qa,by go_num,by go_num,T⟩;omega};have qj:¬((c:Int)+20<=(N:Int)):=qO;have qg:=jzby g N C gl N cv O.o l1 S.o.1.len qO c N (yX _) qm (fun k h1 h2=>S.o.2.hi k h1 h2) (yX _) w0 wr HC.o S.o.1.ext hg S.o.1.row;have qf:=Hx qg;clear qg;go_wp2_with fail;refine(qf.o).mono ?_;rintro e w1 ⟨rfl,l2,t1,t2,t3,t4⟩;have T:=Hx (kQa (S.o.1.next t1 (yX _) t3 t4) (jzkz S.o.2 qD qm qO t1 t2));have qn:=Hx (jzb2 g N C gl N cv O.o qO w0 HC.o hg N);clear t1 t2 t3 t4 S qf qj qa;go_wp2;go_loopg [6,7,8,9] (N-20) (fun q st _ _ _ wr=>∃(s:Nat) (l:LN),N-s=q/\0<s/\s<=2*N+20/\st=vI s/\Hid (StS w0 wr g N l/\nC (bfV cv) N s l));exact⟨20,l2,rfl,qD,qO,by go_num,T⟩;obtain⟨s,l3,rfl,qe,qw,rfl,U⟩:=hrel;clear T;by_cases qt:s<N;{(have qo:(s:Int)<(N:Int):=by omega);have V0:=Hx (kQa U.o.1 (jzkx U.o.2));clear U;go_wp2;go_loopg [7,8] (N-0) (fun q at_ bt wr=>∃(c:Nat) (l:LN),N-c=q/\c<=N/\at_=vI c/\bt=vI ((c+2*s:Nat):Int)/\Hid (StS w0 wr g N l/\nD (bfV cv) N s c l));exact⟨0,l3,rfl,yZ _,by go_num,by go_num,V0⟩;obtain⟨c2,l4,rfl,qx,rfl,rfl,V⟩:=hrel;clear V0;by_cases qa:c2+2*s<=N;{(have qj:((c2:Int)+2*(s:Int)<=(N:Int)):=by omega);have qi:=qn.o c2 (c2+s) (c2+2*s) l4 wr qO qO qO qa V.o.1.len V.o.1.lt (by have:=jzbv V.o.2 qe qO;rw[kZh qa]at this;exact this) V.o.1.ext V.o.1.row;have qh:=Hx qi;clear qi;go_wp2_with fail;refine(qh.o).mono ?_;rintro e w2 ⟨rfl,l5,t1,t2,t3,t4⟩;have T:=Hx (kQa (V.o.1.next t1 qa t3 t4) (jzbw V.o.2 qe qO (by rw[kZh qa];exact t1) (by rw[kZh qa];exact t2)));clear t1 t2 t3 t4 V qh;go_wp2;go_roundg (N-(c2+2*s));exact⟨c2+2*s,l5,rfl,qa,by go_num,by go_num,T⟩;omega};have qj:¬((c2:Int)+2*(s:Int)<=(N:Int)):=qO;by_cases qk:c2+s<N;{(have qp:(c2:Int)+(s:Int)<(N:Int):=by omega);have qi:=qn.o c2 (c2+s) N l4 wr qO qO qk (yX _) V.o.1.len V.o.1.lt (by have:=jzbv V.o.2 qe qk;rw[Nat.min_eq_right qO]at this;exact this) V.o.1.ext V.o.1.row;have qh:=Hx qi;clear qi;go_wp2_with fail;refine(qh.o).mono ?_;rintro e w2 ⟨rfl,l5,t1,t2,t3,t4⟩;have T:=Hx (kQa (V.o.1.next t1 (yX _) t3 t4) (jzbx (jzbw V.o.2 qe qk (by rw[Nat.min_eq_right qO];exact t1) (by rw[Nat.min_eq_right qO];exact t2)) qe qO));clear t1 t2 t3 t4 V qh;go_wp2;go_roundg (N-2*s);exact⟨2*s,l5,rfl,qO,qO,by go_num,T⟩;omega};have qp:¬(c2:Int)+(s:Int)<(N:Int):=qO;have T:=Hx (kQa V.o.1 (jzbx V.o.2 qe qO));clear V;go_wp2;go_roundg (N-2*s);exact⟨2*s,l4,rfl,qO,qO,by go_num,T⟩;omega};have qo:¬(s:Int)<(N:Int):=qO;have F:Hid (Srt (bfV cv) 0 N l3):=Hx (by by_cases h0:N=0;{subst h0;intro i j h1 h2 h3;omega};exact jzk1 U.o.2 qO qO);go_wp2;(go_end0);exact⟨rfl,l3,F.o,U.o.1⟩
theorem rN(a b:Rat):aU a b<0↔a<b:=by
 unfold aU;by_cases h:a<b;{rw[qE h];exact⟨fun _=>h,fun _=>qD⟩};rw[qF h];by_cases e:a=b;{rw[qE e];exact⟨fun x=>absurd x qD,fun x=>absurd x h⟩};rw[qF e];exact⟨fun x=>absurd x qD,fun x=>absurd x h⟩
theorem uN(qs:LQ):Ord (bfV (cvQ qs)):=by
 refine⟨fun x=>?_,fun x y z h1 h2=>?_,fun x y z h1 h2=>?_⟩;{unfold bfV cvQ;rw[decide_eq_false_iff_not,rN];exact kZf};{unfold bfV cvQ at*;rw[decide_eq_true_eq,rN]at*;exact Rat.not_le.1 (fun h=>absurd h1 (kQ4.2 (kQs h (vB h2))))};unfold bfV cvQ at*;rw[decide_eq_false_iff_not,rN,kQ4]at*;exact kQs h1 h2
theorem OI.row{w}{B:Nat}{A}{n c:Nat}{l:LN}(h:OI w B (.s A n c) l)(hl:l.length=n)(h0:0<n):∃g,A=(sA g)/\B<=g/\aO w g l:=by
 obtain⟨h1,h2⟩:=h;rcases h2 with⟨h3,h4⟩|⟨g',cap,cur,h3,h4,h5,h6,h7,h8,h9⟩
 ·have:l=[]:=by simpa [ints]using h4
  subst this;simp at hl;omega
 injection h3 with e1 e2 e3
 refine⟨g',e1,h4,cur,h5,fun i hi=>?_⟩;have qa:(cur.toList.take l.length)[i]?=(ints l)[i]?:=by
  have:=h9;rw[<-this];simp
 rw[xG,qE hi]at qa;rw[<-kQw,qa];unfold ints;rw[yW,lX hi];rfl
theorem jzlc(g N C gl:Nat)(cv:Nat->Nat->Int)(o:Ord (bfV cv))(hN:N<=100000)w0 w(hc:lF w0 gl N cv)(hx:Ext w0 w)(hg:w0.heap.size<=g)(hr:aO w g (List.range N)):
  Calls prog 183 #[.s (sA g) N C,.func (.func 184) #[] #[.pointer (sA gl)]] w fun e w'=>e=.returned (.tuple #[])/\∃l,Srt (bfV cv) 0 N l/\StS w0 w' g N l:=by
 have HS:=Hx (jzlb g N C gl cv o hN w0 w hc hx hg hr);clear hr hx hc o hg;go_enter func183,ntmps183;go_wp2_with fail;refine(HS.o).mono ?_;rintro e w1 ⟨rfl,l,t1,t2⟩;have T:=Hx (kQa t1 t2);clear t1 t2 HS;go_wp2;(go_end0);exact⟨rfl,l,T.o.1,T.o.2⟩
theorem jzb3 P(n c:Nat)(qs:LQ)(hn:qs.length=n)(h0:0<n)(hn2:n<=100000)w(hq:QL w P qs)(hsz:∀q∈qs,SzQ q 100000):
  Calls prog 128 #[.s P n c] w fun e w'=>∃(g c':Nat) (l:LN),e=.returned (.s (sA g) n c')/\aO w' g l/\l.length=n/\l.Perm (List.range n)/\Srt (bfV (cvQ qs)) 0 n l/\w.heap.size<=g/\Ext w w':=by
 obtain⟨b0,e0⟩:=bB w #[.s P n c] 37;have qm:Hid (lF (w.alloc (.cells #[.s P n c] 37)) w.heap.size n (cvQ qs)):=Hx (fun W x y hW hx hy=>jzk3 P n c w.heap.size qs hn x y hx hy W (b0.K hW) (hq.K (e0.tr hW)) hsz qO);have E0:=Hx e0;have qf:=b0.one.1;have qh:w.heap.size<(w.alloc (.cells #[.s P n c] 37)).heap.size:=b0.lt;have HW:=Hx qh;clear b0 e0 hn hq hsz qh;go_enter func128,ntmps128;go_wp2;generalize hw0:w.alloc (.cells #[.s P n c] 37)=w0 at*;clear hw0;go_loopg [3,4,7] n (fun q vt _ it wr=>∃(k:Nat) (A:OA) (c2:Nat),n-k=q/\k<=n/\it=vI k/\vt=.s A k c2/\Hid (OI wr w0.heap.size (.s A k c2) (List.range k))/\Hid (Ext w0 wr));exact⟨0,none,0,rfl,yZ _,rfl,rfl,Hx (OI.nil _ _),Hx (eR _)⟩;obtain⟨k,A,c2,rfl,hk,rfl,rfl,OW,EX⟩:=hrel;clear qf;by_cases qo:k<n;{(have qj:(k:Int)<(n:Int):=by omega);(have qe:(List.range k).length=k:=by simp);(go_wp2_with (at_builtin;go_must (refine jzjx wr rfl (.tmp 10) (.tmp 12) rfl w0.heap.size (.s A k c2) (List.range k) rfl OW.o _ k ?c0 rfl ?c1 ?c2 ?_)));(case c0=>go_num);(case c1=>rw[qe];omega);(case c2=>exact EX.o.size);intro v2 w2 qa qi A2 c3 e2;(try rw[qe]at e2);subst e2;rw[<-kZc]at qa;have qn:=Hx qa;have qk:=Hx (EX.o.tr' qi);clear qa qi qe;go_wp2;go_roundg (n-(k+1));exact⟨k+1,A2,c3,rfl,qO,by go_num,rfl,qn,qk⟩;omega};obtain rfl:k=n:=qO;have qj:¬(k:Int)<(k:Int):=qO;obtain⟨g,rfl,hg,qg⟩:=OW.o.row qS h0;have HS:=Hx (jzlc g k c2 w.heap.size (cvQ qs) (uN qs) hn2 w0 wr qm.o EX.o hg qg);have HG:=Hx hg;clear hg qg OW EX;go_wp2_with fail;refine(HS.o).mono ?_;rintro e w3 ⟨rfl,l,t1,t2⟩;have F:Hid (aO w3 g l/\l.length=k/\l.Perm (List.range k)/\Srt (bfV (cvQ qs)) 0 k l/\w.heap.size<=g/\Ext w w3):=Hx (⟨t2.row,t2.len,t2.mv.perm,t1,by have:=HG.o;have:=HW.o;omega,E0.o.tr t2.ext⟩);clear t1 t2 HS;go_wp2;go_ret;exact⟨g,c2,l,rfl,F.o⟩
def kS(q:Rat):Bool:=decide (0<aE q)
def lY(q:Rat):Bool:=decide (aE q<0)
def bX(qs:LQ):Bool:=decide (qs.length<=64)&&(!qs.any lY&&qs.any kS)
theorem jzb4(f:Rat->Bool)(qs:LQ)(i:Nat)(q:Rat)(h:qs[i]?=some q):(qs.take (i+1)).any f=((qs.take i).any f||f q):=by
 rw[kQr,h,List.any_append];simp
theorem jzld{f:Rat->Bool}{qs:LQ}{i:Nat}{q:Rat}(h:qs[i]?=some q)(hf:f q=true):qs.any f=true:=List.any_eq_true.2 ⟨q,yJ h,hf⟩
theorem uO P(n c:Nat)(qs:LQ)(hn:qs.length=n)(hn2:n<=1000000)w(hq:QL w P qs):
  Calls prog 123 #[.s P n c] w fun e w'=>e=.returned (.bool (bX qs))/\Ext w w':=by
 have HQ:=Hx hq;have HN:=Hx hn;generalize hR:bX qs=R;have HR:=Hx hR;clear hq hn hR;by_cases qk:n<=64;{(have hg:¬(64:Int)<(n:Int):=by omega);go_enter func123,ntmps123;go_wp2;go_loopg [3,5,11] n (fun q pt _ it wr=>∃i:Nat,n-i=q/\i<=n/\it=vI i/\pt=.bool ((qs.take i).any kS)/\Hid ((qs.take i).any lY=false)/\Hid (Ext w wr));exact⟨0,rfl,yZ _,rfl,rfl,Hx rfl,Hx (eR _)⟩;obtain⟨i,rfl,hi,rfl,rfl,NO,EX⟩:=hrel;by_cases qm:i<n;{obtain⟨q,qa⟩:∃q,qs[i]?=some q:=⟨_,yG (by rw[HN.o];exact qm)⟩;obtain⟨b1,o1,n1,X1,m1,f1,qg,qe,qf,rfl,qo,y0,y1,y2,qi⟩:=(HQ.o.K EX.o).at_ qa;have xb:=(eR wr).alloc (.cells #[.bool n1,.s X1 m1 f1,.s qg qe qf] 35);have R1:=Hx (qi.K xb);have EB:=Hx (EX.o.tr xb);have BB:=Hx (eN wr 35 #[.bool n1,.s X1 m1 f1,.s qg qe qf]);have PN:=Hx (jzb4 kS qs i q qa);have NN:=Hx (jzb4 lY qs i q qa);have HI:=Hx qa;have iN:(i:Int)<(n:Int):=qO;generalize hpv:(qs.take i).any kS=pv at*;clear qa qi xb hpv;go_wp2_with fail;refine(bW n1 X1 m1 f1 qg qe qf q _ R1.o).mono ?_;rintro e w1 ⟨rfl,x1⟩;have E1:=Hx (EB.o.tr x1);have B1:=Hx (BB.o.K x1);have R2:=Hx (R1.o.K x1);clear x1 EB BB R1 y0 y1 y2;cases hs:decide (aE q<0);(case true=>have HF:=Hx (show R=false by rw[<-HR.o];unfold bX;rw[jzld (f:=lY) HI.o hs];simp);obtain rfl:=HF.o;generalize aE q=sq at*;go_wp2;go_ret;exact⟨rfl,E1.o⟩);have qj:=Hx (show(qs.take (i+1)).any lY=false by rw[NN.o,NO.o];exact hs);obtain⟨⟨i0,i1,i2⟩,_⟩:=B1.o.t3;cases pv;(case true=>have qh:=Hx (show(qs.take (i+1)).any kS=true by rw[PN.o];rfl);generalize aE q=sq at*;go_wp2;go_roundg (n-(i+1));exact⟨i+1,rfl,qO,by go_num,by rw[qh.o],qj,E1⟩;omega);have qh:=Hx (show(qs.take (i+1)).any kS=decide (0<aE q) by rw[PN.o];rfl);go_wp2_with fail;refine(bW n1 X1 m1 f1 qg qe qf q _ R2.o).mono ?_;rintro e w2 ⟨rfl,x2⟩;have E2:=Hx (E1.o.tr x2);clear x2;generalize aE q=sq at*;go_wp2;go_roundg (n-(i+1));exact⟨i+1,rfl,qO,by go_num,by rw[qh.o],qj,E2⟩;omega};obtain rfl:i=n:=qO;have qn:¬(i:Int)<(i:Int):=qO;have HF:=Hx (show(qs.take i).any kS=R by rw[<-HR.o];unfold bX;have h1:=NO.o;rw[yU (by rw[HN.o];omega)]at h1;rw[h1,yU (by rw[HN.o];omega),HN.o,yO qk];rfl);rw[HF.o];clear NO;go_wp2;go_ret;exact⟨rfl,EX.o⟩};have hg:(64:Int)<(n:Int):=qO;have HF:=Hx (show R=false by rw[<-HR.o];unfold bX;rw[HN.o,yP qk];rfl);obtain rfl:=HF.o;go_enter func123,ntmps123;go_wp2;go_ret;exact⟨rfl,eR _⟩
theorem QR.other{w w'}{cs:List Value}{q:Rat}{g:Nat}{t':TypeId}{cs':Array Value}(h:QR w cs q)(hg:w.grownBy w' (some g))(hb:Blk w g t' cs')(hne:188≠t'):QR w' cs q:=by
 obtain⟨neg,A,n,c,A',n',c',e,h1⟩:=h;exact⟨neg,A,n,c,A',n',c',e,h1.other hg hb hne⟩
def QB(w:World)(g:Nat)(qs:LQ):Prop:=
 ∃css:List (List Value),css.length=qs.length/\(∀cs∈css,cs.length=3)/\Blk w g 35 css.flatten.toArray/\∀(i:Nat) (q:Rat),qs[i]?=some q->∃cs,css[i]?=some cs/\QR w cs q
theorem QB.K{w w'}{g:Nat}{qs:LQ}(h:QB w g qs)(hx:Ext w w'):QB w' g qs:=by
 obtain⟨css,h1,h2,h3,h4⟩:=h;refine⟨css,h1,h2,h3.K hx,fun i q hl=>?_⟩;obtain⟨cs,k1,k2⟩:=h4 i q hl;exact⟨cs,k1,k2.K hx⟩
theorem QB.lt{w}{g:Nat}{qs:LQ}(h:QB w g qs):g<w.heap.size:=by
 obtain⟨css,_,_,h3,_⟩:=h;exact h3.lt
theorem QB.blk{w}{g:Nat}{qs:LQ}(h:QB w g qs):∃cs,Blk w g 35 cs:=by
 obtain⟨css,_,_,h3,_⟩:=h;exact⟨_,h3⟩
theorem QB.at_{w}{g:Nat}{qs:LQ}(h:QB w g qs){i:Nat}{q:Rat}(hl:qs[i]?=some q):
  ∃(neg:Bool) (A:OA) (n c:Nat) (A':OA) (n' c':Nat),
   (w.cell? (aD g (i*3))=some (.bool neg)/\w.cell? (aD g (i*3+1))=some (.s A n c)/\w.cell? (aD g (i*3+2))=some (.s A' n' c'))/\
   (w.frozen? (aD g (i*3))=false/\w.frozen? (aD g (i*3+1))=false/\w.frozen? (aD g (i*3+2))=false)/\aC w neg A n c A' n' c' q:=by
 obtain⟨css,h1,h2,h3,h4⟩:=h;obtain⟨cs,k1,neg,A,n,c,A',n',c',rfl,k2⟩:=h4 i q hl;have hi:=(yH.1 hl).1;have qa:∀k,k<3->w.cell? (aD g (i*3+k))=([.bool neg,.s A n c,.s A' n' c']:List Value)[k]?:=fun k hk=>(by rw[h3.cell,xI,dW css h2 i k qO hk,k1];rfl);exact⟨neg,A,n,c,A',n',c',⟨qa 0 qO,qa 1 qO,qa 2 qO⟩,⟨h3.frozen _,h3.frozen _,h3.frozen _⟩,k2⟩
theorem QB.other{w w'}{g g':Nat}{qs:LQ}{t':TypeId}{cs':Array Value}(h:QB w g qs)(hg:w.grownBy w' (some g'))(hb:Blk w g' t' cs')(hne:188≠t')(hgg:g≠g'):QB w' g qs:=by
 obtain⟨css,h1,h2,h3,h4⟩:=h;refine⟨css,h1,h2,(hg.block g h3.lt (fun e=>hgg (by injection e))).trans h3,fun i q hq=>?_⟩;obtain⟨cs,k1,k2⟩:=h4 i q hq;exact⟨cs,k1,k2.other hg hb hne⟩
theorem iQ{K:Nat}(css:List (List Value))(h2:∀cs∈css,cs.length=K)(m:Nat)(hml:m<css.length)(c1:List Value)(k:Nat)(v:Value)(hc:c1.length=K)(hk:k<K):((css.set m c1).flatten).set (m*K+k) v=(css.set m (c1.set k v)).flatten:=by
 have qa:∀c∈css.set m c1,c.length=K:=fun c hcc=>(by (rcases xE hcc with h|h);{exact h2 c h};rw[h];exact hc);have h:=oM (css.set m c1) qa m k v (by rw[yV];exact hml) hk;rw[yM hml,kQ1,List.set_set]at h;exact h
theorem QB.put{w}{g m:Nat}{qs:LQ}{q:Rat}{neg:Bool}{A}{n c:Nat}{A'}{n' c':Nat}(h:QB w g qs)(hm:m<qs.length)(hl:aC w neg A n c A' n' c' q):
  QB (((w.setCell (aD g (m*3)) (.bool neg)).setCell (aD g (m*3+1)) (.s A n c)).setCell (aD g (m*3+2)) (.s A' n' c')) g (qs.set m q):=by
 obtain⟨css,h1,h2,h3,h4⟩:=h;have g2:=((aM w g (m*3) (.bool neg)).trans (aM _ g (m*3+1) (.s A n c))).trans (aM _ g (m*3+2) (.s A' n' c'));have qa:m<css.length:=qO;obtain⟨cs,qf⟩:∃cs,css[m]?=some cs:=⟨_,yG qa⟩;have qe:cs.length=3:=h2 cs (yJ qf);have e0:css=css.set m cs:=(by apply uK;intro i;by_cases e:m=i;{subst e;rw[yM qa];exact qf};rw[vN e]);have b:=((h3.sT (m*3+0) (.bool neg)).sT (m*3+1) (.s A n c)).sT (m*3+2) (.s A' n' c');rw[yD,yD,yD,e0,iQ css h2 m qa cs 0 _ qe qO,iQ css h2 m qa _ 1 _ (by simp[qe]) qO,iQ css h2 m qa _ 2 _ (by simp[qe]) qO]at b;have e3:((cs.set 0 (.bool neg)).set 1 (.s A n c)).set 2 (.s A' n' c')=[.bool neg,.s A n c,.s A' n' c']:=(by (rcases cs with _|⟨a0,_|⟨a1,_|⟨a2,_|⟨a3,r⟩⟩⟩⟩);all_goals first|(simp at qe;done)|rfl);rw[e3]at b;refine⟨css.set m [.bool neg,.s A n c,.s A' n' c'],by simp[h1],fun c hcc=>?_,b,fun i p hi=>?_⟩;{(rcases xE hcc with h|h);{exact h2 c h};rw[h];rfl};by_cases e:m=i;{subst e;(rw[yM hm]at hi;injection hi with hi);subst hi;exact⟨_,yM qa,neg,A,n,c,A',n',c',rfl,hl.other g2 h3 qD⟩};rw[vN e]at hi;obtain⟨qg,k1,k2⟩:=h4 i p hi;exact⟨qg,by rw[vN e];exact k1,k2.other g2 h3 qD⟩
theorem QB.ql{w}{g:Nat}{qs:LQ}(h:QB w g qs):QL w (sA g) qs:=by
 obtain⟨css,h1,h2,h3,h4⟩:=h;exact⟨css,h1,h2,(RdT.of_blk h3 rfl).rd,h4⟩
theorem jzb5(n:Nat)(hn:n<=1000)w:
  (Instr.makeSlice 37 (vI (n:Int)) (vI (n:Int))).run prog w=.ok (.s (sA w.heap.size) n n) (w.alloc (.cells (madeCells rV (n*3)) 35)):=by
 obtain⟨i,hi,hz,hs,hb⟩:=info_parts Tryz.info44;have qa:(i.bytes:Int)*(n:Int)<=281474976710656:=(by rw[hb];omega);have hr:=run_make (P:=prog) w 37 35 i _ underlying37 hi hz .i64 .i64 n n qO qO qa qO;simp only[xL]at hr;rw[hs]at hr;exact hr
theorem jzle(N:Nat):madeCells rV (N*3)=(List.replicate N [Value.bool false,zN,zN]).flatten.toArray:=by
 apply Array.ext';apply uK;intro i;have qa:∀cs∈List.replicate N [Value.bool false,zN,zN],cs.length=3:=fun cs h=>(by rw[uF h];rfl);have hl:=fY _ qa;rw[xC]at hl;by_cases hi:i<N*3;{have h1:=dW _ qa (i/3) (i%3) (by rw[xC];omega) qO;rw[show i/3*3+i%3=i by omega,xB,qE qO,kQ1]at h1;simp only[];rw[h1];have h2:(madeCells rV (N*3)).toList[i]?=some ((rV:Array Value)[i%3]!):=(by simp[madeCells,hi]);rw[h2];have h6:i%3=0\/i%3=1\/i%3=2:=qO;rcases h6 with e|e|e <;> rw[e] <;> rfl};rw[yI (by simp[madeCells];omega),yI (by simp only[];omega)]
theorem QB.made(w:World)(N:Nat):QB (w.alloc (.cells (madeCells rV (N*3)) 35)) w.heap.size (List.replicate N 0):=by
 refine⟨List.replicate N [bF,zN,zN],qS,fun cs h=>by rw[uF h];rfl,?_,fun i q hq=>?_⟩;{rw[jzle];exact eN _ _ _};rw[xB]at hq;split at hq;{rename_i hi;(injection hq with hq);subst hq;exact⟨_,by rw[xB,qE hi],false,none,0,0,none,0,0,rfl,fD _⟩};cases hq
instance ltB_dec(bf:Nat->Nat->Bool):DecidableRel (ltB bf):=fun x y=>by unfold ltB;infer_instance
def cF(qs:LQ)(i:Nat):Nat:=(List.range qs.length).countP fun j=>decide (ltB (bfV (cvQ qs)) j i)
structure RkS(qs:LQ)(n:Nat)(l:LN):Prop where
 len:l.length=n
 lt:∀p,p<n->atL l p<n
 rank:∀p,p<n->cF qs (atL l p)=p
 inv:∀i p,i<n->(cF qs i=p↔p<n/\i=atL l p)
theorem uP{qs:LQ}{n:Nat}{l:LN}(hn:qs.length=n)(hl:l.length=n)(hp:l.Perm (List.range n))(hs:Srt (bfV (cvQ qs)) 0 n l):RkS qs n l:=by
 have h1:∀p,p<n->cF qs (atL l p)=p:=fun p hpn=>(by unfold cF;rw[hn];exact jzk2 (uN qs) hl hp hs p hpn);refine⟨hl,fun p hpn=>?_,h1,fun i p hi=>⟨fun h=>?_,fun⟨h2,h3⟩=>by rw[h3];exact h1 p h2⟩⟩;{have:atL l p∈List.range n:=hp.mem_iff.1 (yJ (lX qO));simpa using this};(have hm:i∈l:=hp.mem_iff.2 (by simpa using hi);obtain⟨k,hk⟩:=List.mem_iff_getElem?.1 hm;have qa:=(yH.1 hk).1;rw[lX qa]at hk;injection hk with hk);have:=h1 k qO;rw[hk,h]at this;subst this;exact⟨qO,hk.symm⟩
theorem RkS.less{qs:LQ}{n:Nat}{l:LN}(h:RkS qs n l){i:Nat}(hi:i<n):cF qs i<n:=((h.inv i _ hi).1 rfl).1
def cG{α:Type}(qs:LQ)(n:Nat)(K:Int)(a b:Nat->α)(p:Nat):List α:=(List.range n).map fun i=>if cF qs i<p/\(cF qs i:Int)<K then a i else b i
theorem rO{α:Type}(qs:LQ)(n:Nat)(K:Int)(a b:Nat->α)(p:Nat):(cG qs n K a b p).length=n:=by unfold cG;simp
theorem rP{α:Type}(qs:LQ)(n:Nat)(K:Int)(a b:Nat->α)(p i:Nat)(hi:i<n):(cG qs n K a b p)[i]?=some (if cF qs i<p/\(cF qs i:Int)<K then a i else b i):=by
 unfold cG;rw[yW,xJ hi];rfl
theorem jzb6{α:Type}(qs:LQ)(n:Nat)(K:Int)(a b:Nat->α):cG qs n K a b 0=(List.range n).map b:=by
 unfold cG;apply List.map_congr_left;intro i _;rw[qF qO]
theorem jzb7{α:Type}{qs:LQ}{n:Nat}{l:LN}(h:RkS qs n l)(K:Int)(a b:Nat->α){p:Nat}(hp:p<n):cG qs n K a b (p+1)=if(p:Int)<K then(cG qs n K a b p).set (atL l p) (a (atL l p))else cG qs n K a b p:=by
 have hx:=h.lt p hp;apply uK;intro i;by_cases hi:i<n;{rw[rP _ _ _ _ _ _ _ hi];by_cases e:i=atL l p;{have hr:=(h.inv i p hi).2 ⟨hp,e⟩;by_cases hK:(p:Int)<K;{rw[qE hK, <-e,yM (by rw[rO];exact hi),hr,qE ⟨qO,hK⟩]};rw[qF hK,rP _ _ _ _ _ _ _ hi,hr,qF (fun h=>hK h.2),qF qO]};have hr:cF qs i≠p:=fun h2=>e ((h.inv i p hi).1 h2).2;have e2:(cG qs n K a b p)[i]?=some (if cF qs i<p+1/\(cF qs i:Int)<K then a i else b i):=(by rw[rP _ _ _ _ _ _ _ hi];by_cases h3:cF qs i<p/\(cF qs i:Int)<K;{rw[qE h3,qE ⟨qO,h3.2⟩]};rw[qF h3,qF qO]);by_cases hK:(p:Int)<K;{rw[qE hK,vN (fun h=>e h.symm),e2]};rw[qF hK,e2]};have h1:∀q,(cG qs n K a b q)[i]?=none:=fun q=>yI (by rw[rO];omega);rw[h1];split;{rw[vN qO,h1]};rw[h1]
theorem jzb8{α:Type}{qs:LQ}{n:Nat}{l:LN}(h:RkS qs n l)(K:Int)(a b:Nat->α):cG qs n K a b n=(List.range n).map fun i=>if(cF qs i:Int)<K then a i else b i:=by
 unfold cG;apply List.map_congr_left;intro i hi;have:=h.less (vX.1 hi);by_cases h2:(cF qs i:Int)<K;{rw[qE ⟨this,h2⟩,qE h2]};rw[qF (fun h=>h2 h.2),qF h2]
def dI(qs:LQ)(k:Int):LQ×Int:=if bX qs&&decide (1<=k)then((List.range qs.length).map (fun i=>if(cF qs i:Int)<k then qs[i]?.getD 0 else 0),0)else([],1)
theorem lZ{qs:LQ}(h:bX qs=true):0<qs.length/\qs.length<=64:=by
 (unfold bX at h;simp only[vM,decide_eq_true_eq]at h;refine⟨?_,h.1⟩;cases qs with|nil=>simp at h|cons a l=>simp)
def jzlf(w:World)(r:LQ×Int)(e:Ending)(w':World):Prop:=
 ∃(A:OA) (c:Nat),e=.returned (.tuple #[.s A r.1.length c,vI r.2])/\QL w' A r.1/\Ext w w'
theorem jzb9 w A:QL w A []:=⟨[],rfl,(fun _ h=>by cases h),Rd.nil _ _,fun i q h=>by simp at h⟩
theorem jzca P(n c:Nat)(qs:LQ)(hn:qs.length=n)(hn2:n<=1000000)(k:Int)w(hq:QL w P qs)(hsz:∀q∈qs,SzQ q 100000):
  Calls prog 68 #[.s P n c,vI k] w (jzlf w (dI qs k)):=by
 have HQ:=Hx hq;have HN:=Hx hn;have HS:=Hx hsz;generalize hR:dI qs k=R;have HR:=Hx hR;clear hq hn hsz hR;go_enter func68,ntmps68;go_wp2_with fail;refine(uO P n c qs HN.o hn2 _ HQ.o).mono ?_;rintro e w1 ⟨rfl,x1⟩;have E1:=Hx x1;clear x1;cases hp:bX qs;(case false=>have HF:=Hx (show R=([],1) by rw[<-HR.o];unfold dI;rw[hp];rfl);obtain rfl:=HF.o;clear hp;go_wp2;exact bodyPost_ret (v:=.tuple #[zN,vI 1]) (by simp[results,results68,go_sem]) rfl (⟨none,0,rfl,jzb9 _ _,E1.o⟩));by_cases hk:k<1;{have HF:=Hx (show R=([],1) by rw[<-HR.o];unfold dI;rw[yP qO];simp);obtain rfl:=HF.o;clear hp;go_wp2;exact bodyPost_ret (v:=.tuple #[zN,vI 1]) (by simp[results,results68,go_sem]) rfl (⟨none,0,rfl,jzb9 _ _,E1.o⟩)};have HF:=Hx (show R=((List.range n).map (fun i=>if(cF qs i:Int)<k then qs[i]?.getD 0 else 0),0) by rw[<-HR.o];unfold dI;rw[hp,yO qO,HN.o];rfl);obtain rfl:=HF.o;obtain⟨h0,qJ⟩:=lZ hp;rw[HN.o]at h0 qJ;have qT:¬k<(1:Int):=hk;have qI:=jzb5 n qO;clear hp HR;have xb:=(eR w1).alloc (.cells (madeCells rV (n*3)) 35);have QM:=Hx (QB.made w1 n);have E2:=Hx (E1.o.tr xb);clear xb;go_wp2_with fail;refine(jzb3 P n c qs HN.o h0 qO _ (HQ.o.K E2.o) HS.o).mono ?_;rintro e w3 ⟨g,c',l,rfl,qf,qx,qa,qg,hg,x3⟩;have RK:=Hx (uP HN.o qx qa qg);have L0:Hid (QB w3 w1.heap.size (cG qs n k (fun i=>qs[i]?.getD 0) (fun _=>(0:Rat)) 0)/\aO w3 g l/\Ext w w3):=Hx (⟨by rw[jzb6];have:(List.range n).map (fun _=>(0:Rat))=List.replicate n 0:=(by rw[List.map_const',kZm]);rw[this];exact QM.o.K x3,qf,E2.o.tr x3⟩);have qA:w.heap.size<=w1.heap.size:=E1.o.size;have qM:w1.heap.size<g:=(by have:=QM.o.lt;omega);clear qf qx qa qg hg x3 QM qI E1 E2;generalize w1.heap.size=gk at*;go_wp2;go_loopg [7,8,22] n (fun q _ _ it wr=>∃p:Nat,n-p=q/\p<=n/\it=vI p/\Hid (QB wr gk (cG qs n k (fun i=>qs[i]?.getD 0) (fun _=>(0:Rat)) p)/\aO wr g l/\Ext w wr));exact⟨0,rfl,yZ _,rfl,L0⟩;obtain⟨p,rfl,qU,rfl,L⟩:=hrel;clear L0;by_cases qn:p<n;{(have pN:(p:Int)<(n:Int):=by omega);have c1:=L.o.2.1.cell (i:=p) (by rw[RK.o.len];exact qn);have qy:=RK.o.lt p qn;have NX:=Hx (jzb7 RK.o k (fun i=>qs[i]?.getD 0) (fun _=>(0:Rat)) qn);generalize hx:atL l p=x at*;clear hx;have xN:(x:Int)<(n:Int):=qO;by_cases qz:(p:Int)<k;{have qi:=Hx (show cG qs n k (fun i=>qs[i]?.getD 0) (fun _=>(0:Rat)) (p+1)=(cG qs n k (fun i=>qs[i]?.getD 0) (fun _=>(0:Rat)) p).set x (qs[x]?.getD 0) by rw[NX.o,qE qz]);obtain⟨b1,o1,n1,X1,m1,f1,qj,qo,qp,rfl,qV,y0,y1,y2,qw⟩:=(HQ.o.K L.o.2.2).at_ (nA (K:=qs) (i:=x) (by rw[HN.o];exact qy));have qm:x<(cG qs n k (fun i=>qs[i]?.getD 0) (fun _=>(0:Rat)) p).length:=(by rw[rO];exact qy);obtain⟨_,_,_,_,_,_,_,⟨t0,t1,t2⟩,⟨v0,v1,v2⟩,qH⟩:=L.o.1.at_ (i:=x) (yG qm);clear qH;obtain⟨cd,qB⟩:=L.o.1.blk;obtain⟨cn,qt,qe⟩:=L.o.2.1;have qh:g≠gk:=qO;have qk:w.heap.size<=gk:=qA;have qC:Hid (QB (((wr.setCell (aD gk (x*3)) (.bool n1)).setCell (aD gk (x*3+1)) (.s X1 m1 f1)).setCell (aD gk (x*3+2)) (.s qj qo qp)) gk ((cG qs n k (fun i=>qs[i]?.getD 0) (fun _=>(0:Rat)) p).set x (qs[x]?.getD 0))/\aO (((wr.setCell (aD gk (x*3)) (.bool n1)).setCell (aD gk (x*3+1)) (.s X1 m1 f1)).setCell (aD gk (x*3+2)) (.s qj qo qp)) g l/\Ext w (((wr.setCell (aD gk (x*3)) (.bool n1)).setCell (aD gk (x*3+1)) (.s X1 m1 f1)).setCell (aD gk (x*3+2)) (.s qj qo qp))):=Hx (⟨L.o.1.put qm qw,⟨cn,((qt.far (p:=(aD gk (x*3))) qh _).far (p:=(aD gk (x*3+1))) qh _).far (p:=(aD gk (x*3+2))) qh _,qe⟩,((L.o.2.2.sT (p:=(aD gk (x*3))) qk _).sT (p:=(aD gk (x*3+1))) qk _).sT (p:=(aD gk (x*3+2))) qk _⟩);clear qw qB qt qe L NX qm qh;go_wp2;go_roundg (n-(p+1));exact⟨p+1,rfl,qO,by go_num,Hx (by rw[qi.o];exact qC.o)⟩;omega};have qi:=Hx (show cG qs n k (fun i=>qs[i]?.getD 0) (fun _=>(0:Rat)) (p+1)=cG qs n k (fun i=>qs[i]?.getD 0) (fun _=>(0:Rat)) p by rw[NX.o,qF qz]);clear NX;go_wp2;go_roundg (n-(p+1));exact⟨p+1,rfl,qO,by go_num,Hx (by rw[qi.o];exact L.o)⟩;omega};obtain rfl:p=n:=qO;have qQ:¬(p:Int)<(p:Int):=qO;have F:Hid (QL wr (sA gk) ((List.range p).map (fun i=>if(cF qs i:Int)<k then qs[i]?.getD 0 else 0))/\Ext w wr):=Hx (⟨by rw[<-jzb8 RK.o k (fun i=>qs[i]?.getD 0) (fun _=>(0:Rat))];exact L.o.1.ql,L.o.2.2⟩);clear L;go_wp2;exact bodyPost_ret (v:=.tuple #[.s (sA gk) p p,vI 0]) (by simp[results,results68,go_sem]) rfl (⟨(sA gk),p,qS,F.o.1,F.o.2⟩)
theorem SzQ.mkQ_{s:Bool}{n d k:Nat}(hd:d≠0)(hn:n<B32^k)(hdd:d<B32^k):SzQ (mkQ s n d) k:=by
 refine⟨?_,?_⟩;{rw[rA _ hd];exact kQ2 (kZi _ _) hn};rw[tF _ hd];exact kQ2 (kZi _ _) hdd
theorem rQ{a b k m:Nat}(ha:a<B32^k)(hb:b<B32^m):a*b<B32^(k+m):=by
 rw[Nat.pow_add];rcases kQm b with h0|h0
 ·rw[h0,kQ8];exact Nat.mul_pos (kQy aX) (kQy aX)
 exact kZb ha (kQe hb) (kQy aX)
theorem SzQ.mul{a b:Rat}{k m:Nat}(ha:SzQ a k)(hb:SzQ b m):SzQ (a*b) (k+m):=by
 rw[uB];exact SzQ.mkQ_ (kQx a.den_nz b.den_nz) (rQ ha.1 hb.1) (rQ ha.2 hb.2)
theorem SzQ.div{a b:Rat}{k m:Nat}(ha:SzQ a k)(hb:SzQ b m)(h0:b≠0):SzQ (a/b) (k+m):=by
 have hn:b.num≠0:=fun e=>h0 (Rat.num_eq_zero.1 e);rw[jzbs a b h0];refine SzQ.mkQ_ (kQx qO a.den_nz) (rQ ha.1 hb.2) ?_;rw[kZl];exact rQ hb.1 ha.2
theorem SzQ.neg_{a:Rat}{k:Nat}(ha:SzQ a k):SzQ (-a) k:=by
 refine⟨?_,ha.2⟩;have:(-a).num.natAbs=a.num.natAbs:=(by show(-(a.num)).natAbs=_;omega);rw[this];exact ha.1
theorem SzQ.sub{a b:Rat}{k m:Nat}(ha:SzQ a k)(hb:SzQ b m):SzQ (a-b) (k+m+1):=by
 rw[Rat.sub_eq_add_neg];exact ha.add hb.neg_
theorem SzQ.fl{a:Rat}{k:Nat}(ha:SzQ a k)(hk:1<=k):SzQ (flQ a) k:=by
 unfold flQ flN;refine SzQ.mkQ_ qD (kQ2 (kZi _ _) ha.1) ?_;have h1:=kQk aX hk;have h2:1<B32^1:=qD;omega
theorem oT(q:Rat):aE q<0↔q<0:=by
 have h:q.num<0↔q<0:=(by rw[<-Int.not_le,Rat.num_nonneg,Rat.not_le]);unfold aE;split;{rename_i h0;rw[<-h,h0]};split;{rename_i h1;exact⟨fun _=>h.1 h1,fun _=>qD⟩};rename_i h1;exact⟨fun x=>qO,fun x=>absurd (h.2 x) h1⟩
theorem oU(q:Rat):0<aE q↔0<q:=by
 have h:0<q.num↔0<q:=(by rw[Rat.lt_iff];simp);unfold aE;split;{rename_i h0;rw[<-h,h0]};split;{rename_i h1;exact⟨fun x=>qO,fun x=>by have:=h.2 x;omega⟩};rename_i h0 h1;exact⟨fun _=>h.1 qO,fun _=>qD⟩
theorem jzcb:∀{l:LQ},(∀q∈l,0<=q)->0<=aZ l
 | [],_=>vC
 |a::l,h=>Rat.add_nonneg (h a qS) (jzcb (fun q hq=>h q (by simp[hq])))
theorem uQ:∀{l:LQ},(∀q∈l,0<=q)->∀q∈l,q<=aZ l
 | [],_,q,hq=>by cases hq
 |a::l,h,q,hq=>by
  have h1:=h a qS;have h2:=jzcb (l:=l) (fun q hq=>h q (by simp[hq]));show q<=a+aZ l;rcases xZ.1 hq with rfl|hq
  ·have:=Rat.add_le_add_left (c:=q) |>.2 h2
   rw[Rat.add_zero]at this;exact this
  ·have h3:=uQ (l:=l) (fun q hq=>h q (by simp[hq])) q hq
   have:=Rat.add_le_add_right (c:=aZ l) |>.2 h1;rw[Rat.zero_add]at this;exact kQs h3 this
theorem mA{qs:LQ}(h:bX qs=true):(∀q∈qs,0<=q)/\0<aZ qs:=by
 unfold bX at h;simp only[vM,Bool.not_eq_true',List.any_eq_false,List.any_eq_true]at h;have h1:∀q∈qs,0<=q:=fun q hq=>(by have:=h.2.1 q hq;unfold lY at this;rw[decide_eq_true_eq,oT,kQ4]at this;exact this);refine⟨h1,?_⟩;obtain⟨q,hq,hp⟩:=h.2.2;unfold kS at hp;rw[decide_eq_true_eq,oU]at hp;have:=uQ h1 q hq;exact Rat.not_le.1 (fun h3=>absurd hp (kQ4.2 (kQs this h3)))
def eM{α:Type}(n:Nat)(f:Nat->α)(z:α)(i:Nat):List α:=(List.range n).map fun j=>if j<i then f j else z
theorem nG{α:Type}(n:Nat)(f:Nat->α)(z:α)(i:Nat):(eM n f z i).length=n:=by unfold eM;simp
theorem uR{α:Type}(n:Nat)(f:Nat->α)(z:α)(i j:Nat)(hj:j<n):(eM n f z i)[j]?=some (if j<i then f j else z):=by
 unfold eM;rw[yW,xJ hj];rfl
theorem jzcc{α:Type}(n:Nat)(f:Nat->α)(z:α):eM n f z 0=List.replicate n z:=by
 unfold eM;apply uK;intro j;by_cases hj:j<n;{rw[yW,xJ hj,xB,qE hj];simp};rw[yI (by simp;omega),yI (by simp;omega)]
theorem jzcd{α:Type}(n:Nat)(f:Nat->α)(z:α){i:Nat}(hi:i<n):eM n f z (i+1)=(eM n f z i).set i (f i):=by
 apply uK;intro j;by_cases hj:j<n;{rw[uR _ _ _ _ _ hj];by_cases e:i=j;{subst e;rw[yM (by rw[nG];exact hi),qE qO]};rw[vN e,uR _ _ _ _ _ hj];by_cases h2:j<i;{rw[qE h2,qE qO]};rw[qF h2,qF qO]};rw[yI (by rw[nG];omega),yI (by rw[yV,nG];omega)]
theorem jzce{α:Type}(n:Nat)(f:Nat->α)(z:α):eM n f z n=(List.range n).map f:=by
 unfold eM;apply List.map_congr_left;intro j hj;rw[qE (vX.1 hj)]
def bI(f:Nat->Nat):Nat->Nat
 |0=>0
 |i+1=>bI f i+f i
theorem uS(f:Nat->Nat)(M:Nat):∀i,(∀j,j<i->f j<=M)->bI f i<=i*M
 |0,_=>by simp[bI]
 |i+1,h=>by
  have h1:=uS f M i (fun j hj=>h j qO);have h2:=h i qO;rw[xP];show bI f i+f i<=_;omega
def aK(qs:LQ)(T:Nat)(i:Nat):Rat:=(qs[i]?.getD 0)*(((T:Int):Rat)/aZ qs)
def fP(qs:LQ)(T:Nat)(i:Nat):Rat:=aK qs T i-flQ (aK qs T i)
def dR(qs:LQ)(T:Nat):LQ:=(List.range qs.length).map (fP qs T)
def fF(qs:LQ)(T:Nat):Int:=(T:Int)-(bI (fun i=>flN (aK qs T i)) qs.length:Nat)
def iR(qs:LQ)(T:Nat)(i:Nat):Nat:=if(cF (dR qs T) i:Int)<fF qs T then flN (aK qs T i)+1 else flN (aK qs T i)
def gX(qs:LQ)(total:Int):LN×Int:=if bX qs&&(decide (1<=total)&&decide (total<=65536))then((List.range qs.length).map (iR qs total.toNat),0)else([],1)
theorem uT{qs:LQ}(h:bX qs=true)(T:Nat)(i:Nat):0<=aK qs T i:=by
 obtain⟨h1,h2⟩:=mA h;unfold aK;refine vA ?_ ?_;{(cases hq:qs[i]? with|none=>exact vC|some q=>exact h1 q (yJ hq))};rw[Rat.div_def];exact vA (Rat.intCast_nonneg.2 qO) (vB (Rat.inv_pos.2 h2))
theorem jzcf{q:Rat}(h:0<=q):((flN q:Int):Rat)<=q:=by
 have hn:=Rat.num_nonneg.2 h;have hd:=q.den_pos;rw[Rat.le_iff];unfold flN;simp only[Rat.num_intCast,Rat.den_intCast];have h1:=Nat.div_mul_le_self q.num.natAbs q.den;have h2:((q.num.natAbs/q.den*q.den:Nat):Int)<=(q.num.natAbs:Int):=(by exact_mod_cast h1);rw[kZk]at h2;have h3:((q.num.natAbs:Nat):Int)=q.num:=qO;rw[h3]at h2;simpa using h2
theorem uU{qs:LQ}(h:bX qs=true)(T:Nat){i:Nat}(hi:i<qs.length):flN (aK qs T i)<=T:=by
 obtain⟨h1,h2⟩:=mA h;have h3:=jzcf (uT h T i);have h4:aK qs T i<=((T:Int):Rat):=(by unfold aK;have h5:qs[i]?.getD 0<=aZ qs:=uQ h1 _ (by rw[yG hi];exact xR _);have h6:(0:Rat)<=((T:Int):Rat)/aZ qs:=(by rw[Rat.div_def];exact vA (Rat.intCast_nonneg.2 qO) (vB (Rat.inv_pos.2 h2)));have h7:=kQ5 h5 h6;have h8:aZ qs*(((T:Int):Rat)/aZ qs)=((T:Int):Rat):=(by rw[Rat.mul_comm,Rat.div_mul_cancel (fun e=>by rw[e]at h2;exact kZf h2)]);rw[h8]at h7;exact h7);have:=kQt.1 (kQs h3 h4);omega
theorem aO.made(w:World)(n:Nat):aO (w.alloc (.cells (madeCells #[vI 0] n) 3)) w.heap.size (List.replicate n 0):=by
 refine⟨_,eN _ _ _,fun i hi=>?_⟩;rw[xC]at hi;rw[<-kQw,toList_madeCells_one];unfold atL;rw[xB,qE hi,xB,qE hi];rfl
theorem aO.rdT{w}{g:Nat}{l:LN}(h:aO w g l):RdT w 3 (sA g) (ints l):=fun _=>by
 obtain⟨cs,h1,h2⟩:=h;refine⟨g,0,cs,(0,0),rfl,h1,fun i hi=>?_⟩;rw[fN]at hi;rw[kQu,h2 i hi];unfold ints;rw[yW,lX hi];rfl
structure FrS(S:Nat->Prop)(w w':World):Prop where
 os:w'.os=w.os
 tape:w'.tape=w.tape
 output:w'.output=w.output
 size:w.heap.size<=w'.heap.size
 block:∀b,b<w.heap.size->¬S b->w'.heap[b]?=w.heap[b]?
def NoT(S:Nat->Prop)(w:World)(t:TypeId):Prop:=∀b,S b->∀cs fr,w.heap[b]?≠some (.cells cs t fr)
section
variable {S S':Nat->Prop} {w w' w2:World}
theorem FrS.of_ext(h:Ext w w'):FrS S w w':=⟨h.os,h.tape,h.output,h.size,fun b hb _=>h.block b hb⟩
theorem eE:type_of% @FrS.of_ext:=@FrS.of_ext
theorem FrS.refl(S:Nat->Prop)w:FrS S w w:=eE (eR w)
theorem FrS.of_grown{row:Option Nat}(h:w.grownBy w' row)(hs:∀g,row=some g->S g):FrS S w w':=⟨h.os,h.tape,h.output,h.size,fun b hb hn=>h.block b hb (fun e=>hn (hs b e.symm))⟩
theorem eG:type_of% @FrS.of_grown:=@FrS.of_grown
theorem FrS.tr(h:FrS S w w')(k:FrS S' w' w2)(hs:∀b,S' b->S b\/w.heap.size<=b):FrS S w w2:=
 ⟨k.os.trans h.os,k.tape.trans h.tape,k.output.trans h.output,yY h.size k.size,fun b hb hn=>(k.block b (yL hb h.size) (fun h1=>by
  rcases hs b h1 with h2|h2
  ·exact hn h2
  ·omega)).trans (h.block b hb hn)⟩
theorem FrS.mono(h:FrS S w w')(hs:∀b,S b->S' b):FrS S' w w':=⟨h.os,h.tape,h.output,h.size,fun b hb hn=>h.block b hb fun h1=>hn (hs b h1)⟩
theorem FrS.ext{w0}(k:FrS S w w')(h:Ext w0 w)(hs:∀b,S b->w0.heap.size<=b):Ext w0 w':=
 ⟨k.os.trans h.os,k.tape.trans h.tape,k.output.trans h.output,yY h.size k.size,fun b hb=>(k.block b (yL hb h.size) (fun h1=>by have:=hs b h1;omega)).trans (h.block b hb)⟩
theorem FrS.blk{b:Nat}{t:TypeId}{cs:Array Value}(k:FrS S w w')(h:Blk w b t cs)(hb:¬S b):Blk w' b t cs:=(k.block b h.lt hb).trans h
theorem FrS.rdT{t:TypeId}{A}{xs:List Value}(k:FrS S w w')(hn:NoT S w t)(h:RdT w t A xs):RdT w' t A xs:=fun hx=>by
 obtain⟨b,o,cs,fr,e1,e2,e3⟩:=h hx;refine⟨b,o,cs,fr,e1,(k.block b (lA e2) (fun h1=>?_)).trans e2,e3⟩;exact hn b h1 cs fr e2
theorem FrS.natR{A}{n c N:Nat}(k:FrS S w w')(hn:NoT S w 188)(h:aF w A n c N):aF w' A n c N:=by
 obtain⟨ds,h1,h2,h3,h4,h5⟩:=h;exact⟨ds,h1,h2,h3,h4,k.rdT hn h5⟩
theorem FrS.ratR{neg:Bool}{A}{n c:Nat}{A'}{n' c':Nat}{q:Rat}(k:FrS S w w')(hn:NoT S w 188)(h:aC w neg A n c A' n' c' q):aC w' neg A n c A' n' c' q:=
 ⟨h.1,k.natR hn h.2.1,k.natR hn h.2.2⟩
theorem FrS.qr{cs:List Value}{q:Rat}(k:FrS S w w')(hn:NoT S w 188)(h:QR w cs q):QR w' cs q:=by
 obtain⟨neg,A,n,c,A',n',c',e,h1⟩:=h;exact⟨neg,A,n,c,A',n',c',e,k.ratR hn h1⟩
theorem FrS.own{B n s:Nat}{e:TypeId}{v:Value}{xs:List Value}(k:FrS S w w')(h:w.ownsRow B e s v n xs)(hn:∀g,v.ownBlock=some g->¬S g):w'.ownsRow B e s v n xs:=by
 refine⟨h.1,?_⟩;rcases h.2 with h1|⟨g,cap,cur,h1,h2,h3,h4⟩
 ·exact .inl h1
 exact .inr ⟨g,cap,cur,h1,h2,(k.block g (lA h3) (hn g (by rw[h1];rfl))).trans h3,h4⟩
theorem FrS.oq{B:Nat}{v:Value}{qs:LQ}(k:FrS S w w')(hn:NoT S w 188)(h:OQ QR 35 w B v qs)(hv:∀g,v.ownBlock=some g->¬S g):OQ QR 35 w' B v qs:=by
 obtain⟨css,h1,h2,h3,h4⟩:=h;refine⟨css,h1,h2,k.own h3 hv,fun i q hq=>?_⟩;obtain⟨cs,k1,k2⟩:=h4 i q hq;exact⟨cs,k1,k.qr hn k2⟩
theorem bE{B n s:Nat}{e:TypeId}{v:Value}{xs:List Value}(h:w.ownsRow B e s v n xs){g:Nat}(hg:v.ownBlock=some g){t:TypeId}(ht:e≠t):∀cs fr,w.heap[g]?≠some (.cells cs t fr):=fun cs fr e2=>by
 (rcases h.2 with⟨h1,_⟩|⟨g',cap,cur,h1,h2,h3,h4⟩);{rw[h1]at hg;cases hg};{rw[h1]at hg;(injection hg with hg);(have hg:g'=g:=hg;subst hg;rw[h3]at e2;injection e2 with e2);(injection e2 with _ e2);exact ht e2}
theorem NoT.one{g:Nat}{t t':TypeId}{cs:Array Value}(h:Blk w g t cs)(ht:t≠t'):NoT (fun b=>b=g) w t':=fun b hb cs' fr e=>by
 subst hb;unfold Blk at h;rw[h]at e;injection e with e
 injection e with _ e
 exact ht e
theorem aS{B n s:Nat}{e:TypeId}{v:Value}{xs:List Value}(h:w.ownsRow B e s v n xs){g:Nat}(hg:v.ownBlock=some g):∃cs,Blk w g e cs:=by
 rcases h.2 with⟨h1,_⟩|⟨g',cap,cur,h1,h2,h3,h4⟩
 ·rw[h1]at hg;cases hg
 rw[h1]at hg;injection hg with hg
 have hg:g'=g:=hg;subst hg;exact⟨cur,h3⟩
theorem OQ.cell{B g c:Nat}{qs:LQ}{n:Nat}(h:OQ QR 35 w B (.s (sA g) n c) qs){i:Nat}{q:Rat}(hl:qs[i]?=some q):
  ∃(neg:Bool) (A:OA) (n c:Nat) (A':OA) (n' c':Nat),
   (w.cell? (aD g (i*3))=some (.bool neg)/\w.cell? (aD g (i*3+1))=some (.s A n c)/\w.cell? (aD g (i*3+2))=some (.s A' n' c'))/\
   (w.frozen? (aD g (i*3))=false/\w.frozen? (aD g (i*3+1))=false/\w.frozen? (aD g (i*3+2))=false)/\aC w neg A n c A' n' c' q:=by
 obtain⟨css,h1,h2,h3,h4⟩:=h;obtain⟨cs,k1,neg,A,n1,c1,A',n',c',rfl,k2⟩:=h4 i q hl;have hi:=(yH.1 hl).1;obtain⟨cb,hb⟩:=aS h3 (g:=g) rfl;have qa:∀k,k<3->w.cell? (aD g (i*3+k))=([.bool neg,.s A n1 c1,.s A' n' c']:List Value)[k]?:=fun k hk=>(by (have hf:=dW css h2 i k qO hk;rw[k1]at hf;rcases h3.2 with⟨e,_⟩|⟨g',cap,cur,e,_,h5,h6,h7,h8,h9⟩);{cases e};(injection e with e1 e2 e3);(injection e1 with e1);(injection e1 with e1);subst e1;have qe:Blk w g 35 cur:=h5;rw[qe.cell, <-kQw];rw[<-h9,xG,qE qO]at hf;exact hf);exact⟨neg,A,n1,c1,A',n',c',⟨qa 0 qO,qa 1 qO,qa 2 qO⟩,⟨hb.frozen _,hb.frozen _,hb.frozen _⟩,k2⟩
theorem oV{B g n c s k:Nat}{e:TypeId}{xs:List Value}(h:w.ownsRow B e s (.s (sA g) n c) n xs)(u:Value):(w.setCell (aD g k) u).ownsRow B e s (.s (sA g) n c) n (xs.set k u):=by
 refine⟨by rw[yV];exact h.1,?_⟩;rcases h.2 with⟨h3,h4⟩|⟨g',cap,cur,h3,h4,h5,h6,h7,h8,h9⟩
 ·cases h3
 have qa:=h3;injection h3 with e1 e2 e3
 injection e1 with e1
 injection e1 with e1
 subst e1;refine .inr ⟨g,cap,cur.setIfInBounds k u,qa,h4,(show Blk w g e cur from h5).sT k u,h6,h7,by simpa using h8,?_⟩;rw[Array.toList_setIfInBounds, <-h9,List.take_set]
theorem fH(w:World)(g i:Nat)(v0 v1 v2:Value):w.grownBy (((w.setCell (aD g i) v0).setCell (aD g (i+1)) v1).setCell (aD g (i+2)) v2) (some g):=
 ((aM w g i v0).trans (aM _ g (i+1) v1)).trans (aM _ g (i+2) v2)
theorem OQ.put{B g n c m:Nat}{qs:LQ}{q:Rat}{neg:Bool}{A}{n1 c1:Nat}{A'}{n' c':Nat}(h:OQ QR 35 w B (.s (sA g) n c) qs)(hn:qs.length=n)(hm:m<qs.length)(hl:aC w neg A n1 c1 A' n' c' q):
  OQ QR 35 (((w.setCell (aD g (m*3)) (.bool neg)).setCell (aD g (m*3+1)) (.s A n1 c1)).setCell (aD g (m*3+2)) (.s A' n' c')) B (.s (sA g) n c) (qs.set m q):=by
 obtain⟨css,h1,h2,h3,h4⟩:=h;rw[hn]at h3;obtain⟨cb,hb⟩:=aS h3 (g:=g) rfl;have g2:=fH w g (m*3) (.bool neg) (.s A n1 c1) (.s A' n' c');have qa:m<css.length:=qO;obtain⟨cs,qf⟩:∃cs,css[m]?=some cs:=⟨_,yG qa⟩;have qe:cs.length=3:=h2 cs (yJ qf);have e0:css=css.set m cs:=(by apply uK;intro i;by_cases e:m=i;{subst e;rw[yM qa];exact qf};rw[vN e]);have b:=oV (k:=m*3+2) (oV (k:=m*3+1) (oV (k:=m*3+0) h3 (.bool neg)) (.s A n1 c1)) (.s A' n' c');rw[e0,iQ css h2 m qa cs 0 _ qe qO,iQ css h2 m qa _ 1 _ (by simp[qe]) qO,iQ css h2 m qa _ 2 _ (by simp[qe]) qO]at b;have e3:((cs.set 0 (.bool neg)).set 1 (.s A n1 c1)).set 2 (.s A' n' c')=[.bool neg,.s A n1 c1,.s A' n' c']:=(by (rcases cs with _|⟨a0,_|⟨a1,_|⟨a2,_|⟨a3,r⟩⟩⟩⟩);all_goals first|(simp at qe;done)|rfl);rw[e3]at b;refine⟨css.set m [.bool neg,.s A n1 c1,.s A' n' c'],by simp[h1],fun c hcc=>?_,by rw[yV,hn];exact b,fun i p hi=>?_⟩;{(rcases xE hcc with h|h);{exact h2 c h};rw[h];rfl};by_cases e:m=i;{subst e;(rw[yM hm]at hi;injection hi with hi);subst hi;exact⟨_,yM qa,neg,A,n1,c1,A',n',c',rfl,hl.other g2 hb qD⟩};rw[vN e]at hi;obtain⟨qg,k1,k2⟩:=h4 i p hi;exact⟨qg,by rw[vN e];exact k1,k2.other g2 hb qD⟩
def RwC(w:World)(cs:List Value)(V:Value)(q:Rat):Prop:=
 ∃(neg:Bool) (A:OA) (n c:Nat) (A':OA) (n' c':Nat),cs=[V,.bool neg,.s A n c,.s A' n' c']/\aC w neg A n c A' n' c' q
theorem RwC.K{cs:List Value}{V:Value}{q:Rat}(h:RwC w cs V q)(hx:Ext w w'):RwC w' cs V q:=by
 obtain⟨neg,A,n,c,A',n',c',e,h1⟩:=h;exact⟨neg,A,n,c,A',n',c',e,h1.K hx⟩
theorem FrS.rwc{cs:List Value}{V:Value}{q:Rat}(k:FrS S w w')(hn:NoT S w 188)(h:RwC w cs V q):RwC w' cs V q:=by
 obtain⟨neg,A,n,c,A',n',c',e,h1⟩:=h;exact⟨neg,A,n,c,A',n',c',e,k.ratR hn h1⟩
end
end Go.Proofs.YtojpooidhilnfaaGreatDoor
namespace Go.Proofs.YtojpooidhilnfaaGreatDoor
open Go.Proofs.Tryz
namespace Sx
def sm:Nat->(Nat->Rat)->Rat
 |0,_=>0
 |n+1,f=>sm n f+f n
theorem sm_congr:∀(n:Nat) {f g:Nat->Rat},(∀k,k<n->f k=g k)->sm n f=sm n g
 |0,_,_,_=>rfl
 |n+1,f,g,h=>by
  show sm n f+f n=sm n g+g n;rw[sm_congr n (fun k hk=>h k qO),h n qO]
theorem sm_zero:∀(n:Nat) {f:Nat->Rat},(∀k,k<n->f k=0)->sm n f=0
 |0,_,_=>rfl
 |n+1,f,h=>by
  show sm n f+f n=0;rw[sm_zero n (fun k hk=>h k qO),h n qO];grind
theorem sm_add:∀(n:Nat) (f g:Nat->Rat),sm n (fun k=>f k+g k)=sm n f+sm n g
 |0,_,_=>by show(0:Rat)=0+0;grind
 |n+1,f,g=>by
  show sm n (fun k=>f k+g k)+(f n+g n)=(sm n f+f n)+(sm n g+g n);rw[sm_add n f g];grind
theorem eT:∀(n:Nat) (c:Rat) (f:Nat->Rat),sm n (fun k=>c*f k)=c*sm n f
 |0,c,_=>by show(0:Rat)=c*0;grind
 |n+1,c,f=>by
  show sm n (fun k=>c*f k)+c*f n=c*(sm n f+f n);rw[eT n c f];grind
theorem uV(n:Nat)(c:Rat)(f:Nat->Rat):sm n (fun k=>f k*c)=sm n f*c:=by
 rw[Rat.mul_comm, <-eT];exact sm_congr n fun k _=>Rat.mul_comm _ _
theorem jzcg(n:Nat)(f g:Nat->Rat):sm n (fun k=>f k-g k)=sm n f-sm n g:=by
 have h:=sm_add n (fun k=>f k-g k) g;have h2:sm n (fun k=>f k-g k+g k)=sm n f:=sm_congr n fun k _=>qG;rw[h2]at h;grind
theorem sm_one:∀(n:Nat) {f:Nat->Rat} {l:Nat},l<n->(∀k,k<n->k≠l->f k=0)->sm n f=f l
 |n+1,f,l,hl,h=>by
  show sm n f+f n=f l;by_cases e:l=n
  ·subst e
   rw[sm_zero l (fun k hk=>h k qO qO)];grind
  ·rw[sm_one n qO (fun k hk hkl=>h k qO hkl),h n qO (fun e2=>e e2.symm)];grind
theorem nH(n:Nat):∀(m:Nat) (f:Nat->Nat->Rat),sm n (fun k=>sm m (fun l=>f k l))=sm m (fun l=>sm n (fun k=>f k l))
 |0,f=>sm_zero n fun k _=>rfl
 |m+1,f=>by
  show sm n (fun k=>sm m (fun l=>f k l)+f k m)=sm m (fun l=>sm n (fun k=>f k l))+sm n (fun k=>f k m);rw[sm_add,nH n m f]
theorem lG:∀(n:Nat) {f:Nat->Rat},(∀k,k<n->0<=f k)->0<=sm n f
 |0,_,_=>vC
 |n+1,f,h=>by
  show 0<=sm n f+f n;have h1:=lG n (fun k hk=>h k qO);have h2:=h n qO;grind
theorem sm_le:∀(n:Nat) {f g:Nat->Rat},(∀k,k<n->f k<=g k)->sm n f<=sm n g
 |0,_,_,_=>vC
 |n+1,f,g,h=>by
  show sm n f+f n<=sm n g+g n;have h1:=sm_le n (fun k hk=>h k qO);have h2:=h n qO;grind
theorem jzch:∀(n:Nat) {f:Nat->Rat},0<sm n f->∃k,k<n/\0<f k
 |0,f,h=>absurd h (by show¬(0:Rat)<0;exact kZf)
 |n+1,f,h=>by
  have h:0<sm n f+f n:=h;by_cases h1:0<f n
  ·exact⟨n,qO,h1⟩
  ·obtain⟨k,hk,h2⟩:=jzch n (f:=f) qG
   exact⟨k,qO,h2⟩
def piv(M:Nat->Nat->Rat)(i e:Nat):Nat->Nat->Rat:=fun k v=>if k=i then M i v/M i e else M k v-M k e*(M i v/M i e)
def gB(bas:Nat->Nat)(i e:Nat):Nat->Nat:=fun k=>if k=i then e else bas k
structure gY(m nv:Nat)(M:Nat->Nat->Rat)(bas:Nat->Nat):Prop where
 unit:∀l,l<m->∀k,k<=m->M k (bas l)=if k=l then 1 else 0
 lt:∀l,l<m->bas l<nv
theorem gY.inj{m nv:Nat}{M:Nat->Nat->Rat}{bas:Nat->Nat}(h:gY m nv M bas){k l:Nat}(hk:k<m)(hl:l<m)(e:bas k=bas l):k=l:=by
 by_cases h1:k=l;{exact h1};have h2:=h.unit k hk k qO;have h3:=h.unit l hl k qO;rw[e]at h2;rw[h2,qE rfl,qF h1]at h3;exact absurd h3 qD
theorem gC(M:Nat->Nat->Rat)(i e v:Nat):piv M i e i v=M i v/M i e:=by unfold piv;rw[qE rfl]
theorem eB(M:Nat->Nat->Rat){i k:Nat}(e v:Nat)(h:k≠i):piv M i e k v=M k v-M k e*(M i v/M i e):=by unfold piv;rw[qF h]
theorem oW(bas:Nat->Nat)(i e:Nat):gB bas i e i=e:=by unfold gB;rw[qE rfl]
theorem nI(bas:Nat->Nat){i k:Nat}(e:Nat)(h:k≠i):gB bas i e k=bas k:=by unfold gB;rw[qF h]
theorem gY.pivot{m nv:Nat}{M:Nat->Nat->Rat}{bas:Nat->Nat}(h:gY m nv M bas){i e:Nat}(hi:i<m)(he:e<nv)(hp:M i e≠0):gY m nv (piv M i e) (gB bas i e):=by
 refine⟨fun l hl k hk=>?_,fun l hl=>?_⟩;{by_cases qa:l=i;{subst qa;rw[oW];by_cases qe:k=l;{subst qe;rw[gC,qE rfl];grind};rw[eB M e e qe,qF qe];grind};rw[nI bas e qa];have h0:=h.unit l hl i qO;rw[qF (fun e=>qa e.symm)]at h0;by_cases qe:k=i;{subst qe;rw[gC,h0,qF (fun e=>qa e.symm)];grind};rw[eB M e _ qe,h0,h.unit l hl k hk];grind};by_cases qa:l=i;{rw[qa,oW];exact he};rw[nI bas e qa];exact h.lt l hl
def Sp(m:Nat)(M M':Nat->Nat->Rat):Prop:=∃(A:Nat->Nat->Rat) (L:Nat->Rat),(∀k,k<m->∀v,M' k v=sm m fun l=>A k l*M l v)/\∀v,M' m v=M m v+sm m fun l=>L l*M l v
theorem Sp.refl(m:Nat)(M:Nat->Nat->Rat):Sp m M M:=⟨fun k l=>if k=l then 1 else 0,fun _=>0,fun k hk v=>by
 rw[sm_one m hk (fun l hl hlk=>by dsimp only;rw[qF (fun e=>hlk e.symm)];grind)];dsimp only;rw[qE rfl];grind,fun v=>by
 rw[sm_zero m (fun l _=>qG)];grind⟩
theorem Sp.trans{m:Nat}{M M' M2:Nat->Nat->Rat}(h:Sp m M M')(h2:Sp m M' M2):Sp m M M2:=by
 obtain⟨A,L,h3,h4⟩:=h;obtain⟨A',L',h5,h6⟩:=h2;have qa:∀(C:Nat->Rat) (v:Nat),sm m (fun l=>C l*M' l v)=sm m fun j=>(sm m fun l=>C l*A l j)*M j v:=fun C v=>(by have e1:sm m (fun l=>C l*M' l v)=sm m fun l=>sm m fun j=>C l*A l j*M j v:=sm_congr m fun l hl=>(by rw[h3 l hl v, <-eT];exact sm_congr m fun j _=>qG);rw[e1,nH];exact sm_congr m fun j _=>by rw[<-uV]);refine⟨fun k j=>sm m fun l=>A' k l*A l j,fun j=>L j+sm m fun l=>L' l*A l j,fun k hk v=>?_,fun v=>?_⟩;{rw[h5 k hk v,qa]};rw[h6 v,h4 v,qa,Rat.add_assoc, <-sm_add];congr 1;exact sm_congr m fun j _=>by grind
theorem Sp.fwd{m:Nat}(M:Nat->Nat->Rat){i:Nat}(e:Nat)(hi:i<m):Sp m M (piv M i e):=by
 refine⟨fun k l=>if k=i then(if l=i then 1/M i e else 0)else(if l=k then 1 else if l=i then-M k e/M i e else 0),fun l=>if l=i then-M m e/M i e else 0,fun k hk v=>?_,fun v=>?_⟩;{by_cases qa:k=i;{subst qa;rw[gC,sm_one m hi (fun l _ hl=>by dsimp only;rw[qE rfl,qF hl];grind)];dsimp only;rw[qE rfl,qE rfl];grind};rw[eB M e v qa];have e1:sm m (fun l=>(if k=i then(if l=i then 1/M i e else 0)else(if l=k then 1 else if l=i then-M k e/M i e else 0))*M l v)=sm m (fun l=>(if l=k then M k v else 0)+(if l=i then(-M k e/M i e)*M i v else 0)):=sm_congr m fun l _=>(by rw[qF qa];by_cases h1:l=k;{subst h1;rw[qE rfl,qE rfl,qF qa];grind};rw[qF h1,qF h1];by_cases h2:l=i;{subst h2;rw[qE rfl,qE rfl];grind};rw[qF h2,qF h2];grind);rw[e1,sm_add,sm_one m hk (fun l _ hl=>by rw[qF hl]),sm_one m hi (fun l _ hl=>by rw[qF hl]),qE rfl,qE rfl];grind};rw[eB M e v qO,sm_one m hi (fun l _ hl=>by dsimp only;rw[qF hl];grind)];dsimp only;rw[qE rfl];grind
theorem Sp.bwd{m:Nat}(M:Nat->Nat->Rat){i:Nat}(e:Nat)(hi:i<m)(hp:M i e≠0):Sp m (piv M i e) M:=by
 refine⟨fun k l=>if k=i then(if l=i then M i e else 0)else(if l=k then 1 else if l=i then M k e else 0),fun l=>if l=i then M m e else 0,fun k hk v=>?_,fun v=>?_⟩;{by_cases qa:k=i;{subst qa;rw[sm_one m hi (fun l _ hl=>by dsimp only;rw[qE rfl,qF hl];grind)];dsimp only;rw[qE rfl,qE rfl,gC];grind};have e1:sm m (fun l=>(if k=i then(if l=i then M i e else 0)else(if l=k then 1 else if l=i then M k e else 0))*piv M i e l v)=sm m (fun l=>(if l=k then piv M i e k v else 0)+(if l=i then M k e*piv M i e i v else 0)):=sm_congr m fun l _=>(by rw[qF qa];by_cases h1:l=k;{subst h1;rw[qE rfl,qE rfl,qF qa];grind};rw[qF h1,qF h1];by_cases h2:l=i;{subst h2;rw[qE rfl,qE rfl];grind};rw[qF h2,qF h2];grind);rw[e1,sm_add,sm_one m hk (fun l _ hl=>by rw[qF hl]),sm_one m hi (fun l _ hl=>by rw[qF hl]),qE rfl,qE rfl,eB M e v qa,gC];grind};rw[sm_one m hi (fun l _ hl=>by dsimp only;rw[qF hl];grind)];dsimp only;rw[qE rfl,eB M e v qO,gC];grind
theorem Sp.goal{m nv:Nat}{M M':Nat->Nat->Rat}{bas:Nat->Nat}(h:Sp m M M')(hd:gY m nv M bas)(v:Nat):M' m v=M m v+sm m fun l=>M' m (bas l)*M l v:=by
 obtain⟨A,L,_,h4⟩:=h;rw[h4 v];congr 1;refine sm_congr m fun l hl=>?_;have h5:=h4 (bas l);rw[hd.unit l hl m qO,qF qO,sm_one m hl (fun j hj hjl=>by rw[hd.unit l hl j qO,qF hjl];grind),hd.unit l hl l qO,qE rfl]at h5;rw[h5];grind
structure Bl(m nv:Nat)(M:Nat->Nat->Rat)(bas:Nat->Nat)(i e:Nat):Prop where
 hi:i<m
 he:e<nv
 neg:M m e<0
 first:∀v,v<e->0<=M m v
 pos:0<M i e
 least:∀k,k<m->0<M k e->M i nv/M i e<=M k nv/M k e
 tie:∀k,k<m->0<M k e->M i nv/M i e=M k nv/M k e->bas i<=bas k
theorem jzci{a b:Rat}(h:0<=a)(h2:0<b):0<=a/b:=by
 rw[Rat.div_def];exact vA h (vB (Rat.inv_pos.2 h2))
theorem jzlg{a b c:Rat}(h:0<c)(h2:a<=b/c):a*c<=b:=by
 have:=kQ5 h2 (vB h);have e:b/c*c=b:=qG;rw[e]at this;exact this
theorem Bl.feas{m nv:Nat}{M:Nat->Nat->Rat}{bas:Nat->Nat}{i e:Nat}(h:Bl m nv M bas i e)(hf:∀k,k<m->0<=M k nv):∀k,k<m->0<=piv M i e k nv:=fun k hk=>by
 have h0:=jzci (hf i h.hi) h.pos;by_cases qa:k=i;{subst qa;rw[gC];exact h0};rw[eB M e nv qa];by_cases hp:0<M k e;{have h1:=jzlg hp (h.least k hk hp);grind};have h1:=hf k hk;have h2:M k e*(M i nv/M i e)<=0:=(by have:=kQ5 (kQ4.1 hp) h0;grind);grind
theorem Bl.goal{m nv:Nat}{M:Nat->Nat->Rat}{bas:Nat->Nat}{i e:Nat}(h:Bl m nv M bas i e)(hf:∀k,k<m->0<=M k nv):M m nv<=piv M i e m nv/\(piv M i e m nv=M m nv->M i nv=0):=by
 have h0:=jzci (hf i h.hi) h.pos;have qa:m≠i:=(by have:=h.hi;omega);rw[eB M e nv qa];refine⟨?_,fun e2=>?_⟩;{have:=kQ5 (vB h.neg) h0;grind};have h3:M m e*(M i nv/M i e)=0:=qG;have h4:=h.neg;have h5:=h.pos;have h6:M i nv/M i e=0:=(by (rcases Rat.mul_eq_zero.1 h3 with h7|h7);{grind};exact h7);grind
theorem uW:∀(n:Nat) (f:Nat->Nat),(∀k,k<n+1->f k<n)->∃a b,a<b/\b<n+1/\f a=f b
 |0,f,h=>absurd (h 0 qO) qO
 |n+1,f,h=>by
  by_cases h1:∃a,a<n+1/\f a=f (n+1)
  ·obtain⟨a,ha,e⟩:=h1
   exact⟨a,n+1,ha,qO,e⟩
  ·have qa:∀k,k<n+1->f k≠f (n+1):=fun k hk e=>h1 ⟨k,hk,e⟩
   obtain⟨a,b,qe,hb,e⟩:=uW n (fun k=>if f k=n then f (n+1)else f k) (fun k hk=>by
    have h2:=h k qO;have h3:=h (n+1) qO;have h4:=qa k hk
    split <;> omega)
   refine⟨a,b,qe,qO,?_⟩;have h5:=qa a qO;have h6:=qa b hb;by_cases ea:f a=n
   ·by_cases eb:f b=n
    ·rw[ea,eb]
    ·rw[qE ea,qF eb]at e;exact absurd e.symm h6
   ·by_cases eb:f b=n
    ·rw[qF ea,qE eb]at e;exact absurd e h5
    ·rw[qF ea,qF eb]at e;exact e
def iS(p:Nat->Bool):Nat->Nat
 |0=>0
 |n+1=>2*iS p n+if p n then 1 else 0
theorem jzcj(p:Nat->Bool):∀n,iS p n<2^n
 |0=>by show 0<1;omega
 |n+1=>by
  have h:=jzcj p n;show 2*iS p n+(if p n then 1 else 0)<2^(n+1);rw[vD]
  split <;> omega
theorem jzck{p q:Nat->Bool}:∀{n:Nat},iS p n=iS q n->∀k,k<n->p k=q k
 |n+1,h,k,hk=>by
  have h:2*iS p n+(if p n then 1 else 0)=2*iS q n+(if q n then 1 else 0):=h;have e1:p n=q n:=by
   cases h1:p n <;> cases h2:q n
   ·rfl
   ·rw[h1,h2]at h;simp at h;omega
   ·rw[h1,h2]at h;simp at h;omega
   rfl
  have e2:iS p n=iS q n:=(by rw[e1]at h;omega);by_cases qa:k=n
  ·rw[qa];exact e1
  exact jzck e2 k qO
theorem uX{p:Nat->Prop}{a:Nat}:∀{b:Nat},a<=b->¬p a->p b->∃n,a<=n/\n<b/\¬p n/\p (n+1)
 |b,hab,ha,hb=>by
  induction b with
  |zero=>obtain rfl:a=0:=by omega
         exact absurd hb ha
  |succ b ih=>
   by_cases h:p b
   ·by_cases qa:a<=b
    ·obtain⟨n,h1,h2,h3⟩:=ih qa h
     exact⟨n,h1,qO,h3⟩
    ·obtain rfl:a=b+1:=by omega
     exact absurd hb ha
   ·by_cases qa:a<=b
    ·exact⟨b,qa,qO,h,hb⟩
    ·obtain rfl:a=b+1:=by omega
     exact absurd hb ha
theorem jzcl{p:Nat->Prop}{a b:Nat}(hab:a<=b)(ha:p a)(hb:¬p b):∃n,a<=n/\n<b/\p n/\¬p (n+1):=by
 obtain⟨n,h1,h2,h3,h4⟩:=uX (p:=fun n=> ¬p n) hab (fun h=>h ha) hb;exact⟨n,h1,h2,Classical.not_not.1 h3,h4⟩
theorem jzlh(f:Nat->Nat)(a:Nat):∀b,a<b->∃c,a<=c/\c<b/\∀n,a<=n->n<b->f n<=f c
 |b,hab=>by
  induction b with
  |zero=>omega
  |succ b ih=>
   by_cases h:a<b
   ·obtain⟨c,h1,h2,h3⟩:=ih h
    by_cases h4:f b<=f c
    ·exact⟨c,h1,qO,fun n h5 h6=>by
     by_cases e:n=b
     ·rw[e];exact h4
     ·exact h3 n h5 qO⟩
    ·exact⟨b,qO,qO,fun n h5 h6=>by
     by_cases e:n=b
     ·rw[e];exact yX _
     ·have:=h3 n h5 qO;omega⟩
   ·obtain rfl:a=b:=by omega
    exact⟨a,yX _,qO,fun n h5 h6=>by
     obtain rfl:n=a:=qO;exact yX _⟩
structure Run(m nv N:Nat)(M:Nat->Nat->Nat->Rat)(bas:Nat->Nat->Nat)(i e:Nat->Nat):Prop where
 dict:gY m nv (M 0) (bas 0)
 feas:∀k,k<m->0<=M 0 k nv
 bl:∀n,n<N->Bl m nv (M n) (bas n) (i n) (e n)
 nextM:∀n,n<N->M (n+1)=piv (M n) (i n) (e n)
 nextB:∀n,n<N->bas (n+1)=gB (bas n) (i n) (e n)
section
variable {m nv N:Nat} {M:Nat->Nat->Nat->Rat} {bas:Nat->Nat->Nat} {i e:Nat->Nat}
theorem Run.d(h:Run m nv N M bas i e):∀n,n<=N->gY m nv (M n) (bas n)/\∀k,k<m->0<=M n k nv
 |0,_=>⟨h.dict,h.feas⟩
 |n+1,hn=>by
  obtain⟨h1,h2⟩:=h.d n qO;have h3:=h.bl n qO;rw[h.nextM n qO,h.nextB n qO];exact⟨h1.pivot h3.hi h3.he (fun e=>by have:=h3.pos;rw[e]at this;exact absurd this qD),h3.feas h2⟩
theorem Run.sp(h:Run m nv N M bas i e){a b:Nat}(hab:a<=b)(hb:b<=N):Sp m (M a) (M b)/\Sp m (M b) (M a):=by
 induction b with
 |zero=>obtain rfl:a=0:=by omega
        exact⟨Sp.refl _ _,Sp.refl _ _⟩
 |succ b ih=>
  by_cases e2:a=b+1
  ·subst e2;exact⟨Sp.refl _ _,Sp.refl _ _⟩
  obtain⟨h1,h2⟩:=ih qO qO;have h3:=h.bl b qO;rw[h.nextM b qO];exact⟨h1.trans (Sp.fwd _ _ h3.hi),(Sp.bwd _ _ h3.hi (fun e=>by have:=h3.pos;rw[e]at this;exact absurd this qD)).trans h2⟩
theorem Run.sp2(h:Run m nv N M bas i e){a b:Nat}(ha:a<=N)(hb:b<=N):Sp m (M a) (M b):=by
 rcases Nat.le_total a b with h1|h1
 ·exact(h.sp h1 hb).1
 exact(h.sp h1 ha).2
theorem Run.mono(h:Run m nv N M bas i e){a b:Nat}(hab:a<=b)(hb:b<=N):M a m nv<=M b m nv:=by
 induction b with
 |zero=>obtain rfl:a=0:=by omega
        exact vC
 |succ b ih=>
  by_cases e2:a=b+1
  ·subst e2;exact vC
  have h1:=ih qO qO;have h3:=((h.bl b qO).goal (h.d b qO).2).1;rw[<-h.nextM b qO]at h3;exact kQs h1 h3
def inB(m:Nat)(bas:Nat->Nat)(v:Nat):Prop:=∃l,l<m/\bas l=v
theorem gY.ent{m nv:Nat}{M:Nat->Nat->Rat}{bas:Nat->Nat}(h:gY m nv M bas){v:Nat}(hv:M m v≠0):¬inB m bas v:=fun⟨l,hl,e⟩=>by
 have:=h.unit l hl m (yX _);rw[e,qF qO]at this;exact hv this
theorem Run.ent(h:Run m nv N M bas i e){n:Nat}(hn:n<N):¬inB m (bas n) (e n)/\inB m (bas (n+1)) (e n):=by
 have h1:=h.bl n hn;refine⟨(h.d n qO).1.ent (fun e2=>by have:=h1.neg;rw[e2]at this;exact absurd this qD),i n,h1.hi,?_⟩;rw[h.nextB n hn,oW]
theorem Run.came(h:Run m nv N M bas i e){n v:Nat}(hn:n<N)(h1:¬inB m (bas n) v)(h2:inB m (bas (n+1)) v):e n=v:=by
 obtain⟨l,hl,h3⟩:=h2;rw[h.nextB n hn]at h3;by_cases e2:l=i n;{rw[e2,oW]at h3;exact h3};rw[nI _ _ e2]at h3;exact absurd ⟨l,hl,h3⟩ h1
theorem Run.went(h:Run m nv N M bas i e){n v:Nat}(hn:n<N)(h1:inB m (bas n) v)(h2:¬inB m (bas (n+1)) v):bas n (i n)=v:=by
 obtain⟨l,hl,h3⟩:=h1;by_cases e2:l=i n;{rw[<-e2];exact h3};refine absurd ⟨l,hl,?_⟩ h2;rw[h.nextB n hn,nI _ _ e2];exact h3
theorem Run.still(h:Run m nv N M bas i e){n v:Nat}(hn:n<N)(hz:M n (i n) nv=0)(x:Rat)(hx:x≠0):(∃l,l<m/\bas n l=v/\M n l nv=x)↔∃l,l<m/\bas (n+1) l=v/\M (n+1) l nv=x:=by
 have hr:∀l,l≠i n->bas (n+1) l=bas n l/\M (n+1) l nv=M n l nv:=fun l hl=>(by rw[h.nextB n hn,h.nextM n hn,nI _ _ hl,eB _ _ _ hl,hz];exact⟨rfl,qG⟩);have qe:M (n+1) (i n) nv=0:=(by rw[h.nextM n hn,gC,hz];grind);constructor;{rintro ⟨l,hl,h1,h2⟩;have qa:l≠i n:=fun e2=>(by rw[e2,hz]at h2;exact hx h2.symm);obtain⟨h3,h4⟩:=hr l qa;exact⟨l,hl,by rw[h3];exact h1,by rw[h4];exact h2⟩};rintro ⟨l,hl,h1,h2⟩;have qa:l≠i n:=fun e2=>(by rw[e2,qe]at h2;exact hx h2.symm);obtain⟨h3,h4⟩:=hr l qa;exact⟨l,hl,by rw[<-h3];exact h1,by rw[<-h4];exact h2⟩
theorem Run.stay(h:Run m nv N M bas i e){a b v:Nat}(hab:a<=b)(hb:b<=N)(hz:∀n,a<=n->n<b->M n (i n) nv=0)(x:Rat)(hx:x≠0):(∃l,l<m/\bas a l=v/\M a l nv=x)↔∃l,l<m/\bas b l=v/\M b l nv=x:=by
 induction b with
 |zero=>obtain rfl:a=0:=by omega
        exact Iff.rfl
 |succ b ih=>
  by_cases e2:a=b+1
  ·subst e2;exact Iff.rfl
  exact(ih qO qO (fun n h1 h2=>hz n h1 qO)).trans (h.still qO (hz b qO qO) x hx)
theorem Run.twice(h:Run m nv N M bas i e){a b:Nat}(hab:a<b)(hb:b<=N)(hs:∀v,inB m (bas a) v↔inB m (bas b) v):False:=by
 have qz:M b m nv=M a m nv:=(by have h1:=(h.sp2 (a:=a) (b:=b) qO hb).goal (h.d a qO).1 nv;rw[sm_zero m (fun l hl=>by obtain⟨k,hk,qt⟩:=(hs (bas a l)).1 ⟨l,hl,rfl⟩;have:=(h.d b hb).1.unit k hk m (yX _);rw[qt,qF qO]at this;rw[this];grind)]at h1;grind);have hz:∀n,a<=n->n<b->M n (i n) nv=0:=fun n h1 h2=>(by refine((h.bl n qO).goal (h.d n qO).2).2 ?_;rw[<-h.nextM n qO];have h3:=h.mono h1 qO;have h4:=h.mono (a:=n) (b:=n+1) qO qO;have h5:=h.mono (a:=n+1) (b:=b) qO hb;grind);have qy:∀c c' v (x:Rat),a<=c->c<=b->a<=c'->c'<=b->x≠0->(∃l,l<m/\bas c l=v/\M c l nv=x)->∃l,l<m/\bas c' l=v/\M c' l nv=x:=fun c c' v x h1 h2 h3 h4 hx hp=>(by (rcases Nat.le_total c c' with h5|h5);{exact(h.stay h5 qO (fun n h6 h7=>hz n qO qO) x hx).1 hp};exact(h.stay h5 qO (fun n h6 h7=>hz n qO qO) x hx).2 hp);obtain⟨c',qo,qJ,qg⟩:=jzlh e a b hab;obtain⟨qB,qA⟩:=h.ent (n:=c') qO;obtain⟨c,qh,qk,qj⟩:∃c,a<=c/\c<b/\bas c (i c)=e c':=(by by_cases hA:inB m (bas a) (e c');{obtain⟨n,h1,h2,h3,h4⟩:=jzcl (p:=fun n=>inB m (bas n) (e c')) qo hA qB;exact⟨n,h1,qO,h.went qO h3 h4⟩};obtain⟨n,h1,h2,h3,h4⟩:=jzcl (p:=fun n=>inB m (bas n) (e c')) (a:=c'+1) (b:=b) qO qA (fun h5=>hA ((hs _).2 h5));exact⟨n,qO,h2,h.went qO h3 h4⟩);have qe:=h.bl c qO;have qa:=h.bl c' qO;have hD:=(h.d c qO).1;have qI:=(h.d c' qO).1;have qx:e c<e c':=(by have h1:=qg c qh qk;have h2:e c≠e c':=fun e2=>(h.ent (n:=c) qO).1 ⟨i c,qe.hi,by rw[qj,e2]⟩;omega);have hg:=(h.sp2 (a:=c) (b:=c') qO qO).goal hD (e c);have h1:=qa.first _ qx;have h2:=qe.neg;obtain⟨l,hl,qf⟩:=jzch m (f:=fun l=>M c' m (bas c l)*M c l (e c)) qG;have qC:M c' m (bas c l)≠0:=fun e2=>(by rw[e2]at qf;grind);have qn:=qI.ent qC;have qw:inB m (bas c) (bas c l):=⟨l,hl,rfl⟩;have qM:bas c l<=e c':=(by have qi:∃n,a<=n/\n<b/\e n=bas c l:=(by by_cases hA:inB m (bas a) (bas c l);{obtain⟨n,h3,h4,h5,h6⟩:=uX (p:=fun n=>inB m (bas n) (bas c l)) (a:=c') (b:=b) qO qn ((hs _).1 hA);exact⟨n,qO,h4,h.came qO h5 h6⟩};obtain⟨n,h3,h4,h5,h6⟩:=uX (p:=fun n=>inB m (bas n) (bas c l)) qh hA qw;exact⟨n,h3,qO,h.came qO h5 h6⟩);obtain⟨n,h3,h4,h5⟩:=qi;rw[<-h5];exact qg n h3 h4);by_cases qm:bas c l=e c';{have qH:l=i c:=hD.inj hl qe.hi (by rw[qm,qj]);rw[qm,qH]at qf;have h3:=qa.neg;have h4:=kQ5 (vB h3) (vB qe.pos);grind};have h3:=qa.first _ (show bas c l<e c' by omega);have h4:0<M c l (e c):=(by refine Rat.not_le.1 fun h5=>?_;have h6:=yT h5 h3;grind);have h0:M c l nv=0:=(by refine Classical.byContradiction fun hx=>?_;obtain⟨k,hk,qp,_⟩:=qy c c' (bas c l) _ qh qO qo qO hx ⟨l,hl,rfl,rfl⟩;exact qn ⟨k,hk,qp⟩);have h5:=qe.tie l hl h4 (by rw[h0,hz c qh qk];grind);rw[qj]at h5;omega
open Classical in
theorem Run.short(h:Run m nv N M bas i e):N<2^nv:=by
 refine Nat.lt_of_not_le fun hN=>?_;obtain⟨a,b,qa,hb,hc⟩:=uW (2^nv) (fun n=>iS (fun v=>decide (inB m (bas n) v)) nv) (fun n _=>jzcj _ nv);refine h.twice qa qO fun v=>?_;by_cases hv:v<nv;{have:=jzck hc v hv;simpa using this};exact⟨fun⟨l,hl,e2⟩=>absurd ((h.d a qO).1.lt l hl) qO,fun⟨l,hl,e2⟩=>absurd ((h.d b qO).1.lt l hl) qO⟩
end
end Sx
end Go.Proofs.YtojpooidhilnfaaGreatDoor
