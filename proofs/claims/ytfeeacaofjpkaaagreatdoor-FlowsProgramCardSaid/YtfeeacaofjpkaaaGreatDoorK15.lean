/- Walks, part 15. -/
import Derived.Test.YtfeeacaofjpkaaaGreatDoorK14
set_option linter.unusedVariables false
set_option linter.unusedSimpArgs false
set_option maxRecDepth 100000
set_option maxHeartbeats 8000000
namespace Go.Proofs.YtfeeacaofjpkaaaGreatDoor
open Go.Proofs.Tryz
open Go.RowKit
theorem wN{α:Type}(f:α->List Value)(m:Nat)(hf:∀x,(f x).length=m):∀(l:List α) (i k:Nat) {x:α},l[i]?=some x->k<m->(l.flatMap f)[i*m+k]?=(f x)[k]?
 | [],i,k,x,h,_=>by simp at h
 |y::l,0,k,x,h,hk=>by
  injection h with h
  subst h;rw[xU,Nat.zero_mul,kQu,yR (by rw[hf];exact hk)]
 |y::l,i+1,k,x,h,hk=>by
  rw[xU,yS (by rw[hf,xP,xQ];omega),hf,show(i+1)*m+k-m=i*m+k by rw[xP,xQ];omega];exact wN f m hf l i k (by simpa using h) hk
theorem jzdo{α:Type}(f:α->List Value)(m:Nat)(hf:∀x,(f x).length=m)(l:List α):(l.flatMap f).length=l.length*m:=by
 (induction l with|nil=>simp|cons y l ih=>rw[xU,yQ,ih,hf,kQo,xP,xQ];omega)
structure DmR(w:World)(l:List Dm)(A:OA)(c:Nat):Prop where
 len:l.length<=c
 cap:l.length<=281474976710656
 rd:Rd w A (l.flatMap Dm.cells)
 wf:∀d∈l,d.wf
theorem DmR.K{w w'}{l:List Dm}{A}{c:Nat}(h:DmR w l A c)(hx:Ext w w'):DmR w' l A c:=⟨h.len,h.cap,h.rd.K hx,h.wf⟩
theorem DmR.at_{w}{l:List Dm}{A}{c:Nat}(h:DmR w l A c){i:Nat}{d:Dm}(hl:l[i]?=some d):
  ∃b o:Nat,A=some (aD b o)/\b<w.heap.size/\w.cell? (aD b (o+i*4))=some (vI d.src)/\w.cell? (aD b (o+i*4+1))=some (vI d.dst)/\w.cell? (aD b (o+i*4+2))=some (vI d.amount)/\w.cell? (aD b (o+i*4+3))=some (vI d.prio):=by
 have hi:=(yH.1 hl).1;have qa:=jzdo Dm.cells 4 (fun _=>rfl) l;obtain⟨b,o,e,hb,hc⟩:=h.rd.at_ (i:=i*4) (by rw[qa];omega);have qe:∀k,k<4->w.cell? (aD b (o+(i*4+k)))=(Dm.cells d)[k]?:=fun k hk=>(by rw[hc (i*4+k) (by rw[qa];omega)];exact wN Dm.cells 4 (fun _=>rfl) l i k hl hk);exact⟨b,o,e,hb,qe 0 qO,qe 1 qO,qe 2 qO,qe 3 qO⟩
def dR(N:Int)(l:List Dm):Bool:=inB N 0 64&&decide (l.length<=64)&&l.all (Dm.ok N)
def dW(t:Tp)(l:List Dm):Bool:=aI t&&decide (0<l.length)&&dR t.nodes l
theorem rS{t}{l:List Dm}(hl:l.length<=64):dW t l=true↔Fit t l:=by
 constructor;{intro h;unfold dW dR at h;rw[vM,vM,vM,xW]at h;exact⟨h.1.1,by simpa using h.1.2,h.2.2⟩};intro h;have hn:inB t.nodes 0 64=true:=(by have:=h.v;unfold aI cU inB at this;unfold inB;simp at this⊢;omega);unfold dW dR;rw[h.v,hn,yO h.n,yO hl,xW.2 h.ok];rfl
theorem mV(n lo hi:Int)w:Calls prog 135 #[vI n,vI lo,vI hi] w fun e w'=>e=.returned (.bool (inB n lo hi))/\w=w':=by
 have hd:inB n lo hi=(decide (lo<=n)&&decide (n<=hi)):=(by unfold inB;simp);rw[hd];clear hd;by_cases h1:lo<=n;{(have qa:decide (lo<=n)=true:=by simpa using h1);rw[qa];go_enter func135,ntmps135;go_wp2;go_ret;exact⟨qS,rfl⟩};have qa:decide (lo<=n)=false:=(by simpa using h1);rw[qa];go_enter func135,ntmps135;go_wp2;go_ret;exact⟨qS,rfl⟩
theorem iC{l:List Dm}{N:Int}{k:Nat}{d:Dm}(hl:l[k]?=some d)(hb:d.ok N=false):l.all (Dm.ok N)=false:=by
 obtain⟨hk,he⟩:=yH.1 hl;rw[List.all_eq_false];exact⟨d,by rw[<-he];exact xR hk,by simp[hb]⟩
theorem jzdp{l:List Dm}{N:Int}(h:∀(j:Nat) (d:Dm),l[j]?=some d->d.ok N=true):l.all (Dm.ok N)=true:=by
 rw[xW];intro d hd;obtain⟨j,hj,rfl⟩:=List.mem_iff_getElem.1 hd;exact h j _ (yG hj)
theorem jzlo(N:Int)A(c:Nat)(l:List Dm)w(hd:DmR w l A c):
  Calls prog 70 #[vI N,.s A l.length c] w fun e w'=>e=.returned (.bool (dR N l))/\Ext w w':=by
 have HD:=Hx hd;have qj:=hd.len;have qg:=hd.cap;clear hd;cases k1:inB N 0 64
 ·have HR:=Hx (show dR N l=false by unfold dR;rw[k1];rfl)
  go_enter func70,ntmps70
  go_wp2_with (go_at_call 135;refine(mV _ _ _ _).mono ?_;rintro e w' ⟨rfl,rfl⟩)
  go_ret;rw[HR.o];exact⟨rfl,eR _⟩
 by_cases k2:l.length<=64
 case neg=>
  have qh:64<l.length:=qO;have HR:=Hx (show dR N l=false by unfold dR;rw[yP k2];simp)
  go_enter func70,ntmps70
  go_wp2_with (go_at_call 135;refine(mV _ _ _ _).mono ?_;rintro e w' ⟨rfl,rfl⟩)
  go_ret;rw[HR.o];exact⟨rfl,eR _⟩
 have HR:=Hx (show dR N l=l.all (Dm.ok N) by unfold dR;rw[k1,yO k2];rfl);have hN:0<=N/\N<=64:=(by unfold inB at k1;simpa using k1);obtain⟨qi,qf⟩:=hN
 go_enter func70,ntmps70
 go_wp2_with (go_at_call 135;refine(mV _ _ _ _).mono ?_;rintro e w' ⟨rfl,rfl⟩)
 clear k1
 go_loopg [17] l.length (fun q it wx=>∃n:Nat,l.length-n=q/\n<=l.length/\it=vI (n:Int)/\Hid ((∀j d,j<n->l[j]?=some d->d.ok N=true)/\Ext w wx))
 case atStart=>exact⟨0,rfl,yZ _,rfl,Hx ⟨fun j d h=>qO,eR _⟩⟩
 obtain⟨n,rfl,hn,rfl,I⟩:=hrel;by_cases qe:n<l.length
 ·obtain⟨d,hd⟩:∃d,l[n]?=some d:=⟨_,yG qe⟩
  have HL:=Hx hd;obtain⟨b,o,rfl,hb,c0,c1,c2,c3⟩:=(HD.o.K I.o.2).at_ hd;have nN:(n:Int)<(l.length:Int):=qO;have n0:(0:Int)<=(n:Int):=qO;have X9:=Hx (I.o.2.alloc (.cells #[vI d.src,vI d.dst,vI d.amount,vI d.prio] 60));have qa:((d.src==d.dst)=true/\d.ok N=false)\/((d.src==d.dst)=false/\inB d.src 0 (N-1)=false/\d.ok N=false)\/((d.src==d.dst)=false/\inB d.src 0 (N-1)=true/\inB d.dst 0 (N-1)=false/\d.ok N=false)\/
    ((d.src==d.dst)=false/\inB d.src 0 (N-1)=true/\inB d.dst 0 (N-1)=true/\inB d.amount 1 1048576=false/\d.ok N=false)\/
    ((d.src==d.dst)=false/\inB d.src 0 (N-1)=true/\inB d.dst 0 (N-1)=true/\inB d.amount 1 1048576=true/\inB d.prio 0 7=d.ok N):=by
   unfold Dm.ok;cases d.src==d.dst <;> cases inB d.src 0 (N-1) <;> cases inB d.dst 0 (N-1) <;> cases inB d.amount 1 1048576 <;> simp
  clear hd;rcases qa with⟨d1,hf⟩|⟨d1,d2,hf⟩|⟨d1,d2,d3,hf⟩|⟨d1,d2,d3,d4,hf⟩|⟨d1,d2,d3,d4,d5⟩
  case inr.inr.inr.inr=>
   cases hg:inB d.prio 0 7
   ·have HF:=Hx (iC HL.o (d5.symm.trans hg))
    clear d5
    go_wp2_with (go_at_call 135;refine(mV _ _ _ _).mono ?_;rintro e w' ⟨rfl,rfl⟩)
    go_ret;rw[HR.o,HF.o];exact⟨rfl,X9.o⟩
   have OK:=Hx (d5.symm.trans hg);clear d5
   go_wp2_with (go_at_call 135;refine(mV _ _ _ _).mono ?_;rintro e w' ⟨rfl,rfl⟩)
   go_roundg (l.length-(n+1))
   case measure=>omega
   case rel=>exact⟨n+1,rfl,qO,by go_num,Hx ⟨fun j d' hj hd'=>by
    by_cases e:j=n
    ·subst e;have:=HL.o;rw[this]at hd';injection hd' with hd';subst hd';exact OK.o
    exact I.o.1 j d' qO hd',X9.o⟩⟩
  all_goals
   have HF:=Hx (iC HL.o hf);clear hf
   go_wp2_with (go_at_call 135;refine(mV _ _ _ _).mono ?_;rintro e w' ⟨rfl,rfl⟩)
   go_ret;rw[HR.o,HF.o];exact⟨rfl,X9.o⟩
 obtain rfl:n=l.length:=qO;have HF:=Hx (jzdp (l:=l) (N:=N) (fun j d hj=>I.o.1 j d (yH.1 hj).1 hj));go_wp2;go_ret;rw[HR.o,HF.o];exact⟨rfl,I.o.2⟩
theorem jzdq t AO(co:Nat)AL(cl:Nat)(l:List Dm)A(c:Nat)w(ht:bD w t AO co AL cl)(hd:DmR w l A c):
  Calls prog 26 #[.agg #[vI t.nodes,.s AO t.over.length co,.s AL t.links.length cl],.s A l.length c] w fun e w'=>e=.returned (.bool (dW t l))/\Ext w w':=by
 have HT:=Hx (kQa ht hd);clear ht hd;obtain⟨qa,e0⟩:=bA w #[vI t.nodes,.s AO t.over.length co,.s AL t.links.length cl] 25;have BA:=Hx (kQa qa e0);obtain⟨⟨i0,i1,i2⟩,_⟩:=qa.t3;clear qa e0;go_enter func26,ntmps26;go_wp2_with fail;refine(pN t AO co AL cl _ (HT.o.1.K BA.o.2)).mono ?_;rintro e w1 ⟨rfl,qe⟩;have E1:=Hx (kQa (BA.o.1.K qe) (BA.o.2.tr qe));clear qe BA i0 i1 i2;obtain⟨⟨i0,i1,i2⟩,_⟩:=E1.o.1.t3;cases hv:aI t;{have HR:=Hx (show dW t l=false by unfold dW;rw[hv];rfl);go_wp2_with fail;go_ret;rw[HR.o];exact⟨rfl,E1.o.2⟩};by_cases hl:0<l.length;{have HR:=Hx (show dW t l=dR t.nodes l by unfold dW;rw[hv,yO hl];rfl);have qg:decide ((0:Int)<(l.length:Int))=true:=yO qO;go_wp2_with fail;refine(jzlo t.nodes A c l _ (HT.o.2.K E1.o.2)).mono ?_;rintro e w2 ⟨rfl,qf⟩;have E2:=Hx (E1.o.2.tr qf);clear qf;go_wp2_with fail;go_ret;rw[HR.o];exact⟨rfl,E2.o⟩};have HR:=Hx (show dW t l=false by unfold dW;rw[yP hl];simp);have qg:decide ((0:Int)<(l.length:Int))=false:=yP qO;go_wp2_with fail;go_ret;rw[HR.o];exact⟨rfl,E1.o.2⟩
section
variable {w w7:World} {B:Nat} {L:aU} {T:Sx.Tb}
def wO(T:Sx.Tb)(l:LN):Sx.Tb:=⟨T.rows,T.bas,l,T.goal,T.cols⟩
theorem aG.fre_push(h:aG w B L T){g7 c7 num:Nat}(own7:w7.ownsRow B 3 1 (.s (sA g7) (T.fre.length+1) c7) (T.fre.length+1) (ints T.fre++[vI (num:Int)]))(grow:w.grownBy w7 L.vf.ownBlock)(new7:some g7=L.vf.ownBlock\/w.heap.size<=g7):
  aG (w7.setCell (aD L.p 2) (.s (sA g7) (T.fre.length+1) c7)) B (L.setF (.s (sA g7) (T.fre.length+1) c7)) (wO T (T.fre++[num]))/\
   FrS L.S w (w7.setCell (aD L.p 2) (.s (sA g7) (T.fre.length+1) c7)):=by
 have k7:FrS (fun b=>L.vf.ownBlock=some b) w w7:=eG grow fun g e=>e;have n7:NoT (fun b=>L.vf.ownBlock=some b) w 196:=fun b hb=>bK h.fre hb qD;have qe:∀{b:Nat} {t:TypeId} {cs:Array Value},Blk w b t cs->3≠t->¬L.vf.ownBlock=some b:=fun hb ht e=>bK h.fre e ht _ _ hb;obtain⟨gs,h1,h2⟩:=h.box;have qg:=k7.blk h2 (qe h2 qD);have k8:FrS (fun b=>b=L.p) w7 (w7.setCell (aD L.p 2) (.s (sA g7) (T.fre.length+1) c7)):=eG (aO w7 L.p 2 _) fun g e=>(by injection e with e;exact e.symm);have n8:NoT (fun b=>b=L.p) w7 196:=NoT.one qg qD;have qa:∀{b:Nat} {t:TypeId} {cs:Array Value},Blk w7 b t cs->t≠147->¬b=L.p:=fun hb ht e=>(by rw[e]at hb;exact ht (aZ hb qg).2);have qh:∀{t:TypeId} {v:Value} {n s:Nat} {xs:List Value},w.ownsRow B t s v n xs->3≠t->t≠147->(w7.setCell (aD L.p 2) (.s (sA g7) (T.fre.length+1) c7)).ownsRow B t s v n xs:=fun ho ht ht2=>(by have qf:=k7.own ho fun b hb=>(by obtain⟨c,hc⟩:=aW ho hb;exact qe hc ht);exact k8.own qf fun b hb=>(by obtain⟨c,hc⟩:=aW qf hb;exact qa hc ht2));have qj:∀{v:Value} {qs:LQ},OQ QR 33 w B v qs->OQ QR 33 (w7.setCell (aD L.p 2) (.s (sA g7) (T.fre.length+1) c7)) B v qs:=fun {v qs} ho=>(by obtain⟨xs,hx⟩:=ho.own;have qf:=k7.oq n7 ho fun b hb=>(by obtain⟨c,hc⟩:=aW hx hb;exact qe hc qD);obtain⟨qp,qo⟩:=qf.own;exact k8.oq n8 qf fun b hb=>(by obtain⟨c,hc⟩:=aW qo hb;exact qa hc qD));obtain⟨n0,A0,m0,d0,qm,qn,qk,rfl,rr⟩:=h1;refine⟨⟨h.rl,h.lo,⟨_,⟨n0,A0,m0,d0,qm,qn,qk,rfl,k8.ratR n8 (k7.ratR n7 rr)⟩,qg.sT 2 _⟩,?_,h.bl,?_,?_,?_,fun i hi=>qj (h.co i hi),qj h.go,h.sep⟩,(k7.mono (S':=L.S) fun b hb=>.inr (.inr (.inr (.inl hb)))).tr k8 fun b hb=>.inl (.inl hb)⟩;{obtain⟨css,h1,h3,h4,h5⟩:=h.rows;refine⟨css,h1,h3,qh h4 qD qD,fun i hi=>?_⟩;obtain⟨c,h6,h7⟩:=h5 i hi;exact⟨c,h6,k8.rwc n8 (k7.rwc n7 h7)⟩};{have qi:=k7.own h.bas fun b hb e=>(by (rcases h.bf with h9|h9);{rw[h9]at hb;cases hb};exact h9 (hb.trans e.symm));exact k8.own qi fun b hb=>(by obtain⟨c,hc⟩:=aW qi hb;exact qa hc qD)};{show(w7.setCell _ _).ownsRow B 3 1 _ (T.fre++[num]).length (ints (T.fre++[num]));rw[kX,yQ];exact k8.own own7 fun b hb=>(by obtain⟨c,hc⟩:=aW own7 hb;exact qa hc qD)};(show L.vb.ownBlock=none\/L.vb.ownBlock≠some g7;rcases new7 with e|e);{rw[e];exact h.bf};refine .inr fun e2=>?_;have:=(h.bas.lt g7 e2).2;omega
end
def TmR(w:World)(PT:OA)(ts:List (Nat×Rat)):Prop:=
 ∃css:List (List Value),css.length=ts.length/\(∀cs∈css,cs.length=4)/\RdT w 128 PT css.flatten/\∀(i:Nat) (t:Nat×Rat),ts[i]?=some t->∃cs,css[i]?=some cs/\∃(neg:Bool) (A:OA) (n c:Nat) (A':OA) (n' c':Nat),cs=[vI (t.1:Int),.bool neg,.s A n c,.s A' n' c']/\aC w neg A n c A' n' c' t.2
theorem TmR.K{w w'}{PT}{ts:List (Nat×Rat)}(h:TmR w PT ts)(hx:Ext w w'):TmR w' PT ts:=by
 obtain⟨css,h1,h2,h3,h4⟩:=h;refine⟨css,h1,h2,h3.K hx,fun i t ht=>?_⟩;obtain⟨cs,k1,neg,A,n,c,A',n',c',k2,k3⟩:=h4 i t ht;exact⟨cs,k1,neg,A,n,c,A',n',c',k2,k3.K hx⟩
theorem TmR.fr{S:Nat->Prop}{w w'}{PT}{ts:List (Nat×Rat)}(h:TmR w PT ts)(k:FrS S w w')(n1:NoT S w 128)(n2:NoT S w 196):TmR w' PT ts:=by
 obtain⟨css,h1,h2,h3,h4⟩:=h;refine⟨css,h1,h2,k.rdT n1 h3,fun i t ht=>?_⟩;obtain⟨cs,k1,neg,A,n,c,A',n',c',k2,k3⟩:=h4 i t ht;exact⟨cs,k1,neg,A,n,c,A',n',c',k2,k.ratR n2 k3⟩
theorem TmR.at_{w}{PT}{ts:List (Nat×Rat)}(h:TmR w PT ts){i:Nat}{t:Nat×Rat}(ht:ts[i]?=some t):
  ∃(b o:Nat) (neg:Bool) (A:OA) (n c:Nat) (A':OA) (n' c':Nat),PT=some (aD b o)/\b<w.heap.size/\
   (w.cell? (aD b (o+i*4))=some (vI (t.1:Int))/\w.cell? (aD b (o+i*4+1))=some (.bool neg)/\w.cell? (aD b (o+i*4+2))=some (.s A n c)/\w.cell? (aD b (o+i*4+3))=some (.s A' n' c'))/\aC w neg A n c A' n' c' t.2:=by
 obtain⟨css,h1,h2,h3,h4⟩:=h;obtain⟨cs,k1,neg,A,n,c,A',n',c',rfl,k3⟩:=h4 i t ht;have hi:=(yH.1 ht).1;have qa:=gG css h2;obtain⟨b,o,e,qf,hc⟩:=h3.rd (by intro e;rw[e]at qa;simp at qa;omega);have qe:∀k,k<4->w.cell? (aD b (o+i*4+k))=([vI (t.1:Int),.bool neg,.s A n c,.s A' n' c']:List Value)[k]?:=fun k hk=>(by rw[kZw,hc (i*4+k) (by rw[qa];omega),eS css h2 i k qO hk,k1];rfl);exact⟨b,o,neg,A,n,c,A',n',c',e,qf,⟨qe 0 qO,qe 1 qO,qe 2 qO,qe 3 qO⟩,k3⟩
theorem oN{w:World}{B n s:Nat}{e:TypeId}{v:Value}{xs:List Value}(h:w.ownsRow B e s v n xs):∃A c,v=.s A n c/\n<=c:=by
 rcases h.2 with⟨h3,h4⟩|⟨g',cap,cur,h3,h4,h5,h6,_⟩
 ·exact⟨none,0,by rw[h3,h4],qO⟩
 exact⟨_,cap,h3,h6⟩
theorem QB.fr{S:Nat->Prop}{w w'}{g:Nat}{qs:LQ}(h:QB w g qs)(k:FrS S w w')(hn:NoT S w 196)(hg:¬S g):QB w' g qs:=by
 obtain⟨css,h1,h2,h3,h4⟩:=h;refine⟨css,h1,h2,k.blk h3 hg,fun i q hq=>?_⟩;obtain⟨cs,k1,k2⟩:=h4 i q hq;exact⟨cs,k1,k.qr hn k2⟩
theorem jzlp(m:Nat)(ts:List (Nat×Rat)){n:Nat}{t:Nat×Rat}(h:ts[n]?=some t):aR m (ts.take (n+1))=(aR m (ts.take n)).set t.1 t.2:=by
 unfold aR;rw[kQr,h];show(ts.take n++[t]).foldl _ _=_;rw[kZt];rfl
theorem rT(T:Sx.Tb)(vals:LQ)(n:Nat):Sx.slk T vals (n+1)=if Sx.atN T.fre n<vals.length/\Sx.at_ vals (Sx.atN T.fre n)≠0 then Sx.slk T vals n++[n]else Sx.slk T vals n:=rfl
theorem lV(T:Sx.Tb)(vals:LQ):∀(n:Nat),∀j∈Sx.slk T vals n,j<n/\Sx.atN T.fre j<vals.length
 |0,_,h=>by cases h
 |n+1,j,h=>by
  rw[rT]at h;by_cases hc:Sx.atN T.fre n<vals.length/\Sx.at_ vals (Sx.atN T.fre n)≠0
  ·rw[qE hc]at h
   rcases xY.1 h with h|h
   ·have:=lV T vals n j h
    exact⟨qO,this.2⟩
   ·rw[xD.1 h]
    exact⟨qO,hc.1⟩
  ·rw[qF hc]at h
   have:=lV T vals n j h;exact⟨qO,this.2⟩
theorem jzdr(T:Sx.Tb)(vals:LQ):∀(n:Nat),(Sx.slk T vals n).length<=n
 |0=>yX _
 |n+1=>by
  rw[rT];have:=jzdr T vals n
  split
  ·rw[yQ];simp;omega
  ·omega
structure eY(w wx:World)(B:Nat)(L:aU)(Tc:Sx.Tb)(gt gl:Nat)(nc:Bool)(AC:OA)(lc cc:Nat)(AC':OA)(lc' cc':Nat)(vs:LQ):Prop where
 tab:aG wx B L Tc
 fr:FrS L.S w wx
 bt:Blk wx gt 80 #[.pointer (sA L.p)]
 bc:Blk wx (gt+1) 33 #[.bool nc,.s AC lc cc,.s AC' lc' cc']
 bv:Blk wx (gl+1) 35 #[.s (sA gl) L.m L.m]
 qb:QB wx gl vs
section
variable {w wx wy:World} {B:Nat} {L:aU} {Tc:Sx.Tb} {gt gl:Nat} {nc:Bool} {AC:Option Addr} {lc cc:Nat} {AC':Option Addr} {lc' cc':Nat} {vs:List Rat}
theorem eY.K(h:eY w wx B L Tc gt gl nc AC lc cc AC' lc' cc' vs)(hx:Ext wx wy):eY w wy B L Tc gt gl nc AC lc cc AC' lc' cc' vs:=
 ⟨h.tab.K hx,h.fr.tr (eE (S:=L.S) hx) fun b hb=>.inl hb,h.bt.K hx,h.bc.K hx,h.bv.K hx,h.qb.K hx⟩
theorem eY.put(h:eY w wx B L Tc gt gl nc AC lc cc AC' lc' cc' vs)(h1:w.heap.size<=gl)(h2:gt+1<gl)(h0:¬L.S gl){x:Nat}(hx:x<vs.length){neg:Bool}{A}{n c:Nat}{A'}{n' c':Nat}{q:Rat}(hq:aC wx neg A n c A' n' c' q):
  eY w (((wx.setCell (aD gl (x*3)) (.bool neg)).setCell (aD gl (x*3+1)) (.s A n c)).setCell (aD gl (x*3+2)) (.s A' n' c')) B L Tc gt gl nc AC lc cc AC' lc' cc' (vs.set x q):=by
 have k:FrS (fun b=>b=gl) wx (((wx.setCell (aD gl (x*3)) (.bool neg)).setCell (aD gl (x*3+1)) (.s A n c)).setCell (aD gl (x*3+2)) (.s A' n' c')):=eG (dX wx gl (x*3) _ _ _) fun g e=>(by injection e with e;exact e.symm);obtain⟨cs,hb⟩:=h.qb.blk;have qa:NoT (fun b=>b=gl) wx 196:=NoT.one hb qD;exact⟨h.tab.far k qa fun b hb hs=>h0 (hb▸hs),(h.fr.tr k fun b hb=>.inr (by rw[hb];exact h1)),k.blk h.bt qO,k.blk h.bc qO,k.blk h.bv qO,h.qb.put hx hq⟩
theorem eY.far{S:Nat->Prop}(h:eY w wx B L Tc gt gl nc AC lc cc AC' lc' cc' vs)(k:FrS S wx wy)(n32:NoT S wx 196)(hs:∀b,S b->w.heap.size<=b/\¬L.S b/\b≠gt/\b≠gt+1/\b≠gl/\b≠gl+1):eY w wy B L Tc gt gl nc AC lc cc AC' lc' cc' vs:=
 ⟨h.tab.far k n32 fun b hb=>(hs b hb).2.1,h.fr.tr k fun b hb=>.inr (hs b hb).1,k.blk h.bt fun hb=>(hs _ hb).2.2.1 rfl,k.blk h.bc fun hb=>(hs _ hb).2.2.2.1 rfl,k.blk h.bv fun hb=>(hs _ hb).2.2.2.2.2 rfl,h.qb.fr k n32 fun hb=>(hs _ hb).2.2.2.2.1 rfl⟩
end
structure iD(wx:World)(B0:Nat)(L:aU)(gt gl gs:Nat)(vs:LQ)(vS:Value)(js:LN):Prop where
 bt:Blk wx gt 80 #[.pointer (sA L.p)]
 bv:Blk wx (gl+1) 35 #[.s (sA gl) L.m L.m]
 qb:QB wx gl vs
 sb:Blk wx gs 42 #[vS]
 sr:wx.ownsRow B0 3 1 vS js.length (ints js)
theorem iD.fr{S:Nat->Prop}{wx wy}{B0:Nat}{L:aU}{gt gl gs:Nat}{vs:LQ}{vS:Value}{js:LN}(h:iD wx B0 L gt gl gs vs vS js)(k:FrS S wx wy)(n32:NoT S wx 196)(hs:∀b,S b->b≠gt/\b≠gl/\b≠gl+1/\b≠gs/\vS.ownBlock≠some b):iD wy B0 L gt gl gs vs vS js:=
 ⟨k.blk h.bt fun hb=>(hs _ hb).1 rfl,k.blk h.bv fun hb=>(hs _ hb).2.2.1 rfl,h.qb.fr k n32 fun hb=>(hs _ hb).2.1 rfl,k.blk h.sb fun hb=>(hs _ hb).2.2.2.1 rfl,k.own h.sr fun b hb hS=>(hs _ hS).2.2.2.2 hb⟩
structure iE(W6 wx:World)(B:Nat)(L Ln:aU)(T':Sx.Tb):Prop where
 tab:aG wx B Ln T'
 loc:Ln.p=L.p/\Ln.vr=L.vr/\Ln.vb=L.vb/\Ln.vf=L.vf/\Ln.m=L.m
 far:∀b,Ln.S b->L.S b\/W6.heap.size<=b
 fr:FrS L.S W6 wx
theorem iE.K{W6 wx wy}{B:Nat}{L Ln:aU}{T':Sx.Tb}(h:iE W6 wx B L Ln T')(hx:Ext wx wy):iE W6 wy B L Ln T':=⟨h.tab.K hx,h.loc,h.far,h.fr.tr (eE (S:=L.S) hx) fun b hb=>.inl hb⟩
theorem jzds{W6 wx:World}{L Ln:aU}{k g' n c':Nat}(far:∀b,Ln.S b->L.S b\/W6.heap.size<=b)(hk:k<=Ln.m)(hw:W6.heap.size<=wx.heap.size)(hg:some g'=(Ln.V k).ownBlock\/wx.heap.size<=g'):∀b,(Ln.setV k (.s (sA g') n c')).S b->L.S b\/W6.heap.size<=b:=by
 (intro b hb;rcases hb with rfl|hb|hb|hb|⟨i,hi,hb⟩);{exact far _ (.inl rfl)};{exact far _ (.inr (.inl hb))};{exact far _ (.inr (.inr (.inl hb)))};{exact far _ (.inr (.inr (.inr (.inl hb))))};by_cases e:i=k;{subst e;(rw[Ln.setV_same]at hb;injection hb with hb);(have hb:g'=b:=hb;subst hb;rcases hg with h1|h1);{exact far _ (.inr (.inr (.inr (.inr ⟨i,hk,h1.symm⟩))))};exact .inr (yY hw h1)};rw[Ln.setV_ne _ e]at hb;exact far _ (.inr (.inr (.inr (.inr ⟨i,hi,hb⟩))))
theorem jzdt{w:World}{B n c:Nat}{e:TypeId}{A}{xs:List Value}(h:w.ownsRow B e 1 (.s A n c) n xs):RdT w e A xs:=by
 obtain⟨A',c',e1,_,h2⟩:=jzi3 h;injection e1 with e1;rw[e1];exact h2
section
variable {W6 wx:World} {B B0 P gt gl gs:Nat} {L Ln:aU} {T T':Sx.Tb} {vals:List Rat} {vS:Value} {js:List Nat}
theorem jzdu(h:aG wx B Ln T')(hf:T'.fre=T.fre)(hp:Ln.p=L.p)(hjs:∀j∈js,j<T.fre.length):∀j∈js,∃gf K cf,wx.cell? (aD L.p 2)=some (.s (sA gf) K cf)/\j<K/\wx.cell? (aD gf j)=some (vI (Sx.atN T.fre j:Nat)):=fun j hj=>by
 have qf:=hjs j hj;obtain⟨gf,cf,qe,_⟩:=h.vf_form (by rw[hf];omega);obtain⟨cp,qg,_,p0,p1,p2,p7⟩:=h.goa;have qa:=h.fre;rw[qe,hf]at qa;rw[qe,hf]at p2;exact⟨gf,T.fre.length,cf,by rw[<-hp];exact(qg.cell 2).trans p2,qf,gX qa qf⟩
theorem jzdv(h:iE W6 wx B L Ln T'){k g:Nat}{t:TypeId}{cs:Array Value}(hk:k<=Ln.m)(hb:Blk wx g t cs)(ht:t≠196)(hg:L.S g)(hfar:∀b,L.S b->b≠gt/\b≠gl/\b≠gl+1/\b≠gs/\vS.ownBlock≠some b)(hlt:∀b,W6.heap.size<=b->b≠gt/\b≠gl/\b≠gl+1/\b≠gs/\vS.ownBlock≠some b):
  NoT (fun x=>x=g\/(Ln.V k).ownBlock=some x) wx 196/\(∀b,(b=g\/(Ln.V k).ownBlock=some b)->L.S b\/W6.heap.size<=b)/\∀b,(b=g\/(Ln.V k).ownBlock=some b)->b≠gt/\b≠gl/\b≠gl+1/\b≠gs/\vS.ownBlock≠some b:=by
 have h2:∀b,(b=g\/(Ln.V k).ownBlock=some b)->L.S b\/W6.heap.size<=b:=fun b hb=>(by (rcases hb with rfl|hb);{exact .inl hg};exact h.far b (.inr (.inr (.inr (.inr ⟨k,hk,hb⟩)))));refine⟨fun b hbb c fr e=>?_,h2,fun b hbb=>?_⟩;{(rcases hbb with rfl|hbb);{exact NoT.one hb ht b rfl c fr e};obtain⟨qs,h3⟩:=h.tab.oq hk;obtain⟨xs,h4⟩:=h3.own;exact bK h4 hbb qD c fr e};(rcases h2 b hbb with h3|h3);{exact hfar b h3};exact hlt b h3
theorem jzlq(n g cr:Nat)(h:iE W6 wx B L Ln (dQ T vals n))(hb:iD wx B0 L gt gl gs vals vS js)(hjs:js=Sx.slk T vals T.fre.length)(hrl:T.rows.length=L.m)(hB:B<=wx.heap.size)
  (hfar:∀b,L.S b->b≠gt/\b≠gl/\b≠gl+1/\b≠gs/\vS.ownBlock≠some b) (hlt:∀b,W6.heap.size<=b->b≠gt/\b≠gl/\b≠gl+1/\b≠gs/\vS.ownBlock≠some b)
  (hn:n<L.m) (hvr:L.vr=.s (sA g) L.m cr) (hok:OkT T) (hsz:SzT T P) (hP1:1<=P) (hP:P<=10000) (hm:L.m<=1000) (hK:T.fre.length<=100000000000) (hvl:vals.length=L.m) (hvz:∀q∈vals,SzQ q P) (hjl:js.length<=1000):
  Calls prog 136 #[.pointer (some (aD g (n*4))),vI (Sx.atN T.bas n:Nat),.pointer (sA (gl+1)),.pointer (sA gs),.pointer (sA gt)] wx
   fun e w'=>e=.returned (.tuple #[])/\∃L2,iE W6 w' B L L2 (dQ T vals (n+1))/\iD w' B0 L gt gl gs vals vS js:=by
 obtain⟨e1,e2,e3,e4,e5⟩:=h.loc;have qh:n<T.rows.length:=qO;have qg:(dQ T vals n).row n=T.row n:=(by rw[jzj3 _ _ _ qh,qF qO]);have qf:Ln.vr=.s (sA g) Ln.m cr:=(by rw[e2,e5];exact hvr);have qe:n<Ln.m:=qO;obtain⟨cb,qj,nr,R1,m1,d1,qy,qw,qt,r0,r1,r2,r3,qx⟩:=h.tab.rwa qe qf;have hX:=h.tab.co n qe;rw[qg]at hX;obtain⟨SA,qo,qn,qz⟩:=oN hb.sr;have qm:=hb.sb;have qk:=hb.sr;rw[qn]at qm qk;have qi:∀j∈js,j<T.fre.length/\Sx.atN T.fre j<L.m:=fun j hj=>(by rw[hjs]at hj;have:=lV T vals _ j hj;rw[hvl]at this;exact this);have qp:=hok.cl n qh;have qa:(∃i:Nat,((Sx.atN T.bas n:Nat):Int)=(i:Int)/\i<L.m/\(if Sx.atN T.bas n<vals.length then Sx.at_ vals (Sx.atN T.bas n)else 0)=Sx.at_ vals i)\/(¬(0<=((Sx.atN T.bas n:Nat):Int)/\((Sx.atN T.bas n:Nat):Int)<(L.m:Int))/\(if Sx.atN T.bas n<vals.length then Sx.at_ vals (Sx.atN T.bas n)else 0)=0):=(by by_cases e:Sx.atN T.bas n<vals.length;{exact .inl ⟨_,rfl,qO,qE e⟩};exact .inr ⟨qO,qF e⟩)
 refine(jzcb T wx B g (n*4) L.p (gl+1) gl gs gt P L.m qo SA 145 cb (Ln.V n) (T.row n).co vals js _ _ hB qj r0 hX qD qD hb.bv hb.qb hvl qm (jzdt qk).rd hb.bt
  (jzdu h.tab rfl e1 fun j hj=>(qi j hj).1) (fun j hj=>⟨by rw[qp];exact(qi j hj).1,(qi j hj).2⟩) qa qO (hsz.co n qh) hvz hP hP1 hjl qO).mono ?_
 rintro e w' ⟨g',c',rfl,o9,b9,f9,n9⟩;have ht:=h.tab.row_push qe qf qj b9 o9 f9 n9;have hS:L.S g:=.inr (.inl (by rw[hvr];rfl));obtain⟨k1,k2,k3⟩:=jzdv (gt:=gt) (gl:=gl) (gs:=gs) (vS:=vS) h (kQe qe) qj qD hS hfar hlt;refine⟨rfl,Ln.setV n (.s (sA g') ((T.row n).co.length+1) c'),⟨?_,⟨e1,e2,e3,e4,e5⟩,jzds h.far (kQe qe) h.fr.size n9,h.fr.tr f9 k2⟩,hb.fr f9 k1 k3⟩;rw[qg]at ht;rw[jzj6 T vals qh];unfold Sx.addR;rw[<-hjs];exact ht
theorem jzlr(h:iE W6 wx B L Ln (dQ T vals L.m))(hb:iD wx B0 L gt gl gs vals vS js)(hjs:js=Sx.slk T vals T.fre.length)(hrl:T.rows.length=L.m)(hB:B<=wx.heap.size)
  (hfar:∀b,L.S b->b≠gt/\b≠gl/\b≠gl+1/\b≠gs/\vS.ownBlock≠some b) (hlt:∀b,W6.heap.size<=b->b≠gt/\b≠gl/\b≠gl+1/\b≠gs/\vS.ownBlock≠some b)
  (hok:OkT T) (hsz:SzT T P) (hP1:1<=P) (hP:P<=10000) (hm:L.m<=1000) (hK:T.fre.length<=100000000000) (hvl:vals.length=L.m) (hvz:∀q∈vals,SzQ q P) (hjl:js.length<=1000):
  Calls prog 136 #[.pointer (some (aD L.p 3)),vI (-1),.pointer (sA (gl+1)),.pointer (sA gs),.pointer (sA gt)] wx
   fun e w'=>e=.returned (.tuple #[])/\∃(L2:aU) (g' c':Nat),L2.V L.m=.s (sA g') (T.fre.length+1) c'/\iE W6 w' B L L2 (fU (dQ T vals L.m) ⟨T.goal.co++[Sx.addC T vals T.goal.co 0 js],T.goal.re⟩)/\iD w' B0 L gt gl gs vals vS js:=by
 obtain⟨e1,e2,e3,e4,e5⟩:=h.loc;obtain⟨cb,qi,⟨nr,R1,m1,d1,qt,qo,qn,r0,r1,r2,r3,qp⟩,p0,p1,p2,p7⟩:=h.tab.goa;have hX:OQ QR 33 wx B (Ln.V Ln.m) T.goal.co:=h.tab.go;obtain⟨SA,qm,qk,qw⟩:=oN hb.sr;have qh:=hb.sb;have qg:=hb.sr;rw[qk]at qh qg;have qe:∀j∈js,j<T.fre.length/\Sx.atN T.fre j<L.m:=fun j hj=>by
  rw[hjs]at hj;have:=lV T vals _ j hj;rw[hvl]at this;exact this
 have qj:=hok.gl;have qa:=qi;rw[e1]at qa;refine(jzcb T wx B L.p 3 L.p (gl+1) gl gs gt P L.m qm SA 147 cb (Ln.V Ln.m) T.goal.co vals js (-1) 0 hB qa r0 hX qD qD hb.bv hb.qb hvl qh (jzdt qg).rd hb.bt
  (jzdu h.tab rfl e1 fun j hj=>(qe j hj).1) (fun j hj=>⟨by rw[qj];exact(qe j hj).1,(qe j hj).2⟩) (.inr ⟨qO,rfl⟩) qO hsz.go hvz hP hP1 hjl qO).mono ?_
 rintro e w' ⟨g',c',rfl,o9,b9,f9,n9⟩;obtain⟨k1,k2,k3⟩:=jzdv (gt:=gt) (gl:=gl) (gs:=gs) (vS:=vS) h (yX _) qa qD (.inl rfl) hfar hlt;rw[<-e1]at b9;have qf:=f9;rw[<-e1]at qf;have ht:=h.tab.goal_push qi b9 o9 qf n9;refine⟨rfl,Ln.setV Ln.m (.s (sA g') (T.goal.co.length+1) c'),g',c',?_,⟨ht,⟨e1,e2,e3,e4,e5⟩,jzds h.far (yX _) h.fr.size n9,h.fr.tr f9 k2⟩,hb.fr f9 k1 k3⟩;rw[<-e5,Ln.setV_same,qj]
end
theorem aG.go_set{w}{B:Nat}{L:aU}{T:Sx.Tb}(h:aG w B L T){gv K cv n:Nat}{q:Rat}{neg:Bool}{A}{n1 c1:Nat}{A'}{n1' c1':Nat}(hV:L.V L.m=.s (sA gv) K cv)(hK:T.goal.co.length=K)(hn:n<K)(hq:aC w neg A n1 c1 A' n1' c1' q):
  aG (((w.setCell (aD gv (n*3)) (.bool neg)).setCell (aD gv (n*3+1)) (.s A n1 c1)).setCell (aD gv (n*3+2)) (.s A' n1' c1')) B L (fU T ⟨T.goal.co.set n q,T.goal.re⟩)/\
  FrS L.S w (((w.setCell (aD gv (n*3)) (.bool neg)).setCell (aD gv (n*3+1)) (.s A n1 c1)).setCell (aD gv (n*3+2)) (.s A' n1' c1')):=by
 obtain⟨cs,hb,hr,_⟩:=h.goa;have qj:=dX w gv (n*3) (.bool neg) (.s A n1 c1) (.s A' n1' c1');obtain⟨xs,ho⟩:=h.go.own;obtain⟨cr,qa⟩:=aW ho (show(L.V L.m).ownBlock=some gv by rw[hV];rfl);have qh:L.p≠gv:=fun e=>(by rw[<-e]at qa;have:=(aZ hb qa).2;exact absurd this qD);have hF:FrS (fun b=>b=gv) w (((w.setCell (aD gv (n*3)) (.bool neg)).setCell (aD gv (n*3+1)) (.s A n1 c1)).setCell (aD gv (n*3+2)) (.s A' n1' c1')):=eG qj fun b e=>(by injection e with e;exact e.symm);have qi:NoT (fun b=>b=gv) w 196:=NoT.one qa qD;obtain⟨rn,RA,qk,qm,qg,qf,qe,r0,r1,r2,r3,rr⟩:=hr;refine⟨h.goal_upd hV hb (hF.blk hb qh) (lS.refl _ _) ⟨rn,RA,qk,qm,qg,qf,qe,r0,r1,r2,r3,hF.ratR qi rr⟩ ?_ (hF.mono fun b hb=>.inr hb),hF.mono fun b hb=>.inr (.inr (.inr (.inr ⟨L.m,yX _,by rw[hV,hb];rfl⟩)))⟩;rw[hV];have:=h.go;rw[hV]at this;exact this.put hK (by rw[hK];exact hn) hq
theorem jzls{T:Sx.Tb}{vals:LQ}{m:Nat}(hrl:T.rows.length=m)(cost:Rat):wO (fU (dQ T vals m) ⟨T.goal.co++[Sx.addC T vals T.goal.co 0 (Sx.slk T vals T.fre.length)-cost],T.goal.re⟩) (T.fre++[m+T.cols])=Sx.addT T cost vals:=by
 subst hrl;unfold wO fU Sx.addT;rw[jzj7];rfl
theorem jzlt{W6 wx:World}{L Ln:aU}{g' n c':Nat}(far:∀b,Ln.S b->L.S b\/W6.heap.size<=b)(hw:W6.heap.size<=wx.heap.size)(hg:some g'=Ln.vf.ownBlock\/wx.heap.size<=g'):∀b,(Ln.setF (.s (sA g') n c')).S b->L.S b\/W6.heap.size<=b:=by
 (intro b hb;rcases hb with rfl|hb|hb|hb|⟨i,hi,hb⟩);{exact far _ (.inl rfl)};{exact far _ (.inr (.inl hb))};{exact far _ (.inr (.inr (.inl hb)))};{(injection hb with hb);(have hb:g'=b:=hb;subst hb;rcases hg with h1|h1);{exact far _ (.inr (.inr (.inr (.inl h1.symm))))};exact .inr (yY hw h1)};exact far _ (.inr (.inr (.inr (.inr ⟨i,hi,hb⟩))))
theorem jzlu(x:Int):mkQ (decide (x<0)) x.natAbs 1=(x:Rat):=by
 unfold mkQ;have e:(if decide (x<0)=true then-((x.natAbs:Nat):Int)else((x.natAbs:Nat):Int))=x:=(by by_cases h:x<0;{rw[qE (yO h)];omega};rw[qF (by simpa using h)];omega);rw[e,Rat.mkRat_one]
theorem dS(x:Int)w(h:i64 x):Calls prog 15 #[vI x] w (cT w (x:Rat)):=by
 have:=pL x w h.1 h.2;rw[jzlu]at this;exact this
def OwL{α:Type}(R:World->List Value->α->Prop)(e:TypeId)(s:Nat)(w:World)(B:Nat)(v:Value)(l:List α):Prop:=
 ∃css:List (List Value),css.length=l.length/\(∀cs∈css,cs.length=s)/\w.ownsRow B e s v l.length css.flatten/\∀(i:Nat) (x:α),l[i]?=some x->∃cs,css[i]?=some cs/\R w cs x
section
variable {α:Type} {R R':World->List Value->α->Prop} {e:TypeId} {s:Nat} {w w':World} {B:Nat} {v:Value} {l:List α}
theorem OwL.nil(R:World->List Value->α->Prop)(e:TypeId)(s:Nat)w(B:Nat):OwL R e s w B zN []:=
 ⟨[],rfl,(fun _ h=>by cases h),World.ownsRow_nil _ _ _ _,fun i x h=>by simp at h⟩
theorem OwL.own(h:OwL R e s w B v l):∃xs,w.ownsRow B e s v l.length xs:=by
 obtain⟨css,_,_,h3,_⟩:=h;exact⟨_,h3⟩
theorem OwL.form(h:OwL R e s w B v l):∃A c,v=.s A l.length c/\l.length<=c:=by
 obtain⟨xs,h⟩:=h.own;exact oN h
theorem OwL.fr{S:Nat->Prop}(h:OwL R e s w B v l)(k:FrS S w w')(hv:∀g,v.ownBlock=some g->¬S g)(hR:∀cs x,x∈l->R w cs x->R' w' cs x):OwL R' e s w' B v l:=by
 obtain⟨css,h1,h2,h3,h4⟩:=h;refine⟨css,h1,h2,k.own h3 hv,fun i x hx=>?_⟩;obtain⟨cs,k1,k2⟩:=h4 i x hx;exact⟨cs,k1,hR cs x (yJ hx) k2⟩
theorem OwL.K(h:OwL R e s w B v l)(hx:Ext w w')(hR:∀cs x,R w cs x->R w' cs x):OwL R e s w' B v l:=h.fr (S:=fun _=>False) (eE hx) (fun _ _ h=>h) fun cs x _=>hR cs x
theorem OwL.at_(h:OwL R e s w B v l){i:Nat}{x:α}(hi:l[i]?=some x):∃(g cap:Nat) (cs:List Value),v=.s (sA g) l.length cap/\g<w.heap.size/\cs.length=s/\(∀k,k<s->w.cell? (aD g (i*s+k))=cs[k]?)/\R w cs x:=by
 have qe:=(yH.1 hi).1;obtain⟨css,h1,h2,h3,h4⟩:=h;obtain⟨g,cap,qg,rfl,_,hb,_,_,_,qa⟩:=iV h3 qO;obtain⟨cs,k1,k2⟩:=h4 i x hi;refine⟨g,cap,cs,rfl,hb.lt,h2 cs (yJ k1),fun k hk=>?_,k2⟩;have h5:=eS css h2 i k qO hk;rw[k1,kQ1]at h5;have qf:i*s+k<l.length*s:=(by have:(i+1)*s<=l.length*s:=xS s qe;rw[xP,xQ]at this;omega);rw[hb.cell, <-h5, <-qa,xG,qE qf];simp
theorem OwL.pushed{x:α}{v':Value}{css:List (List Value)}{us:List Value}(h1:css.length=l.length)(h2:∀cs∈css,cs.length=s)(h4:∀(i:Nat) (y:α),l[i]?=some y->∃cs,css[i]?=some cs/\R w cs y)(hus:us.length=s)(hR:∀cs y,y∈l->R w cs y->R w' cs y)(hx:R w' us x)(own':w'.ownsRow B e s v' (l.length+1) (css.flatten++us)):OwL R e s w' B v' (l++[x]):=by
 refine⟨css++[us],by simp[h1],fun cs hc=>?_,by rw[List.flatten_append,yQ];simpa using own',fun i y hi=>?_⟩;{(rcases xY.1 hc with hc|hc);{exact h2 cs hc};rw[xD.1 hc];exact hus};by_cases e:i<l.length;{rw[yR e]at hi;obtain⟨cs,k1,k2⟩:=h4 i y hi;exact⟨cs,by rw[yR qO];exact k1,hR cs y (yJ hi) k2⟩};(have hl:=(yH.1 hi).1;rw[yQ]at hl;have hl:i<l.length+1:=hl;have e2:i=l.length:=qO;subst e2;rw[yS qO,Nat.sub_self]at hi;injection hi with hi);subst hi;exact⟨us,by rw[yS qO,h1,Nat.sub_self];rfl,hx⟩
theorem mW{n c:Nat}{A}{xs:List Value}(h:w.ownsRow B e s (.s A n c) n xs):RdT w e A xs:=by
 (obtain⟨h1,h2⟩:=h;rcases h2 with⟨h3,h4⟩|⟨g,cap,cur,h3,_,h5,h6,_,_,h9⟩);{subst h4;rw[Nat.zero_mul]at h1;obtain rfl:xs=[]:=kQz h1;exact RdT.nil _ _ _};(injection h3 with e1 _ _);subst e1;refine fun _=>⟨g,0,cur,(0,0),rfl,h5,fun i hi=>?_⟩;rw[kQu, <-h9,xG,qE qO];simp
end
def TmC(w:World)(cs:List Value)(t:Nat×Rat):Prop:=∃(neg:Bool) (A:OA) (n c:Nat) (A':OA) (n' c':Nat),cs=[vI (t.1:Int),.bool neg,.s A n c,.s A' n' c']/\aC w neg A n c A' n' c' t.2
theorem TmC.K{w w'}{cs:List Value}{t:Nat×Rat}(h:TmC w cs t)(hx:Ext w w'):TmC w' cs t:=by
 obtain⟨neg,A,n,c,A',n',c',h1,h2⟩:=h;exact⟨neg,A,n,c,A',n',c',h1,h2.K hx⟩
theorem TmC.fr{S:Nat->Prop}{w w'}{cs:List Value}{t:Nat×Rat}(h:TmC w cs t)(k:FrS S w w')(n:NoT S w 196):TmC w' cs t:=by
 obtain⟨neg,A,n1,c,A',n',c',h1,h2⟩:=h;exact⟨neg,A,n1,c,A',n',c',h1,k.ratR n h2⟩
abbrev TmO(w:World)(B:Nat)(v:Value)(ts:List (Nat×Rat)):Prop:=OwL TmC 128 4 w B v ts
theorem TmO.rd{w}{B c:Nat}{A}{ts:List (Nat×Rat)}(h:TmO w B (.s A ts.length c) ts):TmR w A ts:=by
 obtain⟨css,h1,h2,h3,h4⟩:=h;exact⟨css,h1,h2,mW h3,h4⟩
def PaC(S:Nat->Prop)(w:World)(cs:List Value)(p:Nat×LN):Prop:=∃(A:OA) (c:Nat),cs=[vI (p.1:Int),.s A p.2.length c,bF,zN,zN]/\p.2.length<=c/\RdT w 3 A (ints p.2)/\(p.2≠ []->∀ad,A=some ad->¬S ad.block)
theorem jzlv{S:Nat->Prop}{w w'}{t:TypeId}{A}{xs:List Value}(h:RdT w t A xs)(k:FrS S w w')(hA:xs≠ []->∀ad,A=some ad->¬S ad.block):RdT w' t A xs:=fun hx=>by
 obtain⟨b,o,cs,fr,e1,e2,e3⟩:=h hx;exact⟨b,o,cs,fr,e1,(k.block b (iJ e2) (hA hx _ e1)).trans e2,e3⟩
theorem PaC.K{S:Nat->Prop}{w w'}{cs:List Value}{p:Nat×LN}(h:PaC S w cs p)(hx:Ext w w'):PaC S w' cs p:=by
 obtain⟨A,c,h1,h2,h3,h4⟩:=h;exact⟨A,c,h1,h2,h3.K hx,h4⟩
theorem jzdw:(prog.info? 98).map (fun i=>(i.zero,i.size,i.bytes))=some (some (.agg #[vI 0,zN,bF,zN,zN]),5,88):=by kernel_rfl
theorem jzdx:(prog.info? 128).map (fun i=>(i.zero,i.size,i.bytes))=some (some (.agg #[vI 0,bF,zN,zN]),4,64):=by kernel_rfl
structure FlR(w0 w:World)(x mb:Nat)(t:Tp)(AO:OA)(co:Nat)(AL:OA)(cl:Nat)(l:List Dm)(AD:OA)(cd:Nat)(L:aU)(T:Sx.Tb)(vP:Value)(P Q:List (Nat×LN)):Prop where
 ext:Ext w0 w
 top:bD w0 t AO co AL cl
 dem:DmR w0 l AD cd
 box:Blk w x 83 #[vI t.nodes,.s AO t.over.length co,.s AL t.links.length cl,.s AD l.length cd,.pointer (sA L.p),vP,.map (some mb)]
 xlo:w0.heap.size<=x
 tab:aG w w0.heap.size L T
 m:L.m=2*t.links.length+l.length
 pat:OwL (PaC L.S) 98 5 w w0.heap.size vP P
 map:MpS w mb Q.length (Q.map dM)
 mlo:w0.heap.size<=mb
def FlB(x mb:Nat)(L:aU)(vP:Value)(b:Nat):Prop:=b=x\/b=mb\/L.S b\/vP.ownBlock=some b
section
variable {w0 w w':World} {x mb:Nat} {t:Tp} {AO:Option Addr} {co:Nat} {AL:Option Addr} {cl:Nat} {l:List Dm} {AD:Option Addr} {cd:Nat} {L:aU} {T:Sx.Tb} {vP:Value} {P Q:List (Nat×List Nat)}
theorem FlR.K(h:FlR w0 w x mb t AO co AL cl l AD cd L T vP P Q)(hx:Ext w w'):FlR w0 w' x mb t AO co AL cl l AD cd L T vP P Q:=
 ⟨h.ext.tr hx,h.top,h.dem,h.box.K hx,h.xlo,h.tab.K hx,h.m,h.pat.K hx fun cs x k=>k.K hx,h.map.K hx,h.mlo⟩
theorem FlR.lo(h:FlR w0 w x mb t AO co AL cl l AD cd L T vP P Q):(∀b,FlB x mb L vP b->w0.heap.size<=b/\b<w.heap.size)/\NoT (FlB x mb L vP) w 196:=by
 obtain⟨xs,qa⟩:=h.pat.own;refine⟨fun b hb=>?_,fun b hb cs fr e=>?_⟩;{(rcases hb with rfl|rfl|hb|hb);{exact⟨h.xlo,h.box.lt⟩};{exact⟨h.mlo,h.map.lt⟩};{obtain⟨h1,h2,_⟩:=h.tab.ty hb;exact⟨h1,h2⟩};exact qa.lt b hb};(rcases hb with rfl|rfl|hb|hb);{exact NoT.one h.box qD _ rfl cs fr e};{obtain⟨D,⟨es,qe,h1,_⟩,_⟩:=h.map;rw[h1]at e;cases e};{exact h.tab.no32 b hb cs fr e};exact bK qa hb qD cs fr e
theorem FlR.sep(h:FlR w0 w x mb t AO co AL cl l AD cd L T vP P Q):¬L.S x/\¬L.S mb/\(∀b,vP.ownBlock=some b->¬L.S b/\b≠x/\b≠mb)/\x≠mb:=by
 obtain⟨xs,qa⟩:=h.pat.own;refine⟨fun hs=>?_,fun hs=>?_,fun b hb=>⟨fun hs=>?_,fun e=>?_,fun e=>?_⟩,fun e=>?_⟩;{exact h.tab.noT (t:=83) qD qD qD qD x hs _ _ h.box};{obtain⟨_,_,cs,t',k1,_⟩:=h.tab.ty hs;exact h.map.not k1};{obtain⟨cs,k⟩:=aW qa hb;exact h.tab.noT (t:=98) qD qD qD qD b hs _ _ k};{subst e;exact bK qa hb qD _ _ h.box};{obtain⟨cs,k⟩:=aW qa hb;rw[e]at k;exact h.map.not k};have:=h.box;rw[e]at this;exact h.map.not this
theorem PaC.fr{S X:Nat->Prop}{w w'}{cs:List Value}{p:Nat×LN}(h:PaC S w cs p)(k:FrS X w w')(hX:NoT X w 3):PaC S w' cs p:=by
 obtain⟨A,c,h1,h2,h3,h4⟩:=h;exact⟨A,c,h1,h2,k.rdT hX h3,h4⟩
theorem MpS.noT{b n:Nat}{ks:List (List UInt8)}(h:MpS w b n ks)(t:TypeId):NoT (fun x=>x=b) w t:=fun x hx cs fr e=>by
 subst hx;obtain⟨D,⟨es,qa,h1,_⟩,_⟩:=h;rw[h1]at e;cases e
theorem FlR.mapped(h:FlR w0 w x mb t AO co AL cl l AD cd L T vP P Q){p:Nat×LN}(hg:w.grownBy w' (some mb))(hm:MpS w' mb (Q.length+1) (dM p::Q.map dM)):FlR w0 w' x mb t AO co AL cl l AD cd L T vP P (Q++[p]):=by
 have k:FrS (fun b=>b=mb) w w':=eG hg fun g e=>(by injection e with e;exact e.symm);obtain⟨s1,s2,s3,s4⟩:=h.sep;exact⟨k.ext h.ext fun b hb=>by rw[hb];exact h.mlo,h.top,h.dem,k.blk h.box s4,h.xlo,h.tab.far k (h.map.noT _) fun b hb hs=>s2 (hb▸hs),h.m,h.pat.fr k (fun g hg e=>(s3 g hg).2.2 e) fun cs y _ hy=>hy.fr k (h.map.noT _),
  hm.congr qS (fun j=>by simp[or_comm]),h.mlo⟩
theorem FlR.pushed(h:FlR w0 w x mb t AO co AL cl l AD cd L T vP P Q){p:Nat×LN}{css:List (List Value)}{us:List Value}{g7 c7:Nat}{w7:World}(h1:css.length=P.length)(h2:∀cs∈css,cs.length=5)(h4:∀(i:Nat) (y:Nat×LN),P[i]?=some y->∃cs,css[i]?=some cs/\PaC L.S w cs y)(hus:us.length=5)(hp:PaC L.S w us p)
  (own7:w7.ownsRow w0.heap.size 98 5 (.s (sA g7) (P.length+1) c7) (P.length+1) (css.flatten++us)) (grow7:w.grownBy w7 vP.ownBlock):
  FlR w0 (w7.setCell (aD x 5) (.s (sA g7) (P.length+1) c7)) x mb t AO co AL cl l AD cd L T (.s (sA g7) (P.length+1) c7) (P++[p]) Q/\
   FrS (fun b=>b=x\/vP.ownBlock=some b) w (w7.setCell (aD x 5) (.s (sA g7) (P.length+1) c7)):=by
 have k7:FrS (fun b=>vP.ownBlock=some b) w w7:=eG grow7 fun g e=>e;obtain⟨s1,s2,s3,s4⟩:=h.sep;obtain⟨xs,qa⟩:=h.pat.own;have B7:=k7.blk h.box fun e=>(s3 x e).2.1 rfl;have k8:FrS (fun b=>b=x) w7 (w7.setCell (aD x 5) (.s (sA g7) (P.length+1) c7)):=eG (aO w7 x 5 _) fun g e=>(by injection e with e;exact e.symm);have n7:∀t,98≠t->NoT (fun b=>vP.ownBlock=some b) w t:=fun t ht b hb=>bK qa hb ht;have n8:∀t,83≠t->NoT (fun b=>b=x) w7 t:=fun t ht=>NoT.one B7 ht;have e7:Ext w0 w7:=k7.ext h.ext fun b hb=>(qa.lt b hb).1;have qe:OwL (PaC L.S) 98 5 w7 w0.heap.size (.s (sA g7) (P.length+1) c7) (P++[p]):=
  OwL.pushed h1 h2 h4 hus (fun cs y _ hy=>hy.fr k7 (n7 _ qD)) (hp.fr k7 (n7 _ qD)) own7
 have qf:g7≠x:=fun e=>(by obtain⟨cs,hb⟩:=aW own7 (g:=g7) rfl;rw[e]at hb;exact absurd (aZ hb B7).2 qD);refine⟨⟨k8.ext e7 fun b hb=>by rw[hb];exact h.xlo,h.top,h.dem,B7.sT 5 _,h.xlo,?_,h.m,qe.fr k8 (fun g hg e=>?_) fun cs y _ hy=>hy.fr k8 (n8 _ qD),(h.map.same (k7.block mb h.map.lt fun e=>(s3 mb e).2.2 rfl)).same (k8.block mb ?_ fun e=>s4 e.symm),h.mlo⟩,(k7.mono fun b hb=>.inr hb).tr k8 fun b hb=>.inl (.inl hb)⟩;{exact(h.tab.far k7 (n7 _ qD) fun b hb=>(s3 b hb).1).far k8 (n8 _ qD) fun b hb hs=>s1 (hb▸hs)};{(injection hg with hg);have hg:g7=g:=hg;exact qf (hg.trans e)};exact yL h.map.lt k7.size
theorem FlR.tabbed(h:FlR w0 w x mb t AO co AL cl l AD cd L T vP P Q){L':aU}{T':Sx.Tb}(ht:aG w' w0.heap.size L' T')(k:FrS L.S w w')(hp:L'.p=L.p)(hm:L'.m=L.m)(hS:∀b,L'.S b->L.S b\/w.heap.size<=b):FlR w0 w' x mb t AO co AL cl l AD cd L' T' vP P Q:=by
 (obtain⟨s1,s2,s3,s4⟩:=h.sep;have bx:=k.blk h.box s1;rw[<-hp]at bx;refine⟨k.ext h.ext fun b hb=>(h.tab.ty hb).1,h.top,h.dem,bx,h.xlo,ht,hm.trans h.m,?_,h.map.same (k.block mb h.map.lt s2),h.mlo⟩;refine h.pat.fr k (fun g hg=>(s3 g hg).1) fun cs y _ hy=>?_;obtain⟨A,c,h1,h2,h3,h4⟩:=hy;have qa:ints y.2≠ []->y.2≠ []:=fun hx e=>hx (by rw[e];rfl);refine⟨A,c,h1,h2,jzlv h3 k fun hx=>h4 (qa hx),fun hx ad had hs=>?_⟩;rcases hS _ hs with h5|h5);{exact h4 hx ad had h5};obtain⟨b,o,qe,fr,e1,e2,_⟩:=h3 (fun e=>hx (by have h6:=dA y.2;rw[e]at h6;exact kQp.1 h6.symm));(rw[had]at e1;injection e1 with e1);subst e1;have h7:w.heap.size<=b:=h5;have:=iJ e2;omega
end
end Go.Proofs.YtfeeacaofjpkaaaGreatDoor
namespace Go.Proofs.YtfeeacaofjpkaaaGreatDoor
open Go.Proofs.Tryz
open Go Go.RowKit
variable {P:Program} {md:Region.Mode} {ops:Array Oper} {Q:Exit->Act->World->Prop} {S:World->Prop} {L:Nat}
def chainB(md:Region.Mode)(ops:Array Oper)(i:Nat):LN->Bool
 | []=>true
 | [m]=>awaitB md ops m i
 |m::m2::rest=>awaitB md ops m m2&&chainB md ops i (m2::rest)
theorem jzdy{i:Nat}{listed:Array Bool}(hi:listed.getD i true=false):∀(path:LN),chainB md ops i path=true->(∀m∈path,listed.getD m true=false)->∀j∈path,j∉Region.ready md ops listed
 | [],_,_,j,hj,_=>by cases hj
 | [m],hc,_,j,hj,hr=>by
   obtain rfl:j=m:=xD.1 hj;exact nL hc hr hi
 |m::m2::rest,hc,hu,j,hj,hr=>by
  have hc:(awaitB md ops m m2&&chainB md ops i (m2::rest))=true:=hc;rw[vM]at hc;rcases xZ.1 hj with e|e
  ·subst e
   exact nL hc.1 hr (hu m2 qS)
  ·exact jzdy hi (m2::rest) hc.2 (fun k hk=>hu k (xO _ hk)) j e hr
theorem jzlw{path:LN}{i:Nat}{oi:Oper}{v:Value}(hLp:L∈path)(hc:chainB md ops i path=true)(hi:ops[i]?=some oi)(hiL:i≠L)(hsel:∀(j:Nat) (o:Oper) cs b,ops[j]?=some o->o.op≠.select cs b)
  (hQ:∀c a w,Q (.panic c) (a.put oi.dst v) w->Q (.panic c) a w):
  ∀(qe:Nat) (qa:Array Bool) (a:Act) (w:World),(∀m∈path,qa.getD m true=false)->
   (∀j oj,ops[j]?=some oj->j≠i->qa.getD j true=false->(∀e∈oj.after,Region.binds md e=true->e.on≠i)->oi.apart ops oj=true)->
   i∈Region.ready md ops qa->YieldsIf P ops S oi v a->S w->
   wpAnyL P md ops Q S L qe (qa.setIfInBounds i true) (a.put oi.dst v) w->wpAnyL P md ops Q S L (qe+1) qa a w:=by
 intro qe
 induction qe with
 |zero=>
  intro qa a w _ _ hr hy hS H;refine⟨fun h=>(by rw[h]at hr;cases hr),fun j hj=>?_⟩;by_cases qg:j=i
  ·subst qg;exact hy.wpOp hi hS ⟨fun e=>absurd e hiL,fun _=>⟨hS,H⟩⟩
  have:=ready_mono hj qg;rw[H.1]at this;cases this
 |succ qe ih=>
  intro qa a w qt qf hr hy hS H;refine⟨fun h=>(by rw[h]at hr;cases hr),fun j hj=>?_⟩;by_cases qg:j=i
  ·subst qg;exact hy.wpOp hi hS ⟨fun e=>absurd e hiL,fun _=>⟨hS,H⟩⟩
  have qp:j∉path:=fun e=>jzdy (mem_ready.1 hr).1 path hc qt j e hj;have qj:j≠L:=fun e=>qp (e▸hLp);have h1:=H.2 j (ready_mono hj qg);obtain⟨qi,oj,qk,qm⟩:=mem_ready.1 hj;have qn:∀e∈oj.after,Region.binds md e=true->e.on≠i:=fun e he hb heq=>by
   have h1:=qm e he hb;have h0:=(mem_ready.1 hr).1;rw[heq]at h1;rcases kQd i qa.size with h'|h'
   ·simp[h']at h0 h1;rw[h0]at h1;cases h1
   simp[kQn h']at h1
  have h2:=wpOp_putIf qk (qf j oj qk qg qi qn) (fun cs b=>hsel i oi cs b hi) (fun cs b=>hsel j oj cs b qk) hQ hy h1;have qh:∀k ok,ops[k]?=some ok->k≠i->(qa.setIfInBounds j true).getD k true=false->
    (∀e∈ok.after,Region.binds md e=true->e.on≠i)->oi.apart ops ok=true:=fun k ok hk hki hun hno=>by
   refine qf k ok hk hki ?_ hno;by_cases qw:j=k
   ·subst qw;exact qi
   rw[getD_set_ne true qw]at hun;exact hun
  have qo:∀m∈path,(qa.setIfInBounds j true).getD m true=false:=fun m hm=>by
   have qx:j≠m:=fun e=>qp (e▸hm);rw[getD_set_ne true qx];exact qt m hm
  refine wpOp_mono (fun a' w' h3=>⟨fun e=>absurd e qj,fun _=>⟨(h3.2.2 qj).1,ih (qa.setIfInBounds j true) a' w' qo qh (ready_mono hr (Ne.symm qg)) h3.1 (h3.2.2 qj).1 ?_⟩⟩) h2;rw[Array.setIfInBounds_comm _ _ qg];exact(h3.2.2 qj).2
theorem wpAnyL_takep{path:LN}{i:Nat}{oi:Oper}{v:Value}{fuel:Nat}{listed:Array Bool}{a:Act}{w}(hi:ops[i]?=some oi)(hLp:path.contains L=true)(hc:chainB md ops i path=true)(hlm:path.all (fun m=>!listed.getD m true)=true)(hiL:i≠L)
  (hs:Region.noSelect ops=true) (hf:Region.free md ops listed i=true) (hr:(Region.ready md ops listed).contains i=true)
  (hQ:∀c a w,Q (.panic c) (a.put oi.dst v) w->Q (.panic c) a w) (hy:YieldsIf P ops S oi v a) (hS:S w)
  (h:wpAnyL P md ops Q S L fuel (listed.setIfInBounds i true) (a.put oi.dst v) w):wpAnyL P md ops Q S L (fuel+1) listed a w:=
 jzlw (by simpa using hLp) hc hi hiL (Region.noSelect_spec hs) hQ fuel listed a w (fun m hm=>by simpa using xW.1 hlm m hm) (Region.free_spec hi hf) (by simpa using hr) hy hS h
theorem wU(path:List Nat)(i:Nat){oi:Oper}{v:Value}{fuel:Nat}{listed:Array Bool}{a:Act}{w:World}(hi:ops[i]?=some oi)(hS:S w)(h:wpAnyL P md ops Q S L fuel (listed.setIfInBounds i true) (a.put oi.dst v) w)(hv:∀ w,S w->(execOp a.eval oi).run P w=.ok (.value v) w:=by intro w h;revert h;(try simp only [and_imp]);intros;go_simp;try with_reducible rfl)(hLp:path.contains L=true:=by kernel_rfl)(hc:chainB md ops i path=true:=by kernel_rfl)(hlm:path.all (fun m=>!listed.getD m true)=true:=by kernel_rfl)(hiL:i≠L:=by decide)(hs:Region.noSelect ops=true:=by kernel_rfl)(hf:Region.free md ops listed i=true:=by kernel_rfl)(hr:(Region.ready md ops listed).contains i=true:=by kernel_rfl)(hQ:∀ c a w,Q (.panic c) (a.put oi.dst v) w->Q (.panic c) a w:=by exact fun _ _ _ h=>h)(hw:Region.wanted oi (yielded ops a.tmps)=true:=by rfl):wpAnyL P md ops Q S L (fuel+1) listed a w:=wpAnyL_takep hi hLp hc hlm hiL hs hf hr hQ (kZe ⟨hw,hv⟩) hS h
end Go.Proofs.YtfeeacaofjpkaaaGreatDoor
namespace Go.Proofs.YtfeeacaofjpkaaaGreatDoor
open Go.Proofs.Tryz
open Go.RowKit
theorem jzdz(B P nt ct:Nat)(L:aU)(T:Sx.Tb)w(h:aG w B L T)(hB:B<=w.heap.size)(vR:OkT T)(vL:SzT T P)(hP1:1<=P)(hP:P<=10000)(hm0:0<L.m)(hm:L.m<=1000)(hK:T.fre.length<=100000000000)(hc:T.cols<=100000000000)
  (cost:Rat) (nc:Bool) AC (lc cc:Nat) AC' (lc' cc':Nat) (qt:aC w nc AC lc cc AC' lc' cc' cost) (hcsz:SzQ cost P)
  PT (ts:List (Nat×Rat)) (hnt:ts.length=nt) (ht:TmR w PT ts) (hnt2:nt<=1000000) (vO:∀t∈ts,t.1<L.m) (vJ:∀q∈aR L.m ts,SzQ q P) (hfb:∀j,j<T.fre.length->Sx.atN T.fre j<=1000000000000) (hjl:(Sx.slk T (aR L.m ts) T.fre.length).length<=1000):
  Calls prog 72 #[.pointer (sA L.p),.agg #[.bool nc,.s AC lc cc,.s AC' lc' cc'],.s PT nt ct] w
   fun e w'=>∃L':aU,e=.returned (.tuple #[])/\L'.p=L.p/\L'.m=L.m/\aG w' B L' (Sx.addT T cost (aR L.m ts))/\FrS L.S w w'/\∀b,L'.S b->L.S b\/w.heap.size<=b:=by
 obtain⟨g,cr,vp,zE⟩:=h.vr_form hm0;obtain⟨gb,cb,vz,zz⟩:=h.vb_form hm0;obtain⟨cp,qe,_,p0,p1,p2,p7⟩:=h.goa;rw[vp]at p0;have q0:=(qe.cell 0).trans p0;have q7:=(qe.cell 7).trans p7;have v1:=qe.lt;obtain⟨b0,b1,e0⟩:=dO w #[.pointer (sA L.p)] 80 #[.bool nc,.s AC lc cc,.s AC' lc' cc'] 33;have H:=Hx (kQa h (kQa vR vL));have HV:=Hx (kQa vp vz);have HT:=Hx (kQa qt (kQa ht (kQa vO vJ)));have E0:=Hx (kQa e0 (kQa b0 b1));have y0:=XW.cell _ _ _ b0.lt (b0.cell 0);have y1:=XW.cell _ _ _ (yL v1 e0.size) (aA e0 q0);have y2:=XW.cell _ _ _ (yL v1 e0.size) (aA e0 q7);have zv:=h.rl;clear h vR vL vp vz qt ht vO vJ e0 b0 b1 qe p0 p1 p2 p7 q0 q7;go_enter func72,ntmps72;(go_upto_region 1 with fail);(generalize (w.alloc (.cells #[.pointer (sA L.p)] 80)).alloc (.cells #[.bool nc,.s AC lc cc,.s AC' lc' cc'] 33)=W2 at*;have vH:IntKind.i64.wrap ((L.m:Int)+(T.cols:Int))=((L.m+T.cols:Nat):Int):=by rw[IntKind.wrap_i64];omega);go_cut [6] (fun s wx=>s=vI ((L.m+T.cols:Nat):Int)/\Ext W2 wx);(case first=>refine dJ qK qK ?_;(repeat (go_big_quiet_step (fail)));refine wpQuiet_nil ?_;rintro _ ⟨x,rfl⟩;go_wp2;go_meet;first|exact⟨rfl,x.ext⟩|exact⟨qS,x.ext⟩);obtain⟨rfl,vc⟩:=hcut;clear y0 y1 y2 vH;have EC:=Hx (E0.o.1.tr vc);have BX:=Hx (kQa (E0.o.2.1.K vc) (E0.o.2.2.K vc));clear E0 vc;generalize hgt:w.heap.size=gt at*;have HC:=Hx (H.o.1.K EC.o);obtain⟨cp,qe,_,p0,p1,p2,p7⟩:=HC.o.goa;have q7:=(qe.cell 7).trans p7;have z7:wc.frozen? (aD L.p 7)=false:=qe.frozen _;have t0:wc.cell? (aD gt 0)=some (.pointer (sA L.p)):=BX.o.1.cell 0;have zm:=mR L.m qO;obtain⟨vF,q1⟩:=HC.o.cols_set (T.cols+1);rw[show((T.cols+1:Nat):Int)=(T.cols:Int)+1 by omega]at vF q1;have PG:Hid (∀x,w.heap.size<=x->¬L.S x):=Hx (fun x hx hs=>by have:=(H.o.1.ty hs).2.1;omega)
 have I3:=Hx (show aG (wc.setCell (aD L.p 7) (vI ((T.cols:Int)+1))) B L (fV T (T.cols+1))/\FrS L.S w (wc.setCell (aD L.p 7) (vI ((T.cols:Int)+1)))/\Blk (wc.setCell (aD L.p 7) (vI ((T.cols:Int)+1))) gt 80 #[.pointer (sA L.p)]/\
   Blk (wc.setCell (aD L.p 7) (vI ((T.cols:Int)+1))) (gt+1) 33 #[.bool nc,.s AC lc cc,.s AC' lc' cc']from
  ⟨vF,(eE EC.o).tr q1 fun b hb=>.inl hb,q1.blk BX.o.1 (PG.o _ qO),q1.blk BX.o.2 (PG.o _ qO)⟩)
 clear vF q1 HC qe p0 p1 p2 p7 BX EC;(go_upto_region 3 with fail);generalize wc.setCell (aD L.p 7) (vI ((T.cols:Int)+1))=W3 at*;clear q7 z7 t0;have t0:W3.cell? (aD gt 0)=some (.pointer (sA L.p)):=I3.o.2.2.1.cell 0;obtain⟨cp,qe,_,p0,p1,p2,p7⟩:=I3.o.1.goa;rw[HV.o.1]at p0;have q0:=(qe.cell 0).trans p0;have QM:=Hx (QB.made W3 L.m);have X4:=Hx ((eR W3).alloc (.cells (madeCells rV (L.m*3)) 33));have v2:(W3.alloc (.cells (madeCells rV (L.m*3)) 33)).heap.size=W3.heap.size+1:=qS;have zs:w.heap.size<=W3.heap.size:=I3.o.2.1.size;clear qe p0 p1 p2 p7;go_upto_region 4 with fail
 generalize W3.alloc (.cells (madeCells rV (L.m*3)) 33)=W4 at*;obtain⟨bv,e4⟩:=bA W4 #[.s (sA W3.heap.size) L.m L.m] 35;rw[v2]at bv;generalize qU:W3.heap.size=gl at*;have vq:gt+1<gl:=(by have:=I3.o.2.2.2.lt;omega);have I4:=Hx (show eY w (W4.alloc (.cells #[.s (sA gl) L.m L.m] 35)) B L (fV T (T.cols+1)) gt gl nc AC lc cc AC' lc' cc' (aR L.m (ts.take 0))from
  ⟨(I3.o.1.K X4.o).K e4,I3.o.2.1.tr (eE (S:=L.S) (X4.o.tr e4)) fun b hb=>.inl hb,I3.o.2.2.1.K (X4.o.tr e4),I3.o.2.2.2.K (X4.o.tr e4),bv,QM.o.K e4⟩)
 clear I3 X4 QM bv e4 q0 t0 zm;go_wp2;go_loopg [9,41] nt (fun q _ it wx=>∃n:Nat,nt-n=q/\n<=nt/\it=vI (n:Int)/\Hid (eY w wx B L (fV T (T.cols+1)) gt gl nc AC lc cc AC' lc' cc' (aR L.m (ts.take n))));exact⟨0,rfl,yZ _,rfl,I4⟩;obtain⟨n,rfl,hn,rfl,I⟩:=hrel;clear I4;by_cases vo:n<nt;{(have nN:(n:Int)<(nt:Int):=by omega);have n0:(0:Int)<=(n:Int):=qO;obtain⟨t,vh⟩:∃t,ts[n]?=some t:=⟨_,yG qO⟩;have qV:TmR wr PT ts:=HT.o.2.1.fr I.o.fr (H.o.1.noT qD qD qD qD) H.o.1.no32;obtain⟨bq,oq,neg,A,l,c,A',l',c',rfl,zg,⟨i0,i1,i2,i3⟩,hR⟩:=qV.at_ vh;obtain⟨x,q⟩:=t;have qX:x<L.m:=HT.o.2.2.1 _ (yJ vh);have xN:(x:Int)<(L.m:Int):=qO;have x0:(0:Int)<=(x:Int):=qO;have VT:=Hx (jzlp L.m ts vh);have v4:x<(aR L.m (ts.take n)).length:=(by rw[kL];exact qX);obtain⟨bx,e0⟩:=bA wr #[vI (x:Int),.bool neg,.s A l c,.s A' l' c'] 128;have v0:wr.cell? (aD (gl+1) 0)=some (.s (sA gl) L.m L.m):=I.o.bv.cell 0;obtain⟨ny,Y1,my,fy,q5,qW,qT,⟨s0,s1,s2⟩,⟨z0,z1,z2⟩,_⟩:=I.o.qb.at_ (aP v4);have vz:=I.o.bv.lt;have zi:=I.o.qb.lt;have I9:=Hx ((I.o.put qO vq (PG.o gl qO) v4 hR).K ((eR _).alloc (.cells #[vI (x:Int),.bool neg,.s A l c,.s A' l' c'] 128)));rw[<-VT.o]at I9;clear qV hR bx e0 I vh;go_wp2;go_roundg (nt-(n+1));exact⟨n+1,rfl,qO,by go_num,I9⟩;omega};obtain rfl:n=nt:=qO;rw[yU qO]at I;clear hn vo;obtain⟨AF,cf,vd,v8⟩:=oN I.o.tab.fre;obtain⟨cp,qe,_,p0,p1,p2,p7⟩:=I.o.tab.goa;rw[vd]at p2;have q2:=(qe.cell 2).trans p2;have t0:wr.cell? (aD gt 0)=some (.pointer (sA L.p)):=I.o.bt.cell 0;have vx:gt<wr.heap.size:=I.o.bt.lt;have vm:L.p<wr.heap.size:=qe.lt;have vZ:w.heap.size<=wr.heap.size:=I.o.fr.size;have BS:=Hx (eN wr 42 #[zN]);have I5:=Hx (I.o.K ((eR wr).alloc (.cells #[zN] 42)));have qo:(fV T (T.cols+1)).fre.length=T.fre.length:=rfl;rw[qo]at vd v8 q2;have qj:=Hx vd;have GB:Hid (gt+1<wr.heap.size/\gl+1<wr.heap.size):=Hx (⟨I.o.bc.lt,I.o.bv.lt⟩);clear qe p0 p1 p2 p7 I vd qo;have zf:=Hx hfb;clear hfb;generalize hgs:wr.heap.size=gs at*;generalize hKK:T.fre.length=K at*;have S0:Hid ((wr.alloc (.cells #[zN] 42)).ownsRow w.heap.size 3 1 zN (Sx.slk T (aR L.m ts) 0).length (ints (Sx.slk T (aR L.m ts) 0))):=Hx (World.ownsRow_nil _ _ _ _);(go_upto_region 10 with fail);have q2:=aH q2 (.cells #[zN] 42);have t0:=aH t0 (.cells #[zN] 42);generalize wr.alloc (.cells #[zN] 42)=W5 at*;clear vx vm;go_wp2;go_loopg [11,12,57] K (fun q _ _ it wx=>∃(n:Nat) (vS:Value),K-n=q/\n<=K/\it=vI (n:Int)/\Hid (eY w wx B L (fV T (T.cols+1)) gt gl nc AC lc cc AC' lc' cc' (aR L.m ts)/\Blk wx gs 42 #[vS]/\wx.ownsRow w.heap.size 3 1 vS (Sx.slk T (aR L.m ts) n).length (ints (Sx.slk T (aR L.m ts) n))/\∀b,vS.ownBlock=some b->gs<b));exact⟨0,_,rfl,yZ _,rfl,Hx ⟨I5.o,BS.o,S0.o,fun b hb=>by cases hb⟩⟩;obtain⟨n2,vS,rfl,zk,rfl,J⟩:=hrel;clear I5 S0 q2 t0 BS;by_cases vi:n2<K
 ·(have nN:(n2:Int)<(K:Int):=by omega);have n0:(0:Int)<=(n2:Int):=qO;obtain⟨gf,v7⟩:∃gf,AF=(sA gf):=(by (have qa:=J.o.1.tab.fre;rw[qj.o]at qa;obtain⟨g',c',zn,e1,_⟩:=iV qa (show 0<T.fre.length by omega);injection e1 with e1);exact⟨g',e1⟩);subst v7;have qa:=J.o.1.tab.fre;rw[qj.o,show(fV T (T.cols+1)).fre.length=K from hKK]at qa;have qf:wr.cell? (aD gf n2)=some (vI (Sx.atN T.fre n2:Nat)):=gX qa vi;have NX:=Hx (rT T (aR L.m ts) n2);have zy:Sx.atN T.fre n2<=1000000000000:=zf.o n2 vi;generalize hx:Sx.atN T.fre n2=x at*;clear qa hx;have x0:decide ((0:Int)<=(x:Int))=true:=yO qO;have b7:wr.cell? (aD (gl+1) 0)=some (.s (sA gl) L.m L.m):=J.o.1.bv.cell 0;by_cases qX:x<L.m
  ·have x1:decide ((x:Int)<(L.m:Int))=true:=yO qO;have xN:(x:Int)<(L.m:Int):=qO;have xp:(0:Int)<=(x:Int):=qO;obtain⟨ny,Y1,my,fy,q5,qW,qT,⟨s0,s1,s2⟩,_,hy⟩:=J.o.1.qb.at_ (aP (show x<(aR L.m ts).length by rw[kL];exact qX));have SG:=Hx (cZ ny Y1 my fy q5 qW qT (Sx.at_ (aR L.m ts) x) wr hy);clear hy;go_wp2_with fail;refine SG.o.mono ?_;rintro e w6 ⟨rfl,x6⟩;by_cases q8:Sx.at_ (aR L.m ts) x=0;{have qH:aE (Sx.at_ (aR L.m ts) x)=0:=(iU _).2 q8;rw[qH];have J6:Hid (eY w w6 B L (fV T (T.cols+1)) gt gl nc AC lc cc AC' lc' cc' (aR L.m ts)/\Blk w6 gs 42 #[vS]/\w6.ownsRow w.heap.size 3 1 vS (Sx.slk T (aR L.m ts) (n2+1)).length (ints (Sx.slk T (aR L.m ts) (n2+1)))/\∀b,vS.ownBlock=some b->gs<b):=Hx (by rw[NX.o,qF (fun h=>h.2 q8)];exact⟨J.o.1.K x6,J.o.2.1.K x6,(eE (S:=fun _=>False) x6).own J.o.2.2.1 (fun _ _ h=>h),J.o.2.2.2⟩);clear SG s0 s1 s2 J x6 qH q8;go_wp2;go_roundg (K-(n2+1));exact⟨n2+1,vS,rfl,qO,by go_num,J6⟩;omega}
   have qH:¬aE (Sx.at_ (aR L.m ts) x)=0:=fun h=>q8 ((iU _).1 h);have v2:(aE (Sx.at_ (aR L.m ts) x) !=0)=true:=(by simpa using qH);have zq:decide (aE (Sx.at_ (aR L.m ts) x)=0)=false:=yP qH;have zo:(aE (Sx.at_ (aR L.m ts) x)==0)=false:=(by simpa using qH);have vU:=Hx (show Sx.slk T (aR L.m ts) (n2+1)=Sx.slk T (aR L.m ts) n2++[n2] by rw[NX.o,qE ⟨by rw[kL];exact qX,q8⟩]);generalize aE (Sx.at_ (aR L.m ts) x)=sy at*;have J6:=Hx (show eY w w6 B L (fV T (T.cols+1)) gt gl nc AC lc cc AC' lc' cc' (aR L.m ts)/\Blk w6 gs 42 #[vS]/\w6.ownsRow w.heap.size 3 1 vS (Sx.slk T (aR L.m ts) n2).length (ints (Sx.slk T (aR L.m ts) n2))from
    ⟨J.o.1.K x6,J.o.2.1.K x6,(eE (S:=fun _=>False) x6).own J.o.2.2.1 (fun _ _ h=>h)⟩)
   have ve:=Hx J.o.2.2.2;have za:gs<w6.heap.size:=J6.o.2.1.lt;have g0:w6.cell? (aD gs 0)=some vS:=J6.o.2.1.cell 0;have zt:(Sx.slk T (aR L.m ts) n2).length<=K:=(by have:=jzdr T (aR L.m ts) n2;omega);have XC:=Hx ((eR w6).alloc (.cells #[vI (n2:Int)] 3));have BC:=Hx (eN w6 3 #[vI (n2:Int)]);have VB:=Hx ((eE (S:=fun _=>False) XC.o).own J6.o.2.2 (fun _ _ h=>h));clear SG s0 s1 s2 J x6;(go_wp2_with (at_builtin;refine lC _ 42 3 _ 1 8 rfl _ _ rfl underlying42 Tryz.infoInt rfl qD w.heap.size vS (Sx.slk T (aR L.m ts) n2).length (ints (Sx.slk T (aR L.m ts) n2)) rfl VB.o [vI (n2:Int)] rfl (by simp[Value.oneCell']) w6.heap.size rfl BC.o (by unfold maxLen;omega) qO (by have:=J6.o.1.fr.size;have:=XC.o.size;omega) ?_));intro g9 c9 w9 qm qp va;have q6:∀b,vS.ownBlock=some b->w.heap.size<=b:=fun b hb=>(VB.o.lt b hb).1;have k9:=eG (S:=fun b=>vS.ownBlock=some b) qp fun g e=>e;have n9:NoT (fun b=>vS.ownBlock=some b) (w6.alloc (.cells #[vI (n2:Int)] 3)) 196:=fun b hb=>bK VB.o hb qD;have J8:=Hx ((J6.o.1.K XC.o).far k9 n9 fun b hb=>by have h1:=q6 b hb;have h2:=ve.o b hb;have h3:=GB.o;exact⟨h1,PG.o b h1,qO,qO,qO,qO⟩)
   have qI:=Hx (k9.blk (J6.o.2.1.K XC.o) fun hb=>by have:=ve.o gs hb;omega);have z9:w9.frozen? (aD gs 0)=false:=qI.o.frozen _;have y9:w9.cell? (aD gs 0)=some vS:=qI.o.cell 0;have vw:FrS (fun b=>b=gs) w9 (w9.setCell (aD gs 0) (.s (sA g9) ((Sx.slk T (aR L.m ts) n2).length+1) c9)):=eG (aO w9 gs 0 _) fun g e=>(by injection e with e;exact e.symm);have ze:=Hx (show eY w (w9.setCell (aD gs 0) (.s (sA g9) ((Sx.slk T (aR L.m ts) n2).length+1) c9)) B L (fV T (T.cols+1)) gt gl nc AC lc cc AC' lc' cc' (aR L.m ts)/\Blk (w9.setCell (aD gs 0) (.s (sA g9) ((Sx.slk T (aR L.m ts) n2).length+1) c9)) gs 42 #[.s (sA g9) ((Sx.slk T (aR L.m ts) n2).length+1) c9]/\
     (w9.setCell (aD gs 0) (.s (sA g9) ((Sx.slk T (aR L.m ts) n2).length+1) c9)).ownsRow w.heap.size 3 1 (.s (sA g9) ((Sx.slk T (aR L.m ts) n2).length+1) c9) (Sx.slk T (aR L.m ts) (n2+1)).length (ints (Sx.slk T (aR L.m ts) (n2+1)))/\
     ∀b,(Value.slice (sA g9) ((Sx.slk T (aR L.m ts) n2).length+1) c9).ownBlock=some b->gs<b from by
    refine⟨J8.o.far vw (NoT.one qI.o qD) (fun b hb=>?_),qI.o.sT 0 _,?_,fun b hb=>?_⟩
    ·
     subst hb
     have h3:=GB.o;exact⟨vZ,PG.o _ vZ,qO,qO,qO,qO⟩
    ·
     rw[<-hgt]at qm
     rw[vU.o,yQ,kZd,kX];refine vw.own qm fun b hb e=>?_;obtain⟨zC,qV⟩:=aW qm hb;rw[e]at qV;exact absurd (aZ qV qI.o).2 qD
    injection hb with hb
    have hb:g9=b:=hb;subst hb;rcases va with h1|h1
    ·
     exact ve.o _ h1.symm
    have:=XC.o.size;omega)
   clear J8 qI k9 n9 vw q6 qm qp va VB XC BC J6 ve NX vU g0;go_wp2;go_roundg (K-(n2+1));exact⟨n2+1,_,rfl,qO,by go_num,ze⟩;omega
  have x1:decide ((x:Int)<(L.m:Int))=false:=yP qO;have J6:Hid (eY w wr B L (fV T (T.cols+1)) gt gl nc AC lc cc AC' lc' cc' (aR L.m ts)/\Blk wr gs 42 #[vS]/\wr.ownsRow w.heap.size 3 1 vS (Sx.slk T (aR L.m ts) (n2+1)).length (ints (Sx.slk T (aR L.m ts) (n2+1)))/\∀b,vS.ownBlock=some b->gs<b):=Hx (by rw[NX.o,qF (fun h=>qX (by have:=h.1;rw[kL]at this;exact this))];exact J.o);clear J;go_wp2;go_roundg (K-(n2+1));exact⟨n2+1,vS,rfl,qO,by go_num,J6⟩;omega
 obtain rfl:K=n2:=qO;clear zk vi;generalize wr=W6 at*;clear wr;have v5:=Hx (kL L.m ts);have vn:=Hx HT.o.2.2.2;generalize hvals:aR L.m ts=vals at*;have vg:=Hx (show Sx.slk T vals K=Sx.slk T vals T.fre.length by rw[hKK]);generalize Sx.slk T vals K=js at*;have vG:Hid (∀b,L.S b->b≠gt/\b≠gl/\b≠gl+1/\b≠gs/\vS.ownBlock≠some b):=Hx (fun b hb=>by have h1:=(H.o.1.ty hb).2.1;refine⟨qO,qO,qO,qO,fun e=>?_⟩;have:=(J.o.2.2.1.lt b e).1;omega);have LT:Hid (∀b,W6.heap.size<=b->b≠gt/\b≠gl/\b≠gl+1/\b≠gs/\vS.ownBlock≠some b):=Hx (fun b hb=>by have h1:=J.o.1.bt.lt;have h2:=J.o.1.bv.lt;have h3:=J.o.2.1.lt;refine⟨qO,qO,qO,qO,fun e=>?_⟩;have:=(J.o.2.2.1.lt b e).2;omega)
 have qC:T.rows.length=L.m:=H.o.1.rl;have R0:=Hx (show iE W6 W6 B L L (dQ T vals 0)/\iD W6 w.heap.size L gt gl gs vals vS js from
  ⟨⟨by rw[jzj5];exact J.o.1.tab,⟨rfl,rfl,rfl,rfl,rfl⟩,fun b hb=>.inl hb,FrS.refl _ _⟩,J.o.1.bt,J.o.1.bv,J.o.1.qb,J.o.2.1,J.o.2.2.1⟩)
 have v9:B<=W6.heap.size:=(by have:=J.o.1.fr.size;omega);obtain⟨cp,qe,_,p0,p1,p2,p7⟩:=J.o.1.tab.goa;rw[HV.o.1]at p0;have q0:=(qe.cell 0).trans p0;have t0:W6.cell? (aD gt 0)=some (.pointer (sA L.p)):=J.o.1.bt.cell 0;clear qe p0 p1 p2 p7;go_wp2;clear q0 t0;go_loopg [14,89] L.m (fun q _ it wx=>∃(n:Nat) (Ln:aU),L.m-n=q/\n<=L.m/\it=vI (n:Int)/\Hid (iE W6 wx B L Ln (dQ T vals n)/\iD wx w.heap.size L gt gl gs vals vS js));exact⟨0,L,rfl,yZ _,rfl,R0⟩;obtain⟨n,Ln,rfl,hn,rfl,I⟩:=hrel;clear R0;have vK:B<=wr.heap.size:=yY v9 I.o.1.fr.size;have AK:Hid (∀wx,Ext wr wx->iD wx w.heap.size L gt gl gs vals vS js):=Hx (fun wx hx=>I.o.2.fr (S:=fun _=>False) (eE hx) (fun b hb=>hb.elim) (fun b hb=>hb.elim));by_cases vT:n<L.m
 ·(have nN:(n:Int)<(L.m:Int):=by omega);have n0:(0:Int)<=(n:Int):=qO;have qg:Hid (∀wx,Ext wr wx->wx.cell? (aD gt 0)=some (.pointer (sA L.p))/\wx.cell? (aD L.p 0)=some (.s (sA g) L.m cr)/\wx.cell? (aD L.p 1)=some (.s (sA gb) L.m cb)/\wx.cell? (aD gb n)=some (vI (Sx.atN T.bas n:Nat))):=Hx (fun wx hx=>by have I':=I.o.1.K hx;obtain⟨e1,e2,e3,e4,e5⟩:=I'.loc;obtain⟨cp,qe,_,p0,p1,p2,p7⟩:=I'.tab.goa;have qa:=I'.tab.bas;rw[e1]at qe;rw[e2,HV.o.1]at p0;rw[e3,HV.o.2]at p1;rw[e3,HV.o.2,e5]at qa;exact⟨(AK.o wx hx).bt.cell 0,(qe.cell 0).trans p0,(qe.cell 1).trans p1,gX qa vT⟩)
  have v3:=Hx (show∀wx,Ext wr wx->Calls prog 136 #[.pointer (some (aD g (n*4))),vI (Sx.atN T.bas n:Nat),.pointer (sA (gl+1)),.pointer (sA gs),.pointer (sA gt)] wx
    (fun e w'=>e=.returned (.tuple #[])/\∃L2,iE W6 w' B L L2 (dQ T vals (n+1))/\iD w' w.heap.size L gt gl gs vals vS js)from fun wx hx=>
   jzlq n g cr (I.o.1.K hx) (AK.o wx hx) vg.o qC (yY vK hx.size) vG.o LT.o vT HV.o.1 H.o.2.1 H.o.2.2 hP1 hP hm qO v5.o vn.o hjl)
  have XD:Hid (Ext wr wr.drew):=Hx ((eR wr).drewN 1);have HSW:=Hx (qg.o _ XD.o);(go_upto_region 20 with fail);(refine wX qg 14 ?_;refine wP 0 rfl HSW.o ?_;try simp only[qN]);refine wU [14,6,4,3,2] 1 rfl HSW.o ?_;refine wP 2 rfl HSW.o ?_;refine wP 3 rfl HSW.o ?_;refine wU [14,6] 4 rfl HSW.o ?_;refine wP 5 rfl HSW.o ?_;refine wP 6 rfl HSW.o ?_;refine wU [14,13,12,10,9,8] 7 rfl HSW.o ?_;refine wP 8 rfl HSW.o ?_;refine wP 9 rfl HSW.o ?_;refine wU [14,13,12] 10 rfl HSW.o ?_;refine wP 11 rfl HSW.o ?_;refine wP 12 rfl HSW.o ?_;(refine wV 13 rfl HSW.o ?_;try simp only[qN]);refine aY qK rfl qR (fun KK hK=>?_);go_simp;refine(v3.o _ XD.o).mono ?_;rintro e w9 ⟨rfl,L2,I9,A9⟩;have I9:=Hx (kQa I9 A9);refine hK.o _ _ ?_;clear hK KK v3 qg HSW XD AK I;refine wpAny_done qK ?_ _;go_wp2;go_roundg (L.m-(n+1));exact⟨n+1,L2,rfl,qO,by go_num,I9⟩;omega
 have e9:n=L.m:=qO;subst e9;have q4:=Hx (jzlr (B0:=w.heap.size) I.o.1 I.o.2 vg.o qC vK vG.o LT.o H.o.2.1 H.o.2.2 hP1 hP hm qO v5.o vn.o hjl);have t0:wr.cell? (aD gt 0)=some (.pointer (sA L.p)):=I.o.2.bt.cell 0;go_wp2_with fail;refine(q4.o).mono ?_;rintro e w9 ⟨rfl,L2,g2,c2,vy,I9,A9⟩;rw[hKK]at vy;obtain⟨e1,e2,e3,e4,e5⟩:=I9.loc;have I9:=Hx (kQa vy (kQa I9 A9));have E5:=Hx (kQa e1 (kQa e4 e5));clear q4 I AK t0 vy;have t0:w9.cell? (aD gt 0)=some (.pointer (sA L.p)):=I9.o.2.2.bt.cell 0;obtain⟨cp,qe,⟨nr,R1,m1,d1,zu,zA,zw,r0,r1,r2,r3,zh⟩,p0,p1,p2,p7⟩:=I9.o.2.1.tab.goa;rw[e1]at qe;rw[e4,qj.o]at p2;rw[e5,I9.o.1]at r0;have q2:w9.cell? (aD L.p 2)=some (.s AF K cf):=(qe.cell 2).trans p2;have q3:w9.cell? (aD L.p 3)=some (.s (sA g2) (K+1) c2):=(qe.cell 3).trans r0;have qU:T.goal.co.length=K:=(by rw[H.o.2.1.gl];exact hKK);have zb:Hid (SzQ (Sx.addC T vals T.goal.co 0 js) 30000000):=Hx (by have h1:=uO (T:=T) (X:=T.goal.co) (vals:=vals) (base:=0) (js:=js) (P:=P) H.o.2.2.go vn.o ((show SzQ 0 1 from⟨qD,qD⟩).mono hP1) (fun j hj=>by have h2:=vg.o▸hj;have h3:=lV T vals _ j h2;rw[qU];omega) js.length (yX _);unfold gZ at h1;rw[yU (yX _)]at h1;refine h1.mono ?_;have:js.length*(2*P+1)<=1000*20001:=kQq qO qO;omega);have vk:(T.goal.co++[Sx.addC T vals T.goal.co 0 js])[K]?=some (Sx.addC T vals T.goal.co 0 js):=(by rw[yS qO,qU,Nat.sub_self];rfl);have qi:=I9.o.2.1.tab.go;rw[e5,I9.o.1]at qi;have qi:OQ QR 33 w9 B (.s (sA g2) (K+1) c2) (T.goal.co++[Sx.addC T vals T.goal.co 0 js]):=qi;obtain⟨ny,Y1,my,fy,q5,qW,qT,⟨s0,s1,s2⟩,_,hy⟩:=qi.cell vk;have FC:Hid (FrS L.S w w9/\aC w9 nc AC lc cc AC' lc' cc' cost/\Blk w9 (gt+1) 33 #[.bool nc,.s AC lc cc,.s AC' lc' cc']):=Hx (by have k1:=J.o.1.fr.tr I9.o.2.1.fr fun b hb=>.inl hb;exact⟨k1,k1.ratR H.o.1.no32 HT.o.1,I9.o.2.1.fr.blk J.o.1.bc (PG.o _ qO)⟩)
 obtain⟨l1,zB⟩:=hy.lens zb.o;obtain⟨l2,zD⟩:=FC.o.2.1.lens hcsz;have RF:=Hx hy;have qg:=Hx (show∀wx,Ext w9 wx->wx.cell? (aD gt 0)=some (.pointer (sA L.p))/\wx.cell? (aD L.p 3)=some (.s (sA g2) (K+1) c2)/\(wx.cell? (aD g2 (K*3))=some (.bool ny)/\wx.cell? (aD g2 (K*3+1))=some (.s Y1 my fy)/\wx.cell? (aD g2 (K*3+2))=some (.s q5 qW qT))/\
   (wx.cell? (aD (gt+1) 0)=some (.bool nc)/\wx.cell? (aD (gt+1) 1)=some (.s AC lc cc)/\wx.cell? (aD (gt+1) 2)=some (.s AC' lc' cc'))from fun wx hx=>
  ⟨aA hx t0,aA hx q3,⟨aA hx s0,aA hx s1,aA hx s2⟩,((FC.o.2.2.K hx).t3).1⟩)
 (clear qe p0 p1 p2 p7 r0 r1 r2 r3 zh qi hy s0 s1 s2 q3;have XD:Hid (Ext w9 w9.drew):=Hx ((eR w9).drewN 1);have HSW:=Hx (qg.o _ XD.o);have zp:(K:Int)<(K:Int)+1:=qO;have zx:(0:Int)<=(K:Int):=by omega);(go_upto_region 24 with fail);(clear t0 q2;refine wX qg 17 ?_;refine wV 0 rfl HSW.o ?_;try simp only[qN]);refine wP 1 rfl HSW.o ?_;refine wP 2 rfl HSW.o ?_;refine wP 3 rfl HSW.o ?_;refine wV 4 rfl HSW.o ?_;refine wP 5 rfl HSW.o ?_;refine wV 6 rfl HSW.o ?_;refine wP 7 rfl HSW.o ?_;refine wP 8 rfl HSW.o ?_;refine wP 9 rfl HSW.o ?_;refine wV 10 rfl HSW.o ?_;refine wP 11 rfl HSW.o ?_;refine wP 12 rfl HSW.o ?_;refine wV 13 rfl HSW.o ?_;(refine wV 14 rfl HSW.o ?_;try simp only[qN]);refine wC 15 rfl (fun KK hK=>?_);go_simp;refine(nW ny nc Y1 my fy q5 qW qT AC lc cc AC' lc' cc' (Sx.addC T vals T.goal.co 0 js) cost _ (RF.o.K XD.o) (FC.o.2.1.K XD.o) qO qO qO qO).mono ?_;rintro e qM ⟨vu,vt,vj,vl,qy,qx,qB,rfl,vV,vW⟩;have qJ:Hid (Ext w9 qM):=Hx (XD.o.tr vW);have HSW:=Hx (qg.o _ qJ.o);have q9:Hid (aG (((qM.setCell (aD g2 (K*3)) (.bool vu)).setCell (aD g2 (K*3+1)) (.s vt vj vl)).setCell (aD g2 (K*3+2)) (.s qy qx qB)) B L2 (fU (dQ T vals L.m) ⟨T.goal.co++[Sx.addC T vals T.goal.co 0 js-cost],T.goal.re⟩)/\FrS L2.S qM (((qM.setCell (aD g2 (K*3)) (.bool vu)).setCell (aD g2 (K*3+1)) (.s vt vj vl)).setCell (aD g2 (K*3+2)) (.s qy qx qB))):=Hx (by have h1:=(I9.o.2.1.tab.K qJ.o).go_set (gv:=g2) (K:=K+1) (cv:=c2) (n:=K) (by rw[E5.o.2.2];exact I9.o.1) (by show(T.goal.co++[_]).length=_;rw[yQ,qU];rfl) qO vV;have h2:(T.goal.co++[Sx.addC T vals T.goal.co 0 js]).set K (Sx.addC T vals T.goal.co 0 js-cost)=T.goal.co++[Sx.addC T vals T.goal.co 0 js-cost]:=(by rw[List.set_append_right _ _ qO,qU,Nat.sub_self];rfl);have h3:(fU (dQ T vals L.m) ⟨T.goal.co++[Sx.addC T vals T.goal.co 0 js],T.goal.re⟩).goal.co.set K (Sx.addC T vals T.goal.co 0 js-cost)=T.goal.co++[Sx.addC T vals T.goal.co 0 js-cost]:=h2;rw[h3]at h1;exact h1);(have qi:=(I9.o.2.1.tab.K qJ.o).go;rw[E5.o.2.2,I9.o.1]at qi;have qi:OQ QR 33 qM B (.s (sA g2) (K+1) c2) (T.goal.co++[Sx.addC T vals T.goal.co 0 js]):=qi;obtain⟨_,_,_,_,_,_,_,_,⟨z0,z1,z2⟩,_⟩:=qi.cell vk;refine hK.o _ _ HSW.o ?_;clear hK KK vV vW qi;refine wP 16 rfl HSW.o ?_;try simp only[qN]);obtain⟨_,_,⟨t0,t1,t2⟩,_⟩:=HSW.o;refine aY qK rfl qR (fun KK hK=>?_);go_simp;refine hK.o _ _ ?_;clear hK KK;refine wpAny_done qK ?_ _;clear t0 t1 t2 z0 z1 z2 HSW RF qg XD vk;generalize ((qM.setCell (aD g2 (K*3)) (.bool vu)).setCell (aD g2 (K*3+1)) (.s vt vj vl)).setCell (aD g2 (K*3+2)) (.s qy qx qB)=W11 at*;have qZ:Hid (∀b,L2.S b->b≠gt):=Hx (fun b hb=>by (rcases I9.o.2.1.far b hb with h1|h1);{exact(vG.o b h1).1};exact(LT.o b h1).1);have v6:=Hx (q9.o.2.blk (I9.o.2.2.bt.K qJ.o) fun hb=>qZ.o _ hb rfl);have t0:W11.cell? (aD gt 0)=some (.pointer (sA L.p)):=v6.o.cell 0;have qg:Hid (∀wx,Ext W11 wx->wx.cell? (aD gt 0)=some (.pointer (sA L.p))/\wx.cell? (aD L.p 2)=some (.s AF K cf)):=Hx (fun wx hx=>by obtain⟨cp,qe,_,p0,p1,p2,p7⟩:=(q9.o.1.K hx).goa;rw[E5.o.1]at qe;rw[E5.o.2.1,qj.o]at p2;exact⟨aA hx t0,(qe.cell 2).trans p2⟩);have XD:Hid (Ext W11 W11.drew):=Hx ((eR W11).drewN 1);have XB:Hid (Ext W11 (W11.alloc (.cells #[vI ((L.m:Int)+(T.cols:Int))] 3)).drew):=Hx (((eR W11).alloc _).drewN 1);have HSW:=Hx (qg.o _ XD.o);(go_upto_region 25 with fail);(refine wX qg 10 ?_;refine wV 0 rfl HSW.o ?_;try simp only[qN]);refine wV 1 rfl HSW.o ?_;refine wP 2 rfl HSW.o ?_;refine wP 3 rfl HSW.o ?_;refine wV 4 rfl HSW.o ?_;(refine wP 5 rfl HSW.o ?_;try simp only[qN]);refine wC 6 rfl (fun KK hK=>?_);go_simp;have qz:=Hx (qg.o _ XB.o);refine hK.o _ _ qz.o ?_;clear hK KK HSW t0;have HSW:=qz;have BW:Hid (Blk (W11.alloc (.cells #[vI ((L.m:Int)+(T.cols:Int))] 3)).drew W11.heap.size 3 #[vI ((L.m:Int)+(T.cols:Int))]):=Hx (eN W11 _ _);clear qz;generalize (W11.alloc (.cells #[vI ((L.m:Int)+(T.cols:Int))] 3)).drew=W12 at*;have qY:=Hx (q9.o.1.K XB.o);have qa:=qY.o.fre;rw[E5.o.2.1,qj.o]at qa;have qa:W12.ownsRow B 3 1 (.s AF K cf) T.fre.length (ints T.fre):=qa;rw[hKK]at qa;have zj:B<=W12.heap.size:=(by have:=qY.o.lo;have:=(qY.o.ty (.inl rfl)).2.1;omega);refine wC 7 rfl (fun KK hK=>?_);refine fS W12 42 3 _ 1 8 _ _ rfl underlying42 Tryz.infoInt rfl qD B (.s AF K cf) K (ints T.fre) qR qa [vI ((L.m:Int)+(T.cols:Int))] rfl (by simp[Value.oneCell']) W11.heap.size qR BW.o (by unfold maxLen;omega) qO zj ?_;intro g7 c7 w7 qQ qh qw;have k7:Hid (FrS (fun b=>(Value.slice AF K cf).ownBlock=some b) W12 w7):=Hx (eG qh fun g e=>e);have zd:Hid (∀b,(Value.slice AF K cf).ownBlock=some b->L2.S b):=Hx (fun b hb=>.inr (.inr (.inr (.inl (by rw[E5.o.2.1,qj.o];exact hb)))));obtain⟨cp,qe,_,p0,p1,p2,p7⟩:=qY.o.goa;have qn:=k7.o.blk qe fun hb=>bK qa hb qD _ _ qe;rw[E5.o.1]at qn;rw[E5.o.2.1,qj.o]at p2;have FP:Hid (aG (w7.setCell (aD L.p 2) (.s (sA g7) (K+1) c7)) B (L2.setF (.s (sA g7) (K+1) c7)) (Sx.addT T cost vals)/\FrS L2.S W12 (w7.setCell (aD L.p 2) (.s (sA g7) (K+1) c7))):=Hx (by have h1:=qY.o.fre_push (g7:=g7) (c7:=c7) (num:=L.m+T.cols) (w7:=w7) (by show w7.ownsRow B 3 1 (.s (sA g7) (T.fre.length+1) c7) (T.fre.length+1) (ints T.fre++[vI ((L.m+T.cols:Nat):Int)]);rw[hKK,kZv];exact qQ) (by rw[E5.o.2.1,qj.o];exact qh) (by rw[E5.o.2.1,qj.o];exact qw.imp id fun e=>Nat.le_of_eq e.symm);have h2:=jzls (vals:=vals) qC cost;rw[<-vg.o]at h2;have h3:(fU (dQ T vals L.m) ⟨T.goal.co++[Sx.addC T vals T.goal.co 0 js-cost],T.goal.re⟩).fre=T.fre:=rfl;rw[h3,h2,hKK,E5.o.1]at h1;exact h1);have qA:Hid (∀b,L2.S b->L.S b\/w.heap.size<=b):=Hx (fun b hb=>(I9.o.2.1.far b hb).imp id fun h=>yY J.o.1.fr.size h);have zc:Hid (∃L':aU,L'.p=L.p/\L'.m=L.m/\aG (w7.setCell (aD L.p 2) (.s (sA g7) (K+1) c7)) B L' (Sx.addT T cost vals)/\FrS L.S w (w7.setCell (aD L.p 2) (.s (sA g7) (K+1) c7))/\∀b,L'.S b->L.S b\/gt<=b):=Hx (by rw[<-hgt];refine⟨L2.setF (.s (sA g7) (K+1) c7),E5.o.1,E5.o.2.2,FP.o.1,((((FC.o.1.tr (eE (S:=L.S) qJ.o) fun b hb=>.inl hb).tr q9.o.2 qA.o).tr (eE (S:=L.S) XB.o) fun b hb=>.inl hb).tr FP.o.2 qA.o),?_⟩;refine jzlt (W6:=w) (wx:=W12) qA.o ?_ ?_;{have h1:=FC.o.1.size;have h2:=qJ.o.size;have h3:=q9.o.2.size;have h4:=XB.o.size;omega};rw[E5.o.2.1,qj.o];exact qw.imp id fun e=>Nat.le_of_eq e.symm)
 have qk:=Hx (show w7.cell? (aD gt 0)=some (.pointer (sA L.p))/\w7.cell? (aD L.p 2)=some (.s AF K cf)from
  ⟨(k7.o.blk (v6.o.K XB.o) fun hb=>qZ.o _ (zd.o _ hb) rfl).cell 0,(qn.cell 2).trans p2⟩)
 (have z0:w7.frozen? (aD L.p 2)=false:=qn.frozen _;have t0:w7.cell? (aD L.p 2)=some (.s AF K cf):=qk.o.2;refine hK.o _ _ qk.o ?_;clear hK KK HSW qQ qh qa qw qe qn p0 p1 p2 p7;have HSW:=qk;try simp only[qN]);refine wP 8 rfl HSW.o ?_;(refine wP 9 rfl HSW.o ?_;try simp only[qN]);refine aY qK rfl qR (fun KK hK=>?_);go_simp;refine hK.o _ _ ?_;clear hK KK HSW qk z0 t0;refine wpAny_done qK ?_ _;go_wp2;(go_end0);obtain⟨L9,f1,f2,f3,f4,f5⟩:=zc.o;refine⟨L9,rfl,f1,f2,?_,f4,?_⟩;{rw[hvals];exact f3};rw[hgt];exact f5
end Go.Proofs.YtfeeacaofjpkaaaGreatDoor
