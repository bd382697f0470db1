/- Part 14 of 23 of what the Flows claims share (the white space is struck, the texts are joined). -/
import Derived.WalkMore
import Derived.RangeFuncBox
import Derived.RangeFuncLeaves
import Derived.RangeFuncCalls
import Derived.TacticsInMore
import Derived.LoopNIn
import Derived.LoopIn
import Derived.OwnWalkIn
import Derived.Sort.CutIn
import Derived.Shelf.RegionOpen
import Derived.OrdersIn
import Derived.Test.YtllmekijiohgmaaGreatDoorT13
set_option linter.unusedVariables false
set_option linter.unusedSimpArgs false
set_option maxRecDepth 100000
set_option maxHeartbeats 8000000
namespace Go.Proofs.YtllmekijiohgmaaGreatDoor
namespace Fo
open Sx
section
variable {t:Tp} {kd nm:Int} {n d:Nat}
theorem jzat{p:Nat->Bool}{a:Nat}(ha:a<2*t.links.length):aU ((List.range (2*t.links.length)).map p) a=p a:=by
 unfold aU;rw[yW,xJ ha];rfl
theorem jzi8{p q:Nat->Bool}{a:Nat}(ha:a<2*t.links.length):aU (orL ((List.range (2*t.links.length)).map p) ((List.range (2*t.links.length)).map q)) a=(p a||q a):=by
 unfold aU orL;rw[List.getElem?_zipWith,yW,yW,xJ ha];rfl
theorem jzi9{own:List Bool}{l:LN}(h:gI own l=none):∀a∈l,aU own a=false:=fun a ha=>by
 unfold gI at h;rw[List.find?_eq_none]at h;have:=h a ha;simpa using this
theorem jzja(g:Gok t)(hn:n<t.nodes.toNat)(hd:d<t.nodes.toNat):∀a∈(cL t (bQ t kd nm n) n d).arcs,ofB t kd nm a=false:=fun a ha=>by
 have hB:=(wO g hn hd (bQ t kd nm n)).lea.2 a ha;have key:fF t kd nm n a=false->ofB t kd nm a=false:=fun h=>(by unfold fF at h;rw[yO hB.2,Bool.and_true]at h;exact h);refine key ?_;unfold cL at ha;split at ha;{rename_i h;have:=jzi9 h a ha;unfold bQ at this;rwa [jzat hB.1]at this};rename_i b hb;have hm:aU (eQ t (bQ t kd nm n) b n d) a=false:=(by unfold dG at ha;split at ha;{cases ha};rename_i h1;split at ha;{cases ha};rw[Bool.or_eq_true,Bool.not_eq_true',beq_iff_eq,not_or,Bool.not_eq_false]at h1;obtain⟨h3,h4⟩:=h1;unfold bJ at h3;rw[decide_eq_true_eq]at h3;obtain⟨_,D⟩:=g.ds (down:=eQ t (bQ t kd nm n) b n d) hd;obtain⟨w1,_⟩:=D.pth_ok (fun a ha=>(g.cs a ha).1) g.hd ((dsP t (eQ t (bQ t kd nm n) b n d) d n).toNat+1) n hn h3 (by omega);exact(rU w1 (fun _ _ _ _ _=>trivial) a (xM ha)).2);unfold eQ at hm;split at hm;{unfold mkL bQ at hm;rw[jzi8 hB.1,Bool.or_eq_false_iff]at hm;exact hm.2};unfold bQ at hm;rwa [jzat hB.1]at hm
theorem jzjb(g:Gok t)(hn:n<t.nodes.toNat)(dst h:Nat)(st:List Sg)(hs:∀s∈st,sgB t s):∀a∈(cM t (bW t kd nm n) dst h st).1,ofB t kd nm a=false:=by
 have qa:∀(d:Nat) (e:En),(bW t kd nm n).es[d]?=some e->∀a∈e.arcs,ofB t kd nm a=false:=fun d e he=>(by unfold bW at he;simp only[yW]at he;by_cases hd:d<t.nodes.toNat;{rw[xJ hd]at he;(injection he with he);rw[<-he];exact jzja g hn hd};rw[yI (by simpa using hd)]at he;cases he);have hN:∀a∈(goN (bW t kd nm n) dst h).1,ofB t kd nm a=false:=fun a ha=>(by unfold goN at ha;split at ha;{cases ha};split at ha;{cases ha};split at ha;{cases ha};rename_i e he;split at ha;{cases ha};unfold cQ at ha;split at ha;{split at ha;{cases ha};exact qa _ e he a ha};exact qa _ e he a ha);(intro a ha;unfold cM at ha;have hp:∀s∈cH (bW t kd nm n).node st,sgB t s:=fun s h=>hs s (rW h);cases hq:cH (bW t kd nm n).node st with|nil=>rw[hq]at ha;exact hN a ha|cons y r=>obtain⟨k,j⟩:=y;rw[hq]at ha hp;unfold goS at ha;simp only at ha;split at ha;{cases ha};split at ha;{rename_i hk;split at ha;{cases ha};rename_i ht;split at ha;{exact hN a ha};rename_i hdn;obtain rfl:a=j:=(by simpa using ha);have hm:a<2*t.links.length:=(by (rcases hp (k,a) (by simp)with⟨h1,_⟩|⟨_,h2⟩);{simp only at h1;omega};exact h2);(rw[Decidable.not_not]at ht;have ht:tlN t a=n:=ht;cases ho:ofB t kd nm a with|false=>rfl|true=>refine absurd ?_ hdn;show a∈dV t kd nm n;unfold dV fF;rw[List.mem_filter,vX,ho,yO ht];exact⟨hm,rfl⟩)};split at ha;{exact hN a ha};rename_i e he;split at ha;{exact hN a ha};unfold cQ at ha;split at ha;{split at ha;{cases ha};exact qa _ e he a ha};exact qa _ e he a ha)
end
structure RI(t:Tp)(kd nm:Int)(s dst h:Nat)(sh:LQ)(lo:Rat)(gs:List Gp):Prop where
 ci:CI t s dst 0 0 gs ⟨sh,lo,[]⟩
 gp:∀g∈gs,GpB t h g
 shq:∀q∈sh,QB_ h (h:Rat) q
 loq:QB_ h (h:Rat) lo
 off:∀a,ofB t kd nm a=true->shA sh a=0
section
variable {t:Tp} {kd nm:Int} {s dst h:Nat} {sh:List Rat} {lo:Rat} {gs:List Gp}
theorem tB{n:Nat}{x:Tb}(hx:(aC t kd nm)[n]?=some x):n<t.nodes.toNat/\x=bW t kd nm n:=by
 unfold aC at hx;rw[yW]at hx;by_cases hn:n<t.nodes.toNat;{rw[xJ hn]at hx;(injection hx with hx);exact⟨hn,hx.symm⟩};rw[yI (by simpa using hn)]at hx;cases hx
theorem oO(g:Gok t):∀n x,(aC t kd nm)[n]?=some x->TbB t n x:=fun n x hx=>by
 obtain⟨h1,rfl⟩:=tB hx;exact nK g h1 kd nm
theorem jzau{st:List Sg}{q:Rat}:∀(l:LN) (f:Fs),f.sh.length=2*t.links.length->(∀a∈l,a<2*t.links.length/\ofB t kd nm a=false)->(∀a,ofB t kd nm a=true->shA f.sh a=0)->∀a,ofB t kd nm a=true->shA (l.foldl (bZ t st q) f).sh a=0
 | [],_,_,_,h=>h
 |b::l,f,hl,hb,h=>by
  refine jzau l (bZ t st q f b) ?_ (fun c hc=>hb c (by simp[hc])) fun a ha=>?_
  ·show(dE f.sh b q).length=_
   unfold dE;rw[yV];exact hl
  ·show shA (dE f.sh b q) a=0
   have h1:=hb b (by simp);rw[tA (by omega),if_neg (fun e=>by rw[e,h1.2]at ha;cases ha)];exact h a ha
theorem jzav(gk:Gok t)(hL:t.links.length<=9):∀(gs:List Gp) (P:Rat) (f:Fs),CI t s dst 0 0 gs f->(∀g∈gs,GpB t h g)->FsB t h (h:Rat) P f->(∀a,ofB t kd nm a=true->shA f.sh a=0)->
  CI t s dst 0 0 [] (gs.foldl (grS t (aC t kd nm) dst h) f)/\FsB t h (h:Rat) (P+aP gs) (gs.foldl (grS t (aC t kd nm) dst h) f)/\∀a,ofB t kd nm a=true->shA (gs.foldl (grS t (aC t kd nm) dst h) f).sh a=0
 | [],P,f,h1,_,h3,h4=>⟨h1,by
     have e:P+aP []=P:=(by show P+0=P;grind);rw[e];exact h3,h4⟩
 |g::gs,P,f,h1,h2,h3,h4=>by
  have hg:=h2 g (by simp);have qa:(aC t kd nm).length=t.nodes.toNat:=(by unfold aC;simp);have k1:=h1.grp (T:=aC t kd nm) (oO gk) hg.sg hg.am (by rw[qa];exact hg.node) h;have k3:=h3.grp gk hL (T:=aC t kd nm) (oO gk) dst hg;have k4:∀a,ofB t kd nm a=true->shA (grS t (aC t kd nm) dst h f g).sh a=0:=by
   unfold grS
   split
   ·exact h4
   rename_i x hx
   obtain⟨hn,rfl⟩:=tB hx;have h5:=lS (nK gk hn kd nm) dst h hg.sg;have h6:=jzjb (kd:=kd) (nm:=nm) gk hn dst h g.st hg.sg
   split
   rename_i arcs st r e
   rw[e]at h5 h6
   split
   ·split
    ·exact h4
    exact h4
   exact jzau _ _ h3.len (fun a ha=>⟨(h5.arc a ha).1,h6 a ha⟩) h4
  obtain⟨r1,r2,r3⟩:=jzav gk hL gs _ _ k1 (fun x hx=>h2 x (by simp[hx])) k3 k4;refine⟨r1,?_,r3⟩;have e:P+aP (g::gs)=P+g.am+aP gs:=by
   show P+(g.am+aP gs)=_;grind
  rw[e];exact r2
end
end Fo
end Go.Proofs.YtllmekijiohgmaaGreatDoor
namespace Go.Proofs.YtllmekijiohgmaaGreatDoor
namespace Fo
open Sx
section
variable {t:Tp} {kd nm:Int} {s dst h:Nat} {sh:List Rat} {lo:Rat} {gs:List Gp}
theorem jzaw(h:Nat):(((h+1:Nat):Int):Rat)=((h:Int):Rat)+1:=by rw[kZv,Rat.intCast_add];rfl
theorem jzax(h:Nat):(0:Rat)<=((h:Int):Rat):=Rat.intCast_nonneg.2 (by omega)
theorem RI.le(hr:RI t kd nm s dst h sh lo gs):aP gs<=1:=by
 have h1:=hr.ci.le;have h2:=hr.loq.nn;have h3:lo+aP gs+aP []+0<=1:=h1;have h4:aP []=0:=rfl;grind
theorem RI.fsb(hr:RI t kd nm s dst h sh lo gs):FsB t h (h:Rat) 0 ⟨sh,lo,[]⟩:=
 ⟨hr.ci.len,fun q hq=>by
  have:=hr.shq q hq;exact⟨this.nn,by have:=this.top;grind,sU this.int⟩,⟨hr.loq.nn,by have:=hr.loq.top;grind,sU hr.loq.int⟩,(fun _ h=>by cases h),vC⟩
theorem RI.round(hr:RI t kd nm s dst h sh lo gs)(gk:Gok t)(hL:t.links.length<=9):RI t kd nm s dst (h+1) (rdS t (aC t kd nm) dst h sh lo gs).sh (rdS t (aC t kd nm) dst h sh lo gs).lo (rdS t (aC t kd nm) dst h sh lo gs).nx:=by
 obtain⟨r1,r2,r3⟩:=jzav (kd:=kd) (nm:=nm) (s:=s) (dst:=dst) gk hL gs 0 ⟨sh,lo,[]⟩ hr.ci hr.gp hr.fsb hr.off;have qa:=hr.le;have hb:(h:Rat)+(0+aP gs)<=((h+1:Nat):Rat):=(by have e:((h+1:Nat):Rat)=(h:Rat)+1:=jzaw h;rw[e];grind);unfold rdS;refine⟨⟨r1.len,fun n=>?_,?_,?_⟩,r2.nx,fun q hq=>(r2.sh q hq).mono hb,r2.lo.mono hb,r3⟩;{have h1:=r1.lt n;have e1:prN [] n=0:=rfl;rw[e1]at h1⊢;grind};{have h1:=r1.at_;have e1:prN [] dst=0:=rfl;have e2:aP []=0:=rfl;rw[e1,e2]at h1⊢;grind};have h1:=r1.le;have e2:aP []=0:=rfl;rw[e2]at h1⊢;grind
theorem oQ{T:List Tb}(hh:255<=h):∀(gs:List Gp) (f:Fs),f.nx=[]->(gs.foldl (grS t T dst h) f).nx=[]
 | [],_,h0=>h0
 |g::gs,f,h0=>by
  refine oQ hh gs _ ?_;unfold grS
  split
  ·exact h0
  ·rename_i x hx
   have h1:=jzf4 (t:=t) x dst hh g.st
   split
   rename_i arcs st r e
   rw[e]at h1;simp only at h1;rw[if_pos h1]
   split <;> exact h0
theorem jzay(gk:Gok t)(hL:t.links.length<=9):∀(k h:Nat) (sh:LQ) (lo:Rat) (gs:List Gp),k+h=257->h<=256/\(256<=h->gs=[])->RI t kd nm s dst h sh lo gs->
  ∃h',h'<=256/\RI t kd nm s dst h' (flS t (aC t kd nm) dst k h sh lo gs).1 (flS t (aC t kd nm) dst k h sh lo gs).2 []
 |0,h,sh,lo,gs,hk,h0,hr=>by
  have:=h0.1;omega
 |k+1,h,sh,lo,[],hk,h0,hr=>⟨h,h0.1,hr⟩
 |k+1,h,sh,lo,g::gs,hk,h0,hr=>by
  have hh:h<256:=by
   rcases kQd h 256 with h1|h1
   ·exact h1
   cases h0.2 h1
  show∃h',h'<=256/\RI t kd nm s dst h' (flS t (aC t kd nm) dst k (h+1) _ _ _).1 (flS t (aC t kd nm) dst k (h+1) _ _ _).2 [];exact jzay gk hL k (h+1) _ _ _ (by omega) ⟨by omega,fun h1=>oQ (by omega) _ _ rfl⟩ (hr.round gk hL)
end
end Fo
end Go.Proofs.YtllmekijiohgmaaGreatDoor
namespace Go.Proofs.YtllmekijiohgmaaGreatDoor
open Go.RowKit
namespace Fo
theorem jzjc:(Tryz.prog.info? 150).map (fun i=>(i.zero,i.size,i.bytes))=some (some (.agg #[vI 0,vI 0,vI 0,vI 0,vI 0,zN,vI 0,.bool false,zN,zN]),10,128):=by kernel_rfl
def GpM(src dst h:Nat)(w:World)(cs:List Value)(g:Gp):Prop:=∃(A:OA) (n c:Nat) (neg:Bool) (B:OA) (m cB:Nat) (B':OA) (m' cB':Nat),
 cs=[vI (g.node:Int),vI 0,vI (src:Int),vI (dst:Int),vI 0,.s A n c,vI (h:Int),.bool neg,.s B m cB,.s B' m' cB']/\g.st.length=n/\n<=c/\bB w A g.st/\aO w neg B m cB B' m' cB' g.am
def LoB(w:World)(g:Nat)(q:Rat):Prop:=∃(neg:Bool) (A:OA) (n c:Nat) (A':OA) (n' c':Nat),Blk w g 40 #[.bool neg,.s A n c,.s A' n' c']/\aO w neg A n c A' n' c' q
section
variable {S:Nat->Prop} {w w':World} {src dst h:Nat} {cs:List Value} {g:Gp} {b:Nat} {q:Rat} {qs:List Rat}
theorem GpM.K(hg:GpM src dst h w cs g)(hx:Ext w w'):GpM src dst h w' cs g:=by
 obtain⟨A,n,c,neg,B,m,cB,B',m',qa,h1,h2,h3,h4,h5⟩:=hg;exact⟨A,n,c,neg,B,m,cB,B',m',qa,h1,h2,h3,h4.K hx,h5.K hx⟩
theorem GpM.fr(hg:GpM src dst h w cs g)(k:FrS S w w')(n1:NoT S w 148)(n2:NoT S w 168):GpM src dst h w' cs g:=by
 obtain⟨A,n,c,neg,B,m,cB,B',m',qa,h1,h2,h3,h4,h5⟩:=hg;exact⟨A,n,c,neg,B,m,cB,B',m',qa,h1,h2,h3,h4.fr k n1,k.ratR n2 h5⟩
theorem GpM.len(hg:GpM src dst h w cs g):cs.length=10:=by
 obtain⟨_,_,_,_,_,_,_,_,_,_,h1,_⟩:=hg;rw[h1];rfl
theorem LoB.K(hl:LoB w b q)(hx:Ext w w'):LoB w' b q:=by
 obtain⟨neg,A,n,c,A',n',c',h1,h2⟩:=hl;exact⟨neg,A,n,c,A',n',c',h1.K hx,h2.K hx⟩
theorem LoB.fr(hl:LoB w b q)(k:FrS S w w')(hb:¬S b)(n2:NoT S w 168):LoB w' b q:=by
 obtain⟨neg,A,n,c,A',n',c',h1,h2⟩:=hl;exact⟨neg,A,n,c,A',n',c',k.blk h1 hb,k.ratR n2 h2⟩
theorem LoB.lt(hl:LoB w b q):b<w.heap.size:=by
 obtain⟨neg,A,n,c,A',n',c',h1,_⟩:=hl;exact h1.lt
theorem gM(hq:QB w b qs)(k:FrS S w w')(hb:¬S b)(n2:NoT S w 168):QB w' b qs:=by
 obtain⟨qa,h1,h2,h3,h4⟩:=hq;refine⟨qa,h1,h2,k.blk h3 hb,fun i q hi=>?_⟩;obtain⟨cs,k1,k2⟩:=h4 i q hi;exact⟨cs,k1,k.qr n2 k2⟩
theorem jzjd{B gb n c i:Nat}{l:List Gp}{x:Gp}{neg:Bool}{A}{n1 c1:Nat}{A'}{n' c':Nat}(ho:OwL (GpM src dst h) 150 10 w B (.s (sA gb) n c) l)(hn:l.length=n)(hi:l[i]?=some x)(hl:aO w neg A n1 c1 A' n' c' q):
  OwL (GpM src dst h) 150 10 (((w.setCell (aD gb (i*10+7)) (.bool neg)).setCell (aD gb (i*10+7+1)) (.s A n1 c1)).setCell (aD gb (i*10+7+2)) (.s A' n' c')) B (.s (sA gb) n c) (l.set i ⟨x.node,x.st,q⟩)/\
  FrS (fun b=>b=gb) w (((w.setCell (aD gb (i*10+7)) (.bool neg)).setCell (aD gb (i*10+7+1)) (.s A n1 c1)).setCell (aD gb (i*10+7+2)) (.s A' n' c'))/\(∃cs,Blk w gb 150 cs):=by
 obtain⟨qa,h1,h2,h3,h4⟩:=ho;rw[hn]at h3;obtain⟨cb,hb⟩:=rN h3 (g:=gb) rfl;have g2:=nF w gb (i*10+7) (.bool neg) (.s A n1 c1) (.s A' n' c');have k:FrS (fun b=>b=gb) w _:=eG (S:=fun b=>b=gb) g2 fun y e=>(by (injection e with e);exact e.symm);have qj:=(yH.1 hi).1;have qe:i<qa.length:=(by omega);obtain⟨cs,qi,hM⟩:=h4 i x hi;have qf:cs.length=10:=hM.len;have e0:qa=qa.set i cs:=(by apply uK;intro j;by_cases e:i=j;{subst e;rw[yM qe];exact qi};rw[vN e]);have b:=rO (k:=i*10+9) (rO (k:=i*10+8) (rO (k:=i*10+7) h3 (.bool neg)) (.s A n1 c1)) (.s A' n' c');rw[e0,kB qa h2 i qe cs 7 _ qf (by omega),kB qa h2 i qe _ 8 _ (by simp[qf]) (by omega),kB qa h2 i qe _ 9 _ (by simp[qf]) (by omega)]at b;obtain⟨A0,n0,c0,qk,B0,m0,qn,qo,qm,qg,e1,e2,e3,e4,e5⟩:=hM;have e6:((cs.set 7 (.bool neg)).set 8 (.s A n1 c1)).set 9 (.s A' n' c')=[vI (x.node:Int),vI 0,vI (src:Int),vI (dst:Int),vI 0,.s A0 n0 c0,vI (h:Int),.bool neg,.s A n1 c1,.s A' n' c']:=(by rw[e1];rfl);rw[e6]at b;have nS:NoT (fun b=>b=gb) w 148:=NoT.one hb (by decide);have n3:NoT (fun b=>b=gb) w 168:=NoT.one hb (by decide);refine⟨⟨qa.set i _,by simp[h1],fun c hcc=>?_,by rw[yV,hn];exact b,fun j p hj=>?_⟩,k,_,hb⟩;{(rcases xE hcc with h|h);{exact h2 c h};rw[h];rfl};by_cases e:i=j;{subst e;(rw[yM qj]at hj;injection hj with hj);subst hj;exact⟨_,yM qe,A0,n0,c0,neg,A,n1,c1,A',n',c',rfl,e2,e3,e4.fr k nS,k.ratR n3 hl⟩};rw[vN e]at hj;obtain⟨qh,k1,k2⟩:=h4 j p hj;exact⟨qh,by rw[vN e];exact k1,k2.fr k nS n3⟩
end
theorem jzaz{t}{n:Nat}{x:Tb}(hx:TbB t n x)(dst h:Nat){st:List Sg}(hs:st.length<=32):(cM t x dst h st).2.1.length<=32:=by
 have hE:∀(e:En) (st:List Sg),st.length<=32->(cQ e st).2.1.length<=32:=fun e st hs=>(by unfold cQ;split;{split;{exact yZ _};rename_i h;simpa using h};exact hs);have hN:(goN x dst h).2.1.length<=32:=(by unfold goN;split;{exact yZ _};split;{exact yZ _};split;{exact yZ _};split;{exact yZ _};exact hE _ _ (yZ _));have hp:∀st:List Sg,(cH x.node st).length<=st.length:=fun st=>(by (induction st with|nil=>exact yX _|cons s l ih=>unfold cH;split;{rw[kQo];omega};exact yX _));unfold cM;have hq:=yY (hp st) hs;revert hq;(cases cH x.node st with|nil=>intro _;exact hN|cons s r=>obtain⟨k,m⟩:=s;intro hq;rw[kQo]at hq;unfold goS;simp only;split;{exact yZ _};split;{split;{exact yZ _};split;{exact hN};show r.length<=32;omega};split;{exact hN};split;{exact hN};exact hE _ _ (by rw[kQo];omega))
theorem FsB.szs{t}{h:Nat}{P:Rat}{s:Fs}(hs:FsB t h (h:Rat) P s)(hh:h<=255)(hP:P<=2):(∀q∈s.sh,SzQ q 430)/\SzQ s.lo 430/\∀g∈s.nx,SzQ g.am 430:=by
 have h0:((h:Int):Rat)<=((255:Int):Rat):=kQt.2 (by omega);have h1:(h:Rat)+P<=((512:Int):Rat):=(by have e:(h:Rat)=((h:Int):Rat):=rfl;rw[e];have:((255:Int):Rat)+2<=((512:Int):Rat):=(by decide+kernel);grind);refine⟨fun q hq=>(hs.sh q hq).sz (by omega) h1,hs.lo.sz (by omega) h1,fun g hg=>?_⟩;have h2:=(oH s.nx fun g hg=>(hs.nx g hg).am).2 g hg;have h3:=hs.tot;have h4:g.am<=((512:Int):Rat):=(by have:(2:Rat)<=((512:Int):Rat):=(by decide+kernel);grind);exact((hs.nx g hg).qb h4).sz (by omega) vC
end Fo
namespace Fo
section
variable {t:Tp}
theorem tC:∀(m m':Nat) (q:LN),q.length<=m->q.length<=m'->dL t m q=dL t m' q
 |0,0,_,_,_=>rfl
 |0,m'+1,q,h,_=>by
  cases q with
  |nil=>rfl
  |cons a q=>simp at h
 |m+1,0,q,_,h=>by
  cases q with
  |nil=>rfl
  |cons a q=>simp at h
 |m+1,m'+1,q,h,h'=>by
  cases q with
  |nil=>rfl
  |cons a q=>
   simp only[dL];have h1:q.length<=m:=(by simpa using h);have h2:q.length<=m':=by simpa using h'
   split
   ·rw[tC m m' q h1 h2]
   rename_i hk
   have h3:((a::q).drop (cK (cG t (a::q)) (a::q).length)).length<=q.length:=by
    have h4:(a::q).length=q.length+1:=rfl;rw[List.length_drop];omega
   rw[tC m m' _ (yY h3 h1) (yY h3 h2)]
theorem mD:∀(m:Nat) (q:LN),(dL t m q).length<=m
 |0,_=>yX _
 |m+1,[]=>by simp[dL]
 |m+1,a::q=>by
  simp only[dL]
  split
  ·rw[kQo];have:=mD m q;omega
  ·rw[kQo];have:=mD m ((a::q).drop (cK (cG t (a::q)) (a::q).length));omega
theorem jzje{p:LN}{i a:Nat}(h:p[i]?=some a)(hk:cK (cG t (p.drop i)) (p.length-i)=0):bG t (p.drop i)=(2,a)::bG t (p.drop (i+1)):=by
 have hi:=(yH.1 h).1;have e:p.drop i=a::p.drop (i+1):=(by rw[kQ6 hi,(yH.1 h).2]);have hl:(p.drop i).length=p.length-i:=List.length_drop;unfold bG;rw[<-hl]at hk;rw[e]at hk⊢;rw[kQo,dL];rw[kQo]at hk;simp only[kQo];rw[if_pos hk]
theorem jzjf{p:LN}{i k b:Nat}(hi:i<p.length)(hk:cK (cG t (p.drop i)) (p.length-i)=k)(h0:k≠0)(hb:p[i+k-1]?=some b):bG t (p.drop i)=(1,hdN t b)::bG t (p.drop (i+k)):=by
 have hl:(p.drop i).length=p.length-i:=List.length_drop;have e:p.drop i=p[i]::p.drop (i+1):=kQ6 hi;have qa:(p.drop i)[k-1]?=some b:=(by rw[List.getElem?_drop, <-hb];congr 1;omega);have hd:p.drop (i+k)=(p.drop i).drop k:=(by rw[List.drop_drop]);unfold bG;rw[hd];generalize p.drop i=q at*;subst e;rw[<-hl]at hk;rw[kQo]at hk⊢;rw[dL];simp only[kQo];rw[hk,if_neg h0,qa,kQ1];congr 1;refine tC _ _ _ ?_ (yX _);rw[List.length_drop,kQo];omega
theorem jza0(cs:Nat->Int):∀(l k:LN),dA cs (l++k)=dA cs l+dA cs k
 | [],k=>by show dA cs k=0+dA cs k;omega
 |b::l,k=>by
  show cs b+dA cs (l++k)=cs b+dA cs l+dA cs k;rw[jza0 cs l k];omega
theorem jzjg{fr:Nat}{p:LN}(hp:upW t [] p)(h0:∀a,p[0]?=some a->tlN t a=fr){i j:Nat}(hij:i<j)(hj:j<=p.length):coB t fr p i j=cG t (p.drop i) (j-i):=by
 have e1:(p.drop i)[j-i-1]?=p[j-1]?:=(by rw[List.getElem?_drop];congr 1;omega);have e2:hdN t ((p.drop i)[j-i-1]?.getD 0)=ndP t fr p j:=(by rw[e1];unfold ndP;rw[if_neg (by omega)]);have e3:tlN t ((p.drop i)[0]?.getD 0)=ndP t fr p i:=(by rw[List.getElem?_drop,kQ3];have hi:i<p.length:=(by omega);rw[yG hi,kQ1];unfold ndP;by_cases e:i=0;{subst e;rw[if_pos rfl];exact h0 _ (yG hi)};rw[if_neg e];have qa:i-1<p.length:=(by omega);have hh:=(hp.at_ (yG qa)).2.2 p[i] (by rw[show i-1+1=i by omega];exact yG hi);rw[yG qa,kQ1];exact hh.1.symm);have e4:dA (csZ t) ((p.drop i).take (j-i))=ccP t p j-ccP t p i:=(by have h1:p.take j=p.take i++(p.drop i).take (j-i):=(by rw[show j=i+(j-i) by omega,List.take_add];congr 2;omega);unfold ccP;rw[h1,jza0];omega);unfold coB cG;rw[e2,e3,e4];rfl
theorem jza1(G:Gok t){p:LN}(hp:upW t [] p):∀k,k<=p.length->0<=ccP t p k/\ccP t p k<=65535*(k:Int)
 |0,_=>by unfold ccP;rw[List.take_zero];exact⟨Int.le_refl _,Int.le_refl _⟩
 |k+1,h=>by
  have hk:k<p.length:=(by omega);have h1:=jza1 G hp k (by omega);rw[jz8 (yG hk)];have h2:=G.cs _ (hp.at_ (yG hk)).1;omega
end
theorem oU{α:Type}{enc:α->Value}{w}{b n:Nat}{m:α->Option Value}(h:MpG enc w b n m){B k s:Nat}{e:TypeId}{v:Value}{xs:List Value}(o:w.ownsRow B e s v k xs){g:Nat}(hg:v.ownBlock=some g):g≠b:=by
 rcases o.2 with⟨h3,_⟩|⟨g',cap,cur,h3,_⟩
 ·rw[h3]at hg;cases hg
 subst h3;injection hg with hg
 have hg:g'=g:=hg;subst hg;exact mC h o
theorem CvI.K{w wx wy}{gx m1 m2:Nat}{t}{AO}{co:Nat}{AL}{cl:Nat}{A}{n cA gN cN gC cC fr:Nat}{p:LN}{N:Nat}(h:CvI w wx gx m1 m2 t AO co AL cl A n cA gN cN gC cC fr p N)(hx:Ext wx wy):CvI w wy gx m1 m2 t AO co AL cl A n cA gN cN gC cC fr p N:=by
 obtain⟨f1,f2,b1,b2,T,F1,F2⟩:=h;refine⟨f1,f2,b1,b2,T.K hx,fun d v hd=>?_,F2⟩;obtain⟨q1,g,q2,q3⟩:=F1 d v hd;exact⟨q1,g,q2,q3.K hx⟩
theorem CvI.nd{w wx}{gx m1 m2:Nat}{t}{AO}{co:Nat}{AL}{cl:Nat}{A}{n cA gN cN gC cC fr:Nat}{p:LN}{N:Nat}(h:CvI w wx gx m1 m2 t AO co AL cl A n cA gN cN gC cC fr p N){j:Nat}(hj:j<=n):wx.cell? (aD gx 5)=some (.s (sA gN) (n+1) cN)/\wx.cell? (aD gN j)=some (vI (ndP t fr p j:Int)):=by
 obtain⟨f1,f2,b1,b2,T,F1,F2⟩:=h;exact⟨T.tk.cell 5,kP T.ns (by unfold ints ndL;rw[yW,yW,xJ (by omega)];rfl)⟩
theorem jza2{w:World}{B B' k k' s s' g c:Nat}{e e':TypeId}{v:Value}{xs xs':List Value}(o:w.ownsRow B e s v k xs)(h:w.ownsRow B' e' s' (.s (sA g) k' c) k' xs')(hne:e≠e'){b:Nat}(hb:v.ownBlock=some b):b≠g:=fun e1=>by
 rcases h.2 with⟨h3,_⟩|⟨g',cap,cur,h3,_,h5,_⟩
 ·cases h3
 ·injection h3 with h3;injection h3 with h3;injection h3 with h3
  subst h3 e1;exact aW o hb hne _ _ h5
theorem CvI.seg{w wx wy}{gx m1 m2:Nat}{t}{AO}{co:Nat}{AL}{cl:Nat}{A}{n cA gN cN gC cC fr:Nat}{p:LN}{N:Nat}{V:Value}{B k:Nat}{xs:List Value}(h:CvI w wx gx m1 m2 t AO co AL cl A n cA gN cN gC cC fr p N)(o:wx.ownsRow B 148 2 V k xs)(gr:wx.grownBy wy V.ownBlock)(hB:∀b,V.ownBlock=some b->w.heap.size<=b):CvI w wy gx m1 m2 t AO co AL cl A n cA gN cN gC cC fr p N:=by
 obtain⟨f1,f2,b1,b2,T,F1,F2⟩:=h;have fr:=eG (S:=fun b=>V.ownBlock=some b) gr fun g e=>e;refine⟨f1,f2,b1,b2,⟨fr.ext T.ex hB,fr.blk T.tk fun e=>aW o e (by decide) _ _ T.tk,fr.own T.ns fun b hb e=>?_,fr.own T.cs fun b hb e=>?_,T.mp1.same (fr.block m1 T.mp1.lt fun e=>oU T.mp1 o e rfl),T.mp2.same (fr.block m2 T.mp2.lt fun e=>oU T.mp2 o e rfl),T.ne,T.lx,T.l1,T.l2,T.nm⟩,fun d v hd=>?_,F2⟩;{have hb:some gN=some b:=hb;(injection hb with hb);exact jza2 o T.ns (by decide) e hb.symm};{have hb:some gC=some b:=hb;(injection hb with hb);exact jza2 o T.cs (by decide) e hb.symm};obtain⟨q1,g,q2,q3⟩:=F1 d v hd;exact⟨q1,g,q2,fr.rdT (fun b hb=>aW o hb (by decide)) q3⟩
theorem OwS.cov{w0 w wx wy}{gx m1 m2:Nat}{t}{AO}{co:Nat}{AL}{cl:Nat}{A}{n cA gN cN gC cC fr:Nat}{p:LN}{N:Nat}{v:Value}{l:List (Int×Int)}(o:OwS w0 wx v l)(h:CvI w wx gx m1 m2 t AO co AL cl A n cA gN cN gC cC fr p N)(k:FrS (fun b=>b=m1\/b=m2) wx wy)(hw:w0.heap.size<=w.heap.size):OwS w0 wy v l:=by
 obtain⟨f1,f2,b1,b2,T,F1,F2⟩:=h;exact⟨k.own o.own fun b hb e=>e.elim (oU T.mp1 o.own hb) (oU T.mp2 o.own hb),k.ext o.ex fun b e=>by have:=T.l1;have:=T.l2;rcases e with e|e <;> omega⟩
theorem OwS.pushed{w0 wx wy:World}{v:Value}{l:List (Int×Int)}{x:Int×Int}{g c:Nat}(o:OwS w0 wx v l)(own:wy.ownsRow w0.heap.size 148 2 (.s (sA g) (l.length+1) c) (l.length+1) (sgc l++[vI x.1,vI x.2]))(gr:wx.grownBy wy v.ownBlock):OwS w0 wy (.s (sA g) (l.length+1) c) (l++[x]):=by
 refine⟨?_,(eG (S:=fun b=>v.ownBlock=some b) gr fun g e=>e).ext o.ex fun b hb=>(o.own.lt b hb).1⟩;have e:sgc (l++[x])=sgc l++[vI x.1,vI x.2]:=(by unfold sgc;rw[List.flatMap_append];rfl);rw[e,yQ];exact own
def LsP(w:World)(l:List Sg)(e:Ending)(w':World):Prop:=∃v,e=.returned (.tuple #[v,vI 0])/\OwS w w' v (sgI l)
theorem jzjh t AO(co:Nat)AL(cl:Nat)A(n cA:Nat)(p:LN)(fr N:Nat)w
  (ht:aF w t AO co AL cl) (hv:aA t=true) (hN:t.nodes=(N:Int)) (h12:N<=12) (hfr:fr<N) (hp:upW t [] p) (h0:∀a,p[0]?=some a->tlN t a=fr) (hA:Rd w A (ints p)) (hn:p.length=n) (hc:n<=cA) (hn2:n+1<=N):
  Calls Tryz.prog 240 #[.agg #[vI t.nodes,.s AO t.over.length co,.s AL t.links.length cl],zN,.s A n cA,vI (fr:Int)] w (LsP w (bG t p)):=by
 have G:=Gok.of hv;obtain⟨b0,e0⟩:=bF w #[vI t.nodes,.s AO t.over.length co,.s AL t.links.length cl] 25;have qx:(w.alloc (.cells #[vI t.nodes,.s AO t.over.length co,.s AL t.links.length cl] 25)).heap.size=w.heap.size+1:=(by rw[World.size_alloc]);have qw:∀k,k<=n->ndP t fr p k<N:=fun k hk=>(by unfold ndP;by_cases e:k=0;{rw[if_pos e];exact hfr};rw[if_neg e];have qp:k-1<p.length:=(by omega);rw[yG qp,kQ1];have:=G.hd _ (hp.at_ (yG qp)).1;omega);have FO:=Hx (fun(W:World) (hx:Ext w W)=>jzh0 t AO co AL cl A n cA p fr N W (ht.K hx) hv hN hfr hp h0 (hA.K hx) hn hc (by omega));have CO:=Hx (fun(w1 wx:World) (i j gx m1 m2 gN cN gC cC:Nat) (hx:Ext w w1) (hi:i<=n) (hj:j<=n) (h:CvI w1 wx gx m1 m2 t AO co AL cl A n cA gN cN gC cC fr p N)=>jzik t AO co AL cl A n cA gN cN gC cC fr p N i j gx m1 m2 w1 wx (ht.K hx) hv hN h12 hi hj (by omega) qw (fun k hk=>by have h1:=jza1 G hp k (by omega);exact⟨h1.1,by omega⟩) h);have CB:=Hx (fun(i j:Nat) (qt:i<j) (hj:j<=n)=>jzjg (t:=t) (fr:=fr) hp h0 qt (by rw[hn];exact hj));have RL:=Hx hA;have HN:=Hx hn;have qz:Hid (0<=t.nodes/\(n:Int)+1<=t.nodes/\t.nodes<=12):=Hx (by omega);obtain⟨⟨i0,i1,i2⟩,g0,g1,g2⟩:=b0.t3;have BB:=Hx (kQa b0 (kQa e0 qx));clear ht hv hN hfr hp h0 hA hn hc G qw b0 qx;go_enter Tryz.func240,Tryz.ntmps240;(go_upto_region 1 with fail);go_step3;generalize w.alloc (.cells #[vI t.nodes,.s AO t.over.length co,.s AL t.links.length cl] 25)=w1 at*;go_wp2_with fail
 refine(FO.o _ e0).mono ?_;rintro e w2 ⟨gx,m1,m2,gN,cN,gC,cC,rfl,T2⟩;have I0:=Hx (show CvI w1 w2 gx m1 m2 t AO co AL cl A n cA gN cN gC cC fr p N/\OwS w w2 zN (sgI [])/\ []++bG t (p.drop 0)=bG t p/\Blk w2 w.heap.size 25 #[vI t.nodes,.s AO t.over.length co,.s AL t.links.length cl]from
  ⟨⟨_,_,_,_,T2,fun d v h=>(by cases h),fun d v h=>(by cases h)⟩,⟨World.ownsRow_nil _ _ _ _,e0.tr T2.ex⟩,rfl,BB.o.1.K T2.ex⟩)
 have HS:Hid (w.heap.size<=w1.heap.size):=Hx (e0.size);have qo:=Hx BB.o.2.2;have E1:=Hx e0;have qk:=Hx (fun(W:World) (hx:Ext w1 W)=>BB.o.1.K hx);clear T2 BB FO e0 i0 i1 i2 g0 g1 g2;(go_upto_region 4 with fail);go_wp2;go_step3;go_wp2;go_loopg [12,13,14] n (fun m v iv _ wx=>∃(i:Nat) (l:List Sg) (V:Value),n-i=m/\i<=n/\V=v/\iv=vI (i:Int)/\Hid (CvI w1 wx gx m1 m2 t AO co AL cl A n cA gN cN gC cC fr p N/\OwS w wx V (sgI l)/\l++bG t (p.drop i)=bG t p/\Blk wx w.heap.size 25 #[vI t.nodes,.s AO t.over.length co,.s AL t.links.length cl]));(case atStart=>exact⟨0,[],_,rfl,yZ _,rfl,rfl,I0⟩);obtain⟨i,l,V,rfl,hi,rfl,rfl,I⟩:=hrel;clear I0;by_cases qu:i<n
 ·(have jN:(i:Int)<(n:Int):=by omega);obtain⟨i0,i1,i2⟩:=I.o.2.2.2.t3.1;obtain⟨n0,n1,n2⟩:=qz.o;have qC:wrap64 ((i:Int)+t.nodes)=(i:Int)+t.nodes:=(by unfold wrap64;omega);have qA:wrap64 ((i:Int)+t.nodes-1)=(i:Int)+t.nodes-1:=(by unfold wrap64;omega);have mn:min (n:Int) ((i:Int)+t.nodes-1)=(n:Int):=(by omega);have J0:=Hx (kQa I.o (show cK (cG t (p.drop i)) (n-i)=cK (cG t (p.drop i)) (n-i)from rfl));clear I n0 n1 n2;(go_upto_region 7 with fail);go_wp2;clear qC qA mn i0 i1 i2;go_loopg [12,13,14] (n-i) (fun m v iv jv wx=>∃j:Nat,j-i=m/\i<=j/\j<=n/\V=v/\iv=vI (i:Int)/\jv=vI (j:Int)/\Hid ((CvI w1 wx gx m1 m2 t AO co AL cl A n cA gN cN gC cC fr p N/\OwS w wx V (sgI l)/\l++bG t (p.drop i)=bG t p/\Blk wx w.heap.size 25 #[vI t.nodes,.s AO t.over.length co,.s AL t.links.length cl])/\cK (cG t (p.drop i)) (n-i)=cK (cG t (p.drop i)) (j-i)));(case atStart=>exact⟨n,rfl,hi,yX _,rfl,rfl,rfl,Hx ⟨J0.o.1,rfl⟩⟩);obtain⟨j,rfl,qt,hj,rfl,rfl,rfl,J⟩:=hrel;clear J0;by_cases qB:i<j
  ·(have jI:(i:Int)<(j:Int):=by omega);have j1:(1:Int)<=(j:Int):=(by omega);have KB:=Hx (CB.o i j qB hj);obtain⟨k,hk⟩:∃k,j-i=k+1:=⟨j-i-1,by omega⟩;have HK:=Hx hk;clear hk;generalize hcv:cG t (p.drop i) (j-i)=cv at*;have qi:=Hx hcv;clear hcv;go_wp2_with fail
   refine(CO.o w1 _ i j gx m1 m2 gN cN gC cC E1.o hi hj J.o.1.1).mono ?_;rintro e w3 ⟨rfl,qm,k3⟩;rw[KB.o];have J3:=Hx (show(CvI w1 w3 gx m1 m2 t AO co AL cl A n cA gN cN gC cC fr p N/\OwS w w3 V (sgI l)/\l++bG t (p.drop i)=bG t p/\Blk w3 w.heap.size 25 #[vI t.nodes,.s AO t.over.length co,.s AL t.links.length cl])/\cK (cG t (p.drop i)) (n-i)=cK (cG t (p.drop i)) (j-i)from
    ⟨⟨qm,J.o.1.2.1.cov J.o.1.1 k3 HS.o,J.o.1.2.2.1,qk.o w3 (by obtain⟨_,_,_,_,T,_⟩:=qm;exact T.ex)⟩,J.o.2⟩)
   clear qm k3 J;cases cv
   ·have J4:=Hx (show(CvI w1 w3 gx m1 m2 t AO co AL cl A n cA gN cN gC cC fr p N/\OwS w w3 V (sgI l)/\l++bG t (p.drop i)=bG t p/\Blk w3 w.heap.size 25 #[vI t.nodes,.s AO t.over.length co,.s AL t.links.length cl])/\cK (cG t (p.drop i)) (n-i)=cK (cG t (p.drop i)) ((j-1)-i)from
     ⟨J3.o.1,by
      rw[J3.o.2,HK.o,show j-1-i=k by have:=HK.o;omega,cK];have h:=qi.o;rw[HK.o]at h;rw[h];rfl⟩)
    clear J3 KB qi;go_wp2;go_roundg (j-1-i);(case measure=>omega);exact⟨j-1,rfl,by omega,by omega,rfl,rfl,by go_num,J4⟩
   have qf:j-1<p.length:=(by rw[HN.o];omega);have hb:p[i+(j-i)-1]?=some p[j-1]:=(by rw[show i+(j-i)-1=j-1 by omega];exact yG qf);have qy:ndP t fr p j=hdN t p[j-1]:=(by unfold ndP;rw[if_neg (by omega),yG qf,kQ1]);have LP:Hid (l++[(1,ndP t fr p j)]++bG t (p.drop j)=bG t p):=Hx (by have hk:cK (cG t (p.drop i)) (p.length-i)=j-i:=(by rw[HN.o,J3.o.2];have h:=qi.o;have h2:=HK.o;rw[h2]at h⊢;rw[cK,h];rfl);have h:=jzjf (by rw[HN.o];exact qu) hk (by omega) hb;rw[show i+(j-i)=j by omega]at h;rw[qy,List.append_assoc,List.singleton_append, <-h];exact J3.o.1.2.2.1)
   clear qf hb qy KB qi HK;obtain⟨y5,yj⟩:=J3.o.1.1.nd hj;have jn:(j:Int)<(n:Int)+1:=(by omega);generalize ndP t fr p j=nj at*;have BC:=Hx (eN w3 148 #[vI 1,vI (nj:Int)]);have J4:=Hx (show CvI w1 (w3.alloc (.cells #[vI 1,vI (nj:Int)] 148)) gx m1 m2 t AO co AL cl A n cA gN cN gC cC fr p N/\OwS w (w3.alloc (.cells #[vI 1,vI (nj:Int)] 148)) V (sgI l)/\Blk (w3.alloc (.cells #[vI 1,vI (nj:Int)] 148)) w.heap.size 25 #[vI t.nodes,.s AO t.over.length co,.s AL t.links.length cl]from
    ⟨J3.o.1.1.K ((eR _).alloc _),⟨dB J3.o.1.2.1.own ((eR _).alloc _),J3.o.1.2.1.ex.alloc _⟩,J3.o.1.2.2.2.alloc _⟩)
   have qh:=J4.o.2.1.ex.size;have qj:l.length<=n:=(by have h:=congrArg List.length J3.o.1.2.2.1;rw[yQ]at h;have h2:=mD (t:=t) p.length p;rw[HN.o]at h2;unfold bG at h;rw[HN.o]at h;omega);clear J3;(go_wp2_with (at_builtin;refine dW _ 101 148 _ 2 16 rfl _ _ rfl Tryz.underlying101 kK rfl (by decide) w.heap.size V (sgI l).length (sgc (sgI l)) rfl J4.o.2.1.own [vI 1,vI (nj:Int)] rfl (by simp[Value.oneCell']) w3.heap.size rfl BC.o (by rw[eS];unfold maxLen;omega) (by rw[eS];omega) qh ?_));intro g9 c9 w9 qe qa qg;have J9:Hid (CvI w1 w9 gx m1 m2 t AO co AL cl A n cA gN cN gC cC fr p N/\OwS w w9 (.s (sA g9) ((sgI l).length+1) c9) (sgI (l++[(1,nj)]))/\l++[(1,nj)]++bG t (p.drop j)=bG t p/\Blk w9 w.heap.size 25 #[vI t.nodes,.s AO t.over.length co,.s AL t.links.length cl]):=Hx (by have hC:CvI w1 w9 gx m1 m2 t AO co AL cl A n cA gN cN gC cC fr p N:=J4.o.1.seg J4.o.2.1.own qa fun b hb=>(by have h1:=(J4.o.2.1.own.lt b hb).1;have h2:w.heap.size≠b:=fun e=>aW J4.o.2.1.own (hb.trans (congrArg some e.symm)) (t:=25) (by decide) _ _ J4.o.2.2;have:=qo.o;omega);refine⟨hC,?_,LP.o,qk.o w9 (by obtain⟨_,_,_,_,T,_⟩:=hC;exact T.ex)⟩;rw[nW];exact J4.o.2.1.pushed (x:=(1,(nj:Int))) qe qa);clear qe qa qg J4 BC qh qj LP y5 yj;go_wp2;go_roundg (n-j);(case measure=>omega);exact⟨j,l++[(1,nj)],_,rfl,hj,rfl,rfl,J9⟩
  obtain rfl:j=i:=(by omega);have qf:j<p.length:=(by rw[HN.o];exact qu);obtain⟨b,o,rfl,hb,qn⟩:=RL.o.ints_ qf;obtain⟨a,ha⟩:∃a,p[j]?=some a:=⟨_,yG qf⟩;rw[ha,kQ1]at qn;have y0:=aH (E1.o.tr (by obtain⟨_,_,_,_,T,_⟩:=J.o.1.1;exact T.ex)) qn;have LP:Hid (l++[(2,a)]++bG t (p.drop (j+1))=bG t p):=Hx (by have hk:cK (cG t (p.drop j)) (p.length-j)=0:=(by rw[HN.o,J.o.2,Nat.sub_self];rfl);rw[List.append_assoc,List.singleton_append, <-jzje ha hk];exact J.o.1.2.2.1);have qj:l.length<=n:=(by have h:=congrArg List.length J.o.1.2.2.1;rw[yQ]at h;have h2:=mD (t:=t) p.length p;rw[HN.o]at h2;unfold bG at h;rw[HN.o]at h;omega)
  clear qf hb qn ha;have BC:=Hx (eN wr 148 #[vI 2,vI (a:Int)]);have J4:=Hx (show CvI w1 (wr.alloc (.cells #[vI 2,vI (a:Int)] 148)) gx m1 m2 t AO co AL cl (some (aD b o)) n cA gN cN gC cC fr p N/\OwS w (wr.alloc (.cells #[vI 2,vI (a:Int)] 148)) V (sgI l)/\Blk (wr.alloc (.cells #[vI 2,vI (a:Int)] 148)) w.heap.size 25 #[vI t.nodes,.s AO t.over.length co,.s AL t.links.length cl]from
   ⟨J.o.1.1.K ((eR _).alloc _),⟨dB J.o.1.2.1.own ((eR _).alloc _),J.o.1.2.1.ex.alloc _⟩,J.o.1.2.2.2.alloc _⟩)
  have qh:=J4.o.2.1.ex.size;clear J;(go_wp2_with (at_builtin;refine dW _ 101 148 _ 2 16 rfl _ _ rfl Tryz.underlying101 kK rfl (by decide) w.heap.size V (sgI l).length (sgc (sgI l)) rfl J4.o.2.1.own [vI 2,vI (a:Int)] rfl (by simp[Value.oneCell']) wr.heap.size rfl BC.o (by rw[eS];unfold maxLen;omega) (by rw[eS];omega) qh ?_));intro g9 c9 w9 qe qa qg;have J9:Hid (CvI w1 w9 gx m1 m2 t AO co AL cl (some (aD b o)) n cA gN cN gC cC fr p N/\OwS w w9 (.s (sA g9) ((sgI l).length+1) c9) (sgI (l++[(2,a)]))/\l++[(2,a)]++bG t (p.drop (j+1))=bG t p/\Blk w9 w.heap.size 25 #[vI t.nodes,.s AO t.over.length co,.s AL t.links.length cl]):=Hx (by have hC:CvI w1 w9 gx m1 m2 t AO co AL cl (some (aD b o)) n cA gN cN gC cC fr p N:=J4.o.1.seg J4.o.2.1.own qa fun b hb=>(by have h1:=(J4.o.2.1.own.lt b hb).1;have h2:w.heap.size≠b:=fun e=>aW J4.o.2.1.own (hb.trans (congrArg some e.symm)) (t:=25) (by decide) _ _ J4.o.2.2;have:=qo.o;omega);refine⟨hC,?_,LP.o,qk.o w9 (by obtain⟨_,_,_,_,T,_⟩:=hC;exact T.ex)⟩;rw[nW];exact J4.o.2.1.pushed (x:=(2,(a:Int))) qe qa);clear qe qa qg J4 BC qh qj LP y0;go_wp2;go_roundg (n-(j+1));(case measure=>omega);exact⟨j+1,l++[(2,a)],_,rfl,by omega,rfl,by go_num,J9⟩
 obtain rfl:i=n:=(by omega);have F:Hid (LsP w (bG t p) (.returned (.tuple #[V,vI 0])) wr):=Hx (⟨V,rfl,by have h:=I.o.2.2.1;rw[<-HN.o,List.drop_length]at h;have e:bG t ([]:LN)=[]:=rfl;rw[e,List.append_nil]at h;rw[<-h];exact I.o.2.1⟩);clear I;go_wp2;exact bodyPost_ret (v:=.tuple #[V,vI 0]) (by simp[results,Tryz.results240,go_sem]) rfl F.o
end Fo
namespace Fo
theorem oV:∀(N:Nat) (l:LN),l.Nodup->(∀a∈l,a<N)->l.length<=N
 |0,l,_,h=>by
  cases l with
  |nil=>exact yX _
  |cons a l=>exact absurd (h a (by simp)) (by omega)
 |N+1,l,hd,h=>by
  have h1:=oV N (l.erase N) (hd.erase N) fun a ha=>by
   have h2:=(hd.mem_erase_iff).1 ha;have:=h a h2.2;have:=h2.1;omega
  rw[List.length_erase]at h1
  split at h1 <;> omega
section
variable {t:Tp} {down:List Bool} {d:Nat}
theorem upW.none:∀{p:LN},upW t down p->upW t [] p
 | [],_=>trivial
 | [a],h=>⟨h.1,by unfold aU;simp⟩
 |a::b::p,h=>⟨h.1,by unfold aU;simp,h.2.2.1,h.2.2.2.1,upW.none h.2.2.2.2⟩
theorem jzji(g:Gok t)(hd:d<t.nodes.toNat):∀(k n:Nat),n<t.nodes.toNat->0<=dsP t down d n->dsP t down d n<k->
  upW t down (ptP t down n d)/\(∀a,(ptP t down n d)[0]?=some a->tlN t a=n)/\∃ns:LN,ns.length=(ptP t down n d).length+1/\ns.Nodup/\∀x∈ns,x<t.nodes.toNat/\dsP t down d x<=dsP t down d n:=by
 obtain⟨_,D⟩:=g.ds (down:=down) hd;have hc:∀a,a<2*t.links.length->1<=csZ t a:=fun a ha=>(g.cs a ha).1;intro k;(induction k with|zero=>intro n _ _ _;omega|succ k ih=>intro n hn h0 hk;by_cases e:n=d;{(have e1:ptP t down n d=[]:=by unfold ptP;rw[e];exact kF);rw[e1];exact⟨trivial,fun a h=>by simp at h,[n],rfl,by simp,fun x hx=>by obtain rfl:x=n:=(by simpa using hx);exact⟨hn,Int.le_refl _⟩⟩};obtain⟨a,l,h1,h2⟩:=D.pth_eq hc hn e h0;have h3:a∈nxt (2*t.links.length) (tlN t) (hdN t) (csZ t) (okD t down d) d (dsP t down d) n:=(by rw[h1];simp);have h4:=fE hc h3;obtain⟨h5,h6,h7,_,_,h8⟩:=dY.1 h3;have hh:=g.hd a h5;have e2:ptP t down n d=a::ptP t down (hdN t a) d:=h2;unfold okD at h7;rw[vM,Bool.not_eq_true',Bool.or_eq_true,beq_iff_eq,Bool.not_eq_true']at h7;obtain⟨i1,i2,ns,i3,i4,i5⟩:=ih (hdN t a) hh h4.2 (by omega);rw[e2];refine⟨?_,fun b hb=>?_,n::ns,by rw[kQo,i3,kQo],kZo.2 ⟨fun hx=>?_,i4⟩,fun x hx=>?_⟩;{by_cases e3:hdN t a=d;{(have e4:ptP t down (hdN t a) d=[]:=by unfold ptP;rw[e3];exact kF);rw[e4];exact⟨h5,h7.1⟩};obtain⟨b,l',_,j2⟩:=D.pth_eq hc hh e3 h4.2;have e4:ptP t down (hdN t a) d=b::ptP t down (hdN t b) d:=j2;rw[e4]at i1 i2⊢;exact⟨h5,h7.1,(i2 b rfl).symm,h7.2.resolve_left e3,i1⟩};{(obtain rfl:a=b:=by simpa using hb);exact h6};{have:=(i5 n hx).2;omega};(rcases xZ.1 hx with rfl|hx);{exact⟨hn,Int.le_refl _⟩};have:=i5 x hx;exact⟨this.1,by omega⟩)
theorem mE(hv:aA t=true){n N:Nat}(hN:t.nodes=(N:Int))(hn:n<N)(hd:d<N)(hr:bJ t down n d=true):upW t down (ptP t down n d)/\(∀a,(ptP t down n d)[0]?=some a->tlN t a=n)/\(ptP t down n d).length+1<=N:=by
 have e:t.nodes.toNat=N:=(by omega);unfold bJ at hr;rw[decide_eq_true_eq]at hr;obtain⟨h1,h2,ns,h3,h4,h5⟩:=jzji (Gok.of hv) (by rw[e];exact hd) ((dsP t down d n).toNat+1) n (by rw[e];exact hn) hr (by omega);refine⟨h1,h2,?_⟩;rw[<-h3];exact oV N ns h4 fun x hx=>by have:=(h5 x hx).1;omega
end
theorem jzjj t AO(co:Nat)AL(cl:Nat)AD(cd:Nat)(down:List Bool)A(n cA:Nat)(p:LN)(fr N:Nat)w
  (ht:aF w t AO co AL cl) (hv:aA t=true) (hm:MkR w t AD cd down) (hN:t.nodes=(N:Int)) (h12:N<=12) (hfr:fr<N) (hp:upW t down p) (h0:∀a,p[0]?=some a->tlN t a=fr) (hA:Rd w A (ints p)) (hn:p.length=n) (hc:n<=cA) (hn2:n+1<=N):
  Calls Tryz.prog 211 #[.agg #[vI t.nodes,.s AO t.over.length co,.s AL t.links.length cl],.s AD down.length cd,.s A n cA,vI (fr:Int)] w (LsP w (bG t p)):=by
 have CH:=Hx (fun(wx:World) (hx:Ext w wx)=>jzhk t AO co AL cl AD cd down A n cA p fr N wx (ht.K hx) hv (hm.K hx) hN hfr hp h0 (hA.K hx) hn hc (by omega));have EL:=Hx (fun(wx:World) (hx:Ext w wx)=>jzjh t AO co AL cl A n cA p fr N wx (ht.K hx) hv hN h12 hfr hp.none h0 (hA.K hx) hn hc hn2);obtain⟨b0,e0⟩:=bF w #[vI t.nodes,.s AO t.over.length co,.s AL t.links.length cl] 25;obtain⟨⟨i0,i1,i2⟩,g0,g1,g2⟩:=b0.t3;have BB:=Hx b0;clear b0 ht hv hm hN hfr hp h0 hA hn;go_enter Tryz.func211,Tryz.ntmps211;(go_wp2_with fail);refine(CH.o _ e0).mono ?_;rintro e w1 ⟨rfl,qa⟩;have E1:=Hx (kQa (BB.o.K qa) (e0.tr qa));clear qa BB e0 i0 i1 i2 g0 g1 g2 CH;obtain⟨⟨i0,i1,i2⟩,g0,g1,g2⟩:=E1.o.1.t3;(go_wp2_with fail);refine(EL.o _ E1.o.2).mono ?_;rintro e w2 ⟨v,rfl,h2⟩;have F:Hid (LsP w (bG t p) (.returned (.tuple #[v,vI 0])) w2):=Hx (⟨v,rfl,⟨h2.own.mono E1.o.2.size,E1.o.2.tr h2.ex⟩⟩);clear h2 E1 i0 i1 i2 g0 g1 g2;go_wp2;exact bodyPost_ret (v:=.tuple #[v,vI 0]) (by simp[results,Tryz.results211,go_sem]) rfl F.o
end Fo
namespace Fo
theorem eD{w}{b:Nat}{t:TypeId}{v0 v1 v2:Value}(u0 u1 u2:Value)(h:Blk w b t #[v0,v1,v2]):Blk (((w.setCell (aD b 0) u0).setCell (aD b 1) u1).setCell (aD b 2) u2) b t #[u0,u1,u2]/\FrS (fun x=>x=b) w (((w.setCell (aD b 0) u0).setCell (aD b 1) u1).setCell (aD b 2) u2):=by
 have k1:∀(W:World) (i:Nat) (u:Value),FrS (fun x=>x=b) W (W.setCell (aD b i) u):=fun W i u=>eG (bI W b i u) fun y e=>(by (injection e with e);exact e.symm);exact⟨((h.sT 0 u0).sT 1 u1).sT 2 u2,((k1 w 0 u0).tr (k1 _ 1 u1) fun _ h=>.inl h).tr (k1 _ 2 u2) fun _ h=>.inl h⟩
theorem OwS.rdSg{w0 w}{A}{n c:Nat}{l:List Sg}(h:OwS w0 w (.s A n c) (sgI l)):n=l.length/\n<=c/\bB w A l:=by
 have hl:(sgI l).length=l.length:=eS l;rcases h.own.2 with⟨e,h2⟩|⟨g,cap,cur,e,h3,h4,h5,_⟩
 ·injection e with e1 e2 e3
  subst e1 e2 e3;have e:l=[]:=kQz (by omega);subst e;exact⟨rfl,yX _,RdT.nil _ _ _,.inl ⟨rfl,rfl⟩⟩
 injection e with e1 e2 e3
 subst e1 e2 e3;refine⟨hl,h5,dX (n:=(sgI l).length) h.own,.inr ⟨g,0,rfl,?_⟩⟩;exact(h.own.lt g rfl).2
theorem RdS.tail{w}{b o:Nat}{x:Int×Int}{l:List (Int×Int)}(h:RdS w (some (aD b o)) (x::l)):RdS w (some (aD b (o+2))) l:=by
 rcases h with⟨_,h⟩|⟨b',o',e,h2,h3⟩
 ·cases h
 injection e with e
 injection e with e1 e2
 subst e1 e2;exact .inr ⟨b,o+2,rfl,h2,fun j u hu=>by
  have:=h3 (j+2) u hu;rw[show o+2+j=o+(j+2) by omega];exact this⟩
theorem jzjk{w}{t:TypeId}{A}{a:Nat}{l:LN}(h:RdT w t A (ints (a::l))):RdT w t A (ints [a]):=fun _=>by
 obtain⟨b,o,cs,fr,h1,h2,h3⟩:=h (by simp[ints]);refine⟨b,o,cs,fr,h1,h2,fun i hi=>?_⟩;obtain rfl:i=0:=(by simpa [ints]using hi);exact h3 0 (by simp[ints])
theorem cU{w}{b:Nat}{t u:TypeId}{cs:Array Value}(h:Blk w b u cs)(hne:t≠u):NoT (fun x=>x=b) w t:=fun x hx cs' fr e=>by
 have hx:x=b:=hx;subst hx;unfold Blk at h;rw[h]at e;injection e with e
 injection e with _ e
 exact hne e.symm
def RpP(w:World)(E:En)(e:Ending)(w':World):Prop:=∃A cA rep P cP,e=.returned (.tuple #[.agg #[.s A E.arcs.length cA,.bool rep,.s P E.push.length cP],vI 0])/\EnC w' [.s A E.arcs.length cA,.bool rep,.s P E.push.length cP] E/\Ext w w'
theorem EnC.no w:EnC w [zN,.bool false,zN] .no:=⟨none,0,none,0,rfl,yX _,RdT.nil _ _ _,yX _,RdT.nil _ _ _,.inl ⟨rfl,rfl⟩⟩
theorem jzjl{t}{a:Nat}{p:LN}:∃s l,bG t (a::p)=s::l:=by
 unfold bG;rw[kQo,dL];split <;> exact⟨_,_,rfl⟩
theorem jzjm t AO(co:Nat)AL(cl:Nat)AD(cd:Nat)(down:List Bool)(n d N:Nat)w
  (ht:aF w t AO co AL cl) (hv:aA t=true) (hm:MkR w t AD cd down) (hN:t.nodes=(N:Int)) (h12:N<=12) (hn:n<N) (hd:d<N):
  Calls Tryz.prog 166 #[.agg #[vI t.nodes,.s AO t.over.length co,.s AL t.links.length cl],.s AD down.length cd,vI (n:Int),vI (d:Int)] w (RpP w (dG t down n d)):=by
 have PA:=Hx (fun(W:World) (hx:Ext w W)=>jzhi t AO co AL cl AD cd down n d N W (ht.K hx) hv (hm.K hx) hN hn hd);have SL:=Hx (fun(W:World) (A:OA) (m cA:Nat) (hx:Ext w W) (hr:bJ t down n d=true) (hA:Rd W A (ints (ptP t down n d))) (hl:(ptP t down n d).length=m) (hc:m<=cA)=>jzjj t AO co AL cl AD cd down A m cA (ptP t down n d) n N W (ht.K hx) hv (hm.K hx) hN h12 hn (mE hv hN hn hd hr).1 (mE hv hN hn hd hr).2.1 hA hl hc (by rw[<-hl];exact(mE hv hN hn hd hr).2.2));have PL:Hid (bJ t down n d=true->(ptP t down n d).length+1<=12):=Hx (fun hr=>yY (mE hv hN hn hd hr).2.2 h12);have P0:Hid (n=d->ptP t down n d=[]):=Hx (fun e=>by unfold ptP;rw[e];exact kF);have P1:Hid (bJ t down n d=true->n≠d->∃a l,ptP t down n d=a::l):=Hx (fun hr e=>by unfold bJ at hr;rw[decide_eq_true_eq]at hr;obtain⟨_,D⟩:=(Gok.of hv).ds (down:=down) (d:=d) (by omega);obtain⟨a,l,_,h⟩:=D.pth_eq (fun a ha=>((Gok.of hv).cs a ha).1) (show n<t.nodes.toNat by omega) e hr;exact⟨a,_,h⟩)
 have RE:Hid (dG t down n d=if !bJ t down n d||n==d then .no else if 32<(dM (bG t (ptP t down n d))).length then .no else⟨(ptP t down n d).take 1,true,dM (bG t (ptP t down n d))⟩):=Hx (rfl);have B0:=Hx (show Blk ((w.alloc (.cells #[vI t.nodes,.s AO t.over.length co,.s AL t.links.length cl] 25)).alloc (.cells #[zN,.bool false,zN] 103)) w.heap.size 25 #[vI t.nodes,.s AO t.over.length co,.s AL t.links.length cl]/\Blk ((w.alloc (.cells #[vI t.nodes,.s AO t.over.length co,.s AL t.links.length cl] 25)).alloc (.cells #[zN,.bool false,zN] 103)) (w.heap.size+1) 103 #[zN,.bool false,zN]/\Ext w ((w.alloc (.cells #[vI t.nodes,.s AO t.over.length co,.s AL t.links.length cl] 25)).alloc (.cells #[zN,.bool false,zN] 103))from
  ⟨(eN w _ _).alloc _,by
    have h:=eN (w.alloc (.cells #[vI t.nodes,.s AO t.over.length co,.s AL t.links.length cl] 25)) 103 #[zN,.bool false,zN];rw[World.size_alloc]at h;exact h,((eR w).alloc _).alloc _⟩)
 clear ht hv hm hN h12 hn hd;go_enter Tryz.func166,Tryz.ntmps166;(go_upto_region 1 with fail);generalize (w.alloc (.cells #[vI t.nodes,.s AO t.over.length co,.s AL t.links.length cl] 25)).alloc (.cells #[zN,.bool false,zN] 103)=w1 at*;generalize hgt:w.heap.size=gt at*;have qj:=Hx hgt;clear hgt;obtain⟨⟨i0,i1,i2⟩,_⟩:=B0.o.1.t3;(go_wp2_with fail);(refine(PA.o _ B0.o.2.2).mono ?_;intro e w2 hP;unfold PtP at hP;cases hr:bJ t down n d with|false=>rw[hr,if_neg (by decide)]at hP;obtain⟨rfl,x2⟩:=hP;have B2:=Hx (kQa (B0.o.2.1.K x2) (B0.o.2.2.tr x2));clear x2 B0 i0 i1 i2;obtain⟨⟨d0,d1,d2⟩,f0,f1,f2⟩:=B2.o.1.t3;go_wp2;have B5:=Hx (eD zN (.bool false) zN B2.o.1);have F:Hid (RpP w (dG t down n d) (.returned (.tuple #[.agg #[zN,.bool false,zN],vI 0])) (((w2.setCell (aD (gt+1) 0) zN).setCell (aD (gt+1) 1) (.bool false)).setCell (aD (gt+1) 2) zN)):=Hx (by rw[RE.o,hr];exact⟨none,0,false,none,0,rfl,EnC.no _,B5.o.2.ext B2.o.2 fun b hb=>by have:=qj.o;omega⟩);have r0:=B5.o.1.cell 0;have r1:=B5.o.1.cell 1;have r2:=B5.o.1.cell 2;clear B5 B2;refine bodyPost_ret (v:=.tuple #[.agg #[zN,.bool false,zN],vI 0]) ?_ rfl F.o;simp[results,Tryz.results166,go_sem,asAddr,Result.andThen,r0,r1,r2]|true=>rw[hr,if_pos rfl]at hP;obtain⟨v,rfl,hP⟩:=hP;obtain⟨A,c,rfl,qo⟩:=oFA hP.own;have B2:=Hx (kQa (B0.o.1.K hP.ex) (kQa (B0.o.2.1.K hP.ex) (B0.o.2.2.tr hP.ex)));have HR:Hid (RdT w2 3 A (ints (ptP t down n d))):=Hx (dX hP.own);have qi:=Hx qo;clear hP qo B0 i0 i1 i2;by_cases e:n=d;{have e1:=P0.o e;have qa:Hid (dG t down n d=.no):=Hx (by rw[RE.o,beq_iff_eq.2 e,Bool.or_true];rfl);rw[e1];clear HR qi RE;obtain⟨⟨d0,d1,d2⟩,f0,f1,f2⟩:=B2.o.2.1.t3;clear e e1;go_wp2;have B5:=Hx (eD zN (.bool false) zN B2.o.2.1);have F:Hid (RpP w (dG t down n d) (.returned (.tuple #[.agg #[zN,.bool false,zN],vI 0])) (((w2.setCell (aD (gt+1) 0) zN).setCell (aD (gt+1) 1) (.bool false)).setCell (aD (gt+1) 2) zN)):=Hx (by rw[qa.o];exact⟨none,0,false,none,0,rfl,EnC.no _,B5.o.2.ext B2.o.2.2 fun b hb=>by have:=qj.o;omega⟩);have r0:=B5.o.1.cell 0;have r1:=B5.o.1.cell 1;have r2:=B5.o.1.cell 2;clear B5 B2;refine bodyPost_ret (v:=.tuple #[.agg #[zN,.bool false,zN],vI 0]) ?_ rfl F.o;simp[results,Tryz.results166,go_sem,asAddr,Result.andThen,r0,r1,r2]};obtain⟨a,q,hp⟩:=P1.o hr e;have qf:=PL.o hr;have nz:((ptP t down n d).length:Int)≠0:=(by rw[hp,kQo];omega);have qk:=Hx (SL.o w2 A _ c B2.o.2.2 hr HR.o.rd rfl qi.o);have qa:Hid (dG t down n d=if 32<(dM (bG t (ptP t down n d))).length then .no else⟨(ptP t down n d).take 1,true,dM (bG t (ptP t down n d))⟩):=Hx (by rw[RE.o,hr,yK.2 e];rfl);have qg:(bG t (ptP t down n d)).length<=11:=(by have h:=mD (t:=t) (ptP t down n d).length (ptP t down n d);unfold bG;omega);obtain⟨s,l,hs⟩:∃s l,bG t (ptP t down n d)=s::l:=(by rw[hp];exact jzjl);have c1:(1:Int)<=(c:Int):=(by have:=qi.o;rw[hp,kQo]at this;omega);have qp:Hid (RdT w2 3 A (ints ((ptP t down n d).take 1))/\((ptP t down n d).take 1).length=1):=Hx (by have h:=HR.o;rw[hp]at h⊢;exact⟨jzjk h,rfl⟩);rw[hs]at qk qa qg;generalize ptP t down n d=p at*;generalize p.take 1=p1 at*;have NM:Hid (1<=p.length):=Hx (by rw[hp,kQo];omega);generalize p.length=m at*;obtain⟨⟨i0,i1,i2⟩,_⟩:=B2.o.1.t3;clear HR hp e SL PA P0 P1 PL RE qf hr;(go_wp2_with fail);refine qk.o.mono ?_;rintro e w3 ⟨v,rfl,h3⟩;obtain⟨A3,n3,c3,rfl⟩:∃A3 n3 c3,v=.s A3 n3 c3:=(by obtain⟨A3,c3,e,_⟩:=oFA h3.own;exact⟨_,_,_,e⟩);obtain⟨qt,qy,qh⟩:=h3.rdSg;rw[kQo]at qt;subst qt;obtain⟨b3,o3,e3,h4⟩:∃b o,A3=some (aD b o)/\b<w3.heap.size:=(by (rcases qh.ad with⟨_,h⟩|h);{cases h};exact h);subst e3;have qm:=qh.s;have q0:w3.cell? (aD b3 o3)=some (vI (s.1:Int)):=(by (rcases qm with⟨h,_⟩|⟨b',o',e,_,h5⟩);{cases h};(injection e with e);(injection e with e1 e2);subst e1 e2;exact h5 0 _ rfl);have B3:=Hx (kQa (B2.o.2.1.K h3.ex) (kQa (B2.o.2.2.tr h3.ex) (qp.o.1.K h3.ex)));have S0:=Hx qm;have c2:(1:Int)<=(c3:Int):=(by omega);have l1:(1:Int)<=(l.length:Int)+1:=(by omega);have qe:l.length+1<=11:=(by simpa using qg);have c4:((l.length+1:Nat):Int)<=(c3:Int):=(by omega);clear h3 qy qh h4 qm B2 qk i0 i1 i2 nz qg;(go_upto_if 46 with fail);go_cut [12] (fun v wx=>wx=w3/\∃P m c,v=.s P m c/\m=(dM (s::l)).length/\Hid (RdS w3 P (sgI (dM (s::l)))));(case first=>by_cases hk:s.1=2;{(have k1:((s.1:Int)==2)=true:=by rw[hk];rfl);have e1:dM (s::l)=l:=(by obtain⟨s1,s2⟩:=s;simp only at hk;subst hk;rfl);have E1:=Hx e1;clear hk e1;go_wp2;{go_meet;(rw[E1.o];have e2:l=[]:=kQz (by omega);refine⟨rfl,_,_,_,rfl,rfl,Hx ?_⟩;rcases S0.o with⟨h,_⟩|⟨b',o',e,h5,_⟩);{cases h};(rw[e2];injection e with e);(injection e with e4 e5);subst e4 e5;exact .inr ⟨_,_,rfl,h5,fun j u hu=>by simp[sgI,sgc]at hu⟩};go_meet;rw[E1.o];exact⟨rfl,_,_,_,rfl,rfl,Hx S0.o.tail⟩};have k1:((s.1:Int)==2)=false:=yK.2 (by omega);have e1:dM (s::l)=s::l:=(by obtain⟨s1,s2⟩:=s;unfold dM;split;{rename_i h;(injection h with h);(injection h with h);exact absurd h hk};rfl);have E1:=Hx e1;clear hk e1;go_wp2;go_meet;rw[E1.o];exact⟨rfl,_,_,_,rfl,rfl,S0⟩);obtain⟨rfl,P,m4,c5,rfl,qn,S4⟩:=hcut;have qx:(dM (s::l)).length<=11:=(by have h:(dM (s::l)).length<=(s::l).length:=(by unfold dM;split;{rename_i h;(injection h with _ h);rw[h,kQo];omega};exact yX _);rw[kQo]at h;omega);have qw:Hid (dG t down n d=⟨p1,true,dM (s::l)⟩):=Hx (by rw[qa.o,if_neg (by omega)]);have HM:=Hx qn;have qz:¬(32:Int)<(m4:Int):=(by omega);have qu:m4<=100000:=(by omega);have mi:(1:Int)<=(m:Int):=(by have:=NM.o;omega);have HSW:Hid (True/\True):=Hx (⟨trivial,trivial⟩);clear qx qn qa q0 c2 l1 qe c4 S0;generalize dM (s::l)=L at*;(go_upto_region 11 with fail);(refine wp_region_last (fun _=>True/\True) 5 (by kernel_rfl) ?_;refine wP 0 rfl HSW.o ?_;try simp only[Act.put,yA,yB,yC,yD,yE,yF]);refine wP 1 rfl HSW.o ?_;(refine wP 2 rfl HSW.o ?_;try simp only[Act.put,yA,yB,yC,yD,yE,yF]);(refine wC 3 rfl (fun KK hK=>?_);go_simp;refine(jz1 P m4 c5 (sgI L) _ (S4.o.K ((eR _).drewN 1)) (by rw[eS,HM.o]) qu).mono ?_;rintro e w5 ⟨v5,rfl,h5⟩;obtain⟨A5,n5,c6,rfl⟩:∃A5 n5 c6,v5=.s A5 n5 c6:=(by obtain⟨A5,c6,e,_⟩:=oFA h5.own;exact⟨_,_,_,e⟩);have X5:=Hx (((eR wc).drewN 1).tr h5.ex);have R5:=Hx h5.rdSg;refine hK.o _ _ HSW.o ?_;clear hK KK h5;try simp only[Act.put,yD,yE,yF]);(have D5:=B3.o.1.K X5.o;obtain⟨⟨d0,d1,d2⟩,f0,f1,f2⟩:=D5.t3;have D6:=Hx D5;clear D5;refine wP 4 rfl HSW.o ?_;try simp only[Act.put,yA,yB,yC,yD,yE,yF]);(refine aV (by kernel_rfl) rfl (by rfl) (fun KK hK=>?_);go_simp;refine hK.o _ _ ?_;clear hK KK;try simp only[Act.put,yD,yE,yF]);refine dQ (i:=6) (by kernel_rfl) rfl (by rfl) (fun KK hK=>?_);go_simp;refine hK.o _ _ ?_;clear hK KK;refine wpAny_done (by kernel_rfl) ?_ _;have B6:=Hx (eD (.s A 1 1) (.bool true) (.s A5 n5 c6) D6.o);have F:Hid (RpP w (dG t down n d) (.returned (.tuple #[.agg #[.s A 1 1,.bool true,.s A5 n5 c6],vI 0])) (((w5.setCell (aD (gt+1) 0) (.s A 1 1)).setCell (aD (gt+1) 1) (.bool true)).setCell (aD (gt+1) 2) (.s A5 n5 c6))):=Hx (by rw[qw.o];obtain⟨r1,r2,r3⟩:=R5.o;subst r1;have h1:=qp.o.2;refine⟨A,1,true,A5,c6,by rw[<-h1],⟨A,1,A5,c6,rfl,Nat.le_of_eq h1,?_,r2,?_⟩,B6.o.2.ext (B3.o.2.1.tr X5.o) fun b hb=>by have:=qj.o;omega⟩;{exact B6.o.2.rdT (cU D6.o (by decide)) (B3.o.2.2.K X5.o)};exact r3.fr B6.o.2 (cU D6.o (by decide)));have r0:=B6.o.1.cell 0;have r1:=B6.o.1.cell 1;have r2:=B6.o.1.cell 2;clear B6 D6 X5 R5 B3 d0 d1 d2 f0 f1 f2;generalize ((w5.setCell (aD (gt+1) 0) (.s A 1 1)).setCell (aD (gt+1) 1) (.bool true)).setCell (aD (gt+1) 2) (.s A5 n5 c6)=W6 at*;go_wp2;refine bodyPost_ret (v:=.tuple #[.agg #[.s A 1 1,.bool true,.s A5 n5 c6],vI 0]) ?_ rfl F.o;simp[results,Tryz.results166,go_sem,asAddr,Result.andThen,r0,r1,r2])
end Fo
attribute [local go_sem] Oper.semAt_some
namespace Fo
def lkL(t:Tp)(kd nm:Int)(m:Nat):LN:=(List.range m).filter fun i=>ofB t kd nm (2*i)
theorem jza3 t(kd nm:Int)(m:Nat):lkL t kd nm (m+1)=if ofB t kd nm (2*m)=true then lkL t kd nm m++[m]else lkL t kd nm m:=by
 unfold lkL;rw[kZc,List.filter_append];cases h:ofB t kd nm (2*m);{rw[List.filter_cons_of_neg (by rw[h];decide)];simp};rw[List.filter_cons_of_pos (by exact h)];rfl
theorem jza4 t(kd nm:Int)(m:Nat):(lkL t kd nm m).length<=m:=by
 unfold lkL;have:=List.length_filter_le (fun i=>ofB t kd nm (2*i)) (List.range m);rwa [kZm]at this
theorem tD{t}{kd nm:Int}{m i:Nat}:i∈lkL t kd nm m↔i<m/\ofB t kd nm (2*i)=true:=by
 unfold lkL;rw[List.mem_filter,vX]
theorem tE t(kd nm:Int)(a:Nat):ofB t kd nm (2*(a/2))=ofB t kd nm a:=by
 unfold ofB;rw[show 2*(a/2)/2=a/2 by omega]
def mkP(t:Tp)(l:LN):List Bool:=(List.range (2*t.links.length)).map fun a=>decide (a/2∈l)
theorem jza5 t:mkP t []=List.replicate (2*t.links.length) false:=by
 unfold mkP;simp only[List.not_mem_nil,decide_false];exact List.map_const' ..|>.trans (by rw[kZm])
theorem jzjn(t:Tp)(l:LN){x:Nat}(hx:x<t.links.length):mkP t (l++[x])=((mkP t l).set (2*x) true).set (2*x+1) true:=by
 apply uK;intro a;unfold mkP;by_cases ha:a<2*t.links.length;{rw[kZs,kZs];simp only[yV,xV,kZm,yW,xJ ha,kQ9];by_cases e1:2*x+1=a;{rw[if_pos e1,if_pos (by omega),yO (by simp;omega)]};rw[if_neg e1];by_cases e2:2*x=a;{rw[if_pos e2,if_pos (by omega),yO (by simp;omega)]};rw[if_neg e2];have:a/2∈l++[x]↔a/2∈l:=(by have:a/2≠x:=(by omega);simp[this]);simp only[this]};rw[yI (by simpa using ha),yI (by simpa using ha)]
theorem jzjo t(kd nm:Int):mkP t (lkL t kd nm t.links.length)=mkL t kd nm:=by
 unfold mkP mkL;refine List.map_congr_left fun a ha=>?_;rw[vX]at ha;have h:a/2∈lkL t kd nm t.links.length↔ofB t kd nm a=true:=(by rw[tD,tE];exact⟨fun h=>h.2,fun h=>⟨by omega,h⟩⟩);by_cases e:ofB t kd nm a=true;{rw[e,yO (h.2 e)]};rw[yP (fun h2=>e (h.1 h2))];simpa using e
structure LkS(t:Tp)(AO:OA)(co:Nat)(AL:OA)(cl:Nat)(kd nm:Int)(g1 g2:Nat)(R:World->Prop):Prop where
 top:∀W,R W->aF W t AO co AL cl
 b1:∀W,R W->Blk W g1 25 #[vI t.nodes,.s AO t.over.length co,.s AL t.links.length cl]
 b2:∀W,R W->Blk W g2 27 #[vI kd,vI nm]
 al:∀W o,R W->R (W.alloc o)
theorem jzjp(n l g1 g2:Nat)(hn:1<=n)t AO(co:Nat)AL(cl:Nat)(kd nm:Int)(R:World->Prop)(hR:LkS t AO co AL cl kd nm g1 g2 R)(hk:kd=1\/kd=2\/kd=3)(J Jx:LN->World->Prop)
  (hY:∀pre x W,R W->J pre W->pre.length<t.links.length->x<t.links.length->YieldAt Fence.wide (n-1) Tryz.prog l #[vI ((x:Nat):Int)] W fun e W'=>(e=.returned (.bool true)/\J (pre++[x]) W'/\R W')\/(e=.returned (.bool false)/\Jx (pre++[x]) W'))
  (W:World) (hJ:AbidesFrom W.heap.size J) (hx:R W) (h0:J [] W):
  CallsIn Fence.wide n Tryz.prog 160 #[.func (.yield l) #[] #[],.pointer (sA g1),.pointer (sA g2)] W fun e W'=>(∃v,e=.returned v)/\((∃ys,ys=lkL t kd nm t.links.length/\J ys W')\/∃pre,True/\Jx pre W'):=by
 have qo:=(hR.top W hx).ll;have qt:=(hR.top W hx).cl;have HB:=Hx hR;have HX:=Hx hx;have qi:=Hx h0;have HY:=Hx hY;have HJ:=Hx hJ;clear hR hx h0 hY hJ;refine callsIn_of_wp Tryz.func160 rfl trivial ?_ rfl;simp only[Tryz.ntmps160,List.size_toArray,kQo,List.length_nil,Nat.reduceAdd,Nat.reduceSub,Array.replicate_succ,Array.replicate_zero,List.push_toArray,List.append_toArray,List.nil_append,List.cons_append];obtain⟨⟨i0,i1,i2⟩,_⟩:=(HB.o.b1 _ HX.o).t3
 gi_wp2
 clear i0 i1 i2
 gi_loopw [10] (fun i wr=>∃k:Nat,k<=t.links.length/\i=vI (k:Int)/\Hid (J (lkL t kd nm k) wr/\R wr)) (fun i _=>t.links.length-(intOf i).toNat)
 case atStart=>exact⟨0,yZ _,rfl,⟨qi.o,HX.o⟩⟩
 obtain⟨k,qp,rfl,S⟩:=hrel;by_cases qa:k<t.links.length
 ·obtain⟨lk,qg⟩:∃lk,t.links[k]?=some lk:=⟨_,yG qa⟩
  obtain⟨b,o,rfl,hb,c0,c1,c2,c3,c4,c5,c6⟩:=(HB.o.top _ S.o.2).link qg;have kL:(k:Int)<(t.links.length:Int):=by omega
  gi_upto_region 3 with fail
  clear c0 c1 c2 c3 c4 c5 c6 hb;have E2:=Hx (HB.o.al wr (.cells #[vI lk.a,vI lk.b,vI lk.c0,vI lk.c1,vI lk.cap,vI lk.delay,vI lk.group] 118) S.o.2);have J2:=Hx (HJ.o _ _ _ none S.o.1 (World.grownBy_alloc wr (.cells #[vI lk.a,vI lk.b,vI lk.c0,vI lk.c1,vI lk.cap,vI lk.delay,vI lk.group] 118) none) (fun r e=>by cases e));have q:=eN wr 118 #[vI lk.a,vI lk.b,vI lk.c0,vI lk.c1,vI lk.cap,vI lk.delay,vI lk.group];have q0:=q.cell 0;have q1:=q.cell 1;have q6:=q.cell 6;clear q;generalize wr.alloc (.cells #[vI lk.a,vI lk.b,vI lk.c0,vI lk.c1,vI lk.cap,vI lk.delay,vI lk.group] 118)=W2 at*;have k0:=(HB.o.b2 _ E2.o).cell 0;have k1:=(HB.o.b2 _ E2.o).cell 1;obtain⟨p,hp⟩:∃p,ofB t kd nm (2*k)=p:=⟨_,rfl⟩;have hv:ofB t kd nm (2*k)=if kd=1 then decide (((k:Nat):Int)=nm)else if kd=2 then decide (lk.a=nm)||decide (lk.b=nm)else decide (lk.group=nm):=by
   unfold ofB;rw[show 2*k/2=k by omega,qg]
  rw[hp]at hv;have HP:=Hx hp;have HL:=Hx qa;clear hp qg qa;rcases hk with rfl|rfl|rfl
  case' inl=>
   have hq:(((k:Nat):Int)==nm)=p:=(by rw[hv,if_pos rfl];rfl);clear hv
   gi_upto_region 11 with fail
  case' inr.inl=>
   rw[if_neg (by decide),if_pos rfl]at hv;have h2:decide (lk.a=nm)=(lk.a==nm):=rfl;rw[h2]at hv;clear h2;cases h1:(lk.a==nm)
   case' false=>
    have hq:(lk.b==nm)=p:=(by rw[hv,h1];simp;rfl);clear hv
    gi_upto_region 11 with fail
   case' true=>
    obtain rfl:p=true:=(by rw[hv,h1];rfl);clear hv
    gi_upto_region 11 with fail
  case' inr.inr=>
   have hq:(lk.group==nm)=p:=(by rw[hv,if_neg (by decide),if_neg (by decide)];rfl);clear hv
   gi_upto_region 11 with fail
  all_goals (try cases p)
  any_goals (
   have hf:ofB t _ nm (2*k)=false:=HP.o;clear hf
   gi_wp2
   refine⟨fun _ _=>trivial,?_⟩
   gi_wp2
   go_roundw
   case rel=>exact⟨k+1,HL.o,by go_num,⟨by rw[jza3,if_neg (by rw[HP.o];decide)];exact J2.o,E2.o⟩⟩
   simp[intOf];have:=HL.o;omega)
  all_goals (
   obtain⟨fn,qj,qe,qh,hy,qn⟩:=HY.o (lkL t _ nm k) k W2 E2.o J2.o (kQ2 (jza4 _ _ _ _) HL.o) HL.o
   gi_wp2
   refine qn.mono ?_;rintro e W3 (⟨rfl,qk,qm⟩|⟨rfl,qf⟩)
   ·gi_wp2
    go_roundw
    case rel=>exact⟨k+1,HL.o,by go_num,⟨by rw[jza3,if_pos HP.o];exact qk,qm⟩⟩
    simp[intOf];have:=HL.o;omega
   gi_wp2
   refine bodyPost_ret (results_none rfl _ _ _) rfl ?_;exact⟨⟨_,rfl⟩,.inr ⟨_,trivial,qf⟩⟩)
 obtain rfl:k=t.links.length:=by omega
 gi_wp2
 go_end0
 exact⟨⟨_,rfl⟩,.inl ⟨_,rfl,S.o.1⟩⟩
def flA(l:LN):LN:=l.flatMap fun i=>[2*i,2*i+1]
theorem jza6(l:LN):(flA l).length=2*l.length:=by
 unfold flA;(induction l with|nil=>rfl|cons x l ih=>rw[xU,yQ,ih];simp;omega)
theorem jzjq(l:LN)(x:Nat):flA (l++[x])=flA l++[2*x,2*x+1]:=by unfold flA;rw[List.flatMap_append];simp
def cW(t:Tp)(kd nm:Int):LN:=flA (lkL t kd nm t.links.length)
theorem jza7(n g1 g2 gx:Nat)(hn:1<=n)t AO(co:Nat)AL(cl:Nat)(kd nm:Int)w w5(ht:aF w t AO co AL cl)(hx:Ext w w5)(hb1:Blk w5 g1 25 #[vI t.nodes,.s AO t.over.length co,.s AL t.links.length cl])(hb2:Blk w5 g2 27 #[vI kd,vI nm])(hgx:w.heap.size<=gx)(h1:g1≠gx)(h2:g2≠gx)(hk:kd=1\/kd=2\/kd=3):
  SeqStopsK Fence.wide n Tryz.prog 160 #[.pointer (sA g1),.pointer (sA g2)] (fun i:Fin t.links.length=> #[Value.int .i64 ((i.val:Nat):Int)]) (FrS fun b=>b=gx\/w5.heap.size<=b) (fun ys=>ys.map (·.val)=lkL t kd nm t.links.length) (fun _=>True) t.links.length w5:=fun l J Jx W hW hJ hJx hY h0=>by
 have qi:=hx.size;have l1:=hb1.lt;have l2:=hb2.lt;have qg:∀X o,FrS (fun b=>b=gx\/w5.heap.size<=b) w5 X->FrS (fun b=>b=gx\/w5.heap.size<=b) w5 (X.alloc o):=fun X o k=>k.tr (eE (S:=fun _=>False) ((eR X).alloc o)) fun b h=>h.elim;have hR:LkS t AO co AL cl kd nm g1 g2 (fun X=>FrS (fun b=>b=gx\/w5.heap.size<=b) w5 X):=⟨fun X k=>ht.K (k.ext hx fun b hb=>by omega),fun X k=>k.blk hb1 (by omega),fun X k=>k.blk hb2 (by omega),qg⟩;have:=jzjp n l g1 g2 hn t AO co AL cl kd nm _ hR hk (fun ys X=>∃zs:List (Fin t.links.length),zs.map (·.val)=ys/\J zs X) (fun ys X=>∃zs:List (Fin t.links.length),Jx zs X) (fun pre x X hRX ⟨zs,hz,hj⟩ hp hxl=>by
  obtain⟨fn,qf,qa,qe,hy,qh⟩:=hY zs ⟨x,hxl⟩ X hj (by rw[<-hz,xV]at hp;exact hp);refine⟨fn,qf,qa,qe,hy,qh.mono ?_⟩;rintro e X' (⟨r1,r2,r3⟩|⟨r1,r2⟩);{exact .inl ⟨r1,⟨_,by rw[List.map_append,hz];rfl,r2⟩,hRX.tr r3 fun b h=>.inl h⟩}
  ·exact .inr ⟨r1,_,r2⟩) W (fun s A B row ⟨zs,hz,hj⟩ hg hr=>⟨zs,hz,hJ _ _ _ _ hj hg hr⟩) (eE (S:=fun b=>b=gx\/w5.heap.size<=b) hW) ⟨[],rfl,h0⟩
 refine this.mono ?_;rintro e X ⟨hv,⟨ys,rfl,zs,hz,hj⟩|⟨pre,_,zs,hj⟩⟩;{exact⟨hv,.inl ⟨zs,hz,hj⟩⟩};{exact⟨hv,.inr ⟨zs,trivial,hj⟩⟩}
theorem jza8(t:Tp)AO(co:Nat)AL(cl:Nat)(kd nm:Int)w:
  Calls Tryz.prog 101 #[.agg #[vI t.nodes,.s AO t.over.length co,.s AL t.links.length cl],.agg #[vI kd,vI nm]] w fun e w'=>e=.returned (.func (.func 160) #[] #[.pointer (sA w.heap.size),.pointer (sA (w.heap.size+1))])/\Blk w' w.heap.size 25 #[vI t.nodes,.s AO t.over.length co,.s AL t.links.length cl]/\Blk w' (w.heap.size+1) 27 #[vI kd,vI nm]/\Ext w w':=by
 have h1:=Hx (dS w #[vI t.nodes,.s AO t.over.length co,.s AL t.links.length cl] 25 #[vI kd,vI nm] 27);go_enter Tryz.func101,Tryz.ntmps101;go_wp2;go_ret;exact⟨rfl,h1.o⟩
theorem jzjr t AO(co:Nat)AL(cl:Nat)(kd nm:Int)w(ht:aF w t AO co AL cl)(hv:aA t=true)(hw:wnP t kd nm=true):
  Calls Tryz.prog 51 #[.agg #[vI t.nodes,.s AO t.over.length co,.s AL t.links.length cl],.agg #[vI kd,vI nm]] w (OwE w (cW t kd nm)):=by
 have qy:=dC hv;have hk:kd=1\/kd=2\/kd=3:=(by unfold wnP at hw;by_cases e1:kd=1;{exact .inl e1};by_cases e2:kd=2;{exact .inr (.inl e2)};by_cases e3:kd=3;{exact .inr (.inr e3)};rw[if_neg e1,if_neg e2,if_neg e3]at hw;cases hw);have VA:Hid (∀wx,Ext w wx->Calls Tryz.prog 100 #[.agg #[vI t.nodes,.s AO t.over.length co,.s AL t.links.length cl],.agg #[vI kd,vI nm]] wx fun e w'=>e=.returned (.bool true)/\Ext wx w'):=Hx (fun wx hx=>by have h:=jzhl t AO co AL cl kd nm wx (ht.K hx);rw[hv,hw]at h;exact h);have LK:=Hx (fun wx:World=>jza8 t AO co AL cl kd nm wx);have SQ:=Hx (fun(w5:World) (g1 g2 gx:Nat)=>jza7 2 g1 g2 gx (by decide) t AO co AL cl kd nm w w5 ht);have h1:=Hx (dS w #[vI t.nodes,.s AO t.over.length co,.s AL t.links.length cl] 25 #[vI kd,vI nm] 27);clear ht hv hw;refine(callsIn_wide (n:=3)).1 ?_;refine callsIn_of_wp_marks Tryz.func51 rfl trivial ?_ rfl;simp only[Tryz.ntmps51,List.size_toArray,kQo,List.length_nil,Nat.reduceAdd,Nat.reduceSub,Array.replicate_succ,Array.replicate_zero,List.push_toArray,List.append_toArray,List.nil_append,List.cons_append];(gi_upto_region 1 with fail);generalize (w.alloc (.cells #[vI t.nodes,.s AO t.over.length co,.s AL t.links.length cl] 25)).alloc (.cells #[vI kd,vI nm] 27)=w2 at*;generalize qh:w.heap.size=gt at*;have qw:=Hx qh;clear qh;obtain⟨⟨i0,i1,i2⟩,_⟩:=h1.o.1.t3;have c0:=h1.o.2.1.cell 0;have c1:=h1.o.2.1.cell 1;(gi_upto_region 3 with(refine⟨trivial,?_⟩;gi_at_call 100;refine(callsIn_wide.2 (VA.o _ h1.o.2.2)).mono ?_;rintro e w3 ⟨rfl,x3⟩));have B3:=Hx (kQa (h1.o.1.K x3) (kQa (h1.o.2.1.K x3) (h1.o.2.2.tr x3)));clear x3 i0 i1 i2 c0 c1 h1 VA;have qn:=Boxed.new w3 28 zN;have B4:=Hx (kQa (B3.o.1.alloc (.cells #[zN] 28)) (kQa (B3.o.2.1.alloc (.cells #[zN] 28)) (kQa (B3.o.2.2.alloc (.cells #[zN] 28)) qn)));have qA:gt+1<w3.heap.size:=B3.o.2.1.lt;clear qn;(gi_upto_region 4 with fail);generalize w3.alloc (.cells #[zN] 28)=w4 at*;generalize w3.heap.size=gl at*;clear B3;obtain⟨⟨i0,i1,i2⟩,_⟩:=B4.o.1.t3;have c0:=B4.o.2.1.cell 0;have c1:=B4.o.2.1.cell 1;gi_wp2_with (refine⟨trivial,?_⟩;gi_at_call 101;refine(callsIn_wide.2 (LK.o w4)).mono ?_;rintro e w5 ⟨rfl,l1,l2,x5⟩)
 have B5:=Hx (kQa l1 (kQa l2 (kQa (B4.o.2.2.1.tr x5) (x5.block gl B4.o.2.2.2.lt |>.trans B4.o.2.2.2))));clear i0 i1 i2 c0 c1 l1 l2;have qC:gl<w4.heap.size:=B4.o.2.2.2.lt;have qE:=x5.size;clear x5 B4 LK;generalize w4.heap.size=g1 at*;obtain⟨i0,hi,qt,qu,qp⟩:=info_parts Tryz.info3;have qh:=qw.o;refine wpIn_rangeFunc_ownF (encs:=fun i:Fin t.links.length=> #[Value.int .i64 ((i.val:Nat):Int)]) (Kp:=FrS fun b=>b=gl\/w5.heap.size<=b) rfl (by decide) (gf:=160) (lb:=#[.pointer (sA g1),.pointer (sA (g1+1))]) rfl trivial (enters_of Tryz.func160 (by kernel_rfl) rfl)
  (SQ.o w5 g1 (g1+1) gl B5.o.2.2.1 B5.o.1 B5.o.2.1 (by omega) (by omega) (by omega) hk) (fun h k=>h.tr k fun b h=>.inl h) (fun W l o o' hl _ _ _=>eG (grownBy_putObj' W l o') fun g e=>by cases e;exact .inr hl) (Below.refl _ _) (fun _=>rfl)
  (fun pre W=>(∃v,Boxed W gl 28 v/\W.ownsRow w5.heap.size 3 1 v (2*pre.length) (ints (flA (pre.map (·.val))))/\True)/\Below w.heap.size w W/\w5.heap.size<=W.heap.size)
  (fun _ _ _=>False)
  (((holdsRow_own w5.heap.size gl 28 3 1 (fun pre:List (Fin t.links.length)=>2*pre.length) (fun pre=>ints (flA (pre.map (·.val)))) (fun _ _=>True)).from _).and ((ownFrom_below (yX _) (by omega)).and fun s A B row hs hg hr=>yY hs hg.size))
  (fun _ _ _ _ _ hs _ _=>hs)
  ⟨⟨_,B5.o.2.2.2,World.ownsRow_nil _ _ _ _,trivial⟩,B5.o.2.2.1,yX _⟩
  (fun x=>{tmps:=#[.agg #[vI t.nodes,.s AO t.over.length co,.s AL t.links.length cl],.agg #[vI kd,vI nm],.pointer (sA gt),.pointer (sA (gt+1)),zN,vI 0,.pointer (sA gl),vI ((x.val:Nat):Int),.agg #[vI t.nodes,.s AO t.over.length co,.s AL t.links.length cl],.agg #[vI kd,vI nm],.bool true,.bool false,.agg #[vI t.nodes,.s AO t.over.length co,.s AL t.links.length cl],.agg #[vI kd,vI nm],.func (.func 160) #[] #[.pointer (sA g1),.pointer (sA (g1+1))],vI ((x.val:Nat):Int),undef,undef,undef,undef,undef,undef,undef,undef,undef],defers:=[]}) ?assign ?body ?done ?stop
 (case assign=>intro l x W K hK;(gi_wp2);exact hK);(case body=>rintro l pre x W ⟨⟨v,qg,qa,_⟩,qf,qm⟩ qo;have cb:=qg.cell;have fb:=qg.frozen;have qB:=x.isLt;have qz:((x.val:Nat):Int)<=256:=(by omega);have HB:=eN W 3 #[vI (2*((x.val:Nat):Int)),vI (2*((x.val:Nat):Int)+1)];(gi_wp2_with (gi_at_builtin;refine wpListIn_append_own _ rfl _ _ 28 rfl w5.heap.size 3 i0 (vI 0) 1 8 Tryz.underlying28 hi qt qu qp rfl (by decide) v (2*pre.length) _ rfl (qa.alloc _) (aD W.heap.size 0) 2 2 [vI (2*((x.val:Nat):Int)),vI (2*((x.val:Nat):Int)+1)] rfl rfl (fun j u hj=>by rw[iU,kQu];exact(HB.cell j).trans (by simpa using hj)) (by simp[Value.oneCell']) (by unfold maxLen;omega) (by omega) (by rw[World.size_alloc];omega) ?_;intro v' w3 qe qj qk;obtain⟨g',c',rfl⟩:=ownsRow_succ (k:=2*pre.length+1) qe;have qi:=(qg.alloc (.cells #[vI (2*((x.val:Nat):Int)),vI (2*((x.val:Nat):Int)+1)] 3)).kept qj (qg.not_row (by decide) qa);have qD:=qi.cell;have qx:=qi.frozen));have ap:=qg.appended (n₀:=0) (by decide) (qa.mono (yZ _)) (yZ _) (yZ _) (qe.mono (yZ _)) qj;have k1:FrS (fun b=>b=gl\/w5.heap.size<=b) W (w3.setCell (aD gl 0) (.s (sA g') (2*pre.length+1+1) c')):=((eE (S:=fun b=>b=gl\/w5.heap.size<=b) ((eR W).alloc _)).tr (eG (S:=fun b=>b=gl\/w5.heap.size<=b) qj fun g e=>.inr (qa.lt g e).1) fun b h=>.inl h).tr (eG (S:=fun b=>b=gl\/w5.heap.size<=b) (grownBy_setCell' w3 gl _) fun g e=>by cases e;exact .inl rfl) fun b h=>.inl h;refine⟨ap.2.2.2.1,k1,⟨_,ap.2.1,?_,trivial⟩,k1.ext qf fun b hb=>by omega,yY qm k1.size⟩;have h:=qe.kept (grownBy_setCell' w3 gl (.s (sA g') (2*pre.length+1+1) c')) (.inr (qi.not_row (by decide) qe).symm);rw[List.map_append,yQ,kQc];show World.ownsRow _ _ _ _ _ _ (ints (flA (pre.map (·.val)++[x.val])));rw[jzjq];unfold ints at h⊢;rw[List.map_append];exact h);(case done=>rintro D xs W hD hS ⟨⟨v,qg,qa,_⟩,qf,qm⟩ hK;obtain⟨A,c,rfl,_⟩:=oFA qa;have cb:=qg.cell;(gi_wp2);refine⟨by simp,.inl ⟨_,_,rfl,run_takeDeferred hK,?_⟩⟩;refine⟨.tuple #[.s A (2*xs.length) c,vI 0],by simp[results,Tryz.results51,go_sem],_,rfl,?_,?_⟩;{have h:=(ownsRow_putObj qa (.deferred none) hK rfl).mono (show w.heap.size<=w5.heap.size by omega);rw[hS]at h;have e:(cW t kd nm).length=2*xs.length:=(by unfold cW;rw[jza6, <-hS,xV]);rw[e];exact h};exact(eG (S:=fun b=>b=D) (grownBy_putObj' W D (.deferred none)) fun g e=>by cases e;rfl).ext qf fun b hb=>(by have hb:b=D:=hb;omega));rintro D c pre W _ _ h _;exact h.elim
end Fo
end Go.Proofs.YtllmekijiohgmaaGreatDoor
namespace Go.Proofs.YtllmekijiohgmaaGreatDoor
open Go Go.RowKit
section
variable {P:Program} {md:Region.Mode} {ops:Array Oper} {Q:Exit->Act->World->Prop} {l n:Nat}
theorem jzjs{o:Oper}{a:Act}{K:Act->World->Prop}{r:Result Next}(h:o.upon P a K Q r):o.uponIn (Fence.wide.inRound l) n P a K Q r:=by
 (cases r with|ok x w'=>(cases x with|value v=>exact h|skip=>exact h|defer d=>exact h|enter f args=>exact⟨fun h=>(by cases h),CallsIn.inRound l (callsIn_wide.2 h)⟩|row row args=>exact⟨fun h=>(by cases h),fun c cs _=>by obtain⟨v,w2,r,s⟩:=h c cs;exact⟨v,w2,r,stepsIn_wide.2 s⟩⟩|_=>exact h.elim)|halt x w'=>(cases x with|panic v=>exact h|_=>exact h.elim))
def mF(ops:Array Oper):Bool:=ops.all fun o=>match o.op with
 |.defer _=>false
 |_=>true
theorem jzjt(h:mF ops=true){i:Nat}{o:Oper}(hi:ops[i]?=some o)(c:Call):o.op≠.defer c:=fun e=>by
 unfold mF at h;obtain⟨qa,he⟩:=kZn.1 hi;have h1:=Array.all_eq_true.1 h i qa;rw[he]at h1;simp only[e]at h1;cases h1
theorem jzju(hd:mF ops=true)(hQ:¬LetsOut Q){i:Nat}{K:Act->World->Prop}{a:Act}{w}(h:wpOp P ops Q i K a w):wpOpIn (Fence.wide.inRound l) n P ops Q i K a w:=by
 (unfold wpOp at h;unfold wpOpIn;cases hi:ops[i]? with|none=>rw[hi]at h;exact h|some o=>rw[hi]at h;simp only at h⊢;split;{rename_i hw;(rw[if_pos hw]at h;rcases h with h|h);{refine⟨fun _ _=>trivial,?_⟩;rw[Oper.semAt_eq _ _ _ (fun c=>jzjt hd hi c)];exact jzjs h};exact absurd h.2 hQ};rename_i hw;rw[if_neg hw]at h;exact⟨fun _ _=>trivial,h⟩)
theorem jza9(hd:mF ops=true)(hQ:¬LetsOut Q):∀(fuel:Nat) (listed:Array Bool) (a:Act) (w:World),wpAny P md ops Q fuel listed a w->wpAnyIn (Fence.wide.inRound l) n P md ops Q fuel listed a w
 |0,_,_,_,h=>h
 |fuel+1,_,_,_,h=>⟨h.1,fun i hi=>wpOpIn_mono (fun a w h=>jza9 hd hQ fuel _ a w h) (jzju hd hQ (h.2 i hi))⟩
theorem jzjv{id:Nat}{a:Act}{w:World}(S:World->Prop)(L:Nat)(hm:P.follows .mixedOrders=true)(hd:mF ops=true)(hQ:¬LetsOut Q)
  (h:wpAnyL P .any ops Q S L ops.size (Array.replicate ops.size false) a w.drew):(Code.region id ops true).wpIn (Fence.wide.inRound l) n P Q a w:=
 wpIn_region_any hm (jza9 hd hQ _ _ _ _ (rY _ _ _ _ h))
end
end Go.Proofs.YtllmekijiohgmaaGreatDoor
