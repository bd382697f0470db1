/- Part 24 of 26 of what the Flows claims share (the white space is struck, the texts are joined). -/
import Derived.Test.YtojpooidhilnfaaGreatDoorH23
set_option linter.unusedVariables false
set_option linter.unusedSimpArgs false
set_option maxRecDepth 100000
set_option maxHeartbeats 8000000
namespace Go.Proofs.YtojpooidhilnfaaGreatDoor
open Go.Proofs.Tryz
open Go.RowKit Go.Sort
def gds(M g:Nat):LN:=(List.range g).map fun j=>M/G6^j%G6
theorem jzfw(M g:Nat):(gds M g).length=g:=by unfold gds;simp
theorem jzfx(M g:Nat):gds M (g+1)=gds M g++[M/G6^g%G6]:=by unfold gds;rw[kZc,List.map_append];rfl
theorem jzpq(M g:Nat):∀d∈gds M g,d<G6:=fun d hd=>by
 obtain⟨j,_,rfl⟩:=kQl.1 hd;exact xT _ eW
theorem jzfy(M:Nat):∀g,Dig.val G6 (gds M g)=M%G6^g
 |0=>by rw[Nat.pow_zero,Nat.mod_one];rfl
 |g+1=>by
  rw[jzfx,Dig.val_append,jzfy M g,jzfw,vD,Nat.mod_mul];show _+G6^g*(M/G6^g%G6+G6*0)=_;rw[kQ8,kQ3]
theorem jzpr(x n:Nat):x%10^(n+1)=10*(x/10%10^n)+x%10:=by
 rw[vD,vE (10^n) 10,Nat.mod_mul];omega
theorem jzx(g:Nat):G6^g=10^(6*g):=by rw[Nat.pow_mul];rfl
def lB(D:Nat->Nat)(s:ByteArray)(k:Nat):Prop:=s.size=k/\∀(i:Nat) (h:i<s.size),s[i].toNat=48+D i
theorem lB.cut{D:Nat->Nat}{s:ByteArray}{k f:Nat}(h:lB D s k)(hf:f<=k):lB D (s.extract 0 f) f:=by
 obtain⟨h1,h2⟩:=h;have qa:(s.extract 0 f).size=f:=(by rw[ByteArray.size_extract];omega);refine⟨qa,fun i hi=>?_⟩;rw[ByteArray.getElem_extract];simp only[kQu];exact h2 i (by omega)
theorem jzy(M:Nat)(w:World)(hM:Lib.nDigits M<=1000):
  Calls prog 164 #[.string ⟨(Lib.decDigits M).toArray⟩] w fun e w'=>∃(A:OA) (n c:Nat),e=.returned (.tuple #[.s A n c,vI 0])/\aL w' A n c M/\Ext w w'/\∀ad,A=some ad->w.heap.size<=ad.block:=by
 obtain⟨L,hL⟩:∃L,L=Lib.nDigits M:=⟨_,rfl⟩;obtain⟨S,hS⟩:∃S:ByteArray,S=⟨(Lib.decDigits M).toArray⟩:=⟨_,rfl⟩;have qm:S.size=L:=(by rw[hS,hL, <-Lib.decDigits_length];rfl);have qK:1<=L:=by
  rw[hL];exact Lib.nDigits_pos M
 rw[<-hL]at hM;obtain⟨D,hD⟩:∃D:Nat->Nat,D=fun i=>M/10^(L-1-i)%10:=⟨_,rfl⟩;obtain⟨P,hP⟩:∃P:Nat->Nat->Nat,P=fun f i=>M/10^(L-i)%10^(i-f):=⟨_,rfl⟩;have qa:∀(i:Nat) (h:i<S.size),S[i].toNat=48+D i:=fun i h=>by
  have h1:i<L:=(by omega);rw[oD h (x:=UInt8.ofNat (48+M/10^(L-1-i)%10)) (by rw[hS,hL];exact jzbw (by rw[<-hL];exact h1)),oC,hD]
 have qp:∀i,D i<10:=fun i=>(by rw[hD];exact xT _ (by decide));have qn:1<L->D 0≠0:=fun h=>(by rw[hD,hL];exact jzjv (by rw[<-hL];exact h));have qy:∀f i,f<=i->i<L->P f (i+1)=10*P f i+D i:=fun f i hf hi=>by
  rw[hP,hD];simp only[];have e1:L-i=(L-1-i)+1:=(by omega);have e2:L-(i+1)=L-1-i:=(by omega);have e3:i+1-f=(i-f)+1:=(by omega);rw[e1,e2,e3,jzpr,vD,Nat.div_div_eq_div_mul]
 have qw:∀f,P f f=0:=fun f=>(by rw[hP];simp only[Nat.sub_self,Nat.pow_zero];exact Nat.mod_one _);have qi:∀f i,i<=f+6->P f i<1000000:=fun f i hi=>by
  rw[hP];simp only[];have h1:M/10^(L-i)%10^(i-f)<10^(i-f):=xT _ (kQy (by decide));have h2:10^(i-f)<=10^6:=kQk (by decide) (by omega);have h3:(10:Nat)^6=1000000:=(by decide);omega
 have qf:M<10^L:=(by rw[hL];exact jzbx M);have qx:∀g,6*g<L->P (L-6*g-6) (L-6*g)=M/G6^g%G6:=fun g hg=>by
  rw[hP,jzx];simp only[];rw[show L-(L-6*g)=6*g by omega];by_cases h:6<=L-6*g
  ·rw[show L-6*g-(L-6*g-6)=6 by omega];rfl
  rw[show L-6*g-(L-6*g-6)=L-6*g by omega];have h1:M/10^(6*g)<10^(L-6*g):=by
   rw[kZp (kQy (by decide)), <-Nat.pow_add,show L-6*g+6*g=L by omega];exact qf
  have h2:10^(L-6*g)<=G6:=by
   have:(10:Nat)^(L-6*g)<=10^6:=kQk (by decide) (by omega);have e6:(10:Nat)^6=G6:=(by decide);omega
  rw[kQv h1,kQv (by omega)]
 have qg:∀g,L<=6*g->Dig.val G6 (gds M g)=M:=fun g hg=>by
  rw[jzfy,jzx];exact kQv (yL qf (kQk (by decide) hg))
 have DS:Hid (lB D S L):=Hx (⟨qm,qa⟩);rw[<-hS];have PB:=Hx (kQa qy (kQa qw (kQa qi (kQa qx qg))));have DB:=Hx qp;clear hS hL hD hP qy qw qi qx qg qf qp;have g0:=qa 0 (by omega);have c0:1<L->((48:Int)+(D 0:Int)==48)=false:=fun h=>yK.2 (by have:=qn h;omega);have GB:=Hx qa;clear qa qn
 go_enter func164,ntmps164
 go_upto_region 1 with fail
 have e0:((L:Int)==0)=false:=yK.2 (by omega)
 go_cut [21] (fun s wx=>s=.bool false/\w=wx)
 case first=>
  by_cases qF:1<L
  ·have c1:=c0 qF
   clear c0;go_wp2;go_meet;exact⟨rfl,rfl⟩
  have hl:L=1:=(by omega);subst hl;clear c0;go_wp2;go_meet;exact⟨rfl,rfl⟩
 obtain⟨rfl,rfl⟩:=hcut;clear c0 g0 e0;go_wp2
 go_loopg [4] L (fun m it wr=>∃i:Nat,L-i=m/\i<=L/\it=vI i/\w=wr)
 case atStart=>exact⟨0,rfl,yZ _,rfl,rfl⟩
 obtain⟨i,rfl,hi,rfl,rfl⟩:=hrel;by_cases qO:i<L
 ·have gi:=GB.o i (by omega)
  have di:=DB.o i;go_wp2
  go_roundg (L-(i+1))
  case measure=>omega
  exact⟨i+1,rfl,by omega,by go_num,rfl⟩
 obtain rfl:i=L:=(by omega);have S0:Hid (lB D S (i-6*0)/\w.ownsRow w.heap.size 3 1 zN 0 (ints (gds M 0))/\Ext w w):=Hx (⟨DS.o,World.ownsRow_nil _ _ _ _,eR _⟩);clear GB;have e1:decide ((1000:Int)<(i:Int))=false:=yP (by omega);go_wp2;clear qm e1
 go_loopg [0,5,6,7,8] i (fun m st dt _ _ _ wi=>∃(g:Nat) (sx:ByteArray) (A:OA) (c:Nat),i-6*g=m/\st=.string sx/\dt=.s A g c/\g<=1000/\Hid (lB D sx (i-6*g)/\wi.ownsRow w.heap.size 3 1 (.s A g c) g (ints (gds M g))/\Ext w wi))
 case atStart=>exact⟨0,S,none,0,rfl,rfl,rfl,yZ _,S0⟩
 obtain⟨g,sx,A,c,rfl,rfl,rfl,hg,I⟩:=hrel;clear S0;have qk:=I.o.1.1;by_cases qB:6*g<i
 ·obtain⟨k,hk⟩:∃k,k=i-6*g:=⟨_,rfl⟩
  obtain⟨f,hf⟩:∃f,f=k-6:=⟨_,rfl⟩;have HK:=Hx (kQa hk hf);rw[<-hk]at qk;have k0:0<k:=(by omega);have qG:max (0:Int) ((k:Int)-6)=(f:Int):=(by omega);have qM:k<=i:=(by omega);have qJ:f<=k:=(by omega);have qL:k<=f+6:=(by omega);clear hf;have GB:Hid (∀(j:Nat) (h:j<sx.size),sx[j].toNat=48+D j):=Hx (I.o.1.2);have W1:=Hx (kQa I.o.2.1 I.o.2.2);obtain⟨w7,rfl⟩:∃W,W=wr:=⟨_,rfl⟩;clear hk I;have qD:sx.size=k:=qk;go_wp2
  go_loopg [7,8] (k-f) (fun m gt it wj=>∃j:Nat,k-j=m/\f<=j/\j<=k/\it=vI (j:Int)/\gt=vI (P f j:Int)/\w7=wj)
  case atStart=>exact⟨f,rfl,yX _,by omega,rfl,by rw[PB.o.2.1];rfl,rfl⟩
  obtain⟨j,rfl,qz,qN,rfl,rfl,rfl⟩:=hrel;have qi:=PB.o.2.2.1 f j (by omega);by_cases hj:j<k
  ·have gj:=GB.o j (by omega)
   have dj:=DB.o j;have HN:=Hx (PB.o.1 f j qz (by omega));go_wp2
   go_roundg (k-(j+1))
   case measure=>omega
   exact⟨j+1,rfl,by omega,by omega,by go_num,by rw[HN.o];go_num,rfl⟩
  obtain rfl:j=k:=(by omega);have HV:=Hx (show P f j=M/G6^g%G6 from by
   rw[HK.o.2,HK.o.1];exact PB.o.2.2.2.1 g qB)
  have BC:=Hx (eN w7 3 #[vI (P f j:Int)]);have XC:=Hx ((eR w7).alloc (.cells #[vI (P f j:Int)] 3));have VB:=Hx ((eE (S:=fun _=>False) XC.o).own W1.o.1 (fun _ _ h=>h));have qH:w.heap.size<=w7.heap.size:=W1.o.2.size
  go_wp2_with (at_builtin;refine kY _ 44 3 _ 1 8 rfl _ _ rfl underlying44 Tryz.infoInt rfl (by decide) w.heap.size (.s A g c) g (ints (gds M g)) rfl VB.o [vI (P f j:Int)] rfl (by simp[Value.oneCell']) w7.heap.size rfl BC.o (by unfold maxLen;omega) (by omega) (by simp;omega) ?_)
  intro g9 c9 w9 qh qe qj;have k9:=eG (S:=fun b=>(Value.slice A g c).ownBlock=some b) qe fun g e=>e;have J:=Hx (show lB D (sx.extract 0 f) (i-6*(g+1))/\w9.ownsRow w.heap.size 3 1 (.s (sA g9) (g+1) c9) (g+1) (ints (gds M (g+1)))/\Ext w w9 from⟨by
   have h1:lB D sx j:=⟨qD,GB.o⟩;have h2:=h1.cut (show f<=j by omega);have e9:i-6*(g+1)=f:=(by have:=HK.o.1;have:=HK.o.2;omega);rw[e9];exact h2,by
   rw[jzfx,iC, <-HV.o];exact qh,k9.ext (W1.o.2.tr XC.o) fun b hb=>(VB.o.lt b hb).1⟩)
  clear k9 qh qe qj VB XC BC;go_wp2
  go_roundg (i-6*(g+1))
  case measure=>omega
  exact⟨g+1,_,_,_,rfl,rfl,rfl,by omega,J⟩
 obtain⟨k0,qE⟩:∃k0,i-6*g=k0:=⟨_,rfl⟩;have qC:k0=0:=(by omega);rw[qE]at qk;subst qC;have hc:=I.o.2.1;have qo:=(jzb hc);have qA:g<=c:=by
  obtain⟨_,_,e9,h9⟩:=mY hc;injection e9 with _ _ e3
  rw[e3];exact h9
 have qI:=Hx (PB.o.2.2.2.2 g (by omega));have RD:=Hx (kQa qo.rd I.o.2.2);clear hc qo I
 go_wp2_with fail
 refine(mO A g c (gds M g) (jzfw M g) _ RD.o.1 qA (jzpq M g) (by omega)).mono ?_;rintro e w2 ⟨A2,n2,c2,rfl,h2,x2,qt⟩;rw[qI.o]at h2;have F2:=Hx (kQa h2 (kQa (RD.o.2.tr x2) (fun ad (h:A2=some ad)=>yY RD.o.2.size (qt ad h))));clear h2 x2 qt;go_wp2;exact bodyPost_ret (v:=.tuple #[.s A2 n2 c2,vI 0]) (by simp[results,results164,go_sem]) rfl ⟨A2,n2,c2,rfl,F2.o.1,F2.o.2.1,F2.o.2.2⟩
end Go.Proofs.YtojpooidhilnfaaGreatDoor
namespace Go.Proofs.YtojpooidhilnfaaGreatDoor
open Go.Proofs.Tryz
open Go.RowKit
def dQ:LN->LN->LN
 | [],ys=>ys
 |x::xs,[]=>x::xs
 |x::xs,y::ys=>(x+y)::dQ xs ys
theorem jzfz:∀xs ys:LN,(dQ xs ys).length=max xs.length ys.length
 | [],ys=>by simp[dQ]
 |x::xs,[]=>by simp[dQ]
 |x::xs,y::ys=>by simp only[dQ,kQo,jzfz xs ys];omega
theorem jzf0:∀xs ys:LN,Dig.val G6 (dQ xs ys)=Dig.val G6 xs+Dig.val G6 ys
 | [],ys=>by simp[dQ,Dig.val]
 |x::xs,[]=>by simp[dQ,Dig.val]
 |x::xs,y::ys=>by
  simp only[dQ,Dig.val_cons,jzf0 xs ys,kQc];omega
theorem jzz:∀(xs ys:LN) (j:Nat),(dQ xs ys)[j]?.getD 0=xs[j]?.getD 0+ys[j]?.getD 0
 | [],ys,j=>by simp[dQ]
 |x::xs,[],j=>by simp[dQ]
 |x::xs,y::ys,0=>by simp[dQ]
 |x::xs,y::ys,j+1=>by
  have:=jzz xs ys j
  simpa [dQ]using this
def dY(xs ys:LN)(i k j:Nat):Int:=(((if j<i then xs[j]?.getD 0 else 0)+(if j<k then ys[j]?.getD 0 else 0):Nat):Int)
theorem jzps(xs ys:LN)(i n:Nat):∀j,j<n->(if j=i then(0:Int)+((xs[i]?.getD 0:Nat):Int)else dY xs ys i 0 j)=dY xs ys (i+1) 0 j:=by
 intro j _;unfold dY;by_cases h:j=i;{subst h;simp};rw[if_neg h];by_cases h2:j<i;{rw[if_pos h2,if_pos (show j<i+1 by omega)]};rw[if_neg h2,if_neg (show¬j<i+1 by omega)]
theorem jzpt(xs ys:LN)(i k n:Nat):∀j,j<n->(if j=k then dY xs ys i k k+((ys[k]?.getD 0:Nat):Int)else dY xs ys i k j)=dY xs ys i (k+1) j:=by
 intro j _;unfold dY;by_cases h:j=k;{subst h;simp};rw[if_neg h];by_cases h2:j<k;{rw[if_pos h2,if_pos (show j<k+1 by omega)]};rw[if_neg h2,if_neg (show¬j<k+1 by omega)]
theorem jzf1(xs:LN)(j:Nat):(if j<xs.length then xs[j]?.getD 0 else 0)=xs[j]?.getD 0:=by
 split;{rfl};rw[yI (by omega)];rfl
theorem jzpu A1 A2(n1 c1 n2 c2 a b:Nat)w(h1:aL w A1 n1 c1 a)(h2:aL w A2 n2 c2 b)(hn1:n1<=1000000)(hn2:n2<=1000000):
  Calls prog 114 #[.s A1 n1 c1,.s A2 n2 c2] w (kH w (a+b)):=by
 obtain⟨xs,qp,qD,qj,qn,qo⟩:=h1;obtain⟨ys,qw,qE,qx,qk,qi⟩:=h2;have HX:=Hx (kQa qp (kQa qj.lt (kQa qn qo.rd)));have HY:=Hx (kQa qw (kQa qx.lt (kQa qk qi.rd)));clear qp qj qn qo qw qx qk qi;obtain⟨N,hN⟩:∃N,N=max n1 n2:=⟨_,rfl⟩;have HN:=Hx hN;have qy:n1<=N/\n2<=N/\N<=1000000:=(by omega);clear hN;have qz:=run_make_row' (P:=prog) 44 3 (vI 0) 8 underlying44 Tryz.info3 rfl .i64 .i64 N (by omega) (by omega);have qm:(N:Int)=max (n1:Int) (n2:Int):=(by have:=HN.o;omega);rw[qm]at qz;clear qm;have R0:Hid (bB (w.alloc (.cells (madeCells #[vI 0] N) 3)) w.heap.size N (dY xs ys 0 0)):=Hx (by refine bB.of_blk (eN w 3 (madeCells #[vI 0] N)) (fun j hj=>?_);rw[<-kQw,toList_madeCells_one];simp[dY,hj]);have E0:=Hx ((eR w).alloc (.cells (madeCells #[vI 0] N) 3));go_enter func114,ntmps114;go_wp2;go_loopg [6] n1 (fun m it wr=>∃i:Nat,n1-i=m/\i<=n1/\it=vI i/\Hid (bB wr w.heap.size N (dY xs ys i 0))/\Hid (Ext w wr));(case atStart=>exact⟨0,rfl,yZ _,rfl,R0,E0⟩);obtain⟨i,rfl,hi,rfl,RW,EW⟩:=hrel;clear R0 E0;by_cases qg:i<n1;{obtain⟨x,hx⟩:∃x,x=xs[i]?.getD 0:=⟨_,rfl⟩;have qB:x<1000000:=(by rw[hx,yG (by rw[HX.o.1];exact qg)];exact HX.o.2.1 _ (xR _));obtain⟨bb,oo,hA,qe,qa⟩:=HX.o.2.2.2.ints (k:=i) (by rw[HX.o.1];exact qg);subst hA;have k1:=EW.o.cell (p:=(aD bb (oo+i))) qe;rw[qa i (by rw[HX.o.1];exact qg), <-hx]at k1;have k0:=RW.o.cell (j:=i) (by omega);rw[show dY xs ys i 0 i=0 from by unfold dY;simp]at k0;have f0:=RW.o.frozen i;have RD:Hid (bB ((wr.setCell (aD w.heap.size i) (vI (x:Int))).drewN 1) w.heap.size N (dY xs ys (i+1) 0)):=Hx (by refine((RW.o.sT i (x:Int)).congr (fun j hj=>?_)).drewN 1;rw[<-jzps xs ys i N j hj, <-hx,Int.zero_add]);clear hx qa qe;go_wp2;(go_region);(all_goals go_wp2);go_roundg (n1-(i+1));(case measure=>omega);exact⟨i+1,rfl,by omega,by go_num,RD,Hx ((EW.o.sT (p:=(aD w.heap.size i)) (yX _) _).drewN 1)⟩};obtain rfl:i=n1:=(by omega);go_wp2;go_loopg [7] n2 (fun m it wj=>∃k:Nat,n2-k=m/\k<=n2/\it=vI k/\Hid (bB wj w.heap.size N (dY xs ys i k))/\Hid (Ext w wj));(case atStart=>exact⟨0,rfl,yZ _,rfl,RW,EW⟩);obtain⟨k,rfl,hk,rfl,RJ,EJ⟩:=hrel;by_cases qf:k<n2;{obtain⟨y,hy⟩:∃y,y=ys[k]?.getD 0:=⟨_,rfl⟩;have qA:y<1000000:=(by rw[hy,yG (by rw[HY.o.1];exact qf)];exact HY.o.2.1 _ (xR _));obtain⟨z,hz⟩:∃z,z=(if k<i then xs[k]?.getD 0 else 0):=⟨_,rfl⟩;have qC:z<1000000:=(by rw[hz];split;{rename_i h;rw[yG (by rw[HX.o.1];exact h)];exact HX.o.2.1 _ (xR _)};decide);obtain⟨bb,oo,hA,qe,qa⟩:=HY.o.2.2.2.ints (k:=k) (by rw[HY.o.1];exact qf);subst hA;have k1:=EJ.o.cell (p:=(aD bb (oo+k))) qe;rw[qa k (by rw[HY.o.1];exact qf), <-hy]at k1;have k0:=RJ.o.cell (j:=k) (by omega);have qh:dY xs ys i k k=(z:Int):=(by unfold dY;rw[hz];simp);rw[qh]at k0;have f0:=RJ.o.frozen k;have RD:Hid (bB ((wr.setCell (aD w.heap.size k) (vI ((z:Int)+(y:Int)))).drewN 1) w.heap.size N (dY xs ys i (k+1))):=Hx (by refine((RJ.o.sT k ((z:Int)+(y:Int))).congr (fun j hj=>?_)).drewN 1;rw[<-jzpt xs ys i k N j hj, <-hy,qh]);clear hy hz qa qe qh;go_wp2;(go_region);(all_goals go_wp2);go_roundg (n2-(k+1));(case measure=>omega);exact⟨k+1,rfl,by omega,by go_num,RD,Hx ((EJ.o.sT (p:=(aD w.heap.size k)) (yX _) _).drewN 1)⟩};obtain rfl:k=n2:=(by omega);have qt:(dQ xs ys).length=N:=(by rw[jzfz,HX.o.1,HY.o.1,HN.o]);have RR:=Hx (RJ.o.rd (l:=dQ xs ys) qt (fun j hj=>by unfold dY;rw[jzz, <-HX.o.1, <-HY.o.1,jzf1,jzf1]));have LB:Hid (∀d∈dQ xs ys,d<=4000000000000000000):=Hx (fun d hd=>by obtain⟨j,hj,he⟩:=List.getElem_of_mem hd;have h1:=jzz xs ys j;rw[yG hj,he]at h1;have hb:∀l:LN,(∀d∈l,d<G6)->l[j]?.getD 0<1000000:=fun l hl=>(by (rcases kQd j l.length with h|h);{rw[yG h];exact hl _ (xR _)};rw[yI h];decide);have h2:=hb xs HX.o.2.1;have h3:=hb ys HY.o.2.1;simp at h1;omega);have VV:=Hx (show Dig.val G6 (dQ xs ys)=a+b by rw[jzf0,HX.o.2.2.1,HY.o.2.2.1]);(go_wp2_with fail);refine(uA (sA w.heap.size) N N (dQ xs ys) qt _ RR.o (yX _) LB.o (by omega)).mono ?_;rintro e w5 ⟨A5,n5,c5,rfl,h5,x5,fr⟩;rw[VV.o]at h5;have F:=Hx (kQa h5 (kQa (EJ.o.tr x5) (fun ad h=>yY EJ.o.size (fr ad h))));clear h5 x5 fr;go_wp2;go_ret;exact⟨_,_,_,rfl,F.o.1,F.o.2.1,F.o.2.2⟩
def cv:LN->LN->Nat->Nat
 | [],_,_=>0
 |x::xs,ys,k=>x*ys[k]?.getD 0+(match k with
  |0=>0
  |k+1=>cv xs ys k)
theorem jzf2(ys:LN):∀(xs:LN) (i k:Nat),i<xs.length->i<=k->cv (xs.take (i+1)) ys k=cv (xs.take i) ys k+xs[i]?.getD 0*ys[k-i]?.getD 0
 | [],i,k,hi,_=>by simp at hi
 |x::xs,0,k,_,_=>by
  cases k <;> simp[cv]
 |x::xs,i+1,0,_,h=>by omega
 |x::xs,i+1,k+1,hi,h=>by
  have:=jzf2 ys xs i k (by simpa using hi) (by omega);simp only[List.take_succ_cons,cv];rw[this];simp only[List.getElem?_cons_succ,Nat.add_sub_add_right];omega
theorem jzf3(ys:LN):∀(xs:LN) (i k:Nat),k<i->cv (xs.take i) ys k=cv xs ys k
 | [],i,k,_=>by simp
 |x::xs,0,k,h=>by omega
 |x::xs,i+1,0,_=>by simp[cv]
 |x::xs,i+1,k+1,h=>by
  simp only[List.take_succ_cons,cv];rw[jzf3 ys xs i k (by omega)]
theorem jzf4{ys:LN}(hy:∀d∈ys,d<G6):∀(xs:LN) (k:Nat),(∀d∈xs,d<G6)->cv xs ys k<=xs.length*1000000000000
 | [],k,_=>by simp[cv]
 |x::xs,k,hx=>by
  have qa:ys[k]?.getD 0<G6:=by
   rcases kQd k ys.length with h|h
   ·rw[yG h];exact hy _ (xR _)
   rw[yI h];decide
  have h1:x*ys[k]?.getD 0<=1000000*1000000:=kQq (kQe (hx x (by simp))) (kQe qa);rw[kQo,xP];cases k with
  |zero=>simp only[cv];omega
  |succ k=>
   have:=jzf4 hy xs k (fun d hd=>hx d (by simp[hd]));simp only[cv];omega
def vs(f:Nat->Nat):Nat->Nat
 |0=>0
 |n+1=>f 0+G6*vs (fun k=>f (k+1)) n
theorem jzpv(f:Nat->Nat)(n:Nat):Dig.val G6 ((List.range n).map f)=vs f n:=by
 (induction n generalizing f with|zero=>rfl|succ n ih=>rw[List.range_succ_eq_map,kZa,Dig.val_cons,List.map_map,vs];rw[show(f ∘ Nat.succ)=fun k=>f (k+1)from rfl,ih])
theorem jzpw(f g:Nat->Nat)(n:Nat):vs (fun k=>f k+g k) n=vs f n+vs g n:=by
 (induction n generalizing f g with|zero=>rfl|succ n ih=>simp only[vs];rw[ih,kQc];omega)
theorem jzpx(x:Nat)(ys:LN)(n:Nat)(h:ys.length<=n):vs (fun k=>x*ys[k]?.getD 0) n=x*Dig.val G6 ys:=by
 (induction ys generalizing n with|nil=>have qa:∀n,vs (fun _=>0) n=0:=fun n=>(by (induction n with|zero=>rfl|succ n ih=>simp only[vs];rw[ih,kQ8]));simp only[List.getElem?_nil,Option.getD_none,kQ8,Dig.val];exact qa n|cons y ys ih=>(cases n with|zero=>simp at h|succ n=>have:=ih n (by simpa using h);simp only[vs,kQi,kQ1,List.getElem?_cons_succ];rw[this,Dig.val_cons,kQc, <-kQg, <-kQg,vE G6 x]))
theorem jzf5(ys:LN):∀(xs:LN) (n:Nat),xs.length+ys.length<=n->vs (cv xs ys) n=Dig.val G6 xs*Dig.val G6 ys
 | [],n,_=>by
   have qa:∀n,vs (fun _=>0) n=0:=fun n=>by
    induction n with
    |zero=>rfl
    |succ n ih=>simp only[vs];rw[ih,kQ8]
   rw[show cv [] ys=fun _=>0 from by funext k;rfl,qa];simp[Dig.val]
 |x::xs,0,h=>by simp at h
 |x::xs,n+1,h=>by
  have ih:=jzf5 ys xs n (by simp at h;omega);have e:cv (x::xs) ys=fun k=>x*ys[k]?.getD 0+(match k with|0=>0|k+1=>cv xs ys k):=(by funext k;rfl);rw[e,jzpw,jzpx x ys (n+1) (by simp at h;omega),Dig.val_cons,xP]
  congr 1
  show 0+G6*vs (fun k=>cv xs ys k) n=_;rw[show(fun k=>cv xs ys k)=cv xs ys from rfl,ih,kQu,kQg]
def eI(xs ys:LN)(k i j:Nat):Int:=if j<k then((cv xs ys j:Nat):Int)else if j=k then((cv (xs.take i) ys k:Nat):Int)else 0
theorem jzpy(xs ys:LN)(k i n:Nat)(h:cv (xs.take i) ys k=cv xs ys k):∀j,j<n->eI xs ys k i j=eI xs ys (k+1) 0 j:=by
 intro j _;unfold eI;by_cases h1:j<k;{rw[if_pos h1,if_pos (by omega)]};by_cases h2:j=k;{subst h2;rw[if_neg h1,if_pos rfl,if_pos (by omega),h]};rw[if_neg h1,if_neg h2,if_neg (by omega)];split;{simp[cv]};rfl
theorem jzpz(xs ys:LN)(k i n:Nat)(v:Nat)(h:cv (xs.take (i+1)) ys k=v):∀j,j<n->(if j=k then((v:Nat):Int)else eI xs ys k i j)=eI xs ys k (i+1) j:=by
 intro j _;unfold eI;by_cases h2:j=k;{subst h2;rw[if_pos rfl,if_neg (by omega),if_pos rfl,h]};rw[if_neg h2,if_neg h2,if_neg h2]
theorem jz0 A1 A2(n1 c1 n2 c2 a b:Nat)w(h1:aL w A1 n1 c1 a)(h2:aL w A2 n2 c2 b)(hn1:n1<=1000000)(hn2:n2<=1000000):
  Calls prog 112 #[.s A1 n1 c1,.s A2 n2 c2] w (kH w (a*b)):=by
 obtain⟨xs,qp,qJ,qj,qm,qn⟩:=h1;obtain⟨ys,qw,qM,qx,qk,qi⟩:=h2;have HX:=Hx (kQa qp (kQa qj.lt (kQa qm qn.rd)));have HY:=Hx (kQa qw (kQa qx.lt (kQa qk qi.rd)));clear qp qj qm qn qw qx qk qi;obtain⟨N,hN⟩:∃N,N=n1+n2:=⟨_,rfl⟩;have HN:=Hx hN;have qB:n1<=N/\n2<=N/\N<=2000000:=(by omega);clear hN;have qF:=run_make_row' (P:=prog) 44 3 (vI 0) 8 underlying44 Tryz.info3 rfl .i64 .i64 N (by omega) (by omega);have qo:(N:Int)=(n1:Int)+(n2:Int):=(by have:=HN.o;omega);rw[qo]at qF;clear qo;have R0:Hid (bB (w.alloc (.cells (madeCells #[vI 0] N) 3)) w.heap.size N (eI xs ys 0 0)):=Hx (by refine bB.of_blk (eN w 3 (madeCells #[vI 0] N)) (fun j hj=>?_);rw[<-kQw,toList_madeCells_one];have:eI xs ys 0 0 j=0:=(by unfold eI;simp[cv]);rw[this];simp[hj]);have E0:=Hx ((eR w).alloc (.cells (madeCells #[vI 0] N) 3));have CL:Hid (∀k i,cv (xs.take i) ys k<=1000000*1000000000000):=Hx (fun k i=>by have h1:=jzf4 HY.o.2.1 (xs.take i) k (fun d hd=>HX.o.2.1 d (xM hd));refine yY h1 (xS _ ?_);rw[xF,HX.o.1];omega);go_enter func112,ntmps112;go_wp2;go_loopg [6,7] N (fun m kt _ wr=>∃k:Nat,N-k=m/\k<=N/\kt=vI k/\Hid (bB wr w.heap.size N (eI xs ys k 0))/\Hid (Ext w wr));(case atStart=>exact⟨0,rfl,yZ _,rfl,R0,E0⟩);obtain⟨k,rfl,hk,rfl,RW,EW⟩:=hrel;clear R0 E0;by_cases qA:k<N;{go_wp2;go_loopg [7] (n1+1) (fun m it wj=>∃i:Nat,n1+1-i=m/\i<=n1/\i<=k+1/\it=vI i/\Hid (bB wj w.heap.size N (eI xs ys k i))/\Hid (Ext w wj));(case atStart=>exact⟨0,rfl,yZ _,by omega,rfl,RW,EW⟩);obtain⟨i,rfl,hi,qK,rfl,RJ,EJ⟩:=hrel;by_cases hc:i<=k/\i<n1;{obtain⟨qh,qf⟩:=hc;have d1:decide ((i:Int)<=(k:Int))=true:=(by simp;omega);have CT:=Hx (jzf2 ys xs i k (by rw[HX.o.1];exact qf) qh);have i0:(0:Int)<=(k:Int)-(i:Int):=(by omega);have i3:((k:Int)-(i:Int)).toNat=k-i:=(by omega);by_cases hd:k-i<n2;{(have d2:decide ((k:Int)-(i:Int)<(n2:Int))=true:=by simp;omega);obtain⟨x,hx⟩:∃x,x=xs[i]?.getD 0:=⟨_,rfl⟩;obtain⟨y,hy⟩:∃y,y=ys[k-i]?.getD 0:=⟨_,rfl⟩;obtain⟨z,hz⟩:∃z,z=cv (xs.take i) ys k:=⟨_,rfl⟩;have qH:x<1000000:=(by rw[hx,yG (by rw[HX.o.1];exact qf)];exact HX.o.2.1 _ (xR _));have qG:y<1000000:=(by rw[hy,yG (by rw[HY.o.1];exact hd)];exact HY.o.2.1 _ (xR _));have qI:(z:Int)<=1000000000000000000:=(by have:=CL.o k i;rw[<-hz]at this;omega);have qL:(x:Int)*(y:Int)<=1000000000000:=(by have h1:x*y<=1000000*1000000:=kQq (by omega) (by omega);have h2:((x*y:Nat):Int)=(x:Int)*(y:Int):=(by simp);omega);have qE:0<=(x:Int)*(y:Int):=(by have h2:((x*y:Nat):Int)=(x:Int)*(y:Int):=(by simp);omega);obtain⟨b1,o1,qC,qz,qe⟩:=HX.o.2.2.2.ints (k:=i) (by rw[HX.o.1];exact qf);obtain⟨b2,o2,qD,qy,qa⟩:=HY.o.2.2.2.ints (k:=k-i) (by rw[HY.o.1];exact hd);subst qC qD;have k1:=EJ.o.cell (p:=(aD b1 (o1+i))) qz;rw[qe i (by rw[HX.o.1];exact qf), <-hx]at k1;have k2:=EJ.o.cell (p:=(aD b2 (o2+(k-i)))) qy;rw[qa (k-i) (by rw[HY.o.1];exact hd), <-hy]at k2;have k0:=RJ.o.cell (j:=k) qA;rw[show eI xs ys k i k=(z:Int)from by unfold eI;rw[if_neg (by omega),if_pos rfl,hz]]at k0;have f0:=RJ.o.frozen k;have RD:Hid (bB ((wr.setCell (aD w.heap.size k) (vI ((z:Int)+(x:Int)*(y:Int)))).drewN 1) w.heap.size N (eI xs ys k (i+1))):=Hx (by refine((RJ.o.sT k ((z:Int)+(x:Int)*(y:Int))).congr (fun j hj=>?_)).drewN 1;rw[<-jzpz xs ys k i N (z+x*y) (by rw[CT.o, <-hx, <-hy, <-hz]) j hj];simp);clear hx hy hz qe qa qz qy;go_wp2;(go_region);(all_goals go_wp2);go_roundg (n1+1-(i+1));(case measure=>omega);exact⟨i+1,rfl,by omega,by omega,by go_num,RD,Hx ((EJ.o.sT (p:=(aD w.heap.size k)) (yX _) _).drewN 1)⟩};have d2:decide ((k:Int)-(i:Int)<(n2:Int))=false:=(by simp;omega);have RD:Hid (bB wr w.heap.size N (eI xs ys k (i+1))):=Hx (RJ.o.congr (fun j hj=>by unfold eI;rw[CT.o,yI (by rw[HY.o.1];omega:ys.length<=k-i)];simp));go_wp2;go_roundg (n1+1-(i+1));(case measure=>omega);exact⟨i+1,rfl,by omega,by omega,by go_num,RD,EJ⟩};have qg:cv (xs.take i) ys k=cv xs ys k:=(by by_cases h:i=n1;{rw[yU (by rw[HX.o.1];omega)]};exact jzf3 ys xs i k (by omega));have RD:=Hx (RJ.o.congr (jzpy xs ys k i N qg));clear qg;by_cases h1:i<=k;{(have d1:decide ((i:Int)<=(k:Int))=true:=by simp;omega);obtain rfl:i=n1:=(by omega);go_wp2;go_roundg (N-(k+1));(case measure=>omega);exact⟨k+1,rfl,by omega,by go_num,RD,EJ⟩};have d1:decide ((i:Int)<=(k:Int))=false:=(by simp;omega);go_wp2;go_roundg (N-(k+1));(case measure=>omega);exact⟨k+1,rfl,by omega,by go_num,RD,EJ⟩};obtain rfl:k=N:=(by omega);have qt:((List.range k).map (cv xs ys)).length=k:=(by simp);have RR:=Hx (RW.o.rd (l:=(List.range k).map (cv xs ys)) qt (fun j hj=>by unfold eI;rw[if_pos hj];simp[hj]));have LB:Hid (∀d∈(List.range k).map (cv xs ys),d<=4000000000000000000):=Hx (fun d hd=>by obtain⟨j,_,rfl⟩:=kQl.1 hd;have:=CL.o j n1;rw[yU (by rw[HX.o.1];omega)]at this;omega);have VV:=Hx (show Dig.val G6 ((List.range k).map (cv xs ys))=a*b by rw[jzpv,jzf5 ys xs k (by rw[HX.o.1,HY.o.1,HN.o];omega),HX.o.2.2.1,HY.o.2.2.1]);(go_wp2_with fail);refine(uA (sA w.heap.size) k k ((List.range k).map (cv xs ys)) qt _ RR.o (yX _) LB.o (by omega)).mono ?_;rintro e w5 ⟨A5,n5,c5,rfl,h5,x5,fr⟩;rw[VV.o]at h5;have F:=Hx (kQa h5 (kQa (EW.o.tr x5) (fun ad h=>yY EW.o.size (fr ad h))));clear h5 x5 fr;go_wp2;go_ret;exact⟨_,_,_,rfl,F.o.1,F.o.2.1,F.o.2.2⟩
theorem pI(neg:Bool)A(n c:Nat)A'(n' c':Nat)(q:Rat)w(h:RQR w neg A n c A' n' c' q):
  Calls prog 113 #[.agg #[.bool neg,.s A n c,.s A' n' c']] w fun e w'=>∃(B:OA) (m d:Nat),e=.returned (.s B m d)/\aL w' B m d q.den/\m<=n'+1/\Ext w w':=by
 obtain⟨b0,e0⟩:=aV w #[.bool neg,.s A n c,.s A' n' c'] 47;have hz:=h.2.2.eq_zero;have HZ:=Hx (hz);have H:=Hx (h);have E0:=Hx (e0);obtain⟨⟨i0,i1,i2⟩,g0,g1,g2⟩:=b0.t3;clear hz h e0;by_cases hn:n'=0;{subst hn;have hd:q.den=1:=(lF q).1 (HZ.o.1 rfl);have HD:=Hx (hd);clear hd;go_enter func113,ntmps113;(go_wp2_with fail);refine(lN 1 _ (by decide)).mono ?_;rintro e w1 ⟨B,m,d,rfl,h1,x1,_⟩;have hm:m<=1:=h1.lenOf (by decide);rw[<-HD.o]at h1;have F:=Hx (kQa h1 (E0.o.tr x1));clear h1 x1;go_wp2;go_ret;exact⟨_,_,_,rfl,F.o.1,by omega,F.o.2⟩};have zb:((n':Int)==0)=false:=yK.2 (by omega);have hd:dk q=q.den:=(by have h1:dk q≠0:=fun h=>hn (HZ.o.2 h);unfold dk at h1⊢;split;{rename_i h2;rw[if_pos h2]at h1;exact absurd rfl h1};rfl);have F:=Hx (show aL (w.alloc (.cells #[.bool neg,.s A n c,.s A' n' c'] 47)) A' n' c' q.den by rw[<-hd];exact H.o.2.2.K E0.o);clear hd;go_enter func113,ntmps113;go_wp2;go_ret;exact⟨_,_,_,rfl,F.o,by omega,E0.o⟩
theorem jz1{w w' w''}{A A1 A2}{n c n1 c1 n2 c2 a b:Nat}(h:aL w A n c (a*b))(h1:aL w' A1 n1 c1 a)(h2:aL w'' A2 n2 c2 b):n<=n1+n2:=by
 refine h.lenOf ?_;rw[Nat.pow_add];rcases kQm b with h0|h0
 ·rw[h0,kQ8];exact Nat.mul_pos (kQy eW) (kQy eW)
 exact kZb h1.lt_pow (kQe h2.lt_pow) (kQy eW)
theorem jzp0{w w' w''}{A A1 A2}{n c n1 c1 n2 c2 a b:Nat}(h:aL w A n c (a+b))(h1:aL w' A1 n1 c1 a)(h2:aL w'' A2 n2 c2 b):n<=n1+n2+1:=by
 refine h.lenOf ?_;have p1:a<G6^(n1+n2):=yL h1.lt_pow (kQk eW (by omega));have p2:b<G6^(n1+n2):=yL h2.lt_pow (kQk eW (by omega));rw[vD];generalize G6^(n1+n2)=p at*;rw[fK];omega
theorem jzp1(na nb:Bool)A1(n1 c1:Nat)A1'(n1' c1':Nat)A2(n2 c2:Nat)A2'(n2' c2':Nat)(a b:Rat)w
  (ha:RQR w na A1 n1 c1 A1' n1' c1' a) (hb:RQR w nb A2 n2 c2 A2' n2' c2' b) (l1:n1<=200000) (l1':n1'<=200000) (l2:n2<=200000) (l2':n2'<=200000):
  Calls prog 60 #[.agg #[.bool na,.s A1 n1 c1,.s A1' n1' c1'],.agg #[.bool nb,.s A2 n2 c2,.s A2' n2' c2']] w (oB w (a+b)):=by
 obtain⟨b0,b1,b2,e0⟩:=gD w #[.bool na,.s A1 n1 c1,.s A1' n1' c1'] 47 #[.bool nb,.s A2 n2 c2,.s A2' n2' c2'] 47 #[.bool false,zN,zN] 47;have hq:=(jzam ha.1 hb.1).1;have qR:Ext w (((w.alloc (.cells #[.bool na,.s A1 n1 c1,.s A1' n1' c1'] 47)).alloc (.cells #[.bool nb,.s A2 n2 c2,.s A2' n2' c2'] 47)).alloc (.cells #[.bool false,zN,zN] 47)).drew:=e0.drewN 1;have qL:Blk (((w.alloc (.cells #[.bool na,.s A1 n1 c1,.s A1' n1' c1'] 47)).alloc (.cells #[.bool nb,.s A2 n2 c2,.s A2' n2' c2'] 47)).alloc (.cells #[.bool false,zN,zN] 47)).drew _ _ _:=b0;have qK:Blk (((w.alloc (.cells #[.bool na,.s A1 n1 c1,.s A1' n1' c1'] 47)).alloc (.cells #[.bool nb,.s A2 n2 c2,.s A2' n2' c2'] 47)).alloc (.cells #[.bool false,zN,zN] 47)).drew _ _ _:=b1;have qO:Blk (((w.alloc (.cells #[.bool na,.s A1 n1 c1,.s A1' n1' c1'] 47)).alloc (.cells #[.bool nb,.s A2 n2 c2,.s A2' n2' c2'] 47)).alloc (.cells #[.bool false,zN,zN] 47)).drew _ _ _:=b2;have HQ:=Hx (hq);have HA:=Hx (ha);have HB:=Hx (hb);have E0:=Hx (qR);have BB:=Hx (kQa qL (kQa qK qO));obtain⟨⟨i0,i1,i2⟩,_⟩:=qL.t3;obtain⟨⟨j0,j1,j2⟩,_⟩:=qK.t3;clear ha hb hq b0 b1 b2 e0 qR qL qK qO;have qI:True:=trivial;have qP:True:=trivial;go_enter func60,ntmps60;go_wp2
 go_region_held3 (fun w'=>w'.cell? (aD w.heap.size 0)=some (.bool na)/\w'.cell? (aD w.heap.size 1)=some (.s A1 n1 c1)/\w'.cell? (aD w.heap.size 2)=some (.s A1' n1' c1')/\w'.cell? (aD (w.heap.size+1) 0)=some (.bool nb)/\w'.cell? (aD (w.heap.size+1) 1)=some (.s A2 n2 c2)/\w'.cell? (aD (w.heap.size+1) 2)=some (.s A2' n2' c2'))
  (first|with_reducible exact⟨i0,i1,i2,j0,j1,j2⟩|fail)
  (first
   |(go_at_call 113
     have _t:=qI;refine(pI nb A2 n2 c2 A2' n2' c2' b _ (HB.o.K E0.o)).mono ?_;rintro e w3 ⟨A3,n3,c3,rfl,h3,l3,x3⟩;clear qI;have qA:=Hx (kQa (BB.o.1.K x3) (kQa (BB.o.2.1.K x3) (BB.o.2.2.K x3)));have E3:=Hx (E0.o.tr x3);have R3:=Hx h3;obtain⟨⟨i0,i1,i2⟩,_⟩:=qA.o.1.t3;obtain⟨⟨j0,j1,j2⟩,_⟩:=qA.o.2.1.t3;clear x3 h3)
   |(go_at_call 112
     have _t:=qP;refine(jz0 A1 A3 n1 c1 n3 c3 a.num.natAbs b.den _ (HA.o.2.1.K E3.o) R3.o (by omega) (by omega)).mono ?_;rintro e w4 ⟨A4,n4,c4,rfl,h4,x4,_⟩;clear qP;have L4:=jz1 h4 HA.o.2.1 R3.o;have qz:=Hx (kQa (qA.o.1.K x4) (kQa (qA.o.2.1.K x4) (qA.o.2.2.K x4)));have E4:=Hx (E3.o.tr x4);have R4:=Hx h4;obtain⟨⟨i0,i1,i2⟩,_⟩:=qz.o.1.t3;obtain⟨⟨j0,j1,j2⟩,_⟩:=qz.o.2.1.t3;clear x4 h4)
   |(go_at_call 113
     refine(pI na A1 n1 c1 A1' n1' c1' a _ (HA.o.K E4.o)).mono ?_;rintro e w5 ⟨A5,n5,c5,rfl,h5,l5,x5⟩;have qD:=Hx (kQa (qz.o.1.K x5) (kQa (qz.o.2.1.K x5) (qz.o.2.2.K x5)));have E5:=Hx (E4.o.tr x5);have R5:=Hx (kQa (R4.o.K x5) h5);obtain⟨⟨i0,i1,i2⟩,_⟩:=qD.o.1.t3;obtain⟨⟨j0,j1,j2⟩,_⟩:=qD.o.2.1.t3;clear x5 h5)
   |(go_at_call 112
     refine(jz0 A2 A5 n2 c2 n5 c5 b.num.natAbs a.den _ (HB.o.2.1.K E5.o) R5.o.2 (by omega) (by omega)).mono ?_;rintro e w6 ⟨A6,n6,c6,rfl,h6,x6,_⟩;have L6:=jz1 h6 HB.o.2.1 R5.o.2;have qC:=Hx (kQa (qD.o.1.K x6) (kQa (qD.o.2.1.K x6) (qD.o.2.2.K x6)));have E6:=Hx (E5.o.tr x6);have R6:=Hx (kQa (R5.o.1.K x6) h6);obtain⟨⟨i0,i1,i2⟩,_⟩:=qC.o.1.t3;obtain⟨⟨j0,j1,j2⟩,_⟩:=qC.o.2.1.t3;clear x6 h6)
   |fail)
 have XD:Hid (Ext w6 w6.drew):=Hx ((eR w6).drewN 1);have BD:=Hx (kQa (qC.o.1.K XD.o) (kQa (qC.o.2.1.K XD.o) (qC.o.2.2.K XD.o)));have ED:=Hx (E6.o.tr XD.o);have RD:=Hx (kQa (R6.o.1.K XD.o) (R6.o.2.K XD.o));clear BB qA qz qD qC E0 E3 E4 E5 E6 R3 R4 R5 R6 XD i0 i1 i2 j0 j1 j2;obtain⟨⟨i0,i1,i2⟩,_⟩:=BD.o.1.t3;obtain⟨⟨j0,j1,j2⟩,_⟩:=BD.o.2.1.t3;have qI:True:=trivial;go_wp2
 go_region_held3 (fun w'=>w'.cell? (aD w.heap.size 0)=some (.bool na)/\w'.cell? (aD w.heap.size 1)=some (.s A1 n1 c1)/\w'.cell? (aD w.heap.size 2)=some (.s A1' n1' c1')/\w'.cell? (aD (w.heap.size+1) 0)=some (.bool nb)/\w'.cell? (aD (w.heap.size+1) 1)=some (.s A2 n2 c2)/\w'.cell? (aD (w.heap.size+1) 2)=some (.s A2' n2' c2'))
  (first|with_reducible exact⟨i0,i1,i2,j0,j1,j2⟩|fail)
  (first
   |(go_at_call 113
     have _t:=qI;refine(pI na A1 n1 c1 A1' n1' c1' a _ (HA.o.K ED.o)).mono ?_;rintro e w7 ⟨A7,n7,c7,rfl,h7,l7,x7⟩;clear qI;have qB:=Hx (kQa (BD.o.1.K x7) (kQa (BD.o.2.1.K x7) (BD.o.2.2.K x7)));have E7:=Hx (ED.o.tr x7);have R7:=Hx (kQa h7 (kQa (RD.o.1.K x7) (RD.o.2.K x7)));obtain⟨⟨i0,i1,i2⟩,_⟩:=qB.o.1.t3;obtain⟨⟨j0,j1,j2⟩,_⟩:=qB.o.2.1.t3;clear x7 h7)
   |(go_at_call 113
     refine(pI nb A2 n2 c2 A2' n2' c2' b _ (HB.o.K E7.o)).mono ?_;rintro e w8 ⟨A8,n8,c8,rfl,h8,l8,x8⟩;have qy:=Hx (kQa (qB.o.1.K x8) (kQa (qB.o.2.1.K x8) (qB.o.2.2.K x8)));have E8:=Hx (E7.o.tr x8);have R8:=Hx (kQa h8 (kQa (R7.o.1.K x8) (kQa (R7.o.2.1.K x8) (R7.o.2.2.K x8))));obtain⟨⟨i0,i1,i2⟩,_⟩:=qy.o.1.t3;obtain⟨⟨j0,j1,j2⟩,_⟩:=qy.o.2.1.t3;clear x8 h8)
   |(go_at_call 112
     refine(jz0 A7 A8 n7 c7 n8 c8 a.den b.den _ R8.o.2.1 R8.o.1 (by omega) (by omega)).mono ?_;rintro e w9 ⟨A9,n9,c9,rfl,h9,x9,_⟩;have L9:=jz1 h9 R8.o.2.1 R8.o.1;have qn:=Hx (kQa (qy.o.1.K x9) (kQa (qy.o.2.1.K x9) (qy.o.2.2.K x9)));have E9:=Hx (E8.o.tr x9);have R9:=Hx (kQa h9 (kQa (R8.o.2.2.1.K x9) (R8.o.2.2.2.K x9)));obtain⟨⟨i0,i1,i2⟩,_⟩:=qn.o.1.t3;obtain⟨⟨j0,j1,j2⟩,_⟩:=qn.o.2.1.t3;clear x9 h9)
   |fail)
 clear BD ED RD qB qy E7 E8 R7 R8;have qx:0<a.den*b.den:=Nat.mul_pos a.den_pos b.den_pos;by_cases qh:na=nb
 ·(have qW:(na==nb)=true:=by rw[qh];simp);have qH:=Hx (show a+b=mkQ na (a.num.natAbs*b.den+b.num.natAbs*a.den) (a.den*b.den) by rw[HQ.o];unfold sgB sgV;rw[if_pos qh,if_pos qh]);clear qh;have XD:Hid (Ext w9 w9.drew):=Hx ((eR w9).drewN 1);have BD:=Hx (kQa (qn.o.1.K XD.o) (kQa (qn.o.2.1.K XD.o) (qn.o.2.2.K XD.o)));have ED:=Hx (E9.o.tr XD.o);have RD:=Hx (kQa (R9.o.1.K XD.o) (kQa (R9.o.2.1.K XD.o) (R9.o.2.2.K XD.o)));go_wp2;have i0:w9.drew.cell? (aD w.heap.size 0)=some (.bool na):=i0
  go_region_held3 (fun w'=>w'.cell? (aD w.heap.size 0)=some (.bool na))
   (first|with_reducible exact i0|exact qT _ _ _|fail)
   (first
    |(go_at_call 114
      refine(jzpu A4 A6 n4 c4 n6 c6 _ _ _ RD.o.2.1 RD.o.2.2 (by omega) (by omega)).mono ?_;rintro e qQ ⟨qE,qF,qG,rfl,qm,qe,_⟩;have qN:=jzp0 qm RD.o.2.1 RD.o.2.2;have qa:=Hx (kQa (BD.o.1.K qe) (kQa (BD.o.2.1.K qe) (BD.o.2.2.K qe)));have qt:=Hx (ED.o.tr qe);have qp:=Hx (kQa qm (RD.o.1.K qe));obtain⟨⟨i0,_,_⟩,_⟩:=qa.o.1.t3;clear qm qe)
    |(go_at_call 50
      refine(rJ na qE A9 qF qG n9 c9 _ _ _ qp.o.1 qp.o.2 (by omega) (by omega) qx).mono ?_;rintro e qS ⟨nq,B,m,d,B',m',d',rfl,qk,qi,qf⟩;have FR:=Hx (qf.le qt.o.size);clear qf;rw[<-qH.o]at qk;have qo:=Hx (qa.o.2.2.K qi);have qJ:=Hx (qt.o.tr qi);obtain⟨⟨p0,p1,p2⟩,f0,f1,f2⟩:=qo.o.t3;obtain⟨r1,r2⟩:=gJ (w:=w) qk qo.o (by omega) qJ.o;have q3:=((qo.o.sT 0 (.bool nq)).sT 1 (.s B m d)).sT 2 (.s B' m' d');have RF:=Hx (kQa q3 (kQa r1 r2));clear q3 r1 r2 qk;obtain⟨⟨i0,_,_⟩,_⟩:=(qa.o.1.K qi).t3;have qT:=fun u0 u1 u2=>((((qa.o.1.K qi).far (p:=(aD (w.heap.size+1+1) 0)) (by simp;omega) u0).far (p:=(aD (w.heap.size+1+1) 1)) (by simp;omega) u1).far (p:=(aD (w.heap.size+1+1) 2)) (by simp;omega) u2).cell 0;clear qi)
    |fail)
  go_wp2;exact bodyPost_ret (v:=.agg #[.bool nq,.s B m d,.s B' m' d']) (by simp[results,results60,go_sem,RF.o.1.cell]) rfl ⟨_,_,_,_,_,_,_,rfl,RF.o.2.1,RF.o.2.2,FR.o⟩
 have qW:(na==nb)=false:=yK.2 qh;by_cases qw:b.num.natAbs*a.den<=a.num.natAbs*b.den;{have qH:=Hx (show a+b=mkQ na (a.num.natAbs*b.den-b.num.natAbs*a.den) (a.den*b.den) by rw[HQ.o];unfold sgB sgV;rw[if_neg qh,if_neg qh,if_pos qw,if_pos qw]);(go_wp2_with fail);refine(rI A4 A6 n4 c4 n6 c6 _ _ _ R9.o.2.1 R9.o.2.2 (by omega)).mono ?_;rintro e qV ⟨rfl,qg⟩;have qj:=Hx (kQa (qn.o.1.K qg) (kQa (qn.o.2.1.K qg) (qn.o.2.2.K qg)));have EX:=Hx (E9.o.tr qg);have RX:=Hx (kQa (R9.o.1.K qg) (kQa (R9.o.2.1.K qg) (R9.o.2.2.K qg)));clear i0 i1 i2 j0 j1 j2 qg;obtain⟨⟨i0,i1,i2⟩,_⟩:=qj.o.1.t3;obtain⟨⟨j0,j1,j2⟩,_⟩:=qj.o.2.1.t3;have qU:decide (0<=aK (a.num.natAbs*b.den) (b.num.natAbs*a.den))=true:=(by (have:0<=aK (a.num.natAbs*b.den) (b.num.natAbs*a.den):=by unfold aK;rw[if_neg (by omega)];split <;> decide);simpa using this);have qM:=Hx qw;clear qh qw;generalize aK (a.num.natAbs*b.den) (b.num.natAbs*a.den)=cc at*;(go_wp2_with fail);refine(uD A4 A6 n4 c4 n6 c6 _ _ _ RX.o.2.1 RX.o.2.2 (by omega) qM.o).mono ?_;rintro e qQ ⟨qE,qF,qG,rfl,qm,qe⟩;have qN:=qm.lenOf (kQ2 (Nat.sub_le _ _) RX.o.2.1.lt_pow);have qa:=Hx (kQa (qj.o.1.K qe) (kQa (qj.o.2.1.K qe) (qj.o.2.2.K qe)));have qt:=Hx (EX.o.tr qe);have qp:=Hx (kQa qm (RX.o.1.K qe));clear i0 i1 i2 j0 j1 j2 qm qe;obtain⟨⟨i0,i1,i2⟩,_⟩:=qa.o.1.t3;obtain⟨⟨j0,j1,j2⟩,_⟩:=qa.o.2.1.t3;(go_wp2_with fail);refine(rJ na qE A9 qF qG n9 c9 _ _ _ qp.o.1 qp.o.2 (by omega) (by omega) qx).mono ?_;rintro e qS ⟨nq,B,m,d,B',m',d',rfl,qk,qi,qf⟩;have FR:=Hx (qf.le qt.o.size);clear qf;rw[<-qH.o]at qk;have qo:=Hx (qa.o.2.2.K qi);have qJ:=Hx (qt.o.tr qi);obtain⟨⟨p0,p1,p2⟩,f0,f1,f2⟩:=qo.o.t3;obtain⟨r1,r2⟩:=gJ (w:=w) qk qo.o (by omega) qJ.o;have q3:=((qo.o.sT 0 (.bool nq)).sT 1 (.s B m d)).sT 2 (.s B' m' d');have RF:=Hx (kQa q3 (kQa r1 r2));clear q3 r1 r2 qk;go_wp2;exact bodyPost_ret (v:=.agg #[.bool nq,.s B m d,.s B' m' d']) (by simp[results,results60,go_sem,RF.o.1.cell]) rfl ⟨_,_,_,_,_,_,_,rfl,RF.o.2.1,RF.o.2.2,FR.o⟩};have qH:=Hx (show a+b=mkQ nb (b.num.natAbs*a.den-a.num.natAbs*b.den) (a.den*b.den) by rw[HQ.o];unfold sgB sgV;rw[if_neg qh,if_neg qh,if_neg qw,if_neg qw]);(go_wp2_with fail);refine(rI A4 A6 n4 c4 n6 c6 _ _ _ R9.o.2.1 R9.o.2.2 (by omega)).mono ?_;rintro e qV ⟨rfl,qg⟩;have qj:=Hx (kQa (qn.o.1.K qg) (kQa (qn.o.2.1.K qg) (qn.o.2.2.K qg)));have EX:=Hx (E9.o.tr qg);have RX:=Hx (kQa (R9.o.1.K qg) (kQa (R9.o.2.1.K qg) (R9.o.2.2.K qg)));clear i0 i1 i2 j0 j1 j2 qg;obtain⟨⟨i0,i1,i2⟩,_⟩:=qj.o.1.t3;obtain⟨⟨j0,j1,j2⟩,_⟩:=qj.o.2.1.t3;have qU:decide (0<=aK (a.num.natAbs*b.den) (b.num.natAbs*a.den))=false:=(by (have:¬0<=aK (a.num.natAbs*b.den) (b.num.natAbs*a.den):=by unfold aK;rw[if_pos (by omega)];decide);simpa using this);have qM:=Hx (show a.num.natAbs*b.den<=b.num.natAbs*a.den by omega);clear qh qw;generalize aK (a.num.natAbs*b.den) (b.num.natAbs*a.den)=cc at*;(go_wp2_with fail);refine(uD A6 A4 n6 c6 n4 c4 _ _ _ RX.o.2.2 RX.o.2.1 (by omega) qM.o).mono ?_;rintro e qQ ⟨qE,qF,qG,rfl,qm,qe⟩;have qN:=qm.lenOf (kQ2 (Nat.sub_le _ _) RX.o.2.2.lt_pow);have qa:=Hx (kQa (qj.o.1.K qe) (kQa (qj.o.2.1.K qe) (qj.o.2.2.K qe)));have qt:=Hx (EX.o.tr qe);have qp:=Hx (kQa qm (RX.o.1.K qe));clear i0 i1 i2 j0 j1 j2 qm qe;obtain⟨⟨i0,i1,i2⟩,_⟩:=qa.o.1.t3;obtain⟨⟨j0,j1,j2⟩,_⟩:=qa.o.2.1.t3;(go_wp2_with fail);refine(rJ nb qE A9 qF qG n9 c9 _ _ _ qp.o.1 qp.o.2 (by omega) (by omega) qx).mono ?_;rintro e qS ⟨nq,B,m,d,B',m',d',rfl,qk,qi,qf⟩;have FR:=Hx (qf.le qt.o.size);clear qf;rw[<-qH.o]at qk;have qo:=Hx (qa.o.2.2.K qi);have qJ:=Hx (qt.o.tr qi);obtain⟨⟨p0,p1,p2⟩,f0,f1,f2⟩:=qo.o.t3;obtain⟨r1,r2⟩:=gJ (w:=w) qk qo.o (by omega) qJ.o;have q3:=((qo.o.sT 0 (.bool nq)).sT 1 (.s B m d)).sT 2 (.s B' m' d');have RF:=Hx (kQa q3 (kQa r1 r2));clear q3 r1 r2 qk;go_wp2;exact bodyPost_ret (v:=.agg #[.bool nq,.s B m d,.s B' m' d']) (by simp[results,results60,go_sem,RF.o.1.cell]) rfl ⟨_,_,_,_,_,_,_,rfl,RF.o.2.1,RF.o.2.2,FR.o⟩
theorem jzp2(q:Rat):mkQ (!decide (q.num<0)) q.num.natAbs q.den= -q:=by
 have h:(if(!decide (q.num<0))=true then-(q.num.natAbs:Int)else(q.num.natAbs:Int))= -q.num:=(by by_cases hn:q.num<0;{simp only[hn,decide_true,Bool.not_true,kZq,if_false];omega};simp only[hn,decide_false,Bool.not_false,if_true];omega);unfold mkQ;rw[h, <-Rat.neg_mkRat,Rat.mkRat_self]
theorem jzf6(q:Rat):aC q<0↔q<0:=by
 have h:q.num<0↔q<0:=(by rw[<-Int.not_le,Rat.num_nonneg,Rat.not_le]);unfold aC;split;{rename_i h0;rw[<-h,h0]};split;{rename_i h1;exact⟨fun _=>h.1 h1,fun _=>by decide⟩};rename_i h1;exact⟨fun x=>by omega,fun x=>absurd (h.2 x) h1⟩
theorem jzp3(a b:Rat):aC (a-b)=aW a b:=by
 unfold aW;by_cases h:a<b;{rw[if_pos h];have h1:a-b<0:=(by have h2:=(Rat.lt_iff_sub_pos a b).1 h;rw[<-Rat.neg_lt_neg_iff,Rat.neg_sub];simpa using h2);have h3:=(jzf6 (a-b)).2 h1;unfold aC at h3⊢;split at h3;{omega};rename_i hz;rw[if_neg hz];split at h3;{rename_i hn;rw[if_pos hn]};omega};rw[if_neg h];by_cases e:a=b;{rw[if_pos e,e,Rat.sub_self];rfl};rw[if_neg e];have h3:¬aC (a-b)<0:=fun h4=>(by have h5:=(jzf6 (a-b)).1 h4;apply h;rw[Rat.lt_iff_sub_pos, <-Rat.neg_lt_neg_iff,Rat.neg_sub];simpa using h5);have h6:aC (a-b)≠0:=fun h4=>e (by have:=kU.1 h4;rw[Rat.sub_eq_add_neg]at this;have h7:a+ -b+b=0+b:=(by rw[this]);rw[Rat.add_assoc,Rat.neg_add_cancel,Rat.add_zero,Rat.zero_add]at h7;exact h7);unfold aC at h3 h6⊢;split;{rename_i hz;rw[if_pos hz]at h6;exact absurd rfl h6};rename_i hz;rw[if_neg hz]at h3;split;{rename_i hn;rw[if_pos hn]at h3;omega};rfl
theorem jzp4(q:Rat):(-q).num.natAbs=q.num.natAbs/\dk (-q)=dk q:=by
 constructor;{show(-(q.num)).natAbs=_;omega};rfl
theorem RQR.lensN{w w'}{neg neg2:Bool}{A A' B B'}{n c n' c' m d m' d':Nat}{q:Rat}(h:RQR w neg A n c A' n' c' q)(h2:RQR w' neg2 B m d B' m' d' (-q)):m<=n/\m'<=n':=by
 obtain⟨e1,e2⟩:=jzp4 q;refine⟨h2.2.1.lenOf ?_,h2.2.2.lenOf ?_⟩;{rw[e1];exact h.2.1.lt_pow};rw[e2];exact h.2.2.lt_pow
theorem jzp5(na:Bool)A1(n1 c1:Nat)A1'(n1' c1':Nat)(a:Rat)w(ha:RQR w na A1 n1 c1 A1' n1' c1' a)(l1:n1<=200000)(l1':n1'<=200000):
  Calls prog 162 #[.agg #[.bool na,.s A1 n1 c1,.s A1' n1' c1']] w (lQ w (-a)):=by
 obtain⟨b0,b1,e0⟩:=dH w #[.bool na,.s A1 n1 c1,.s A1' n1' c1'] 47 #[.bool false,zN,zN] 47;have qa:Ext w ((w.alloc (.cells #[.bool na,.s A1 n1 c1,.s A1' n1' c1'] 47)).alloc (.cells #[.bool false,zN,zN] 47)).drew:=e0.drewN 1;have qe:Blk ((w.alloc (.cells #[.bool na,.s A1 n1 c1,.s A1' n1' c1'] 47)).alloc (.cells #[.bool false,zN,zN] 47)).drew _ _ _:=b0;have qg:Blk ((w.alloc (.cells #[.bool na,.s A1 n1 c1,.s A1' n1' c1'] 47)).alloc (.cells #[.bool false,zN,zN] 47)).drew _ _ _:=b1;have hq:=jzp2 a;rw[<-ha.1]at hq;have HQ:=Hx hq;have HA:=Hx (ha.K qa);have E0:=Hx (qa);have BB:=Hx (kQa qe qg);have qf:=a.den_pos;obtain⟨⟨i0,i1,i2⟩,_⟩:=qe.t3;clear ha b0 b1 e0 qe qg qa hq;go_enter func162,ntmps162;go_wp2
 go_region_held3 (fun w'=>w'.cell? (aD w.heap.size 0)=some (.bool na)/\w'.cell? (aD w.heap.size 1)=some (.s A1 n1 c1)/\w'.cell? (aD w.heap.size 2)=some (.s A1' n1' c1'))
  (first|with_reducible exact⟨i0,i1,i2⟩|exact fj _ _ _|fail)
  (first
   |(go_at_call 113
     refine(pI na A1 n1 c1 A1' n1' c1' a _ HA.o).mono ?_;rintro e w3 ⟨A3,n3,c3,rfl,h3,l3,x3⟩;have B3:=Hx (kQa (BB.o.1.K x3) (BB.o.2.K x3));have E3:=Hx (E0.o.tr x3);have R3:=Hx (kQa h3 (HA.o.2.1.K x3));obtain⟨⟨i0,i1,i2⟩,_⟩:=B3.o.1.t3;clear x3 h3)
   |(go_at_call 50
     refine(jzbt (!na) A1 A3 n1 c1 n3 c3 _ _ _ R3.o.2 R3.o.1 (by omega) (by omega) qf).mono ?_;rintro e w4 ⟨nq,B,m,d,B',m',d',rfl,h4,x4⟩;rw[HQ.o]at h4;have B4:=Hx (kQa (B3.o.1.K x4) (B3.o.2.K x4));have E4:=Hx (E3.o.tr x4);obtain⟨⟨i0,i1,i2⟩,_⟩:=B4.o.1.t3;obtain⟨⟨p0,p1,p2⟩,f0,f1,f2⟩:=B4.o.2.t3;obtain⟨r1,r2⟩:=gJ (w:=w) h4 B4.o.2 (by omega) E4.o;have q3:=((B4.o.2.sT 0 (.bool nq)).sT 1 (.s B m d)).sT 2 (.s B' m' d');have RF:=Hx (kQa q3 (kQa r1 r2));have hf:=fun u0 u1 u2=>((B4.o.1.far (p:=(aD (w.heap.size+1) 0)) (by simp) u0).far (p:=(aD (w.heap.size+1) 1)) (by simp) u1).far (p:=(aD (w.heap.size+1) 2)) (by simp) u2;have fj:=fun u0 u1 u2=>kQa ((hf u0 u1 u2).cell 0) (kQa ((hf u0 u1 u2).cell 1) ((hf u0 u1 u2).cell 2));clear x4 h4 q3 r1 r2)
   |fail)
 go_wp2;exact bodyPost_ret (v:=.agg #[.bool nq,.s B m d,.s B' m' d']) (by simp[results,results162,go_sem,RF.o.1.cell]) rfl ⟨_,_,_,_,_,_,_,rfl,RF.o.2.1,RF.o.2.2⟩
theorem jzp6(na:Bool)A1(n1 c1:Nat)A1'(n1' c1':Nat)(a:Rat)w(ha:RQR w na A1 n1 c1 A1' n1' c1' a):
  Calls prog 103 #[.agg #[.bool na,.s A1 n1 c1,.s A1' n1' c1']] w fun e w'=>e=.returned (vI (aC a))/\Ext w w':=by
 obtain⟨b0,e0⟩:=aV w #[.bool na,.s A1 n1 c1,.s A1' n1' c1'] 47;have hz:=ha.2.1.eq_zero;have hn:=ha.1;obtain⟨⟨i0,i1,i2⟩,g0,g1,g2⟩:=b0.t3;have E0:=Hx (e0);clear e0;by_cases h0:n1=0;{(have hs:aC a=0:=by unfold aC;rw[if_pos (by have:=hz.1 h0;omega)]);rw[hs];subst h0;clear hz hn hs ha;go_enter func103,ntmps103;go_wp2;go_ret;exact⟨rfl,E0.o⟩};have zb:((n1:Int)==0)=false:=yK.2 (by omega);have qa:a.num≠0:=fun h=>h0 (hz.2 (by omega));cases na;{have hs:aC a=1:=(by unfold aC;rw[if_neg qa,if_neg];intro h;rw[yO h]at hn;cases hn);rw[hs];clear hz hn hs ha qa;go_enter func103,ntmps103;go_wp2;go_ret;exact⟨rfl,E0.o⟩};have hs:aC a= -1:=(by unfold aC;rw[if_neg qa,if_pos];exact of_decide_eq_true hn.symm);rw[hs];clear hz hn hs ha qa;go_enter func103,ntmps103;go_wp2;go_ret;exact⟨rfl,E0.o⟩
theorem jzp7(na nb:Bool)A1(n1 c1:Nat)A1'(n1' c1':Nat)A2(n2 c2:Nat)A2'(n2' c2':Nat)(a b:Rat)w
  (ha:RQR w na A1 n1 c1 A1' n1' c1' a) (hb:RQR w nb A2 n2 c2 A2' n2' c2' b) (l1:n1<=200000) (l1':n1'<=200000) (l2:n2<=200000) (l2':n2'<=200000):
  Calls prog 104 #[.agg #[.bool na,.s A1 n1 c1,.s A1' n1' c1'],.agg #[.bool nb,.s A2 n2 c2,.s A2' n2' c2']] w (oB w (a-b)):=by
 obtain⟨b0,b1,b2,e0⟩:=gD w #[.bool na,.s A1 n1 c1,.s A1' n1' c1'] 47 #[.bool nb,.s A2 n2 c2,.s A2' n2' c2'] 47 #[.bool false,zN,zN] 47;have x1:Ext (((w.alloc (.cells #[.bool na,.s A1 n1 c1,.s A1' n1' c1'] 47)).alloc (.cells #[.bool nb,.s A2 n2 c2,.s A2' n2' c2'] 47)).alloc (.cells #[.bool false,zN,zN] 47)) (((w.alloc (.cells #[.bool na,.s A1 n1 c1,.s A1' n1' c1'] 47)).alloc (.cells #[.bool nb,.s A2 n2 c2,.s A2' n2' c2'] 47)).alloc (.cells #[.bool false,zN,zN] 47)).drew:=(eR _).drewN 1;have HA:=Hx (kQa ((ha.K e0).K x1) ((hb.K e0).K x1));have E0:=Hx (e0.tr x1);have BB:=Hx (kQa (b0.K x1) (kQa (b1.K x1) (b2.K x1)));obtain⟨⟨i0,i1,i2⟩,_⟩:=BB.o.1.t3;obtain⟨⟨j0,j1,j2⟩,_⟩:=BB.o.2.1.t3;clear ha hb b0 b1 b2 e0 x1;go_enter func104,ntmps104;go_wp2
 go_region_held3 (fun w'=>w'.cell? (aD w.heap.size 0)=some (.bool na)/\w'.cell? (aD w.heap.size 1)=some (.s A1 n1 c1)/\w'.cell? (aD w.heap.size 2)=some (.s A1' n1' c1')/\w'.cell? (aD (w.heap.size+1) 0)=some (.bool nb)/\w'.cell? (aD (w.heap.size+1) 1)=some (.s A2 n2 c2)/\w'.cell? (aD (w.heap.size+1) 2)=some (.s A2' n2' c2'))
  (first|with_reducible exact⟨i0,i1,i2,j0,j1,j2⟩|exact fj _ _ _|fail)
  (first
   |(go_at_call 162
     refine(jzp5 nb A2 n2 c2 A2' n2' c2' b _ HA.o.2 (by omega) (by omega)).mono ?_;rintro e w3 ⟨n3,B3,m3,d3,qe,qf,qg,rfl,h3,x3⟩;have L3:=HA.o.2.lensN h3;have G3:=Hx (kQa (BB.o.1.K x3) (kQa (BB.o.2.1.K x3) (BB.o.2.2.K x3)));have E3:=Hx (E0.o.tr x3);have R3:=Hx (kQa h3 (HA.o.1.K x3));obtain⟨⟨i0,i1,i2⟩,_⟩:=G3.o.1.t3;obtain⟨⟨j0,j1,j2⟩,_⟩:=G3.o.2.1.t3;clear x3 h3)
   |(go_at_call 60
     refine(jzp1 na n3 A1 n1 c1 A1' n1' c1' B3 m3 d3 qe qf qg a (-b) _ R3.o.2 R3.o.1 (by omega) (by omega) (by omega) (by omega)).mono ?_;rintro e w4 ⟨nq,B,m,d,B',m',d',rfl,h4,x4,qa⟩;have FR:=Hx (qa.le E3.o.size);clear qa;rw[<-Rat.sub_eq_add_neg]at h4;have G4:=Hx (kQa (G3.o.1.K x4) (kQa (G3.o.2.1.K x4) (G3.o.2.2.K x4)));have E4:=Hx (E3.o.tr x4);obtain⟨⟨i0,i1,i2⟩,_⟩:=G4.o.1.t3;obtain⟨⟨j0,j1,j2⟩,_⟩:=G4.o.2.1.t3;obtain⟨⟨p0,p1,p2⟩,f0,f1,f2⟩:=G4.o.2.2.t3;obtain⟨r1,r2⟩:=gJ (w:=w) h4 G4.o.2.2 (by omega) E4.o;have q3:=((G4.o.2.2.sT 0 (.bool nq)).sT 1 (.s B m d)).sT 2 (.s B' m' d');have RF:=Hx (kQa q3 (kQa r1 r2));have hf:=fun u0 u1 u2=>((G4.o.1.far (p:=(aD (w.heap.size+1+1) 0)) (by simp;omega) u0).far (p:=(aD (w.heap.size+1+1) 1)) (by simp;omega) u1).far (p:=(aD (w.heap.size+1+1) 2)) (by simp;omega) u2;have hg:=fun u0 u1 u2=>((G4.o.2.1.far (p:=(aD (w.heap.size+1+1) 0)) (by simp) u0).far (p:=(aD (w.heap.size+1+1) 1)) (by simp) u1).far (p:=(aD (w.heap.size+1+1) 2)) (by simp) u2;have fj:=fun u0 u1 u2=>kQa ((hf u0 u1 u2).cell 0) (kQa ((hf u0 u1 u2).cell 1) (kQa ((hf u0 u1 u2).cell 2) (kQa ((hg u0 u1 u2).cell 0) (kQa ((hg u0 u1 u2).cell 1) ((hg u0 u1 u2).cell 2)))));clear x4 h4 q3 r1 r2)
   |fail)
 go_wp2;exact bodyPost_ret (v:=.agg #[.bool nq,.s B m d,.s B' m' d']) (by simp[results,results104,go_sem,RF.o.1.cell]) rfl ⟨_,_,_,_,_,_,_,rfl,RF.o.2.1,RF.o.2.2,FR.o⟩
theorem jzp8(na nb:Bool)A1(n1 c1:Nat)A1'(n1' c1':Nat)A2(n2 c2:Nat)A2'(n2' c2':Nat)(a b:Rat)w
 (ha:RQR w na A1 n1 c1 A1' n1' c1' a) (hb:RQR w nb A2 n2 c2 A2' n2' c2' b) (l1:n1<=200000) (l1':n1'<=200000) (l2:n2<=200000) (l2':n2'<=200000):
 Calls prog 104 #[.agg #[.bool na,.s A1 n1 c1,.s A1' n1' c1'],.agg #[.bool nb,.s A2 n2 c2,.s A2' n2' c2']] w (lQ w (a-b)):=(jzp7 na nb A1 n1 c1 A1' n1' c1' A2 n2 c2 A2' n2' c2' a b w ha hb l1 l1' l2 l2').mono fun e w' h=>h.ok
theorem jzp9(na nb:Bool)A1(n1 c1:Nat)A1'(n1' c1':Nat)A2(n2 c2:Nat)A2'(n2' c2':Nat)(a b:Rat)w
  (ha:RQR w na A1 n1 c1 A1' n1' c1' a) (hb:RQR w nb A2 n2 c2 A2' n2' c2' b) (l1:n1<=200000) (l1':n1'<=200000) (l2:n2<=200000) (l2':n2'<=200000):
  Calls prog 48 #[.agg #[.bool na,.s A1 n1 c1,.s A1' n1' c1'],.agg #[.bool nb,.s A2 n2 c2,.s A2' n2' c2']] w fun e w'=>e=.returned (vI (aW a b))/\Ext w w':=by
 obtain⟨b0,b1,e0⟩:=dH w #[.bool na,.s A1 n1 c1,.s A1' n1' c1'] 47 #[.bool nb,.s A2 n2 c2,.s A2' n2' c2'] 47;have HA:=Hx (kQa (ha.K e0) (hb.K e0));obtain⟨⟨i0,i1,i2⟩,_⟩:=b0.t3;obtain⟨⟨j0,j1,j2⟩,_⟩:=b1.t3;have E0:=Hx (e0);clear ha hb b0 b1 e0;rw[<-jzp3];go_enter func48,ntmps48;(go_wp2_with fail);refine(jzp8 na nb A1 n1 c1 A1' n1' c1' A2 n2 c2 A2' n2' c2' a b _ HA.o.1 HA.o.2 l1 l1' l2 l2').mono ?_;rintro e w3 ⟨n3,B3,m3,d3,qa,qe,qf,rfl,h3,x3⟩;have E3:=Hx (E0.o.tr x3);have R3:=Hx h3;clear x3 h3;(go_wp2_with fail);refine(jzp6 n3 B3 m3 d3 qa qe qf (a-b) _ R3.o).mono ?_;rintro e w4 ⟨rfl,x4⟩;have E4:=Hx (E3.o.tr x4);clear x4;go_wp2;go_ret;exact⟨rfl,E4.o⟩
theorem aL.gK{w w'}{A}{n c N:Nat}{t':TypeId}{row:Option Nat}(h:aL w A n c N)(hg:w.grownBy w' row)(hr:∀k,row=some k->∃cs fr,w.heap[k]?=some (.cells cs t' fr))(hne:3≠t'):aL w' A n c N:=by
 obtain⟨ds,h1,h2,h3,h4,h5⟩:=h;exact⟨ds,h1,h2,h3,h4,h5.gK hg hr hne⟩
def SmQ(q:Rat):Prop:=q.num.natAbs<1000000000/\q.den<1000000000
theorem RQR.lens{w}{neg:Bool}{A}{n c:Nat}{A'}{n' c':Nat}{q:Rat}(h:RQR w neg A n c A' n' c' q)(hs:SmQ q):n<=2/\n'<=2:=by
 have h6:G6^2=1000000000000:=(by decide);refine⟨h.2.1.lenOf (by have:=hs.1;omega),h.2.2.lenOf ?_⟩;unfold dk;split;{decide};have:=hs.2;omega
theorem aF.gK{w w'}{A}{n c N:Nat}{t':TypeId}{row:Option Nat}(h:aF w A n c N)(hg:w.grownBy w' row)(hr:∀k,row=some k->∃cs fr,w.heap[k]?=some (.cells cs t' fr))(hne:188≠t'):aF w' A n c N:=by
 obtain⟨ds,h1,h2,h3,h4,h5⟩:=h;exact⟨ds,h1,h2,h3,h4,h5.gK hg hr hne⟩
theorem QR.gK{w w'}{cs:List Value}{q:Rat}{t':TypeId}{row:Option Nat}(h:QR w cs q)(hg:w.grownBy w' row)(hr:∀k,row=some k->∃cs fr,w.heap[k]?=some (.cells cs t' fr))(hne:188≠t'):QR w' cs q:=by
 obtain⟨neg,A,n,c,A',n',c',e,h1⟩:=h;exact⟨neg,A,n,c,A',n',c',e,h1.1,h1.2.1.gK hg hr hne,h1.2.2.gK hg hr hne⟩
theorem SmQ.sz{q:Rat}(h:SmQ q):SzQ q 1:=by
 have:B32^1=4294967296:=(by decide);unfold SzQ;rw[this];have:=h.1;have:=h.2;omega
theorem SmQ.mul{a b:Rat}(ha:SmQ a)(hb:SmQ b):SzQ (a*b) 2:=by
 have hd:a.den*b.den≠0:=kQx a.den_nz b.den_nz;unfold SzQ;rw[rE,nE _ hd,nF _ hd,pL];have h1:=kZi (a.num.natAbs*b.num.natAbs) ((a.num.natAbs*b.num.natAbs).gcd (a.den*b.den));have h2:=kZi (a.den*b.den) ((a.num.natAbs*b.num.natAbs).gcd (a.den*b.den));have h3:a.num.natAbs*b.num.natAbs<=1000000000*1000000000:=kQq (kQe ha.1) (kQe hb.1);have h4:a.den*b.den<=1000000000*1000000000:=kQq (kQe ha.2) (kQe hb.2);omega
theorem jzf7(k:Nat):B32^k<=G6^(2*k):=by
 rw[Nat.pow_mul];exact Nat.pow_le_pow_left (by decide) k
theorem RQR.lensB{w}{neg:Bool}{A}{n c:Nat}{A'}{n' c':Nat}{q:Rat}{k:Nat}(h:RQR w neg A n c A' n' c' q)(hs:SzQ q k):n<=2*k/\n'<=2*k:=by
 refine⟨h.2.1.lenOf (yL hs.1 (jzf7 k)),h.2.2.lenOf ?_⟩;unfold dk;split;{exact kQy eW};exact yL hs.2 (jzf7 k)
end Go.Proofs.YtojpooidhilnfaaGreatDoor
namespace Go.Proofs.YtojpooidhilnfaaGreatDoor
open Go.Proofs.Tryz
open Go.RowKit Go.Sort
theorem jzqa(l r:List UInt8)(c:Bool)(hlr:l.length+r.length<=10000)(h:∀b∈l,(b==47)=false)w:
  Calls prog 163 #[.string ⟨(l++(if c then 47::r else [])).toArray⟩] w fun e w'=>e=.returned (.tuple #[.string ⟨l.toArray⟩,.string ⟨(if c then r else []).toArray⟩,.bool c])/\Ext w w':=by
 obtain⟨S,hS⟩:∃S:ByteArray,S=⟨(l++(if c then 47::r else [])).toArray⟩:=⟨_,rfl⟩;rw[<-hS];have qa:S.size=l.length+(if c then r.length+1 else 0):=(by rw[hS];show(l++(if c then 47::r else [])).length=_;cases c <;> simp)
 have HG:=Hx (show∀(i:Nat),i<l.length->∃hi:i<S.size,((S[i].toNat:Int)==47)=false from fun i hi=>by
  have h1:i<S.size:=(by omega);refine⟨h1,yK.2 fun e=>?_⟩;have e2:=oD h1 (x:=l[i]) (by rw[hS];show(l++_)[i]?=_;rw[yR hi,yG hi]);rw[e2]at e;have h3:=h _ (xR hi)
  have e3:l[i]=47:=UInt8.toNat_inj.1 (by have:(47:UInt8).toNat=47:=rfl
                                         omega)
  rw[e3]at h3;cases h3)
 have HE:Hid (c=true->∃hi:l.length<S.size,S[l.length].toNat=47/\S.extract 0 l.length=⟨l.toArray⟩/\S.extract (l.length+1) S.size=⟨r.toArray⟩):=Hx (fun hc=>by subst hc;have h1:l.length<S.size:=(by rw[qa,if_pos rfl];omega);have hS:S=⟨(l++47::r).toArray⟩:=hS;refine⟨h1,?_,by rw[hS];exact jzj1 _ _,by rw[hS];exact jzb0 _ _ _⟩;rw[oD h1 (x:=47) (by rw[hS];show(l++47::r)[l.length]?=_;simp)];rfl);have HN:Hid (c=false->S=⟨l.toArray⟩):=Hx (fun hc=>by subst hc;rw[hS];simp);clear hS h;obtain⟨n,hn⟩:∃n,n=l.length:=⟨_,rfl⟩;obtain⟨k,hk⟩:∃k,S.size=k:=⟨_,rfl⟩;rw[<-hn]at qa hlr;have qh:n<=k:=(by omega);have qg:k<=10001:=(by rw[<-hk,qa];split <;> omega);have HC:Hid ((c=true->n<k)/\(c=false->n=k)):=Hx (⟨fun h=>by rw[<-hk,qa,if_pos h];omega,fun h=>by rw[<-hk,qa,h];rfl⟩);have HL:=Hx hn;clear qa hn hlr;go_enter func163,ntmps163;go_wp2;go_loopg [5] (n+1) (fun m it wr=>∃i:Nat,n+1-i=m/\i<=n/\it=vI i/\w=wr);(case atStart=>exact⟨0,rfl,yZ _,rfl,rfl⟩);obtain⟨i,rfl,hi,rfl,rfl⟩:=hrel;by_cases qe:i<n;{obtain⟨g0,g1⟩:=HG.o i (by rw[<-HL.o];exact qe);obtain⟨x,hx⟩:∃x,S[i].toNat=x:=⟨_,rfl⟩;rw[hx]at g1;go_wp2;go_roundg (n+1-(i+1));(case measure=>omega);exact⟨i+1,rfl,by omega,by go_num,rfl⟩};(obtain rfl:i=n:=(by omega);cases c with|true=>(have qf:=HC.o.1 rfl;obtain⟨g0,g1,g2,g3⟩:=HE.o rfl;rw[<-HL.o,hk]at g3;rw[<-HL.o]at g2;have g4:S[i].toNat=47:=(by rw[<-g1];congr 2);have G:=Hx (kQa g2 g3);clear g1 g2 g3;have HSW:Hid (True):=Hx (trivial);have w1:IntKind.i64.wrap ((i:Int)+1)=(i:Int)+1:=(by rw[IntKind.wrap_i64];omega);have w2:0<=(i:Int)+1/\(i:Int)+1<=(k:Int):=(by omega);have w3:((i:Int)+1).toNat=i+1:=by omega);(go_upto_region 5 with fail);(refine wp_region_last (fun _=>True) 9 (by kernel_rfl) ?_;refine wP 0 rfl HSW.o ?_;try simp only[Act.put,yA,yB,yC,yD,yE,yF]);refine wP 1 rfl HSW.o ?_;refine wP 2 rfl HSW.o ?_;refine wP 3 rfl HSW.o ?_;refine wP 4 rfl HSW.o ?_;refine wP 5 rfl HSW.o ?_;refine wP 6 rfl HSW.o ?_;refine wP 7 rfl HSW.o ?_;(refine wP 8 rfl HSW.o ?_;try simp only[Act.put,yA,yB,yC,yD,yE,yF]);refine bY (by kernel_rfl) rfl (by rfl) (fun KK hK=>?_);go_simp;refine hK.o _ _ ?_;clear hK KK HSW;refine wpAny_done (by kernel_rfl) ?_ _;go_wp2;exact bodyPost_ret (v:=.tuple #[.string ⟨l.toArray⟩,.string ⟨r.toArray⟩,.bool true]) (by simp[results,results163,go_sem,G.o.1,G.o.2]) rfl ⟨rfl,(eR w).drewN 1⟩|false=>have qf:=HC.o.2 rfl;have G:=Hx (HN.o rfl);go_wp2;exact bodyPost_ret (v:=.tuple #[.string ⟨l.toArray⟩,.string ⟨#[]⟩,.bool false]) (by simp[results,results163,go_sem, <-G.o]) rfl ⟨rfl,eR w⟩)
theorem jz2(q:Rat):gK q=Lib.decDigits q.num.natAbs++(if decide (q.den≠1)then 47::Lib.decDigits q.den else []):=by
 unfold gK;by_cases h:q.den=1;{rw[if_pos h,if_neg (by simp[h])]};rw[if_neg h,if_pos (by simp[h])];rfl
theorem jz3{w}{A}{n c N:Nat}(h:aL w A n c N)(k m:Nat)(hk:m<=6*k)(hN:Lib.nDigits N<=m):n<=k:=
 h.lenOf (yL (jzbx N) (by rw[jzx];exact kQk (by decide) (yY hN hk)))
theorem jzqb(q:Rat)w(hn:Lib.nDigits q.num.natAbs<=1000)(hd:Lib.nDigits q.den<=1000):
  Calls prog 105 #[.string ⟨(eA q).toArray⟩] w fun e w'=>∃(nb:Bool) (A:OA) (n c:Nat) (A':OA) (n' c':Nat),e=.returned (.tuple #[.agg #[.bool nb,.s A n c,.s A' n' c'],vI 0])/\RQR w' nb A n c A' n' c' q/\Ext w w':=by
 obtain⟨b0,e0⟩:=aV w #[.bool false,zN,zN] 47;have B0:=Hx (kQa b0 e0);clear b0 e0;obtain⟨S,hS⟩:∃S:ByteArray,S=⟨(eA q).toArray⟩:=⟨_,rfl⟩;obtain⟨neg,qe⟩:∃neg,neg=decide (q.num<0):=⟨_,rfl⟩;have l1:=Lib.decDigits_length q.num.natAbs;have l2:=Lib.decDigits_length q.den;have qC:=Lib.nDigits_pos q.num.natAbs;obtain⟨x,xs,hx,qg⟩:=jzj0 q.num.natAbs;have qp:∃ys,gK q=x::ys:=(by rw[jz2,hx];exact⟨_,rfl⟩);obtain⟨ys,qj⟩:=qp;have qf:eA q=(if neg then [45]else [])++gK q:=(by rw[jzjz,qe];by_cases h:q.num<0 <;> simp[h]);have qk:(gK q).length<=2001:=(by rw[jz2,yQ];split;{rw[kQo];omega};rw[List.length_nil];omega);have qm:S.size=(if neg then 1 else 0)+(gK q).length:=(by rw[hS];show(eA q).length=_;rw[qf];cases neg <;> simp;omega);have qw:0<(gK q).length:=(by rw[qj];simp);have s0:0<S.size:=(by rw[qm];omega)
 have g0:((S[0].toNat:Int)==45)=neg:=by
  cases hc:neg with
  |true=>
   have e:S[0]=45:=oD s0 (by rw[hS];show(eA q)[0]?=_;rw[qf,hc];rfl);rw[e];rfl
  |false=>
   have e:S[0]=x:=oD s0 (by rw[hS];show(eA q)[0]?=_;rw[qf,hc,qj];rfl);rw[e];refine yK.2 fun e2=>?_
   have e3:x=45:=UInt8.toNat_inj.1 (by have:(45:UInt8).toNat=45:=rfl
                                       omega)
   rw[e3]at qg;cases qg
 obtain⟨c,hc⟩:∃c,c=decide (q.den≠1):=⟨_,rfl⟩;obtain⟨BS,qt⟩:∃BS:ByteArray,BS=⟨(Lib.decDigits q.num.natAbs++(if c then 47::Lib.decDigits q.den else [])).toArray⟩:=⟨_,rfl⟩;have qi:BS=⟨(gK q).toArray⟩:=(by rw[qt,jz2,hc]);have HS:Hid ((neg=true->S.extract 1 S.size=BS)/\(neg=false->S=BS)):=Hx (⟨fun hc=>by have e:=jzb0 [] (gK q) 45;rw[hS,qf,hc,qi];exact e,fun hc=>by rw[hS,qf,hc,qi];rfl⟩);have qn:=Hx (show mkQ neg q.num.natAbs q.den=q by rw[qe];exact jzah q);have qA:Hid ((c=true->q.den≠1)/\(c=false->q.den=1)):=Hx (⟨fun h=>by rw[hc]at h;exact of_decide_eq_true h,fun h=>by rw[hc]at h;exact Classical.byContradiction fun h2=>of_decide_eq_false h h2⟩);have qo:=q.den_pos;have HL:=Hx (kQa hn hd);have qa:=Hx (fun W=>jzqa (Lib.decDigits q.num.natAbs) (Lib.decDigits q.den) c (by omega) (jzby q.num.natAbs 47 (by decide)) W);rw[<-qt]at qa;rw[<-hS];have qh:S.size<=3000:=(by rw[qm];split <;> omega);obtain⟨k,hk⟩:∃k,k=S.size:=⟨_,rfl⟩;rw[<-hk]at qh s0 HS;have qz:S.size=k:=hk.symm;clear hS qe hx qj qf qm qk qw hc qt qi hk hn hd l1 l2;go_enter func105,ntmps105;(go_upto_if 20 with fail);go_cut [0] (fun s wx=>s=.string BS/\w.alloc (.cells #[.bool false,zN,zN] 47)=wx);(case first=>(cases neg with|true=>have e:=HS.o.1 rfl;go_wp2;go_meet;exact⟨rfl,rfl⟩|false=>have e:=HS.o.2 rfl;go_wp2;go_meet;exact⟨rfl,rfl⟩));obtain⟨rfl,rfl⟩:=hcut;clear g0 qz s0 qh;(go_wp2_with fail);(refine(qa.o _).mono ?_;rintro e w2 ⟨rfl,x2⟩;have B2:=Hx (kQa (B0.o.1.K x2) (B0.o.2.tr x2));clear x2 B0 qa;cases c with|false=>(go_wp2_with fail);refine(jzy q.num.natAbs _ HL.o.1).mono ?_;rintro e w3 ⟨A3,n3,c3,rfl,h3,x3,_⟩;have qx:=jz3 h3 167 1000 (by decide) HL.o.1;have H3:=Hx (kQa h3 (kQa (B2.o.1.K x3) (B2.o.2.tr x3)));clear x3 h3 B2;(go_wp2_with fail);refine(lN 1 _ (by decide)).mono ?_;rintro e w4 ⟨A4,n4,c4,rfl,h4,x4,_⟩;have qy:=h4.lenOf (k:=1) (by decide);have H4:=Hx (kQa (H3.o.1.K x4) (kQa h4 (kQa (H3.o.2.1.K x4) (H3.o.2.2.tr x4))));clear x4 h4 H3;have ed:=qA.o.2 (by trivial);rw[ed]at qn;(go_wp2_with fail);refine(jzbs neg A3 A4 n3 c3 n4 c4 _ _ _ H4.o.1 H4.o.2.1 (by omega) (by omega) (by decide)).mono ?_;rintro e w5 ⟨nb,A,n,c,A',n',c',rfl,hq,x5⟩;rw[qn.o]at hq;have B5:=Hx (H4.o.2.2.1.K x5);obtain⟨⟨i0,i1,i2⟩,f0,f1,f2⟩:=B5.o.t3;obtain⟨r1,r2⟩:=gJ (w:=w) hq B5.o (yX _) (H4.o.2.2.2.tr x5);have q3:=((B5.o.sT 0 (.bool nb)).sT 1 (.s A n c)).sT 2 (.s A' n' c');have RF:=Hx (kQa q3 (kQa r1 r2));clear q3 r1 r2 hq x5;go_wp2;exact bodyPost_ret (v:=.tuple #[.agg #[.bool nb,.s A n c,.s A' n' c'],vI 0]) (by simp[results,results105,go_sem,RF.o.1.cell]) rfl ⟨_,_,_,_,_,_,_,rfl,RF.o.2.1,RF.o.2.2⟩|true=>(go_wp2_with fail);refine(jzy q.num.natAbs _ HL.o.1).mono ?_;rintro e w3 ⟨A3,n3,c3,rfl,h3,x3,_⟩;have qx:=jz3 h3 167 1000 (by decide) HL.o.1;have H3:=Hx (kQa h3 (kQa (B2.o.1.K x3) (B2.o.2.tr x3)));clear x3 h3 B2;(go_wp2_with fail);refine(lN 1 _ (by decide)).mono ?_;rintro e w4 ⟨A4,n4,c4,rfl,h4,x4,_⟩;have qy:=h4.lenOf (k:=1) (by decide);have H4:=Hx (kQa (H3.o.1.K x4) (kQa h4 (kQa (H3.o.2.1.K x4) (H3.o.2.2.tr x4))));clear x4 h4 H3;(go_wp2_with fail);refine(jzy q.den _ HL.o.2).mono ?_;rintro e w6 ⟨A6,n6,c6,rfl,h6,x6,_⟩;have qB:=jz3 h6 167 1000 (by decide) HL.o.2;have H6:=Hx (kQa (H4.o.1.K x6) (kQa h6 (kQa (H4.o.2.2.1.K x6) (H4.o.2.2.2.tr x6))));clear x6 h6 H4;(go_wp2_with fail);refine(jzbs neg A3 A6 n3 c3 n6 c6 _ _ _ H6.o.1 H6.o.2.1 (by omega) (by omega) qo).mono ?_;rintro e w5 ⟨nb,A,n,c,A',n',c',rfl,hq,x5⟩;rw[qn.o]at hq;have B5:=Hx (H6.o.2.2.1.K x5);obtain⟨⟨i0,i1,i2⟩,f0,f1,f2⟩:=B5.o.t3;obtain⟨r1,r2⟩:=gJ (w:=w) hq B5.o (yX _) (H6.o.2.2.2.tr x5);have q3:=((B5.o.sT 0 (.bool nb)).sT 1 (.s A n c)).sT 2 (.s A' n' c');have RF:=Hx (kQa q3 (kQa r1 r2));clear q3 r1 r2 hq x5;go_wp2;exact bodyPost_ret (v:=.tuple #[.agg #[.bool nb,.s A n c,.s A' n' c'],vI 0]) (by simp[results,results105,go_sem,RF.o.1.cell]) rfl ⟨_,_,_,_,_,_,_,rfl,RF.o.2.1,RF.o.2.2⟩)
theorem jzqc(q:Rat)w(hn:Lib.nDigits q.num.natAbs<=1000)(hd:Lib.nDigits q.den<=1000):
  Calls prog 49 #[.string ⟨(eA q).toArray⟩] w (lQ w q):=by
 obtain⟨b0,e0⟩:=aV w #[.bool false,zN,zN] 47;have B0:=Hx (kQa b0 e0);clear b0 e0;go_enter func49,ntmps49;(go_wp2_with fail);refine(jzqb q _ hn hd).mono ?_;rintro e w1 ⟨nb,A,n,c,A',n',c',rfl,hq,x1⟩;have X2:=Hx ((eR w1).alloc (.cells #[.bool nb,.s A n c,.s A' n' c'] 47));have qa:=(B0.o.1.K x1).K X2.o;obtain⟨⟨k0,k1,k2⟩,f0,f1,f2⟩:=qa.t3;obtain⟨r1,r2⟩:=gJ (w:=w) (hq.K X2.o) qa (yX _) ((B0.o.2.tr x1).tr X2.o);have RF:=Hx (kQa r1 r2);have BN:=eN w1 47 #[.bool nb,.s A n c,.s A' n' c'];obtain⟨⟨qe,qg,qf⟩,qj,qi,qh⟩:=BN.t3;clear x1 r1 r2 hq B0;go_wp2;exact bodyPost_ret (v:=.agg #[.bool nb,.s A n c,.s A' n' c']) (by simp[results,results49,go_sem,(((qa.sT 0 _).sT 1 _).sT 2 _).cell]) rfl ⟨_,_,_,_,_,_,_,rfl,RF.o.1,RF.o.2⟩
theorem jzf8:∀(k M:Nat),1<=k->M<10^k->Lib.nDigits M<=k
 |1,M,_,h=>by rw[Lib.nDigits_small (by simpa using h)];exact yX _
 |k+2,M,_,h=>by
  by_cases h1:M<10
  ·rw[Lib.nDigits_small h1];omega
  ·rw[Lib.nDigits_big h1]
   have:=jzf8 (k+1) (M/10) (by omega) (by rw[kZp (by decide), <-vD];exact h);omega
theorem jzf9{M k:Nat}(h:M<B32^k)(h1:1<=k):Lib.nDigits M<=10*k:=
 jzf8 _ _ (by omega) (yL h (by rw[Nat.pow_mul];exact Nat.pow_le_pow_left (by decide) k))
theorem jzqd(neg:Bool)A(n c:Nat)A'(n' c':Nat)(q:Rat)(k:Nat)w(h:aE w neg A n c A' n' c' q)(hs:SzQ q k)(h1:1<=k)(hk:k<=100)(ht:Tab w):
  Calls prog 13 #[.agg #[.bool neg,.s A n c,.s A' n' c']] w (lQ w q):=by
 obtain⟨h2,h3⟩:=h.lens hs;have d1:=jzf9 hs.1 h1;have d2:=jzf9 hs.2 h1;obtain⟨b0,b1,e1⟩:=dH w #[.bool neg,.s A n c,.s A' n' c'] 35 #[.bool false,zN,zN] 47;obtain⟨⟨i0,i1,i2⟩,_⟩:=b0.t3;have B1:=Hx (kQa b1 e1);have H:=Hx (kQa (h.K e1) (ht.K e1));clear b0 b1 e1 h hs ht;go_enter func13,ntmps13;(go_wp2_with fail);refine(jzbc neg A n c A' n' c' q _ H.o.1 (by omega) (by omega) H.o.2).mono ?_;rintro e w1 ⟨rfl,x1⟩;have X1:=Hx x1;clear x1 i0 i1 i2;(go_wp2_with fail);refine(jzqc q _ (by omega) (by omega)).mono ?_;rintro e w2 ⟨nb,B,m,d,B',m',d',rfl,hq,x2⟩;have qa:=(B1.o.1.K X1.o).K x2;obtain⟨⟨k0,k1,k2⟩,f0,f1,f2⟩:=qa.t3;obtain⟨r1,r2⟩:=gJ (w:=w) hq qa (by omega) ((B1.o.2.tr X1.o).tr x2);have RF:=Hx (kQa r1 r2);clear hq x2 r1 r2;go_wp2;exact bodyPost_ret (v:=.agg #[.bool nb,.s B m d,.s B' m' d']) (by simp[results,results13,go_sem,(((qa.sT 0 _).sT 1 _).sT 2 _).cell]) rfl ⟨_,_,_,_,_,_,_,rfl,RF.o.1,RF.o.2⟩
end Go.Proofs.YtojpooidhilnfaaGreatDoor
namespace Go.Proofs.YtojpooidhilnfaaGreatDoor
open Go.Proofs.Tryz
open Go.RowKit
open Sx
theorem mD.val{w}{t}{l:List Dm}{e:Ending}{w'}(hf:Fit t l)(hD:l.length<=4)(h:mD w t l e w'):
  ∃(v:Rat) (ok neg:Bool) (A1:OA) (n1 c1:Nat) (A2:OA) (n2 c2:Nat) (P1:OA) (m1 k1:Nat) (P2:OA) (m2 k2:Nat) (ec:Int),e=.returned (.tuple #[.agg #[.bool neg,.s A1 n1 c1,.s A2 n2 c2,.s P1 m1 k1,.s P2 m2 k2],vI ec])/\(ec==0)=ok/\ValR t l v ok/\SzQ v 20/\aE w' neg A1 n1 c1 A2 n2 c2 v/\Ext w w':=by
 (rcases h with⟨h1,_⟩|⟨_,⟨d,hd,h1⟩,h2,h3⟩|⟨_,v,Z,pr,neg,A1,n1,c1,A2,n2,c2,AP,cp,gp,h1,h2,_,_,_,h3,h4,_,_,_,h5⟩);{rw[(lZ (show l.length<=64 by omega)).2 hf]at h1;cases h1};{exact⟨0,false,false,none,0,0,none,0,0,_,_,_,_,_,_,11,h2,rfl,.inr ⟨rfl,rfl,fun hc=>by obtain⟨y,hy⟩:=jzv.1 hc d hd;exact h1 y hy⟩,SzQ.zero.mono (by decide),fA _,h3⟩};exact⟨v,true,neg,A1,n1,c1,A2,n2,c2,_,_,_,_,_,_,0,h3,rfl,.inl ⟨rfl,Z,pr,h1⟩,h2,h4,h5⟩
theorem jzga{t}{l:List Dm}(hf:Fit t l):∀(Z:List ((Nat×LN)×Rat)) (ks:List (List UInt8)) (sm:LQ),sm.length=l.length->(∀z∈Z,z.1.1<l.length/\0<z.2/\Lpl t (bE l z.1.1) (bC l z.1.1) z.1.2/\eP z.1∉ks)->(Z.map (·.1)).Nodup->
  ∃qa,rtB t l ks sm (Z.map pzI)=some qa/\∀d,d<l.length->at_ qa d=at_ sm d+ls (fun z=>if z.1.1=d then z.2 else 0) Z
 | [],ks,sm,_,_,_=>⟨sm,rfl,fun d _=>by show _=_+(0:Rat);grind⟩
 |z::Z,ks,sm,hs,h,hn=>by
  obtain⟨h1,h2,h3,h4⟩:=h z (by simp);rw[kZa,kZo]at hn;obtain⟨n1,n2⟩:=hn;obtain⟨qa,e1,e2⟩:=jzga hf Z (eP z.1::ks) (sm.set z.1.1 (at_ sm z.1.1+z.2)) (by rw[yV];exact hs) (fun y hy=>by
   obtain⟨k1,k2,k3,k4⟩:=h y (xO _ hy);refine⟨k1,k2,k3,fun hm=>?_⟩;rcases xZ.1 hm with e|e
   ·exact n1 (kQl.2 ⟨y,hy,jzej e⟩)
   exact k4 e) n2
  refine⟨qa,?_,fun d hd=>?_⟩
  ·have hc:rtC t l ks (pzI z):=by
    refine⟨⟨⟨Int.natCast_nonneg _,Int.ofNat_lt.2 h1⟩,h4,h2⟩,?_⟩;obtain⟨f1,f2⟩:=jzt hf h1;have qe:kL l (pzI z).dem.toNat=(bE l z.1.1:Int):=f1;have qf:kM l (pzI z).dem.toNat=(bC l z.1.1:Int):=f2;rw[qe,qf];exact(jzou hf.v _ (hf.nodes h1).1).2 ⟨z.1.2,rfl,h3⟩
   show(if rtC t l ks (pzI z)then _ else none)=_;rw[if_pos hc];exact e1
  rw[e2 d hd];show _=at_ sm d+((if z.1.1=d then z.2 else 0)+ls _ Z);rw[oV _ _ _ _ (by omega)];by_cases e:z.1.1=d
  ·rw[if_pos e,if_pos e,e];grind
  rw[if_neg e,if_neg e];grind
theorem jzgb{L2:Nat}{f:Rat}:∀(x:LN) (ld:LQ),ld.length=L2->x.Nodup->(∀a∈x,a<L2)->∃qa,ldA L2 f ld (x.map fun a:Nat=>(a:Int))=some qa/\qa.length=L2/\∀a,a<L2->at_ qa a=at_ ld a+if a∈x then f else 0
 | [],ld,hl,_,_=>⟨ld,rfl,hl,fun a _=>by simp;grind⟩
 |b::x,ld,hl,hn,hx=>by
  rw[kZo]at hn;have hb:=hx b (by simp);obtain⟨qa,e1,e2,e3⟩:=jzgb x (ld.set b (at_ ld b+f)) (by rw[yV];exact hl) hn.2 (fun a ha=>hx a (xO _ ha));refine⟨qa,?_,e2,fun a ha=>?_⟩
  ·show(if 0<=(b:Int)/\(b:Int)<(L2:Int)then _ else none)=_
   rw[if_pos ⟨Int.natCast_nonneg _,by exact_mod_cast hb⟩];exact e1
  ·rw[e3 a ha,oV _ _ _ _ (by omega)]
   by_cases e:b=a
   ·subst e
    rw[if_pos rfl,if_neg hn.1,if_pos (by simp)];grind
   ·rw[if_neg e]
    by_cases e4:a∈x
    ·rw[if_pos e4,if_pos (xO _ e4)]
    ·rw[if_neg e4,if_neg (fun hm=>(xZ.1 hm).elim (fun e5=>e e5.symm) e4)]
theorem jzgc{L2:Nat}:∀(Z:List ((Nat×LN)×Rat)) (ld:LQ),ld.length=L2->(∀z∈Z,z.1.2.Nodup/\∀a∈z.1.2,a<L2)->∃ld',ldP L2 ld (Z.map pzI)=some ld'/\ld'.length=L2/\∀a,a<L2->at_ ld' a=at_ ld a+ls (fun z=>if a∈z.1.2 then z.2 else 0) Z
 | [],ld,hl,_=>⟨ld,rfl,hl,fun a _=>by show _=_+(0:Rat);grind⟩
 |z::Z,ld,hl,h=>by
  obtain⟨h1,h2⟩:=h z (by simp);obtain⟨l1,e1,e2,e3⟩:=jzgb (f:=z.2) z.1.2 ld hl h1 h2;obtain⟨l2,k1,k2,k3⟩:=jzgc Z l1 e2 fun y hy=>h y (xO _ hy);refine⟨l2,?_,k2,fun a ha=>?_⟩
  ·show(match ldA L2 z.2 ld (z.1.2.map fun a:Nat=>(a:Int))with|none=>none|some ld'=>ldP L2 ld' (Z.map pzI))=_
   rw[e1];exact k1
  ·rw[k3 a ha,e3 a ha]
   show _=at_ ld a+((if a∈z.1.2 then z.2 else 0)+ls _ Z);grind
section
variable {t:Tp} {l:List Dm} {v:Rat} {Z:List ((Nat×List Nat)×Rat)} {pr:List Rat}
theorem jzgd(hv:aI t=true)(h:∀z∈Z,∃s d,Lpl t s d z.1.2):∃ld,bM t (Z.map pzI)=(ld,0)/\ld.length=2*t.links.length/\∀a,a<2*t.links.length->at_ ld a=ls (fun z=>if a∈z.1.2 then z.2 else 0) Z:=by
 obtain⟨ld,h1,h2,h3⟩:=jzgc (L2:=2*t.links.length) Z (List.replicate (2*t.links.length) 0) (xC) fun z hz=>(by obtain⟨s,d,hl⟩:=h z hz;exact⟨hl.nodup,gT _ hl.1⟩);refine⟨ld,?_,h2,fun a ha=>by rw[h3 a ha,rY];grind⟩;unfold bM;rw[if_pos hv,h1]
theorem jzqe(hD:l.length<=64)(hf:Fit t l)(h:Adm (2*t.links.length) l.length (amQ l) (aR t) v Z)(hl:∀z∈Z,Lpl t (bE l z.1.1) (bC l z.1.1) z.1.2):cS t l v (Z.map pzI)=true:=by
 obtain⟨qa,e1,e2⟩:=jzga hf Z [] (List.replicate l.length 0) xC (fun z hz=>⟨h.dem z hz,h.pos z hz,hl z hz,fun hm=>by cases hm⟩) h.dif;obtain⟨ld,k1,k2,k3⟩:=jzgd hf.v (Z:=Z) fun z hz=>⟨_,_,hl z hz⟩;unfold cS;rw[(lZ hD).2 hf,kZg,e1,k1];show(gB l v qa l.length&&fR t ld ld.length)=true;rw[vM];constructor;{unfold gB;rw[xW];intro d hd;have hd:=vX.1 hd;rw[decide_eq_true_eq,e2 d hd,rY,h.sum d hd];grind};unfold fR;rw[xW];intro a ha;have ha:=vX.1 ha;rw[k2]at ha;rw[decide_eq_true_eq,k3 a ha];exact h.cap a ha
theorem jzge(hf:Fit t l){d:Nat}(hd:d<l.length):chZ t l pr d=chP t [] pr (bE l d:Int) (bC l d:Int):=by
 obtain⟨h1,h2⟩:=jzt hf hd;unfold chZ;rw[h1,h2]
theorem bP.chk(hD:l.length<=64)(hf:Fit t l)(h:bP t l v Z pr)(v':Rat)(Z':List bA):fV t l v' Z' pr=(cS t l v' Z'&&decide (v=v')):=by
 have h1:decide (pr.length=2*t.links.length)=true:=yO h.plen;have h2:fS pr pr.length=true:=(by unfold fS;rw[xW];intro a _;exact yO (lY h.pnn a));have h3:fU t l pr l.length=true:=(by (unfold fU;rw[xW];intro d hd;have hd:=vX.1 hd;obtain⟨n1,n2,_⟩:=hf.nodes hd;rw[decide_eq_true_eq,jzge hf hd];rcases iR hf.v (iT h.plen h.pnn) n1 n2 with⟨x,e,_⟩|⟨_,e⟩);{rw[e]};obtain⟨y,hy⟩:=h.conn d hd;exact absurd hy (e y));have h4:eH t pr pr.length=v:=(by have:=h.worth;unfold eH;rw[h.plen];exact this);have h5:decide (1<=dX t l pr l.length)=true:=(by rw[decide_eq_true_eq];have:=h.need;unfold dX;have e:(sm l.length fun d=>amQ l d*prQ pr (chZ t l pr d).1)=sm l.length fun d=>amQ l d*chQ t pr (bE l d) (bC l d):=sm_congr _ fun d hd=>(by rw[jzge hf hd];rfl);rw[e];exact this);unfold fV;rw[h1,h2,h3,h4,h5];simp
theorem bP.admits(hD:l.length<=64)(hf:Fit t l)(h:bP t l v Z pr):cS t l v (Z.map pzI)=true:=jzqe hD hf h.adm h.loop
theorem bP.checks(hD:l.length<=64)(hf:Fit t l)(h:bP t l v Z pr):fV t l v (Z.map pzI) pr=true:=by
 rw[h.chk hD hf,h.admits hD hf];simp
end
end Go.Proofs.YtojpooidhilnfaaGreatDoor
