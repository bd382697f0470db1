/- Part 9 of 25 of what the Flows claims share (the white space is struck, the texts are joined). -/
import Derived.Lib.SliceRun
import Derived.Test.YtojpooidhilnfaaGreatDoorI08
set_option linter.unusedVariables false
set_option linter.unusedSimpArgs false
set_option maxRecDepth 100000
set_option maxHeartbeats 8000000
namespace Go.Proofs.YtojpooidhilnfaaGreatDoor
open Go.RowKit Go.Sort
theorem jzjk(s:ByteArray)(c:UInt8)w(h:Lib.indexByte s.data.toList c= -1):
  Calls Tryz.prog 211 #[.string s,.string ⟨#[c]⟩] w fun e w'=>e=.returned (.tuple #[.string s,.string ⟨#[]⟩,.bool false])/\Ext w w':=by
 go_enter Tryz.func211,Tryz.ntmps211
 go_wp2_with fail
 refine(Tryz.stringslite_Index_one s c _).mono ?_;rintro e w1 ⟨rfl,rfl⟩;rw[h];go_wp2;exact bodyPost_ret (v:=.tuple #[.string s,.string ⟨#[]⟩,.bool false]) (by simp[results,Tryz.results211,go_sem]) rfl ⟨rfl,eR _⟩
theorem jzjl(s:ByteArray)(c:UInt8)(i:Nat)w(h:Lib.indexByte s.data.toList c=(i:Int))(hi:i<s.size)(hs:s.size<=1000000):
  Calls Tryz.prog 211 #[.string s,.string ⟨#[c]⟩] w fun e w'=>e=.returned (.tuple #[.string (s.extract 0 i),.string (s.extract (i+1) s.size),.bool true])/\Ext w w':=by
 go_enter Tryz.func211,Tryz.ntmps211
 go_wp2_with fail
 refine(Tryz.stringslite_Index_one s c _).mono ?_;rintro e w1 ⟨rfl,rfl⟩;rw[h];go_wp2
 go_region
 all_goals go_wp2
 exact bodyPost_ret (v:=.tuple #[.string (s.extract 0 i),.string (s.extract (i+1) s.size),.bool true]) (by simp[results,Tryz.results211,go_sem]) rfl ⟨rfl,(eR _).drewN 1⟩
theorem jzjm(s:ByteArray)(c:UInt8)w(h:Lib.indexByte s.data.toList c= -1):
  Calls Tryz.prog 171 #[.string s,.string ⟨#[c]⟩] w fun e w'=>e=.returned (.tuple #[.string s,.string ⟨#[]⟩,.bool false])/\Ext w w':=by
 go_enter Tryz.func171,Tryz.ntmps171
 go_wp2_with fail
 refine(jzjk s c _ h).mono ?_;rintro e w1 ⟨rfl,x1⟩;have X1:=Hx (x1);clear x1;go_wp2;exact bodyPost_ret (v:=.tuple #[.string s,.string ⟨#[]⟩,.bool false]) (by simp[results,Tryz.results171,go_sem]) rfl ⟨rfl,X1.o⟩
theorem jzjn(s:ByteArray)(c:UInt8)(i:Nat)w(h:Lib.indexByte s.data.toList c=(i:Int))(hi:i<s.size)(hs:s.size<=1000000):
  Calls Tryz.prog 171 #[.string s,.string ⟨#[c]⟩] w fun e w'=>e=.returned (.tuple #[.string (s.extract 0 i),.string (s.extract (i+1) s.size),.bool true])/\Ext w w':=by
 go_enter Tryz.func171,Tryz.ntmps171
 go_wp2_with fail
 refine(jzjl s c i _ h hi hs).mono ?_;rintro e w1 ⟨rfl,x1⟩;have X1:=Hx (x1);clear x1;go_wp2;exact bodyPost_ret (v:=.tuple #[.string (s.extract 0 i),.string (s.extract (i+1) s.size),.bool true]) (by simp[results,Tryz.results171,go_sem]) rfl ⟨rfl,X1.o⟩
theorem jzbb{w:World}{B n:Nat}{e:TypeId}{v:Value}{xs:List Value}(h:w.ownsRow B e 1 v n xs):∃(A:OA) (c:Nat),v=.s A n c/\n<=c/\RdT w e A xs:=by
 (obtain⟨h1,h2⟩:=h;rw[Nat.mul_one]at h1;rcases h2 with⟨h3,h4⟩|⟨g,cap,cur,h3,_,h5,h6,_,_,h9⟩);{subst h4;obtain rfl:xs=[]:=kQz h1;exact⟨none,0,h3,yX _,RdT.nil _ _ _⟩};refine⟨_,cap,h3,h6,fun _=>⟨g,0,cur,(0,0),rfl,h5,fun i hi=>?_⟩⟩;rw[Nat.mul_one]at h9;rw[kQu, <-h9,xG,if_pos (by omega)];simp
theorem jzjo(f M:Nat)w(hM:M<4294967296):
  Calls Tryz.prog 212 #[zN,.int .u64 f,.int .u64 M] w fun e w'=>∃(A:OA) (n c:Nat) (ds:LN),e=.returned (.s A n c)/\ds.length=n/\n<=c/\n<=1/\(∀d∈ds,d<B32)/\Dig.val B32 ds=M/\RdT w' 188 A (cF ds)/\Ext w w':=by
 obtain⟨ti,hi,qh,qi,qg⟩:=info_parts Tryz.info167
 go_enter Tryz.func212,Tryz.ntmps212
 go_wp2
 go_loopg [2,7,10] 0 (fun m ct _ it wr=>ct=.int .u64 M/\it=vI 0/\wr=w)
 case atStart=>exact⟨rfl,rfl,rfl⟩
 obtain⟨rfl,rfl,rfl⟩:=hrel;by_cases h0:M=0
 ·subst h0
  go_wp2;go_ret;exact⟨none,0,0,[],rfl,rfl,yX _,by omega,(fun _ h=>by cases h),rfl,RdT.nil _ _ _,eR _⟩
 have d1:decide ((M:Int)>0)=true:=by simp;omega
 go_wp2_with (at_builtin;go_must (refine pC _ rfl (.tmp 32) (.tmp 35) 31 rfl wr.heap.size 188 ti (.int .u32 0) 4 Tryz.underlying31 hi qh qi qg rfl zN 0 [] rfl ?c0 (sA wr.heap.size) 1 1 [.int .u32 (M:Int)] rfl rfl ?c1 ?c2 ?c3 ?c4 ?c5 ?c6 ?_))
 case c0=>exact World.ownsRow_nil _ _ _ _
 case c1=>exact Rd.new _ _ _ rfl rfl
 case c2=>intro h;cases h
 case c3=>intro u hu;simp at hu;subst hu;rfl
 case c4=>unfold maxLen;omega
 case c5=>omega
 case c6=>simp
 intro v3 w3 qe qa _;have e3:Ext wr w3:=Below.grown ((eR wr).alloc (.cells #[.int .u32 (M:Int)] 188)) qa (by simp) (fun k hk=>by simp[Value.ownBlock]at hk);obtain⟨A3,c3,rfl,qj,qf⟩:=jzbb qe;have F:=Hx (kQa qf e3);clear qe qa e3 qf;go_wp2;go_ret;exact⟨A3,1,c3,[M],rfl,rfl,qj,yX _,(fun d hd=>by simp at hd;subst hd;exact hM),by simp[Dig.val],F.o.1,F.o.2⟩
theorem jzbc{M i:Nat}(hi:i<Lib.nDigits M):(Lib.decDigits M)[i]?=some (UInt8.ofNat (48+M/10^(Lib.nDigits M-1-i)%10)):=by
 rw[Lib.decDigits_eq,yW,xJ hi];rfl
theorem nG(M i:Nat):(UInt8.ofNat (48+M/10^i%10)).toNat=48+M/10^i%10:=by
 have:M/10^i%10<10:=xT _ (by decide);rw[UInt8.toNat_ofNat'];omega
theorem jzjp{M L i:Nat}(hi:i<L):M/10^(L-(i+1))=10*(M/10^(L-i))+M/10^(L-1-i)%10:=by
 have h1:L-i=(L-(i+1))+1:=(by omega);rw[h1,show L-1-i=L-(i+1) by omega,vD, <-Nat.div_div_eq_div_mul];omega
theorem jzjq{M:Nat}(h:1<Lib.nDigits M):M/10^(Lib.nDigits M-1)%10≠0:=by
 have qa:∀M,0<M->M/10^(Lib.nDigits M-1)%10≠0:=(by intro M;(induction M using Nat.strongRecOn with|ind M ih=>intro hM;by_cases h1:M<10;{rw[Lib.nDigits_small h1];simp;omega};rw[Lib.nDigits_big h1];have:=ih (M/10) (by omega) (by omega);have h2:=Lib.nDigits_pos (M/10);rw[show Lib.nDigits (M/10)+1-1=(Lib.nDigits (M/10)-1)+1 by omega,vD,vE, <-Nat.div_div_eq_div_mul];exact this));(refine qa M ?_;rcases kQm M with h0|h0);{subst h0;rw[Lib.nDigits_small (by decide)]at h;omega};exact h0
theorem jzjr(M:Nat):M<10^Lib.nDigits M:=by
 (induction M using Nat.strongRecOn with|ind M ih=>by_cases h1:M<10;{rw[Lib.nDigits_small h1];omega};rw[Lib.nDigits_big h1,vD];have:=ih (M/10) (by omega);omega)
theorem jzbd(bs:ByteArray):∀(k i:Nat) (r:List UInt8),bs.size-i=k->(ByteArray.toList.loop bs i r).length=r.length+k
 |0,i,r,h=>by
  rw[ByteArray.toList.loop.eq_1,if_neg (by omega)];simp
 |k+1,i,r,h=>by
  rw[ByteArray.toList.loop.eq_1,if_pos (by omega),jzbd bs k (i+1) _ (by omega)];simp;omega
theorem jzbe(bs:ByteArray):bs.toList.length=bs.size:=by
 unfold ByteArray.toList;rw[jzbd bs bs.size 0 [] (by omega)];simp
theorem jzjs(bs:ByteArray)(h:0<bs.size):bs.toList.isEmpty=false:=by
 (cases h1:bs.toList with|nil=>have:=jzbe bs;rw[h1]at this;simp at this;omega|cons a l=>rfl)
theorem jzjt{S:ByteArray}{i:Nat}(h:i<S.size){x:UInt8}(hx:S.data.toList[i]?=some x):S[i]=x:=by
 have:S.data[i]?=some x:=(by simpa using hx);exact(kZn.1 this).2
theorem tR(M:Nat)w(hM:M<1000000000):
  Calls Tryz.prog 172 #[.string ⟨(Lib.decDigits M).toArray⟩] w fun e w'=>∃(A:OA) (n c:Nat),e=.returned (.tuple #[.agg #[.s A n c],vI 0])/\aF w' A n c M/\Ext w w':=by
 obtain⟨qz,qt⟩:=Dig.dec_len_nine M hM;obtain⟨L,hL⟩:∃L,L=Lib.nDigits M:=⟨_,rfl⟩;obtain⟨S,hS⟩:∃S:ByteArray,S=⟨(Lib.decDigits M).toArray⟩:=⟨_,rfl⟩;have qo:S.size=L:=(by rw[hS,hL, <-Lib.decDigits_length];rfl);obtain⟨D,hD⟩:∃D:Nat->Nat,D=fun i=>M/10^(L-1-i)%10:=⟨_,rfl⟩;obtain⟨P,hP⟩:∃P:Nat->Nat,P=fun i=>M/10^(L-i):=⟨_,rfl⟩;have qa:∀(i:Nat) (h:i<S.size),S[i].toNat=48+D i:=fun i h=>(by have h1:i<L:=(by omega);rw[jzjt h (x:=UInt8.ofNat (48+M/10^(L-1-i)%10)) (by rw[hS,hL];exact jzbc (by rw[<-hL];exact h1)),nG,hD]);have qh:∀i,D i<10:=fun i=>(by rw[hD];exact xT _ (by decide));have qe:1<L->D 0≠0:=fun h=>(by rw[hD,hL];exact jzjq (by rw[<-hL];exact h));have qm:∀i,i<L->P (i+1)=10*P i+D i:=fun i hi=>(by rw[hP,hD];exact jzjp hi);have qi:P 0=0:=(by rw[hP];simp only[Nat.sub_zero];rw[hL];exact Nat.div_eq_of_lt (jzjr M));have qk:P L=M:=(by rw[hP];simp);rw[Lib.decDigits_length, <-hL]at qz qt;rw[<-hS];have qg:∀i,P i<1000000000:=fun i=>(by rw[hP];exact kQ2 (kZi _ _) hM);have PB:=Hx (kQa qm (kQa qi (kQa qk qg)));have DB:=Hx qh;have GB:=Hx qa;have qB:=jzjs S (by omega);clear hS hL hD hP qm qi qk qg qh qa;obtain⟨b0,e0⟩:=aZ w #[zN] 33;have B0:=Hx (b0);have E0:=Hx (e0);clear b0 e0;have g0:=GB.o 0 (by omega);have c0:1<L->((48:Int)+(D 0:Int)==48)=false:=fun h=>yK.2 (by have:=qe h;omega);go_enter Tryz.func172,Tryz.ntmps172;(go_upto_region 1 with fail);go_cut [21] (fun s wx=>s=.bool false/\wx=w.alloc (.cells #[zN] 33));(case first=>by_cases qy:1<L;{have c1:=c0 qy;clear c0 qe;go_wp2;go_meet;exact⟨rfl,rfl⟩};have hl:L=1:=(by omega);subst hl;clear c0 qe;go_wp2;go_meet;exact⟨rfl,rfl⟩);obtain⟨rfl,rfl⟩:=hcut;clear c0 qe g0;have X0:=Hx (kQa B0.o E0.o);clear B0 E0;generalize w.alloc (.cells #[zN] 33)=W0 at*;go_wp2;go_loopg [4,25] L (fun m _ it wr=>∃i:Nat,L-i=m/\i<=L/\it=vI i/\wr=W0);(case atStart=>exact⟨0,rfl,yZ _,rfl,rfl⟩);obtain⟨i,rfl,hi,rfl,rfl⟩:=hrel;by_cases qD:i<L;{have gi:=GB.o i (by omega);have di:=DB.o i;go_wp2;go_roundg (L-(i+1));(case measure=>omega);exact⟨i+1,rfl,by omega,by go_num,rfl⟩};obtain rfl:i=L:=(by omega);go_wp2;go_loopg [0,5,6,7,8,9] 1 (fun m st dt _ _ _ _ wi=>(m=1/\st=.string S/\dt=zN/\wi=wr)\/(m=0/\∃(sx:ByteArray) (A:OA) (n c:Nat) (ds:LN),st=.string sx/\sx.toList.isEmpty=true/\dt=.s A n c/\ds.length=n/\n<=c/\n<=1/\Hid ((∀d∈ds,d<B32)/\Dig.val B32 ds=M/\RdT wi 188 A (cF ds)/\Ext wr wi)));(case atStart=>exact .inl ⟨rfl,rfl,rfl,rfl⟩);(rcases hrel with⟨rfl,rfl,rfl,rfl⟩|⟨rfl,sx,A,n,c,ds,rfl,hsx,rfl,hdl,hnc,hn1,HD⟩);{(have qx:min (9:Int) (i:Int)=(i:Int):=by omega);go_wp2;go_loopg [7,8,9,50] i (fun m sct pt _ it wj=>∃k sc:Nat,i-k=m/\k<=i/\it=vI k/\sct=.int .u64 sc/\pt=.int .u64 (P k)/\Hid (sc=10^k)/\wj=wr);(case atStart=>exact⟨0,1,rfl,yZ _,rfl,rfl,by rw[PB.o.2.1];rfl,Hx rfl,rfl⟩);obtain⟨k,sc,rfl,hk,rfl,rfl,rfl,qj,rfl⟩:=hrel;by_cases qw:k<i;{have gk:=GB.o k (by omega);have qE:=DB.o k;have pb:=PB.o.2.2.2 k;have qC:sc<=100000000:=(by rw[qj.o];exact yY (kQk (by decide) (show k<=8 by omega)) (by decide));have HN:=Hx (PB.o.1 k qw);go_wp2;go_roundg (i-(k+1));(case measure=>omega);exact⟨k+1,sc*10,rfl,by omega,by go_num,by go_num,by rw[HN.o];go_num,Hx (by rw[qj.o,vD]),rfl⟩};obtain rfl:k=i:=(by omega);have qA:=PB.o.2.2.1;rw[qA];(go_wp2_with fail);refine(jzjo sc M _ (by omega)).mono ?_;rintro e w1 ⟨A1,n1,c1,qp,rfl,q1,q2,q3,q4,q5,q6,x1⟩;have F:=Hx (kQa q4 (kQa q5 (kQa q6 x1)));have qn:(S.extract k S.size).toList.isEmpty=true:=(by rw[List.isEmpty_iff_length_eq_zero,jzbe,ByteArray.size_extract];omega);clear q4 q5 q6 x1;go_wp2;go_roundg 0;(case measure=>omega);exact .inr ⟨rfl,S.extract k S.size,A1,n1,c1,qp,by simp[qo],qn,rfl,q1,q2,q3,F⟩};have qf:=HD.o.2.2.2;have X1:=Hx (kQa (X0.o.1.K qf) (X0.o.2.tr qf));clear qf;(go_wp2_with fail);refine(iO A n c ds _ hdl hnc (by omega) HD.o.1 HD.o.2.2.1).mono ?_;rintro e w2 ⟨A2,n2,c2,rfl,h2,x2⟩;rw[HD.o.2.1]at h2;have B2:=Hx (X1.o.1.K x2);have E2:=Hx (X1.o.2.tr x2);have N2:=Hx h2;obtain⟨j0,f0⟩:=B2.o.one;clear h2 x2;go_wp2;exact bodyPost_ret (v:=.tuple #[.agg #[.s A2 n2 c2],vI 0]) (by simp[results,Tryz.results172,go_sem,(B2.o.sT 0 (.s A2 n2 c2)).cell]) rfl ⟨A2,n2,c2,rfl,N2.o.sT (p:=(aD w.heap.size 0)) B2.o (by decide) _,E2.o.sT (p:=(aD w.heap.size 0)) (yX _) _⟩
theorem eA{w W:World}{nb:Bool}{A A'}{n c n' c' g:Nat}{q:Rat}{cs:Array Value}(h:aE W nb A n c A' n' c' q)(hb:Blk W g 35 cs)(hg:w.heap.size<=g)(hx:Ext w W):
  aE (((W.setCell (aD g 0) (.bool nb)).setCell (aD g 1) (.s A n c)).setCell (aD g 2) (.s A' n' c')) nb A n c A' n' c' q/\Ext w (((W.setCell (aD g 0) (.bool nb)).setCell (aD g 1) (.s A n c)).setCell (aD g 2) (.s A' n' c')):=
 ⟨h.other (tP W g _ _ _) hb (by decide),((hx.sT (p:=(aD g 0)) hg _).sT (p:=(aD g 1)) hg _).sT (p:=(aD g 2)) hg _⟩
theorem jzju(neg:Bool)A1 A2(n1 c1 n2 c2 N D:Nat)w(h1:aF w A1 n1 c1 N)(h2:aF w A2 n2 c2 D)(hn1:n1<=1073741824)(hn2:n2<=1073741824)(hD:0<D):
  Calls Tryz.prog 173 #[.bool neg,.agg #[.s A1 n1 c1],.agg #[.s A2 n2 c2]] w fun e w'=>∃(nb:Bool) (A:OA) (n c:Nat) (A':OA) (n' c':Nat),e=.returned (.tuple #[.agg #[.bool nb,.s A n c,.s A' n' c'],vI 0])/\aE w' nb A n c A' n' c' (mkQ neg N D)/\Ext w w':=by
 obtain⟨b0,b1,b2,e0⟩:=fN w #[.s A1 n1 c1] 33 #[.s A2 n2 c2] 33 #[.bool false,zN,zN] 35;have z2:((n2:Int)==0)=false:=(by have:=h2.eq_zero;exact yK.2 (by omega));have H1:=Hx (h1.K e0);have H2:=Hx (h2.K e0);have BB:=Hx (kQa b0 (kQa b1 b2));have E0:=Hx (e0);clear h1 h2 b0 b1 b2 e0;obtain⟨j1,_⟩:=BB.o.2.1.one;go_enter Tryz.func173,Tryz.ntmps173;(go_wp2_with fail);refine(bG A2 n2 c2 _).mono ?_;rintro e w1 ⟨rfl,x1⟩;have qa:=Hx (kQa (BB.o.1.K x1) (kQa (BB.o.2.1.K x1) (BB.o.2.2.K x1)));have E1:=Hx (E0.o.tr x1);have H3:=Hx (kQa (H1.o.K x1) (H2.o.K x1));clear x1 BB E0 H1 H2 j1;obtain⟨j0,_⟩:=qa.o.1.one;obtain⟨j1,_⟩:=qa.o.2.1.one;(go_wp2_with fail);refine(eQ (N:=N) (D:=D) (by omega) neg A1 A2 n1 c1 n2 c2 _ H3.o.1 H3.o.2 hn1 hn2).mono ?_;rintro e w2 ⟨nb,A,n,c,A',n',c',rfl,hq,x2⟩;have B2:=Hx (qa.o.2.2.K x2);have E2:=Hx (E1.o.tr x2);obtain⟨⟨i0,i1,i2⟩,f0,f1,f2⟩:=B2.o.t3;obtain⟨r1,r2⟩:=eA (w:=w) hq B2.o (by omega) E2.o;have q3:=((B2.o.sT 0 (.bool nb)).sT 1 (.s A n c)).sT 2 (.s A' n' c');have RF:=Hx (kQa q3 (kQa r1 r2));clear q3 r1 r2 hq x2 qa E1;go_wp2;exact bodyPost_ret (v:=.tuple #[.agg #[.bool nb,.s A n c,.s A' n' c'],vI 0]) (by simp[results,Tryz.results173,go_sem,RF.o.1.cell]) rfl ⟨_,_,_,_,_,_,_,rfl,RF.o.2.1,RF.o.2.2⟩
theorem jzbf(M:Nat)(c:UInt8)(hc:c.toNat<48):∀b∈Lib.decDigits M,(b==c)=false:=by
 intro b hb;obtain⟨i,hi,he⟩:=List.getElem_of_mem hb;have h1:=jzbc (M:=M) (i:=i) (by rw[<-Lib.decDigits_length];exact hi);rw[yG hi,he]at h1;injection h1 with h1
 have h2:=nG M (Lib.nDigits M-1-i);rw[<-h1]at h2;refine yK.2 (fun e=>?_);rw[e]at h2;omega
theorem jzjv(l:List UInt8)(c:UInt8)(h:∀b∈l,(b==c)=false):Lib.indexByte l c= -1:=by
 (induction l with|nil=>rfl|cons b l ih=>rw[Lib.indexByte,h b (by simp),ih (fun x hx=>h x (by simp[hx]))];rfl)
theorem jzjw(l r:List UInt8)(c:UInt8)(h:∀b∈l,(b==c)=false):Lib.indexByte (l++c::r) c=(l.length:Int):=by
 (induction l with|nil=>simp[Lib.indexByte]|cons b l ih=>have h1:=ih (fun x hx=>h x (by simp[hx]));rw[List.cons_append,Lib.indexByte,h b (by simp),h1];have:((l.length:Int)== -1)=false:=yK.2 (by omega);rw[this];simp)
end Go.Proofs.YtojpooidhilnfaaGreatDoor
namespace Go.Proofs.YtojpooidhilnfaaGreatDoor
open Go.RowKit
theorem jzbg(a b:Rat)(h:b≠0):a/b=mkQ (decide (a.num<0) !=decide (b.num<0)) (a.num.natAbs*b.den) (b.num.natAbs*a.den):=by
 have hn:b.num≠0:=fun e=>h (Rat.num_eq_zero.1 e);have h1:(b⁻¹).num.natAbs=b.den:=(by rw[Rat.num_inv,Int.natAbs_mul,Int.natAbs_sign_of_ne_zero hn];simp);have h2:(b⁻¹).den=b.num.natAbs:=(by rw[Rat.den_inv,if_neg hn]);have h3:decide ((b⁻¹).num<0)=decide (b.num<0):=(by (rw[Rat.num_inv];have hd:=b.den_pos;rcases Int.lt_or_gt_of_ne hn with x|x);{rw[Int.sign_eq_neg_one_of_neg x];simp[x];omega};rw[Int.sign_eq_one_of_pos x];simp;omega);rw[Rat.div_def,pH,h1,h2,h3,vE a.den]
theorem jzjx(q:Rat)(h:q≠0):(!decide (q.num<0))=decide ((-q).num<0):=by
 have hn:q.num≠0:=fun e=>h (Rat.num_eq_zero.1 e);have:(-q).num= -q.num:=rfl;rw[this];rcases Int.lt_or_gt_of_ne hn with x|x
 ·rw[yO x,yP (by omega)];rfl
 rw[yP (by omega),yO (by omega)];rfl
theorem aE.neg{w}{neg:Bool}{A}{n c:Nat}{A'}{n' c':Nat}{q:Rat}(h:aE w neg A n c A' n' c' q)(h0:q≠0):aE w (!neg) A n c A' n' c' (-q):=by
 refine⟨?_,?_,h.2.2⟩;{rw[h.1];exact jzjx q h0};have:(-q).num.natAbs=q.num.natAbs:=(by show(-(q.num)).natAbs=_;omega);rw[this];exact h.2.1
theorem jzjy(na:Bool)A1(n1 c1:Nat)A1'(n1' c1':Nat)(a:Rat)w(ha:aE w na A1 n1 c1 A1' n1' c1' a):
  Calls Tryz.prog 129 #[.agg #[.bool na,.s A1 n1 c1,.s A1' n1' c1']] w fun e w'=>∃nb,e=.returned (.agg #[.bool nb,.s A1 n1 c1,.s A1' n1' c1'])/\aE w' nb A1 n1 c1 A1' n1' c1' (-a)/\Ext w w':=by
 obtain⟨qf,qa,e0⟩:=dD w #[.bool na,.s A1 n1 c1,.s A1' n1' c1'] 35 #[.bool false,zN,zN] 35;have HA:=Hx ha;by_cases h0:a=0;{have hs:aC a=0:=kE.2 h0;have HN:=Hx (show-a=a by rw[h0];rfl);have HS:=Hx hs;clear ha h0 hs;go_enter Tryz.func129,Tryz.ntmps129;(go_wp2_with fail);refine(cT na A1 n1 c1 A1' n1' c1' a _ (HA.o.K e0)).mono ?_;rintro e w1 ⟨rfl,qe⟩;rw[HS.o];have qf:=qf.K qe;have qa:=qa.K qe;obtain⟨⟨i0,i1,i2⟩,h0,h1,h2⟩:=qf.t3;obtain⟨⟨k0,k1,k2⟩,f0,f1,f2⟩:=qa.t3;have E1:=Hx (e0.tr qe);clear qe e0;go_wp2;refine bodyPost_ret (v:=.agg #[.bool na,.s A1 n1 c1,.s A1' n1' c1']) (by simp[results,Tryz.results129,go_sem,(((qa.sT 0 _).sT 1 _).sT 2 _).cell]) rfl ?_;obtain⟨q1,q2⟩:=eA (w:=w) (HA.o.K E1.o) qa (by omega) E1.o;exact⟨na,rfl,by rw[HN.o];exact q1,q2⟩};have hs:(aC a==0)=false:=yK.2 (fun h=>h0 (kE.1 h));have HN:=Hx (ha.neg h0);clear ha h0;go_enter Tryz.func129,Tryz.ntmps129;(go_wp2_with fail);refine(cT na A1 n1 c1 A1' n1' c1' a _ (HA.o.K e0)).mono ?_;rintro e w1 ⟨rfl,qe⟩;generalize aC a=sa at*;have qf:=qf.K qe;have qa:=qa.K qe;obtain⟨⟨i0,i1,i2⟩,h0,h1,h2⟩:=qf.t3;obtain⟨⟨k0,k1,k2⟩,f0,f1,f2⟩:=qa.t3;have E1:=Hx (e0.tr qe);clear qe e0;go_wp2;refine bodyPost_ret (v:=.agg #[.bool (!na),.s A1 n1 c1,.s A1' n1' c1']) (by simp[results,Tryz.results129,go_sem,(((qa.sT 0 _).sT 1 _).sT 2 _).cell]) rfl ?_;obtain⟨q1,q2⟩:=eA (w:=w) (HN.o.K E1.o) qa (by omega) E1.o;exact⟨!na,rfl,q1,q2⟩
theorem pP(na nb:Bool)A1(n1 c1:Nat)A1'(n1' c1':Nat)A2(n2 c2:Nat)A2'(n2' c2':Nat)(a b:Rat)w
  (ha:aE w na A1 n1 c1 A1' n1' c1' a) (hb:aE w nb A2 n2 c2 A2' n2' c2' b) (l1:n1<=134217728) (l1':n1'<=134217728) (l2:n2<=134217728) (l2':n2'<=134217728):
  Calls Tryz.prog 101 #[.agg #[.bool na,.s A1 n1 c1,.s A1' n1' c1'],.agg #[.bool nb,.s A2 n2 c2,.s A2' n2' c2']] w (dT w (a-b)):=by
 obtain⟨b0,b1,b2,e0⟩:=fN w #[.bool na,.s A1 n1 c1,.s A1' n1' c1'] 35 #[.bool nb,.s A2 n2 c2,.s A2' n2' c2'] 35 #[.bool false,zN,zN] 35;have x1:Ext (((w.alloc (.cells #[.bool na,.s A1 n1 c1,.s A1' n1' c1'] 35)).alloc (.cells #[.bool nb,.s A2 n2 c2,.s A2' n2' c2'] 35)).alloc (.cells #[.bool false,zN,zN] 35)) (((w.alloc (.cells #[.bool na,.s A1 n1 c1,.s A1' n1' c1'] 35)).alloc (.cells #[.bool nb,.s A2 n2 c2,.s A2' n2' c2'] 35)).alloc (.cells #[.bool false,zN,zN] 35)).drew:=(eR _).drewN 1;have HA:=Hx (kQa ((ha.K e0).K x1) ((hb.K e0).K x1));have E0:=Hx (e0.tr x1);have BB:=Hx (kQa (b0.K x1) (kQa (b1.K x1) (b2.K x1)));obtain⟨⟨i0,i1,i2⟩,_⟩:=BB.o.1.t3;obtain⟨⟨j0,j1,j2⟩,_⟩:=BB.o.2.1.t3;clear ha hb b0 b1 b2 e0 x1;go_enter Tryz.func101,Tryz.ntmps101;go_wp2
 go_region_held3 (fun w'=>w'.cell? (aD w.heap.size 0)=some (.bool na)/\w'.cell? (aD w.heap.size 1)=some (.s A1 n1 c1)/\w'.cell? (aD w.heap.size 2)=some (.s A1' n1' c1')/\w'.cell? (aD (w.heap.size+1) 0)=some (.bool nb)/\w'.cell? (aD (w.heap.size+1) 1)=some (.s A2 n2 c2)/\w'.cell? (aD (w.heap.size+1) 2)=some (.s A2' n2' c2'))
  (first|with_reducible exact⟨i0,i1,i2,j0,j1,j2⟩|exact fj _ _ _|fail)
  (first
   |(go_at_call 129
     refine(jzjy nb A2 n2 c2 A2' n2' c2' b _ HA.o.2).mono ?_;rintro e w3 ⟨n3,rfl,h3,x3⟩;have G3:=Hx (kQa (BB.o.1.K x3) (kQa (BB.o.2.1.K x3) (BB.o.2.2.K x3)));have E3:=Hx (E0.o.tr x3);have R3:=Hx (kQa h3 (HA.o.1.K x3));obtain⟨⟨i0,i1,i2⟩,_⟩:=G3.o.1.t3;obtain⟨⟨j0,j1,j2⟩,_⟩:=G3.o.2.1.t3;clear x3 h3)
   |(go_at_call 58
     refine(fW na n3 A1 n1 c1 A1' n1' c1' A2 n2 c2 A2' n2' c2' a (-b) _ R3.o.2 R3.o.1 (by omega) (by omega) (by omega) (by omega) (eQ (kQx (kQ7 _) (kQ7 _)))).mono ?_;rintro e w4 ⟨nq,B,m,d,B',m',d',rfl,h4,x4⟩;rw[<-Rat.sub_eq_add_neg]at h4;have G4:=Hx (kQa (G3.o.1.K x4) (kQa (G3.o.2.1.K x4) (G3.o.2.2.K x4)));have E4:=Hx (E3.o.tr x4);obtain⟨⟨i0,i1,i2⟩,_⟩:=G4.o.1.t3;obtain⟨⟨j0,j1,j2⟩,_⟩:=G4.o.2.1.t3;obtain⟨⟨p0,p1,p2⟩,f0,f1,f2⟩:=G4.o.2.2.t3;obtain⟨r1,r2⟩:=eA (w:=w) h4 G4.o.2.2 (by omega) E4.o;have q3:=((G4.o.2.2.sT 0 (.bool nq)).sT 1 (.s B m d)).sT 2 (.s B' m' d');have RF:=Hx (kQa q3 (kQa r1 r2));have hf:=fun u0 u1 u2=>((G4.o.1.far (p:=(aD (w.heap.size+1+1) 0)) (by simp;omega) u0).far (p:=(aD (w.heap.size+1+1) 1)) (by simp;omega) u1).far (p:=(aD (w.heap.size+1+1) 2)) (by simp;omega) u2;have hg:=fun u0 u1 u2=>((G4.o.2.1.far (p:=(aD (w.heap.size+1+1) 0)) (by simp) u0).far (p:=(aD (w.heap.size+1+1) 1)) (by simp) u1).far (p:=(aD (w.heap.size+1+1) 2)) (by simp) u2;have fj:=fun u0 u1 u2=>kQa ((hf u0 u1 u2).cell 0) (kQa ((hf u0 u1 u2).cell 1) (kQa ((hf u0 u1 u2).cell 2) (kQa ((hg u0 u1 u2).cell 0) (kQa ((hg u0 u1 u2).cell 1) ((hg u0 u1 u2).cell 2)))));clear x4 h4 q3 r1 r2)
   |fail)
 go_wp2;exact bodyPost_ret (v:=.agg #[.bool nq,.s B m d,.s B' m' d']) (by simp[results,Tryz.results101,go_sem,RF.o.1.cell]) rfl ⟨_,_,_,_,_,_,_,rfl,RF.o.2.1,RF.o.2.2⟩
def jzjz(w:World)(q:Rat)(e:Ending)(w':World):Prop:=
 ∃(neg:Bool) (A:OA) (n c:Nat) (A':OA) (n' c':Nat),e=.returned (.tuple #[.agg #[.bool neg,.s A n c,.s A' n' c'],vI 0])/\aE w' neg A n c A' n' c' q/\Ext w w'
theorem pQ(na nb:Bool)A1(n1 c1:Nat)A1'(n1' c1':Nat)A2(n2 c2:Nat)A2'(n2' c2':Nat)(a b:Rat)w
  (ha:aE w na A1 n1 c1 A1' n1' c1' a) (hb:aE w nb A2 n2 c2 A2' n2' c2' b) (hb0:b≠0) (l1:n1<=134217728) (l1':n1'<=134217728) (l2:n2<=134217728) (l2':n2'<=134217728):
  Calls Tryz.prog 73 #[.agg #[.bool na,.s A1 n1 c1,.s A1' n1' c1'],.agg #[.bool nb,.s A2 n2 c2,.s A2' n2' c2']] w (jzjz w (a/b)):=by
 obtain⟨b0,b1,b2,e0⟩:=fN w #[.bool na,.s A1 n1 c1,.s A1' n1' c1'] 35 #[.bool nb,.s A2 n2 c2,.s A2' n2' c2'] 35 #[.bool false,zN,zN] 35;have hq:=jzbg a b hb0;rw[<-ha.1, <-hb.1]at hq;have qf:b.num≠0:=fun e=>hb0 (Rat.num_eq_zero.1 e);have qe:=Hx (eQ (N:=a.num.natAbs*b.den) (D:=b.num.natAbs*a.den) (kQx (by omega) a.den_nz));have hs:(aC b==0)=false:=yK.2 (fun h=>hb0 (kE.1 h));have HQ:=Hx (hq);have HA:=Hx (ha);have HB:=Hx (hb);obtain⟨⟨j0,j1,j2⟩,_⟩:=b1.t3;clear ha hb hq qf hb0;go_enter Tryz.func73,Tryz.ntmps73;(go_wp2_with fail);refine(cT nb A2 n2 c2 A2' n2' c2' b _ (HB.o.K e0)).mono ?_;rintro e w1 ⟨rfl,x1⟩;generalize aC b=sb at*;have xd:Ext w1 w1.drew:=(eR w1).drewN 1;have BB:=Hx (kQa ((b0.K x1).K xd) (kQa ((b1.K x1).K xd) ((b2.K x1).K xd)));have E0:=Hx ((e0.tr x1).tr xd);clear b0 b1 b2 e0 x1 xd j0 j1 j2;obtain⟨⟨i0,i1,i2⟩,_⟩:=BB.o.1.t3;obtain⟨⟨j0,j1,j2⟩,_⟩:=BB.o.2.1.t3;have qa:True:=trivial;go_wp2
 go_region_held3 (fun w'=>w'.cell? (aD w.heap.size 0)=some (.bool na)/\w'.cell? (aD w.heap.size 1)=some (.s A1 n1 c1)/\w'.cell? (aD w.heap.size 2)=some (.s A1' n1' c1')/\w'.cell? (aD (w.heap.size+1) 0)=some (.bool nb)/\w'.cell? (aD (w.heap.size+1) 1)=some (.s A2 n2 c2)/\w'.cell? (aD (w.heap.size+1) 2)=some (.s A2' n2' c2'))
  (first|with_reducible exact⟨i0,i1,i2,j0,j1,j2⟩|exact fj _ _ _|fail)
  (first
   |(go_at_call 75
     have _t:=qa;refine(kD A1 A2' n1 c1 n2' c2' a.num.natAbs (dk b) _ (HA.o.2.1.K E0.o) (HB.o.2.2.K E0.o) (by omega) (by omega)).mono ?_;rintro e w3 ⟨A3,n3,c3,rfl,h3,x3⟩;clear qa;have L3:=iQ h3 (HA.o.2.1.K E0.o) (HB.o.2.2.K E0.o);have h3:aF w3 A3 n3 c3 (a.num.natAbs*b.den):=(by rw[iP]at h3;exact h3);have G3:=Hx (kQa (BB.o.1.K x3) (kQa (BB.o.2.1.K x3) (BB.o.2.2.K x3)));have E3:=Hx (E0.o.tr x3);have R3:=Hx h3;obtain⟨⟨i0,i1,i2⟩,_⟩:=G3.o.1.t3;obtain⟨⟨j0,j1,j2⟩,_⟩:=G3.o.2.1.t3;clear x3 h3)
   |(go_at_call 75
     refine(kD A2 A1' n2 c2 n1' c1' b.num.natAbs (dk a) _ (HB.o.2.1.K E3.o) (HA.o.2.2.K E3.o) (by omega) (by omega)).mono ?_;rintro e w4 ⟨A4,n4,c4,rfl,h4,x4⟩;have L4:=iQ h4 (HB.o.2.1.K E3.o) (HA.o.2.2.K E3.o);have h4:aF w4 A4 n4 c4 (b.num.natAbs*a.den):=(by rw[iP]at h4;exact h4);have G4:=Hx (kQa (G3.o.1.K x4) (kQa (G3.o.2.1.K x4) (G3.o.2.2.K x4)));have E4:=Hx (E3.o.tr x4);have R4:=Hx (kQa (R3.o.K x4) h4);obtain⟨⟨i0,i1,i2⟩,_⟩:=G4.o.1.t3;obtain⟨⟨j0,j1,j2⟩,_⟩:=G4.o.2.1.t3;clear x4 h4)
   |(go_at_call 78
     refine(qe.o (na !=nb) A3 A4 n3 c3 n4 c4 _ R4.o.1 R4.o.2 (by omega) (by omega)).mono ?_;rintro e w5 ⟨nq,B,m,d,B',m',d',rfl,h5,x5⟩;rw[<-HQ.o]at h5;have G5:=Hx (kQa (G4.o.1.K x5) (kQa (G4.o.2.1.K x5) (G4.o.2.2.K x5)));have E5:=Hx (E4.o.tr x5);obtain⟨⟨i0,i1,i2⟩,_⟩:=G5.o.1.t3;obtain⟨⟨j0,j1,j2⟩,_⟩:=G5.o.2.1.t3;obtain⟨⟨p0,p1,p2⟩,f0,f1,f2⟩:=G5.o.2.2.t3;obtain⟨r1,r2⟩:=eA (w:=w) h5 G5.o.2.2 (by omega) E5.o;have q3:=((G5.o.2.2.sT 0 (.bool nq)).sT 1 (.s B m d)).sT 2 (.s B' m' d');have RF:=Hx (kQa q3 (kQa r1 r2));have hf:=fun u0 u1 u2=>((G5.o.1.far (p:=(aD (w.heap.size+1+1) 0)) (by simp;omega) u0).far (p:=(aD (w.heap.size+1+1) 1)) (by simp;omega) u1).far (p:=(aD (w.heap.size+1+1) 2)) (by simp;omega) u2;have hg:=fun u0 u1 u2=>((G5.o.2.1.far (p:=(aD (w.heap.size+1+1) 0)) (by simp) u0).far (p:=(aD (w.heap.size+1+1) 1)) (by simp) u1).far (p:=(aD (w.heap.size+1+1) 2)) (by simp) u2;have fj:=fun u0 u1 u2=>kQa ((hf u0 u1 u2).cell 0) (kQa ((hf u0 u1 u2).cell 1) (kQa ((hf u0 u1 u2).cell 2) (kQa ((hg u0 u1 u2).cell 0) (kQa ((hg u0 u1 u2).cell 1) ((hg u0 u1 u2).cell 2)))));clear x5 h5 q3 r1 r2)
   |fail)
 go_wp2;exact bodyPost_ret (v:=.tuple #[.agg #[.bool nq,.s B m d,.s B' m' d'],vI 0]) (by simp[results,Tryz.results73,go_sem,RF.o.1.cell]) rfl ⟨_,_,_,_,_,_,_,rfl,RF.o.2.1,RF.o.2.2⟩
def flN(q:Rat):Nat:=q.num.natAbs/q.den
def flQ(q:Rat):Rat:=mkQ false (flN q) 1
end Go.Proofs.YtojpooidhilnfaaGreatDoor
namespace Go.Proofs.YtojpooidhilnfaaGreatDoor
open Go.RowKit Go.Sort
def fS(q:Rat):List UInt8:=Lib.decDigits q.num.natAbs++(if q.den=1 then []else [47]++Lib.decDigits q.den)
theorem jzj0(q:Rat):cU q=(if q.num<0 then [45]else [])++fS q:=by unfold cU fS;rw[List.append_assoc]
theorem jzj1(M:Nat):∃b l,Lib.decDigits M=b::l/\(b==45)=false:=by
 have h1:=Lib.nDigits_pos M;have h2:=Lib.decDigits_length M;(match h:Lib.decDigits M,h2 with| [],h2=>simp at h2;omega|b::l,_=>exact⟨b,l,rfl,jzbf M 45 (by decide) b (by rw[h];simp)⟩)
theorem jzj2(q:Rat):Lib.hasPrefix (cU q) [45]=decide (q.num<0)/\Lib.trimPrefix (cU q) [45]=fS q:=by
 obtain⟨b,l,hb,qe⟩:=jzj1 q.num.natAbs;rw[jzj0];unfold Lib.trimPrefix Lib.hasPrefix;by_cases h:q.num<0;{simp[h]};unfold fS;rw[hb];have qa:(45==b)=false:=yK.2 (fun e=>by subst e;simp at qe);simp[h,List.isPrefixOf,qa]
theorem jzj3(l r:List UInt8):(⟨(l++r).toArray⟩:ByteArray).extract 0 l.length=⟨l.toArray⟩:=by
 apply ByteArray.ext;rw[ByteArray.data_extract];apply Array.toList_inj.1;simp
theorem jzj4(l r:List UInt8)(c:UInt8):(⟨(l++c::r).toArray⟩:ByteArray).extract (l.length+1) (⟨(l++c::r).toArray⟩:ByteArray).size=⟨r.toArray⟩:=by
 apply ByteArray.ext;rw[ByteArray.data_extract];apply Array.toList_inj.1;rw[show(⟨(l++c::r).toArray⟩:ByteArray).size=(l++c::r).length from rfl];simp;exact yU (by omega)
theorem jzj5(q:Rat)w(hn:q.num.natAbs<1000000000)(hd:q.den<1000000000):
  Calls Tryz.prog 111 #[.string ⟨(cU q).toArray⟩] w fun e w'=>∃(nb:Bool) (A:OA) (n c:Nat) (A':OA) (n' c':Nat),e=.returned (.tuple #[.agg #[.bool nb,.s A n c,.s A' n' c'],vI 0])/\aE w' nb A n c A' n' c' q/\Ext w w':=by
 obtain⟨b0,e0⟩:=aZ w #[.bool false,zN,zN] 35;have B0:=Hx (b0);have E0:=Hx (e0);clear b0 e0;obtain⟨qg,qi⟩:=jzj2 q;go_enter Tryz.func111,Tryz.ntmps111;(go_wp2_with fail);refine(Tryz.strings_CutPrefix ⟨(cU q).toArray⟩ ⟨#[45]⟩ _).mono ?_;rintro e w1 ⟨rfl,rfl⟩;rw[show((⟨(cU q).toArray⟩:ByteArray).data.toList)=cU q from rfl,show((⟨#[45]⟩:ByteArray).data.toList)=[45]from rfl,qg,qi];clear qg qi;have hcut:∃(a b:ByteArray) (fd:Bool),(∀W:World,Calls Tryz.prog 171 #[.string ⟨(fS q).toArray⟩,.string ⟨#[47]⟩] W fun e w'=>e=.returned (.tuple #[.string a,.string b,.bool fd])/\Ext W w')/\a=⟨(Lib.decDigits q.num.natAbs).toArray⟩/\(if fd then b else⟨#[49]⟩)=⟨(Lib.decDigits q.den).toArray⟩:=(by have qj:=jzbf q.num.natAbs 47 (by decide);by_cases h1:q.den=1;{refine⟨_,_,false,fun W=>jzjm _ 47 W ?_,?_,?_⟩;{show Lib.indexByte (fS q) 47= -1;unfold fS;rw[if_pos h1,List.append_nil];exact jzjv _ _ qj};{unfold fS;rw[if_pos h1,List.append_nil]};rw[h1];simp[Lib.decDigits]};have ha:fS q=Lib.decDigits q.num.natAbs++47::Lib.decDigits q.den:=(by unfold fS;rw[if_neg h1];rfl);have l1:=(Dig.dec_len_nine _ hn).1;have l2:=(Dig.dec_len_nine _ hd).1;have qh:(⟨(fS q).toArray⟩:ByteArray).size=(Lib.decDigits q.num.natAbs).length+((Lib.decDigits q.den).length+1):=(by rw[ha];show(Lib.decDigits q.num.natAbs++47::Lib.decDigits q.den).length=_;simp);refine⟨_,_,true,fun W=>jzjn _ 47 (Lib.decDigits q.num.natAbs).length W ?_ (by rw[qh];omega) (by rw[qh];omega),?_,?_⟩;{show Lib.indexByte (fS q) 47=_;rw[ha];exact jzjw _ _ _ qj};{rw[ha];exact jzj3 _ _};rw[if_pos rfl,ha];exact jzj4 _ _ _);obtain⟨a,b,fd,qa,rfl,hb⟩:=hcut;have HC:=Hx (qa);have HB:=Hx (hb);have qk:=Hx (jzx q);have qf:=q.den_pos;clear qa hb;generalize decide (q.num<0)=ng at*;(go_wp2_with fail);refine(HC.o _).mono ?_;rintro e w2 ⟨rfl,x2⟩;have B2:=Hx (B0.o.K x2);have E2:=Hx (E0.o.tr x2);clear x2 B0 E0 HC;have qe:∀(b':ByteArray),(if fd then b else⟨#[49]⟩)=b'->b'=⟨(Lib.decDigits q.den).toArray⟩:=fun b' h=>(by rw[<-h,HB.o]);have qn:∀(sx:ByteArray),sx=⟨(Lib.decDigits q.den).toArray⟩->True:=fun _ _=>trivial;have qm:(fd=false/\(⟨#[49]⟩:ByteArray)=⟨(Lib.decDigits q.den).toArray⟩)\/(fd=true/\b=⟨(Lib.decDigits q.den).toArray⟩):=(by cases fd;{exact .inl ⟨rfl,qe _ rfl⟩};exact .inr ⟨rfl,qe _ rfl⟩);clear qe qn HB;rcases qm with⟨rfl,h49⟩|⟨rfl,rfl⟩
 all_goals
  go_wp2_with fail
  refine(tR q.num.natAbs _ hn).mono ?_;rintro e w3 ⟨A3,n3,c3,rfl,h3,x3⟩
  have l3:=h3.lenOf (k:=1) (by have:B32^1=4294967296:=by decide
                               omega)
  have X3:=Hx ((eR w3).alloc (.cells #[.s A3 n3 c3] 33));have B3:=Hx ((B2.o.K x3).K X3.o);have E3:=Hx ((E2.o.tr x3).tr X3.o);have N3:=Hx (h3.K X3.o);have K3:=Hx (eN w3 33 #[.s A3 n3 c3]);clear h3 x3 X3
  go_wp2_with fail
  first
   |refine(tR q.den _ hd).mono ?_
   |(rw[h49];refine(tR q.den _ hd).mono ?_)
  rintro e w4 ⟨A4,n4,c4,rfl,h4,x4⟩
  have l4:=h4.lenOf (k:=1) (by have:B32^1=4294967296:=by decide
                               omega)
  have X4:=Hx ((eR w4).alloc (.cells #[.s A4 n4 c4] 33));have B4:=Hx ((B3.o.K x4).K X4.o);have E4:=Hx ((E3.o.tr x4).tr X4.o);have N4:=Hx (kQa ((N3.o.K x4).K X4.o) (h4.K X4.o));have K4:=Hx (kQa ((K3.o.K x4).K X4.o) (eN w4 33 #[.s A4 n4 c4]));obtain⟨j3,_⟩:=K4.o.1.one;obtain⟨j4,_⟩:=K4.o.2.one;clear h4 x4 X4
  go_wp2_with fail
  refine(jzju ng A3 A4 n3 c3 n4 c4 _ _ _ N4.o.1 N4.o.2 (by omega) (by omega) qf).mono ?_;rintro e w5 ⟨nb,A,n,c,A',n',c',rfl,hq,x5⟩;rw[qk.o]at hq;have B5:=Hx (B4.o.K x5);have E5:=Hx (E4.o.tr x5);obtain⟨⟨i0,i1,i2⟩,f0,f1,f2⟩:=B5.o.t3;obtain⟨r1,r2⟩:=eA (w:=w) hq B5.o (yX _) E5.o;have q3:=((B5.o.sT 0 (.bool nb)).sT 1 (.s A n c)).sT 2 (.s A' n' c');have RF:=Hx (kQa q3 (kQa r1 r2));clear q3 r1 r2 hq x5;go_wp2;exact bodyPost_ret (v:=.tuple #[.agg #[.bool nb,.s A n c,.s A' n' c'],vI 0]) (by simp[results,Tryz.results111,go_sem,RF.o.1.cell]) rfl ⟨_,_,_,_,_,_,_,rfl,RF.o.2.1,RF.o.2.2⟩
end Go.Proofs.YtojpooidhilnfaaGreatDoor
namespace Go.Proofs.YtojpooidhilnfaaGreatDoor
open Go.RowKit
theorem Tryz.info44:(Tryz.prog.info? 35).map (fun i=>(i.zero,i.size,i.bytes))=some (some (.agg #[.bool false,zN,zN]),3,56):=by kernel_rfl
theorem Tryz.info51:(Tryz.prog.info? 47).map (fun i=>(i.zero,i.size,i.bytes))=some (some (.agg #[.bool false,zN,zN]),3,56):=by kernel_rfl
section
variable (R:World->List Value->Rat->Prop) (t:TypeId)
def QLg(w:World)(P:OA)(qs:LQ):Prop:=
 ∃css:List (List Value),css.length=qs.length/\(∀cs∈css,cs.length=3)/\Rd w P css.flatten/\∀(i:Nat) (q:Rat),qs[i]?=some q->∃cs,css[i]?=some cs/\R w cs q
def OQ(w:World)(B:Nat)(v:Value)(qs:LQ):Prop:=
 ∃css:List (List Value),css.length=qs.length/\(∀cs∈css,cs.length=3)/\w.ownsRow B t 3 v qs.length css.flatten/\∀(i:Nat) (q:Rat),qs[i]?=some q->∃cs,css[i]?=some cs/\R w cs q
end
section
variable {R:World->List Value->Rat->Prop} {t:TypeId} {w w':World} {B:Nat} {v v':Value} {qs:List Rat}
theorem OQ.nil:OQ R t w B zN []:=⟨[],rfl,(fun _ h=>by cases h),World.ownsRow_nil _ _ _ _,fun i q h=>by simp at h⟩
theorem OQ.K(hR:∀(w w':World) (cs:List Value) (q:Rat),R w cs q->Ext w w'->R w' cs q)(h:OQ R t w B v qs)(hx:Ext w w'):OQ R t w' B v qs:=by
 obtain⟨css,h1,h2,h3,h4⟩:=h;refine⟨css,h1,h2,h3.kept (bO hx) (bP _),fun i q hq=>?_⟩;obtain⟨cs,k1,k2⟩:=h4 i q hq;exact⟨cs,k1,hR _ _ _ _ k2 hx⟩
theorem OQ.list(h:OQ R t w B v qs):∃(A:OA) (c:Nat),v=.s A qs.length c/\qs.length<=c/\QLg R w A qs:=by
 (obtain⟨css,h1,h2,h3,h4⟩:=h;rcases h3.2 with⟨e1,e2⟩|⟨g,cap,cur,e1,_,e3,e4,_,_,e7⟩);{have hx:css.flatten=[]:=kQz (by rw[h3.1,e2]);exact⟨none,0,by rw[e2];exact e1,by omega,css,h1,h2,by rw[hx];exact Rd.nil _ _,h4⟩};refine⟨_,cap,e1,e4,css,h1,h2,fun _=>⟨g,0,rfl,iR e3,fun i hi=>?_⟩,h4⟩;rw[cell_of_row w g (0+i) cur t (0,0) e3,kQu, <-e7,xG,if_pos (by have:=h3.1;omega)];simp
theorem OQ.push{css:List (List Value)}{cs:List Value}{q:Rat}(h1:css.length=qs.length)(h2:∀cs∈css,cs.length=3)(hl:cs.length=3)(h4:∀(i:Nat) (q:Rat),qs[i]?=some q->∃cs,css[i]?=some cs/\R w' cs q)
  (hq:R w' cs q) (hown:w'.ownsRow B t 3 v' (qs.length+1) (css.flatten++cs)):OQ R t w' B v' (qs++[q]):=by
 refine⟨css++[cs],by simp[h1],fun c hc=>?_,by rw[List.flatten_append,yQ];simpa using hown,fun i q' hq'=>?_⟩;{(rcases xY.1 hc with h|h);{exact h2 c h};simp at h;rw[h];exact hl};by_cases hi:i<qs.length;{rw[yR hi]at hq';obtain⟨c,k1,k2⟩:=h4 i q' hq';exact⟨c,by rw[yR (by omega)];exact k1,k2⟩};rw[yS (by omega)]at hq';have qa:i-qs.length=0:=(by (rcases kQm (i-qs.length)with h0|h0);{exact h0};rw[yI (by simp;omega)]at hq';cases hq');rw[qa]at hq';simp at hq';subst hq';exact⟨cs,by rw[yS (by omega),show i-css.length=0 by omega];rfl,hq⟩
end
theorem jzbh{ops:Array Oper}{rest:List Oper}{o:Oper}{a:Act}{Q:Exit->Act->World->Prop}(w:World)(t e:TypeId)(hgd:o.guard=none)(s x:Operand)
  (ho:o.op=.call {callee:=.builtin .append,args:=#[s,x],argTypes:=#[t,t]})
  (ht:Tryz.prog.underlying t=some (.slice e)) (hinfo:(Tryz.prog.info? e).map (fun i=>(i.zero,i.size,i.bytes))=some (some (.agg #[.bool false,zN,zN]),3,56))
  (B:Nat) (v:Value) (n:Nat) (xs:List Value) (hs:a.eval s=v) (hown:w.ownsRow B e 3 v n xs) (u0 u1 u2:Value) (h0:u0.oneCell'=true) (h1:u1.oneCell'=true) (h2:u2.oneCell'=true) (hx:a.eval x=.s (sA w.heap.size) 1 1)
  (hl:n<=1000000000) (hB:B<=w.heap.size)
  (h:∀v' w',w'.ownsRow B e 3 v' (n+1) (xs++[u0,u1,u2])->(w.alloc (.cells #[u0,u1,u2] e)).grownBy w' v.ownBlock->(∃A c,v'=.s A (n+1) c)->wpList Tryz.prog ops Q rest (a.put o.dst v') w'):wpList Tryz.prog ops Q (o::rest) a (w.alloc (.cells #[u0,u1,u2] e)):=by
 obtain⟨ti,hi,qe,qf,qa⟩:=info_parts hinfo;refine wpList_append_own_at _ hgd s x t ho B e ti _ 3 56 ht hi qe qf qa rfl (by decide) v n xs hs (hown.alloc _) (aD w.heap.size 0) 1 1 [u0,u1,u2] hx rfl ?_ ?_ ?_ ?_ ?_ ?_;{intro j u hj;rw[kG,kQu];exact((eN w _ _).cell j).trans (by simpa using hj)};{intro u hu;(simp only[xZ,List.not_mem_nil,or_false]at hu;rcases hu with rfl|rfl|rfl);{exact h0};{exact h1};exact h2};{unfold maxLen;omega};{omega};{simp;omega};(intro v' w' k1 k2 _ _;refine h v' w' k1 k2 ?_;rcases k1.2 with⟨_,e2⟩|⟨g,cap,_,e1,_⟩);{omega};exact⟨_,cap,e1⟩
def QP(w:World)(g:Nat)(qs:LQ):Prop:=
 ∃cur:Array Value,Blk w g 35 cur/\∀(i:Nat) (q:Rat),qs[i]?=some q->∃(neg:Bool) (A:OA) (n c:Nat) (A':OA) (n' c':Nat),
  (cur[i*3]?=some (.bool neg)/\cur[i*3+1]?=some (.s A n c)/\cur[i*3+2]?=some (.s A' n' c'))/\aE w neg A n c A' n' c' q
theorem QP.K{w w'}{g:Nat}{qs:LQ}(h:QP w g qs)(hx:Ext w w'):QP w' g qs:=by
 obtain⟨qa,h1,h2⟩:=h;refine⟨qa,h1.K hx,fun i q hq=>?_⟩;obtain⟨neg,A,n,c,A',n',c',h3,h4⟩:=h2 i q hq;exact⟨neg,A,n,c,A',n',c',h3,h4.K hx⟩
theorem QP.lt{w}{g:Nat}{qs:LQ}(h:QP w g qs):g<w.heap.size:=by
 obtain⟨qa,h1,_⟩:=h;exact h1.lt
theorem QP.at_{w}{g:Nat}{qs:LQ}(h:QP w g qs){i:Nat}{q:Rat}(hl:qs[i]?=some q):
  ∃(neg:Bool) (A:OA) (n c:Nat) (A':OA) (n' c':Nat),
   (w.cell? (aD g (i*3))=some (.bool neg)/\w.cell? (aD g (i*3+1))=some (.s A n c)/\w.cell? (aD g (i*3+2))=some (.s A' n' c'))/\
   (w.frozen? (aD g (i*3))=false/\w.frozen? (aD g (i*3+1))=false/\w.frozen? (aD g (i*3+2))=false)/\aE w neg A n c A' n' c' q:=by
 obtain⟨qa,h1,h2⟩:=h;obtain⟨neg,A,n,c,A',n',c',⟨e0,e1,e2⟩,h4⟩:=h2 i q hl;exact⟨neg,A,n,c,A',n',c',⟨by rw[h1.cell];exact e0,by rw[h1.cell];exact e1,by rw[h1.cell];exact e2⟩,⟨h1.frozen _,h1.frozen _,h1.frozen _⟩,h4⟩
theorem QP.take{w}{g:Nat}{qs:LQ}(h:QP w g qs)(m:Nat):QP w g (qs.take m):=by
 obtain⟨qa,h1,h2⟩:=h;refine⟨qa,h1,fun i q hq=>h2 i q ?_⟩;rw[xG]at hq;split at hq;{exact hq};cases hq
theorem mA{cur:Array Value}{m j:Nat}{u0 u1 u2:Value}(hm:m*3+2<cur.size):(((cur.setIfInBounds (m*3) u0).setIfInBounds (m*3+1) u1).setIfInBounds (m*3+2) u2)[j]?=if j=m*3 then some u0 else if j=m*3+1 then some u1 else if j=m*3+2 then some u2 else cur[j]?:=by
 rw[Array.getElem?_setIfInBounds,Array.getElem?_setIfInBounds,Array.getElem?_setIfInBounds];simp only[Array.size_setIfInBounds]
 repeat' split
 all_goals first|rfl|omega
theorem QP.put{w}{g m:Nat}{qs:LQ}{q:Rat}{neg:Bool}{A}{n c:Nat}{A'}{n' c':Nat}(h:QP w g qs)(hm:m<qs.length)(hl:aE w neg A n c A' n' c' q):
  QP (((w.setCell (aD g (m*3)) (.bool neg)).setCell (aD g (m*3+1)) (.s A n c)).setCell (aD g (m*3+2)) (.s A' n' c')) g (qs.set m q):=by
 obtain⟨qf,h1,h2⟩:=h;have g2:=((aL w g (m*3) (.bool neg)).trans (aL _ g (m*3+1) (.s A n c))).trans (aL _ g (m*3+2) (.s A' n' c'));have b:=((h1.sT (m*3) (.bool neg)).sT (m*3+1) (.s A n c)).sT (m*3+2) (.s A' n' c');have qa:m*3+2<qf.size:=(by obtain⟨_,_,_,_,_,_,_,⟨_,_,e2⟩,_⟩:=h2 m _ (yG hm);exact(kZn.1 e2).1);refine⟨_,b,fun i p hi=>?_⟩;by_cases e:m=i;{subst e;(rw[yM hm]at hi;injection hi with hi);subst hi;refine⟨neg,A,n,c,A',n',c',⟨?_,?_,?_⟩,hl.other g2 h1 (by decide)⟩;{rw[mA qa,if_pos rfl]};{rw[mA qa,if_neg (by omega),if_pos rfl]};rw[mA qa,if_neg (by omega),if_neg (by omega),if_pos rfl]};rw[vN e]at hi;obtain⟨qe,B,k,d,B',k',d',⟨e0,e1,e2⟩,h4⟩:=h2 i p hi;refine⟨qe,B,k,d,B',k',d',⟨?_,?_,?_⟩,h4.other g2 h1 (by decide)⟩;{rw[mA qa,if_neg (by omega),if_neg (by omega),if_neg (by omega)];exact e0};{rw[mA qa,if_neg (by omega),if_neg (by omega),if_neg (by omega)];exact e1};rw[mA qa,if_neg (by omega),if_neg (by omega),if_neg (by omega)];exact e2
end Go.Proofs.YtojpooidhilnfaaGreatDoor
namespace Go.Proofs.YtojpooidhilnfaaGreatDoor
def atL(l:LN)(i:Nat):Nat:=l[i]?.getD 0
def jzj6(l:LN)(i j:Nat):LN:=(l.set i (atL l j)).set j (atL l i)
theorem jzbi{l:LN}{i:Nat}(h:i<l.length):l[i]?=some (atL l i):=by
 unfold atL;rw[yG h];rfl
theorem jzj7(l:LN)(i k v:Nat)(hi:i<l.length):atL (l.set i v) k=if k=i then v else atL l k:=by
 unfold atL;by_cases e:k=i;{subst e;rw[yM hi,if_pos rfl];rfl};rw[vN (fun h=>e h.symm),if_neg e]
open Go.RowKit
def dA(w:World)(g:Nat)(l:LN):Prop:=∃cs:Array Value,Blk w g 3 cs/\∀i,i<l.length->cs[i]?=some (vI ((atL l i:Nat):Int))
theorem dA.K{w w'}{g:Nat}{l:LN}(h:dA w g l)(hx:Ext w w'):dA w' g l:=by
 obtain⟨cs,h1,h2⟩:=h;exact⟨cs,h1.K hx,h2⟩
theorem dA.cell{w}{g:Nat}{l:LN}(h:dA w g l){i:Nat}(hi:i<l.length):w.cell? (aD g i)=some (vI ((atL l i:Nat):Int)):=by
 obtain⟨cs,h1,h2⟩:=h;rw[h1.cell];exact h2 i hi
theorem dA.lt{w}{g:Nat}{l:LN}(h:dA w g l):g<w.heap.size:=by
 obtain⟨cs,h1,_⟩:=h;exact h1.lt
theorem dA.frozen{w}{g:Nat}{l:LN}(h:dA w g l)(i:Nat):w.frozen? (aD g i)=false:=by
 obtain⟨cs,h1,_⟩:=h;exact h1.frozen i
theorem dA.put{w}{g:Nat}{l:LN}(h:dA w g l){i:Nat}(v:Nat)(hi:i<l.length):dA (w.setCell (aD g i) (vI ((v:Nat):Int))) g (l.set i v):=by
 obtain⟨cs,h1,h2⟩:=h;refine⟨_,h1.sT i _,fun k hk=>?_⟩;rw[yV]at hk;rw[jzj7 _ _ _ _ hi,Array.getElem?_setIfInBounds];have hs:=(kZn.1 (h2 i hi)).1;by_cases e:i=k;{subst e;rw[if_pos rfl,if_pos hs,if_pos rfl]};rw[if_neg e,if_neg (fun h=>e h.symm)];exact h2 k hk
theorem dA.swap{w}{g:Nat}{l:LN}(h:dA w g l){i j:Nat}(hi:i<l.length)(hj:j<l.length):dA ((w.setCell (aD g i) (vI ((atL l j:Nat):Int))).setCell (aD g j) (vI ((atL l i:Nat):Int))) g (jzj6 l i j):=
 (h.put (atL l j) hi).put (atL l i) (by rw[yV];exact hj)
theorem OI.row{w}{B:Nat}{A}{n c:Nat}{l:LN}(h:OI w B (.s A n c) l)(hl:l.length=n)(h0:0<n):∃g,A=(sA g)/\B<=g/\dA w g l:=by
 obtain⟨h1,h2⟩:=h;rcases h2 with⟨h3,h4⟩|⟨g',cap,cur,h3,h4,h5,h6,h7,h8,h9⟩
 ·have:l=[]:=by simpa [ints]using h4
  subst this;simp at hl;omega
 injection h3 with e1 e2 e3
 refine⟨g',e1,h4,cur,h5,fun i hi=>?_⟩;have qa:(cur.toList.take l.length)[i]?=(ints l)[i]?:=by
  have:=h9;rw[<-this];simp
 rw[xG,if_pos hi]at qa;rw[<-kQw,qa];unfold ints;rw[yW,jzbi hi];rfl
theorem QR.other{w w'}{cs:List Value}{q:Rat}{g:Nat}{t':TypeId}{cs':Array Value}(h:QR w cs q)(hg:w.grownBy w' (some g))(hb:Blk w g t' cs')(hne:188≠t'):QR w' cs q:=by
 obtain⟨neg,A,n,c,A',n',c',e,h1⟩:=h;exact⟨neg,A,n,c,A',n',c',e,h1.other hg hb hne⟩
def QB(w:World)(g:Nat)(qs:LQ):Prop:=
 ∃css:List (List Value),css.length=qs.length/\(∀cs∈css,cs.length=3)/\Blk w g 35 css.flatten.toArray/\∀(i:Nat) (q:Rat),qs[i]?=some q->∃cs,css[i]?=some cs/\QR w cs q
theorem QB.K{w w'}{g:Nat}{qs:LQ}(h:QB w g qs)(hx:Ext w w'):QB w' g qs:=by
 obtain⟨css,h1,h2,h3,h4⟩:=h;refine⟨css,h1,h2,h3.K hx,fun i q hl=>?_⟩;obtain⟨cs,k1,k2⟩:=h4 i q hl;exact⟨cs,k1,k2.K hx⟩
theorem QB.lt{w}{g:Nat}{qs:LQ}(h:QB w g qs):g<w.heap.size:=by
 obtain⟨css,_,_,h3,_⟩:=h;exact h3.lt
theorem QB.blk{w}{g:Nat}{qs:LQ}(h:QB w g qs):∃cs,Blk w g 35 cs:=by
 obtain⟨css,_,_,h3,_⟩:=h;exact⟨_,h3⟩
theorem QB.at_{w}{g:Nat}{qs:LQ}(h:QB w g qs){i:Nat}{q:Rat}(hl:qs[i]?=some q):
  ∃(neg:Bool) (A:OA) (n c:Nat) (A':OA) (n' c':Nat),
   (w.cell? (aD g (i*3))=some (.bool neg)/\w.cell? (aD g (i*3+1))=some (.s A n c)/\w.cell? (aD g (i*3+2))=some (.s A' n' c'))/\
   (w.frozen? (aD g (i*3))=false/\w.frozen? (aD g (i*3+1))=false/\w.frozen? (aD g (i*3+2))=false)/\aE w neg A n c A' n' c' q:=by
 obtain⟨css,h1,h2,h3,h4⟩:=h;obtain⟨cs,k1,neg,A,n,c,A',n',c',rfl,k2⟩:=h4 i q hl;have hi:=(yH.1 hl).1;have qa:∀k,k<3->w.cell? (aD g (i*3+k))=([.bool neg,.s A n c,.s A' n' c']:List Value)[k]?:=fun k hk=>(by rw[h3.cell,xI,dK css h2 i k (by omega) hk,k1];rfl);exact⟨neg,A,n,c,A',n',c',⟨qa 0 (by omega),qa 1 (by omega),qa 2 (by omega)⟩,⟨h3.frozen _,h3.frozen _,h3.frozen _⟩,k2⟩
theorem QB.other{w w'}{g g':Nat}{qs:LQ}{t':TypeId}{cs':Array Value}(h:QB w g qs)(hg:w.grownBy w' (some g'))(hb:Blk w g' t' cs')(hne:188≠t')(hgg:g≠g'):QB w' g qs:=by
 obtain⟨css,h1,h2,h3,h4⟩:=h;refine⟨css,h1,h2,(hg.block g h3.lt (fun e=>hgg (by injection e))).trans h3,fun i q hq=>?_⟩;obtain⟨cs,k1,k2⟩:=h4 i q hq;exact⟨cs,k1,k2.other hg hb hne⟩
theorem fA{K:Nat}(css:List (List Value))(h2:∀cs∈css,cs.length=K)(m:Nat)(hml:m<css.length)(c1:List Value)(k:Nat)(v:Value)(hc:c1.length=K)(hk:k<K):((css.set m c1).flatten).set (m*K+k) v=(css.set m (c1.set k v)).flatten:=by
 have qa:∀c∈css.set m c1,c.length=K:=fun c hcc=>(by (rcases xE hcc with h|h);{exact h2 c h};rw[h];exact hc);have h:=nB (css.set m c1) qa m k v (by rw[yV];exact hml) hk;rw[yM hml,kQ1,List.set_set]at h;exact h
theorem QB.put{w}{g m:Nat}{qs:LQ}{q:Rat}{neg:Bool}{A}{n c:Nat}{A'}{n' c':Nat}(h:QB w g qs)(hm:m<qs.length)(hl:aE w neg A n c A' n' c' q):
  QB (((w.setCell (aD g (m*3)) (.bool neg)).setCell (aD g (m*3+1)) (.s A n c)).setCell (aD g (m*3+2)) (.s A' n' c')) g (qs.set m q):=by
 obtain⟨css,h1,h2,h3,h4⟩:=h;have g2:=((aL w g (m*3) (.bool neg)).trans (aL _ g (m*3+1) (.s A n c))).trans (aL _ g (m*3+2) (.s A' n' c'));have qa:m<css.length:=(by omega);obtain⟨cs,qf⟩:∃cs,css[m]?=some cs:=⟨_,yG qa⟩;have qe:cs.length=3:=h2 cs (yJ qf);have e0:css=css.set m cs:=(by apply uK;intro i;by_cases e:m=i;{subst e;rw[yM qa];exact qf};rw[vN e]);have b:=((h3.sT (m*3+0) (.bool neg)).sT (m*3+1) (.s A n c)).sT (m*3+2) (.s A' n' c');rw[yD,yD,yD,e0,fA css h2 m qa cs 0 _ qe (by omega),fA css h2 m qa _ 1 _ (by simp[qe]) (by omega),fA css h2 m qa _ 2 _ (by simp[qe]) (by omega)]at b;have e3:((cs.set 0 (.bool neg)).set 1 (.s A n c)).set 2 (.s A' n' c')=[.bool neg,.s A n c,.s A' n' c']:=(by (rcases cs with _|⟨a0,_|⟨a1,_|⟨a2,_|⟨a3,r⟩⟩⟩⟩);all_goals first|(simp at qe;done)|rfl);rw[e3]at b;refine⟨css.set m [.bool neg,.s A n c,.s A' n' c'],by simp[h1],fun c hcc=>?_,b,fun i p hi=>?_⟩;{(rcases xE hcc with h|h);{exact h2 c h};rw[h];rfl};by_cases e:m=i;{subst e;(rw[yM hm]at hi;injection hi with hi);subst hi;exact⟨_,yM qa,neg,A,n,c,A',n',c',rfl,hl.other g2 h3 (by decide)⟩};rw[vN e]at hi;obtain⟨qg,k1,k2⟩:=h4 i p hi;exact⟨qg,by rw[vN e];exact k1,k2.other g2 h3 (by decide)⟩
theorem QB.ql{w}{g:Nat}{qs:LQ}(h:QB w g qs):QL w (sA g) qs:=by
 obtain⟨css,h1,h2,h3,h4⟩:=h;exact⟨css,h1,h2,(RdT.of_blk h3 rfl).rd,h4⟩
theorem jzbj(N:Nat):madeCells #[.bool false,zN,zN] (N*3)=(List.replicate N [Value.bool false,zN,zN]).flatten.toArray:=by
 apply Array.ext';apply uK;intro i;have qa:∀cs∈List.replicate N [Value.bool false,zN,zN],cs.length=3:=fun cs h=>(by rw[uF h];rfl);have hl:=fQ _ qa;rw[xC]at hl;by_cases hi:i<N*3;{have h1:=dK _ qa (i/3) (i%3) (by rw[xC];omega) (by omega);rw[show i/3*3+i%3=i by omega,xB,if_pos (by omega),kQ1]at h1;simp only[];rw[h1];have h2:(madeCells #[.bool false,zN,zN] (N*3)).toList[i]?=some ((#[.bool false,zN,zN]:Array Value)[i%3]!):=(by simp[madeCells,hi]);rw[h2];have h6:i%3=0\/i%3=1\/i%3=2:=(by omega);rcases h6 with e|e|e <;> rw[e] <;> rfl};rw[yI (by simp[madeCells];omega),yI (by simp only[];omega)]
theorem QB.made(w:World)(N:Nat):QB (w.alloc (.cells (madeCells #[.bool false,zN,zN] (N*3)) 35)) w.heap.size (List.replicate N 0):=by
 refine⟨List.replicate N [.bool false,zN,zN],by simp,fun cs h=>by rw[uF h];rfl,?_,fun i q hq=>?_⟩;{rw[jzbj];exact eN _ _ _};rw[xB]at hq;split at hq;{rename_i hi;(injection hq with hq);subst hq;exact⟨_,by rw[xB,if_pos hi],false,none,0,0,none,0,0,rfl,eZ _⟩};cases hq
theorem SzQ.mkQ_{s:Bool}{n d k:Nat}(hd:d≠0)(hn:n<B32^k)(hdd:d<B32^k):SzQ (mkQ s n d) k:=by
 refine⟨?_,?_⟩;{rw[lP _ hd];exact kQ2 (kZi _ _) hn};rw[lQ _ hd];exact kQ2 (kZi _ _) hdd
theorem pR{a b k m:Nat}(ha:a<B32^k)(hb:b<B32^m):a*b<B32^(k+m):=by
 rw[Nat.pow_add];rcases kQm b with h0|h0
 ·rw[h0,kQ8];exact Nat.mul_pos (kQy aY) (kQy aY)
 exact kZb ha (kQe hb) (kQy aY)
theorem SzQ.mul{a b:Rat}{k m:Nat}(ha:SzQ a k)(hb:SzQ b m):SzQ (a*b) (k+m):=by
 rw[pH];exact SzQ.mkQ_ (kQx a.den_nz b.den_nz) (pR ha.1 hb.1) (pR ha.2 hb.2)
theorem SzQ.div{a b:Rat}{k m:Nat}(ha:SzQ a k)(hb:SzQ b m)(h0:b≠0):SzQ (a/b) (k+m):=by
 have hn:b.num≠0:=fun e=>h0 (Rat.num_eq_zero.1 e);rw[jzbg a b h0];refine SzQ.mkQ_ (kQx (by omega) a.den_nz) (pR ha.1 hb.2) ?_;rw[kZl];exact pR hb.1 ha.2
theorem SzQ.fl{a:Rat}{k:Nat}(ha:SzQ a k)(hk:1<=k):SzQ (flQ a) k:=by
 unfold flQ flN;refine SzQ.mkQ_ (by decide) (kQ2 (kZi _ _) ha.1) ?_;have h1:=kQk aY hk;have h2:1<B32^1:=(by decide);omega
theorem jzj8(q:Rat):aC q<0↔q<0:=by
 have h:q.num<0↔q<0:=(by rw[<-Int.not_le,Rat.num_nonneg,Rat.not_le]);unfold aC;split;{rename_i h0;rw[<-h,h0]};split;{rename_i h1;exact⟨fun _=>h.1 h1,fun _=>by decide⟩};rename_i h1;exact⟨fun x=>by omega,fun x=>absurd (h.2 x) h1⟩
theorem dA.made(w:World)(n:Nat):dA (w.alloc (.cells (madeCells #[vI 0] n) 3)) w.heap.size (List.replicate n 0):=by
 refine⟨_,eN _ _ _,fun i hi=>?_⟩;rw[xC]at hi;rw[<-kQw,toList_madeCells_one];unfold atL;rw[xB,if_pos hi,xB,if_pos hi];rfl
theorem dA.rdT{w}{g:Nat}{l:LN}(h:dA w g l):RdT w 3 (sA g) (ints l):=fun _=>by
 obtain⟨cs,h1,h2⟩:=h;refine⟨g,0,cs,(0,0),rfl,h1,fun i hi=>?_⟩;rw[dF]at hi;rw[kQu,h2 i hi];unfold ints;rw[yW,jzbi hi];rfl
structure FrS(S:Nat->Prop)(w w':World):Prop where
 os:w'.os=w.os
 tape:w'.tape=w.tape
 output:w'.output=w.output
 size:w.heap.size<=w'.heap.size
 block:∀b,b<w.heap.size->¬S b->w'.heap[b]?=w.heap[b]?
def NoT(S:Nat->Prop)(w:World)(t:TypeId):Prop:=∀b,S b->∀cs fr,w.heap[b]?≠some (.cells cs t fr)
section
variable {S S':Nat->Prop} {w w' w2:World}
theorem FrS.of_ext(h:Ext w w'):FrS S w w':=⟨h.os,h.tape,h.output,h.size,fun b hb _=>h.block b hb⟩
theorem eE:type_of% @FrS.of_ext:=@FrS.of_ext
theorem FrS.refl(S:Nat->Prop)w:FrS S w w:=eE (eR w)
theorem FrS.of_grown{row:Option Nat}(h:w.grownBy w' row)(hs:∀g,row=some g->S g):FrS S w w':=⟨h.os,h.tape,h.output,h.size,fun b hb hn=>h.block b hb (fun e=>hn (hs b e.symm))⟩
theorem eG:type_of% @FrS.of_grown:=@FrS.of_grown
theorem FrS.tr(h:FrS S w w')(k:FrS S' w' w2)(hs:∀b,S' b->S b\/w.heap.size<=b):FrS S w w2:=
 ⟨k.os.trans h.os,k.tape.trans h.tape,k.output.trans h.output,yY h.size k.size,fun b hb hn=>(k.block b (yL hb h.size) (fun h1=>by
  rcases hs b h1 with h2|h2
  ·exact hn h2
  ·omega)).trans (h.block b hb hn)⟩
theorem FrS.mono(h:FrS S w w')(hs:∀b,S b->S' b):FrS S' w w':=⟨h.os,h.tape,h.output,h.size,fun b hb hn=>h.block b hb fun h1=>hn (hs b h1)⟩
theorem FrS.ext{w0}(k:FrS S w w')(h:Ext w0 w)(hs:∀b,S b->w0.heap.size<=b):Ext w0 w':=
 ⟨k.os.trans h.os,k.tape.trans h.tape,k.output.trans h.output,yY h.size k.size,fun b hb=>(k.block b (yL hb h.size) (fun h1=>by have:=hs b h1;omega)).trans (h.block b hb)⟩
theorem FrS.blk{b:Nat}{t:TypeId}{cs:Array Value}(k:FrS S w w')(h:Blk w b t cs)(hb:¬S b):Blk w' b t cs:=(k.block b h.lt hb).trans h
theorem FrS.rdT{t:TypeId}{A}{xs:List Value}(k:FrS S w w')(hn:NoT S w t)(h:RdT w t A xs):RdT w' t A xs:=fun hx=>by
 obtain⟨b,o,cs,fr,e1,e2,e3⟩:=h hx;refine⟨b,o,cs,fr,e1,(k.block b (iR e2) (fun h1=>?_)).trans e2,e3⟩;exact hn b h1 cs fr e2
theorem FrS.natR{A}{n c N:Nat}(k:FrS S w w')(hn:NoT S w 188)(h:aF w A n c N):aF w' A n c N:=by
 obtain⟨ds,h1,h2,h3,h4,h5⟩:=h;exact⟨ds,h1,h2,h3,h4,k.rdT hn h5⟩
theorem FrS.ratR{neg:Bool}{A}{n c:Nat}{A'}{n' c':Nat}{q:Rat}(k:FrS S w w')(hn:NoT S w 188)(h:aE w neg A n c A' n' c' q):aE w' neg A n c A' n' c' q:=
 ⟨h.1,k.natR hn h.2.1,k.natR hn h.2.2⟩
theorem FrS.qr{cs:List Value}{q:Rat}(k:FrS S w w')(hn:NoT S w 188)(h:QR w cs q):QR w' cs q:=by
 obtain⟨neg,A,n,c,A',n',c',e,h1⟩:=h;exact⟨neg,A,n,c,A',n',c',e,k.ratR hn h1⟩
theorem FrS.own{B n s:Nat}{e:TypeId}{v:Value}{xs:List Value}(k:FrS S w w')(h:w.ownsRow B e s v n xs)(hn:∀g,v.ownBlock=some g->¬S g):w'.ownsRow B e s v n xs:=by
 refine⟨h.1,?_⟩;rcases h.2 with h1|⟨g,cap,cur,h1,h2,h3,h4⟩
 ·exact .inl h1
 exact .inr ⟨g,cap,cur,h1,h2,(k.block g (iR h3) (hn g (by rw[h1];rfl))).trans h3,h4⟩
theorem FrS.oq{B:Nat}{v:Value}{qs:LQ}(k:FrS S w w')(hn:NoT S w 188)(h:OQ QR 35 w B v qs)(hv:∀g,v.ownBlock=some g->¬S g):OQ QR 35 w' B v qs:=by
 obtain⟨css,h1,h2,h3,h4⟩:=h;refine⟨css,h1,h2,k.own h3 hv,fun i q hq=>?_⟩;obtain⟨cs,k1,k2⟩:=h4 i q hq;exact⟨cs,k1,k.qr hn k2⟩
theorem bT{B n s:Nat}{e:TypeId}{v:Value}{xs:List Value}(h:w.ownsRow B e s v n xs){g:Nat}(hg:v.ownBlock=some g){t:TypeId}(ht:e≠t):∀cs fr,w.heap[g]?≠some (.cells cs t fr):=fun cs fr e2=>by
 (rcases h.2 with⟨h1,_⟩|⟨g',cap,cur,h1,h2,h3,h4⟩);{rw[h1]at hg;cases hg};{rw[h1]at hg;(injection hg with hg);(have hg:g'=g:=hg;subst hg;rw[h3]at e2;injection e2 with e2);(injection e2 with _ e2);exact ht e2}
theorem NoT.one{g:Nat}{t t':TypeId}{cs:Array Value}(h:Blk w g t cs)(ht:t≠t'):NoT (fun b=>b=g) w t':=fun b hb cs' fr e=>by
 subst hb;unfold Blk at h;rw[h]at e;injection e with e
 injection e with _ e
 exact ht e
theorem aS{B n s:Nat}{e:TypeId}{v:Value}{xs:List Value}(h:w.ownsRow B e s v n xs){g:Nat}(hg:v.ownBlock=some g):∃cs,Blk w g e cs:=by
 rcases h.2 with⟨h1,_⟩|⟨g',cap,cur,h1,h2,h3,h4⟩
 ·rw[h1]at hg;cases hg
 rw[h1]at hg;injection hg with hg
 have hg:g'=g:=hg;subst hg;exact⟨cur,h3⟩
theorem OQ.cell{B g c:Nat}{qs:LQ}{n:Nat}(h:OQ QR 35 w B (.s (sA g) n c) qs){i:Nat}{q:Rat}(hl:qs[i]?=some q):
  ∃(neg:Bool) (A:OA) (n c:Nat) (A':OA) (n' c':Nat),
   (w.cell? (aD g (i*3))=some (.bool neg)/\w.cell? (aD g (i*3+1))=some (.s A n c)/\w.cell? (aD g (i*3+2))=some (.s A' n' c'))/\
   (w.frozen? (aD g (i*3))=false/\w.frozen? (aD g (i*3+1))=false/\w.frozen? (aD g (i*3+2))=false)/\aE w neg A n c A' n' c' q:=by
 obtain⟨css,h1,h2,h3,h4⟩:=h;obtain⟨cs,k1,neg,A,n1,c1,A',n',c',rfl,k2⟩:=h4 i q hl;have hi:=(yH.1 hl).1;obtain⟨cb,hb⟩:=aS h3 (g:=g) rfl;have qa:∀k,k<3->w.cell? (aD g (i*3+k))=([.bool neg,.s A n1 c1,.s A' n' c']:List Value)[k]?:=fun k hk=>(by (have hf:=dK css h2 i k (by omega) hk;rw[k1]at hf;rcases h3.2 with⟨e,_⟩|⟨g',cap,cur,e,_,h5,h6,h7,h8,h9⟩);{cases e};(injection e with e1 e2 e3);(injection e1 with e1);(injection e1 with e1);subst e1;have qe:Blk w g 35 cur:=h5;rw[qe.cell, <-kQw];rw[<-h9,xG,if_pos (by omega)]at hf;exact hf);exact⟨neg,A,n1,c1,A',n',c',⟨qa 0 (by omega),qa 1 (by omega),qa 2 (by omega)⟩,⟨hb.frozen _,hb.frozen _,hb.frozen _⟩,k2⟩
theorem nH{B g n c s k:Nat}{e:TypeId}{xs:List Value}(h:w.ownsRow B e s (.s (sA g) n c) n xs)(u:Value):(w.setCell (aD g k) u).ownsRow B e s (.s (sA g) n c) n (xs.set k u):=by
 refine⟨by rw[yV];exact h.1,?_⟩;rcases h.2 with⟨h3,h4⟩|⟨g',cap,cur,h3,h4,h5,h6,h7,h8,h9⟩
 ·cases h3
 have qa:=h3;injection h3 with e1 e2 e3
 injection e1 with e1
 injection e1 with e1
 subst e1;refine .inr ⟨g,cap,cur.setIfInBounds k u,qa,h4,(show Blk w g e cur from h5).sT k u,h6,h7,by simpa using h8,?_⟩;rw[Array.toList_setIfInBounds, <-h9,List.take_set]
theorem eB(w:World)(g i:Nat)(v0 v1 v2:Value):w.grownBy (((w.setCell (aD g i) v0).setCell (aD g (i+1)) v1).setCell (aD g (i+2)) v2) (some g):=
 ((aL w g i v0).trans (aL _ g (i+1) v1)).trans (aL _ g (i+2) v2)
theorem OQ.put{B g n c m:Nat}{qs:LQ}{q:Rat}{neg:Bool}{A}{n1 c1:Nat}{A'}{n' c':Nat}(h:OQ QR 35 w B (.s (sA g) n c) qs)(hn:qs.length=n)(hm:m<qs.length)(hl:aE w neg A n1 c1 A' n' c' q):
  OQ QR 35 (((w.setCell (aD g (m*3)) (.bool neg)).setCell (aD g (m*3+1)) (.s A n1 c1)).setCell (aD g (m*3+2)) (.s A' n' c')) B (.s (sA g) n c) (qs.set m q):=by
 obtain⟨css,h1,h2,h3,h4⟩:=h;rw[hn]at h3;obtain⟨cb,hb⟩:=aS h3 (g:=g) rfl;have g2:=eB w g (m*3) (.bool neg) (.s A n1 c1) (.s A' n' c');have qa:m<css.length:=(by omega);obtain⟨cs,qf⟩:∃cs,css[m]?=some cs:=⟨_,yG qa⟩;have qe:cs.length=3:=h2 cs (yJ qf);have e0:css=css.set m cs:=(by apply uK;intro i;by_cases e:m=i;{subst e;rw[yM qa];exact qf};rw[vN e]);have b:=nH (k:=m*3+2) (nH (k:=m*3+1) (nH (k:=m*3+0) h3 (.bool neg)) (.s A n1 c1)) (.s A' n' c');rw[e0,fA css h2 m qa cs 0 _ qe (by omega),fA css h2 m qa _ 1 _ (by simp[qe]) (by omega),fA css h2 m qa _ 2 _ (by simp[qe]) (by omega)]at b;have e3:((cs.set 0 (.bool neg)).set 1 (.s A n1 c1)).set 2 (.s A' n' c')=[.bool neg,.s A n1 c1,.s A' n' c']:=(by (rcases cs with _|⟨a0,_|⟨a1,_|⟨a2,_|⟨a3,r⟩⟩⟩⟩);all_goals first|(simp at qe;done)|rfl);rw[e3]at b;refine⟨css.set m [.bool neg,.s A n1 c1,.s A' n' c'],by simp[h1],fun c hcc=>?_,by rw[yV,hn];exact b,fun i p hi=>?_⟩;{(rcases xE hcc with h|h);{exact h2 c h};rw[h];rfl};by_cases e:m=i;{subst e;(rw[yM hm]at hi;injection hi with hi);subst hi;exact⟨_,yM qa,neg,A,n1,c1,A',n',c',rfl,hl.other g2 hb (by decide)⟩};rw[vN e]at hi;obtain⟨qg,k1,k2⟩:=h4 i p hi;exact⟨qg,by rw[vN e];exact k1,k2.other g2 hb (by decide)⟩
def RwC(w:World)(cs:List Value)(V:Value)(q:Rat):Prop:=
 ∃(neg:Bool) (A:OA) (n c:Nat) (A':OA) (n' c':Nat),cs=[V,.bool neg,.s A n c,.s A' n' c']/\aE w neg A n c A' n' c' q
theorem RwC.K{cs:List Value}{V:Value}{q:Rat}(h:RwC w cs V q)(hx:Ext w w'):RwC w' cs V q:=by
 obtain⟨neg,A,n,c,A',n',c',e,h1⟩:=h;exact⟨neg,A,n,c,A',n',c',e,h1.K hx⟩
theorem FrS.rwc{cs:List Value}{V:Value}{q:Rat}(k:FrS S w w')(hn:NoT S w 188)(h:RwC w cs V q):RwC w' cs V q:=by
 obtain⟨neg,A,n,c,A',n',c',e,h1⟩:=h;exact⟨neg,A,n,c,A',n',c',e,k.ratR hn h1⟩
end
end Go.Proofs.YtojpooidhilnfaaGreatDoor
