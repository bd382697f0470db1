/- Part 12 of 23 of what the Flows claims share (the white space is struck, the texts are joined). -/
import Derived.DeepKeys4
import Derived.Test.YtllmekijiohgmaaGreatDoorT11
set_option linter.unusedVariables false
set_option linter.unusedSimpArgs false
set_option maxRecDepth 100000
set_option maxHeartbeats 8000000
namespace Go.Proofs.YtllmekijiohgmaaGreatDoor
open Go.RowKit
namespace Fo
def ndP(t:Tp)(fr:Nat)(p:LN)(j:Nat):Nat:=if j=0 then fr else hdN t (p[j-1]?.getD 0)
def ccP(t:Tp)(p:LN)(j:Nat):Int:=dA (csZ t) (p.take j)
theorem jz7(cs:Nat->Int):∀(l:LN) (a:Nat),dA cs (l++[a])=dA cs l+cs a
 | [],a=>by show cs a+0=0+cs a;omega
 |b::l,a=>by
  show cs b+dA cs (l++[a])=cs b+dA cs l+cs a;rw[jz7 cs l a];omega
theorem jz8{t}{p:LN}{j a:Nat}(h:p[j]?=some a):ccP t p (j+1)=ccP t p j+csZ t a:=by
 unfold ccP;rw[kQr,h];exact jz7 _ _ _
theorem jzhx{t}{fr:Nat}{p:LN}{j a:Nat}(h:p[j]?=some a):ndP t fr p (j+1)=hdN t a:=by
 unfold ndP;rw[if_neg (by omega),Nat.add_sub_cancel,h];rfl
def ndL(t:Tp)(fr:Nat)(p:LN)(j:Nat):LN:=(List.range (j+1)).map (ndP t fr p)
def ccL(t:Tp)(p:LN)(j:Nat):List Int:=(List.range (j+1)).map (ccP t p)
theorem jzhy t(fr:Nat)(p:LN)(j:Nat):ndL t fr p (j+1)=ndL t fr p j++[ndP t fr p (j+1)]:=by unfold ndL;rw[kZc,List.map_append];rfl
theorem jzhz t(p:LN)(j:Nat):ccL t p (j+1)=ccL t p j++[ccP t p (j+1)]:=by unfold ccL;rw[kZc,List.map_append];rfl
def mA(a:Nat):Value:=vI (a:Int)
def kO(x:Nat×Nat):Value:=.agg #[vI (x.1:Int),vI (x.2:Int)]
structure TkI(w wx:World)(gx m1 m2:Nat)(t:Tp)(AO:OA)(co:Nat)(AL:OA)(cl:Nat)(A:OA)(n cA:Nat)(gN cN kN gC cC kC:Nat)(Ns:LN)(Cs:List Int)(f1:Nat->Option Value)(f2:Nat×Nat->Option Value)(b1 b2:Nat):Prop where
 ex:Ext w wx
 tk:Blk wx gx 323 #[vI t.nodes,.s AO t.over.length co,.s AL t.links.length cl,zN,.s A n cA,.s (sA gN) kN cN,.s (sA gC) kC cC,.map (some m1),.map (some m2)]
 ns:wx.ownsRow w.heap.size 3 1 (.s (sA gN) kN cN) kN (ints Ns)
 cs:wx.ownsRow w.heap.size 3 1 (.s (sA gC) kC cC) kC (aR Cs)
 mp1:MpG mA wx m1 b1 f1
 mp2:MpG kO wx m2 b2 f2
 ne:gN≠gC
 lx:w.heap.size<=gx
 l1:w.heap.size<=m1
 l2:w.heap.size<=m2
 nm:m1≠m2
theorem frTr{S T:Nat->Prop}{w w' w2}(h:FrS S w w')(k:FrS T w' w2):FrS (fun b=>S b\/T b) w w2:=by
 have h1:FrS (fun b=>S b\/T b) w w':=h.mono fun b e=>.inl e;have k1:FrS (fun b=>S b\/T b) w' w2:=k.mono fun b e=>.inr e;exact h1.tr k1 fun b e=>.inl e
section
variable {w wx wy:World} {gx m1 m2:Nat} {t:Tp} {AO:Option Addr} {co:Nat} {AL:Option Addr} {cl:Nat} {A:Option Addr} {n cA gN cN kN gC cC kC:Nat} {Ns:List Nat} {Cs:List Int} {f1:Nat->Option Value} {f2:Nat×Nat->Option Value} {b1 b2:Nat}
theorem TkI.K(h:TkI w wx gx m1 m2 t AO co AL cl A n cA gN cN kN gC cC kC Ns Cs f1 f2 b1 b2)(hx:Ext wx wy):TkI w wy gx m1 m2 t AO co AL cl A n cA gN cN kN gC cC kC Ns Cs f1 f2 b1 b2:=
 ⟨h.ex.tr hx,h.tk.K hx,dB h.ns hx,dB h.cs hx,h.mp1.K hx,h.mp2.K hx,h.ne,h.lx,h.l1,h.l2,h.nm⟩
theorem TkI.node{g' c':Nat}{W':World}{a:Nat}(h:TkI w wx gx m1 m2 t AO co AL cl A n cA gN cN kN gC cC kC Ns Cs f1 f2 b1 b2)(own:W'.ownsRow w.heap.size 3 1 (.s (sA g') (kN+1) c') (kN+1) (ints Ns++[vI (a:Int)]))(gr:wx.grownBy W' (some gN))(nw:g'=gN\/g'=wx.heap.size):
  TkI w (W'.setCell (aD gx 5) (.s (sA g') (kN+1) c')) gx m1 m2 t AO co AL cl A n cA g' c' (kN+1) gC cC kC (Ns++[a]) Cs f1 f2 b1 b2/\W'.cell? (aD gx 5)=some (.s (sA gN) kN cN)/\W'.frozen? (aD gx 5)=false/\FrS (fun b=>b=gN\/b=gx) wx (W'.setCell (aD gx 5) (.s (sA g') (kN+1) c')):=by
 have k1:FrS (fun b=>b=gN) wx W':=eG gr fun g e=>(by injection e with e;exact e.symm);have qf:gx≠gN:=fun e=>aW h.ns (g:=gN) rfl (t:=323) (by decide) _ _ (e▸h.tk);have qe:gx≠gC:=fun e=>aW h.cs (g:=gC) rfl (t:=323) (by decide) _ _ (e▸h.tk);have qi:=(h.ns.lt gN rfl);have qj:=(h.cs.lt gC rfl);have qg:m1≠gN:=fun e=>(by (rcases h.ns.2 with⟨h3,_⟩|⟨g,cap,cur,h3,_,h5,_⟩);{cases h3};(injection h3 with h3;injection h3 with h3;injection h3 with h3);subst h3;exact h.mp1.not (t:=3) (by have h2:=h5;rw[<-e]at h2;exact h2));have qh:m2≠gN:=fun e=>(by (rcases h.ns.2 with⟨h3,_⟩|⟨g,cap,cur,h3,_,h5,_⟩);{cases h3};(injection h3 with h3;injection h3 with h3;injection h3 with h3);subst h3;exact h.mp2.not (t:=3) (by have h2:=h5;rw[<-e]at h2;exact h2));have qa:=k1.blk h.tk qf;have k2:FrS (fun b=>b=gx) W' (W'.setCell (aD gx 5) (.s (sA g') (kN+1) c')):=eG (bI W' gx 5 _) fun g e=>(by injection e with e;exact e.symm);have e5:=qa.cell 5;refine⟨⟨k2.ext (k1.ext h.ex fun b hb=>by have hb:b=gN:=hb;omega) fun b hb=>by have hb:b=gx:=hb;have:=h.lx;omega,qa.sT 5 _,?_,?_,?_,?_,?_,h.lx,h.l1,h.l2,h.nm⟩,e5,qa.frozen 5,frTr k1 k2⟩;{(have h1:ints (Ns++[a])=ints Ns++[vI (a:Int)]:=by unfold ints;rw[List.map_append];rfl);(rw[h1];refine k2.own own fun b hb e=>?_;have e:b=gx:=e;have hb:some g'=some b:=hb;injection hb with hb);(rcases nw with nw|nw);{omega};have:=h.tk.lt;omega};{refine k2.own (k1.own h.cs fun b hb e=>?_) fun b hb e=>?_;{have hb:some gC=some b:=hb;(injection hb with hb);have e:b=gN:=e;exact h.ne (by omega)};(have hb:some gC=some b:=hb;injection hb with hb);have e:b=gx:=e;omega};{refine h.mp1.same ?_;have hl:=h.mp1.lt;rw[k2.block m1 (yL hl k1.size) (fun e=>?_),k1.block m1 hl qg];have e:m1=gx:=e;exact h.mp1.not (t:=323) (by have h2:=h.tk;rw[<-e]at h2;exact h2)};{refine h.mp2.same ?_;have hl:=h.mp2.lt;rw[k2.block m2 (yL hl k1.size) (fun e=>?_),k1.block m2 hl qh];have e:m2=gx:=e;exact h.mp2.not (t:=323) (by have h2:=h.tk;rw[<-e]at h2;exact h2)};(rcases nw with nw|nw);{rw[nw];exact h.ne};omega
theorem TkI.cost{g' c':Nat}{W':World}{a:Int}(h:TkI w wx gx m1 m2 t AO co AL cl A n cA gN cN kN gC cC kC Ns Cs f1 f2 b1 b2)(own:W'.ownsRow w.heap.size 3 1 (.s (sA g') (kC+1) c') (kC+1) (aR Cs++[vI (a:Int)]))(gr:wx.grownBy W' (some gC))(nw:g'=gC\/g'=wx.heap.size):
  TkI w (W'.setCell (aD gx 6) (.s (sA g') (kC+1) c')) gx m1 m2 t AO co AL cl A n cA gN cN kN g' c' (kC+1) Ns (Cs++[a]) f1 f2 b1 b2/\W'.cell? (aD gx 6)=some (.s (sA gC) kC cC)/\W'.frozen? (aD gx 6)=false/\FrS (fun b=>b=gC\/b=gx) wx (W'.setCell (aD gx 6) (.s (sA g') (kC+1) c')):=by
 have k1:FrS (fun b=>b=gC) wx W':=eG gr fun g e=>(by injection e with e;exact e.symm);have qf:gx≠gC:=fun e=>aW h.cs (g:=gC) rfl (t:=323) (by decide) _ _ (e▸h.tk);have qe:gx≠gN:=fun e=>aW h.ns (g:=gN) rfl (t:=323) (by decide) _ _ (e▸h.tk);have qi:=(h.cs.lt gC rfl);have qj:=(h.ns.lt gN rfl);have qg:m1≠gC:=fun e=>(by (rcases h.cs.2 with⟨h3,_⟩|⟨g,cap,cur,h3,_,h5,_⟩);{cases h3};(injection h3 with h3;injection h3 with h3;injection h3 with h3);subst h3;exact h.mp1.not (t:=3) (by have h2:=h5;rw[<-e]at h2;exact h2));have qh:m2≠gC:=fun e=>(by (rcases h.cs.2 with⟨h3,_⟩|⟨g,cap,cur,h3,_,h5,_⟩);{cases h3};(injection h3 with h3;injection h3 with h3;injection h3 with h3);subst h3;exact h.mp2.not (t:=3) (by have h2:=h5;rw[<-e]at h2;exact h2));have qa:=k1.blk h.tk qf;have k2:FrS (fun b=>b=gx) W' (W'.setCell (aD gx 6) (.s (sA g') (kC+1) c')):=eG (bI W' gx 6 _) fun g e=>(by injection e with e;exact e.symm);have e5:=qa.cell 6;refine⟨⟨k2.ext (k1.ext h.ex fun b hb=>by have hb:b=gC:=hb;omega) fun b hb=>by have hb:b=gx:=hb;have:=h.lx;omega,qa.sT 6 _,?_,?_,?_,?_,?_,h.lx,h.l1,h.l2,h.nm⟩,e5,qa.frozen 6,frTr k1 k2⟩;{refine k2.own (k1.own h.ns fun b hb e=>?_) fun b hb e=>?_;{have hb:some gN=some b:=hb;(injection hb with hb);have e:b=gC:=e;exact h.ne (by omega)};(have hb:some gN=some b:=hb;injection hb with hb);have e:b=gx:=e;omega};{(have h1:aR (Cs++[a])=aR Cs++[vI a]:=by unfold aR;rw[List.map_append];rfl);(rw[h1];refine k2.own own fun b hb e=>?_;have e:b=gx:=e;have hb:some g'=some b:=hb;injection hb with hb);(rcases nw with nw|nw);{omega};have:=h.tk.lt;omega};{refine h.mp1.same ?_;have hl:=h.mp1.lt;rw[k2.block m1 (yL hl k1.size) (fun e=>?_),k1.block m1 hl qg];have e:m1=gx:=e;exact h.mp1.not (t:=323) (by have h2:=h.tk;rw[<-e]at h2;exact h2)};{refine h.mp2.same ?_;have hl:=h.mp2.lt;rw[k2.block m2 (yL hl k1.size) (fun e=>?_),k1.block m2 hl qh];have e:m2=gx:=e;exact h.mp2.not (t:=323) (by have h2:=h.tk;rw[<-e]at h2;exact h2)};(rcases nw with nw|nw);{rw[nw];exact h.ne};omega
end
theorem jz9{W}{B g:Nat}{t:TypeId}{v:Value}(h:Blk W g t #[v])(hb:B<=g):W.ownsRow B t 1 (.s (sA g) 1 1) 1 [v]:=
 ⟨rfl,.inr ⟨g,1,#[v],rfl,hb,h,yX _,by decide,rfl,rfl⟩⟩
theorem bL{w}{a b:Nat}{t u:TypeId}{cs ds:Array Value}(h:Blk w a t cs)(k:Blk w b u ds)(hne:t≠u):a≠b:=fun e=>by
 subst e;unfold Blk at h k;rw[h]at k;injection k with k
 injection k with _ k
 exact hne k
def tkW(W:World)(t:Tp)(AO:OA)(co:Nat)(AL:OA)(cl:Nat)(A:OA)(n cA:Nat)(fr:Nat):World:=
 ((((W.alloc (.cells #[vI (fr:Int)] 3)).alloc (.cells #[vI 0] 3)).alloc (.map #[] 0)).alloc (.map #[] 0)).alloc (.cells #[vI t.nodes,.s AO t.over.length co,.s AL t.links.length cl,zN,.s A n cA,.s (sA W.heap.size) 1 1,.s (sA (W.heap.size+1)) 1 1,.map (some (W.heap.size+1+1)),.map (some (W.heap.size+1+1+1))] 323)
theorem TkI.start w W t AO(co:Nat)AL(cl:Nat)A(n cA fr:Nat)(p:LN)(hx:Ext w W):
  TkI w (tkW W t AO co AL cl A n cA fr) (W.heap.size+1+1+1+1) (W.heap.size+1+1) (W.heap.size+1+1+1) t AO co AL cl A n cA W.heap.size 1 1 (W.heap.size+1) 1 1 (ndL t fr p 0) (ccL t p 0) (fun _=>none) (fun _=>none) 0 0/\Ext W (tkW W t AO co AL cl A n cA fr):=by
 have hs:=hx.size;have x4:=((((eR W).alloc (.cells #[vI (fr:Int)] 3)).alloc (.cells #[vI 0] 3)).alloc (.map #[] 0)).alloc (.map #[] 0);have x5:=x4.alloc (.cells #[vI t.nodes,.s AO t.over.length co,.s AL t.links.length cl,zN,.s A n cA,.s (sA W.heap.size) 1 1,.s (sA (W.heap.size+1)) 1 1,.map (some (W.heap.size+1+1)),.map (some (W.heap.size+1+1+1))] 323);have b1:=eN W 3 #[vI (fr:Int)];have b2:=eN (W.alloc (.cells #[vI (fr:Int)] 3)) 3 #[vI 0];rw[World.size_alloc]at b2;have m1:=MpG.made mA ((W.alloc (.cells #[vI (fr:Int)] 3)).alloc (.cells #[vI 0] 3));have m2:=MpG.made kO (((W.alloc (.cells #[vI (fr:Int)] 3)).alloc (.cells #[vI 0] 3)).alloc (.map #[] 0));have b5:=eN ((((W.alloc (.cells #[vI (fr:Int)] 3)).alloc (.cells #[vI 0] 3)).alloc (.map #[] 0)).alloc (.map #[] 0)) 323 #[vI t.nodes,.s AO t.over.length co,.s AL t.links.length cl,zN,.s A n cA,.s (sA W.heap.size) 1 1,.s (sA (W.heap.size+1)) 1 1,.map (some (W.heap.size+1+1)),.map (some (W.heap.size+1+1+1))];simp only[World.size_alloc]at b5 m1 m2;exact⟨⟨hx.tr x5,b5,jz9 ((((b1.alloc _).alloc _).alloc _).alloc _) hs,jz9 (((b2.alloc _).alloc _).alloc _) (by omega),(m1.K ((eR _).alloc _)).K ((eR _).alloc _),m2.K ((eR _).alloc _),by omega,by omega,by omega,by omega,by omega⟩,x5⟩
def FoP(w:World)(t:Tp)(AO:OA)(co:Nat)(AL:OA)(cl:Nat)(A:OA)(n cA fr:Nat)(p:LN)(e:Ending)(w':World):Prop:=
 ∃gx m1 m2 gN cN gC cC:Nat,e=.returned (.tuple #[.pointer (sA gx),vI 0])/\TkI w w' gx m1 m2 t AO co AL cl A n cA gN cN (n+1) gC cC (n+1) (ndL t fr p n) (ccL t p n) (fun _=>none) (fun _=>none) 0 0
theorem jzh0 t AO(co:Nat)AL(cl:Nat)A(n cA:Nat)(p:LN)(fr N:Nat)w
  (ht:aF w t AO co AL cl) (hv:aA t=true) (hN:t.nodes=(N:Int)) (hfr:fr<N) (hp:upW t [] p) (h0:∀a,p[0]?=some a->tlN t a=fr) (hA:Rd w A (ints p)) (hn:p.length=n) (hc:n<=cA) (hn2:n<=1000):
  Calls Tryz.prog 263 #[.agg #[vI t.nodes,.s AO t.over.length co,.s AL t.links.length cl],zN,.s A n cA,vI (fr:Int)] w (FoP w t AO co AL cl A n cA fr p):=by
 have hm:∀W,MkR W t none 0 []:=fun W=>⟨by intro h;exact(h rfl).elim,yX _,.inl rfl⟩;have G:=Gok.of hv;have VA:=Hx (fun(wx:World) (hx:Ext w wx)=>nX t AO co AL cl wx (ht.K hx) hv);have FI:=Hx (fun(wx:World) (hx:Ext w wx)=>jz3 t AO co AL cl none 0 [] wx (ht.K hx) (hm wx));have TP:=Hx (fun(wx:World) (hx:Ext w wx)=>jzy t AO co AL cl [] A n cA p fr N wx (ht.K hx) hv hN hfr hp h0 (hA.K hx) hn hc (by omega));have HE:=Hx (fun(wx:World) (a:Nat) (hx:Ext w wx) (ha:a<2*t.links.length)=>sR t AO co AL cl wx (ht.K hx) hv a ha);have CO:=Hx (fun(wx:World) (a:Nat) (hx:Ext w wx) (ha:a<2*t.links.length)=>jzhs t AO co AL cl wx (ht.K hx) hv a ha);have DN:=Hx (fun(wx:World) (a:Nat) (ha:a<2*t.links.length)=>jz4 t none 0 [] wx hv (hm wx) a ha);have UP:Hid (∀j a,p[j]?=some a->a<2*t.links.length/\aU [] a=false/\1<=csZ t a/\csZ t a<=65535):=Hx (fun j a h=>⟨(hp.at_ h).1,(hp.at_ h).2.1,G.cs a (hp.at_ h).1⟩);have RL:=Hx hA;have HN:=Hx hn;obtain⟨b0,e0⟩:=bF w #[vI t.nodes,.s AO t.over.length co,.s AL t.links.length cl] 25;obtain⟨⟨i0,i1,i2⟩,g0,g1,g2⟩:=b0.t3;have BB:=Hx b0;clear b0 ht hv hm hN hfr hp h0 hA hn G;go_enter Tryz.func263,Tryz.ntmps263;(go_wp2_with fail);refine(VA.o _ e0).mono ?_;rintro e w1 ⟨rfl,qD⟩;have E1:=Hx (kQa (BB.o.K qD) (e0.tr qD));clear qD BB e0 i0 i1 i2 g0 g1 g2 VA;obtain⟨⟨i0,i1,i2⟩,g0,g1,g2⟩:=E1.o.1.t3;(go_wp2_with fail);refine(FI.o _ E1.o.2).mono ?_;rintro e w2 ⟨rfl,qy⟩;have E2:=Hx (kQa (E1.o.1.K qy) (E1.o.2.tr qy));clear qy E1 i0 i1 i2 g0 g1 g2 FI;obtain⟨⟨i0,i1,i2⟩,g0,g1,g2⟩:=E2.o.1.t3;(go_wp2_with fail);refine(TP.o _ E2.o.2).mono ?_;rintro e w3 ⟨x,y,rfl,qB⟩;have E3:=Hx (kQa (E2.o.1.K qB) (E2.o.2.tr qB));clear qB E2 i0 i1 i2 g0 g1 g2 TP;obtain⟨⟨i0,i1,i2⟩,g0,g1,g2⟩:=E3.o.1.t3;have qA:∀W:World,(Instr.makeMap 320 none).run Tryz.prog W=.ok (.map (some W.heap.size)) (W.alloc (.map #[] 0)):=fun W=>rfl;have qC:∀W:World,(Instr.makeMap 321 none).run Tryz.prog W=.ok (.map (some W.heap.size)) (W.alloc (.map #[] 0)):=fun W=>rfl;(go_upto_region 7 with fail);have TS:=Hx (TkI.start w w3 t AO co AL cl A n cA fr p E3.o.2);have T4:Hid (TkI w (tkW w3 t AO co AL cl A n cA fr) (w3.heap.size+1+1+1+1) (w3.heap.size+1+1) (w3.heap.size+1+1+1) t AO co AL cl A n cA w3.heap.size 1 1 (w3.heap.size+1) 1 1 (ndL t fr p 0) (ccL t p 0) (fun _=>none) (fun _=>none) 0 0/\Blk (tkW w3 t AO co AL cl A n cA fr) w.heap.size 25 #[vI t.nodes,.s AO t.over.length co,.s AL t.links.length cl]):=Hx (⟨TS.o.1,E3.o.1.K TS.o.2⟩);clear TS E3 qA qC i0 i1 i2 g0 g1 g2;change Code.wp _ _ _ _ (tkW w3 t AO co AL cl A n cA fr);generalize tkW w3 t AO co AL cl A n cA fr=w4 at*;generalize w3.heap.size+1+1+1+1=gx at*;generalize w3.heap.size+1+1+1=m2 at*;generalize w3.heap.size+1+1=m1 at*;generalize w3.heap.size+1=gC0 at*;generalize w3.heap.size=gN0 at*;go_wp2;go_loopg [14,16,49] n (fun m c _ it wx=>∃j gN cN gC cC:Nat,n-j=m/\j<=n/\c=vI (ccP t p j)/\it=vI (j:Int)/\0<=ccP t p j/\ccP t p j<=65535*(j:Int)/\Hid (TkI w wx gx m1 m2 t AO co AL cl A n cA gN cN (j+1) gC cC (j+1) (ndL t fr p j) (ccL t p j) (fun _=>none) (fun _=>none) 0 0/\Blk wx w.heap.size 25 #[vI t.nodes,.s AO t.over.length co,.s AL t.links.length cl]));(case atStart=>exact⟨0,gN0,1,gC0,1,rfl,yZ _,by unfold ccP;rw[List.take_zero];rfl,rfl,by unfold ccP;rw[List.take_zero];exact Int.le_refl _,by unfold ccP;rw[List.take_zero];exact Int.le_refl _,T4⟩);obtain⟨j,gN,cN,gC,cC,rfl,hj,rfl,rfl,qM,qR,I⟩:=hrel;clear T4;by_cases qK:j<n
 ·(have qz:j<p.length:=by rw[HN.o];exact qK);obtain⟨b,o,rfl,hb,qE⟩:=RL.o.ints_ qz;obtain⟨a,ha⟩:∃a,p[j]?=some a:=⟨_,yG qz⟩;rw[ha,kQ1]at qE;have y0:=aH I.o.1.ex qE;have UA:=Hx (UP.o j a ha);have CS:=Hx (jz8 (t:=t) ha);have NS:=Hx (jzhx (t:=t) (fr:=fr) ha);have jN:(j:Int)<(n:Int):=(by omega);have DA:=Hx (DN.o wr a UA.o.1);rw[UA.o.2.1]at DA;clear hb qE ha qz;(go_wp2_with fail);(refine DA.o.mono ?_;rintro e w5 ⟨rfl,rfl⟩;clear y0 DA;obtain⟨⟨i0,i1,i2⟩,g0,g1,g2⟩:=I.o.2.t3;have qH:=Hx (CO.o _ a I.o.1.ex UA.o.1);have qN:=UA.o.2.2.1;have qO:=UA.o.2.2.2;generalize csZ t a=ca at*;generalize hcc:ccP t p j=c at*;clear hcc;have wk:wrap64 (c+ca)=c+ca:=by unfold wrap64;omega);(go_wp2_with fail);refine qH.o.mono ?_;rintro e w7 ⟨rfl,x7⟩;have J7:=Hx (kQa (I.o.1.K x7) (I.o.2.K x7));clear x7 I qH i0 i1 i2 g0 g1 g2;have qe:Hid (∀wx,Ext w7 wx->wx.cell? (aD gx 5)=some (.s (sA gN) (j+1) cN)/\wx.cell? (aD w.heap.size 0)=some (vI t.nodes)/\wx.cell? (aD w.heap.size 1)=some (.s AO t.over.length co)/\wx.cell? (aD w.heap.size 2)=some (.s AL t.links.length cl)):=Hx (fun wx hx=>⟨(J7.o.1.tk.K hx).cell 5,(J7.o.2.K hx).t3.1⟩);have XD:Hid (Ext w7 w7.drew):=Hx ((eR w7).drewN 1);have HSW:=Hx (qe.o _ XD.o);(go_upto_region 14 with fail);(refine wX qe 12 ?_;refine wP 0 rfl HSW.o ?_;try simp only[Act.put,yA,yB,yC,yD,yE,yF]);refine wP 1 rfl HSW.o ?_;refine wP 2 rfl HSW.o ?_;refine wP 3 rfl HSW.o ?_;refine wV 4 rfl HSW.o ?_;(refine wV 5 rfl HSW.o ?_;try simp only[Act.put,yA,yB,yC,yD,yE,yF]);refine wP 6 rfl HSW.o ?_;try simp only[Act.put,yA,yB,yC,yD,yE,yF]
  refine wC 7 rfl (fun KK hK=>?_);go_simp;refine(HE.o _ a (J7.o.1.ex.tr XD.o) UA.o.1).mono ?_;rintro e w8 ⟨rfl,x8⟩;have X8:=Hx (XD.o.tr x8);have qa:=Hx (qe.o _ X8.o);refine hK.o _ _ qa.o ?_;clear hK KK HSW x8 XD;have HSW:=qa;clear qa;refine wC 8 rfl (fun KK hK=>?_);go_simp;have X9:Hid (Ext w7 (w8.alloc (.cells #[vI (hdN t a:Int)] 3))):=Hx (X8.o.alloc _);have qa:=Hx (qe.o _ X9.o);refine hK.o _ _ qa.o ?_;clear hK KK HSW;have HSW:=qa;clear qa;have BW:Hid (Blk (w8.alloc (.cells #[vI (hdN t a:Int)] 3)) w8.heap.size 3 #[vI (hdN t a:Int)]):=Hx (eN w8 _ _);clear X8;generalize w8.alloc (.cells #[vI (hdN t a:Int)] 3)=W9 at*;generalize w8.heap.size=gb at*;have T9:=Hx (kQa (J7.o.1.K X9.o) (J7.o.2.K X9.o));clear J7 X9 qe;have qJ:=T9.o.1.ex.size;refine wC 9 rfl (fun KK hK=>?_);refine jzh W9 28 3 _ 1 8 _ _ rfl Tryz.underlying28 Tryz.info3 rfl (by decide) w.heap.size (.s (sA gN) (j+1) cN) (j+1) (ints (ndL t fr p j)) (by rfl) T9.o.1.ns [vI (hdN t a:Int)] rfl (by simp[Value.oneCell']) gb (by rfl) BW.o (by unfold maxLen;omega) (by omega) qJ ?_;intro g7 c7 qi qo qf qn;have qg:g7=gN\/g7=W9.heap.size:=qn.imp (fun h=>by have h:some g7=some gN:=h;injection h) id;have qw:=Hx (T9.o.1.node qo qf qg);have qm:=bL T9.o.2 T9.o.1.tk (by decide);have qk:w.heap.size≠gN:=fun e=>aW T9.o.1.ns (g:=gN) rfl (t:=25) (by decide) _ _ (e▸T9.o.2);have qI:=Hx (FrS.blk (S:=fun b=>b=gN) (eG qf fun g e=>by injection e with e;exact e.symm) T9.o.2 qk);have qx:=Hx (show TkI w (qi.setCell (aD gx 5) (.s (sA g7) (j+1+1) c7)) gx m1 m2 t AO co AL cl (some (aD b o)) n cA g7 c7 (j+1+1) gC cC (j+1) (ndL t fr p (j+1)) (ccL t p j) (fun _=>none) (fun _=>none) 0 0/\Blk (qi.setCell (aD gx 5) (.s (sA g7) (j+1+1) c7)) w.heap.size 25 #[vI t.nodes,.s AO t.over.length co,.s AL t.links.length cl]from
   ⟨by rw[jzhy,NS.o];exact qw.o.1,qw.o.2.2.2.blk T9.o.2 fun h=>h.elim qk qm⟩)
  (have qa:Hid (qi.cell? (aD gx 5)=some (.s (sA gN) (j+1) cN)/\qi.cell? (aD w.heap.size 0)=some (vI t.nodes)/\qi.cell? (aD w.heap.size 1)=some (.s AO t.over.length co)/\qi.cell? (aD w.heap.size 2)=some (.s AL t.links.length cl)):=Hx (⟨qw.o.2.1,qI.o.t3.1⟩);refine hK.o _ _ qa.o ?_;clear hK KK HSW qo qf qn qg qm qk;have HSW:=qa;clear qa;try simp only[Act.put,yD,yE,yF]);(have z0:qi.frozen? (aD gx 5)=false:=qw.o.2.2.1;have y0:qi.cell? (aD gx 5)=some (.s (sA gN) (j+1) cN):=HSW.o.1;refine wP 10 rfl HSW.o ?_;try simp only[Act.put,yA,yB,yC,yD,yE,yF]);(refine wP 11 rfl HSW.o ?_;try simp only[Act.put,yA,yB,yC,yD,yE,yF]);refine aV (by kernel_rfl) rfl (by rfl) (fun KK hK=>?_);go_simp;refine hK.o _ _ ?_;clear hK KK HSW z0 y0 T9 qw qI BW qJ;refine wpAny_done (by kernel_rfl) ?_ _;generalize qi.setCell (aD gx 5) (.s (sA g7) (j+1+1) c7)=W11 at*;have y0:=qx.o.1.tk.cell 6;have BC:=Hx (eN W11 3 #[vI (c+ca)]);have qh:Hid (TkI w (W11.alloc (.cells #[vI (c+ca)] 3)) gx m1 m2 t AO co AL cl (some (aD b o)) n cA g7 c7 (j+1+1) gC cC (j+1) (ndL t fr p (j+1)) (ccL t p j) (fun _=>none) (fun _=>none) 0 0/\Blk (W11.alloc (.cells #[vI (c+ca)] 3)) w.heap.size 25 #[vI t.nodes,.s AO t.over.length co,.s AL t.links.length cl]):=Hx (⟨qx.o.1.K ((eR _).alloc _),qx.o.2.alloc _⟩);have qF:=qh.o.1.ex.size;clear qx;go_wp2_with (at_builtin;refine dW _ 28 3 _ 1 8 rfl _ _ rfl Tryz.underlying28 Tryz.info3 rfl (by decide) w.heap.size (.s (sA gC) (j+1) cC) (j+1) (aR (ccL t p j)) rfl qh.o.1.cs [vI (c+ca)] rfl (by simp[Value.oneCell']) W11.heap.size rfl BC.o (by unfold maxLen;omega) (by omega) qF ?_)
  intro g9 c9 qG qt qj qu;have qg:g9=gC\/g9=(W11.alloc (.cells #[vI (c+ca)] 3)).heap.size:=qu.imp (fun h=>by have h:some g9=some gC:=h;injection h) (fun h=>by rw[World.size_alloc];exact h);have qp:=Hx (qh.o.1.cost qt qj qg);have qm:=bL qh.o.2 qh.o.1.tk (by decide);have qk:w.heap.size≠gC:=fun e=>aW qh.o.1.cs (g:=gC) rfl (t:=25) (by decide) _ _ (e▸qh.o.2);have qL:=Hx (show TkI w (qG.setCell (aD gx 6) (.s (sA g9) (j+1+1) c9)) gx m1 m2 t AO co AL cl (some (aD b o)) n cA g7 c7 (j+1+1) g9 c9 (j+1+1) (ndL t fr p (j+1)) (ccL t p (j+1)) (fun _=>none) (fun _=>none) 0 0/\Blk (qG.setCell (aD gx 6) (.s (sA g9) (j+1+1) c9)) w.heap.size 25 #[vI t.nodes,.s AO t.over.length co,.s AL t.links.length cl]from
   ⟨by rw[jzhz,CS.o];exact qp.o.1,qp.o.2.2.2.blk qh.o.2 fun h=>h.elim qk qm⟩)
  have z1:=qp.o.2.1;have z2:=qp.o.2.2.1;clear qt qj qu qg qh BC qF qm qk qp y0;go_wp2;go_roundg (n-(j+1));(case measure=>omega);exact⟨j+1,g7,c7,g9,c9,rfl,by omega,by rw[CS.o],by go_num,by rw[CS.o];omega,by rw[CS.o];omega,qL⟩
 obtain rfl:j=n:=(by omega);have F:Hid (FoP w t AO co AL cl A j cA fr p (.returned (.tuple #[.pointer (sA gx),vI 0])) wr):=Hx (⟨gx,m1,m2,gN,cN,gC,cC,rfl,I.o.1⟩);clear I;go_wp2;exact bodyPost_ret (v:=.tuple #[.pointer (sA gx),vI 0]) (by simp[results,Tryz.results263,go_sem]) rfl F.o
end Fo
end Go.Proofs.YtllmekijiohgmaaGreatDoor
namespace Go.Proofs.YtllmekijiohgmaaGreatDoor
namespace Fo
section
variable {A N:Nat} {tl hd:Nat->Nat} {cs:Nat->Int} {ok:Nat->Bool} {d:Nat} {f:Nat->Int}
structure OrB(N:Nat)(f:Nat->Int)(L:LN):Prop where
 perm:L.Perm ((List.range N).filter fun n=>decide (0<=f n))
 up:∀(i j x y:Nat),i<j->L[i]?=some x->L[j]?=some y->f x<=f y
theorem OrB.mem{L:LN}(h:OrB N f L){x:Nat}:x∈L↔x<N/\0<=f x:=by
 rw[h.perm.mem_iff,List.mem_filter,vX,decide_eq_true_eq]
theorem OrB.nodup{L:LN}(h:OrB N f L):L.Nodup:=h.perm.nodup_iff.2 (List.nodup_range.filter _)
theorem OrB.new{L:LN}(h:OrB N f L){i m:Nat}(hi:L[i]?=some m):m∉L.take i:=fun hm=>by
 obtain⟨j,hj⟩:=List.getElem?_of_mem hm;have qa:j<i:=(by have:=(yH.1 hj).1;rw[xF]at this;omega);rw[xG,if_pos qa]at hj;have h1:=(yH.1 hi);have h2:=(yH.1 hj);obtain⟨a1,a2⟩:=h1;obtain⟨b1,b2⟩:=h2;have h3:=List.pairwise_iff_getElem.1 h.nodup j i b1 a1 qa;exact h3 (b2.trans a2.symm)
theorem OrB.before{L:LN}(h:OrB N f L)(hcs:∀a,a<A->1<=cs a)(hhd:∀a,a<A->hd a<N){i m a:Nat}(hi:L[i]?=some m)(ha:a∈nxt A tl hd cs ok d f m):hd a∈L.take i:=by
 obtain⟨h1,h2⟩:=fE hcs ha;have h3:=h.mem.2 ⟨hhd a (dY.1 ha).1,h2⟩;obtain⟨j,hj⟩:=List.getElem?_of_mem h3;have qa:j<i:=(by (rcases Nat.lt_trichotomy j i with e|e|e);{exact e};{subst e;(rw[hj]at hi;injection hi with hi);rw[hi]at h1;omega};have:=h.up i j m (hd a) e hi hj;omega);exact yJ (i:=j) (by rw[xG,if_pos qa];exact hj)
structure CtI(A N:Nat)(tl hd:Nat->Nat)(cs:Nat->Int)(ok:Nat->Bool)(d:Nat)(f:Nat->Int)(pre C:LN):Prop where
 len:C.length=N
 at_:∀x,x<N->C[x]?.getD 0=if x∈pre then cnt A tl hd cs ok d f x else if x=d then 1 else 0
theorem CtI.start(hd':d<N):CtI A N tl hd cs ok d f [] ((List.replicate N 0).set d 1):=
 ⟨by rw[yV,xC],fun x hx=>by
  rw[if_neg (by simp)];by_cases e:x=d
  ·subst e
   rw[yM (by rw[xC];exact hx),if_pos rfl];rfl
  ·rw[vN (fun h=>e h.symm),xB,if_pos hx,if_neg e];rfl⟩
def eL(c:Nat->Nat)(l:LN)(s:Nat):Nat:=l.foldl (fun s a=>min 2 (s+c a)) s
theorem sS{c:Nat->Nat}:∀(l:LN) (s:Nat),s<=2->eL c l s<=2
 | [],_,h=>h
 |a::l,s,_=>sS l (min 2 (s+c a)) (by omega)
theorem jzh1{c:Nat->Nat}{l:LN}{s k a:Nat}(h:l[k]?=some a):eL c (l.take (k+1)) s=min 2 (eL c (l.take k) s+c a):=by
 unfold eL;rw[kQr,h,kZt];rfl
theorem CtI.step{L C:LN}{i m:Nat}(h:CtI A N tl hd cs ok d f (L.take i) C)(ho:OrB N f L)(hcs:∀a,a<A->1<=cs a)(hhd:∀a,a<A->hd a<N)(hi:L[i]?=some m):
  CtI A N tl hd cs ok d f (L.take (i+1)) (C.set m (eL (fun a=>C[hd a]?.getD 0) (nxt A tl hd cs ok d f m) (C[m]?.getD 0))):=by
 have hm:=ho.mem.1 (yJ hi);have hn:=ho.new hi;have e1:eL (fun a=>C[hd a]?.getD 0) (nxt A tl hd cs ok d f m) (C[m]?.getD 0)=cnt A tl hd cs ok d f m:=(by rw[h.at_ m hm.1,if_neg hn];unfold eL;rw[nH (c':=fun a=>cnt A tl hd cs ok d f (hd a)) _ _ fun a ha=>by have h1:=ho.before hcs hhd hi ha;rw[h.at_ (hd a) (hhd a (dY.1 ha).1),if_pos h1]];rw[kE hcs m];by_cases e:m=d;{subst e;rw[if_pos rfl,if_pos rfl,rR];rfl};rw[if_neg e,if_neg e];rfl);rw[e1];refine⟨by rw[yV];exact h.len,fun x hx=>?_⟩;rw[kQr,hi];by_cases e:x=m;{subst e;rw[yM (by rw[h.len];exact hx),if_pos (by simp)];rfl};rw[vN (fun h=>e h.symm),h.at_ x hx];have:(x∈L.take i++(some m).toList)↔x∈L.take i:=(by simp[e]);simp only[this]
theorem CtI.final{L C:LN}{n:Nat}(h:CtI A N tl hd cs ok d f L C)(ho:OrB N f L)(hcs:∀a,a<A->1<=cs a)(hn:n<N)(h0:f d=0):C[n]?.getD 0=cnt A tl hd cs ok d f n:=by
 rw[h.at_ n hn];by_cases e:n∈L;{rw[if_pos e]};rw[if_neg e];have h1:f n<0:=(by have:¬(n<N/\0<=f n):=fun h2=>e (ho.mem.2 h2);omega);rw[kE hcs n];by_cases e2:n=d;{rw[e2]at h1;omega};rw[if_neg e2,if_neg e2,wK hcs h1];rfl
theorem CtI.le{L C:LN}(h:CtI A N tl hd cs ok d f L C)(hcs:∀a,a<A->1<=cs a){x:Nat}(hx:x<N):C[x]?.getD 0<=2:=by
 rw[h.at_ x hx];split;{rw[kE hcs];split;{omega};exact sS _ 0 (by omega)};split <;> omega
end
end Fo
open Go.RowKit
namespace Fo
def eH(x y:Int):Int:=if x<y then-1 else if x>y then 1 else 0
theorem jzaa(x:Int)w:Calls Tryz.prog 288 #[vI x] w fun e w'=>e=.returned (.bool false)/\w=w':=by
 have h:(x !=x)=false:=bne_self_eq_false _;go_enter Tryz.func288,Tryz.ntmps288;go_wp2;go_ret;exact⟨rfl,rfl⟩
theorem jzab(x y:Int)w:Calls Tryz.prog 285 #[vI x,vI y] w fun e w'=>e=.returned (vI (eH x y))/\w=w':=by
 have NX:=Hx (jzaa x w);have NY:=Hx (jzaa y w);go_enter Tryz.func285,Tryz.ntmps285;(go_wp2_with fail);refine NX.o.mono ?_;rintro e w1 ⟨rfl,rfl⟩;clear NX;(go_wp2_with fail);refine NY.o.mono ?_;rintro e w2 ⟨rfl,rfl⟩;clear NY;by_cases h1:x<y;{have HV:Hid (eH x y= -1):=Hx (if_pos h1);go_wp2;go_ret;exact⟨by rw[HV.o];rfl,rfl⟩};by_cases h2:x>y;{have HV:=Hx (show eH x y=1 by unfold eH;rw[if_neg h1,if_pos h2]);have h3:y<x:=h2;go_wp2;go_ret;exact⟨by rw[HV.o];rfl,rfl⟩};have HV:=Hx (show eH x y=0 by unfold eH;rw[if_neg h1,if_neg h2]);have h3:¬y<x:=h2;go_wp2;go_ret;exact⟨by rw[HV.o];rfl,rfl⟩
def orZ(x y:Int):Int:=if x=0 then y else x
theorem jzh2(x y:Int)(g:Nat)w(hb:Blk w g 3 #[vI x,vI y]):Calls Tryz.prog 284 #[.s (sA g) 2 2] w fun e w'=>e=.returned (vI (orZ x y))/\w=w':=by
 have c0:=hb.cell 0;have c1:=hb.cell 1;clear hb;go_enter Tryz.func284,Tryz.ntmps284;go_wp2;go_loopg [8] 2 (fun m it wr=>∃i:Nat,2-i=m/\i<=2/\it=vI (i:Int)/\(i=1->x=0)/\(i=2->x=0/\y=0)/\w=wr);(case atStart=>exact⟨0,rfl,by omega,rfl,fun h=>by omega,fun h=>by omega,rfl⟩);(obtain⟨i,rfl,hi,rfl,h1,h2,rfl⟩:=hrel;rcases(show i=0\/i=1\/i=2 by omega)with rfl|rfl|rfl);{clear h1 h2 hi;by_cases e:x=0;{(have ne:(x !=0)=false:=by rw[e];rfl);go_wp2;go_roundg 1;(case measure=>omega);exact⟨1,rfl,by omega,rfl,fun _=>e,fun h=>by omega,rfl⟩};have ne:(x !=0)=true:=bne_iff_ne.2 e;have HV:Hid (orZ x y=x):=Hx (if_neg e);go_wp2;go_ret;exact⟨by rw[HV.o];rfl,rfl⟩};{have ex:=h1 rfl;clear h1 h2 hi;by_cases e:y=0;{(have ne:(y !=0)=false:=by rw[e];rfl);go_wp2;go_roundg 0;(case measure=>omega);exact⟨2,rfl,by omega,rfl,fun h=>by omega,fun _=>⟨ex,e⟩,rfl⟩};have ne:(y !=0)=true:=bne_iff_ne.2 e;have HV:Hid (orZ x y=y):=Hx (if_pos ex);go_wp2;go_ret;exact⟨by rw[HV.o];rfl,rfl⟩};obtain⟨ex,ey⟩:=h2 rfl;have HV:=Hx (show orZ x y=0 by unfold orZ;rw[if_pos ex,ey]);clear h1 h2 hi ex ey;go_wp2;go_ret;exact⟨by rw[HV.o];rfl,rfl⟩
def scZ(ds:List Int)(a b:Nat):Int:=orZ (eH (aI ds b) (aI ds a)) (eH (a:Int) (b:Int))
theorem jzh3(g gd N:Nat)(ds:List Int)(a b:Nat)(w:World)(hg:g<w.heap.size)(hgd:gd<w.heap.size)(hc:w.cell? (aD g 0)=some (.s (sA gd) N N))(hd:∀i,i<N->w.cell? (aD gd i)=some (vI (aI ds i)))(ha:a<N)(hb:b<N):
  Calls Tryz.prog 283 #[vI (a:Int),vI (b:Int),.pointer (sA g)] w fun e w'=>e=.returned (vI (scZ ds a b))/\∃o:Obj,w'=(w.drew).alloc o:=by
 have ca:=hd a ha;have cb:=hd b hb;have HV:Hid (scZ ds a b=orZ (eH (aI ds b) (aI ds a)) (eH (a:Int) (b:Int))):=Hx (rfl);generalize aI ds a=x at*;generalize aI ds b=y at*;generalize scZ ds a b=z at*;have aN:(a:Int)<(N:Int):=(by omega);have bN:(b:Int)<(N:Int):=(by omega);have qa:=Hx (show∀wx,Ext w wx->wx.cell? (aD g 0)=some (.s (sA gd) N N)/\wx.cell? (aD gd a)=some (vI x)/\wx.cell? (aD gd b)=some (vI y)from fun wx hx=>
  ⟨(hx.cell (p:=(aD g 0)) hg).trans hc,(hx.cell (p:=(aD gd a)) hgd).trans ca,(hx.cell (p:=(aD gd b)) hgd).trans cb⟩)
 clear hd hc ca cb hg hgd
 go_enter Tryz.func283,Tryz.ntmps283
 go_upto_region 1 with fail
 have HSW:=Hx (qa.o _ ((eR w).drewN 1));refine wX qa 14 ?_;refine wV 0 rfl HSW.o ?_;try simp only[Act.put,yA,yB,yC,yD,yE,yF]
 refine wP 1 rfl HSW.o ?_;try simp only[Act.put,yA,yB,yC,yD,yE,yF]
 refine wP 2 rfl HSW.o ?_;try simp only[Act.put,yA,yB,yC,yD,yE,yF]
 refine wV 3 rfl HSW.o ?_;try simp only[Act.put,yA,yB,yC,yD,yE,yF]
 refine wV 4 rfl HSW.o ?_;try simp only[Act.put,yA,yB,yC,yD,yE,yF]
 refine wP 5 rfl HSW.o ?_;try simp only[Act.put,yA,yB,yC,yD,yE,yF]
 refine wP 6 rfl HSW.o ?_;try simp only[Act.put,yA,yB,yC,yD,yE,yF]
 refine wV 7 rfl HSW.o ?_;try simp only[Act.put,yA,yB,yC,yD,yE,yF]
 refine wP 9 rfl HSW.o ?_;try simp only[Act.put,yA,yB,yC,yD,yE,yF]
 refine wP 10 rfl HSW.o ?_;try simp only[Act.put,yA,yB,yC,yD,yE,yF]
 refine wC 8 rfl (fun KK hK=>?_);go_simp;refine(jzab y x _).mono ?_;rintro e w1 ⟨rfl,rfl⟩;refine hK.o _ _ HSW.o ?_;clear hK KK;try simp only[Act.put,yA,yB,yC,yD,yE,yF]
 refine wC 11 rfl (fun KK hK=>?_);go_simp;refine(jzab (a:Int) (b:Int) _).mono ?_;rintro e w1 ⟨rfl,rfl⟩;refine hK.o _ _ HSW.o ?_;clear hK KK;try simp only[Act.put,yA,yB,yC,yD,yE,yF]
 refine wC 12 rfl (fun KK hK=>?_);go_simp;have BB:=Hx (eN w.drew 3 #[vI (eH y x),vI (eH (a:Int) (b:Int))]);have HSW:=Hx (qa.o _ (((eR w).drewN 1).alloc (.cells #[vI (eH y x),vI (eH (a:Int) (b:Int))] 3)));refine hK.o _ _ HSW.o ?_;clear hK KK;try simp only[Act.put,yA,yB,yC,yD,yE,yF]
 refine wC 13 rfl (fun KK hK=>?_);go_simp;refine(jzh2 _ _ _ _ BB.o).mono ?_;rintro e w1 ⟨rfl,rfl⟩;refine hK.o _ _ HSW.o ?_;clear hK KK;try simp only[Act.put,yA,yB,yC,yD,yE,yF]
 refine aV (by kernel_rfl) rfl (by rfl) (fun KK hK=>?_);go_simp;refine hK.o _ _ ?_;clear hK KK;refine wpAny_done (by kernel_rfl) ?_ _;go_wp2;go_ret;exact⟨by rw[HV.o];rfl,_,rfl⟩
theorem nZ(ds:List Int)(a b:Nat):scZ ds a b<0↔aI ds b<aI ds a\/(aI ds b=aI ds a/\a<b):=by
 unfold scZ orZ eH;generalize aI ds a=x;generalize aI ds b=y;by_cases h1:y<x;{rw[if_pos h1];simp;omega};rw[if_neg h1];by_cases h2:y>x;{rw[if_pos h2];simp;omega};rw[if_neg h2];simp only[if_true];by_cases h3:(a:Int)<(b:Int);{rw[if_pos h3];simp;omega};rw[if_neg h3];split <;> omega
section
open Go.Sort
variable {α:Type} [Inhabited α] {enc:α->Value} {w W:World} {blk off:Nat} {dk:Array α}
theorem sT(h:SW enc w blk off dk W):FrS (fun b=>b=blk) w W:=by
 obtain⟨n,os,rfl⟩:=h;refine⟨rfl,rfl,rfl,?_,fun b hb hne=>?_⟩;{unfold sortWorld;rw[size_grow,size_putRow];show w.heap.size<=w.heap.size+_;omega};unfold sortWorld;rw[heap_grow_old _ _ (by rw[size_putRow];exact hb)];show(w.heap.modify blk _)[b]?=_;rw[Array.getElem?_modify,if_neg (fun e=>hne e.symm)]
end
theorem jzh4(g gd N gl:Nat)(ds:List Int)(w:World)(hne:g≠gl)(hne2:gd≠gl)(hg:g<w.heap.size)(hgd:gd<w.heap.size)(hc:w.cell? (aD g 0)=some (.s (sA gd) N N))(hd:∀i,i<N->w.cell? (aD gd i)=some (vI (aI ds i)))(size:Nat)(inh:Inhabited (Fin N)):
  CmpLays1 Tryz.prog 283 #[.pointer (sA g)] (fun x:Fin N=>Value.int .i64 ((x.val:Nat):Int)) (fun x y=>scZ ds x.val y.val) gl 0 size w:=by
 intro m os dk _ x y;have k:FrS (fun b=>b=gl) w (sortWorld (fun x:Fin N=>Value.int .i64 ((x.val:Nat):Int)) w gl 0 m dk os):=sT ⟨m,os,rfl⟩;generalize sortWorld (fun x:Fin N=>Value.int .i64 ((x.val:Nat):Int)) w gl 0 m dk os=W at*;refine(jzh3 g gd N ds x.val y.val W (yL hg k.size) (yL hgd k.size) ((World.cell?_of_block (a:=(aD g 0)) (k.block g hg hne)).trans hc) (fun i hi=>(World.cell?_of_block (a:=(aD gd i)) (k.block gd hgd hne2)).trans (hd i hi)) x.isLt y.isLt).mono ?_;rintro e w' ⟨h1,o,h2⟩;exact⟨h1,1,#[o],by rw[h2,Go.Sort.alloc_eq_grow];rfl⟩
theorem jzh5(ds:List Int)(N:Nat):Go.Sort.SWO (ltOf fun x y:Fin N=>scZ ds x.val y.val):=by
 refine⟨fun x=>?_,fun x y z h1 h2=>?_,fun x y z h1 h2=>?_⟩;{unfold ltOf;rw[decide_eq_false_iff_not,nZ];omega};{unfold ltOf at*;rw[decide_eq_true_iff,nZ]at*;omega};unfold ltOf at*;rw[decide_eq_false_iff_not,nZ]at*;omega
structure SoP(w:World)(gl:Nat)(ds:List Int)(l l':LN)(w':World):Prop where
 perm:l'.Perm l
 down:∀(i j x y:Nat),i<j->l'[i]?=some x->l'[j]?=some y->aI ds y<=aI ds x
 cell:∀(i x:Nat),l'[i]?=some x->w'.cell? (aD gl i)=some (vI (x:Int))/\w'.frozen? (aD gl i)=false
 fr:FrS (fun b=>b=gl) w w'
theorem jzh6(gl N:Nat)(ds:List Int)(l:LN)(hl:∀x∈l,x<N)(inh:Inhabited (Fin N))(w:World)(hblk:gl<w.heap.size)(hrow:∀(i x:Nat),l[i]?=some x->w.cell? (aD gl i)=some (vI (x:Int))/\w.frozen? (aD gl i)=false):
  ∃d0:Array (Fin N),d0.size=l.length/\Row1 (fun x:Fin N=>Value.int .i64 ((x.val:Nat):Int)) w gl 0 d0/\∀W,SW (fun x:Fin N=>Value.int .i64 ((x.val:Nat):Int)) w gl 0 (Go.Sort.insertionSort (ltOf fun x y:Fin N=>scZ ds x.val y.val) d0 0 l.length) W->∃l',SoP w gl ds l l' W:=by
 obtain⟨L,hL⟩:∃L:List (Fin N),L.map (·.val)=l:=⟨l.pmap (fun x h=>⟨x,h⟩) hl,by rw[List.map_pmap];simp⟩;subst hL;have qf:L.length=(L.map (·.val)).length:=(by rw[xV]);have qa:∀(D:Array (Fin N)) (i:Nat) (x:Nat),(D.toList.map (·.val))[i]?=some x->i<D.size/\(D[i]!).val=x:=fun D i x h=>(by (rw[yW]at h;cases hi:D.toList[i]? with|none=>rw[hi]at h;cases h|some y=>(rw[hi]at h;injection h with h);rw[kQw]at hi;obtain⟨h1,h2⟩:=kZn.1 hi;exact⟨h1,by rw[getElem!_pos D i h1,h2];exact h⟩));refine⟨L.toArray,by simp,⟨fun x=>rfl,fun j hj=>?_,hblk⟩,fun W S=>?_⟩;{(have qe:j<L.length:=by simpa using hj);have h1:=hrow j (L[j].val) (by rw[yW,yG qe];rfl);rw[kQu];have e:(L.toArray)[j]! =L[j]:=(by rw[getElem!_pos _ j (by simpa using qe)];simp);rw[e];exact h1};have hH:=Go.Sort.insertionSort_holds (lt:=ltOf fun x y:Fin N=>scZ ds x.val y.val) (jzh5 ds N) L.toArray 0 (L.map (·.val)).length (yZ _) (by simp);generalize Go.Sort.insertionSort (ltOf fun x y:Fin N=>scZ ds x.val y.val) L.toArray 0 (L.map (·.val)).length=D at*;obtain⟨⟨p1,p2,p3⟩,p4⟩:=hH;have hD:D.size=(L.map (·.val)).length:=(by rw[p1];simp);have R:Row1 (fun x:Fin N=>Value.int .i64 ((x.val:Nat):Int)) w gl 0 L.toArray:=⟨fun x=>rfl,fun j hj=>by have qe:j<L.length:=(by simpa using hj);have h1:=hrow j (L[j].val) (by rw[yW,yG qe];rfl);rw[kQu];have e:(L.toArray)[j]! =L[j]:=(by rw[getElem!_pos _ j (by simpa using qe)];simp);rw[e];exact h1,hblk⟩;refine⟨D.toList.map (·.val),?_,fun i j x y hij hx hy=>?_,fun i x hx=>?_,sT S⟩;{(have e1:D.extract 0 (L.map (·.val)).length=D:=by rw[<-hD,Array.extract_size]);have e2:(L.toArray).extract 0 (L.map (·.val)).length=L.toArray:=(by simp);rw[e1,e2]at p3;exact(p3.trans (by simp)).map _};{obtain⟨h1,h2⟩:=qa D i x hx;obtain⟨h3,h4⟩:=qa D j y hy;have h5:=p4 i j (yZ _) hij (by omega);unfold ltOf at h5;rw[decide_eq_false_iff_not,nZ,h2,h4]at h5;omega};obtain⟨h1,h2⟩:=qa D i x hx;have c1:=S.c1 R p1 i h1;have c2:=S.f1 R p1 i h1;rw[kQu,h2]at c1;rw[kQu]at c2;exact⟨c1,c2⟩
structure SoI(w:World)(g gd N gl:Nat)(ds:List Int)(l:LN):Prop where
 ne:g≠gl
 ne2:gd≠gl
 lt:g<w.heap.size
 lt2:gd<w.heap.size
 lt3:gl<w.heap.size
 box:w.cell? (aD g 0)=some (.s (sA gd) N N)
 ds:∀i,i<N->w.cell? (aD gd i)=some (vI (aI ds i))
 row:∀(i x:Nat),l[i]?=some x->w.cell? (aD gl i)=some (vI (x:Int))/\w.frozen? (aD gl i)=false
 top:∀x∈l,x<N
 pos:0<N
theorem jzh7(g gd N gl k c:Nat)(ds:List Int)(l:LN)w(h:SoI w g gd N gl ds l)(hk:l.length=k)(h12:k<=12):
  Calls Tryz.prog 289 #[.s (sA gl) k c,vI 0,vI (k:Int),.func (.func 283) #[] #[.pointer (sA g)]] w fun e w'=>e=.returned (.tuple #[])/\∃l',SoP w gl ds l l' w':=by
 have qa:Inhabited (Fin N):=⟨⟨0,h.pos⟩⟩;obtain⟨d0,h0,R,F⟩:=jzh6 gl N ds l h.top qa w h.lt3 h.row;subst hk;have hc:=jzh4 g gd N gl ds w h.ne h.ne2 h.lt h.lt2 h.box h.ds d0.size qa;have:=Tryz.insertionSortCmpFunc_s (fun x:Fin N=>Value.int .i64 ((x.val:Nat):Int)) (fun x y=>scZ ds x.val y.val) 283 #[.pointer (sA g)] gl 0 c 0 d0.size d0 d0 w w (fun _ _=>rfl) hc R rfl (SW.start R.hH) (yZ _) (yX _) (by omega);rw[h0]at this;refine this.mono ?_;rintro e w' ⟨h1,h2⟩;exact⟨h1,F w' h2⟩
theorem jzh8(g gd N gl k c:Nat)(lim:Int)(ds:List Int)(l:LN)w(h:SoI w g gd N gl ds l)(hk:l.length=k)(h12:k<=12):
  Calls Tryz.prog 286 #[.s (sA gl) k c,vI 0,vI (k:Int),vI lim,.func (.func 283) #[] #[.pointer (sA g)]] w fun e w'=>e=.returned (.tuple #[])/\∃l',SoP w gl ds l l' w':=by
 have IS:=Hx (jzh7 g gd N gl k c ds l w h hk h12);have qa:(k:Int)<=12:=(by omega);clear h hk;go_enter Tryz.func286,Tryz.ntmps286;go_wp2;refine wp_loop_rounds 1 ?_;rw[rounds_succ];(go_wp2_with fail);refine IS.o.mono ?_;rintro e w' ⟨rfl,h2⟩;have F:=Hx h2;clear h2 IS;go_wp2;(try simp only[Exit.inBlock,Exit.then]);refine bodyPost_ret (results_none rfl _ _ _) rfl ?_;exact⟨rfl,F.o⟩
theorem jzh9(g gd N gl k c:Nat)(ds:List Int)(l:LN)w(h:SoI w g gd N gl ds l)(hk:l.length=k)(h12:k<=12):
  Calls Tryz.prog 282 #[.s (sA gl) k c,.func (.func 283) #[] #[.pointer (sA g)]] w fun e w'=>e=.returned (.tuple #[])/\∃l',SoP w gl ds l l' w':=by
 have PD:=Hx (fun lim=>jzh8 g gd N gl k c lim ds l w h hk h12);have BL:=Hx (Tryz.bits_Len (k:Int) w (by omega) (by omega));have qa:(k:Int)<=12:=(by omega);clear h hk;go_enter Tryz.func282,Tryz.ntmps282;(go_wp2_with fail);refine BL.o.mono ?_;rintro e w' ⟨rfl,rfl⟩;(go_wp2_with fail);refine(PD.o _).mono ?_;rintro e w' ⟨rfl,h2⟩;have F:=Hx h2;clear h2 PD BL;go_wp2;(go_end0);exact⟨rfl,F.o⟩
def StP(w:World)(N:Nat)(ds:List Int)(e:Ending)(w':World):Prop:=∃(gl c:Nat) (L:LN),e=.returned (.s (sA gl) L.length c)/\w.heap.size<=gl/\gl<w'.heap.size/\L.length<=N/\L.Perm ((List.range N).filter fun n=>decide (0<=aI ds n))/\(∀(i j x y:Nat),i<j->L[i]?=some x->L[j]?=some y->aI ds y<=aI ds x)/\(∀(i x:Nat),L[i]?=some x->w'.cell? (aD gl i)=some (vI (x:Int))/\w'.frozen? (aD gl i)=false)/\Ext w w'
theorem jzia(N:Nat)(f:Nat->Int)(m:Nat)(hm:m<N)(h0:0<=f m):(List.range N).filter (fun n=>decide (0<=f n))≠ []:=fun e=>by
 have:m∈(List.range N).filter (fun n=>decide (0<=f n)):=List.mem_filter.2 ⟨vX.2 hm,yO h0⟩;rw[e]at this;cases this
theorem jzib(k:Nat)(f:Nat->Int):(List.range (k+1)).filter (fun n=>decide (0<=f n))=if 0<=f k then(List.range k).filter (fun n=>decide (0<=f n))++[k]else(List.range k).filter (fun n=>decide (0<=f n)):=by
 rw[kZc,List.filter_append];by_cases h:0<=f k;{rw[if_pos h,List.filter_cons_of_pos (by simpa using h)];rfl};rw[if_neg h,List.filter_cons_of_neg (by simpa using h)];simp
theorem jzic(gd N c:Nat)(ds:List Int)(m0:Nat)w(hd:Rd w (sA gd) (aR ds))(hl:ds.length=N)(h12:N<=12)(hm:m0<N)(h0:0<=aI ds m0)(hc:N<=c):
  Calls Tryz.prog 279 #[.s (sA gd) N N] w (StP w N ds):=by
 have DC:Hid (∀wx,Ext w wx->∀i,i<N->wx.cell? (aD gd i)=some (vI (aI ds i))):=Hx (fun wx hx i hi=>by obtain⟨b,o,e,hb,hc⟩:=hd.at_ (i:=i) (by unfold aR;rw[xV,hl];exact hi);injection e with e;(injection e with e1 e2);subst e1 e2;have h1:=hc i (by unfold aR;rw[xV,hl];exact hi);rw[kQu]at h1;refine(hx.cell (p:=(aD gd i)) hb).trans (h1.trans ?_);unfold aR aI;rw[yW,yG (by omega)];rfl);have qn:Hid (gd<w.heap.size):=Hx (by obtain⟨b,o,e,hb,hc⟩:=hd.at_ (i:=m0) (by unfold aR;rw[xV,hl];exact hm);injection e with e;(injection e with e1 e2);subst e1;exact hb);have qu:=Hx (jzia N (aI ds) m0 hm h0);have qy:0<N:=(by omega);obtain⟨b0,e0⟩:=bF w #[.s (sA gd) N N] 28;have BB:=Hx (kQa b0 e0);clear hd hl hm h0 b0 e0 m0;go_enter Tryz.func279,Tryz.ntmps279;(go_upto_region 1 with fail);generalize hgt:w.heap.size=gt at*;have qm:=Hx hgt;generalize w.alloc (.cells #[.s (sA gd) N N] 28)=w1 at*;have c0:=BB.o.1.cell 0;go_wp2;clear c0;have I0:Hid (OwI w1 w1 zN ((List.range 0).filter fun n=>decide (0<=aI ds n))):=Hx (OwI.nil (eR _));go_loopg [3,8] N (fun m lv it wx=>∃(j:Nat) (vF:Value),N-j=m/\j<=N/\it=vI (j:Int)/\vF=lv/\Hid (OwI w1 wx vF ((List.range j).filter fun n=>decide (0<=aI ds n))));(case atStart=>exact⟨0,_,rfl,yZ _,rfl,rfl,I0⟩);obtain⟨j,vF,rfl,hj,rfl,rfl,J⟩:=hrel;clear I0;by_cases qt:j<N;{have y0:=DC.o _ (BB.o.2.tr J.o.ex) j qt;have jN:(j:Int)<(N:Int):=(by omega);have FS:=Hx (jzib j (aI ds));have FL:Hid (((List.range j).filter fun n=>decide (0<=aI ds n)).length<=j):=Hx (by have:=List.length_filter_le (fun n=>decide (0<=aI ds n)) (List.range j);rwa [kZm]at this);generalize aI ds j=x at*;by_cases hx:0<=x;{have qh:=Hx (FS.o.trans (if_pos hx));clear FS;generalize (List.range j).filter (fun n=>decide (0<=aI ds n))=p at*;have BC:=Hx (eN wr 3 #[vI (j:Int)]);have OW:=Hx (J.o.K ((eR wr).alloc (.cells #[vI (j:Int)] 3)));have qk:=OW.o.ex.size;have qo:=FL.o;(go_wp2_with (at_builtin;refine dW _ 28 3 _ 1 8 rfl _ _ rfl Tryz.underlying28 Tryz.info3 rfl (by decide) w1.heap.size vF p.length (ints p) rfl OW.o.own [vI (j:Int)] rfl (by simp[Value.oneCell']) wr.heap.size rfl BC.o (by unfold maxLen;omega) (by omega) qk ?_));intro g9 c9 w9 qg qe qi;have J9:Hid (OwI w1 w9 (.s (sA g9) (p.length+1) c9) (p++[j])):=Hx (OW.o.pushed qg qe);rw[<-qh.o]at J9;clear qg qe qi OW BC qk qo J y0;go_wp2;go_roundg (N-(j+1));(case measure=>omega);exact⟨j+1,_,rfl,by omega,by go_num,rfl,J9⟩};have qh:=Hx (FS.o.trans (if_neg hx));have J9:Hid (OwI w1 wr vF ((List.range (j+1)).filter fun n=>decide (0<=aI ds n))):=Hx (by rw[qh.o];exact J.o);have qz:x<0:=(by omega);clear FS qh J hx;go_wp2;go_roundg (N-(j+1));(case measure=>omega);exact⟨j+1,_,rfl,by omega,by go_num,rfl,J9⟩};obtain rfl:j=N:=(by omega);have FL:Hid (((List.range j).filter fun n=>decide (0<=aI ds n)).length<=j):=Hx (by have:=List.length_filter_le (fun n=>decide (0<=aI ds n)) (List.range j);rwa [kZm]at this);have FM:Hid (∀x∈(List.range j).filter (fun n=>decide (0<=aI ds n)),x<j):=Hx (fun x hx=>vX.1 (List.mem_filter.1 hx).1);generalize hp:(List.range j).filter (fun n=>decide (0<=aI ds n))=p at*;have HP:=Hx hp;obtain⟨A,cA,rfl,qp,hA⟩:=J.o.form;obtain⟨g,cap,qf,e1,hB,qa,q1,q2,q3,q4⟩:∃g cap qf,Value.slice A p.length cA=.s (sA g) p.length cap/\w1.heap.size<=g/\Blk wr g 3 qf/\p.length<=cap/\cap<=maxLen/\qf.size=cap*1/\qf.toList.take (p.length*1)=ints p:=(by (rcases J.o.own.2 with⟨_,h1⟩|⟨g,cap,qf,h1,h2,h3,h4,h5,h6,h7⟩);{exact absurd (kQz h1) qu.o};exact⟨g,cap,qf,h1,h2,h3,h4,h5,h6,h7⟩);(injection e1 with e1 e2 e3);subst e1 e3;have qj:=BB.o.1.K J.o.ex;have qx:gt<w1.heap.size:=BB.o.1.lt;have SI:Hid (SoI wr gt gd j g ds p):=Hx (⟨by omega,by have:=qn.o;have:=BB.o.2.size;have:=qm.o;omega,qj.lt,by have:=qn.o;have:=(BB.o.2.tr J.o.ex).size;have:=qm.o;omega,qa.lt,qj.cell 0,DC.o _ (BB.o.2.tr J.o.ex),fun i x hi=>⟨by rw[qa.cell];have qA:=(yH.1 hi).1;have h5:(qf.toList.take (p.length*1))[i]?=(ints p)[i]?:=(by rw[q4]);rw[xG,if_pos (by omega)]at h5;simp only[kQw]at h5;rw[h5];unfold ints;rw[yW,hi];rfl,qa.frozen i⟩,FM.o,qy⟩);have SF:=Hx (jzh9 gt gd j g p.length cA ds p wr SI.o rfl (by have:=FL.o;omega));have HX:=Hx (kQa (BB.o.2.tr J.o.ex) (show w.heap.size<=g by have:=BB.o.2.size;omega));have qw:=Hx qa.lt;clear qp hA hB qa q1 q2 q3 q4 qj qx J hp;go_wp2_with fail
 refine SF.o.mono ?_;rintro e w5 ⟨rfl,l',S⟩;have F:=Hx (show StP w j ds (.returned (.s (sA g) p.length cA)) w5 from
  ⟨g,cA,l',by rw[S.perm.length_eq],HX.o.2,yL qw.o S.fr.size,by rw[S.perm.length_eq];exact FL.o,by rw[HP.o];exact S.perm,S.down,S.cell,S.fr.ext HX.o.1 fun b hb=>by
    have hb:b=g:=hb;rw[hb];exact HX.o.2⟩)
 clear S SF SI HX;go_wp2;go_ret;exact F.o
end Fo
end Go.Proofs.YtllmekijiohgmaaGreatDoor
namespace Go.Proofs.YtllmekijiohgmaaGreatDoor
open Go.RowKit
namespace Fo
theorem jzid(gl c:Nat)(L:LN)(w:World)(hlt:gl<w.heap.size)(hrow:∀(i x:Nat),L[i]?=some x->w.cell? (aD gl i)=some (vI (x:Int))/\w.frozen? (aD gl i)=false)(hl:L.length<=1000000):
  Calls Tryz.prog 280 #[.s (sA gl) L.length c] w fun e w'=>e=.returned (.tuple #[])/\(∀(i x:Nat),L.reverse[i]?=some x->w'.cell? (aD gl i)=some (vI (x:Int)))/\FrS (fun b=>b=gl) w w':=by
 have hH:Go.Sort.Holds (Value.int .i64) w gl 0 (L.map fun x:Nat=>(x:Int)).toArray:=fun j hj=>(by have qe:j<L.length:=(by simpa using hj);have h1:=hrow j L[j] (yG qe);rw[kQu];have e:((L.map fun x:Nat=>(x:Int)).toArray)[j]! =((L[j]:Nat):Int):=(by rw[getElem!_pos _ j hj];simp);rw[e];exact h1);have h:=Tryz.slices_Reverse_int gl 0 c (L.map fun x:Nat=>(x:Int)) w hH (by rw[xV];omega);rw[xV]at h;refine h.mono ?_;rintro e w' ⟨h1,n,h2⟩;have S:SW (Value.int .i64) w gl 0 (L.map fun x:Nat=>(x:Int)).reverse.toArray w':=⟨n,#[],by unfold sortWorld;rw[Go.Sort.grow_empty];exact h2⟩;refine⟨h1,fun i x hi=>?_,sT S⟩;have qa:=(yH.1 hi).1;have h3:=(S.holds hlt hH (by simp) i (by simpa using qa)).1;rw[kQu]at h3;rw[h3];have e:((L.map fun x:Nat=>(x:Int)).reverse.toArray)[i]! =(x:Int):=(by rw[getElem!_pos _ i (by simpa using qa)];have h4:((L.map fun x:Nat=>(x:Int)).reverse)[i]?=some (x:Int):=(by rw[<-List.map_reverse,yW,hi];rfl);have h5:=(yH.1 h4).2;simpa using h5);rw[e]
def cnP(t:Tp)(down:List Bool)(n d:Nat):Nat:=cnt (2*t.links.length) (tlN t) (hdN t) (csZ t) (okD t down d) d (dsP t down d) n
theorem jzie(C:LN)(m:Nat):C.set m (C[m]?.getD 0)=C:=by
 apply uK;intro i;rw[kZs];by_cases e:m=i;{subst e;rw[if_pos rfl];by_cases h:m<C.length;{rw[if_pos h,yG h];rfl};rw[if_neg h,yI (by omega)]};rw[if_neg e]
theorem jzif{N:Nat}{f:Nat->Int}{L:LN}(hp:L.Perm ((List.range N).filter fun n=>decide (0<=f n)))(hd:∀(i j x y:Nat),i<j->L[i]?=some x->L[j]?=some y->f y<=f x):OrB N f L.reverse:=by
 refine⟨(List.reverse_perm L).trans hp,fun i j x y hij hx hy=>?_⟩;have hi:=(yH.1 hx).1;have hj:=(yH.1 hy).1;rw[List.length_reverse]at hi hj;rw[List.getElem?_reverse hi]at hx;rw[List.getElem?_reverse hj]at hy;exact hd _ _ y x (by omega) hy hx
set_option maxHeartbeats 16000000 in
theorem jzig t AO(co:Nat)AL(cl:Nat)AD(cd:Nat)(down:List Bool)(n d N:Nat)w
  (ht:aF w t AO co AL cl) (hv:aA t=true) (hm:MkR w t AD cd down) (hN:t.nodes=(N:Int)) (hn:n<N) (hd:d<N) (h12:N<=12):
  Calls Tryz.prog 277 #[.agg #[vI t.nodes,.s AO t.over.length co,.s AL t.links.length cl],.s AD down.length cd,vI (n:Int),vI (d:Int),vI 2] w fun e w'=>e=.returned (.tuple #[vI (cnP t down n d:Int),vI 0])/\Ext w w':=by
 have G:=Gok.of hv;have hlk:=dC hv;have eN:t.nodes.toNat=N:=(by omega);have DSx:=Hx (by have h:=G.ds (down:=down) (d:=d) (by omega);rw[eN]at h;exact h);have CSx:Hid ((∀a,a<2*t.links.length->1<=csZ t a)/\(∀a,a<2*t.links.length->hdN t a<N)):=Hx (⟨fun a ha=>(G.cs a ha).1,fun a ha=>by have:=G.hd a ha;omega⟩);have DI:=Hx (fun(wx:World) (hx:Ext w wx)=>jzt t AO co AL cl AD cd down n d N wx (ht.K hx) hv (hm.K hx) hN hn hd);have LV:=Hx (show∀(wx:World),Ext w wx->Calls Tryz.prog 233 #[.agg #[vI t.nodes,.s AO t.over.length co,.s AL t.links.length cl]] wx fun e w'=>∃g:Nat,e=.returned (.s (sA g) N N)/\LL w' g N (aE t)/\Ext wx w' from fun wx hx=>(pZ t AO co AL cl wx (ht.K hx) hv).mono fun e w' ⟨g,N',h1,h2,h3,h4⟩=>by
  obtain rfl:N'=N:=(by omega);exact⟨g,h2,h3,h4⟩)
 have HE:=Hx (fun(wx:World) (a:Nat) (hx:Ext w wx) (ha:a<2*t.links.length)=>sR t AO co AL cl wx (ht.K hx) hv a ha);have NX:=Hx (fun(wx:World) (D A:OA) (cA kA m:Nat) (hx:Ext w wx) (hm2:m<N) (h1:Rd wx D (aR (dsL t down d))) (h2:Rd wx A (ints (aE t m))) (h3:(aE t m).length=kA) (h4:kA<=cA)=>
  jzu t AO co AL cl AD cd down D N A kA cA m d N wx (ht.K hx) hv (hm.K hx) hN hm2 hd h1 (yX _) h2 h3 h4)
 have HL:=Hx (lZ hv down hN hd);have HZ:Hid (0<=aI (dsL t down d) d):=Hx (by have h:=DSx.o.2.zero;show 0<=dsP t down d d;omega);have HNX:=Hx (show∀m,(nxP t down m d).length<=1000/\∀a∈nxP t down m d,a<2*t.links.length from fun m=>by
  have h:=(nJ (t:=t) (down:=down) (n:=m) (d:=d)).few;have h2:=(nJ (t:=t) (down:=down) (n:=m) (d:=d)).2;exact⟨by omega,fun a ha=>(h2 a ha).1⟩)
 have HCN:Hid (cnP t down n d=cnt (2*t.links.length) (tlN t) (hdN t) (csZ t) (okD t down d) d (dsP t down d) n):=Hx (rfl);have hmk:=run_make_row' (P:=Tryz.prog) 28 3 (vI 0) 8 Tryz.underlying28 Tryz.info3 rfl .i64 .i64 N (by omega) (by omega);clear ht hv hm G hlk eN;rw[hN]at*;clear hN;obtain⟨b0,e0⟩:=bF w #[vI (N:Int),.s AO t.over.length co,.s AL t.links.length cl] 25;have BB:=Hx (kQa b0 e0);clear b0 e0
 go_enter Tryz.func277,Tryz.ntmps277
 go_upto_region 1 with fail
 generalize hgt:w.heap.size=gt at*;generalize w.alloc (.cells #[vI (N:Int),.s AO t.over.length co,.s AL t.links.length cl] 25)=w1 at*;clear hgt;obtain⟨⟨i0,i1,i2⟩,_⟩:=BB.o.1.t3
 go_wp2_with fail
 refine(DI.o _ BB.o.2).mono ?_;rintro e w2 ⟨g,rfl,h2,x2⟩;have E2:=Hx (kQa (BB.o.1.K x2) (BB.o.2.tr x2));have R2:=Hx (nU h2);clear i0 i1 i2 h2 x2 DI BB;obtain⟨⟨i0,i1,i2⟩,_⟩:=E2.o.1.t3
 go_wp2_with fail
 refine(LV.o _ E2.o.2).mono ?_;rintro e w3 ⟨gA,rfl,h3,x3⟩;have E3:=Hx (kQa (E2.o.1.K x3) (E2.o.2.tr x3));have R3:=Hx (kQa (R2.o.K x3) h3);clear i0 i1 i2 h3 x3 LV E2 R2;obtain⟨⟨i0,i1,i2⟩,_⟩:=E3.o.1.t3
 go_upto_region 8 with fail
 have A4:Hid (Cn (w3.alloc (.cells (madeCells #[vI 0] N) 3)) w3.heap.size (List.replicate N 0)/\Ext w3 (w3.alloc (.cells (madeCells #[vI 0] N) 3))):=Hx (⟨Cn.made w3 N,(eR w3).alloc _⟩);generalize w3.alloc (.cells (madeCells #[vI 0] N) 3)=w4 at*;generalize hgc:w3.heap.size=gc at*;have HGC:=Hx hgc;clear hgc hmk i0 i1 i2;have dN:(d:Int)<(N:Int):=(by omega);have y0:=A4.o.1.cell (i:=d) (by rw[xC];omega);have f0:=A4.o.1.fro d
 go_upto_region 9 with fail
 rw[show(min 1 2:Int)=1 from rfl];have A5:Hid (Cn (w4.setCell (aD gc d) (vI 1)) gc ((List.replicate N 0).set d 1)/\Ext w3 (w4.setCell (aD gc d) (vI 1))):=Hx (⟨A4.o.1.set d 1,A4.o.2.sT (p:=(aD gc d)) (by have:=HGC.o;show _<=gc;omega) _⟩);generalize w4.setCell (aD gc d) (vI 1)=w5 at*;clear y0 f0 A4;have SO:=Hx (jzic g N N (dsL t down d) d w5 (R3.o.1.K A5.o.2) HL.o h12 hd HZ.o (yX _))
 go_wp2_with fail
 refine SO.o.mono ?_;rintro e w6 ⟨gl,c,L,rfl,s1,s2,s3,s4,s5,s6,x6⟩;have hgl:gc<gl:=by
  have h1:=A5.o.1.lt;omega
 have RV:=Hx (jzid gl c L w6 s2 s6 (by omega));have OB:=Hx (jzif s4 s5);have A6:Hid (Cn w6 gc ((List.replicate N 0).set d 1)/\Ext w3 w6):=Hx (⟨A5.o.1.K x6,A5.o.2.tr x6⟩);have HLn:=Hx s3;clear s1 s3 s4 s5 s6 x6 SO A5
 go_wp2_with fail
 refine RV.o.mono ?_;rintro e w7 ⟨rfl,r1,r2⟩;have A7:=Hx (show CtI (2*t.links.length) N (tlN t) (hdN t) (csZ t) (okD t down d) d (dsP t down d) (L.reverse.take 0) ((List.replicate N 0).set d 1)/\Cn w7 gc ((List.replicate N 0).set d 1)/\FrS (fun b=>b=gc) w7 w7 from
  ⟨CtI.start hd,A6.o.1.fr r2 (by show¬gc=gl;omega),FrS.refl _ _⟩)
 have E7:=Hx (show Ext w3 w7 from r2.ext A6.o.2 fun b hb=>by
  have hb:b=gl:=hb;have:=HGC.o;omega)
 have RC:=Hx (show∀wx,FrS (fun b=>b=gc) w7 wx->∀(i x:Nat),L.reverse[i]?=some x->wx.cell? (aD gl i)=some (vI (x:Int))from fun wx k i x hi=>by
  have hlt:gl<w7.heap.size:=yL s2 r2.size;exact(World.cell?_of_block (a:=(aD gl i)) (k.block gl hlt (by show¬gl=gc;omega))).trans (r1 i x hi))
 have hkb:L.reverse.length<=12:=(by rw[List.length_reverse];have:=HLn.o;omega);have hlr:L.length=L.reverse.length:=(by rw[List.length_reverse]);rw[hlr]at*;generalize L.reverse=R at*;have hgc2:gc<w7.heap.size:=A7.o.2.1.lt;clear r1 r2 s2 hlr RV A6;have KX:=Hx (show∀wx,FrS (fun b=>b=gc) w7 wx->Ext w3 wx from fun wx k=>k.ext E7.o fun b hb=>by
  have hb:b=gc:=hb;have:=HGC.o;omega)
 generalize hkR:R.length=kR at*;have HKR:=Hx hkR;clear hkR;go_wp2
 go_loopg [51] kR (fun m it wx=>∃(i:Nat) (C:LN),kR-i=m/\i<=kR/\it=vI (i:Int)/\Hid (CtI (2*t.links.length) N (tlN t) (hdN t) (csZ t) (okD t down d) d (dsP t down d) (R.take i) C/\Cn wx gc C/\FrS (fun b=>b=gc) w7 wx))
 case atStart=>exact⟨0,_,rfl,yZ _,rfl,A7⟩
 obtain⟨i,C,rfl,hi,rfl,J⟩:=hrel;clear A7;obtain⟨wq,rfl⟩:∃wq,wq=wr:=⟨_,rfl⟩;by_cases hik:i<kR
 ·obtain⟨m,hm⟩:∃m,R[i]?=some m:=⟨_,yG (by rw[HKR.o];exact hik)⟩
  have y0:=RC.o _ J.o.2.2 i m hm;have HM:=Hx hm;have hmN:m<N:=(OB.o.mem.1 (yJ hm)).1;have iN:(i:Int)<(kR:Int):=(by omega);have mN:(m:Int)<(N:Int):=(by omega);have X:=Hx (KX.o _ J.o.2.2);clear hm
  go_upto_region 14 with fail
  obtain⟨V,v1,v2⟩:=R3.o.2;obtain⟨A,cA,v3,v4,v5⟩:=v2 m hmN;have cV:∀wx,Ext w3 wx->wx.cell? (aD gA m)=some (.s A (aE t m).length cA):=fun wx hx=>by
   have h:=(v1.K hx).cell m;rw[h, <-v3];simp[hmN]
  have KEEP:Hid (∀wx,Ext w3 wx->wx.cell? (aD gt 0)=some (vI (N:Int))/\wx.cell? (aD gt 1)=some (.s AO t.over.length co)/\wx.cell? (aD gt 2)=some (.s AL t.links.length cl)/\wx.cell? (aD gA m)=some (.s A (aE t m).length cA)):=Hx (fun wx hx=>⟨(E3.o.1.K hx).cell 0,(E3.o.1.K hx).cell 1,(E3.o.1.K hx).cell 2,cV wx hx⟩);have VA:=Hx (kQa v4 v5);clear cV v1 v2 v3 v4 v5 V;have X9:Hid (Ext w3 wq.drew):=Hx (X.o.drewN 1);have HSW:=Hx (KEEP.o _ X9.o);have JD:Hid (CtI (2*t.links.length) N (tlN t) (hdN t) (csZ t) (okD t down d) d (dsP t down d) (R.take i) C/\Cn wq.drew gc C/\FrS (fun b=>b=gc) w7 wq.drew):=Hx (⟨J.o.1,J.o.2.1,J.o.2.2.tr (eE (S:=fun b=>b=gc) ((eR wq).drewN 1)) fun b h=>.inl h⟩);refine wX KEEP 9 ?_;generalize wq.drew=D at*;clear J X y0;refine wV 0 rfl HSW.o ?_;try simp only[Act.put,yA,yB,yC,yD,yE,yF]
  refine wP 1 rfl HSW.o ?_;try simp only[Act.put,yA,yB,yC,yD,yE,yF]
  refine wP 2 rfl HSW.o ?_;try simp only[Act.put,yA,yB,yC,yD,yE,yF]
  refine wP 3 rfl HSW.o ?_;try simp only[Act.put,yA,yB,yC,yD,yE,yF]
  refine wP 4 rfl HSW.o ?_;try simp only[Act.put,yA,yB,yC,yD,yE,yF]
  refine wP 5 rfl HSW.o ?_;try simp only[Act.put,yA,yB,yC,yD,yE,yF]
  refine wV 6 rfl HSW.o ?_;try simp only[Act.put,yA,yB,yC,yD,yE,yF]
  refine wP 7 rfl HSW.o ?_;try simp only[Act.put,yA,yB,yC,yD,yE,yF]
  refine wP 8 rfl HSW.o ?_;try simp only[Act.put,yA,yB,yC,yD,yE,yF]
  refine wP 11 rfl HSW.o ?_;try simp only[Act.put,yA,yB,yC,yD,yE,yF]
  refine aV (by kernel_rfl) rfl (by rfl) (fun KK hK=>?_);go_simp;refine(NX.o _ _ A cA _ m (E3.o.2.tr X9.o) hmN (R3.o.1.K X9.o) (VA.o.2.K X9.o).rd rfl VA.o.1).mono ?_;rintro e w8 ⟨v,rfl,h8⟩;have hxl:=(HNX.o m).1;have HXA:Hid (∀a∈nxP t down m d,a<2*t.links.length/\hdN t a∈R.take i):=Hx (fun a ha=>⟨(HNX.o m).2 a ha,OB.o.before CSx.o.1 CSx.o.2 HM.o ha⟩);have ST:=Hx (fun h=>JD.o.1.step OB.o CSx.o.1 CSx.o.2 (h:R[i]?=some m));have ST:=Hx (ST.o HM.o);have HNW:=Hx (OB.o.new HM.o);have hnx:nxt (2*t.links.length) (tlN t) (hdN t) (csZ t) (okD t down d) d (dsP t down d) m=nxP t down m d:=rfl;rw[hnx]at ST;clear hnx;generalize nxP t down m d=xs at*;obtain⟨A2,c2,rfl,hc2,_⟩:=h8.form;have O8:Hid ((w8.ownsRow D.heap.size 3 1 (.s A2 xs.length c2) xs.length (ints xs))/\FrS (fun b=>b=gc) w7 w8/\Cn w8 gc C/\gc<D.heap.size):=Hx (⟨h8.own,JD.o.2.2.tr (eE (S:=fun b=>b=gc) h8.ex) fun b h=>.inl h,JD.o.2.1.K h8.ex,JD.o.2.1.lt⟩);refine hK.o _ _ ?_;clear hK KK h8;try simp only[Act.put,yA,yB,yC,yD,yE,yF]
  refine dQ (i:=10) (by kernel_rfl) rfl (by rfl) (fun KK hK=>?_);go_simp;refine hK.o _ _ ?_;clear hK KK;refine wpAny_done (by kernel_rfl) ?_ _;clear HSW KEEP VA NX;generalize hka:xs.length=kA at*;have HKA:=Hx hka;have HCI:=Hx JD.o.1;clear JD hka X9;have S0:=Hx (show Cn w8 gc (C.set m (eL (fun a=>C[hdN t a]?.getD 0) (xs.take 0) (C[m]?.getD 0)))/\FrS (fun b=>b=gc) w8 w8 from⟨by
   show Cn w8 gc (C.set m (C[m]?.getD 0));rw[jzie];exact O8.o.2.2.1,FrS.refl _ _⟩)
  go_wp2
  go_loopg [66] kA (fun m' it wx=>∃j:Nat,kA-j=m'/\j<=kA/\it=vI (j:Int)/\Hid (Cn wx gc (C.set m (eL (fun a=>C[hdN t a]?.getD 0) (xs.take j) (C[m]?.getD 0)))/\FrS (fun b=>b=gc) w8 wx))
  case atStart=>exact⟨0,rfl,yZ _,rfl,S0⟩
  obtain⟨j,rfl,hj,rfl,I⟩:=hrel;clear S0;by_cases hjk:j<kA
  ·obtain⟨a,ha⟩:∃a,xs[j]?=some a:=⟨_,yG (by rw[HKA.o];exact hjk)⟩
   have HAa:=Hx (HXA.o a (yJ ha));have CT:=Hx (jzh1 (c:=fun a=>C[hdN t a]?.getD 0) (s:=C[m]?.getD 0) ha);have OX:=I.o.2.own O8.o.1 fun b hb e=>by
    have h1:=(O8.o.1.lt b hb).1;have e:b=gc:=e;have:=O8.o.2.2.2;omega
   obtain⟨b,o,rfl,hb,hc3⟩:=(nU OX).ints_ (k:=j) (by rw[HKA.o];exact hjk);rw[ha,kQ1]at hc3;have jN:(j:Int)<(kA:Int):=(by omega);have FX:=Hx (O8.o.2.1.tr I.o.2 fun b h=>.inl h);have X:=Hx (KX.o _ FX.o);have hle:=HCI.o.le CSx.o.1 (x:=m) hmN;have hle2:=HCI.o.le CSx.o.1 (x:=hdN t a) (CSx.o.2 a HAa.o.1);have hsn:=sS (c:=fun a=>C[hdN t a]?.getD 0) (xs.take j) (C[m]?.getD 0) hle;have hne:hdN t a≠m:=fun e=>HNW.o (e▸HAa.o.2);have hhN:=CSx.o.2 a HAa.o.1;have hCl:=HCI.o.len;obtain⟨sv,hsv⟩:∃sv,eL (fun a=>C[hdN t a]?.getD 0) (xs.take j) (C[m]?.getD 0)=sv:=⟨_,rfl⟩;obtain⟨mv,hmv⟩:∃mv,C[hdN t a]?.getD 0=mv:=⟨_,rfl⟩;rw[hsv,hmv]at CT;rw[hsv]at hsn I;rw[hmv]at hle2;obtain⟨⟨i0,i1,i2⟩,_⟩:=(E3.o.1.K X.o).t3;have HEa:=Hx (HE.o wr a (E3.o.2.tr X.o) HAa.o.1);have HY1:=Hx (show∀wx,Cn wx gc (C.set m sv)->wx.cell? (aD gc (hdN t a))=some (vI (mv:Int))from fun wx h=>by
    have y1:=h.cell (i:=hdN t a) (by rw[yV,hCl];exact hhN)
    rwa [vN (fun e=>hne e.symm),hmv]at y1)
   have HY2:=Hx (show∀wx,Cn wx gc (C.set m sv)->wx.cell? (aD gc m)=some (vI (sv:Int))from fun wx h=>by
    have y2:=h.cell (i:=m) (by rw[yV,hCl];exact hmN)
    rwa [yM (by rw[hCl];exact hmN),kQ1]at y2)
   have hhZ:(hdN t a:Int)<(N:Int):=(by omega);clear ha OX hb hsv hmv hle hne hCl hhN;generalize hdN t a=hx at*
   go_wp2_with fail
   refine HEa.o.mono ?_;rintro e w9 ⟨rfl,x9⟩;have I9:Hid (Cn w9 gc (C.set m sv)/\FrS (fun b=>b=gc) w8 w9):=Hx (⟨I.o.1.K x9,I.o.2.tr (eE (S:=fun b=>b=gc) x9) fun b h=>.inl h⟩);clear x9 I HEa FX X i0 i1 i2 hc3;have y1:=HY1.o _ I9.o.1;have y2:=HY2.o _ I9.o.1;have f2:=I9.o.1.fro m;clear HY1 HY2;by_cases hgt:2<sv+mv
   ·have gt1:((2:Int)-(sv:Int))<(mv:Int):=by omega
    have wk:wrap64 ((2:Int)-(sv:Int))=(2:Int)-(sv:Int):=(by unfold wrap64;omega);have NX2:=Hx (show Cn (w9.setCell (aD gc m) (vI 2)) gc (C.set m (eL (fun a=>C[hdN t a]?.getD 0) (xs.take (j+1)) (C[m]?.getD 0)))/\FrS (fun b=>b=gc) w8 (w9.setCell (aD gc m) (vI 2))from⟨by
     rw[CT.o,show min 2 (sv+mv)=2 by omega];have h:=I9.o.1.set m 2
     rwa [List.set_set]at h,I9.o.2.tr (eG (S:=fun b=>b=gc) (bI w9 gc m (vI 2)) fun y e=>by
      injection e with e
      exact e.symm) fun b h=>.inl h⟩)
    clear I9 CT
    go_upto_if 83 with fail
    clear y1 wk gt1
    go_upto_region 21 with fail
    generalize w9.setCell (aD gc m) (vI 2)=wz at*;go_wp2
    go_roundg (kA-(j+1))
    case measure=>omega
    exact⟨j+1,rfl,by omega,by go_num,NX2⟩
   have gt1:¬((2:Int)-(sv:Int))<(mv:Int):=(by omega);have wk:wrap64 ((2:Int)-(sv:Int))=(2:Int)-(sv:Int):=(by unfold wrap64;omega);have NX2:=Hx (show Cn (w9.setCell (aD gc m) (vI ((sv:Int)+(mv:Int)))) gc (C.set m (eL (fun a=>C[hdN t a]?.getD 0) (xs.take (j+1)) (C[m]?.getD 0)))/\FrS (fun b=>b=gc) w8 (w9.setCell (aD gc m) (vI ((sv:Int)+(mv:Int))))from⟨by
    rw[CT.o,show min 2 (sv+mv)=sv+mv by omega];have h:=I9.o.1.set m (sv+mv)
    rwa [List.set_set,kZv]at h,I9.o.2.tr (eG (S:=fun b=>b=gc) (bI w9 gc m _) fun y e=>by
     injection e with e
     exact e.symm) fun b h=>.inl h⟩)
   clear I9 CT
   go_upto_if 83 with fail
   clear y1 wk gt1
   go_upto_region 21 with fail
   generalize w9.setCell (aD gc m) (vI ((sv:Int)+(mv:Int)))=wz at*;go_wp2
   go_roundg (kA-(j+1))
   case measure=>omega
   exact⟨j+1,rfl,by omega,by go_num,NX2⟩
  obtain rfl:j=kA:=(by omega);have NX2:=Hx (show CtI (2*t.links.length) N (tlN t) (hdN t) (csZ t) (okD t down d) d (dsP t down d) (R.take (i+1)) (C.set m (eL (fun a=>C[hdN t a]?.getD 0) xs (C[m]?.getD 0)))/\Cn wr gc (C.set m (eL (fun a=>C[hdN t a]?.getD 0) xs (C[m]?.getD 0)))/\FrS (fun b=>b=gc) w7 wr from⟨ST.o,by
   have h:=I.o.1
   rwa [yU (by rw[HKA.o];exact yX _)]at h,O8.o.2.1.tr I.o.2 fun b h=>.inl h⟩)
  clear I;go_wp2
  go_roundg (kR-(i+1))
  case measure=>omega
  exact⟨i+1,_,rfl,by omega,by go_num,NX2⟩
 obtain rfl:i=kR:=(by omega);have CF:=Hx (show Cn wq gc C/\C.length=N/\C[n]?.getD 0=cnP t down n d/\Ext w wq from⟨J.o.2.1,J.o.1.len,by
  have h:=J.o.1;rw[yU (by rw[HKR.o];exact yX _)]at h;rw[h.final OB.o CSx.o.1 hn DSx.o.2.zero];exact HCN.o.symm,E3.o.2.tr (KX.o _ J.o.2.2)⟩)
 have y0:=CF.o.1.cell (i:=n) (by rw[CF.o.2.1];exact hn);rw[CF.o.2.2.1]at y0;have nN:(n:Int)<(N:Int):=(by omega);clear J;go_wp2;exact bodyPost_ret (v:=.tuple #[vI (cnP t down n d:Int),vI 0]) (by simp[results,Tryz.results277,go_sem]) rfl ⟨rfl,CF.o.2.2.2⟩
theorem jzih t AO(co:Nat)AL(cl:Nat)AD(cd:Nat)(down:List Bool)(n d N:Nat)w
  (ht:aF w t AO co AL cl) (hv:aA t=true) (hm:MkR w t AD cd down) (hN:t.nodes=(N:Int)) (hn:n<N) (hd:d<N) (h12:N<=12):
  Calls Tryz.prog 273 #[.agg #[vI t.nodes,.s AO t.over.length co,.s AL t.links.length cl],.s AD down.length cd,vI (n:Int),vI (d:Int)] w fun e w'=>e=.returned (.bool (cnP t down n d==1))/\Ext w w':=by
 have CO:=Hx (fun(wx:World) (hx:Ext w wx)=>jzig t AO co AL cl AD cd down n d N wx (ht.K hx) hv (hm.K hx) hN hn hd h12);obtain⟨b0,e0⟩:=bF w #[vI t.nodes,.s AO t.over.length co,.s AL t.links.length cl] 25;obtain⟨⟨i0,i1,i2⟩,_⟩:=b0.t3;have E0:=Hx e0;have hc:((cnP t down n d:Int)==1)=(cnP t down n d==1):=(by by_cases h:cnP t down n d=1;{rw[h];rfl};rw[yK.2 h,yK.2 (by omega)]);clear ht hv hm hN hn hd b0;generalize (cnP t down n d==1)=u at*;generalize cnP t down n d=c at*;go_enter Tryz.func273,Tryz.ntmps273;(go_wp2_with fail);refine(CO.o _ e0).mono ?_;rintro e w1 ⟨rfl,x1⟩;have F:=Hx (E0.o.tr x1);clear x1 CO E0 e0 i0 i1 i2;go_wp2;go_ret;exact⟨rfl,F.o⟩
end Fo
end Go.Proofs.YtllmekijiohgmaaGreatDoor
