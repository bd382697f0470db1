/- Part 20 of 23 of what the Flows claims share (the white space is struck, the texts are joined). -/
import Derived.Test.YtllmekijiohgmaaGreatDoorT19
set_option linter.unusedVariables false
set_option linter.unusedSimpArgs false
set_option maxRecDepth 100000
set_option maxHeartbeats 8000000
namespace Go.Proofs.YtllmekijiohgmaaGreatDoor
open Go.RowKit
namespace Fo
def ShP(w:World)(L:Nat)(r:LQ×Rat)(e:Ending)(w':World):Prop:=∃(g:Nat) (neg:Bool) (A:OA) (n c:Nat) (A':OA) (n' c':Nat),e=.returned (.tuple #[.s (sA g) L L,.agg #[.bool neg,.s A n c,.s A' n' c']])/\QB w' g r.1/\aO w' neg A n c A' n' c' r.2/\Ext w w'/\w.heap.size<=g
theorem jzll{t}{st:List Sg}{q:Rat}{arcs:LN}{j a hd n:Nat}{F f0 f1 f2:Fs}(e1:(arcs.take (j+1)).foldl (bZ t st q) f0=bZ t st q F a)(e2:f1=arcs.foldl (bZ t st q) f0)(ex:hd=hdN t a)(h2:f1.nx.length<=f2.nx.length)(h3:f2.nx.length<=n):(bK F.nx ⟨hd,st,q⟩).length<=n:=by
 have h1:=tP (t:=t) st q (arcs.drop (j+1)) (bZ t st q F a);rw[<-e1, <-kZt,kZz, <-e2,e1]at h1;subst ex;exact yY h1 (yY h2 h3)
theorem numF(n:Nat)w(hn:n<=1000):Calls Tryz.prog 34 #[vI (n:Int)] w (eF w (n:Rat)):=by
 have h:=pR (n:Int) w (by omega) (by omega);have e:mkQ (decide ((n:Int)<0)) (n:Int).natAbs 1=(n:Rat):=(by unfold mkQ;rw[yP (by omega)];show mkRat (n:Int) 1=_;rw[Rat.mkRat_one];rfl);rw[e]at h;exact h
theorem szN{n:Nat}(hn:n<=18):SzQ ((n:Nat):Rat) 1:=by
 have h1:((n:Nat):Rat).num=(n:Int):=rfl;have h2:((n:Nat):Rat).den=1:=rfl;unfold SzQ;rw[h1,h2,aT];omega
theorem szP{t}{h n:Nat}{g:Gp}{q:Rat}(hg:GpB t h g)(h1:g.am<=1)(hh:h<=255)(h0:0<n)(hn:n<=18)(hq:q=g.am/(n:Rat)):SzQ q 430:=by
 have hi:=sV hg.int h0 hn;have h2:=nP (n:=n) hg.am;rw[<-hq]at hi h2;have qa:q<=1:=(by have h3:(1:Rat)<=(n:Rat):=(by show((1:Int):Rat)<=((n:Int):Rat);exact kQt.2 (by omega));have h4:(n:Rat)*q=g.am:=(by rw[hq,Rat.mul_comm];exact Rat.div_mul_cancel fun e=>(by have e:((n:Int):Rat)=((0:Int):Rat):=e;have:=Rat.intCast_inj.1 e;omega));have h5:=kQ5 h3 h2;grind);exact(QB_.sz (P:=1) ⟨h2,qa,hi⟩ (by omega) (by decide+kernel))
theorem pD{t:Tp}(hL:t.links.length<=9)(hN:t.nodes.toNat<=12){s:Sg}(h:sgB t s):(s.1=1\/s.1=2)/\s.2<=999999999:=by
 rcases h with⟨h1,h2⟩|⟨h1,h2⟩
 ·exact⟨.inl h1,by omega⟩
 exact⟨.inr h1,by omega⟩
theorem jzlm{t:Tp}{h N:Nat}{P:Rat}{F:Fs}{hda:Nat}{st':List Sg}{txt:List UInt8}(hL:t.links.length<=9)(h12:N<=12)(hNt:t.nodes.toNat=N)(hF:PtF t h P F)(hd:hda<N)(htx:txt=txL st')(h32:st'.length<=32)(hst:∀s∈st',sgB t s):
  (∀x∈F.nx,x.node<N/\(txL x.st).length<=1000000)/\(∀x∈F.nx,∀s∈x.st,s.1=1\/s.1=2)/\hda<N/\txt.length<=1000000/\(∀s∈st',s.1=1\/s.1=2):=by
 have key:∀l:List Sg,l.length<=32->(∀s∈l,sgB t s)->(txL l).length<=1000000:=fun l h1 h2=>(by have:=jzal (l:=l) fun s hs=>(by have:=(pD hL (by omega) (h2 s hs)).2;omega);omega);refine⟨fun x hx=>⟨by have:=(hF.fs.nx x hx).node;omega,key _ (hF.st x hx) (hF.fs.nx x hx).sg⟩,fun x hx s hs=>(pD hL (by omega) ((hF.fs.nx x hx).sg s hs)).1,hd,by rw[htx];exact key _ h32 hst,fun s hs=>(pD hL (by omega) (hst s hs)).1⟩
theorem kU{n:Nat}(hn:n<=18){W}{n1:Bool}{A1}{l1 c1:Nat}{A1'}{l1' c1':Nat}(h1:aO W n1 A1 l1 c1 A1' l1' c1' (n:Rat)):l1<=134217728/\l1'<=134217728:=by
 obtain⟨a,b⟩:=h1.lens (szN hn);omega
theorem jzln{w wB wx wy}{t}{AO}{co:Nat}{AL}{cl gt gS gl:Nat}{src dst h:Nat}{V:Value}{gs:List Gp}{V':Value}{mb:Nat}{f:Fs}{gpt gq:Nat}{part:Rat}{A5}{n5 c5:Nat}{st:List Sg}{hq:Nat}{AR}{arcs:LN}{gk:Nat}{ty:TypeId}{cs:Array Value}
  (J:ShJ w wB wx t AO co AL cl gt gS gl src dst h V gs V' mb f) (K:ShK wx src dst gpt gq part A5 n5 c5 st hq AR arcs) (hb:Blk wx gk ty cs) (gr:wx.grownBy wy (some mb)):
  ShM w wB wy t AO co AL cl gt gS gl src dst h V gs V' mb f/\ShK wy src dst gpt gq part A5 n5 c5 st hq AR arcs/\Blk wy gk ty cs:=by
 obtain⟨h1,k⟩:=J.turned gr;have n1:∀ty,NoT (fun b=>b=mb) wx ty:=kT J.mp;refine⟨h1,K.fr k (n1 _) (n1 _) (n1 _) (n1 _) fun e=>?_,k.blk hb fun e=>n1 ty _ e _ _ hb⟩;obtain⟨_,_,_,_,_,_,_,hp,_⟩:=K.pt;exact n1 _ _ e _ _ hp
theorem jzlo{w}{l:List Gp}{hd:Nat}{st:List Sg}{q:Rat}{txt:List UInt8}{mb:Nat}(h1:mG l (hd,txt)=none)(h2:txt=txL st)(hm:MpG fA w mb (l.length+1) (upM (mG l) (hd,txt) (vI (l.length:Int)))):MpG fA w mb (l.length+1) (mG (l++[⟨hd,st,q⟩])):=by
 subst h2;rw[jziw (x:=⟨hd,st,q⟩) h1];exact hm
theorem lim5{l:List Gp}{x:Gp}(h:(bK l x).length<=100000):l.length+1<=maxLen/\(l.length+1)*128<=140737488355328:=by
 have:=jzbv l x;unfold maxLen;omega
theorem jzlp{t}{F F1:Fs}{st:List Sg}{q:Rat}{a hda:Nat}(e1:F1=bZ t st q F a)(e2:hda=hdN t a)(e3:fdG F.nx hda st=none):F1=⟨dE F.sh a q,F.lo,F.nx++[⟨hda,st,q⟩]⟩:=by
 rw[e1];subst e2;unfold bZ;rw[jzai (x:=⟨hdN t a,st,q⟩) e3]
theorem jzlq{t}{F F1:Fs}{st:List Sg}{q:Rat}{a hda i:Nat}(e1:F1=bZ t st q F a)(e2:hda=hdN t a)(e3:fdG F.nx hda st=some i):∃y,F.nx[i]?=some y/\F1=⟨dE F.sh a q,F.lo,F.nx.set i ⟨y.node,y.st,y.am+q⟩⟩:=by
 rw[e1];subst e2;obtain⟨y,h1,_,_,h2⟩:=jzaj (x:=⟨hdN t a,st,q⟩) e3;refine⟨y,h1,?_⟩;unfold bZ;rw[h2]
theorem jzlr{w wB wx wy:World}{t}{AO}{co:Nat}{AL}{cl gt gS gl:Nat}{src dst h:Nat}{V:Value}{gs:List Gp}{V':Value}{mb:Nat}{f:Fs}{gpt gq:Nat}{part:Rat}{A5}{n5 c5:Nat}{st:List Sg}{hq:Nat}{AR}{arcs:LN}{g' c':Nat}{x:Gp}{css:List (List Value)}{us:List Value}
  (J:ShM w wB wx t AO co AL cl gt gS gl src dst h V gs V' mb f) (K:ShK wx src dst gpt gq part A5 n5 c5 st hq AR arcs) (hm:MpG fA wx mb (f.nx.length+1) (mG (f.nx++[x])))
  (ho:css.length=f.nx.length/\(∀cs∈css,cs.length=10)/\wx.ownsRow wB.heap.size 150 10 V' f.nx.length css.flatten/\∀(i:Nat) (x:Gp),f.nx[i]?=some x->∃cs,css[i]?=some cs/\GpM src dst (h+1) wx cs x) (hX:GpM src dst (h+1) wx us x) (own':wy.ownsRow wB.heap.size 150 10 (.s (sA g') (f.nx.length+1) c') (f.nx.length+1) (css.flatten++us)) (gr:wx.grownBy wy V'.ownBlock):
  ShJ w wB wy t AO co AL cl gt gS gl src dst h V gs (.s (sA g') (f.nx.length+1) c') mb ⟨f.sh,f.lo,f.nx++[x]⟩/\ShK wy src dst gpt gq part A5 n5 c5 st hq AR arcs:=by
 obtain⟨h1,h2,h3,h4⟩:=ho;obtain⟨j,k⟩:=J.push hm rfl h1 h2 h3 h4 hX own' gr;have nt:∀ty,150≠ty->NoT (fun b=>V'.ownBlock=some b) wx ty:=fun ty hne b hb=>aW h3 hb hne;refine⟨j,K.fr k (nt _ (by decide)) (nt _ (by decide)) (nt _ (by decide)) (nt _ (by decide)) fun e=>?_⟩;obtain⟨_,_,_,_,_,_,_,hp,_⟩:=K.pt;exact nt _ (by decide) _ e _ _ hp
theorem jzls{W}{a b:Rat}{n1 n2:Bool}{A1 A1' A2 A2'}{l1 c1 l1' c1' l2 c2 l2' c2':Nat}(s1:SzQ a 430)(h1:aO W n1 A1 l1 c1 A1' l1' c1' a)(s2:SzQ b 430)(h2:aO W n2 A2 l2 c2 A2' l2' c2' b):l1<=134217728/\l1'<=134217728/\l2<=134217728/\l2'<=134217728:=by
 obtain⟨a1,a2⟩:=h1.lens s1;obtain⟨a3,a4⟩:=h2.lens s2;omega
theorem jzlt{w wB wx}{t}{AO}{co:Nat}{AL}{cl gt gS gl:Nat}{src dst h:Nat}{V:Value}{gs:List Gp}{V':Value}{mb:Nat}{f:Fs}{i:Nat}{y:Gp}
  (J:ShJ w wB wx t AO co AL cl gt gS gl src dst h V gs V' mb f) (hy:f.nx[i]?=some y):∃(gn cap:Nat) (n1:Bool) (A1:OA) (l1 c1:Nat) (qf:OA) (qe qa:Nat),V'=.s (sA gn) f.nx.length cap/\(∃cs,Blk wx gn 150 cs)/\
   (∀W,Ext wx W->W.cell? (aD gn (i*10+7))=some (.bool n1)/\W.cell? (aD gn (i*10+7+1))=some (.s A1 l1 c1)/\W.cell? (aD gn (i*10+7+2))=some (.s qf qe qa))/\aO wx n1 A1 l1 c1 qf qe qa y.am:=by
 obtain⟨gn,cap,cs,rfl,qg,_,hc,A0,n0,c0,n1,A1,l1,c1,qf,qe,qa,rfl,_,_,_,hr⟩:=J.nx.at_ hy;obtain⟨cs,hb⟩:=gO J.nx (b:=gn) rfl;refine⟨gn,cap,n1,A1,l1,c1,qf,qe,qa,rfl,⟨cs,hb⟩,fun W hx=>?_,hr⟩;have h7:=hc 7 (by decide);have h8:=hc 8 (by decide);have h9:=hc 9 (by decide);exact⟨(hx.cell (p:=(aD gn (i*10+7))) qg).trans h7,(hx.cell (p:=(aD gn (i*10+8))) qg).trans h8,(hx.cell (p:=(aD gn (i*10+9))) qg).trans h9⟩
theorem am_k{w wB wx}{t}{AO}{co:Nat}{AL}{cl gt gS gl:Nat}{src dst h:Nat}{V:Value}{gs:List Gp}{gn ln cap mb:Nat}{f:Fs}{gpt gq:Nat}{part:Rat}{A5}{n5 c5:Nat}{st:List Sg}{hq:Nat}{AR}{arcs:LN}{i:Nat}{y:Gp}{q:Rat}{neg:Bool}{A}{n c:Nat}{A'}{n' c':Nat}
  (J:ShJ w wB wx t AO co AL cl gt gS gl src dst h V gs (.s (sA gn) ln cap) mb f) (K:ShK wx src dst gpt gq part A5 n5 c5 st hq AR arcs) (hn:f.nx.length=ln) (hy:f.nx[i]?=some y) (hl:aO wx neg A n c A' n' c' q):
  ShJ w wB (((wx.setCell (aD gn (i*10+7)) (.bool neg)).setCell (aD gn (i*10+7+1)) (.s A n c)).setCell (aD gn (i*10+7+2)) (.s A' n' c')) t AO co AL cl gt gS gl src dst h V gs (.s (sA gn) ln cap) mb ⟨f.sh,f.lo,f.nx.set i ⟨y.node,y.st,q⟩⟩/\ShK (((wx.setCell (aD gn (i*10+7)) (.bool neg)).setCell (aD gn (i*10+7+1)) (.s A n c)).setCell (aD gn (i*10+7+2)) (.s A' n' c')) src dst gpt gq part A5 n5 c5 st hq AR arcs:=by
 obtain⟨j,k,cs,hb⟩:=J.amount hn hy hl;obtain⟨_,_,_,_,_,_,_,hp,_⟩:=id K.pt;exact⟨j,K.fr k (NoT.one hb (by decide)) (NoT.one hb (by decide)) (NoT.one hb (by decide)) (NoT.one hb (by decide)) (bL hp hb (by decide))⟩
set_option maxHeartbeats 40000000 in
theorem jzlu (t : Tp) (AO : OA) (co : Nat) (AL : OA) (cl : Nat) (kd nm : Int) (N : Nat) (TA : OA) (cT : Nat) (R : OA) (m cR : Nat) (r : LN) (w : World)
    (ht : aF w t AO co AL cl) (hv : aA t = true) (hN : t.nodes = (N : Int)) (h12 : N <= 12) (hL9 : t.links.length <= 9) (hTab : Tab w) (hT : RdL TbC 60 3 w TA (aC t kd nm)) (hR : Rd w R (ints r)) (hm : r.length = m) (h0 : 0 < m) (h32 : m <= 32) (hr : ∀ a ∈ r, a < 2 * t.links.length)
    (hC : ∀ h, (stG t (aC t kd nm) (hdN t (r[r.length - 1]?.getD 0)) (List.replicate (2 * t.links.length) 0) [⟨tlN t (r[0]?.getD 0), r.map fun a => (2, a), 1⟩] h).nx.length <= 100000) :
    Calls Tryz.prog 45 #[.agg #[vI t.nodes, .s AO t.over.length co, .s AL t.links.length cl], .s TA N cT, .agg #[vI kd, vI nm], .s R m cR] w (ShP w (2 * t.links.length) (bY t kd nm r)) := by
  have g := Gok.of hv
  have hNt : t.nodes.toNat = N := by omega
  have AR := Hx (fun (W : World) (hx : Ext w W) => fN t AO co AL cl W (ht.K hx))
  have TL := Hx (show ∀ (wx : World) (a : Nat), Ext w wx -> a < 2 * t.links.length -> Calls Tryz.prog 52 #[.agg #[vI t.nodes, .s AO t.over.length co, .s AL t.links.length cl], vI (a : Int)] wx fun e w' => e = .returned (vI (tlN t a : Int)) /\ Ext wx w' from fun wx a hx ha => by
    have h := eX t AO co AL cl a wx (ht.K hx) (by omega)
    rw[(eM hv ha).1] at h
    exact h)
  have HD := Hx (show ∀ (wx : World) (a : Nat), Ext w wx -> a < 2 * t.links.length -> Calls Tryz.prog 87 #[.agg #[vI t.nodes, .s AO t.over.length co, .s AL t.links.length cl], vI (a : Int)] wx fun e w' => e = .returned (vI (hdN t a : Int)) /\ Ext wx w' from fun wx a hx ha => by
    have h := fM t AO co AL cl a wx (ht.K hx) (by omega)
    rw[(eM hv ha).2] at h
    exact h)
  have ONE := Hx (show ∀ (wx : World), Calls Tryz.prog 34 #[vI 1] wx (eF wx 1) from fun wx => by
    have h := pR 1 wx (by decide) (by decide)
    have e : mkQ (decide ((1 : Int) < 0)) (1 : Int).natAbs 1 = 1 := by decide
    rw[e] at h
    exact h)
  obtain ⟨a0, ha0⟩ : ∃ a, r[0]? = some a := ⟨_, yG (by omega)⟩
  obtain ⟨al, hal⟩ : ∃ a, r[r.length - 1]? = some a := ⟨_, yG (by omega)⟩
  have ha0L := hr a0 (yJ ha0)
  have halL := hr al (yJ hal)
  have RC := Hx (show ∃ b o, R = some (aD b o) /\ ∀ wx, Ext w wx -> wx.cell? (aD b o) = some (vI (a0 : Int)) /\ wx.cell? (aD b (o + (m - 1))) = some (vI (al : Int)) from by
    obtain ⟨b, o, e, hb, hc⟩ := hR.ints_ (k := 0) (by omega)
    obtain ⟨b', o', e', _, hc'⟩ := hR.ints_ (k := r.length - 1) (by omega)
    rw[e] at e'
    injection e' with e'
    injection e' with e1 e2
    subst e1 e2
    rw[ha0, kQ1, kQ3] at hc
    rw[hal, kQ1, hm] at hc'
    exact ⟨b, o, e, fun wx hx => ⟨aH hx hc, aH hx hc'⟩⟩)
  have RD := Hx (show bY t kd nm r = if kd = 2 /\ nm = (tlN t a0 : Int) then (List.replicate (2 * t.links.length) 0, 1) else iF t (aC t kd nm) r from by
    unfold bY
    rw[ha0, kQ1])
  have RF := Hx (show iF t (aC t kd nm) r = flS t (aC t kd nm) (hdN t al) 257 0 (List.replicate (2 * t.links.length) 0) 0 [⟨tlN t a0, r.map fun a => (2, a), 1⟩] from by
    unfold iF
    rw[ha0, hal, kQ1, kQ1])
  have HC := Hx (show ∀ h, (stG t (aC t kd nm) (hdN t al) (List.replicate (2 * t.links.length) 0) [⟨tlN t a0, r.map fun a => (2, a), 1⟩] h).nx.length <= 100000 from by
    rw[ha0, hal, kQ1, kQ1] at hC
    exact hC)
  have hmk := wI (2 * t.links.length) (by omega)
  rw[show ((2 * t.links.length : Nat) : Int) = 2 * (t.links.length : Int) by omega] at hmk
  have B0 := Hx (enW w #[vI t.nodes, .s AO t.over.length co, .s AL t.links.length cl] #[vI kd, vI nm] #[.bool false, zN, zN] 25 27 40)
  have HH := Hx (kQa hv (kQa hN (kQa h12 (kQa hL9 (kQa g hNt)))))
  have HTB := Hx hTab
  have HT := Hx (kQa ht (kQa hTab hT))
  have HR := Hx (kQa hR (kQa hm hr))
  have HA := Hx (kQa ha0L halL)
  clear hC ht hv hN h12 hL9 hTab hT hR hm hr g hNt ha0 hal ha0L halL
  obtain ⟨bR, oR, rfl, RC1⟩ := RC.o
  have RCC := Hx RC1
  clear RC RC1
  go_enter Tryz.func45, Tryz.ntmps45
  go_upto_region 1 with fail
  generalize ((w.alloc (.cells #[vI t.nodes, .s AO t.over.length co, .s AL t.links.length cl] 25)).alloc (.cells #[vI kd, vI nm] 27)).alloc (.cells #[.bool false, zN, zN] 40) = w1 at *
  generalize hgt : w.heap.size = gt at *
  have HGT := Hx hgt
  clear hgt
  obtain ⟨⟨i0, i1_, i2_⟩, _⟩ := B0.o.1.t3
  go_wp2_with fail
  refine (AR.o _ B0.o.2.2.2).mono ?_
  rintro e w2 ⟨rfl, x2⟩
  go_upto_region 2 with fail
  have X3 := x2.alloc (.cells (madeCells #[.bool false, zN, zN] (2 * t.links.length * 3)) 40)
  have Q3 := Hx (show Blk (w2.alloc (.cells (madeCells #[.bool false, zN, zN] (2 * t.links.length * 3)) 40)) gt 25 #[vI t.nodes, .s AO t.over.length co, .s AL t.links.length cl] /\ Blk (w2.alloc (.cells (madeCells #[.bool false, zN, zN] (2 * t.links.length * 3)) 40)) (gt + 1) 27 #[vI kd, vI nm] /\ Blk (w2.alloc (.cells (madeCells #[.bool false, zN, zN] (2 * t.links.length * 3)) 40)) (gt + 1 + 1) 40 #[.bool false, zN, zN] /\ Ext w (w2.alloc (.cells (madeCells #[.bool false, zN, zN] (2 * t.links.length * 3)) 40)) /\ QB (w2.alloc (.cells (madeCells #[.bool false, zN, zN] (2 * t.links.length * 3)) 40)) w2.heap.size (List.replicate (2 * t.links.length) 0) /\ gt + 1 + 1 < w2.heap.size from
    ⟨B0.o.1.K X3, B0.o.2.1.K X3, B0.o.2.2.1.K X3, B0.o.2.2.2.tr X3, QB.made _ _, (B0.o.2.2.1.K x2).lt⟩)
  clear X3 x2 B0 AR hmk i0 i1_ i2_
  generalize w2.alloc (.cells (madeCells #[.bool false, zN, zN] (2 * t.links.length * 3)) 40) = w3 at *
  generalize w2.heap.size = gS at *
  obtain ⟨⟨i0, i1_, i2_⟩, _⟩ := Q3.o.1.t3
  have z0 := xc i0
  have z1 := xc i1_
  have z2 := xc i2_
  have z3 := xc (RCC.o _ Q3.o.2.2.2.1).1
  have m0 : (0 : Int) < (m : Int) := by omega
  have TL0 := Hx (fun xx : XW w3 => TL.o xx.val a0 (Q3.o.2.2.2.1.tr xx.ext) HA.o.1)
  refine bH (by kernel_rfl) (by kernel_rfl) ?_
  repeat (go_big_quiet_step ((go_at_call 52; with_reducible exact Calls.ext_of (TL0.o _))))
  refine wpQuiet_nil ?_
  rintro _ ⟨xx, rfl⟩
  have Q4 := Hx (show Blk xx.val gt 25 #[vI t.nodes, .s AO t.over.length co, .s AL t.links.length cl] /\ Blk xx.val (gt + 1) 27 #[vI kd, vI nm] /\ Blk xx.val (gt + 1 + 1) 40 #[.bool false, zN, zN] /\ Ext w xx.val /\ QB xx.val gS (List.replicate (2 * t.links.length) 0) /\ gt + 1 + 1 < gS from
    ⟨Q3.o.1.K xx.ext, Q3.o.2.1.K xx.ext, Q3.o.2.2.1.K xx.ext, Q3.o.2.2.2.1.tr xx.ext, Q3.o.2.2.2.2.1.K xx.ext, Q3.o.2.2.2.2.2⟩)
  clear Q3 z0 z1 z2 z3 TL0 i0 i1_ i2_
  generalize xx.val = w4 at *
  obtain ⟨sc, hsc⟩ : ∃ s, s = tlN t a0 := ⟨_, rfl⟩
  rw[<- hsc]
  have HSC := Hx hsc
  rw[<- hsc] at RD RF HC
  clear hsc
  have k0 : w4.cell? (aD (gt + 1) 0) = some (vI kd) := Q4.o.2.1.cell 0
  have k1 : w4.cell? (aD (gt + 1) 1) = some (vI nm) := Q4.o.2.1.cell 1
  go_upto_region 3 with fail
  go_cut [47] (fun v wx => wx = w4 /\ v = .bool (decide (kd = 2 /\ nm = (sc : Int))))
  case first =>
    by_cases hk : kd = 2
    · have hk1 : (kd == 2) = true := by rw[hk]; rfl
      have HK := Hx hk
      clear hk
      go_wp2
      go_meet
      refine ⟨rfl, ?_⟩
      congr 1
      by_cases hn : nm = (sc : Int)
      · rw[yO ⟨HK.o, hn⟩, hn]; simp
      · rw[yP fun h => hn h.2]; simp[hn]
    · have hk1 : (kd == 2) = false := yK.2 hk
      have HK := Hx hk
      clear hk
      go_wp2
      go_meet
      refine ⟨rfl, ?_⟩
      rw[yP fun h => HK.o h.1]
  case rest =>
    obtain ⟨hwc, rfl⟩ := hcut
    subst hwc
    clear k0 k1
    generalize wc = wq at *
    by_cases hsrc : kd = 2 /\ nm = (sc : Int)
    · have SR := Hx (show bY t kd nm r = (List.replicate (2 * t.links.length) 0, 1) from by rw[RD.o, if_pos hsrc])
      rw[yO hsrc]
      clear hsrc
      go_wp2_with fail
      refine (ONE.o _).mono ?_
      rintro e w5 ⟨n1, A1, l1, c1, A1', l1', c1', rfl, h1, x5⟩
      obtain ⟨⟨d0, d1, d2⟩, f0, f1, f2⟩ := (Q4.o.2.2.1.K x5).t3
      have S5 := Hx (eD (.bool n1) (.s A1 l1 c1) (.s A1' l1' c1') (Q4.o.2.2.1.K x5))
      have F := Hx (show ShP w (2 * t.links.length) (bY t kd nm r) (.returned (.tuple #[.s (sA gS) (2 * t.links.length) (2 * t.links.length), .agg #[.bool n1, .s A1 l1 c1, .s A1' l1' c1']])) (((w5.setCell (aD (gt + 1 + 1) 0) (.bool n1)).setCell (aD (gt + 1 + 1) 1) (.s A1 l1 c1)).setCell (aD (gt + 1 + 1) 2) (.s A1' l1' c1')) from by
        rw[SR.o]
        have nu : NoT (fun b => b = gt + 1 + 1) w5 168 := NoT.one (Q4.o.2.2.1.K x5) (by decide)
        exact ⟨gS, n1, A1, l1, c1, A1', l1', c1', rfl, gM (Q4.o.2.2.2.2.1.K x5) S5.o.2 (by have := Q4.o.2.2.2.2.2; show ¬ gS = gt + 1 + 1; omega) nu, S5.o.2.ratR nu h1, S5.o.2.ext (Q4.o.2.2.2.1.tr x5) fun b hb => by have hb : b = gt + 1 + 1 := hb; have := HGT.o; omega, by have := Q4.o.2.2.2.2.2; have := HGT.o; omega⟩)
      clear h1 x5
      go_wp2
      obtain ⟨⟨r0, r1, r2⟩, _⟩ := S5.o.1.t3
      clear S5 d0 d1 d2 f0 f1 f2
      generalize ((w5.setCell (aD (gt + 1 + 1) 0) (.bool n1)).setCell (aD (gt + 1 + 1) 1) (.s A1 l1 c1)).setCell (aD (gt + 1 + 1) 2) (.s A1' l1' c1') = w6 at *
      refine bodyPost_ret (v := .tuple #[.s (sA gS) (2 * t.links.length) (2 * t.links.length), .agg #[.bool n1, .s A1 l1 c1, .s A1' l1' c1']]) ?_ rfl F.o
      simp[results, Tryz.results45, go_sem, asAddr, Result.andThen, r0, r1, r2]
    · have SR := Hx (show bY t kd nm r = flS t (aC t kd nm) (hdN t al) 257 0 (List.replicate (2 * t.links.length) 0) 0 [⟨sc, r.map fun a => (2, a), 1⟩] from by rw[RD.o, if_neg hsrc, RF.o])
      rw[yP hsrc]
      clear hsrc RD RF
      go_upto_region 5 with fail
      obtain ⟨dl, hdl⟩ : ∃ d, d = hdN t al := ⟨_, rfl⟩
      rw[<- hdl] at SR HC
      have HDL := Hx hdl
      clear hdl
      go_cut [12] (fun v wx => ∃ gk : Nat, v = .pointer (sA gk) /\ Hid (Blk wx gk 147 #[vI 0, vI (sc : Int), vI (dl : Int), vI 0, zN, vI 0] /\ Ext wq wx /\ wq.heap.size <= gk))
      case first =>
        as_aux_lemma =>
          have KEEP := Hx (show ∀ W, Ext wq W -> W.cell? (aD gt 0) = some (vI t.nodes) /\ W.cell? (aD gt 1) = some (.s AO t.over.length co) /\ W.cell? (aD gt 2) = some (.s AL t.links.length cl) /\ W.cell? (aD bR (oR + (m - 1))) = some (vI (al : Int)) from fun W hx => by
            obtain ⟨⟨a, b, c⟩, _⟩ := (Q4.o.1.K hx).t3
            exact ⟨a, b, c, (RCC.o _ (Q4.o.2.2.2.1.tr hx)).2⟩)
          have Xwd := Hx (show Ext wq wq.drew from (eR wq).drewN 1)
          have HSW := Hx (KEEP.o _ Xwd.o)
          have mt : ((m : Int) - 1).toNat = m - 1 := by omega
          have mw : IntKind.i64.wrap ((m : Int) - 1) = (m : Int) - 1 := IntWalk.i64_in _ (by omega)
          have m1 : (1 : Int) <= (m : Int) := by omega
          have mlt : (m : Int) - 1 < (m : Int) := by omega
          have HDl := Hx (show ∀ W, Ext w W -> Calls Tryz.prog 87 #[.agg #[vI t.nodes, .s AO t.over.length co, .s AL t.links.length cl], vI (al : Int)] W fun e w' => e = .returned (vI (dl : Int)) /\ Ext W w' from fun W hx => by rw[HDL.o]; exact HD.o W al hx HA.o.2)
          refine wp_region_last (fun W => W.cell? (aD gt 0) = some (vI t.nodes) /\ W.cell? (aD gt 1) = some (.s AO t.over.length co) /\ W.cell? (aD gt 2) = some (.s AL t.links.length cl) /\ W.cell? (aD bR (oR + (m - 1))) = some (vI (al : Int))) 11 (by kernel_rfl) ?_
          generalize wq.drew = wd at *
          refine wT 1 (v := ?_) rfl ?_ HSW.o ?_
          rotate_left
          focus (intro w hSw; obtain ⟨s0, s1, s2, s3⟩ := hSw; go_simp; try with_reducible rfl)
          try simp only[Act.put, yA, yB, yC, yD, yE, yF]
          refine wP 0 rfl HSW.o ?_
          try simp only[Act.put, yA, yB, yC, yD, yE, yF]
          refine wP 2 rfl HSW.o ?_
          try simp only[Act.put, yA, yB, yC, yD, yE, yF]
          refine wP 3 rfl HSW.o ?_
          try simp only[Act.put, yA, yB, yC, yD, yE, yF]
          refine wP 4 rfl HSW.o ?_
          try simp only[Act.put, yA, yB, yC, yD, yE, yF]
          refine wP 5 rfl HSW.o ?_
          try simp only[Act.put, yA, yB, yC, yD, yE, yF]
          refine wP 6 rfl HSW.o ?_
          try simp only[Act.put, yA, yB, yC, yD, yE, yF]
          refine wT 7 (v := ?_) rfl ?_ HSW.o ?_
          rotate_left
          focus (intro w hSw; obtain ⟨s0, s1, s2, s3⟩ := hSw; go_simp; try with_reducible rfl)
          try simp only[Act.put, yA, yB, yC, yD, yE, yF]
          refine eT (i := 8) (j := 10) (by decide) (by decide) (by kernel_rfl) rfl rfl (by rfl) (by rfl) (fun KK hK => ?_) (fun KK hK => ?_)
          · go_simp
            refine (HDl.o _ (Q4.o.2.2.2.1.tr Xwd.o)).mono ?_
            rintro e we ⟨rfl, x5⟩
            have Xwe := Hx (Xwd.o.tr x5)
            refine hK.o _ _ (KEEP.o _ Xwe.o) ?_
            clear hK KK HSW x5
            have HSW := Hx (KEEP.o _ Xwe.o)
            try simp only[Act.put, yD, yE, yF]
            refine wP 9 rfl HSW.o ?_
            try simp only[Act.put, yA, yB, yC, yD, yE, yF]
            refine wC 10 rfl (fun KK hK => ?_)
            go_simp
            have Xwf := Hx (show Ext wq (we.alloc (.cells #[vI 0, vI 0, vI 0, vI 0, zN, vI 0] 147)) from Xwe.o.alloc _)
            have BN := Hx (show Blk (we.alloc (.cells #[vI 0, vI 0, vI 0, vI 0, zN, vI 0] 147)) we.heap.size 147 #[vI 0, vI 0, vI 0, vI 0, zN, vI 0] /\ wq.heap.size <= we.heap.size from ⟨eN we _ _, Xwe.o.size⟩)
            refine hK.o _ _ (KEEP.o _ Xwf.o) ?_
            clear hK KK HSW
            have HSW := Hx (KEEP.o _ Xwf.o)
            generalize we.alloc (.cells #[vI 0, vI 0, vI 0, vI 0, zN, vI 0] 147) = wf at *
            generalize we.heap.size = gk at *
            try simp only[Act.put, yD, yE, yF]
            obtain ⟨⟨d0, d1, d2, d3, d4, d5⟩, f0, f1, f2, f3, f4, f5⟩ := bC BN.o.1
            refine aV (by kernel_rfl) rfl (by rfl) (fun KK hK => ?_)
            go_simp
            refine hK.o _ _ ?_
            clear hK KK
            try simp only[Act.put, yD, yE, yF]
            refine wpAny_done (by kernel_rfl) ?_ _
            have S9 := Hx (show Blk ((((((wf.setCell (aD gk 0) (vI 0)).setCell (aD gk 1) (vI (sc : Int))).setCell (aD gk 2) (vI (dl : Int))).setCell (aD gk 3) (vI 0)).setCell (aD gk 4) zN).setCell (aD gk 5) (vI 0)) gk 147 #[vI 0, vI (sc : Int), vI (dl : Int), vI 0, zN, vI 0] /\ Ext wq ((((((wf.setCell (aD gk 0) (vI 0)).setCell (aD gk 1) (vI (sc : Int))).setCell (aD gk 2) (vI (dl : Int))).setCell (aD gk 3) (vI 0)).setCell (aD gk 4) zN).setCell (aD gk 5) (vI 0)) /\ wq.heap.size <= gk from by
              obtain ⟨s1, s2⟩ := dO (vI 0) (vI (sc : Int)) (vI (dl : Int)) (vI 0) zN (vI 0) BN.o.1
              exact ⟨s1, s2.ext Xwf.o fun b hb => by have hb : b = gk := hb; have := BN.o.2; omega, BN.o.2⟩)
            clear d0 d1 d2 d3 d4 d5 f0 f1 f2 f3 f4 f5 BN HSW
            generalize ((((((wf.setCell (aD gk 0) (vI 0)).setCell (aD gk 1) (vI (sc : Int))).setCell (aD gk 2) (vI (dl : Int))).setCell (aD gk 3) (vI 0)).setCell (aD gk 4) zN).setCell (aD gk 5) (vI 0)) = wg at *
            go_wp2
            go_meet
            exact ⟨gk, rfl, S9⟩
          · go_simp
            have Xwe := Hx (show Ext wq (wd.alloc (.cells #[vI 0, vI 0, vI 0, vI 0, zN, vI 0] 147)) from Xwd.o.alloc _)
            have BN := Hx (show Blk (wd.alloc (.cells #[vI 0, vI 0, vI 0, vI 0, zN, vI 0] 147)) wd.heap.size 147 #[vI 0, vI 0, vI 0, vI 0, zN, vI 0] /\ wq.heap.size <= wd.heap.size from ⟨eN wd _ _, Xwd.o.size⟩)
            refine hK.o _ _ (KEEP.o _ Xwe.o) ?_
            clear hK KK HSW
            have HSW := Hx (KEEP.o _ Xwe.o)
            generalize wd.alloc (.cells #[vI 0, vI 0, vI 0, vI 0, zN, vI 0] 147) = we at *
            generalize wd.heap.size = gk at *
            try simp only[Act.put, yD, yE, yF]
            refine wC 8 rfl (fun KK hK => ?_)
            go_simp
            refine (HDl.o _ (Q4.o.2.2.2.1.tr Xwe.o)).mono ?_
            rintro e wf ⟨rfl, x5⟩
            have Xwf := Hx (Xwe.o.tr x5)
            have BN := Hx (kQa (BN.o.1.K x5) BN.o.2)
            refine hK.o _ _ (KEEP.o _ Xwf.o) ?_
            clear hK KK HSW x5
            have HSW := Hx (KEEP.o _ Xwf.o)
            try simp only[Act.put, yD, yE, yF]
            refine wP 9 rfl HSW.o ?_
            try simp only[Act.put, yA, yB, yC, yD, yE, yF]
            obtain ⟨⟨d0, d1, d2, d3, d4, d5⟩, f0, f1, f2, f3, f4, f5⟩ := bC BN.o.1
            refine aV (by kernel_rfl) rfl (by rfl) (fun KK hK => ?_)
            go_simp
            refine hK.o _ _ ?_
            clear hK KK
            try simp only[Act.put, yD, yE, yF]
            refine wpAny_done (by kernel_rfl) ?_ _
            have S9 := Hx (show Blk ((((((wf.setCell (aD gk 0) (vI 0)).setCell (aD gk 1) (vI (sc : Int))).setCell (aD gk 2) (vI (dl : Int))).setCell (aD gk 3) (vI 0)).setCell (aD gk 4) zN).setCell (aD gk 5) (vI 0)) gk 147 #[vI 0, vI (sc : Int), vI (dl : Int), vI 0, zN, vI 0] /\ Ext wq ((((((wf.setCell (aD gk 0) (vI 0)).setCell (aD gk 1) (vI (sc : Int))).setCell (aD gk 2) (vI (dl : Int))).setCell (aD gk 3) (vI 0)).setCell (aD gk 4) zN).setCell (aD gk 5) (vI 0)) /\ wq.heap.size <= gk from by
              obtain ⟨s1, s2⟩ := dO (vI 0) (vI (sc : Int)) (vI (dl : Int)) (vI 0) zN (vI 0) BN.o.1
              exact ⟨s1, s2.ext Xwf.o fun b hb => by have hb : b = gk := hb; have := BN.o.2; omega, BN.o.2⟩)
            clear d0 d1 d2 d3 d4 d5 f0 f1 f2 f3 f4 f5 BN HSW
            generalize ((((((wf.setCell (aD gk 0) (vI 0)).setCell (aD gk 1) (vI (sc : Int))).setCell (aD gk 2) (vI (dl : Int))).setCell (aD gk 3) (vI 0)).setCell (aD gk 4) zN).setCell (aD gk 5) (vI 0)) = wg at *
            go_wp2
            go_meet
            exact ⟨gk, rfl, S9⟩
      case rest =>
        obtain ⟨gk, rfl, BK⟩ := hcut
        generalize wc = wk at *
        have L0 := Hx (show Blk wk gk 147 #[vI 0, vI (sc : Int), vI (dl : Int), vI 0, zN, vI 0] /\ wk.ownsRow wk.heap.size 148 2 zN 0 (sgc (sgI ((r.map fun a => ((2, a) : Sg)).take 0))) /\ Ext wq wk /\ wk.heap.size <= wk.heap.size from ⟨BK.o.1, World.ownsRow_nil _ _ _ _, BK.o.2.1, yX _⟩)
        have GKL := Hx (kQa BK.o.2.2 BK.o.2.1.size)
        clear BK
        go_wp2
        go_loopg [14, 62] m (fun q _ it wx => ∃ (j : Nat) (V : Value), m - j = q /\ j <= m /\ it = vI (j : Int) /\ Hid (Blk wx gk 147 #[vI 0, vI (sc : Int), vI (dl : Int), vI 0, V, vI 0] /\ wx.ownsRow wk.heap.size 148 2 V j (sgc (sgI ((r.map fun a => ((2, a) : Sg)).take j))) /\ Ext wq wx /\ wk.heap.size <= wx.heap.size))
        case atStart => exact ⟨0, _, rfl, yZ _, rfl, L0⟩
        case round =>
          obtain ⟨j, V, rfl, hj, rfl, I⟩ := hrel
          clear L0
          by_cases hjm : j < m
          · obtain ⟨a, ha⟩ : ∃ a, r[j]? = some a := ⟨_, yG (by rw[HR.o.2.1]; exact hjm)⟩
            have hc : wr.cell? (aD bR (oR + j)) = some (vI (a : Int)) := by
              obtain ⟨b, o, e, _, hc⟩ := HR.o.1.ints_ (k := j) (by rw[HR.o.2.1]; exact hjm)
              injection e with e
              injection e with e1 e2
              subst e1 e2
              rw[ha, kQ1] at hc
              exact aH (Q4.o.2.2.2.1.tr I.o.2.2.1) hc
            have jm : (j : Int) < (m : Int) := by omega
            have ST := Hx (show ((r.map fun a => ((2, a) : Sg)).take (j + 1)) = ((r.map fun a => ((2, a) : Sg)).take j) ++ [(2, a)] from by rw[kQr, yW, ha]; rfl)
            have BC := Hx (eN wr 148 #[vI 2, vI (a : Int)])
            have I1 := Hx (show Blk (wr.alloc (.cells #[vI 2, vI (a : Int)] 148)) gk 147 #[vI 0, vI (sc : Int), vI (dl : Int), vI 0, V, vI 0] /\ (wr.alloc (.cells #[vI 2, vI (a : Int)] 148)).ownsRow wk.heap.size 148 2 V j (sgc (sgI ((r.map fun a => ((2, a) : Sg)).take j))) /\ Ext wq (wr.alloc (.cells #[vI 2, vI (a : Int)] 148)) /\ wk.heap.size <= (wr.alloc (.cells #[vI 2, vI (a : Int)] 148)).heap.size from ⟨I.o.1.alloc _, dB I.o.2.1 ((eR wr).alloc _), I.o.2.2.1.alloc _, yY I.o.2.2.2 ((eR wr).alloc _).size⟩)
            have p4 : wr.cell? (aD gk 4) = some V := I.o.1.cell 4
            have hsz : wk.heap.size <= (wr.alloc (.cells #[vI 2, vI (a : Int)] 148)).heap.size := I1.o.2.2.2
            clear I ha
            go_wp2_with (at_builtin; refine dW _ 101 148 _ 2 16 rfl _ _ rfl Tryz.underlying101 kK rfl (by decide) wk.heap.size V j (sgc (sgI ((r.map fun a => ((2, a) : Sg)).take j))) rfl I1.o.2.1 [vI 2, vI (a : Int)] rfl (by simp[Value.oneCell']) wr.heap.size rfl BC.o (by unfold maxLen; omega) (by omega) hsz ?_)
            intro g9 c9 w9 own9 grow9 new9
            have k1 : FrS (fun b => V.ownBlock = some b) (wr.alloc (.cells #[vI 2, vI (a : Int)] 148)) w9 := eG grow9 fun g e => e
            have b9 := k1.blk I1.o.1 (fun e => aW I1.o.2.1 e (by decide) _ _ I1.o.1)
            have k2 : FrS (fun b => b = gk) w9 (w9.setCell (aD gk 4) (.s (sA g9) (j + 1) c9)) := eG (bI w9 gk 4 _) fun y e => by
              injection e with e
              exact e.symm
            have R := Hx (show Blk (w9.setCell (aD gk 4) (.s (sA g9) (j + 1) c9)) gk 147 #[vI 0, vI (sc : Int), vI (dl : Int), vI 0, (.s (sA g9) (j + 1) c9), vI 0] /\ (w9.setCell (aD gk 4) (.s (sA g9) (j + 1) c9)).ownsRow wk.heap.size 148 2 (.s (sA g9) (j + 1) c9) (j + 1) (sgc (sgI ((r.map fun a => ((2, a) : Sg)).take (j + 1)))) /\ Ext wq (w9.setCell (aD gk 4) (.s (sA g9) (j + 1) c9)) /\ wk.heap.size <= (w9.setCell (aD gk 4) (.s (sA g9) (j + 1) c9)).heap.size from
              ⟨b9.sT 4 _, by
                have e2 : sgc (sgI [(2, a)]) = [vI 2, vI (a : Int)] := rfl
                rw[ST.o, nW, jzap, e2]
                exact k2.own own9 (fun b hb e => by
                  have e : b = gk := e
                  subst e
                  exact aW own9 hb (t := 147) (by decide) _ _ b9),
              k2.ext (k1.ext I1.o.2.2.1 fun b hb => by have := (I1.o.2.1.lt b hb).1; have := GKL.o.2; omega) fun b hb => by have hb : b = gk := hb; have := GKL.o.1; omega, yY I1.o.2.2.2 (yY k1.size k2.size)⟩)
            have u1 : w9.cell? (aD gk 4) = some V := b9.cell 4
            have u2 := b9.frozen 4
            clear own9 grow9 new9 k1 k2 b9 I1 BC hsz p4 hc
            go_wp2
            go_roundg (m - (j + 1))
            case measure => omega
            case rel => exact ⟨j + 1, _, rfl, by omega, by go_num, R⟩
          · obtain rfl : m = j := by omega
            have jm : ¬ (m : Int) < (m : Int) := by omega
            obtain ⟨A6, c6, rfl, hc6⟩ := oFA I.o.2.1
            obtain ⟨STK, hstk⟩ : ∃ s, s = r.map fun a => ((2, a) : Sg) := ⟨_, rfl⟩
            have htk : (r.map fun a => ((2, a) : Sg)).take m = r.map fun a => ((2, a) : Sg) := yU (by rw[xV]; exact Nat.le_of_eq HR.o.2.1)
            have O6 := I.o.2.1
            rw[htk, <- hstk] at O6
            have O7 : OwS wq wr (.s A6 m c6) (sgI STK) := ⟨by
              have h := O6.mono GKL.o.2
              have e : (sgI STK).length = m := by rw[eS, hstk, xV]; exact HR.o.2.1
              rw[e]
              exact h, I.o.2.2.1⟩
            obtain ⟨k6, _, r6⟩ := O7.rdSg
            have SK := Hx (show (bB wr A6 STK /\ STK.length = m /\ m <= c6) /\ (∀ s ∈ STK, sgB t s) /\ STK = r.map (fun a => ((2, a) : Sg)) from ⟨⟨r6, k6.symm, hc6⟩, fun s hs => by
              rw[hstk] at hs
              obtain ⟨a, h1, rfl⟩ := kQl.1 hs
              exact .inr ⟨rfl, HR.o.2.2 a h1⟩, hstk⟩)
            have PK := Hx (kQa I.o.1 (kQa I.o.2.2.1 GKL.o.1))
            rw[<- hstk] at SR HC
            clear O6 O7 k6 r6 hstk htk hc6 I GKL
            go_upto_region 12 with fail
            have W7 := Hx (show Blk (wr.alloc (.cells #[.bool false, zN, zN] 40)) wr.heap.size 40 #[.bool false, zN, zN] /\ Ext wr (wr.alloc (.cells #[.bool false, zN, zN] 40)) from ⟨eN wr _ _, (eR wr).alloc _⟩)
            have GL := Hx (show wq.heap.size <= wr.heap.size from PK.o.2.1.size)
            generalize wr.alloc (.cells #[.bool false, zN, zN] 40) = w7 at *
            generalize wr.heap.size = gl at *
            have P7 := Hx (show Blk w7 gk 147 #[vI 0, vI (sc : Int), vI (dl : Int), vI 0, (.s A6 m c6), vI 0] /\ Ext wq w7 /\ bB w7 A6 STK /\ Blk w7 gl 40 #[.bool false, zN, zN] from ⟨PK.o.1.K W7.o.2, PK.o.2.1.tr W7.o.2, SK.o.1.1.K W7.o.2, W7.o.1⟩)
            clear W7 PK
            have XD := Hx (show Ext w7 w7.drew from (eR w7).drewN 1)
            have KEEP := Hx (show ∀ W, Ext w7 W -> W.cell? (aD gk 0) = some (vI 0) /\ W.cell? (aD gk 1) = some (vI (sc : Int)) /\ W.cell? (aD gk 2) = some (vI (dl : Int)) /\ W.cell? (aD gk 3) = some (vI 0) /\ W.cell? (aD gk 4) = some (.s A6 m c6) /\ W.cell? (aD gk 5) = some (vI 0) from fun W hx => (bC (P7.o.1.K hx)).1)
            have HSW := Hx (KEEP.o _ XD.o)
            refine wp_region_last (fun W => W.cell? (aD gk 0) = some (vI 0) /\ W.cell? (aD gk 1) = some (vI (sc : Int)) /\ W.cell? (aD gk 2) = some (vI (dl : Int)) /\ W.cell? (aD gk 3) = some (vI 0) /\ W.cell? (aD gk 4) = some (.s A6 m c6) /\ W.cell? (aD gk 5) = some (vI 0)) 5 (by kernel_rfl) ?_
            generalize w7.drew = wd at *
            refine wP 0 rfl HSW.o ?_
            try simp only[Act.put, yA, yB, yC, yD, yE, yF]
            refine wT 1 (v := ?_) rfl ?_ HSW.o ?_
            rotate_left
            focus (intro w hSw; obtain ⟨s0, s1, s2, s3, s4, s5⟩ := hSw; go_simp; try with_reducible rfl)
            try simp only[Act.put, yA, yB, yC, yD, yE, yF]
            refine wC 2 rfl (fun KK hK => ?_)
            go_simp
            refine (ONE.o _).mono ?_
            rintro e w8 ⟨n1, A1, l1, c1, A1', l1', c1', rfl, h1, x8⟩
            have X8 := Hx (XD.o.tr x8)
            have H1 := Hx h1
            refine hK.o _ _ (KEEP.o _ X8.o) ?_
            clear hK KK HSW x8 h1 XD
            have HSW := Hx (KEEP.o _ X8.o)
            try simp only[Act.put, yD, yE, yF]
            refine wP 3 rfl HSW.o ?_
            try simp only[Act.put, yA, yB, yC, yD, yE, yF]
            refine wC 4 rfl (fun KK hK => ?_)
            go_simp
            have X9 := Hx (show Ext w7 (w8.alloc (.cells #[vI (sc : Int), vI 0, vI (sc : Int), vI (dl : Int), vI 0, .s A6 m c6, vI 0, .bool n1, .s A1 l1 c1, .s A1' l1' c1'] 150)) from X8.o.alloc _)
            have G9 := Hx (show Blk (w8.alloc (.cells #[vI (sc : Int), vI 0, vI (sc : Int), vI (dl : Int), vI 0, .s A6 m c6, vI 0, .bool n1, .s A1 l1 c1, .s A1' l1' c1'] 150)) w8.heap.size 150 #[vI (sc : Int), vI 0, vI (sc : Int), vI (dl : Int), vI 0, .s A6 m c6, vI 0, .bool n1, .s A1 l1 c1, .s A1' l1' c1'] /\ aO (w8.alloc (.cells #[vI (sc : Int), vI 0, vI (sc : Int), vI (dl : Int), vI 0, .s A6 m c6, vI 0, .bool n1, .s A1 l1 c1, .s A1' l1' c1'] 150)) n1 A1 l1 c1 A1' l1' c1' 1 /\ wq.heap.size <= w8.heap.size from ⟨eN w8 _ _, H1.o.K ((eR w8).alloc _), (P7.o.2.1.tr X8.o).size⟩)
            refine hK.o _ _ (KEEP.o _ X9.o) ?_
            clear hK KK HSW H1 X8
            have HSW := Hx (KEEP.o _ X9.o)
            generalize w8.alloc (.cells #[vI (sc : Int), vI 0, vI (sc : Int), vI (dl : Int), vI 0, .s A6 m c6, vI 0, .bool n1, .s A1 l1 c1, .s A1' l1' c1'] 150) = w9 at *
            generalize w8.heap.size = gg at *
            try simp only[Act.put, yD, yE, yF]
            refine aV (by kernel_rfl) rfl (by rfl) (fun KK hK => ?_)
            go_simp
            refine hK.o _ _ ?_
            clear hK KK HSW KEEP
            try simp only[Act.put, yD, yE, yF]
            refine wpAny_done (by kernel_rfl) ?_ _
            have E0 := Hx (Q4.o.2.2.2.1.tr (P7.o.2.1.tr X9.o))
            have SI0 := Hx (show ShI w w9 t AO co AL cl gt gS gl (List.replicate (2 * t.links.length) 0) 0 from
              ⟨E0.o, Q4.o.1.K (P7.o.2.1.tr X9.o), Q4.o.2.2.1.K (P7.o.2.1.tr X9.o), Q4.o.2.2.2.2.1.K (P7.o.2.1.tr X9.o), ⟨false, none, 0, 0, none, 0, 0, P7.o.2.2.2.K X9.o, rJ _⟩, by
                have h1 := Q4.o.2.2.2.2.2
                have h2 := Q4.o.2.2.2.2.1.lt
                have h3 := GL.o
                omega, by
                have h1 := Q4.o.2.2.2.2.2
                have h3 := GL.o
                have h4 := HGT.o
                have h5 := Q4.o.2.2.2.1.size
                omega⟩)
            have OW0 := Hx (show OwL (GpM sc dl 0) 150 10 w9 w.heap.size (.s (sA gg) 1 1) [⟨sc, STK, 1⟩] from
              ⟨[[vI (sc : Int), vI 0, vI (sc : Int), vI (dl : Int), vI 0, .s A6 m c6, vI 0, .bool n1, .s A1 l1 c1, .s A1' l1' c1']], rfl, (fun cs hc => by obtain rfl : cs = _ := (by simpa using hc); rfl), ⟨rfl, .inr ⟨gg, 1, #[vI (sc : Int), vI 0, vI (sc : Int), vI (dl : Int), vI 0, .s A6 m c6, vI 0, .bool n1, .s A1 l1 c1, .s A1' l1' c1'], rfl, by have := G9.o.2.2; have := Q4.o.2.2.2.1.size; omega, G9.o.1, yX _, by decide, rfl, rfl⟩⟩, fun i x hx => by
                cases i with
                | zero =>
                  injection hx with hx
                  subst hx
                  exact ⟨_, rfl, A6, m, c6, n1, A1, l1, c1, A1', l1', c1', rfl, SK.o.1.2.1, SK.o.1.2.2, P7.o.2.2.1.K X9.o, G9.o.2.1⟩
                | succ i => simp at hx⟩)
            have RI0 := Hx (show RI t kd nm sc dl 0 (List.replicate (2 * t.links.length) 0) 0 [⟨sc, STK, 1⟩] from RI.start (by rw[HSC.o]; exact HH.o.2.2.2.2.1.tl _ HA.o.1) SK.o.2.1)
            have LEN0 := Hx (show ∀ g ∈ [(⟨sc, STK, 1⟩ : Gp)], g.st.length <= 32 from fun g hg => by
              obtain rfl : g = _ := by simpa using hg
              show STK.length <= 32
              rw[SK.o.1.2.1]; exact h32)
            have HQ := Hx (show w.heap.size + 2 < w.heap.size + 3 from by omega)
            clear X9 G9 P7 SK E0 Q4 GL ONE RCC HSC
            go_wp2
            have hmap : ∀ W : World, (Instr.makeMap 152 none).run Tryz.prog W = .ok (.map (some W.heap.size)) (W.alloc (.map #[] 0)) := fun W => rfl
            go_loopg [16, 17, 18, 20, 21, 22, 23, 24, 25, 27, 28, 29, 30] 257 (fun q v16 _ _ _ _ _ _ _ _ _ _ _ _ wx => ∃ (h : Nat) (sh : LQ) (lo : Rat) (gs : List Gp) (V : Value), 257 - h = q /\ V = v16 /\ h <= 256 /\ Hid (RI t kd nm sc dl h sh lo gs /\ (256 <= h -> gs = []) /\ (∀ g ∈ gs, g.st.length <= 32) /\ flS t (aC t kd nm) dl (257 - h) h sh lo gs = bY t kd nm r /\ ShI w wx t AO co AL cl gt gS gl sh lo /\ OwL (GpM sc dl h) 150 10 wx w.heap.size V gs /\ stG t (aC t kd nm) dl (List.replicate (2 * t.links.length) 0) [⟨sc, STK, 1⟩] h = ⟨sh, lo, gs⟩))
            case atStart => exact ⟨0, _, _, _, _, rfl, rfl, by omega, Hx ⟨RI0.o, (fun h => absurd h (by decide)), LEN0.o, SR.o.symm, SI0.o, OW0.o, rfl⟩⟩
            case round =>
              clear RI0 LEN0 SI0 OW0
              obtain ⟨h, sh, lo, gs, V, rfl, rfl, h256, I⟩ := hrel
              obtain ⟨AV, cV, rfl, hcV⟩ := I.o.2.2.2.2.2.1.form
              cases gs with
              | nil =>
                have FL := Hx (show bY t kd nm r = (sh, lo) from by
                  rw[<- I.o.2.2.2.1]
                  obtain ⟨k, hk⟩ : ∃ k, 257 - h = k + 1 := ⟨256 - h, by omega⟩
                  rw[hk]
                  rfl)
                have SI := Hx I.o.2.2.2.2.1
                clear I hcV
                go_upto_region 37 with fail
                obtain ⟨n1, A1, l1, c1, A1', l1', c1', hb1, hr1⟩ := id SI.o.lb
                have LB := Hx (kQa hb1 hr1)
                clear hb1 hr1
                have XD := Hx (show Ext wr wr.drew from (eR wr).drewN 1)
                have HSW := Hx (show wr.drew.cell? (aD gl 0) = some (.bool n1) /\ wr.drew.cell? (aD gl 1) = some (.s A1 l1 c1) /\ wr.drew.cell? (aD gl 2) = some (.s A1' l1' c1') from (LB.o.1.K XD.o).t3.1)
                have DB := Hx (SI.o.rb.K XD.o)
                refine wp_region_last (fun W => W.cell? (aD gl 0) = some (.bool n1) /\ W.cell? (aD gl 1) = some (.s A1 l1 c1) /\ W.cell? (aD gl 2) = some (.s A1' l1' c1')) 3 (by kernel_rfl) ?_
                generalize wr.drew = wd at *
                refine wP 0 rfl HSW.o ?_
                try simp only[Act.put, yA, yB, yC, yD, yE, yF]
                refine wP 2 rfl HSW.o ?_
                try simp only[Act.put, yA, yB, yC, yD, yE, yF]
                refine wT 1 (v := ?_) rfl ?_ HSW.o ?_
                rotate_left
                focus (intro w hSw; obtain ⟨s0, s1, s2⟩ := hSw; go_simp; try with_reducible rfl)
                try simp only[Act.put, yA, yB, yC, yD, yE, yF]
                obtain ⟨⟨d0, d1, d2⟩, f0, f1, f2⟩ := DB.o.t3
                refine aV (by kernel_rfl) rfl (by rfl) (fun KK hK => ?_)
                go_simp
                refine hK.o _ _ ?_
                clear hK KK
                try simp only[Act.put, yD, yE, yF]
                refine wpAny_done (by kernel_rfl) ?_ _
                have S5 := Hx (eD (.bool n1) (.s A1 l1 c1) (.s A1' l1' c1') DB.o)
                have F := Hx (show ShP w (2 * t.links.length) (bY t kd nm r) (.returned (.tuple #[.s (sA gS) (2 * t.links.length) (2 * t.links.length), .agg #[.bool n1, .s A1 l1 c1, .s A1' l1' c1']])) (((wd.setCell (aD (gt + 1 + 1) 0) (.bool n1)).setCell (aD (gt + 1 + 1) 1) (.s A1 l1 c1)).setCell (aD (gt + 1 + 1) 2) (.s A1' l1' c1')) from by
                  rw[FL.o]
                  have nu : NoT (fun b => b = gt + 1 + 1) wd 168 := NoT.one DB.o (by decide)
                  exact ⟨gS, n1, A1, l1, c1, A1', l1', c1', rfl, gM (SI.o.qs.K XD.o) S5.o.2 SI.o.ne.1 nu, S5.o.2.ratR nu (LB.o.2.K XD.o), S5.o.2.ext (SI.o.ex.tr XD.o) fun b hb => by have hb : b = gt + 1 + 1 := hb; have := HGT.o; omega, SI.o.low.1⟩)
                obtain ⟨⟨r0, r1, r2⟩, _⟩ := S5.o.1.t3
                clear S5 d0 d1 d2 f0 f1 f2 DB
                generalize (((wd.setCell (aD (gt + 1 + 1) 0) (.bool n1)).setCell (aD (gt + 1 + 1) 1) (.s A1 l1 c1)).setCell (aD (gt + 1 + 1) 2) (.s A1' l1' c1')) = w6 at *
                go_wp2
                refine bodyPost_ret (v := .tuple #[.s (sA gS) (2 * t.links.length) (2 * t.links.length), .agg #[.bool n1, .s A1 l1 c1, .s A1' l1' c1']]) ?_ rfl F.o
                simp[results, Tryz.results45, go_sem, asAddr, Result.andThen, r0, r1, r2]
              | cons g0 gs0 =>
                have hh : h < 256 := by
                  rcases kQd h 256 with h1 | h1
                  · exact h1
                  · cases I.o.2.1 h1
                have hne : (g0 :: gs0).length = gs0.length + 1 := rfl
                obtain ⟨ng, hng⟩ : ∃ n, n = gs0.length + 1 := ⟨_, rfl⟩
                have FLN := Hx (show flS t (aC t kd nm) dl (257 - (h + 1)) (h + 1) (rdS t (aC t kd nm) dl h sh lo (g0 :: gs0)).sh (rdS t (aC t kd nm) dl h sh lo (g0 :: gs0)).lo (rdS t (aC t kd nm) dl h sh lo (g0 :: gs0)).nx = bY t kd nm r from by
                  rw[<- I.o.2.2.2.1]
                  obtain ⟨k, hk⟩ : ∃ k, 257 - h = k + 1 := ⟨256 - h, by omega⟩
                  rw[hk, show 257 - (h + 1) = k by omega]
                  rfl)
                generalize hGS : g0 :: gs0 = GS at *
                have NG := Hx (show GS.length = ng from by rw[hng, <- hGS]; rfl)
                rw[NG.o] at hcV
                have hng0 : 0 < ng := by omega
                have PT := Hx (show ∀ i, i <= ng -> PtF t h (aP (GS.take i)) (rdF t (aC t kd nm) dl h sh lo GS i) from fun i hi => jzbx I.o.1 HH.o.2.2.2.2.1 HH.o.2.2.2.1 I.o.2.2.1 i (by rw[NG.o]; exact hi))
                have TOT := Hx (show ∀ i, aP (GS.take i) <= 1 from fun i => kQs (jzlf (fun g hg => (I.o.1.gp g hg).am) i) I.o.1.le)
                have RIN := Hx (I.o.1.round HH.o.2.2.2.2.1 HH.o.2.2.2.1)
                have GPB := Hx (show ∀ g ∈ GS, GpB t h g /\ g.st.length <= 32 from fun g hg => ⟨I.o.1.gp g hg, I.o.2.2.1 g hg⟩)
                have SI := Hx I.o.2.2.2.2.1
                have OW := Hx (show OwL (GpM sc dl h) 150 10 wr w.heap.size (.s AV ng cV) GS from by have h := I.o.2.2.2.2.2.1; rw[NG.o] at h; exact h)
                have SGE := Hx (show stG t (aC t kd nm) dl (List.replicate (2 * t.links.length) 0) [⟨sc, STK, 1⟩] h = ⟨sh, lo, GS⟩ from I.o.2.2.2.2.2.2)
                have NB := Hx (show ng <= 100000 /\ (rdS t (aC t kd nm) dl h sh lo GS).nx.length <= 100000 /\ stG t (aC t kd nm) dl (List.replicate (2 * t.links.length) 0) [⟨sc, STK, 1⟩] (h + 1) = rdS t (aC t kd nm) dl h sh lo GS from by
                  have e : stG t (aC t kd nm) dl (List.replicate (2 * t.links.length) 0) [⟨sc, STK, 1⟩] (h + 1) = rdS t (aC t kd nm) dl h sh lo GS := by
                    show rdS t (aC t kd nm) dl h _ _ _ = _
                    rw[SGE.o]
                  have h1 := HC.o h
                  rw[SGE.o] at h1
                  have h2 := HC.o (h + 1)
                  rw[e] at h2
                  exact ⟨by rw[<- NG.o]; exact h1, h2, e⟩)
                rw[NG.o]
                clear I hne hng hGS SR
                generalize wr = wB at *
                have l0 : (0 : Int) < (ng : Int) := by omega
                have ngs : ng <= 1000000 := by have := NB.o.1; omega
                have J0 := Hx (show ShJ w wB (wB.alloc (.map #[] 0)) t AO co AL cl gt gS gl sc dl h (.s AV ng cV) GS zN wB.heap.size (rdF t (aC t kd nm) dl h sh lo GS 0) from
                  ⟨SI.o.K ((eR wB).alloc _), OW.o.K ((eR wB).alloc _) fun cs x hc => hc.K ((eR wB).alloc _), fun b hb => by obtain ⟨xs, ho⟩ := OW.o.own; exact (ho.lt b hb).2, OwL.nil _ _ _ _ _, MpG.made fA wB, yX _, SI.o.ex.size, ((eR wB).alloc _).size⟩)
                clear SI OW
                go_wp2
                generalize wB.alloc (.map #[] 0) = w0_ at *
                generalize wB.heap.size = mb at *
                go_loopg [17, 20, 21, 22, 23, 24, 25, 27, 28, 29, 30, 85] ng (fun q v17 _ _ _ _ _ _ _ _ _ _ it wx => ∃ (i : Nat) (V' : Value), ng - i = q /\ i <= ng /\ it = vI (i : Int) /\ V' = v17 /\ Hid (ShJ w wB wx t AO co AL cl gt gS gl sc dl h (.s AV ng cV) GS V' mb (rdF t (aC t kd nm) dl h sh lo GS i)))
                case atStart => exact ⟨0, _, rfl, yZ _, rfl, rfl, J0⟩
                case round =>
                  clear J0
                  obtain ⟨i, V', rfl, hi, rfl, rfl, J⟩ := hrel
                  by_cases hin : i < ng
                  · have iN : (i : Int) < (ng : Int) := by omega
                    obtain ⟨g, hg⟩ : ∃ g, GS[i]? = some g := ⟨_, yG (by rw[NG.o]; exact hin)⟩
                    obtain ⟨gb, cap, cs, hV, hb, _, hcell, hM⟩ := J.o.pr.at_ hg
                    injection hV with hV1 hV2 hV3
                    clear hV2 hV3
                    subst hV1
                    obtain ⟨A0, n0, c0, neg0, B0, m0, cB0, B0', m0', cB0', rfl, e2, e3, e4, e5⟩ := hM
                    obtain ⟨hgp, hg32⟩ := GPB.o g (yJ hg)
                    have q0 : wr.cell? (aD gb (i * 10)) = some (vI (g.node : Int)) := hcell 0 (by decide)
                    have q1 : wr.cell? (aD gb (i * 10 + 1)) = some (vI 0) := hcell 1 (by decide)
                    have q2 : wr.cell? (aD gb (i * 10 + 2)) = some (vI (sc : Int)) := hcell 2 (by decide)
                    have q3 : wr.cell? (aD gb (i * 10 + 3)) = some (vI (dl : Int)) := hcell 3 (by decide)
                    have q4 : wr.cell? (aD gb (i * 10 + 4)) = some (vI 0) := hcell 4 (by decide)
                    have q5 : wr.cell? (aD gb (i * 10 + 5)) = some (.s A0 n0 c0) := hcell 5 (by decide)
                    have q6 : wr.cell? (aD gb (i * 10 + 6)) = some (vI (h : Int)) := hcell 6 (by decide)
                    have q7 : wr.cell? (aD gb (i * 10 + 7)) = some (.bool neg0) := hcell 7 (by decide)
                    have q8 : wr.cell? (aD gb (i * 10 + 8)) = some (.s B0 m0 cB0) := hcell 8 (by decide)
                    have q9 : wr.cell? (aD gb (i * 10 + 9)) = some (.s B0' m0' cB0') := hcell 9 (by decide)
                    have HG := Hx (kQa hg (kQa hgp hg32))
                    have RG0 := Hx (show g.st.length = n0 /\ n0 <= c0 /\ bB wr A0 g.st /\ aO wr neg0 B0 m0 cB0 B0' m0' cB0' g.am from ⟨e2, e3, e4, e5⟩)
                    clear hb hcell e2 e3 e4 e5 hgp hg32 hg
                    go_upto_region 19 with fail
                    have BG := Hx (show Blk (wr.alloc (.cells #[vI (g.node : Int), vI 0, vI (sc : Int), vI (dl : Int), vI 0, .s A0 n0 c0, vI (h : Int), .bool neg0, .s B0 m0 cB0, .s B0' m0' cB0'] 150)) wr.heap.size 150 #[vI (g.node : Int), vI 0, vI (sc : Int), vI (dl : Int), vI 0, .s A0 n0 c0, vI (h : Int), .bool neg0, .s B0 m0 cB0, .s B0' m0' cB0'] /\ bB (wr.alloc (.cells #[vI (g.node : Int), vI 0, vI (sc : Int), vI (dl : Int), vI 0, .s A0 n0 c0, vI (h : Int), .bool neg0, .s B0 m0 cB0, .s B0' m0' cB0'] 150)) A0 g.st /\ aO (wr.alloc (.cells #[vI (g.node : Int), vI 0, vI (sc : Int), vI (dl : Int), vI 0, .s A0 n0 c0, vI (h : Int), .bool neg0, .s B0 m0 cB0, .s B0' m0' cB0'] 150)) neg0 B0 m0 cB0 B0' m0' cB0' g.am /\ wB.heap.size <= wr.heap.size from ⟨eN wr _ _, RG0.o.2.2.1.K ((eR wr).alloc _), RG0.o.2.2.2.K ((eR wr).alloc _), J.o.lB.2⟩)
                    have J1 := Hx (J.o.K ((eR wr).alloc (.cells #[vI (g.node : Int), vI 0, vI (sc : Int), vI (dl : Int), vI 0, .s A0 n0 c0, vI (h : Int), .bool neg0, .s B0 m0 cB0, .s B0' m0' cB0'] 150)))
                    have VL := Hx (show (∀ b, V'.ownBlock = some b -> b ≠ wr.heap.size) /\ mb ≠ wr.heap.size from ⟨fun b hb => by obtain ⟨xs, ho⟩ := J.o.nx.own; exact kQb (ho.lt b hb).2, kQb J.o.mp.lt⟩)
                    clear J q0 q1 q2 q3 q4 q5 q6 q7 q8 q9
                    generalize wr.alloc (.cells #[vI (g.node : Int), vI 0, vI (sc : Int), vI (dl : Int), vI 0, .s A0 n0 c0, vI (h : Int), .bool neg0, .s B0 m0 cB0, .s B0' m0' cB0'] 150) = w1 at *
                    generalize wr.heap.size = gg at *
                    have hgn : g.node < N := by have := HG.o.2.1.node; have := HH.o.2.2.2.2.2; omega
                    obtain ⟨TBX, hTBX⟩ : ∃ X, X = bW t kd nm g.node := ⟨_, rfl⟩
                    have TCX := Hx (show ∃ (bT oT : Nat) (E : OA) (cE : Nat) (D : OA) (cD : Nat), TA = some (aD bT oT) /\ (∀ W, Ext w W -> W.cell? (aD bT (oT + g.node * 3)) = some (vI (g.node : Int)) /\ W.cell? (aD bT (oT + g.node * 3 + 1)) = some (.s E TBX.es.length cE) /\ W.cell? (aD bT (oT + g.node * 3 + 2)) = some (.s D TBX.down.length cD)) /\ TBX.es.length <= cE /\ RdL EnC 103 3 w E TBX.es /\ TBX.down.length <= cD /\ RdT w 3 D (ints TBX.down) from by
                      have h1 : (aC t kd nm)[g.node]? = some TBX := by
                        rw[hTBX]
                        unfold aC
                        rw[yW, xJ (by rw[HH.o.2.2.2.2.2]; exact hgn)]
                        rfl
                      obtain ⟨bT, oT, cs, k1, _, _, k4, E, cE, D, cD, rfl, k5, k6, k7, k8⟩ := HT.o.2.2.at_ (by decide) h1
                      have e0 : TBX.node = g.node := by rw[hTBX]; rfl
                      rw[e0] at k4
                      exact ⟨bT, oT, E, cE, D, cD, k1, fun W hx => ⟨aH hx (k4 0 (by decide)), aH hx (k4 1 (by decide)), aH hx (k4 2 (by decide))⟩, k5, k6, k7, k8⟩)
                    obtain ⟨bT, oT, E, cE, D, cD, rfl, TC1, TC2, TC3, TC4, TC5⟩ := TCX.o
                    obtain ⟨O, hO⟩ : ∃ o, o = cM t TBX dl h g.st := ⟨_, rfl⟩
                    have TBK := Hx (show TbB t g.node TBX /\ TBX = bW t kd nm g.node /\ O = cM t TBX dl h g.st from ⟨by rw[hTBX]; exact nK HH.o.2.2.2.2.1 HG.o.2.1.node kd nm, hTBX, hO⟩)
                    have hdl : dl < N := by rw[HDL.o, <- HH.o.2.2.2.2.2]; exact HH.o.2.2.2.2.1.hd _ HA.o.2
                    obtain ⟨ne, hne⟩ : ∃ n, n = TBX.es.length := ⟨_, rfl⟩
                    obtain ⟨nd, hnd⟩ : ∃ n, n = TBX.down.length := ⟨_, rfl⟩
                    rw[<- hne, <- hnd] at TC1
                    have STP := Hx (show ∀ W, Ext w1 W -> Calls Tryz.prog 88 #[.agg #[vI t.nodes, .s AO t.over.length co, .s AL t.links.length cl], .agg #[vI (g.node : Int), .s E ne cE, .s D nd cD], .agg #[vI 0, vI (sc : Int), vI (dl : Int), vI 0, .s A0 n0 c0, vI (h : Int)]] W (StQ W 0 (sc : Int) (dl : Int) 0 h O) from fun W hx => by
                      have hw := J1.o.I.ex.tr hx
                      rw[hO]
                      exact jzkh t AO co AL cl g.node N TBX E ne cE D nd cD 0 (sc : Int) dl 0 A0 n0 c0 h g.st W (HT.o.1.K hw) HH.o.1 HH.o.2.1 HH.o.2.2.1 hgn TBK.o.1 hne.symm (by rw[hne]; exact TC2) (TC3.K hw fun cs x hc => hc.K hw) hnd.symm (by rw[hnd]; exact TC4) (TC5.K hw) hdl (by omega) (BG.o.2.1.K hx) RG0.o.1 RG0.o.2.1 (by rw[<- RG0.o.1]; exact HG.o.2.2) HG.o.2.1.sg)
                    have TCC := Hx TC1
                    have gnN : (g.node : Int) < (N : Int) := by omega
                    clear TC1 TC2 TC3 TC4 TC5 TCX hO hTBX hne hnd hgn hdl
                    go_cut [21, 22, 23] (fun v21 v22 v23 wx => ∃ (va : Value) (A5 : OA) (n5 c5 : Nat) (h' : Int) (gq : Nat), v21 = va /\ v22 = .pointer (sA gq) /\ v23 = vI O.2.2 /\ Hid (StC w1 wx va (.s A5 n5 c5) h h' O /\ Blk wx gq 147 #[vI 0, vI (sc : Int), vI (dl : Int), vI 0, .s A5 n5 c5, vI h']))
                    case first =>
                      as_aux_lemma =>
                        have KEEP := Hx (show ∀ W, Ext w1 W -> W.cell? (aD gt 0) = some (vI t.nodes) /\ W.cell? (aD gt 1) = some (.s AO t.over.length co) /\ W.cell? (aD gt 2) = some (.s AL t.links.length cl) /\ W.cell? (aD gg 0) = some (vI (g.node : Int)) /\ W.cell? (aD gg 1) = some (vI 0) /\ W.cell? (aD gg 2) = some (vI (sc : Int)) /\ W.cell? (aD gg 3) = some (vI (dl : Int)) /\ W.cell? (aD gg 4) = some (vI 0) /\ W.cell? (aD gg 5) = some (.s A0 n0 c0) /\ W.cell? (aD gg 6) = some (vI (h : Int)) /\ W.cell? (aD bT (oT + g.node * 3)) = some (vI (g.node : Int)) /\ W.cell? (aD bT (oT + g.node * 3 + 1)) = some (.s E ne cE) /\ W.cell? (aD bT (oT + g.node * 3 + 2)) = some (.s D nd cD) from fun W hx => by
                          obtain ⟨⟨a, b, c⟩, _⟩ := (J1.o.I.tb.K hx).t3
                          have hb := BG.o.1.K hx
                          obtain ⟨t0, t1, t2⟩ := TCC.o W (J1.o.I.ex.tr hx)
                          exact ⟨a, b, c, hb.cell 0, hb.cell 1, hb.cell 2, hb.cell 3, hb.cell 4, hb.cell 5, hb.cell 6, t0, t1, t2⟩)
                        have Xwd := Hx (show Ext w1 w1.drew from (eR w1).drewN 1)
                        have HSW := Hx (KEEP.o _ Xwd.o)
                        refine wp_region_last (fun W => W.cell? (aD gt 0) = some (vI t.nodes) /\ W.cell? (aD gt 1) = some (.s AO t.over.length co) /\ W.cell? (aD gt 2) = some (.s AL t.links.length cl) /\ W.cell? (aD gg 0) = some (vI (g.node : Int)) /\ W.cell? (aD gg 1) = some (vI 0) /\ W.cell? (aD gg 2) = some (vI (sc : Int)) /\ W.cell? (aD gg 3) = some (vI (dl : Int)) /\ W.cell? (aD gg 4) = some (vI 0) /\ W.cell? (aD gg 5) = some (.s A0 n0 c0) /\ W.cell? (aD gg 6) = some (vI (h : Int)) /\ W.cell? (aD bT (oT + g.node * 3)) = some (vI (g.node : Int)) /\ W.cell? (aD bT (oT + g.node * 3 + 1)) = some (.s E ne cE) /\ W.cell? (aD bT (oT + g.node * 3 + 2)) = some (.s D nd cD)) 15 (by kernel_rfl) ?_
                        generalize w1.drew = wd at *
                        refine wT 0 (v := ?_) rfl ?_ HSW.o ?_
                        rotate_left
                        focus (intro w hSw; obtain ⟨s0, s1, s2, s3, s4, s5, s6, s7, s8, s9, s10, s11, s12⟩ := hSw; go_simp; try with_reducible rfl)
                        try simp only[Act.put, yA, yB, yC, yD, yE, yF]
                        refine wP 1 rfl HSW.o ?_
                        try simp only[Act.put, yA, yB, yC, yD, yE, yF]
                        refine wP 2 rfl HSW.o ?_
                        try simp only[Act.put, yA, yB, yC, yD, yE, yF]
                        refine wT 3 (v := ?_) rfl ?_ HSW.o ?_
                        rotate_left
                        focus (intro w hSw; obtain ⟨s0, s1, s2, s3, s4, s5, s6, s7, s8, s9, s10, s11, s12⟩ := hSw; go_simp; try with_reducible rfl)
                        try simp only[Act.put, yA, yB, yC, yD, yE, yF]
                        refine wP 4 rfl HSW.o ?_
                        try simp only[Act.put, yA, yB, yC, yD, yE, yF]
                        refine wT 5 (v := ?_) rfl ?_ HSW.o ?_
                        rotate_left
                        focus (intro w hSw; obtain ⟨s0, s1, s2, s3, s4, s5, s6, s7, s8, s9, s10, s11, s12⟩ := hSw; go_simp; try with_reducible rfl)
                        try simp only[Act.put, yA, yB, yC, yD, yE, yF]
                        refine wP 6 rfl HSW.o ?_
                        try simp only[Act.put, yA, yB, yC, yD, yE, yF]
                        refine wT 7 (v := ?_) rfl ?_ HSW.o ?_
                        rotate_left
                        focus (intro w hSw; obtain ⟨s0, s1, s2, s3, s4, s5, s6, s7, s8, s9, s10, s11, s12⟩ := hSw; go_simp; try with_reducible rfl)
                        try simp only[Act.put, yA, yB, yC, yD, yE, yF]
                        refine eT (i := 8) (j := 13) (by decide) (by decide) (by kernel_rfl) rfl rfl (by rfl) (by rfl) (fun KK hK => ?_) (fun KK hK => ?_)
                        · go_simp
                          refine (STP.o _ Xwd.o).mono ?_
                          rintro e we ⟨va, vs, h', rfl, S5⟩
                          obtain ⟨A5, n5, c5, rfl⟩ := S5.sl
                          have C5 := Hx (S5.mono Xwd.o)
                          have Xwe := Hx (Xwd.o.tr S5.ex)
                          refine hK.o _ _ (KEEP.o _ Xwe.o) ?_
                          clear hK KK HSW S5
                          have HSW := Hx (KEEP.o _ Xwe.o)
                          try simp only[Act.put, yD, yE, yF]
                          refine wP 9 rfl HSW.o ?_
                          try simp only[Act.put, yA, yB, yC, yD, yE, yF]
                          refine wP 10 rfl HSW.o ?_
                          try simp only[Act.put, yA, yB, yC, yD, yE, yF]
                          refine wP 11 rfl HSW.o ?_
                          try simp only[Act.put, yA, yB, yC, yD, yE, yF]
                          refine wP 12 rfl HSW.o ?_
                          try simp only[Act.put, yA, yB, yC, yD, yE, yF]
                          refine wC 13 rfl (fun KK hK => ?_)
                          go_simp
                          have Xwf := Hx (show Ext w1 (we.alloc (.cells #[vI 0, vI 0, vI 0, vI 0, zN, vI 0] 147)) from Xwe.o.alloc _)
                          have BN := Hx (show Blk (we.alloc (.cells #[vI 0, vI 0, vI 0, vI 0, zN, vI 0] 147)) we.heap.size 147 #[vI 0, vI 0, vI 0, vI 0, zN, vI 0] /\ w1.heap.size <= we.heap.size from ⟨eN we _ _, Xwe.o.size⟩)
                          have C5 := Hx (show StC w1 (we.alloc (.cells #[vI 0, vI 0, vI 0, vI 0, zN, vI 0] 147)) va (.s A5 n5 c5) h h' O from ⟨dB C5.o.own ((eR _).alloc _), fun hn => ⟨(C5.o.mv hn).1, dB (C5.o.mv hn).2.own ((eR _).alloc _), (C5.o.mv hn).2.ex.alloc _⟩, C5.o.sl, C5.o.ex.alloc _⟩)
                          refine hK.o _ _ (KEEP.o _ Xwf.o) ?_
                          clear hK KK HSW
                          have HSW := Hx (KEEP.o _ Xwf.o)
                          generalize we.alloc (.cells #[vI 0, vI 0, vI 0, vI 0, zN, vI 0] 147) = wf at *
                          generalize we.heap.size = gq at *
                          try simp only[Act.put, yD, yE, yF]
                          refine wP 14 rfl HSW.o ?_
                          try simp only[Act.put, yA, yB, yC, yD, yE, yF]
                          obtain ⟨⟨d0, d1, d2, d3, d4, d5⟩, f0, f1, f2, f3, f4, f5⟩ := bC BN.o.1
                          refine aV (by kernel_rfl) rfl (by rfl) (fun KK hK => ?_)
                          go_simp
                          refine hK.o _ _ ?_
                          clear hK KK HSW
                          try simp only[Act.put, yD, yE, yF]
                          refine dQ (i := 16) (by kernel_rfl) rfl (by rfl) (fun KK hK => ?_)
                          go_simp
                          refine hK.o _ _ ?_
                          clear hK KK
                          try simp only[Act.put, yD, yE, yF]
                          refine wpAny_done (by kernel_rfl) ?_ _
                          have S9 := Hx (show StC w1 ((((((wf.setCell (aD gq 0) (vI 0)).setCell (aD gq 1) (vI (sc : Int))).setCell (aD gq 2) (vI (dl : Int))).setCell (aD gq 3) (vI 0)).setCell (aD gq 4) (.s A5 n5 c5)).setCell (aD gq 5) (vI h')) va (.s A5 n5 c5) h h' O /\ Blk ((((((wf.setCell (aD gq 0) (vI 0)).setCell (aD gq 1) (vI (sc : Int))).setCell (aD gq 2) (vI (dl : Int))).setCell (aD gq 3) (vI 0)).setCell (aD gq 4) (.s A5 n5 c5)).setCell (aD gq 5) (vI h')) gq 147 #[vI 0, vI (sc : Int), vI (dl : Int), vI 0, .s A5 n5 c5, vI h'] from by
                            obtain ⟨s1, s2⟩ := dO (vI 0) (vI (sc : Int)) (vI (dl : Int)) (vI 0) (.s A5 n5 c5) (vI h') BN.o.1
                            exact ⟨C5.o.sto BN.o.1 s2 BN.o.2, s1⟩)
                          clear d0 d1 d2 d3 d4 d5 f0 f1 f2 f3 f4 f5 BN C5
                          generalize ((((((wf.setCell (aD gq 0) (vI 0)).setCell (aD gq 1) (vI (sc : Int))).setCell (aD gq 2) (vI (dl : Int))).setCell (aD gq 3) (vI 0)).setCell (aD gq 4) (.s A5 n5 c5)).setCell (aD gq 5) (vI h')) = wg at *
                          go_wp2
                          go_meet
                          exact ⟨va, A5, n5, c5, h', gq, rfl, rfl, rfl, S9⟩
                        · go_simp
                          have Xwe := Hx (show Ext w1 (wd.alloc (.cells #[vI 0, vI 0, vI 0, vI 0, zN, vI 0] 147)) from Xwd.o.alloc _)
                          have BN := Hx (show Blk (wd.alloc (.cells #[vI 0, vI 0, vI 0, vI 0, zN, vI 0] 147)) wd.heap.size 147 #[vI 0, vI 0, vI 0, vI 0, zN, vI 0] /\ w1.heap.size <= wd.heap.size from ⟨eN wd _ _, Xwd.o.size⟩)
                          refine hK.o _ _ (KEEP.o _ Xwe.o) ?_
                          clear hK KK HSW
                          have HSW := Hx (KEEP.o _ Xwe.o)
                          generalize wd.alloc (.cells #[vI 0, vI 0, vI 0, vI 0, zN, vI 0] 147) = we at *
                          generalize wd.heap.size = gq at *
                          try simp only[Act.put, yD, yE, yF]
                          refine wC 8 rfl (fun KK hK => ?_)
                          go_simp
                          refine (STP.o _ Xwe.o).mono ?_
                          rintro e wf ⟨va, vs, h', rfl, S5⟩
                          obtain ⟨A5, n5, c5, rfl⟩ := S5.sl
                          have C5 := Hx (S5.mono Xwe.o)
                          have Xwf := Hx (Xwe.o.tr S5.ex)
                          have BN := Hx (kQa (BN.o.1.K S5.ex) BN.o.2)
                          refine hK.o _ _ (KEEP.o _ Xwf.o) ?_
                          clear hK KK HSW S5
                          have HSW := Hx (KEEP.o _ Xwf.o)
                          try simp only[Act.put, yD, yE, yF]
                          refine wP 9 rfl HSW.o ?_
                          try simp only[Act.put, yA, yB, yC, yD, yE, yF]
                          refine wP 10 rfl HSW.o ?_
                          try simp only[Act.put, yA, yB, yC, yD, yE, yF]
                          refine wP 11 rfl HSW.o ?_
                          try simp only[Act.put, yA, yB, yC, yD, yE, yF]
                          refine wP 12 rfl HSW.o ?_
                          try simp only[Act.put, yA, yB, yC, yD, yE, yF]
                          refine wP 14 rfl HSW.o ?_
                          try simp only[Act.put, yA, yB, yC, yD, yE, yF]
                          obtain ⟨⟨d0, d1, d2, d3, d4, d5⟩, f0, f1, f2, f3, f4, f5⟩ := bC BN.o.1
                          refine aV (by kernel_rfl) rfl (by rfl) (fun KK hK => ?_)
                          go_simp
                          refine hK.o _ _ ?_
                          clear hK KK HSW
                          try simp only[Act.put, yD, yE, yF]
                          refine dQ (i := 16) (by kernel_rfl) rfl (by rfl) (fun KK hK => ?_)
                          go_simp
                          refine hK.o _ _ ?_
                          clear hK KK
                          try simp only[Act.put, yD, yE, yF]
                          refine wpAny_done (by kernel_rfl) ?_ _
                          have S9 := Hx (show StC w1 ((((((wf.setCell (aD gq 0) (vI 0)).setCell (aD gq 1) (vI (sc : Int))).setCell (aD gq 2) (vI (dl : Int))).setCell (aD gq 3) (vI 0)).setCell (aD gq 4) (.s A5 n5 c5)).setCell (aD gq 5) (vI h')) va (.s A5 n5 c5) h h' O /\ Blk ((((((wf.setCell (aD gq 0) (vI 0)).setCell (aD gq 1) (vI (sc : Int))).setCell (aD gq 2) (vI (dl : Int))).setCell (aD gq 3) (vI 0)).setCell (aD gq 4) (.s A5 n5 c5)).setCell (aD gq 5) (vI h')) gq 147 #[vI 0, vI (sc : Int), vI (dl : Int), vI 0, .s A5 n5 c5, vI h'] from by
                            obtain ⟨s1, s2⟩ := dO (vI 0) (vI (sc : Int)) (vI (dl : Int)) (vI 0) (.s A5 n5 c5) (vI h') BN.o.1
                            exact ⟨C5.o.sto BN.o.1 s2 BN.o.2, s1⟩)
                          clear d0 d1 d2 d3 d4 d5 f0 f1 f2 f3 f4 f5 BN C5
                          generalize ((((((wf.setCell (aD gq 0) (vI 0)).setCell (aD gq 1) (vI (sc : Int))).setCell (aD gq 2) (vI (dl : Int))).setCell (aD gq 3) (vI 0)).setCell (aD gq 4) (.s A5 n5 c5)).setCell (aD gq 5) (vI h')) = wg at *
                          go_wp2
                          go_meet
                          exact ⟨va, A5, n5, c5, h', gq, rfl, rfl, rfl, S9⟩
                    case rest =>
                      obtain ⟨va, A5, n5, c5, h', gq, rfl, rfl, rfl, C⟩ := hcut
                      generalize wc = w5 at *
                      have J5 := Hx (J1.o.K C.o.1.ex)
                      have B5 := Hx (show Blk w5 gg 150 #[vI (g.node : Int), vI 0, vI (sc : Int), vI (dl : Int), vI 0, .s A0 n0 c0, vI (h : Int), .bool neg0, .s B0 m0 cB0, .s B0' m0' cB0'] /\ aO w5 neg0 B0 m0 cB0 B0' m0' cB0' g.am from ⟨BG.o.1.K C.o.1.ex, BG.o.2.2.1.K C.o.1.ex⟩)
                      have GGL := Hx (kQa VL.o BG.o.2.2.2)
                      clear J1 BG VL STP TCC gnN HT
                      obtain ⟨arcs, st', rs⟩ := O
                      obtain ⟨AR, cR', rfl, hcR⟩ := oFA C.o.1.own
                      simp only at hcR
                      have FS := Hx (show (rdF t (aC t kd nm) dl h sh lo GS (i + 1)) = if arcs = [] then (if rs = -1 then (rdF t (aC t kd nm) dl h sh lo GS i) else ⟨(rdF t (aC t kd nm) dl h sh lo GS i).sh, (rdF t (aC t kd nm) dl h sh lo GS i).lo + g.am, (rdF t (aC t kd nm) dl h sh lo GS i).nx⟩) else arcs.foldl (bZ t st' (g.am / (arcs.length : Rat))) (rdF t (aC t kd nm) dl h sh lo GS i) from by
                        rw[jzbt HG.o.1]
                        have e1 : (aC t kd nm)[g.node]? = some TBX := by
                          rw[TBK.o.2.1]
                          unfold aC
                          rw[yW, xJ (by have := HG.o.2.1.node; exact this)]
                          rfl
                        unfold grS
                        rw[e1]
                        simp only[<- TBK.o.2.2])
                      have AM := Hx (show g.am <= 1 from jzlg HG.o.1 (fun x hx => (GPB.o x hx).1.am) (TOT.o (i + 1)))
                      by_cases hae : arcs = []
                      · have F2 := Hx (show (rdF t (aC t kd nm) dl h sh lo GS (i + 1)) = if rs = -1 then (rdF t (aC t kd nm) dl h sh lo GS i) else ⟨(rdF t (aC t kd nm) dl h sh lo GS i).sh, (rdF t (aC t kd nm) dl h sh lo GS i).lo + g.am, (rdF t (aC t kd nm) dl h sh lo GS i).nx⟩ from by rw[FS.o, if_pos hae])
                        have hla : arcs.length = 0 := by rw[hae]; rfl
                        simp only[hla]
                        clear FS hae hla
                        by_cases hrs : rs = -1
                        · have R := Hx (show ShJ w wB w5 t AO co AL cl gt gS gl sc dl h (.s (sA gb) ng cV) GS V' mb (rdF t (aC t kd nm) dl h sh lo GS (i + 1)) from by rw[F2.o, if_pos hrs]; exact J5.o)
                          have hr1 : (rs != -1) = false := by rw[hrs]; rfl
                          clear F2 hrs J5
                          go_wp2
                          go_roundg (ng - (i + 1))
                          case measure => omega
                          case rel => exact ⟨i + 1, _, rfl, by omega, by go_num, rfl, R⟩
                        · have hr1 : (rs != -1) = true := bne_iff_ne.2 hrs
                          have F3 := Hx (show (rdF t (aC t kd nm) dl h sh lo GS (i + 1)) = ⟨(rdF t (aC t kd nm) dl h sh lo GS i).sh, (rdF t (aC t kd nm) dl h sh lo GS i).lo + g.am, (rdF t (aC t kd nm) dl h sh lo GS i).nx⟩ from by rw[F2.o, if_neg hrs])
                          clear F2 hrs
                          obtain ⟨n1, A1, l1, c1, A1', l1', c1', hb1, hq1⟩ := id J5.o.I.lb
                          obtain ⟨⟨y0, y1, y2⟩, v0, v1, v2⟩ := hb1.t3
                          have z7 : w5.cell? (aD gg 7) = some (.bool neg0) := B5.o.1.cell 7
                          have z8 : w5.cell? (aD gg 8) = some (.s B0 m0 cB0) := B5.o.1.cell 8
                          have z9 : w5.cell? (aD gg 9) = some (.s B0' m0' cB0') := B5.o.1.cell 9
                          have LE := Hx (show l1 <= 134217728 /\ l1' <= 134217728 /\ m0 <= 134217728 /\ m0' <= 134217728 from by
                            obtain ⟨_, s2, _⟩ := (PT.o i hi).szs (by omega) (TOT.o i)
                            obtain ⟨a1, a2⟩ := hq1.lens s2
                            obtain ⟨a3, a4⟩ := B5.o.2.lens (jzbu HG.o.2.1 AM.o (by omega))
                            exact ⟨by omega, by omega, by omega, by omega⟩)
                          have HB1 := Hx (kQa hb1 hq1)
                          clear hb1 hq1
                          go_wp2_with fail
                          refine (lH n1 neg0 A1 l1 c1 A1' l1' c1' B0 m0 cB0 B0' m0' cB0' (rdF t (aC t kd nm) dl h sh lo GS i).lo g.am _ HB1.o.2 B5.o.2 LE.o.1 LE.o.2.1 LE.o.2.2.1 LE.o.2.2.2 (iY (kQx (kQ7 _) (kQ7 _)))).mono ?_
                          rintro e w6 ⟨n3, A3, l3, c3, A3', l3', c3', rfl, h3, x6⟩
                          obtain ⟨⟨y0, y1, y2⟩, v0, v1, v2⟩ := (HB1.o.1.K x6).t3
                          have R := Hx (show ShJ w wB (((w6.setCell (aD gl 0) (.bool n3)).setCell (aD gl 1) (.s A3 l3 c3)).setCell (aD gl 2) (.s A3' l3' c3')) t AO co AL cl gt gS gl sc dl h (.s (sA gb) ng cV) GS V' mb (rdF t (aC t kd nm) dl h sh lo GS (i + 1)) from by rw[F3.o]; exact (J5.o.K x6).loss h3)
                          clear h3 x6 J5 HB1 z7 z8 z9
                          go_wp2
                          go_roundg (ng - (i + 1))
                          case measure => omega
                          case rel => exact ⟨i + 1, _, rfl, by omega, by go_num, rfl, R⟩
                      · have F2 := Hx (show (rdF t (aC t kd nm) dl h sh lo GS (i + 1)) = arcs.foldl (bZ t st' (g.am / (arcs.length : Rat))) (rdF t (aC t kd nm) dl h sh lo GS i) from by rw[FS.o, if_neg hae])
                        have hl1 : 0 < arcs.length := List.length_pos_iff.2 hae
                        have SOK := Hx (show StB t g.node (arcs, st', rs) from by
                          have h1 := lS TBK.o.1 dl h HG.o.2.1.sg
                          rw[<- TBK.o.2.2] at h1
                          exact h1)
                        have hl18 : arcs.length <= 18 := by have := SOK.o.few; simp only at this; have := HH.o.2.2.2.1; omega
                        have hae0 : ((arcs.length : Int) == 0) = false := yK.2 (by omega)
                        have hal0 : (0 : Int) < (arcs.length : Int) := by omega
                        have LZq := Hx (show m0 <= 134217728 /\ m0' <= 134217728 /\ (arcs.length : Rat) ≠ 0 from by
                          obtain ⟨a3, a4⟩ := B5.o.2.lens (jzbu HG.o.2.1 AM.o (by omega))
                          refine ⟨by omega, by omega, fun e => ?_⟩
                          have e : ((arcs.length : Int) : Rat) = ((0 : Int) : Rat) := e
                          have := Rat.intCast_inj.1 e
                          omega)
                        have NUM := Hx (show ∀ wx : World, Calls Tryz.prog 34 #[vI (arcs.length : Int)] wx (eF wx (arcs.length : Rat)) from fun wx => numF arcs.length wx (by omega))
                        have HAE := Hx hae
                        clear FS hae
                        go_upto_region 23 with fail
                        go_cut [24, 25] (fun v24 _ wx => ∃ gpt : Nat, v24 = .pointer (sA gpt) /\ Hid (LoB wx gpt (g.am / (arcs.length : Rat)) /\ Ext w5 wx /\ w5.heap.size <= gpt))
                        case first =>
                          as_aux_lemma =>
                            have KEEP := Hx (show ∀ W, Ext w5 W -> W.cell? (aD gg 7) = some (.bool neg0) /\ W.cell? (aD gg 8) = some (.s B0 m0 cB0) /\ W.cell? (aD gg 9) = some (.s B0' m0' cB0') from fun W hx => ⟨(B5.o.1.K hx).cell 7, (B5.o.1.K hx).cell 8, (B5.o.1.K hx).cell 9⟩)
                            have Xwd := Hx (show Ext w5 w5.drew from (eR w5).drewN 1)
                            have HSW := Hx (KEEP.o _ Xwd.o)
                            refine wp_region_last (fun W => W.cell? (aD gg 7) = some (.bool neg0) /\ W.cell? (aD gg 8) = some (.s B0 m0 cB0) /\ W.cell? (aD gg 9) = some (.s B0' m0' cB0')) 10 (by kernel_rfl) ?_
                            generalize w5.drew = wd at *
                            refine wP 0 rfl HSW.o ?_
                            try simp only[Act.put, yA, yB, yC, yD, yE, yF]
                            refine wT 1 (v := ?_) rfl ?_ HSW.o ?_
                            rotate_left
                            focus (intro w hSw; obtain ⟨s0, s1, s2⟩ := hSw; go_simp; try with_reducible rfl)
                            try simp only[Act.put, yA, yB, yC, yD, yE, yF]
                            refine wP 2 rfl HSW.o ?_
                            try simp only[Act.put, yA, yB, yC, yD, yE, yF]
                            refine wP 3 rfl HSW.o ?_
                            try simp only[Act.put, yA, yB, yC, yD, yE, yF]
                            refine eT (i := 4) (j := 9) (by decide) (by decide) (by kernel_rfl) rfl rfl (by rfl) (by rfl) (fun KK hK => ?_) (fun KK hK => ?_)
                            · go_simp
                              refine (NUM.o _).mono ?_
                              rintro e we ⟨n1, A1, l1, c1, A1', l1', c1', rfl, h1, x5⟩
                              have H1 := Hx h1
                              have Xwe := Hx (Xwd.o.tr x5)
                              refine hK.o _ _ (KEEP.o _ Xwe.o) ?_
                              clear hK KK HSW x5 h1
                              have HSW := Hx (KEEP.o _ Xwe.o)
                              try simp only[Act.put, yD, yE, yF]
                              refine eT (i := 5) (j := 9) (by decide) (by decide) (by kernel_rfl) rfl rfl (by rfl) (by rfl) (fun KK hK => ?_) (fun KK hK => ?_)
                              · go_simp
                                refine (rM neg0 n1 B0 m0 cB0 B0' m0' cB0' A1 l1 c1 A1' l1' c1' g.am (arcs.length : Rat) _ (B5.o.2.K Xwe.o) H1.o LZq.o.2.2 LZq.o.1 LZq.o.2.1 (kU hl18 H1.o).1 (kU hl18 H1.o).2).mono ?_
                                rintro e wf ⟨n2, A2, l2, c2, A2', l2', c2', rfl, h2, x5⟩
                                have H2 := Hx h2
                                have Xwf := Hx (Xwe.o.tr x5)
                                refine hK.o _ _ (KEEP.o _ Xwf.o) ?_
                                clear hK KK HSW x5 h2
                                have HSW := Hx (KEEP.o _ Xwf.o)
                                try simp only[Act.put, yD, yE, yF]
                                refine wP 6 rfl HSW.o ?_
                                try simp only[Act.put, yA, yB, yC, yD, yE, yF]
                                refine wP 7 rfl HSW.o ?_
                                try simp only[Act.put, yA, yB, yC, yD, yE, yF]
                                refine wP 8 rfl HSW.o ?_
                                try simp only[Act.put, yA, yB, yC, yD, yE, yF]
                                refine wC 9 rfl (fun KK hK => ?_)
                                go_simp
                                have Xwh := Hx (show Ext w5 (wf.alloc (.cells #[.bool false, zN, zN] 40)) from Xwf.o.alloc _)
                                have BN := Hx (show Blk (wf.alloc (.cells #[.bool false, zN, zN] 40)) wf.heap.size 40 #[.bool false, zN, zN] /\ w5.heap.size <= wf.heap.size from ⟨eN wf _ _, Xwf.o.size⟩)
                                have H2 := Hx (H2.o.K ((eR wf).alloc (.cells #[.bool false, zN, zN] 40)))
                                refine hK.o _ _ (KEEP.o _ Xwh.o) ?_
                                clear hK KK HSW
                                have HSW := Hx (KEEP.o _ Xwh.o)
                                generalize wf.alloc (.cells #[.bool false, zN, zN] 40) = wh at *
                                generalize wf.heap.size = gpt at *
                                try simp only[Act.put, yD, yE, yF]
                                obtain ⟨⟨d0, d1, d2⟩, f0, f1, f2⟩ := BN.o.1.t3
                                refine aV (by kernel_rfl) rfl (by rfl) (fun KK hK => ?_)
                                go_simp
                                refine hK.o _ _ ?_
                                clear hK KK HSW
                                try simp only[Act.put, yD, yE, yF]
                                refine dQ (i := 11) (by kernel_rfl) rfl (by rfl) (fun KK hK => ?_)
                                go_simp
                                refine hK.o _ _ ?_
                                clear hK KK
                                try simp only[Act.put, yD, yE, yF]
                                refine wpAny_done (by kernel_rfl) ?_ _
                                have S9 := Hx (show LoB (((wh.setCell (aD gpt 0) (.bool n2)).setCell (aD gpt 1) (.s A2 l2 c2)).setCell (aD gpt 2) (.s A2' l2' c2')) gpt (g.am / (arcs.length : Rat)) /\ Ext w5 (((wh.setCell (aD gpt 0) (.bool n2)).setCell (aD gpt 1) (.s A2 l2 c2)).setCell (aD gpt 2) (.s A2' l2' c2')) /\ w5.heap.size <= gpt from by
                                  obtain ⟨s1, s2⟩ := eD (.bool n2) (.s A2 l2 c2) (.s A2' l2' c2') BN.o.1
                                  exact ⟨⟨_, _, _, _, _, _, _, s1, s2.ratR (NoT.one BN.o.1 (by decide)) H2.o⟩, s2.ext Xwh.o fun b hb => by have hb : b = gpt := hb; have := BN.o.2; omega, BN.o.2⟩)
                                clear d0 d1 d2 f0 f1 f2 BN H2
                                generalize (((wh.setCell (aD gpt 0) (.bool n2)).setCell (aD gpt 1) (.s A2 l2 c2)).setCell (aD gpt 2) (.s A2' l2' c2')) = wg at *
                                go_wp2
                                go_meet
                                exact ⟨gpt, rfl, S9⟩
                              · go_simp
                                have Xwf := Hx (show Ext w5 (we.alloc (.cells #[.bool false, zN, zN] 40)) from Xwe.o.alloc _)
                                have BN := Hx (show Blk (we.alloc (.cells #[.bool false, zN, zN] 40)) we.heap.size 40 #[.bool false, zN, zN] /\ w5.heap.size <= we.heap.size from ⟨eN we _ _, Xwe.o.size⟩)
                                have H1 := Hx (H1.o.K ((eR we).alloc (.cells #[.bool false, zN, zN] 40)))
                                refine hK.o _ _ (KEEP.o _ Xwf.o) ?_
                                clear hK KK HSW
                                have HSW := Hx (KEEP.o _ Xwf.o)
                                generalize we.alloc (.cells #[.bool false, zN, zN] 40) = wf at *
                                generalize we.heap.size = gpt at *
                                try simp only[Act.put, yD, yE, yF]
                                refine wC 5 rfl (fun KK hK => ?_)
                                go_simp
                                refine (rM neg0 n1 B0 m0 cB0 B0' m0' cB0' A1 l1 c1 A1' l1' c1' g.am (arcs.length : Rat) _ (B5.o.2.K Xwf.o) H1.o LZq.o.2.2 LZq.o.1 LZq.o.2.1 (kU hl18 H1.o).1 (kU hl18 H1.o).2).mono ?_
                                rintro e wh ⟨n2, A2, l2, c2, A2', l2', c2', rfl, h2, x5⟩
                                have H2 := Hx h2
                                have Xwh := Hx (Xwf.o.tr x5)
                                have BN := Hx (kQa (BN.o.1.K x5) BN.o.2)
                                refine hK.o _ _ (KEEP.o _ Xwh.o) ?_
                                clear hK KK HSW x5 h2
                                have HSW := Hx (KEEP.o _ Xwh.o)
                                try simp only[Act.put, yD, yE, yF]
                                refine wP 6 rfl HSW.o ?_
                                try simp only[Act.put, yA, yB, yC, yD, yE, yF]
                                refine wP 7 rfl HSW.o ?_
                                try simp only[Act.put, yA, yB, yC, yD, yE, yF]
                                refine wP 8 rfl HSW.o ?_
                                try simp only[Act.put, yA, yB, yC, yD, yE, yF]
                                obtain ⟨⟨d0, d1, d2⟩, f0, f1, f2⟩ := BN.o.1.t3
                                refine aV (by kernel_rfl) rfl (by rfl) (fun KK hK => ?_)
                                go_simp
                                refine hK.o _ _ ?_
                                clear hK KK HSW
                                try simp only[Act.put, yD, yE, yF]
                                refine dQ (i := 11) (by kernel_rfl) rfl (by rfl) (fun KK hK => ?_)
                                go_simp
                                refine hK.o _ _ ?_
                                clear hK KK
                                try simp only[Act.put, yD, yE, yF]
                                refine wpAny_done (by kernel_rfl) ?_ _
                                have S9 := Hx (show LoB (((wh.setCell (aD gpt 0) (.bool n2)).setCell (aD gpt 1) (.s A2 l2 c2)).setCell (aD gpt 2) (.s A2' l2' c2')) gpt (g.am / (arcs.length : Rat)) /\ Ext w5 (((wh.setCell (aD gpt 0) (.bool n2)).setCell (aD gpt 1) (.s A2 l2 c2)).setCell (aD gpt 2) (.s A2' l2' c2')) /\ w5.heap.size <= gpt from by
                                  obtain ⟨s1, s2⟩ := eD (.bool n2) (.s A2 l2 c2) (.s A2' l2' c2') BN.o.1
                                  exact ⟨⟨_, _, _, _, _, _, _, s1, s2.ratR (NoT.one BN.o.1 (by decide)) H2.o⟩, s2.ext Xwh.o fun b hb => by have hb : b = gpt := hb; have := BN.o.2; omega, BN.o.2⟩)
                                clear d0 d1 d2 f0 f1 f2 BN H2
                                generalize (((wh.setCell (aD gpt 0) (.bool n2)).setCell (aD gpt 1) (.s A2 l2 c2)).setCell (aD gpt 2) (.s A2' l2' c2')) = wg at *
                                go_wp2
                                go_meet
                                exact ⟨gpt, rfl, S9⟩
                            · go_simp
                              have Xwe := Hx (show Ext w5 (wd.alloc (.cells #[.bool false, zN, zN] 40)) from Xwd.o.alloc _)
                              have BN := Hx (show Blk (wd.alloc (.cells #[.bool false, zN, zN] 40)) wd.heap.size 40 #[.bool false, zN, zN] /\ w5.heap.size <= wd.heap.size from ⟨eN wd _ _, Xwd.o.size⟩)
                              refine hK.o _ _ (KEEP.o _ Xwe.o) ?_
                              clear hK KK HSW
                              have HSW := Hx (KEEP.o _ Xwe.o)
                              generalize wd.alloc (.cells #[.bool false, zN, zN] 40) = we at *
                              generalize wd.heap.size = gpt at *
                              try simp only[Act.put, yD, yE, yF]
                              refine wC 4 rfl (fun KK hK => ?_)
                              go_simp
                              refine (NUM.o _).mono ?_
                              rintro e wf ⟨n1, A1, l1, c1, A1', l1', c1', rfl, h1, x5⟩
                              have H1 := Hx h1
                              have Xwf := Hx (Xwe.o.tr x5)
                              have BN := Hx (kQa (BN.o.1.K x5) BN.o.2)
                              refine hK.o _ _ (KEEP.o _ Xwf.o) ?_
                              clear hK KK HSW x5 h1
                              have HSW := Hx (KEEP.o _ Xwf.o)
                              try simp only[Act.put, yD, yE, yF]
                              refine wC 5 rfl (fun KK hK => ?_)
                              go_simp
                              refine (rM neg0 n1 B0 m0 cB0 B0' m0' cB0' A1 l1 c1 A1' l1' c1' g.am (arcs.length : Rat) _ (B5.o.2.K Xwf.o) H1.o LZq.o.2.2 LZq.o.1 LZq.o.2.1 (kU hl18 H1.o).1 (kU hl18 H1.o).2).mono ?_
                              rintro e wh ⟨n2, A2, l2, c2, A2', l2', c2', rfl, h2, x5⟩
                              have H2 := Hx h2
                              have Xwh := Hx (Xwf.o.tr x5)
                              have BN := Hx (kQa (BN.o.1.K x5) BN.o.2)
                              refine hK.o _ _ (KEEP.o _ Xwh.o) ?_
                              clear hK KK HSW x5 h2
                              have HSW := Hx (KEEP.o _ Xwh.o)
                              try simp only[Act.put, yD, yE, yF]
                              refine wP 6 rfl HSW.o ?_
                              try simp only[Act.put, yA, yB, yC, yD, yE, yF]
                              refine wP 7 rfl HSW.o ?_
                              try simp only[Act.put, yA, yB, yC, yD, yE, yF]
                              refine wP 8 rfl HSW.o ?_
                              try simp only[Act.put, yA, yB, yC, yD, yE, yF]
                              obtain ⟨⟨d0, d1, d2⟩, f0, f1, f2⟩ := BN.o.1.t3
                              refine aV (by kernel_rfl) rfl (by rfl) (fun KK hK => ?_)
                              go_simp
                              refine hK.o _ _ ?_
                              clear hK KK HSW
                              try simp only[Act.put, yD, yE, yF]
                              refine dQ (i := 11) (by kernel_rfl) rfl (by rfl) (fun KK hK => ?_)
                              go_simp
                              refine hK.o _ _ ?_
                              clear hK KK
                              try simp only[Act.put, yD, yE, yF]
                              refine wpAny_done (by kernel_rfl) ?_ _
                              have S9 := Hx (show LoB (((wh.setCell (aD gpt 0) (.bool n2)).setCell (aD gpt 1) (.s A2 l2 c2)).setCell (aD gpt 2) (.s A2' l2' c2')) gpt (g.am / (arcs.length : Rat)) /\ Ext w5 (((wh.setCell (aD gpt 0) (.bool n2)).setCell (aD gpt 1) (.s A2 l2 c2)).setCell (aD gpt 2) (.s A2' l2' c2')) /\ w5.heap.size <= gpt from by
                                obtain ⟨s1, s2⟩ := eD (.bool n2) (.s A2 l2 c2) (.s A2' l2' c2') BN.o.1
                                exact ⟨⟨_, _, _, _, _, _, _, s1, s2.ratR (NoT.one BN.o.1 (by decide)) H2.o⟩, s2.ext Xwh.o fun b hb => by have hb : b = gpt := hb; have := BN.o.2; omega, BN.o.2⟩)
                              clear d0 d1 d2 f0 f1 f2 BN H2
                              generalize (((wh.setCell (aD gpt 0) (.bool n2)).setCell (aD gpt 1) (.s A2 l2 c2)).setCell (aD gpt 2) (.s A2' l2' c2')) = wg at *
                              go_wp2
                              go_meet
                              exact ⟨gpt, rfl, S9⟩
                        case rest =>
                          obtain ⟨gpt, rfl, PTB⟩ := hcut
                          generalize wc = w6 at *
                          obtain ⟨q, hq⟩ : ∃ q, q = g.am / (arcs.length : Rat) := ⟨_, rfl⟩
                          rw[<- hq] at PTB F2
                          obtain ⟨eh, OSs⟩ := C.o.1.mv HAE.o
                          subst eh
                          obtain ⟨n5e, n5c, RS5⟩ := OSs.rdSg
                          have QQ := Hx (show 0 <= q /\ Sx.isI (q * dH (h + 1)) /\ (arcs.length : Rat) * q = g.am from by
                            rw[hq]
                            refine ⟨nP HG.o.2.1.am, sV HG.o.2.1.int hl1 hl18, ?_⟩
                            rw[Rat.mul_comm]
                            exact Rat.div_mul_cancel LZq.o.2.2)
                          have s32 : st'.length <= 32 := by
                            have h1 := jzaz TBK.o.1 dl h HG.o.2.2
                            rw[<- TBK.o.2.2] at h1
                            exact h1
                          have IN := Hx (show ∀ j, j <= arcs.length -> PtF t h (aP (GS.take i) + ((arcs.take j).length : Rat) * q) ((arcs.take j).foldl (bZ t st' q) (rdF t (aC t kd nm) dl h sh lo GS i)) /\ aP (GS.take i) + ((arcs.take j).length : Rat) * q <= 1 from fun j hj => jzlk (PT.o i hi) HH.o.2.2.2.2.1 SOK.o.sg s32 QQ.o.1 QQ.o.2.1 (fun a ha => (SOK.o.arc a ha).1) j hj (by rw[QQ.o.2.2, <- tN HG.o.1]; exact TOT.o _))
                          have ST5 := Hx (show n5 = st'.length /\ st'.length <= 32 /\ n5 <= c5 /\ (∀ s ∈ st', sgB t s) from ⟨n5e, s32, n5c, SOK.o.sg⟩)
                          have K0 := Hx (show ShJ w wB w6 t AO co AL cl gt gS gl sc dl h (.s (sA gb) ng cV) GS V' mb ((arcs.take 0).foldl (bZ t st' q) (rdF t (aC t kd nm) dl h sh lo GS i)) /\ ShK w6 sc dl gpt gq q A5 n5 c5 st' (h + 1) AR arcs from
                            ⟨J5.o.K PTB.o.2.1, PTB.o.1, C.o.2.K PTB.o.2.1, RS5.K PTB.o.2.1, (dX C.o.1.own).K PTB.o.2.1⟩)
                          have GPN := Hx (show gpt ≠ gS from by have h1 := J5.o.I.qs.lt; have h2 := PTB.o.2.2; omega)
                          clear J5 B5 PTB C OSs n5e n5c RS5 s32 LZq NUM hae0
                          go_wp2
                          go_loopg [17, 27, 28, 29, 30, 122] arcs.length (fun q' v17 _ _ _ _ it wx => ∃ (j : Nat) (V' : Value), arcs.length - j = q' /\ j <= arcs.length /\ it = vI (j : Int) /\ V' = v17 /\ Hid (ShJ w wB wx t AO co AL cl gt gS gl sc dl h (.s (sA gb) ng cV) GS V' mb ((arcs.take j).foldl (bZ t st' q) (rdF t (aC t kd nm) dl h sh lo GS i)) /\ ShK wx sc dl gpt gq q A5 n5 c5 st' (h + 1) AR arcs))
                          case atStart => exact ⟨0, _, rfl, yZ _, rfl, rfl, K0⟩
                          case round =>
                            clear K0
                            obtain ⟨j, V', rfl, hj, rfl, rfl, K⟩ := hrel
                            by_cases hjn : j < arcs.length
                            · have jN : (j : Int) < (arcs.length : Int) := by omega
                              obtain ⟨a, ha⟩ : ∃ a, arcs[j]? = some a := ⟨_, yG hjn⟩
                              have haL := (SOK.o.arc a (yJ ha)).1
                              have FA1 := Hx (show (arcs.take (j + 1)).foldl (bZ t st' q) (rdF t (aC t kd nm) dl h sh lo GS i) = bZ t st' q ((arcs.take j).foldl (bZ t st' q) (rdF t (aC t kd nm) dl h sh lo GS i)) a from by
                                rw[kQr, ha, kZt]
                                rfl)
                              have INj := Hx (IN.o j hj)
                              obtain ⟨F, hF⟩ : ∃ F, F = (arcs.take j).foldl (bZ t st' q) (rdF t (aC t kd nm) dl h sh lo GS i) := ⟨_, rfl⟩
                              rw[<- hF] at FA1 INj K
                              clear hF
                              obtain ⟨bA, oA, rfl, _, hca⟩ := K.o.2.ar.rd.ints_ (k := j) hjn
                              rw[ha, kQ1] at hca
                              have haS : a < F.sh.length := by rw[INj.o.1.fs.len]; exact haL
                              obtain ⟨qa, hqa⟩ : ∃ x, F.sh[a]? = some x := ⟨_, yG haS⟩
                              obtain ⟨n1, A1, l1, c1, A1', l1', c1', ⟨y0, y1, y2⟩, ⟨v0, v1, v2⟩, hr1⟩ := K.o.1.I.qs.at_ hqa
                              obtain ⟨n2, A2, l2, c2, A2', l2', c2', hb2, hr2⟩ := id K.o.2.pt
                              have SZ := Hx (show SzQ q 430 /\ ∀ g ∈ F.nx, SzQ g.am 430 from ⟨szP HG.o.2.1 AM.o (by omega) hl1 hl18 hq, (INj.o.1.szs (by omega) INj.o.2).2.2⟩)
                              have LE := Hx (show l1 <= 134217728 /\ l1' <= 134217728 /\ l2 <= 134217728 /\ l2' <= 134217728 from by
                                obtain ⟨s1, _, _⟩ := INj.o.1.szs (by omega) INj.o.2
                                obtain ⟨a1, a2⟩ := hr1.lens (s1 qa (yJ hqa))
                                obtain ⟨a3, a4⟩ := hr2.lens (szP HG.o.2.1 AM.o (by omega) hl1 hl18 hq)
                                exact ⟨by omega, by omega, by omega, by omega⟩)
                              have RR := Hx (kQa hr1 (kQa hr2 (kQa haS haL)))
                              have PB2 := Hx hb2
                              have aS : (a : Int) < 2 * (t.links.length : Int) := by omega
                              have HQA := Hx (show F.sh[a]?.getD 0 = qa from by rw[hqa, kQ1])
                              have KEEP := Hx (show ∀ W, Ext wr W -> W.cell? (aD gS (a * 3)) = some (.bool n1) /\ W.cell? (aD gS (a * 3 + 1)) = some (.s A1 l1 c1) /\ W.cell? (aD gS (a * 3 + 2)) = some (.s A1' l1' c1') /\ W.cell? (aD gpt 0) = some (.bool n2) /\ W.cell? (aD gpt 1) = some (.s A2 l2 c2) /\ W.cell? (aD gpt 2) = some (.s A2' l2' c2') from fun W hx => ⟨aH hx y0, aH hx y1, aH hx y2, (PB2.o.K hx).cell 0, (PB2.o.K hx).cell 1, (PB2.o.K hx).cell 2⟩)
                              obtain ⟨cS, hS⟩ := K.o.1.I.qs.blk
                              have BS := Hx hS
                              have XD := Hx (show Ext wr wr.drew from (eR wr).drewN 1)
                              have HSW := Hx (KEEP.o _ XD.o)
                              clear hr1 hr2 hb2 hqa haS haL y0 y1 y2 v0 v1 v2 ha hS
                              go_upto_region 27 with fail
                              clear hca
                              refine wp_region_last (fun W => W.cell? (aD gS (a * 3)) = some (.bool n1) /\ W.cell? (aD gS (a * 3 + 1)) = some (.s A1 l1 c1) /\ W.cell? (aD gS (a * 3 + 2)) = some (.s A1' l1' c1') /\ W.cell? (aD gpt 0) = some (.bool n2) /\ W.cell? (aD gpt 1) = some (.s A2 l2 c2) /\ W.cell? (aD gpt 2) = some (.s A2' l2' c2')) 9 (by kernel_rfl) ?_
                              generalize wr.drew = wd at *
                              refine wP 0 rfl HSW.o ?_
                              try simp only[Act.put, yA, yB, yC, yD, yE, yF]
                              refine wP 1 rfl HSW.o ?_
                              try simp only[Act.put, yA, yB, yC, yD, yE, yF]
                              refine wP 2 rfl HSW.o ?_
                              try simp only[Act.put, yA, yB, yC, yD, yE, yF]
                              refine wP 3 rfl HSW.o ?_
                              try simp only[Act.put, yA, yB, yC, yD, yE, yF]
                              refine wP 4 rfl HSW.o ?_
                              try simp only[Act.put, yA, yB, yC, yD, yE, yF]
                              refine wT 5 (v := ?_) rfl ?_ HSW.o ?_
                              rotate_left
                              focus (intro w hSw; obtain ⟨s0, s1, s2, s3, s4, s5⟩ := hSw; go_simp; try with_reducible rfl)
                              try simp only[Act.put, yA, yB, yC, yD, yE, yF]
                              refine wT 6 (v := ?_) rfl ?_ HSW.o ?_
                              rotate_left
                              focus (intro w hSw; obtain ⟨s0, s1, s2, s3, s4, s5⟩ := hSw; go_simp; try with_reducible rfl)
                              try simp only[Act.put, yA, yB, yC, yD, yE, yF]
                              refine wC 7 rfl (fun KK hK => ?_)
                              go_simp
                              refine (lH n1 n2 A1 l1 c1 A1' l1' c1' A2 l2 c2 A2' l2' c2' qa q _ (RR.o.1.K XD.o) (RR.o.2.1.K XD.o) LE.o.1 LE.o.2.1 LE.o.2.2.1 LE.o.2.2.2 (iY (kQx (kQ7 _) (kQ7 _)))).mono ?_
                              rintro e w7 ⟨n3, A3, l3, c3, A3', l3', c3', rfl, h3, x7⟩
                              have X7 := Hx (XD.o.tr x7)
                              have H3 := Hx h3
                              refine hK.o _ _ (KEEP.o _ X7.o) ?_
                              clear hK KK HSW x7 h3 XD
                              have HSW := Hx (KEEP.o _ X7.o)
                              try simp only[Act.put, yD, yE, yF]
                              refine wP 8 rfl HSW.o ?_
                              try simp only[Act.put, yA, yB, yC, yD, yE, yF]
                              have J7 := Hx (show ShJ w wB w7 t AO co AL cl gt gS gl sc dl h (.s (sA gb) ng cV) GS V' mb F /\ ShK w7 sc dl gpt gq q A5 n5 c5 st' (h + 1) (some (aD bA oA)) arcs from ⟨K.o.1.K X7.o, K.o.2.K X7.o⟩)
                              obtain ⟨v0, v1, v2⟩ := kQa ((BS.o.K X7.o).frozen (a * 3)) (kQa ((BS.o.K X7.o).frozen (a * 3 + 1)) ((BS.o.K X7.o).frozen (a * 3 + 2)))
                              obtain ⟨y0, y1, y2, _, _, _⟩ := HSW.o
                              refine aV (by kernel_rfl) rfl (by rfl) (fun KK hK => ?_)
                              go_simp
                              refine hK.o _ _ ?_
                              clear hK KK
                              try simp only[Act.put, yD, yE, yF]
                              refine wpAny_done (by kernel_rfl) ?_ _
                              have W8 := Hx (show ShJ w wB (((w7.setCell (aD gS (a * 3)) (.bool n3)).setCell (aD gS (a * 3 + 1)) (.s A3 l3 c3)).setCell (aD gS (a * 3 + 2)) (.s A3' l3' c3')) t AO co AL cl gt gS gl sc dl h (.s (sA gb) ng cV) GS V' mb ⟨dE F.sh a q, F.lo, F.nx⟩ /\ ShK (((w7.setCell (aD gS (a * 3)) (.bool n3)).setCell (aD gS (a * 3 + 1)) (.s A3 l3 c3)).setCell (aD gS (a * 3 + 2)) (.s A3' l3' c3')) sc dl gpt gq q A5 n5 c5 st' (h + 1) (some (aD bA oA)) arcs from by
                                obtain ⟨s1, s2⟩ := J7.o.1.share RR.o.2.2.1 H3.o
                                have hb := BS.o.K X7.o
                                refine ⟨by unfold dE; rw[HQA.o]; exact s1, J7.o.2.fr s2 (NoT.one hb (by decide)) (NoT.one hb (by decide)) (NoT.one hb (by decide)) (NoT.one hb (by decide)) GPN.o⟩)
                              clear J7 y0 y1 y2 v0 v1 v2 HSW KEEP H3 X7 BS PB2 LE K HQA
                              generalize (((w7.setCell (aD gS (a * 3)) (.bool n3)).setCell (aD gS (a * 3 + 1)) (.s A3 l3 c3)).setCell (aD gS (a * 3 + 2)) (.s A3' l3' c3')) = w8 at *
                              obtain ⟨hda, hhda⟩ : ∃ x, x = hdN t a := ⟨_, rfl⟩
                              have HDA := Hx (show ∀ W, Ext w W -> Calls Tryz.prog 87 #[.agg #[vI t.nodes, .s AO t.over.length co, .s AL t.links.length cl], vI (a : Int)] W fun e w' => e = .returned (vI (hda : Int)) /\ Ext W w' from fun W hx => by rw[hhda]; exact HD.o W a hx RR.o.2.2.2)
                              have TXL := Hx (show ∀ W, Ext w8 W -> Calls Tryz.prog 90 #[.s A5 n5 c5] W fun e w' => e = .returned (.string ⟨(txL st').toArray⟩) /\ Ext W w' from fun W hx => jzk7 A5 n5 c5 st' W (HTB.o.K (W8.o.1.I.ex.tr hx)) (W8.o.2.qs.K hx) ST5.o.1.symm (by have := ST5.o.2.1; have := ST5.o.1; omega) fun s hs => pD HH.o.2.2.2.1 (by have := HH.o.2.1; have := HH.o.2.2.1; omega) (ST5.o.2.2.2 s hs))
                              have HHD := Hx hhda
                              clear hhda
                              obtain ⟨txt, htx⟩ : ∃ x, x = txL st' := ⟨_, rfl⟩
                              rw[<- htx] at TXL
                              have HTX := Hx htx
                              clear htx
                              go_upto_region 28 with fail
                              go_cut [28] (fun v28 wx => ∃ gk2 : Nat, v28 = .pointer (sA gk2) /\ Hid (Blk wx gk2 158 #[vI (hda : Int), .string ⟨txt.toArray⟩] /\ Ext w8 wx))
                              case first =>
                                as_aux_lemma =>
                                  have KEEP := Hx (show ∀ W, Ext w8 W -> W.cell? (aD gt 0) = some (vI t.nodes) /\ W.cell? (aD gt 1) = some (.s AO t.over.length co) /\ W.cell? (aD gt 2) = some (.s AL t.links.length cl) /\ W.cell? (aD gq 4) = some (.s A5 n5 c5) from fun W hx => by
                                    obtain ⟨⟨a0, b0, c0⟩, _⟩ := (W8.o.1.I.tb.K hx).t3
                                    exact ⟨a0, b0, c0, (W8.o.2.qb.K hx).cell 4⟩)
                                  have Xwd := Hx (show Ext w8 w8.drew from (eR w8).drewN 1)
                                  have HSW := Hx (KEEP.o _ Xwd.o)
                                  refine wp_region_last (fun W => W.cell? (aD gt 0) = some (vI t.nodes) /\ W.cell? (aD gt 1) = some (.s AO t.over.length co) /\ W.cell? (aD gt 2) = some (.s AL t.links.length cl) /\ W.cell? (aD gq 4) = some (.s A5 n5 c5)) 8 (by kernel_rfl) ?_
                                  generalize w8.drew = wd at *
                                  refine wT 0 (v := ?_) rfl ?_ HSW.o ?_
                                  rotate_left
                                  focus (intro w hSw; obtain ⟨s0, s1, s2, s3⟩ := hSw; go_simp; try with_reducible rfl)
                                  try simp only[Act.put, yA, yB, yC, yD, yE, yF]
                                  refine wP 1 rfl HSW.o ?_
                                  try simp only[Act.put, yA, yB, yC, yD, yE, yF]
                                  refine wP 3 rfl HSW.o ?_
                                  try simp only[Act.put, yA, yB, yC, yD, yE, yF]
                                  refine wT 4 (v := ?_) rfl ?_ HSW.o ?_
                                  rotate_left
                                  focus (intro w hSw; obtain ⟨s0, s1, s2, s3⟩ := hSw; go_simp; try with_reducible rfl)
                                  try simp only[Act.put, yA, yB, yC, yD, yE, yF]
                                  refine eT (i := 2) (j := 7) (by decide) (by decide) (by kernel_rfl) rfl rfl (by rfl) (by rfl) (fun KK hK => ?_) (fun KK hK => ?_)
                                  · go_simp
                                    refine (HDA.o _ (W8.o.1.I.ex.tr Xwd.o)).mono ?_
                                    rintro e we ⟨rfl, x5⟩
                                    have Xwe := Hx (Xwd.o.tr x5)
                                    refine hK.o _ _ (KEEP.o _ Xwe.o) ?_
                                    clear hK KK HSW x5
                                    have HSW := Hx (KEEP.o _ Xwe.o)
                                    try simp only[Act.put, yD, yE, yF]
                                    refine eT (i := 5) (j := 7) (by decide) (by decide) (by kernel_rfl) rfl rfl (by rfl) (by rfl) (fun KK hK => ?_) (fun KK hK => ?_)
                                    · go_simp
                                      refine (TXL.o _ Xwe.o).mono ?_
                                      rintro e wf ⟨rfl, x5⟩
                                      have Xwf := Hx (Xwe.o.tr x5)
                                      refine hK.o _ _ (KEEP.o _ Xwf.o) ?_
                                      clear hK KK HSW x5
                                      have HSW := Hx (KEEP.o _ Xwf.o)
                                      try simp only[Act.put, yD, yE, yF]
                                      refine wP 6 rfl HSW.o ?_
                                      try simp only[Act.put, yA, yB, yC, yD, yE, yF]
                                      refine wC 7 rfl (fun KK hK => ?_)
                                      go_simp
                                      have Xwh := Hx (show Ext w8 (wf.alloc (.cells #[vI 0, .string ⟨#[]⟩] 158)) from Xwf.o.alloc _)
                                      have BN := Hx (show Blk (wf.alloc (.cells #[vI 0, .string ⟨#[]⟩] 158)) wf.heap.size 158 #[vI 0, .string ⟨#[]⟩] /\ w8.heap.size <= wf.heap.size from ⟨eN wf _ _, Xwf.o.size⟩)
                                      refine hK.o _ _ (KEEP.o _ Xwh.o) ?_
                                      clear hK KK HSW
                                      have HSW := Hx (KEEP.o _ Xwh.o)
                                      generalize wf.alloc (.cells #[vI 0, .string ⟨#[]⟩] 158) = wh at *
                                      generalize wf.heap.size = gk2 at *
                                      try simp only[Act.put, yD, yE, yF]
                                      obtain ⟨⟨d0, d1⟩, f0, f1⟩ := kQa (kQa (BN.o.1.cell 0) (BN.o.1.cell 1)) (kQa (BN.o.1.frozen 0) (BN.o.1.frozen 1))
                                      refine aV (by kernel_rfl) rfl (by rfl) (fun KK hK => ?_)
                                      go_simp
                                      refine hK.o _ _ ?_
                                      clear hK KK HSW
                                      try simp only[Act.put, yD, yE, yF]
                                      refine wpAny_done (by kernel_rfl) ?_ _
                                      have S9 := Hx (show Blk ((wh.setCell (aD gk2 0) (vI (hda : Int))).setCell (aD gk2 1) (.string ⟨txt.toArray⟩)) gk2 158 #[vI (hda : Int), .string ⟨txt.toArray⟩] /\ Ext w8 ((wh.setCell (aD gk2 0) (vI (hda : Int))).setCell (aD gk2 1) (.string ⟨txt.toArray⟩)) from by
                                        obtain ⟨s1, s2⟩ := kQ (vI (hda : Int)) (.string ⟨txt.toArray⟩) BN.o.1
                                        exact ⟨s1, s2.ext Xwh.o fun b hb => by have hb : b = gk2 := hb; have := BN.o.2; omega⟩)
                                      clear d0 d1 f0 f1 BN
                                      generalize ((wh.setCell (aD gk2 0) (vI (hda : Int))).setCell (aD gk2 1) (.string ⟨txt.toArray⟩)) = wg at *
                                      go_wp2
                                      go_meet
                                      exact ⟨gk2, rfl, S9⟩
                                    · go_simp
                                      have Xwf := Hx (show Ext w8 (we.alloc (.cells #[vI 0, .string ⟨#[]⟩] 158)) from Xwe.o.alloc _)
                                      have BN := Hx (show Blk (we.alloc (.cells #[vI 0, .string ⟨#[]⟩] 158)) we.heap.size 158 #[vI 0, .string ⟨#[]⟩] /\ w8.heap.size <= we.heap.size from ⟨eN we _ _, Xwe.o.size⟩)
                                      refine hK.o _ _ (KEEP.o _ Xwf.o) ?_
                                      clear hK KK HSW
                                      have HSW := Hx (KEEP.o _ Xwf.o)
                                      generalize we.alloc (.cells #[vI 0, .string ⟨#[]⟩] 158) = wf at *
                                      generalize we.heap.size = gk2 at *
                                      try simp only[Act.put, yD, yE, yF]
                                      refine wC 5 rfl (fun KK hK => ?_)
                                      go_simp
                                      refine (TXL.o _ Xwf.o).mono ?_
                                      rintro e wh ⟨rfl, x5⟩
                                      have Xwh := Hx (Xwf.o.tr x5)
                                      have BN := Hx (kQa (BN.o.1.K x5) BN.o.2)
                                      refine hK.o _ _ (KEEP.o _ Xwh.o) ?_
                                      clear hK KK HSW x5
                                      have HSW := Hx (KEEP.o _ Xwh.o)
                                      try simp only[Act.put, yD, yE, yF]
                                      refine wP 6 rfl HSW.o ?_
                                      try simp only[Act.put, yA, yB, yC, yD, yE, yF]
                                      obtain ⟨⟨d0, d1⟩, f0, f1⟩ := kQa (kQa (BN.o.1.cell 0) (BN.o.1.cell 1)) (kQa (BN.o.1.frozen 0) (BN.o.1.frozen 1))
                                      refine aV (by kernel_rfl) rfl (by rfl) (fun KK hK => ?_)
                                      go_simp
                                      refine hK.o _ _ ?_
                                      clear hK KK HSW
                                      try simp only[Act.put, yD, yE, yF]
                                      refine wpAny_done (by kernel_rfl) ?_ _
                                      have S9 := Hx (show Blk ((wh.setCell (aD gk2 0) (vI (hda : Int))).setCell (aD gk2 1) (.string ⟨txt.toArray⟩)) gk2 158 #[vI (hda : Int), .string ⟨txt.toArray⟩] /\ Ext w8 ((wh.setCell (aD gk2 0) (vI (hda : Int))).setCell (aD gk2 1) (.string ⟨txt.toArray⟩)) from by
                                        obtain ⟨s1, s2⟩ := kQ (vI (hda : Int)) (.string ⟨txt.toArray⟩) BN.o.1
                                        exact ⟨s1, s2.ext Xwh.o fun b hb => by have hb : b = gk2 := hb; have := BN.o.2; omega⟩)
                                      clear d0 d1 f0 f1 BN
                                      generalize ((wh.setCell (aD gk2 0) (vI (hda : Int))).setCell (aD gk2 1) (.string ⟨txt.toArray⟩)) = wg at *
                                      go_wp2
                                      go_meet
                                      exact ⟨gk2, rfl, S9⟩
                                  · go_simp
                                    have Xwe := Hx (show Ext w8 (wd.alloc (.cells #[vI 0, .string ⟨#[]⟩] 158)) from Xwd.o.alloc _)
                                    have BN := Hx (show Blk (wd.alloc (.cells #[vI 0, .string ⟨#[]⟩] 158)) wd.heap.size 158 #[vI 0, .string ⟨#[]⟩] /\ w8.heap.size <= wd.heap.size from ⟨eN wd _ _, Xwd.o.size⟩)
                                    refine hK.o _ _ (KEEP.o _ Xwe.o) ?_
                                    clear hK KK HSW
                                    have HSW := Hx (KEEP.o _ Xwe.o)
                                    generalize wd.alloc (.cells #[vI 0, .string ⟨#[]⟩] 158) = we at *
                                    generalize wd.heap.size = gk2 at *
                                    try simp only[Act.put, yD, yE, yF]
                                    refine wC 2 rfl (fun KK hK => ?_)
                                    go_simp
                                    refine (HDA.o _ (W8.o.1.I.ex.tr Xwe.o)).mono ?_
                                    rintro e wf ⟨rfl, x5⟩
                                    have Xwf := Hx (Xwe.o.tr x5)
                                    have BN := Hx (kQa (BN.o.1.K x5) BN.o.2)
                                    refine hK.o _ _ (KEEP.o _ Xwf.o) ?_
                                    clear hK KK HSW x5
                                    have HSW := Hx (KEEP.o _ Xwf.o)
                                    try simp only[Act.put, yD, yE, yF]
                                    refine wC 5 rfl (fun KK hK => ?_)
                                    go_simp
                                    refine (TXL.o _ Xwf.o).mono ?_
                                    rintro e wh ⟨rfl, x5⟩
                                    have Xwh := Hx (Xwf.o.tr x5)
                                    have BN := Hx (kQa (BN.o.1.K x5) BN.o.2)
                                    refine hK.o _ _ (KEEP.o _ Xwh.o) ?_
                                    clear hK KK HSW x5
                                    have HSW := Hx (KEEP.o _ Xwh.o)
                                    try simp only[Act.put, yD, yE, yF]
                                    refine wP 6 rfl HSW.o ?_
                                    try simp only[Act.put, yA, yB, yC, yD, yE, yF]
                                    obtain ⟨⟨d0, d1⟩, f0, f1⟩ := kQa (kQa (BN.o.1.cell 0) (BN.o.1.cell 1)) (kQa (BN.o.1.frozen 0) (BN.o.1.frozen 1))
                                    refine aV (by kernel_rfl) rfl (by rfl) (fun KK hK => ?_)
                                    go_simp
                                    refine hK.o _ _ ?_
                                    clear hK KK HSW
                                    try simp only[Act.put, yD, yE, yF]
                                    refine wpAny_done (by kernel_rfl) ?_ _
                                    have S9 := Hx (show Blk ((wh.setCell (aD gk2 0) (vI (hda : Int))).setCell (aD gk2 1) (.string ⟨txt.toArray⟩)) gk2 158 #[vI (hda : Int), .string ⟨txt.toArray⟩] /\ Ext w8 ((wh.setCell (aD gk2 0) (vI (hda : Int))).setCell (aD gk2 1) (.string ⟨txt.toArray⟩)) from by
                                      obtain ⟨s1, s2⟩ := kQ (vI (hda : Int)) (.string ⟨txt.toArray⟩) BN.o.1
                                      exact ⟨s1, s2.ext Xwh.o fun b hb => by have hb : b = gk2 := hb; have := BN.o.2; omega⟩)
                                    clear d0 d1 f0 f1 BN
                                    generalize ((wh.setCell (aD gk2 0) (vI (hda : Int))).setCell (aD gk2 1) (.string ⟨txt.toArray⟩)) = wg at *
                                    go_wp2
                                    go_meet
                                    exact ⟨gk2, rfl, S9⟩
                              case rest =>
                                obtain ⟨gk2, rfl, KB⟩ := hcut
                                generalize wc = w9 at *
                                have J9 := Hx (show ShJ w wB w9 t AO co AL cl gt gS gl sc dl h (.s (sA gb) ng cV) GS V' mb ⟨dE F.sh a q, F.lo, F.nx⟩ /\ ShK w9 sc dl gpt gq q A5 n5 c5 st' (h + 1) (some (aD bA oA)) arcs from ⟨W8.o.1.K KB.o.2, W8.o.2.K KB.o.2⟩)
                                have KB9 := Hx KB.o.1
                                clear W8 KB HDA TXL
                                have NXK := Hx (show (∀ x ∈ F.nx, x.node < N /\ (txL x.st).length <= 1000000) /\ (∀ x ∈ F.nx, ∀ s ∈ x.st, s.1 = 1 \/ s.1 = 2) /\ hda < N /\ txt.length <= 1000000 /\ (∀ s ∈ st', s.1 = 1 \/ s.1 = 2) from jzlm HH.o.2.2.2.1 HH.o.2.2.1 HH.o.2.2.2.2.2 INj.o.1 (by rw[HHD.o, <- HH.o.2.2.2.2.2]; exact HH.o.2.2.2.2.1.hd a RR.o.2.2.2) HTX.o ST5.o.2.1 ST5.o.2.2.2)
                                have HDm := Hx (show ∀ (x : Nat × List UInt8) (v : Value), mG F.nx x = some v -> SmS x from fun x v hx => jziy NXK.o.1 (by have := HH.o.2.2.1; omega) x v hx)
                                have KEY := Hx (show SmS (hda, txt) from ⟨by show hda < 4294967296; have := NXK.o.2.2.1; have := HH.o.2.2.1; omega, NXK.o.2.2.2.1⟩)
                                have hlk0 := J9.o.1.mp.look ky3 HDm.o Tryz.underlying152 (z := vI 0) rfl (x := (hda, txt)) KEY.o true
                                have hmg : mG F.nx (hda, txt) = (fdG F.nx hda st').map fun i : Nat => Value.int .i64 (i : Int) := by rw[HTX.o]; exact jziv NXK.o.2.1 NXK.o.2.2.2.2
                                have e0 : w9.cell? (aD gk2 0) = some (vI (hda : Int)) := KB9.o.cell 0
                                have e1 : w9.cell? (aD gk2 1) = some (.string ⟨txt.toArray⟩) := KB9.o.cell 1
                                have NLB := Hx (jzll FA1.o F2.o HHD.o (jzlj (t := t) (dst := dl) (h := h) (sh := sh) (lo := lo) (gs := GS) (aC t kd nm) (i + 1)) NB.o.2.1)
                                cases hfd : fdG F.nx hda st' with
                                | none =>
                                  rw[hfd] at hmg
                                  rw[hmg] at hlk0
                                  have hlk : (Instr.lookup 152 (.map (some mb)) (.agg #[vI (hda : Int), .string ⟨txt.toArray⟩]) true).run Tryz.prog w9 = .ok (.tuple #[vI 0, .bool false]) w9 := hlk0
                                  have HMG := Hx hmg
                                  have HFD := Hx hfd
                                  clear hlk0 hmg hfd
                                  obtain ⟨A7, c7, rfl, hc7⟩ := J9.o.1.nx.form
                                  have hc7' : F.nx.length <= c7 := hc7
                                  go_wp2_with (at_mapUpdate; refine jzhw rfl (.tmp 160) (.tmp 161) (.tmp 163) rfl ky3 Tryz.underlying152 J9.o.1.mp HDm.o rfl (hda, txt) KEY.o rfl (vI (F.nx.length : Int)) rfl ?_)
                                  intro w10 M10 gr10
                                  have P10 := Hx (jzln J9.o.1 J9.o.2 KB9.o gr10)
                                  have M11 := Hx (jzlo (q := q) (st := st') HMG.o HTX.o M10)
                                  clear M10 gr10 J9 KB9 HMG hlk e0 e1 KEY HDm NXK
                                  obtain ⟨n2, A2, l2, c2, A2', l2', c2', hb2, hr2⟩ := id P10.o.2.1.pt
                                  have f0 : w10.cell? (aD gk2 0) = some (vI (hda : Int)) := P10.o.2.2.cell 0
                                  obtain ⟨⟨q0, q1, q2, q3, q4, q5⟩, _⟩ := bC P10.o.2.1.qb
                                  obtain ⟨⟨p0, p1, p2⟩, _⟩ := hb2.t3
                                  have P11 := Hx (show ShM w wB (w10.alloc (.cells #[vI (hda : Int), vI 0, vI (sc : Int), vI (dl : Int), vI 0, .s A5 n5 c5, vI ((h + 1 : Nat) : Int), .bool n2, .s A2 l2 c2, .s A2' l2' c2'] 150)) t AO co AL cl gt gS gl sc dl h (.s (sA gb) ng cV) GS (.s A7 F.nx.length c7) mb ⟨dE F.sh a q, F.lo, F.nx⟩ /\ ShK (w10.alloc (.cells #[vI (hda : Int), vI 0, vI (sc : Int), vI (dl : Int), vI 0, .s A5 n5 c5, vI ((h + 1 : Nat) : Int), .bool n2, .s A2 l2 c2, .s A2' l2' c2'] 150)) sc dl gpt gq q A5 n5 c5 st' (h + 1) (some (aD bA oA)) arcs /\ MpG fA (w10.alloc (.cells #[vI (hda : Int), vI 0, vI (sc : Int), vI (dl : Int), vI 0, .s A5 n5 c5, vI ((h + 1 : Nat) : Int), .bool n2, .s A2 l2 c2, .s A2' l2' c2'] 150)) mb (F.nx.length + 1) (mG (F.nx ++ [⟨hda, st', q⟩])) /\ GpM sc dl (h + 1) (w10.alloc (.cells #[vI (hda : Int), vI 0, vI (sc : Int), vI (dl : Int), vI 0, .s A5 n5 c5, vI ((h + 1 : Nat) : Int), .bool n2, .s A2 l2 c2, .s A2' l2' c2'] 150)) [vI (hda : Int), vI 0, vI (sc : Int), vI (dl : Int), vI 0, .s A5 n5 c5, vI ((h + 1 : Nat) : Int), .bool n2, .s A2 l2 c2, .s A2' l2' c2'] ⟨hda, st', q⟩ /\ Blk (w10.alloc (.cells #[vI (hda : Int), vI 0, vI (sc : Int), vI (dl : Int), vI 0, .s A5 n5 c5, vI ((h + 1 : Nat) : Int), .bool n2, .s A2 l2 c2, .s A2' l2' c2'] 150)) w10.heap.size 150 #[vI (hda : Int), vI 0, vI (sc : Int), vI (dl : Int), vI 0, .s A5 n5 c5, vI ((h + 1 : Nat) : Int), .bool n2, .s A2 l2 c2, .s A2' l2' c2'] from by
                                    have X11 : Ext w10 (w10.alloc (.cells #[vI (hda : Int), vI 0, vI (sc : Int), vI (dl : Int), vI 0, .s A5 n5 c5, vI ((h + 1 : Nat) : Int), .bool n2, .s A2 l2 c2, .s A2' l2' c2'] 150)) := (eR w10).alloc _
                                    exact ⟨P10.o.1.K X11, P10.o.2.1.K X11, M11.o.K X11, ⟨A5, n5, c5, n2, A2, l2, c2, A2', l2', c2', rfl, ST5.o.1.symm, ST5.o.2.2.1, P10.o.2.1.qs.K X11, hr2.K X11⟩, eN w10 _ _⟩)
                                  clear P10 M11 hb2 hr2
                                  obtain ⟨css, h1, h2, h3, h4⟩ := id P11.o.1.nx
                                  have OW := Hx (kQa h1 (kQa h2 (kQa h3 h4)))
                                  have hsz : wB.heap.size <= (w10.alloc (.cells #[vI (hda : Int), vI 0, vI (sc : Int), vI (dl : Int), vI 0, .s A5 n5 c5, vI ((h + 1 : Nat) : Int), .bool n2, .s A2 l2 c2, .s A2' l2' c2'] 150)).heap.size := P11.o.1.lB.2
                                  clear h1 h2 h3 h4
                                  go_wp2_with (at_builtin; refine dW _ 151 150 _ 10 128 rfl _ _ rfl Tryz.underlying151 jzjc rfl (by decide) wB.heap.size (.s A7 F.nx.length c7) F.nx.length css.flatten rfl OW.o.2.2.1 [vI (hda : Int), vI 0, vI (sc : Int), vI (dl : Int), vI 0, .s A5 n5 c5, vI ((h + 1 : Nat) : Int), .bool n2, .s A2 l2 c2, .s A2' l2' c2'] rfl (by simp[Value.oneCell']) w10.heap.size rfl P11.o.2.2.2.2 (lim5 NLB.o).1 (lim5 NLB.o).2 hsz ?_)
                                  intro g12 c12 w12 own12 gr12 new12
                                  have R12 := Hx (jzlr P11.o.1 P11.o.2.1 P11.o.2.2.1 OW.o P11.o.2.2.2.1 own12 gr12)
                                  clear P11 own12 gr12 new12 OW hsz
                                  have R13 := Hx (show ShJ w wB w12 t AO co AL cl gt gS gl sc dl h (.s (sA gb) ng cV) GS (.s (sA g12) (F.nx.length + 1) c12) mb ((arcs.take (j + 1)).foldl (bZ t st' q) (rdF t (aC t kd nm) dl h sh lo GS i)) /\ ShK w12 sc dl gpt gq q A5 n5 c5 st' (h + 1) (some (aD bA oA)) arcs from by
                                    rw[jzlp FA1.o HHD.o HFD.o]
                                    exact R12.o)
                                  clear R12
                                  go_wp2
                                  go_roundg (arcs.length - (j + 1))
                                  case measure => exact Nat.sub_lt_sub_left hjn (Nat.lt_succ_self j)
                                  case rel => exact ⟨j + 1, _, rfl, hjn, by go_num, rfl, R13⟩
                                | some idx =>
                                  rw[hfd] at hmg
                                  rw[hmg] at hlk0
                                  have hlk : (Instr.lookup 152 (.map (some mb)) (.agg #[vI (hda : Int), .string ⟨txt.toArray⟩]) true).run Tryz.prog w9 = .ok (.tuple #[vI (idx : Int), .bool true]) w9 := hlk0
                                  have iS : (idx : Int) < (F.nx.length : Int) := Int.ofNat_lt.2 (jzir hfd)
                                  obtain ⟨y, hy, hF1⟩ := jzlq FA1.o HHD.o hfd
                                  have HF1 := Hx hF1
                                  have HY := Hx hy
                                  obtain ⟨gn, cap2, n1, A1, l1, c1, A1', l1', c1', rfl, hbn, kc, hr1⟩ := jzlt J9.o.1 hy
                                  obtain ⟨n2, A2, l2, c2, A2', l2', c2', hb2, hr2⟩ := id J9.o.2.pt
                                  have LE := Hx (jzls (SZ.o.2 y (yJ hy)) hr1 SZ.o.1 hr2)
                                  have RR2 := Hx (kQa hr1 hr2)
                                  have BN2 := Hx hbn
                                  have KEEP := Hx (show ∀ W, Ext w9 W -> W.cell? (aD gn (idx * 10 + 7)) = some (.bool n1) /\ W.cell? (aD gn (idx * 10 + 7 + 1)) = some (.s A1 l1 c1) /\ W.cell? (aD gn (idx * 10 + 7 + 2)) = some (.s A1' l1' c1') /\ W.cell? (aD gpt 0) = some (.bool n2) /\ W.cell? (aD gpt 1) = some (.s A2 l2 c2) /\ W.cell? (aD gpt 2) = some (.s A2' l2' c2') from fun W hx => ⟨(kc W hx).1, (kc W hx).2.1, (kc W hx).2.2, (hb2.K hx).cell 0, (hb2.K hx).cell 1, (hb2.K hx).cell 2⟩)
                                  have XD := Hx (show Ext w9 w9.drew from (eR w9).drewN 1)
                                  have HSW := Hx (KEEP.o _ XD.o)
                                  clear hlk0 hmg hfd hy hF1 kc hr1 hb2 hr2 hbn KB9 HDm KEY NXK NLB SZ
                                  go_upto_region 31 with fail
                                  clear hlk e0 e1
                                  refine wp_region_last (fun W => W.cell? (aD gn (idx * 10 + 7)) = some (.bool n1) /\ W.cell? (aD gn (idx * 10 + 7 + 1)) = some (.s A1 l1 c1) /\ W.cell? (aD gn (idx * 10 + 7 + 2)) = some (.s A1' l1' c1') /\ W.cell? (aD gpt 0) = some (.bool n2) /\ W.cell? (aD gpt 1) = some (.s A2 l2 c2) /\ W.cell? (aD gpt 2) = some (.s A2' l2' c2')) 11 (by kernel_rfl) ?_
                                  generalize w9.drew = wd at *
                                  refine wP 0 rfl HSW.o ?_
                                  try simp only[Act.put, yA, yB, yC, yD, yE, yF]
                                  refine wP 1 rfl HSW.o ?_
                                  try simp only[Act.put, yA, yB, yC, yD, yE, yF]
                                  refine wP 2 rfl HSW.o ?_
                                  try simp only[Act.put, yA, yB, yC, yD, yE, yF]
                                  refine wP 3 rfl HSW.o ?_
                                  try simp only[Act.put, yA, yB, yC, yD, yE, yF]
                                  refine wP 4 rfl HSW.o ?_
                                  try simp only[Act.put, yA, yB, yC, yD, yE, yF]
                                  refine wP 5 rfl HSW.o ?_
                                  try simp only[Act.put, yA, yB, yC, yD, yE, yF]
                                  refine wT 6 (v := ?_) rfl ?_ HSW.o ?_
                                  rotate_left
                                  focus (intro w hSw; obtain ⟨s0, s1, s2, s3, s4, s5⟩ := hSw; go_simp; try with_reducible rfl)
                                  try simp only[Act.put, yA, yB, yC, yD, yE, yF]
                                  refine wT 7 (v := ?_) rfl ?_ HSW.o ?_
                                  rotate_left
                                  focus (intro w hSw; obtain ⟨s0, s1, s2, s3, s4, s5⟩ := hSw; go_simp; try with_reducible rfl)
                                  try simp only[Act.put, yA, yB, yC, yD, yE, yF]
                                  refine wC 8 rfl (fun KK hK => ?_)
                                  go_simp
                                  refine (lH n1 n2 A1 l1 c1 A1' l1' c1' A2 l2 c2 A2' l2' c2' y.am q _ (RR2.o.1.K XD.o) (RR2.o.2.K XD.o) LE.o.1 LE.o.2.1 LE.o.2.2.1 LE.o.2.2.2 (iY (kQx (kQ7 _) (kQ7 _)))).mono ?_
                                  rintro e w11 ⟨n3, A3, l3, c3, A3', l3', c3', rfl, h3, x7⟩
                                  have X7 := Hx (XD.o.tr x7)
                                  have H3 := Hx h3
                                  refine hK.o _ _ (KEEP.o _ X7.o) ?_
                                  clear hK KK HSW x7 h3 XD
                                  have HSW := Hx (KEEP.o _ X7.o)
                                  try simp only[Act.put, yD, yE, yF]
                                  refine wP 9 rfl HSW.o ?_
                                  try simp only[Act.put, yA, yB, yC, yD, yE, yF]
                                  refine wP 10 rfl HSW.o ?_
                                  try simp only[Act.put, yA, yB, yC, yD, yE, yF]
                                  have J11 := Hx (show ShJ w wB w11 t AO co AL cl gt gS gl sc dl h (.s (sA gb) ng cV) GS (.s (sA gn) F.nx.length cap2) mb ⟨dE F.sh a q, F.lo, F.nx⟩ /\ ShK w11 sc dl gpt gq q A5 n5 c5 st' (h + 1) (some (aD bA oA)) arcs from ⟨J9.o.1.K X7.o, J9.o.2.K X7.o⟩)
                                  obtain ⟨csn, hbn⟩ := BN2.o
                                  obtain ⟨v0, v1, v2⟩ := kQa ((hbn.K X7.o).frozen (idx * 10 + 7)) (kQa ((hbn.K X7.o).frozen (idx * 10 + 7 + 1)) ((hbn.K X7.o).frozen (idx * 10 + 7 + 2)))
                                  obtain ⟨y0, y1, y2, _, _, _⟩ := HSW.o
                                  clear hbn
                                  refine aV (by kernel_rfl) rfl (by rfl) (fun KK hK => ?_)
                                  go_simp
                                  refine hK.o _ _ ?_
                                  clear hK KK
                                  try simp only[Act.put, yD, yE, yF]
                                  refine wpAny_done (by kernel_rfl) ?_ _
                                  have R13 := Hx (show ShJ w wB (((w11.setCell (aD gn (idx * 10 + 7)) (.bool n3)).setCell (aD gn (idx * 10 + 7 + 1)) (.s A3 l3 c3)).setCell (aD gn (idx * 10 + 7 + 2)) (.s A3' l3' c3')) t AO co AL cl gt gS gl sc dl h (.s (sA gb) ng cV) GS (.s (sA gn) F.nx.length cap2) mb ((arcs.take (j + 1)).foldl (bZ t st' q) (rdF t (aC t kd nm) dl h sh lo GS i)) /\ ShK (((w11.setCell (aD gn (idx * 10 + 7)) (.bool n3)).setCell (aD gn (idx * 10 + 7 + 1)) (.s A3 l3 c3)).setCell (aD gn (idx * 10 + 7 + 2)) (.s A3' l3' c3')) sc dl gpt gq q A5 n5 c5 st' (h + 1) (some (aD bA oA)) arcs from by
                                    rw[HF1.o]
                                    exact am_k J11.o.1 J11.o.2 rfl HY.o H3.o)
                                  clear J11 J9 y0 y1 y2 v0 v1 v2 HSW KEEP H3 X7 BN2 LE RR2 HF1 HY
                                  generalize (((w11.setCell (aD gn (idx * 10 + 7)) (.bool n3)).setCell (aD gn (idx * 10 + 7 + 1)) (.s A3 l3 c3)).setCell (aD gn (idx * 10 + 7 + 2)) (.s A3' l3' c3')) = w12 at *
                                  go_wp2
                                  go_roundg (arcs.length - (j + 1))
                                  case measure => exact Nat.sub_lt_sub_left hjn (Nat.lt_succ_self j)
                                  case rel => exact ⟨j + 1, _, rfl, hjn, by go_num, rfl, R13⟩
                            · obtain rfl : j = arcs.length := by omega
                              have jN : ¬ (arcs.length : Int) < (arcs.length : Int) := by omega
                              have R := Hx (show ShJ w wB wr t AO co AL cl gt gS gl sc dl h (.s (sA gb) ng cV) GS V' mb (rdF t (aC t kd nm) dl h sh lo GS (i + 1)) from by
                                rw[F2.o]
                                have h1 := K.o.1
                                rw[yU (yX _)] at h1
                                exact h1)
                              clear K IN
                              go_wp2
                              go_roundg (ng - (i + 1))
                              case measure => omega
                              case rel => exact ⟨i + 1, _, rfl, by omega, by go_num, rfl, R⟩
                  · obtain rfl : ng = i := by omega
                    have iN : ¬ (ng : Int) < (ng : Int) := by omega
                    have RA := Hx (show (rdF t (aC t kd nm) dl h sh lo GS ng) = rdS t (aC t kd nm) dl h sh lo GS from jzle (Nat.le_of_eq NG.o))
                    have JE := Hx J.o
                    have L32 := Hx (PT.o ng (yX _)).st
                    rw[RA.o] at JE L32
                    have R := Hx (show RI t kd nm sc dl (h + 1) (rdS t (aC t kd nm) dl h sh lo GS).sh (rdS t (aC t kd nm) dl h sh lo GS).lo (rdS t (aC t kd nm) dl h sh lo GS).nx /\ (256 <= h + 1 -> (rdS t (aC t kd nm) dl h sh lo GS).nx = []) /\ (∀ g ∈ (rdS t (aC t kd nm) dl h sh lo GS).nx, g.st.length <= 32) /\ flS t (aC t kd nm) dl (257 - (h + 1)) (h + 1) (rdS t (aC t kd nm) dl h sh lo GS).sh (rdS t (aC t kd nm) dl h sh lo GS).lo (rdS t (aC t kd nm) dl h sh lo GS).nx = bY t kd nm r /\ ShI w wr t AO co AL cl gt gS gl (rdS t (aC t kd nm) dl h sh lo GS).sh (rdS t (aC t kd nm) dl h sh lo GS).lo /\ OwL (GpM sc dl (h + 1)) 150 10 wr w.heap.size V' (rdS t (aC t kd nm) dl h sh lo GS).nx /\ stG t (aC t kd nm) dl (List.replicate (2 * t.links.length) 0) [⟨sc, STK, 1⟩] (h + 1) = ⟨(rdS t (aC t kd nm) dl h sh lo GS).sh, (rdS t (aC t kd nm) dl h sh lo GS).lo, (rdS t (aC t kd nm) dl h sh lo GS).nx⟩ from
                      ⟨RIN.o, fun h1 => oQ (by omega) GS ⟨sh, lo, []⟩ rfl, L32.o, FLN.o, JE.o.I, by
                        obtain ⟨css, h1, h2, h3, h4⟩ := JE.o.nx
                        exact ⟨css, h1, h2, h3.mono JE.o.lB.1, h4⟩, NB.o.2.2⟩)
                    clear J JE L32 RA RIN PT TOT GPB FLN NB
                    go_wp2
                    go_roundg (257 - (h + 1))
                    case measure => omega
                    case rel => exact ⟨h + 1, _, _, _, _, rfl, rfl, by omega, R⟩
end Fo
end Go.Proofs.YtllmekijiohgmaaGreatDoor
