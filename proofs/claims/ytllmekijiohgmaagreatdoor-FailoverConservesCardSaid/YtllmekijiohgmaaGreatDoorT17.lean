/- Part 17 of 23 of what the Flows claims share (the white space is struck, the texts are joined). -/
import Derived.Laws.StructEq
import Derived.Test.YtllmekijiohgmaaGreatDoorT16
set_option linter.unusedVariables false
set_option linter.unusedSimpArgs false
set_option maxRecDepth 100000
set_option maxHeartbeats 8000000
namespace Go.Proofs.YtllmekijiohgmaaGreatDoor
open Go.RowKit
namespace Fo
theorem jzka(op:BinOp)(x y:Operand)(xs ys:Array Value)w:(eqGuard op 148 x y (.agg xs) (.agg ys)).run Tryz.prog w=.ok () w:=run_eqGuard_agg w op 148 x y xs ys (by kernel_rfl)
theorem jzkb(a b c d:Int)w:(binOp .eql 148 (.agg #[vI a,vI b]) (.agg #[vI c,vI d])).run Tryz.prog w=.ok (.bool (a==c&&b==d)) w:=by
 rw[run_eql_struct];have h:(Op.equalIn (9999+1) 148 (.agg #[vI a,vI b]) (.agg #[vI c,vI d])).run Tryz.prog w=.ok (a==c&&b==d) w:=(by rw[run_equalIn_struct w 9999 148 _ _ (by kernel_rfl) (by kernel_rfl)];have hf:(Tryz.prog.fieldsOf 148).toList=[⟨"Kind",3,0,false, "", "",0⟩,⟨"Number",3,1,false, "", "",8⟩]:=(by kernel_rfl);rw[hf];have e1:∀(x y:Int) (w:World),(Op.equalIn 9999 3 (vI x) (vI y)).run Tryz.prog w=.ok (x==y) w:=fun x y w=>run_equalIn_int w 9998 3 .i64 .i64 x y Tryz.underlying3;simp[Op.eqFields,go_sem,e1];by_cases h1:a=c <;> by_cases h2:b=d <;> simp[h1,h2]);rw[h];rfl
end Fo
namespace Fo
structure eU(w wx:World)(t:Tp)(AO:OA)(co:Nat)(AL:OA)(cl n:Nat)(E:OA)(ne cE:Nat)(D:OA)(nd cD:Nat)(i1 i2:Int)(dst:Nat)(i4:Int)(A:OA)(k c h gp:Nat):Prop where
 ex:Ext w wx
 tb:Blk wx gp 25 #[vI t.nodes,.s AO t.over.length co,.s AL t.links.length cl]
 xb:Blk wx (gp+1) 60 #[vI (n:Int),.s E ne cE,.s D nd cD]
 pb:Blk wx (gp+1+1) 147 #[vI i1,vI i2,vI (dst:Int),vI i4,.s A k c,vI (h:Int)]
 rb:Blk wx (gp+1+1+1) 147 #[vI 0,vI 0,vI 0,vI 0,zN,vI 0]
theorem eU.K{w wx wy}{t}{AO}{co:Nat}{AL}{cl n:Nat}{E}{ne cE:Nat}{D}{nd cD:Nat}{i1 i2:Int}{dst:Nat}{i4:Int}{A}{k c h gp:Nat}(I:eU w wx t AO co AL cl n E ne cE D nd cD i1 i2 dst i4 A k c h gp)(hx:Ext wx wy):eU w wy t AO co AL cl n E ne cE D nd cD i1 i2 dst i4 A k c h gp:=
 ⟨I.ex.tr hx,I.tb.K hx,I.xb.K hx,I.pb.K hx,I.rb.K hx⟩
theorem eU.sto{w wx wy}{t}{AO}{co:Nat}{AL}{cl n:Nat}{E}{ne cE:Nat}{D}{nd cD:Nat}{i1 i2:Int}{dst:Nat}{i4:Int}{A}{k c h gp g:Nat}{cs:Array Value}(I:eU w wx t AO co AL cl n E ne cE D nd cD i1 i2 dst i4 A k c h gp)(hg:Blk wx g 148 cs)(q:FrS (fun b=>b=g) wx wy)(lo:w.heap.size<=g):eU w wy t AO co AL cl n E ne cE D nd cD i1 i2 dst i4 A k c h gp:=
 ⟨q.ext I.ex fun b hb=>by have hb:b=g:=hb;omega,q.blk I.tb (bL I.tb hg (by decide)),q.blk I.xb (bL I.xb hg (by decide)),q.blk I.pb (bL I.pb hg (by decide)),q.blk I.rb (bL I.rb hg (by decide))⟩
def iK(n:Nat):List Sg->Bool
 | []=>false
 |s::_=>decide (s=(1,n))
theorem jzkc{n:Nat}(s:Sg)(l:List Sg):iK n (s::l)=(((s.1:Nat):Int)==1&&((s.2:Nat):Int)==(n:Int)):=by
 obtain⟨s1,s2⟩:=s;unfold iK;by_cases h1:s1=1 <;> by_cases h2:s2=n <;> simp[h1,h2] <;> omega
theorem jzkd{n:Nat}{l:List Sg}(h:iK n l=false):cH n l=l:=by
 (cases l with|nil=>rfl|cons s l=>unfold iK at h;unfold cH;rw[if_neg (of_decide_eq_false h)])
theorem jzke{n:Nat}{l:List Sg}(h:iK n l=true):∃r,l=(1,n)::r/\cH n l=cH n r:=by
 (cases l with|nil=>cases h|cons s l=>have e:=of_decide_eq_true h;subst e;exact⟨l,rfl,by conv=>lhs;unfold cH;rw[if_pos rfl]⟩)
theorem jzkf D(nd cD:Nat)(l:LN)(m:Nat)w(h:RdT w 3 D (ints l))(hl:l.length=nd)(hb:nd<=100000):
  Calls Tryz.prog 142 #[.s D nd cD,vI (m:Int)] w fun e w'=>e=.returned (.bool (decide (m∈l)))/\Ext w w':=by
 subst hl;by_cases hz:l=[];{subst hz;refine(Tryz.slices_Contains_int_empty D cD (m:Int) w).mono ?_;rintro e w' ⟨rfl,rfl⟩;exact⟨rfl,eR _⟩};have hr:=h.rd;obtain⟨b,o,rfl,hb,hc⟩:=hr (by simpa [ints]using hz);have h2:=Tryz.slices_Contains_int b o l.length cD (l.map fun a:Nat=>(a:Int)) (m:Int) w (by simp) (by omega) (fun j hj=>by rw[xV]at hj;rw[hc j (by unfold ints;simpa using hj)];unfold ints;simp[hj]);refine h2.mono ?_;rintro e w' ⟨rfl,rfl⟩;refine⟨?_,eR _⟩;have e1:((l.map fun a:Nat=>(a:Int)).take l.length).contains (m:Int)=decide (m∈l):=(by rw[yU (by simp),List.contains_eq_mem];refine decide_eq_decide.2 ⟨fun h=>?_,fun h=>kQl.2 ⟨m,h,rfl⟩⟩;obtain⟨a,h1,h2⟩:=kQl.1 h;obtain rfl:a=m:=(by omega);exact h1);rw[e1]
theorem jzkg{w}{E}{es:List En}{m:Nat}{e:En}(h:RdL EnC 103 3 w E es)(he:es[m]?=some e):∃b o B cB P cP,E=some (aD b o)/\
  (∀wx,Ext w wx->wx.cell? (aD b (o+m*3))=some (.s B e.arcs.length cB)/\wx.cell? (aD b (o+m*3+1))=some (.bool e.rep)/\wx.cell? (aD b (o+m*3+2))=some (.s P e.push.length cP))/\RdT w 3 B (ints e.arcs)/\bB w P e.push:=by
 obtain⟨b,o,cs,h1,h2,h3,h4,B,cB,P,cP,rfl,_,h6,_,h8⟩:=h.at_ (by decide) he;refine⟨b,o,B,cB,P,cP,h1,fun wx hx=>⟨aH hx ?_,aH hx ?_,aH hx ?_⟩,h6,h8⟩;{have:=h4 0 (by decide);rw[kQ3]at this;exact this};{exact h4 1 (by decide)};exact h4 2 (by decide)
set_option maxHeartbeats 16000000 in
theorem jzkh t AO(co:Nat)AL(cl:Nat)(n N:Nat)(x:Tb)E(ne cE:Nat)D(nd cD:Nat)(i1 i2:Int)(dst:Nat)(i4:Int)A(k c h:Nat)(st:List Sg)w
  (ht:aF w t AO co AL cl) (hv:aA t=true) (hN:t.nodes=(N:Int)) (h12:N<=12) (hn:n<N) (hx:TbB t n x) (hne:x.es.length=ne) (hce:ne<=cE) (hE:RdL EnC 103 3 w E x.es) (hnd:x.down.length=nd) (hcd:nd<=cD) (hD:RdT w 3 D (ints x.down))
  (hdst:dst<N) (hh:h<=1000) (hA:bB w A st) (hk:st.length=k) (hkc:k<=c) (h32:k<=32) (hsg:∀s∈st,sgB t s):
  Calls Tryz.prog 88 #[.agg #[vI t.nodes,.s AO t.over.length co,.s AL t.links.length cl],.agg #[vI (n:Int),.s E ne cE,.s D nd cD],.agg #[vI i1,vI i2,vI (dst:Int),vI i4,.s A k c,vI (h:Int)]] w (StQ w i1 i2 (dst:Int) i4 h (cM t x dst h st)):=by
 have g:=Gok.of hv;have hNt:t.nodes.toNat=N:=(by omega);have hlk:=dC hv;have TV:=Hx (fun(wx:World) (hw:Ext w wx)=>jzhv t AO co AL cl n N x E ne cE D nd cD wx (ht.K hw) hv hN hn hx hne hce (hE.K hw fun cs x h=>h.K hw) hnd hcd (hD.K hw).rd);have NO:=Hx (fun(wx:World) (m:Nat) (hm:m<N)=>nY t AO co AL cl wx m N hN hm);have AC:=Hx (fun(wx:World) (a:Nat) (hw:Ext w wx) (ha:a<2*t.links.length)=>sO t AO co AL cl a wx (ht.K hw) ha);have TA:=Hx (show∀(wx:World) (a:Nat),Ext w wx->a<2*t.links.length->Calls Tryz.prog 52 #[.agg #[vI t.nodes,.s AO t.over.length co,.s AL t.links.length cl],vI (a:Int)] wx fun e w'=>e=.returned (vI (tlN t a:Int))/\Ext wx w' from fun wx a hx ha=>by
  have h:=eX t AO co AL cl a wx (ht.K hx) (by omega);have e1:aX t a=(tlN t a:Int):=by
   obtain⟨lk,k1,k2,k3⟩:=dZ hv ha;unfold tlN aX;rw[k1];simp only
   split <;> omega
  rw[e1]at h;exact h)
 have DR:=Hx (fun(r:Int) (wx:World) (hw:Ext w wx)=>jzam i1 i2 (dst:Int) i4 (h:Int) r A k c (sgI st) wx (hA.K hw).s (by rw[eS];exact hk) (by omega));have WI:=Hx (fun(wx:World)=>sP i1 i2 (dst:Int) i4 (h:Int) A k c none 0 0 [] wx (.inl ⟨rfl,rfl⟩) rfl (by decide));have CT:=Hx (fun(wx:World) (m:Nat) (hw:Ext w wx)=>jzkf D nd cD x.down m wx (hD.K hw) hnd (by have:=hx.down.few;omega));have LV:Hid (∀(wx:World) (A2:OA) (n2 c2:Nat) (l:List Sg) (b m:Nat),Ext w wx->bB wx A2 l->l.length=n2->n2<=1000->Blk wx b 3 #[vI (m:Int)]->Calls Tryz.prog 143 #[.agg #[vI i1,vI i2,vI (dst:Int),vI i4,.s A k c,vI (h:Int)],.s A2 n2 c2,.s (sA b) 1 1] wx (StQ wx i1 i2 (dst:Int) i4 h ([m],l,0))):=Hx (fun wx A2 n2 c2 l b m hw hR hl hl2 hB=>jzaq i1 i2 (dst:Int) i4 h A k c A2 n2 c2 l (sA b) 1 1 [m] wx hR hl hl2 (RdT.of_blk hB rfl) rfl (by decide) hh);have ECC:=Hx (fun(m:Nat) (e:En) (he:x.es[m]?=some e)=>jzkg hE he);have ENB:=Hx (show∀(m:Nat) (e:En),x.es[m]?=some e->e.arcs.length<=1000/\e.push.length<=1000 from fun m e he=>by
  have h1:=(hx.es m e he).lea.few;have h2:=(hx.es m e he).few;omega)
 have EN:Hid (∀(wx:World) (m:Nat) (e:En) (A2:OA) (n2 c2:Nat) (cur:List Sg) (B:OA) (cB:Nat) (P:OA) (cP:Nat),Ext w wx->x.es[m]?=some e->RdT wx 3 B (ints e.arcs)->bB wx P e.push->(bB wx A2 cur/\cur.length=n2/\n2<=c2/\n2<=1000)->Calls Tryz.prog 144 #[.agg #[vI i1,vI i2,vI (dst:Int),vI i4,.s A k c,vI (h:Int)],.s A2 n2 c2,.agg #[.s B e.arcs.length cB,.bool e.rep,.s P e.push.length cP]] wx (StQ wx i1 i2 (dst:Int) i4 h (cQ e cur))):=Hx (fun wx m e A2 n2 c2 cur B cB P cP hw he hB hP hR=>jzj9 i1 i2 (dst:Int) i4 h A k c A2 n2 c2 cur st e B e.arcs.length cB P e.push.length cP wx (hA.K hw) hk (by omega) hR.1 hR.2.1 hR.2.2.1 hR.2.2.2 hB rfl (ENB.o m e he).1 hP rfl (ENB.o m e he).2 hh);have EAT:Hid (∀m,m<N->∃e,x.es[m]?=some e):=Hx (fun m hm=>⟨_,yG (by rw[hx.len,hNt];exact hm)⟩);have HX:Hid (x.node=n/\(∀s∈st,sgB t s)/\t.nodes.toNat=N/\x.es.length=ne/\x.down.length=nd/\ne=N):=Hx (⟨hx.node,hsg,hNt,hne,hnd,by rw[<-hne,hx.len,hNt]⟩);have RA:=Hx (kQa hA (kQa hk hkc));have J0:=Hx (show eU w ((((w.alloc (.cells #[vI t.nodes,.s AO t.over.length co,.s AL t.links.length cl] 25)).alloc (.cells #[vI (n:Int),.s E ne cE,.s D nd cD] 60)).alloc (.cells #[vI i1,vI i2,vI (dst:Int),vI i4,.s A k c,vI (h:Int)] 147)).alloc (.cells #[vI 0,vI 0,vI 0,vI 0,zN,vI 0] 147)) t AO co AL cl n E ne cE D nd cD i1 i2 dst i4 A k c h w.heap.size from by
  obtain⟨b1,b2,b3,b4⟩:=enW w #[vI t.nodes,.s AO t.over.length co,.s AL t.links.length cl] #[vI (n:Int),.s E ne cE,.s D nd cD] #[vI i1,vI i2,vI (dst:Int),vI i4,.s A k c,vI (h:Int)] 25 60 147;have b5:=eN (((w.alloc (.cells #[vI t.nodes,.s AO t.over.length co,.s AL t.links.length cl] 25)).alloc (.cells #[vI (n:Int),.s E ne cE,.s D nd cD] 60)).alloc (.cells #[vI i1,vI i2,vI (dst:Int),vI i4,.s A k c,vI (h:Int)] 147)) 147 #[vI 0,vI 0,vI 0,vI 0,zN,vI 0];simp only[World.size_alloc]at b5;exact⟨b4.alloc _,b1.alloc _,b2.alloc _,b3.alloc _,b5⟩)
 clear ht hv hN h12 hn hx hne hce hE hnd hcd hD hA hk hkc hsg g hNt hlk
 go_enter Tryz.func88,Tryz.ntmps88
 go_upto_region 1 with fail
 go_step3
 generalize (((w.alloc (.cells #[vI t.nodes,.s AO t.over.length co,.s AL t.links.length cl] 25)).alloc (.cells #[vI (n:Int),.s E ne cE,.s D nd cD] 60)).alloc (.cells #[vI i1,vI i2,vI (dst:Int),vI i4,.s A k c,vI (h:Int)] 147)).alloc (.cells #[vI 0,vI 0,vI 0,vI 0,zN,vI 0] 147)=w1 at*;generalize hgp:w.heap.size=gp at*;have HGP:=Hx hgp;clear hgp;obtain⟨⟨i0,i1_,i2_⟩,_⟩:=J0.o.tb.t3;obtain⟨⟨x0,x1,x2⟩,_⟩:=J0.o.xb.t3;obtain⟨⟨p0,p1,p2,p3,p4,p5⟩,_⟩:=bC J0.o.pb
 go_wp2_with fail
 refine(TV.o _ J0.o.ex).mono ?_;rintro e w2 ⟨rfl,x2_⟩;have J2:=Hx (J0.o.K x2_);clear x2_ J0 TV;clear i0 i1_ i2_ x0 x1 x2 p0 p1 p2 p3 p4 p5;obtain⟨⟨i0,i1_,i2_⟩,_⟩:=J2.o.tb.t3;obtain⟨⟨x0,x1,x2⟩,_⟩:=J2.o.xb.t3;obtain⟨⟨p0,p1,p2,p3,p4,p5⟩,_⟩:=bC J2.o.pb
 go_wp2_with fail
 refine(NO.o _ dst hdst).mono ?_;rintro e w3 ⟨rfl,x3_⟩;have J3:=Hx (J2.o.K x3_);clear x3_ J2;clear i0 i1_ i2_ x0 x1 x2 p0 p1 p2 p3 p4 p5;obtain⟨⟨i0,i1_,i2_⟩,_⟩:=J3.o.tb.t3;obtain⟨⟨x0,x1,x2⟩,_⟩:=J3.o.xb.t3;obtain⟨⟨p0,p1,p2,p3,p4,p5⟩,_⟩:=bC J3.o.pb;have k32:¬(32:Int)<(k:Int):=by omega
 go_upto_region 6 with fail
 have J5:Hid (bB (w3.alloc (.cells #[vI 1,vI (n:Int)] 148)) A st/\cH n st=cH n st/\(∀s∈st,sgB t s)/\eU w (w3.alloc (.cells #[vI 1,vI (n:Int)] 148)) t AO co AL cl n E ne cE D nd cD i1 i2 dst i4 A k c h gp/\Blk (w3.alloc (.cells #[vI 1,vI (n:Int)] 148)) w3.heap.size 148 #[vI 1,vI (n:Int)]):=Hx (⟨RA.o.1.K (J3.o.ex.alloc _),rfl,HX.o.2.1,J3.o.K ((eR w3).alloc _),eN w3 _ _⟩);go_wp2;clear i0 i1_ i2_ x0 x1 x2 p0 p1 p2 p3 p4 p5;clear J3;generalize w3.alloc (.cells #[vI 1,vI (n:Int)] 148)=w5 at*;generalize w3.heap.size=gs at*
 go_loopg [9] k (fun q sv wx=>∃(A2:OA) (k2 c2:Nat) (cur:List Sg),k2=q/\sv=.s A2 k2 c2/\cur.length=k2/\k2<=c2/\k2<=32/\Hid (bB wx A2 cur/\cH n cur=cH n st/\(∀s∈cur,sgB t s)/\eU w wx t AO co AL cl n E ne cE D nd cD i1 i2 dst i4 A k c h gp/\Blk wx gs 148 #[vI 1,vI (n:Int)]))
 case atStart=>exact⟨A,k,c,st,rfl,rfl,RA.o.2.1,RA.o.2.2,h32,Hx ⟨J5.o.1,rfl,J5.o.2.2⟩⟩
 obtain⟨A2,k2,c2,cur,rfl,rfl,hk2,hkc2,hk32,I⟩:=hrel;clear J5
 go_upto_region 7 with fail
 go_cut [51] (fun v wx=>v=.bool (iK n cur)/\Hid (bB wx A2 cur/\cH n cur=cH n st/\(∀s∈cur,sgB t s)/\eU w wx t AO co AL cl n E ne cE D nd cD i1 i2 dst i4 A k c h gp/\Blk wx gs 148 #[vI 1,vI (n:Int)]))
 case first=>
  have KI:Hid (∀wx,Ext wr wx->(bB wx A2 cur/\cH n cur=cH n st/\(∀s∈cur,sgB t s)/\eU w wx t AO co AL cl n E ne cE D nd cD i1 i2 dst i4 A k c h gp/\Blk wx gs 148 #[vI 1,vI (n:Int)])):=Hx (fun wx hx=>⟨I.o.1.K hx,I.o.2.1,I.o.2.2.1,I.o.2.2.2.1.K hx,I.o.2.2.2.2.K hx⟩);have y0:=xc (I.o.2.2.2.2.cell 0);have y1:=xc (I.o.2.2.2.2.cell 1);cases cur with
  |nil=>
   obtain rfl:k2=0:=hk2.symm;clear I;refine bH (by kernel_rfl) (by kernel_rfl) ?_
   repeat (go_big_quiet_step (fail))
   refine wpQuiet_nil ?_;rintro _ ⟨xx,rfl⟩;go_wp2;go_meet;exact⟨rfl,Hx (KI.o _ xx.ext)⟩
  |cons s l=>
   obtain⟨b,o,rfl,hb,c0,c1⟩:=I.o.1.some_;have hk3:l.length+1=k2:=(by simpa using hk2);subst hk3;have z0:=xc c0;have z1:=xc c1;have l2:(0:Int)<(l.length:Int)+1:=(by omega);have heg:=fun(op:BinOp) (p q:Operand) (xs ys:Array Value) (W:World)=>jzka op p q xs ys W;have heq:=fun(a b c d:Int) (W:World)=>jzkb a b c d W;clear I c0 c1 hb hk2;refine bH (by kernel_rfl) (by kernel_rfl) ?_
   repeat (go_big_quiet_step (fail))
   refine wpQuiet_nil ?_;rintro _ ⟨xx,rfl⟩;go_wp2;go_meet;refine⟨?_,Hx (KI.o _ xx.ext)⟩;rw[jzkc]
 obtain⟨rfl,I2⟩:=hcut;cases hpb:iK n cur
 case true=>
  obtain⟨r,rfl,hpr⟩:=jzke hpb;obtain⟨b,o,rfl,hb,_,_⟩:=I2.o.1.some_;have hk3:r.length+1=k2:=(by simpa using hk2);subst hk3;have c4:((r.length+1:Nat):Int)<=(c2:Int):=(by omega);have l1:(1:Int)<=(r.length:Int)+1:=(by omega);have l2:(1:Int)<=(c2:Int):=(by omega);have R1:Hid (cH n r=cH n st/\(∀s∈r,sgB t s)):=Hx (⟨by rw[<-hpr];exact I2.o.2.1,fun s hs=>I2.o.2.2.1 s (by simp[hs])⟩);clear hb hpr hk2 hpb;go_wp2
  ·go_roundg r.length
   case measure=>omega
   have e2:r.length=0:=(by omega);exact⟨_,_,_,r,rfl,rfl,rfl,by omega,by omega,Hx ⟨I2.o.1.tl0 (kQz e2),R1.o.1,R1.o.2,I2.o.2.2.2⟩⟩
  go_roundg r.length
  case measure=>omega
  exact⟨_,_,_,r,rfl,rfl,rfl,by omega,by omega,Hx ⟨I2.o.1.tl,R1.o.1,R1.o.2,I2.o.2.2.2⟩⟩
 have I3:Hid (bB wc A2 cur/\goS t x dst h cur=cM t x dst h st/\(∀s∈cur,sgB t s)/\eU w wc t AO co AL cl n E ne cE D nd cD i1 i2 dst i4 A k c h gp):=Hx (⟨I2.o.1,by unfold cM;rw[HX.o.1, <-I2.o.2.1,jzkd hpb],I2.o.2.2.1,I2.o.2.2.2.1⟩);clear I2 hpb;go_wp2
 go_step3
 go_wp2
 go_loopg [9,11] k2 (fun q sv _ wx=>∃(A2:OA) (k2 c2:Nat) (cur:List Sg),k2=q/\sv=.s A2 k2 c2/\cur.length=k2/\k2<=c2/\k2<=32/\Hid (bB wx A2 cur/\goS t x dst h cur=cM t x dst h st/\(∀s∈cur,sgB t s)/\eU w wx t AO co AL cl n E ne cE D nd cD i1 i2 dst i4 A k c h gp))
 case atStart=>exact⟨_,_,_,cur,rfl,rfl,hk2,hkc2,hk32,I3⟩
 clear I3 hk2 hkc2 hk32;obtain⟨A2,k2,c2,cur,rfl,rfl,hk2,hkc2,hk32,I⟩:=hrel;have J:=Hx I.o.2.2.2;cases cur with
 |nil=>
  obtain rfl:k2=0:=hk2.symm;have RC:Hid (∀W,Ext wr W->(bB W A2 ([]:List Sg)/\([]:List Sg).length=0/\0<=c2/\0<=1000)):=Hx (fun W hx=>⟨I.o.1.K hx,rfl,hkc2,by omega⟩);have GO:Hid (goN x dst h=cM t x dst h st):=Hx (I.o.2.1);clear I;obtain⟨⟨i0,i1_,i2_⟩,_⟩:=J.o.tb.t3;obtain⟨⟨x0,x1,x2⟩,_⟩:=J.o.xb.t3;obtain⟨⟨p0,p1,p2,p3,p4,p5⟩,_⟩:=bC J.o.pb;by_cases hdn:dst=n
  ·have hdd:((dst:Int)==(n:Int))=true:=by rw[hdn];exact beq_self_eq_true _
   have HDN:=Hx hdn;clear hdn
   go_wp2_with fail
   refine(WI.o _).mono ?_;rintro e w5 ⟨v5,rfl,o5⟩;obtain⟨A5,n5,c5,rfl⟩:∃A5 n5 c5,v5=.s A5 n5 c5:=(by obtain⟨A5,c5,e,_⟩:=oFA o5.own;exact⟨_,_,_,e⟩);have EO:=Hx (show cM t x dst h st=([],[], -1)from by
    rw[<-GO.o];unfold goN;rw[if_pos (by rw[HX.o.1];exact HDN.o)])
   have C3:Hid (StC w w5 zN (.s A5 n5 c5) h (h:Int) ([],[], -1)):=Hx ((StC.none_ o5).mono J.o.ex);have D3:=Hx (J.o.rb.K o5.ex);clear o5 J;obtain⟨⟨d0,d1,d2,d3,d4,d5⟩,f0,f1,f2,f3,f4,f5⟩:=bC (D3.o);have B8:=Hx (dO (vI i1) (vI i2) (vI (dst:Int)) (vI i4) (.s A5 n5 c5) (vI (h:Int)) (D3.o));have F:Hid (StQ w i1 i2 (dst:Int) i4 h ([],[], -1) (.returned (.tuple #[zN,.agg #[vI i1,vI i2,vI (dst:Int),vI i4,.s A5 n5 c5,vI (h:Int)],vI (-1)])) ((((((w5.setCell (aD (gp+1+1+1) 0) (vI i1)).setCell (aD (gp+1+1+1) 1) (vI i2)).setCell (aD (gp+1+1+1) 2) (vI (dst:Int))).setCell (aD (gp+1+1+1) 3) (vI i4)).setCell (aD (gp+1+1+1) 4) (.s A5 n5 c5)).setCell (aD (gp+1+1+1) 5) (vI (h:Int)))):=Hx (⟨_,_,_,rfl,(C3.o).sto (D3.o) B8.o.2 (by have:=HGP.o;omega)⟩);go_wp2;have⟨⟨r0,r1,r2,r3,r4,r5⟩,_⟩:=bC B8.o.1;clear B8;generalize ((((((w5.setCell (aD (gp+1+1+1) 0) (vI i1)).setCell (aD (gp+1+1+1) 1) (vI i2)).setCell (aD (gp+1+1+1) 2) (vI (dst:Int))).setCell (aD (gp+1+1+1) 3) (vI i4)).setCell (aD (gp+1+1+1) 4) (.s A5 n5 c5)).setCell (aD (gp+1+1+1) 5) (vI (h:Int)))=w8 at*;refine bodyPost_ret (v:=.tuple #[zN,.agg #[vI i1,vI i2,vI (dst:Int),vI i4,.s A5 n5 c5,vI (h:Int)],vI (-1)]) ?_ rfl (by have h:=F.o;rw[<-EO.o]at h;exact h);simp[results,Tryz.results88,go_sem,asAddr,Result.andThen,r0,r1,r2,r3,r4,r5]
  have hdd:((dst:Int)==(n:Int))=false:=yK.2 (by omega);have HDN:=Hx hdn;clear hdn;by_cases h255:255<=h
  ·have hi5:(255:Int)<=(h:Int):=by omega
   go_wp2_with fail
   refine(DR.o 4 _ J.o.ex).mono ?_;rintro e w5 ⟨v5,rfl,o5⟩;obtain⟨A5,n5,c5,rfl⟩:∃A5 n5 c5,v5=.s A5 n5 c5:=(by obtain⟨A5,c5,e,_⟩:=oFA o5.own;exact⟨_,_,_,e⟩);have EO:Hid (cM t x dst h st=([],[],4)):=Hx (by rw[<-GO.o];unfold goN;rw[if_neg (by rw[HX.o.1];exact HDN.o),if_pos h255]);have C3:Hid (StC w w5 zN (.s A5 n5 c5) h (h:Int) ([],[],4)):=Hx ((StC.none_ o5).mono J.o.ex);have D3:=Hx (J.o.rb.K o5.ex);clear o5;obtain⟨⟨d0,d1,d2,d3,d4,d5⟩,f0,f1,f2,f3,f4,f5⟩:=bC (D3.o);have B8:=Hx (dO (vI i1) (vI i2) (vI (dst:Int)) (vI i4) (.s A5 n5 c5) (vI (h:Int)) (D3.o));have F:Hid (StQ w i1 i2 (dst:Int) i4 h ([],[],4) (.returned (.tuple #[zN,.agg #[vI i1,vI i2,vI (dst:Int),vI i4,.s A5 n5 c5,vI (h:Int)],vI 4])) ((((((w5.setCell (aD (gp+1+1+1) 0) (vI i1)).setCell (aD (gp+1+1+1) 1) (vI i2)).setCell (aD (gp+1+1+1) 2) (vI (dst:Int))).setCell (aD (gp+1+1+1) 3) (vI i4)).setCell (aD (gp+1+1+1) 4) (.s A5 n5 c5)).setCell (aD (gp+1+1+1) 5) (vI (h:Int)))):=Hx (⟨_,_,_,rfl,(C3.o).sto (D3.o) B8.o.2 (by have:=HGP.o;omega)⟩);go_wp2;have⟨⟨r0,r1,r2,r3,r4,r5⟩,_⟩:=bC B8.o.1;clear B8;generalize ((((((w5.setCell (aD (gp+1+1+1) 0) (vI i1)).setCell (aD (gp+1+1+1) 1) (vI i2)).setCell (aD (gp+1+1+1) 2) (vI (dst:Int))).setCell (aD (gp+1+1+1) 3) (vI i4)).setCell (aD (gp+1+1+1) 4) (.s A5 n5 c5)).setCell (aD (gp+1+1+1) 5) (vI (h:Int)))=w8 at*;refine bodyPost_ret (v:=.tuple #[zN,.agg #[vI i1,vI i2,vI (dst:Int),vI i4,.s A5 n5 c5,vI (h:Int)],vI 4]) ?_ rfl (by have h:=F.o;rw[<-EO.o]at h;exact h);simp[results,Tryz.results88,go_sem,asAddr,Result.andThen,r0,r1,r2,r3,r4,r5]
  have hi5:¬(255:Int)<=(h:Int):=(by omega);have hi0:¬(h:Int)<0:=by omega
  go_wp2_with fail
  refine(NO.o _ dst hdst).mono ?_;rintro e w5 ⟨rfl,x5⟩;have J5:=Hx (J.o.K x5);have RC5:=Hx (fun W (hx:Ext w5 W)=>RC.o W (x5.tr hx));clear J RC x5;have J:=J5;have RC:=RC5;clear J5 RC5;generalize w5=wr at*;clear i0 i1_ i2_ x0 x1 x2 p0 p1 p2 p3 p4 p5;obtain⟨⟨i0,i1_,i2_⟩,_⟩:=J.o.tb.t3;obtain⟨⟨x0,x1,x2⟩,_⟩:=J.o.xb.t3;obtain⟨⟨p0,p1,p2,p3,p4,p5⟩,_⟩:=bC J.o.pb;obtain⟨en,hen⟩:=EAT.o dst (hdst);have ENM:=Hx hen;obtain⟨bE,oE,B,cB,P,cP,hEe,EC0,EC1,EC2⟩:=ECC.o dst en hen;subst hEe;have EC:=Hx (kQa EC0 (kQa EC1 EC2));obtain⟨w0_,w1_,w2_⟩:=EC0 wr J.o.ex;have mne:(dst:Int)<(ne:Int):=(by have:=HX.o.2.2.2.2.2;have:=(hdst);omega);clear EC0 EC1 EC2 hen;by_cases ha:en.arcs=[]
  ·have EO':cM t x dst h st=([],[],1):=by
    rw[<-GO.o];unfold goN;rw[if_neg (by rw[HX.o.1];exact HDN.o),if_neg h255,ENM.o];simp only;rw[if_pos ha]
   have EOH:=Hx EO';have hla:en.arcs.length=0:=(by rw[ha];rfl);rw[hla]at w0_;clear EO'
   go_wp2_with fail
   refine(DR.o 1 _ J.o.ex).mono ?_;rintro e w5 ⟨v5,rfl,o5⟩;obtain⟨A5,n5,c5,rfl⟩:∃A5 n5 c5,v5=.s A5 n5 c5:=(by obtain⟨A5,c5,e,_⟩:=oFA o5.own;exact⟨_,_,_,e⟩);have EO:=Hx (EOH.o);have C3:Hid (StC w w5 zN (.s A5 n5 c5) h (h:Int) ([],[],1)):=Hx ((StC.none_ o5).mono J.o.ex);have D3:=Hx (J.o.rb.K o5.ex);clear o5;obtain⟨⟨d0,d1,d2,d3,d4,d5⟩,f0,f1,f2,f3,f4,f5⟩:=bC (D3.o);have B8:=Hx (dO (vI i1) (vI i2) (vI (dst:Int)) (vI i4) (.s A5 n5 c5) (vI (h:Int)) (D3.o));have F:Hid (StQ w i1 i2 (dst:Int) i4 h ([],[],1) (.returned (.tuple #[zN,.agg #[vI i1,vI i2,vI (dst:Int),vI i4,.s A5 n5 c5,vI (h:Int)],vI 1])) ((((((w5.setCell (aD (gp+1+1+1) 0) (vI i1)).setCell (aD (gp+1+1+1) 1) (vI i2)).setCell (aD (gp+1+1+1) 2) (vI (dst:Int))).setCell (aD (gp+1+1+1) 3) (vI i4)).setCell (aD (gp+1+1+1) 4) (.s A5 n5 c5)).setCell (aD (gp+1+1+1) 5) (vI (h:Int)))):=Hx (⟨_,_,_,rfl,(C3.o).sto (D3.o) B8.o.2 (by have:=HGP.o;omega)⟩);go_wp2;have⟨⟨r0,r1,r2,r3,r4,r5⟩,_⟩:=bC B8.o.1;clear B8;generalize ((((((w5.setCell (aD (gp+1+1+1) 0) (vI i1)).setCell (aD (gp+1+1+1) 1) (vI i2)).setCell (aD (gp+1+1+1) 2) (vI (dst:Int))).setCell (aD (gp+1+1+1) 3) (vI i4)).setCell (aD (gp+1+1+1) 4) (.s A5 n5 c5)).setCell (aD (gp+1+1+1) 5) (vI (h:Int)))=w8 at*;refine bodyPost_ret (v:=.tuple #[zN,.agg #[vI i1,vI i2,vI (dst:Int),vI i4,.s A5 n5 c5,vI (h:Int)],vI 1]) ?_ rfl (by have h:=F.o;rw[<-EO.o]at h;exact h);simp[results,Tryz.results88,go_sem,asAddr,Result.andThen,r0,r1,r2,r3,r4,r5]
  have EO:=Hx (show cM t x dst h st=cQ en []from by
   rw[<-GO.o];unfold goN;rw[if_neg (by rw[HX.o.1];exact HDN.o),if_neg h255,ENM.o];simp only;rw[if_neg ha])
  have hla:(0:Int)<(en.arcs.length:Int):=(by have:=List.length_pos_iff.2 ha;omega);have KEEP:=Hx (show∀W,Ext wr W->W.cell? (aD (gp+1+1) 0)=some (vI i1)/\W.cell? (aD (gp+1+1) 1)=some (vI i2)/\W.cell? (aD (gp+1+1) 2)=some (vI (dst:Int))/\W.cell? (aD (gp+1+1) 3)=some (vI i4)/\W.cell? (aD (gp+1+1) 4)=some (.s A k c)/\W.cell? (aD (gp+1+1) 5)=some (vI (h:Int))/\W.cell? (aD (gp+1) 1)=some (.s (some (aD bE oE)) ne cE)/\W.cell? (aD bE (oE+dst*3))=some (.s B en.arcs.length cB)/\W.cell? (aD bE (oE+dst*3+1))=some (.bool en.rep)/\W.cell? (aD bE (oE+dst*3+2))=some (.s P en.push.length cP)from fun W hx=>by
   obtain⟨⟨p0,p1,p2,p3,p4,p5⟩,_⟩:=bC (J.o.pb.K hx);obtain⟨z0,z1,z2⟩:=EC.o.1 W (J.o.ex.tr hx);exact⟨p0,p1,p2,p3,p4,p5,(J.o.xb.K hx).cell 1,z0,z1,z2⟩)
  have XD:Hid (Ext wr wr.drew):=Hx ((eR wr).drewN 1);have HSW:=Hx (KEEP.o _ XD.o)
  go_upto_region 26 with fail
  clear i0 i1_ i2_ x0 x1 x2 p0 p1 p2 p3 p4 p5;refine wX KEEP 12 ?_;refine wV 0 rfl HSW.o ?_;try simp only[Act.put,yA,yB,yC,yD,yE,yF]
  refine wP 1 rfl HSW.o ?_;try simp only[Act.put,yA,yB,yC,yD,yE,yF]
  refine wP 2 rfl HSW.o ?_;try simp only[Act.put,yA,yB,yC,yD,yE,yF]
  refine wV 3 rfl HSW.o ?_;try simp only[Act.put,yA,yB,yC,yD,yE,yF]
  refine wP 4 rfl HSW.o ?_;try simp only[Act.put,yA,yB,yC,yD,yE,yF]
  refine wP 5 rfl HSW.o ?_;try simp only[Act.put,yA,yB,yC,yD,yE,yF]
  refine wV 6 rfl HSW.o ?_;try simp only[Act.put,yA,yB,yC,yD,yE,yF]
  refine wC 7 rfl (fun KK hK=>?_);go_simp;refine(EN.o _ dst en A2 0 c2 [] B cB P cP (J.o.ex.tr XD.o) ENM.o (EC.o.2.1.K (J.o.ex.tr XD.o)) (EC.o.2.2.K (J.o.ex.tr XD.o)) (RC.o _ XD.o)).mono ?_;rintro e w5 ⟨va,vs,h',rfl,S5⟩;obtain⟨A5,n5,c5,rfl⟩:=S5.sl;have C3:Hid (StC w w5 va (.s A5 n5 c5) h h' (cQ en [])):=Hx (S5.mono (J.o.ex.tr XD.o));have D3:=Hx (J.o.rb.K (XD.o.tr S5.ex));have HS2:=Hx (KEEP.o _ (XD.o.tr S5.ex));refine hK.o _ _ HS2.o ?_;clear hK KK HSW S5 J XD KEEP;have HSW:=HS2;clear HS2;try simp only[Act.put,yD,yE,yF]
  generalize cQ en []=O at*;obtain⟨O1,O2,O3⟩:=O;refine wP 8 rfl HSW.o ?_;try simp only[Act.put,yA,yB,yC,yD,yE,yF]
  refine wP 9 rfl HSW.o ?_;try simp only[Act.put,yA,yB,yC,yD,yE,yF]
  refine wP 10 rfl HSW.o ?_;try simp only[Act.put,yA,yB,yC,yD,yE,yF]
  refine wP 11 rfl HSW.o ?_;try simp only[Act.put,yA,yB,yC,yD,yE,yF]
  obtain⟨⟨d0,d1,d2,d3,d4,d5⟩,f0,f1,f2,f3,f4,f5⟩:=bC D3.o;refine aV (by kernel_rfl) rfl (by rfl) (fun KK hK=>?_);go_simp;refine hK.o _ _ ?_;clear hK KK;try simp only[Act.put,yD,yE,yF]
  refine dQ (i:=13) (by kernel_rfl) rfl (by rfl) (fun KK hK=>?_);go_simp;refine hK.o _ _ ?_;clear hK KK;refine wpAny_done (by kernel_rfl) ?_ _;have B8:=Hx (dO (vI i1) (vI i2) (vI (dst:Int)) (vI i4) (.s A5 n5 c5) (vI h') D3.o);have F:Hid (StQ w i1 i2 (dst:Int) i4 h (O1,O2,O3) (.returned (.tuple #[va,.agg #[vI i1,vI i2,vI (dst:Int),vI i4,.s A5 n5 c5,vI h'],vI O3])) ((((((w5.setCell (aD (gp+1+1+1) 0) (vI i1)).setCell (aD (gp+1+1+1) 1) (vI i2)).setCell (aD (gp+1+1+1) 2) (vI (dst:Int))).setCell (aD (gp+1+1+1) 3) (vI i4)).setCell (aD (gp+1+1+1) 4) (.s A5 n5 c5)).setCell (aD (gp+1+1+1) 5) (vI h'))):=Hx (⟨_,_,_,rfl,C3.o.sto D3.o B8.o.2 (by have:=HGP.o;omega)⟩);have⟨⟨r0,r1,r2,r3,r4,r5⟩,_⟩:=bC B8.o.1;clear B8 D3 C3 d0 d1 d2 d3 d4 d5 f0 f1 f2 f3 f4 f5;generalize ((((((w5.setCell (aD (gp+1+1+1) 0) (vI i1)).setCell (aD (gp+1+1+1) 1) (vI i2)).setCell (aD (gp+1+1+1) 2) (vI (dst:Int))).setCell (aD (gp+1+1+1) 3) (vI i4)).setCell (aD (gp+1+1+1) 4) (.s A5 n5 c5)).setCell (aD (gp+1+1+1) 5) (vI h'))=w8 at*;go_wp2;refine bodyPost_ret (v:=.tuple #[va,.agg #[vI i1,vI i2,vI (dst:Int),vI i4,.s A5 n5 c5,vI h'],vI O3]) ?_ rfl (by have h:=F.o;rw[<-EO.o]at h;exact h);simp[results,Tryz.results88,go_sem,asAddr,Result.andThen,r0,r1,r2,r3,r4,r5]
 |cons s r=>
  obtain⟨kk,m⟩:=s;obtain⟨bS,oS,rfl,hbS,cs0,cs1⟩:=I.o.1.some_;simp only at cs0 cs1;have hk3:r.length+1=k2:=(by simpa using hk2);subst hk3;have RC:Hid (∀W,Ext wr W->(bB W (some (aD bS oS)) ((kk,m)::r)/\((kk,m)::r).length=r.length+1/\r.length+1<=c2/\r.length+1<=1000)):=Hx (fun W hx=>⟨I.o.1.K hx,rfl,hkc2,by omega⟩);have GO:=Hx I.o.2.1;have SGM:=Hx (I.o.2.2.1 (kk,m) (by simp));have l0:(0:Int)<(r.length:Int)+1:=(by omega);clear I hbS hk2;obtain⟨⟨i0,i1_,i2_⟩,_⟩:=J.o.tb.t3;obtain⟨⟨x0,x1,x2⟩,_⟩:=J.o.xb.t3;obtain⟨⟨p0,p1,p2,p3,p4,p5⟩,_⟩:=bC J.o.pb;by_cases h255:255<=h
  ·have hi5:(255:Int)<=(h:Int):=by omega
   go_wp2_with fail
   refine(DR.o 4 _ J.o.ex).mono ?_;rintro e w5 ⟨v5,rfl,o5⟩;obtain⟨A5,n5,c5,rfl⟩:∃A5 n5 c5,v5=.s A5 n5 c5:=(by obtain⟨A5,c5,e,_⟩:=oFA o5.own;exact⟨_,_,_,e⟩);have EO:Hid (cM t x dst h st=([],[],4)):=Hx (by rw[<-GO.o];unfold goS;simp only;rw[if_pos h255]);have C3:Hid (StC w w5 zN (.s A5 n5 c5) h (h:Int) ([],[],4)):=Hx ((StC.none_ o5).mono J.o.ex);have D3:=Hx (J.o.rb.K o5.ex);clear o5;obtain⟨⟨d0,d1,d2,d3,d4,d5⟩,f0,f1,f2,f3,f4,f5⟩:=bC (D3.o);have B8:=Hx (dO (vI i1) (vI i2) (vI (dst:Int)) (vI i4) (.s A5 n5 c5) (vI (h:Int)) (D3.o));have F:Hid (StQ w i1 i2 (dst:Int) i4 h ([],[],4) (.returned (.tuple #[zN,.agg #[vI i1,vI i2,vI (dst:Int),vI i4,.s A5 n5 c5,vI (h:Int)],vI 4])) ((((((w5.setCell (aD (gp+1+1+1) 0) (vI i1)).setCell (aD (gp+1+1+1) 1) (vI i2)).setCell (aD (gp+1+1+1) 2) (vI (dst:Int))).setCell (aD (gp+1+1+1) 3) (vI i4)).setCell (aD (gp+1+1+1) 4) (.s A5 n5 c5)).setCell (aD (gp+1+1+1) 5) (vI (h:Int)))):=Hx (⟨_,_,_,rfl,(C3.o).sto (D3.o) B8.o.2 (by have:=HGP.o;omega)⟩);go_wp2;have⟨⟨r0,r1,r2,r3,r4,r5⟩,_⟩:=bC B8.o.1;clear B8;generalize ((((((w5.setCell (aD (gp+1+1+1) 0) (vI i1)).setCell (aD (gp+1+1+1) 1) (vI i2)).setCell (aD (gp+1+1+1) 2) (vI (dst:Int))).setCell (aD (gp+1+1+1) 3) (vI i4)).setCell (aD (gp+1+1+1) 4) (.s A5 n5 c5)).setCell (aD (gp+1+1+1) 5) (vI (h:Int)))=w8 at*;refine bodyPost_ret (v:=.tuple #[zN,.agg #[vI i1,vI i2,vI (dst:Int),vI i4,.s A5 n5 c5,vI (h:Int)],vI 4]) ?_ rfl (by have h:=F.o;rw[<-EO.o]at h;exact h);simp[results,Tryz.results88,go_sem,asAddr,Result.andThen,r0,r1,r2,r3,r4,r5]
  have hi5:¬(255:Int)<=(h:Int):=(by omega);have hi0:¬(h:Int)<0:=(by omega);rcases SGM.o with⟨hkk,hmN⟩|⟨hkk,hmL⟩
  ·simp only at hkk hmN
   subst hkk;have hmN2:m<N:=(by have:=HX.o.2.2.1;omega);clear hmN
   go_wp2_with fail
   refine(NO.o _ m hmN2).mono ?_;rintro e w5 ⟨rfl,x5⟩;have J5:=Hx (J.o.K x5);have RC5:=Hx (fun W (hx:Ext w5 W)=>RC.o W (x5.tr hx));clear J RC x5 cs0 cs1;have J:=J5;have RC:=RC5;clear J5 RC5;generalize w5=wr at*;clear i0 i1_ i2_ x0 x1 x2 p0 p1 p2 p3 p4 p5;obtain⟨⟨i0,i1_,i2_⟩,_⟩:=J.o.tb.t3;obtain⟨⟨x0,x1,x2⟩,_⟩:=J.o.xb.t3;obtain⟨⟨p0,p1,p2,p3,p4,p5⟩,_⟩:=bC J.o.pb;obtain⟨en,hen⟩:=EAT.o m (hmN2);have ENM:=Hx hen;obtain⟨bE,oE,B,cB,P,cP,hEe,EC0,EC1,EC2⟩:=ECC.o m en hen;subst hEe;have EC:=Hx (kQa EC0 (kQa EC1 EC2));obtain⟨w0_,w1_,w2_⟩:=EC0 wr J.o.ex;have mne:(m:Int)<(ne:Int):=(by have:=HX.o.2.2.2.2.2;have:=(hmN2);omega);clear EC0 EC1 EC2 hen;by_cases ha:en.arcs=[]
   ·have GN:=Hx (show goN x dst h=cM t x dst h st from by
     rw[<-GO.o]
     conv=>rhs;unfold goS
     simp only;rw[if_neg h255,if_neg (by decide),ENM.o];simp only;rw[if_pos ha])
    have hla:en.arcs.length=0:=(by rw[ha];rfl);rw[hla]at w0_;go_wp2
    go_roundg 0
    case measure=>omega
    exact⟨none,0,0,[],rfl,rfl,rfl,yX _,by omega,Hx ⟨⟨RdT.nil _ _ _,.inl ⟨rfl,rfl⟩⟩,GN.o,(fun _ h=>by cases h),J.o⟩⟩
   have EO:=Hx (show cM t x dst h st=cQ en ((1,m)::r)from by
    rw[<-GO.o]
    conv=>lhs;unfold goS
    simp only;rw[if_neg h255,if_neg (by decide),ENM.o];simp only;rw[if_neg ha])
   have hla:(0:Int)<(en.arcs.length:Int):=(by have:=List.length_pos_iff.2 ha;omega);have KEEP:=Hx (show∀W,Ext wr W->W.cell? (aD (gp+1+1) 0)=some (vI i1)/\W.cell? (aD (gp+1+1) 1)=some (vI i2)/\W.cell? (aD (gp+1+1) 2)=some (vI (dst:Int))/\W.cell? (aD (gp+1+1) 3)=some (vI i4)/\W.cell? (aD (gp+1+1) 4)=some (.s A k c)/\W.cell? (aD (gp+1+1) 5)=some (vI (h:Int))/\W.cell? (aD (gp+1) 1)=some (.s (some (aD bE oE)) ne cE)/\W.cell? (aD bE (oE+m*3))=some (.s B en.arcs.length cB)/\W.cell? (aD bE (oE+m*3+1))=some (.bool en.rep)/\W.cell? (aD bE (oE+m*3+2))=some (.s P en.push.length cP)from fun W hx=>by
    obtain⟨⟨p0,p1,p2,p3,p4,p5⟩,_⟩:=bC (J.o.pb.K hx);obtain⟨z0,z1,z2⟩:=EC.o.1 W (J.o.ex.tr hx);exact⟨p0,p1,p2,p3,p4,p5,(J.o.xb.K hx).cell 1,z0,z1,z2⟩)
   have XD:Hid (Ext wr wr.drew):=Hx ((eR wr).drewN 1);have HSW:=Hx (KEEP.o _ XD.o)
   go_upto_region 26 with fail
   clear i0 i1_ i2_ x0 x1 x2 p0 p1 p2 p3 p4 p5;refine wX KEEP 12 ?_;refine wV 0 rfl HSW.o ?_;try simp only[Act.put,yA,yB,yC,yD,yE,yF]
   refine wP 1 rfl HSW.o ?_;try simp only[Act.put,yA,yB,yC,yD,yE,yF]
   refine wP 2 rfl HSW.o ?_;try simp only[Act.put,yA,yB,yC,yD,yE,yF]
   refine wV 3 rfl HSW.o ?_;try simp only[Act.put,yA,yB,yC,yD,yE,yF]
   refine wP 4 rfl HSW.o ?_;try simp only[Act.put,yA,yB,yC,yD,yE,yF]
   refine wP 5 rfl HSW.o ?_;try simp only[Act.put,yA,yB,yC,yD,yE,yF]
   refine wV 6 rfl HSW.o ?_;try simp only[Act.put,yA,yB,yC,yD,yE,yF]
   refine wC 7 rfl (fun KK hK=>?_);go_simp;refine(EN.o _ m en (some (aD bS oS)) (r.length+1) c2 ((1,m)::r) B cB P cP (J.o.ex.tr XD.o) ENM.o (EC.o.2.1.K (J.o.ex.tr XD.o)) (EC.o.2.2.K (J.o.ex.tr XD.o)) (RC.o _ XD.o)).mono ?_;rintro e w5 ⟨va,vs,h',rfl,S5⟩;obtain⟨A5,n5,c5,rfl⟩:=S5.sl;have C3:Hid (StC w w5 va (.s A5 n5 c5) h h' (cQ en ((1,m)::r))):=Hx (S5.mono (J.o.ex.tr XD.o));have D3:=Hx (J.o.rb.K (XD.o.tr S5.ex));have HS2:=Hx (KEEP.o _ (XD.o.tr S5.ex));refine hK.o _ _ HS2.o ?_;clear hK KK HSW S5 J XD KEEP;have HSW:=HS2;clear HS2;try simp only[Act.put,yD,yE,yF]
   generalize cQ en ((1,m)::r)=O at*;obtain⟨O1,O2,O3⟩:=O;refine wP 8 rfl HSW.o ?_;try simp only[Act.put,yA,yB,yC,yD,yE,yF]
   refine wP 9 rfl HSW.o ?_;try simp only[Act.put,yA,yB,yC,yD,yE,yF]
   refine wP 10 rfl HSW.o ?_;try simp only[Act.put,yA,yB,yC,yD,yE,yF]
   refine wP 11 rfl HSW.o ?_;try simp only[Act.put,yA,yB,yC,yD,yE,yF]
   obtain⟨⟨d0,d1,d2,d3,d4,d5⟩,f0,f1,f2,f3,f4,f5⟩:=bC D3.o;refine aV (by kernel_rfl) rfl (by rfl) (fun KK hK=>?_);go_simp;refine hK.o _ _ ?_;clear hK KK;try simp only[Act.put,yD,yE,yF]
   refine dQ (i:=13) (by kernel_rfl) rfl (by rfl) (fun KK hK=>?_);go_simp;refine hK.o _ _ ?_;clear hK KK;refine wpAny_done (by kernel_rfl) ?_ _;have B8:=Hx (dO (vI i1) (vI i2) (vI (dst:Int)) (vI i4) (.s A5 n5 c5) (vI h') D3.o);have F:Hid (StQ w i1 i2 (dst:Int) i4 h (O1,O2,O3) (.returned (.tuple #[va,.agg #[vI i1,vI i2,vI (dst:Int),vI i4,.s A5 n5 c5,vI h'],vI O3])) ((((((w5.setCell (aD (gp+1+1+1) 0) (vI i1)).setCell (aD (gp+1+1+1) 1) (vI i2)).setCell (aD (gp+1+1+1) 2) (vI (dst:Int))).setCell (aD (gp+1+1+1) 3) (vI i4)).setCell (aD (gp+1+1+1) 4) (.s A5 n5 c5)).setCell (aD (gp+1+1+1) 5) (vI h'))):=Hx (⟨_,_,_,rfl,C3.o.sto D3.o B8.o.2 (by have:=HGP.o;omega)⟩);have⟨⟨r0,r1,r2,r3,r4,r5⟩,_⟩:=bC B8.o.1;clear B8 D3 C3 d0 d1 d2 d3 d4 d5 f0 f1 f2 f3 f4 f5;generalize ((((((w5.setCell (aD (gp+1+1+1) 0) (vI i1)).setCell (aD (gp+1+1+1) 1) (vI i2)).setCell (aD (gp+1+1+1) 2) (vI (dst:Int))).setCell (aD (gp+1+1+1) 3) (vI i4)).setCell (aD (gp+1+1+1) 4) (.s A5 n5 c5)).setCell (aD (gp+1+1+1) 5) (vI h'))=w8 at*;go_wp2;refine bodyPost_ret (v:=.tuple #[va,.agg #[vI i1,vI i2,vI (dst:Int),vI i4,.s A5 n5 c5,vI h'],vI O3]) ?_ rfl (by have h:=F.o;rw[<-EO.o]at h;exact h);simp[results,Tryz.results88,go_sem,asAddr,Result.andThen,r0,r1,r2,r3,r4,r5]
  simp only at hkk hmL;subst hkk;have ACm:=Hx (fun xx:XW wr=>AC.o xx.val m (J.o.ex.tr xx.ext) hmL);have TAm:=Hx (fun xx:XW wr=>TA.o xx.val m (J.o.ex.tr xx.ext) hmL);obtain⟨tm,htm⟩:∃tm,tm=tlN t m:=⟨_,rfl⟩;simp only[<-htm]at TAm;have HTM:=Hx htm;have z0:=xc i0;have z1:=xc i1_;have z2:=xc i2_;have z3:=xc x0;clear htm;by_cases htn:tm=n
  ·have hn1:((tm:Int) !=(n:Int))=false:=by rw[htn];simp
   have HTN:=Hx htn;clear htn
   go_upto_region 20 with fail
   refine bH (by kernel_rfl) (by kernel_rfl) ?_
   repeat (go_big_quiet_step (first|(go_at_call 85;exact Calls.ext_of (ACm.o _))|(go_at_call 52;exact Calls.ext_of (TAm.o _))))
   refine wpQuiet_nil ?_;rintro _ ⟨xx,rfl⟩;have J5:=Hx (J.o.K xx.ext);have RC5:=Hx (fun W (hx:Ext xx.val W)=>RC.o W (xx.ext.tr hx));clear J RC cs0 cs1 z0 z1 z2 z3 ACm TAm i0 i1_ i2_ x0 x1 x2 p0 p1 p2 p3 p4 p5;have J:=J5;have RC:=RC5;clear J5 RC5;generalize xx.val=wr at*;obtain⟨⟨x0,x1,x2⟩,_⟩:=J.o.xb.t3
   go_wp2_with fail
   refine(CT.o _ m J.o.ex).mono ?_;rintro e w5 ⟨rfl,x5⟩;have J5:=Hx (J.o.K x5);have RC5:=Hx (fun W (hx:Ext w5 W)=>RC.o W (x5.tr hx));clear J RC x5 x0 x1 x2;have J:=J5;have RC:=RC5;clear J5 RC5;generalize w5=wr at*;generalize hcd:decide (m∈x.down)=bd;have HCD:=Hx hcd;clear hcd;cases bd
   case true=>
    have GN:=Hx (show goN x dst h=cM t x dst h st from by
     rw[<-GO.o]
     conv=>rhs;unfold goS
     simp only;rw[if_neg h255,if_pos trivial,if_neg (by rw[<-HTM.o,HTN.o,HX.o.1];simp),if_pos (of_decide_eq_true HCD.o)])
    go_wp2
    go_roundg 0
    case measure=>omega
    exact⟨none,0,0,[],rfl,rfl,rfl,yX _,by omega,Hx ⟨⟨RdT.nil _ _ _,.inl ⟨rfl,rfl⟩⟩,GN.o,(fun _ h=>by cases h),J.o⟩⟩
   have EO:=Hx (show cM t x dst h st=([m],r,0)from by
    rw[<-GO.o]
    conv=>lhs;unfold goS
    simp only;rw[if_neg h255,if_pos trivial,if_neg (by rw[<-HTM.o,HTN.o,HX.o.1];simp),if_neg (of_decide_eq_false HCD.o)])
   have KEEP:Hid (∀W,Ext wr W->W.cell? (aD (gp+1+1) 0)=some (vI i1)/\W.cell? (aD (gp+1+1) 1)=some (vI i2)/\W.cell? (aD (gp+1+1) 2)=some (vI (dst:Int))/\W.cell? (aD (gp+1+1) 3)=some (vI i4)/\W.cell? (aD (gp+1+1) 4)=some (.s A k c)/\W.cell? (aD (gp+1+1) 5)=some (vI (h:Int))):=Hx (fun W hx=>(bC (J.o.pb.K hx)).1);have XD:Hid (Ext wr wr.drew):=Hx ((eR wr).drewN 1);have HSW:=Hx (KEEP.o _ XD.o);have c4:((r.length+1:Nat):Int)<=(c2:Int):=(by omega);have l1:(1:Int)<=(r.length:Int)+1:=(by omega);have l2:(1:Int)<=(c2:Int):=by omega
   go_upto_region 24 with fail
   by_cases hc1:c2=1
   ·subst hc1
    have hr0:r.length=0:=(by omega);have RR:Hid (∀W,Ext wr W->bB W (some (aD bS oS)) r/\r.length=0):=Hx (fun W hx=>⟨(RC.o W hx).1.tl0 (kQz hr0),hr0⟩);rw[hr0];clear l1 c4 l0 hk32 hkc2;have l1:(1:Int)<=0+1:=(by omega);refine wX KEEP 10 ?_;generalize wr.drew=wd at*;refine wV 0 rfl HSW.o ?_;try simp only[Act.put,yA,yB,yC,yD,yE,yF]
    refine wP 1 rfl HSW.o ?_;try simp only[Act.put,yA,yB,yC,yD,yE,yF]
    refine wP 2 rfl HSW.o ?_;try simp only[Act.put,yA,yB,yC,yD,yE,yF]
    refine wP 3 rfl HSW.o ?_;try simp only[Act.put,yA,yB,yC,yD,yE,yF]
    refine wC 4 rfl (fun KK hK=>?_);go_simp;have X5:Hid (Ext wr (wd.alloc (.cells #[vI (m:Int)] 3))):=Hx (XD.o.alloc _);have BW:=Hx (eN wd 3 #[vI (m:Int)]);refine hK.o _ _ (KEEP.o _ X5.o) ?_;clear hK KK HSW;have HSW:=Hx (KEEP.o _ X5.o);generalize wd.alloc (.cells #[vI (m:Int)] 3)=we at*;generalize wd.heap.size=gb at*;try simp only[Act.put,yD,yE,yF]
    refine wC 5 rfl (fun KK hK=>?_);go_simp;refine(LV.o _ (some (aD bS oS)) 0 0 r gb m (J.o.ex.tr X5.o) (RR.o _ X5.o).1 (RR.o _ X5.o).2 (by omega) BW.o).mono ?_;rintro e w5 ⟨va,vs,h',rfl,S5⟩;obtain⟨A5,n5,c5,rfl⟩:=S5.sl;have C3:Hid (StC w w5 va (.s A5 n5 c5) h h' ([m],r,0)):=Hx (S5.mono (J.o.ex.tr X5.o));have D3:=Hx (J.o.rb.K (X5.o.tr S5.ex));have HS2:=Hx (KEEP.o _ (X5.o.tr S5.ex));refine hK.o _ _ HS2.o ?_;clear hK KK HSW S5 J X5 BW KEEP;have HSW:=HS2;clear HS2;try simp only[Act.put,yD,yE,yF]
    refine wP 6 rfl HSW.o ?_;try simp only[Act.put,yA,yB,yC,yD,yE,yF]
    refine wP 7 rfl HSW.o ?_;try simp only[Act.put,yA,yB,yC,yD,yE,yF]
    refine wP 8 rfl HSW.o ?_;try simp only[Act.put,yA,yB,yC,yD,yE,yF]
    refine wP 9 rfl HSW.o ?_;try simp only[Act.put,yA,yB,yC,yD,yE,yF]
    obtain⟨⟨d0,d1,d2,d3,d4,d5⟩,f0,f1,f2,f3,f4,f5⟩:=bC D3.o;refine aV (by kernel_rfl) rfl (by rfl) (fun KK hK=>?_);go_simp;refine hK.o _ _ ?_;clear hK KK;try simp only[Act.put,yD,yE,yF]
    refine dQ (i:=11) (by kernel_rfl) rfl (by rfl) (fun KK hK=>?_);go_simp;refine hK.o _ _ ?_;clear hK KK;refine wpAny_done (by kernel_rfl) ?_ _;have B8:=Hx (dO (vI i1) (vI i2) (vI (dst:Int)) (vI i4) (.s A5 n5 c5) (vI h') D3.o);have F:Hid (StQ w i1 i2 (dst:Int) i4 h ([m],r,0) (.returned (.tuple #[va,.agg #[vI i1,vI i2,vI (dst:Int),vI i4,.s A5 n5 c5,vI h'],vI 0])) ((((((w5.setCell (aD (gp+1+1+1) 0) (vI i1)).setCell (aD (gp+1+1+1) 1) (vI i2)).setCell (aD (gp+1+1+1) 2) (vI (dst:Int))).setCell (aD (gp+1+1+1) 3) (vI i4)).setCell (aD (gp+1+1+1) 4) (.s A5 n5 c5)).setCell (aD (gp+1+1+1) 5) (vI h'))):=Hx (⟨_,_,_,rfl,C3.o.sto D3.o B8.o.2 (by have:=HGP.o;omega)⟩);have⟨⟨r0,r1,r2,r3,r4,r5⟩,_⟩:=bC B8.o.1;clear B8 D3 C3 d0 d1 d2 d3 d4 d5 f0 f1 f2 f3 f4 f5;generalize ((((((w5.setCell (aD (gp+1+1+1) 0) (vI i1)).setCell (aD (gp+1+1+1) 1) (vI i2)).setCell (aD (gp+1+1+1) 2) (vI (dst:Int))).setCell (aD (gp+1+1+1) 3) (vI i4)).setCell (aD (gp+1+1+1) 4) (.s A5 n5 c5)).setCell (aD (gp+1+1+1) 5) (vI h'))=w8 at*;go_wp2;refine bodyPost_ret (v:=.tuple #[va,.agg #[vI i1,vI i2,vI (dst:Int),vI i4,.s A5 n5 c5,vI h'],vI 0]) ?_ rfl (by have h:=F.o;rw[<-EO.o]at h;exact h);simp[results,Tryz.results88,go_sem,asAddr,Result.andThen,r0,r1,r2,r3,r4,r5]
   have RR:Hid (∀W,Ext wr W->bB W (some (aD bS (oS+2))) r/\r.length=r.length):=Hx (fun W hx=>⟨(RC.o W hx).1.tl,rfl⟩);have c5:¬(c2:Int)-1=0:=(by omega);refine wX KEEP 10 ?_;generalize wr.drew=wd at*;refine wV 0 rfl HSW.o ?_;try simp only[Act.put,yA,yB,yC,yD,yE,yF]
   refine wP 1 rfl HSW.o ?_;try simp only[Act.put,yA,yB,yC,yD,yE,yF]
   refine wP 2 rfl HSW.o ?_;try simp only[Act.put,yA,yB,yC,yD,yE,yF]
   refine wP 3 rfl HSW.o ?_;try simp only[Act.put,yA,yB,yC,yD,yE,yF]
   refine wC 4 rfl (fun KK hK=>?_);go_simp;have X5:Hid (Ext wr (wd.alloc (.cells #[vI (m:Int)] 3))):=Hx (XD.o.alloc _);have BW:=Hx (eN wd 3 #[vI (m:Int)]);refine hK.o _ _ (KEEP.o _ X5.o) ?_;clear hK KK HSW;have HSW:=Hx (KEEP.o _ X5.o);generalize wd.alloc (.cells #[vI (m:Int)] 3)=we at*;generalize wd.heap.size=gb at*;try simp only[Act.put,yD,yE,yF]
   refine wC 5 rfl (fun KK hK=>?_);go_simp;refine(LV.o _ (some (aD bS (oS+2))) r.length (c2-1) r gb m (J.o.ex.tr X5.o) (RR.o _ X5.o).1 (RR.o _ X5.o).2 (by omega) BW.o).mono ?_;rintro e w5 ⟨va,vs,h',rfl,S5⟩;obtain⟨A5,n5,c5,rfl⟩:=S5.sl;have C3:Hid (StC w w5 va (.s A5 n5 c5) h h' ([m],r,0)):=Hx (S5.mono (J.o.ex.tr X5.o));have D3:=Hx (J.o.rb.K (X5.o.tr S5.ex));have HS2:=Hx (KEEP.o _ (X5.o.tr S5.ex));refine hK.o _ _ HS2.o ?_;clear hK KK HSW S5 J X5 BW KEEP;have HSW:=HS2;clear HS2;try simp only[Act.put,yD,yE,yF]
   refine wP 6 rfl HSW.o ?_;try simp only[Act.put,yA,yB,yC,yD,yE,yF]
   refine wP 7 rfl HSW.o ?_;try simp only[Act.put,yA,yB,yC,yD,yE,yF]
   refine wP 8 rfl HSW.o ?_;try simp only[Act.put,yA,yB,yC,yD,yE,yF]
   refine wP 9 rfl HSW.o ?_;try simp only[Act.put,yA,yB,yC,yD,yE,yF]
   obtain⟨⟨d0,d1,d2,d3,d4,d5⟩,f0,f1,f2,f3,f4,f5⟩:=bC D3.o;refine aV (by kernel_rfl) rfl (by rfl) (fun KK hK=>?_);go_simp;refine hK.o _ _ ?_;clear hK KK;try simp only[Act.put,yD,yE,yF]
   refine dQ (i:=11) (by kernel_rfl) rfl (by rfl) (fun KK hK=>?_);go_simp;refine hK.o _ _ ?_;clear hK KK;refine wpAny_done (by kernel_rfl) ?_ _;have B8:=Hx (dO (vI i1) (vI i2) (vI (dst:Int)) (vI i4) (.s A5 n5 c5) (vI h') D3.o);have F:Hid (StQ w i1 i2 (dst:Int) i4 h ([m],r,0) (.returned (.tuple #[va,.agg #[vI i1,vI i2,vI (dst:Int),vI i4,.s A5 n5 c5,vI h'],vI 0])) ((((((w5.setCell (aD (gp+1+1+1) 0) (vI i1)).setCell (aD (gp+1+1+1) 1) (vI i2)).setCell (aD (gp+1+1+1) 2) (vI (dst:Int))).setCell (aD (gp+1+1+1) 3) (vI i4)).setCell (aD (gp+1+1+1) 4) (.s A5 n5 c5)).setCell (aD (gp+1+1+1) 5) (vI h'))):=Hx (⟨_,_,_,rfl,C3.o.sto D3.o B8.o.2 (by have:=HGP.o;omega)⟩);have⟨⟨r0,r1,r2,r3,r4,r5⟩,_⟩:=bC B8.o.1;clear B8 D3 C3 d0 d1 d2 d3 d4 d5 f0 f1 f2 f3 f4 f5;generalize ((((((w5.setCell (aD (gp+1+1+1) 0) (vI i1)).setCell (aD (gp+1+1+1) 1) (vI i2)).setCell (aD (gp+1+1+1) 2) (vI (dst:Int))).setCell (aD (gp+1+1+1) 3) (vI i4)).setCell (aD (gp+1+1+1) 4) (.s A5 n5 c5)).setCell (aD (gp+1+1+1) 5) (vI h'))=w8 at*;go_wp2;refine bodyPost_ret (v:=.tuple #[va,.agg #[vI i1,vI i2,vI (dst:Int),vI i4,.s A5 n5 c5,vI h'],vI 0]) ?_ rfl (by have h:=F.o;rw[<-EO.o]at h;exact h);simp[results,Tryz.results88,go_sem,asAddr,Result.andThen,r0,r1,r2,r3,r4,r5]
  have hn1:((tm:Int) !=(n:Int))=true:=(by simp;omega);have HTN:=Hx htn;clear htn
  go_upto_region 20 with fail
  refine bH (by kernel_rfl) (by kernel_rfl) ?_
  repeat (go_big_quiet_step (first|(go_at_call 85;exact Calls.ext_of (ACm.o _))|(go_at_call 52;exact Calls.ext_of (TAm.o _))))
  refine wpQuiet_nil ?_;rintro _ ⟨xx,rfl⟩;have J5:=Hx (J.o.K xx.ext);clear J RC cs0 cs1 z0 z1 z2 z3 ACm TAm i0 i1_ i2_ x0 x1 x2 p0 p1 p2 p3 p4 p5;have J:=J5;clear J5;generalize xx.val=wr at*;obtain⟨⟨p0,p1,p2,p3,p4,p5⟩,_⟩:=bC J.o.pb
  go_wp2_with fail
  refine(DR.o 2 _ J.o.ex).mono ?_;rintro e w5 ⟨v5,rfl,o5⟩;obtain⟨A5,n5,c5,rfl⟩:∃A5 n5 c5,v5=.s A5 n5 c5:=(by obtain⟨A5,c5,e,_⟩:=oFA o5.own;exact⟨_,_,_,e⟩);have EO:Hid (cM t x dst h st=([],[],2)):=Hx (by rw[<-GO.o];unfold goS;simp only;rw[if_neg h255,if_pos trivial,if_pos (by rw[<-HTM.o,HX.o.1];exact HTN.o)]);have C3:Hid (StC w w5 zN (.s A5 n5 c5) h (h:Int) ([],[],2)):=Hx ((StC.none_ o5).mono J.o.ex);have D3:=Hx (J.o.rb.K o5.ex);clear o5;obtain⟨⟨d0,d1,d2,d3,d4,d5⟩,f0,f1,f2,f3,f4,f5⟩:=bC (D3.o);have B8:=Hx (dO (vI i1) (vI i2) (vI (dst:Int)) (vI i4) (.s A5 n5 c5) (vI (h:Int)) (D3.o));have F:Hid (StQ w i1 i2 (dst:Int) i4 h ([],[],2) (.returned (.tuple #[zN,.agg #[vI i1,vI i2,vI (dst:Int),vI i4,.s A5 n5 c5,vI (h:Int)],vI 2])) ((((((w5.setCell (aD (gp+1+1+1) 0) (vI i1)).setCell (aD (gp+1+1+1) 1) (vI i2)).setCell (aD (gp+1+1+1) 2) (vI (dst:Int))).setCell (aD (gp+1+1+1) 3) (vI i4)).setCell (aD (gp+1+1+1) 4) (.s A5 n5 c5)).setCell (aD (gp+1+1+1) 5) (vI (h:Int)))):=Hx (⟨_,_,_,rfl,(C3.o).sto (D3.o) B8.o.2 (by have:=HGP.o;omega)⟩);go_wp2;have⟨⟨r0,r1,r2,r3,r4,r5⟩,_⟩:=bC B8.o.1;clear B8;generalize ((((((w5.setCell (aD (gp+1+1+1) 0) (vI i1)).setCell (aD (gp+1+1+1) 1) (vI i2)).setCell (aD (gp+1+1+1) 2) (vI (dst:Int))).setCell (aD (gp+1+1+1) 3) (vI i4)).setCell (aD (gp+1+1+1) 4) (.s A5 n5 c5)).setCell (aD (gp+1+1+1) 5) (vI (h:Int)))=w8 at*;refine bodyPost_ret (v:=.tuple #[zN,.agg #[vI i1,vI i2,vI (dst:Int),vI i4,.s A5 n5 c5,vI (h:Int)],vI 2]) ?_ rfl (by have h:=F.o;rw[<-EO.o]at h;exact h);simp[results,Tryz.results88,go_sem,asAddr,Result.andThen,r0,r1,r2,r3,r4,r5]
end Fo
namespace Fo
section
variable (t:Tp) (kd nm:Int) (n:Nat)
def eA(j:Nat):List Bool:=(List.range (2*t.links.length)).map fun a=>decide (a∈(aE t n).take j)&&ofB t kd nm a
def dnL(j:Nat):LN:=((aE t n).take j).filter (ofB t kd nm)
end
section
variable {t:Tp} {kd nm:Int} {n:Nat}
theorem jzki(j:Nat):(eA t kd nm n j).length=2*t.links.length:=by unfold eA;simp
theorem jzkj:eA t kd nm n 0=List.replicate (2*t.links.length) false:=by
 unfold eA;rw[List.take_zero];apply uK;intro i;rw[yW,xB];by_cases h:i<2*t.links.length;{rw[xJ h,if_pos h];simp};rw[if_neg h,yI (by simpa using h)];rfl
theorem tG{l:LN}{j a x:Nat}(h:l[j]?=some a):x∈l.take (j+1)↔x∈l.take j\/x=a:=by
 rw[kQr,h];simp
theorem jzkk{j a:Nat}(h:(aE t n)[j]?=some a)(ha:a<2*t.links.length)(ho:ofB t kd nm a=true):eA t kd nm n (j+1)=(eA t kd nm n j).set a true:=by
 unfold eA;apply uK;intro i;rw[kZs,yW,yW,xV,kZm];by_cases hi:i<2*t.links.length;{rw[xJ hi];by_cases e:a=i;{subst e;rw[if_pos rfl,if_pos ha];show some (decide (a∈(aE t n).take (j+1))&&ofB t kd nm a)=some true;rw[ho,yO ((tG h).2 (.inr rfl))];rfl};rw[if_neg e];show some (decide (i∈(aE t n).take (j+1))&&ofB t kd nm i)=some (decide (i∈(aE t n).take j)&&ofB t kd nm i);have h1:(i∈(aE t n).take (j+1))↔(i∈(aE t n).take j):=(tG h).trans ⟨fun h=>h.resolve_right fun h=>e h.symm,.inl⟩;rw[decide_eq_decide.2 h1]};rw[if_neg (by omega),yI (by simpa using hi)];rfl
theorem jzkl{j a:Nat}(h:(aE t n)[j]?=some a)(ho:ofB t kd nm a=false):eA t kd nm n (j+1)=eA t kd nm n j:=by
 unfold eA;refine List.map_congr_left fun i _=>?_;by_cases e:i=a;{subst e;rw[ho,Bool.and_false,Bool.and_false]};have h1:(i∈(aE t n).take (j+1))↔(i∈(aE t n).take j):=(tG h).trans ⟨fun h=>h.resolve_right e,.inl⟩;rw[decide_eq_decide.2 h1]
theorem jzkm{j a:Nat}(h:(aE t n)[j]?=some a)(ho:ofB t kd nm a=true):dnL t kd nm n (j+1)=dnL t kd nm n j++[a]:=by
 unfold dnL;rw[kQr,h,List.filter_append];simp[ho]
theorem jzkn{j a:Nat}(h:(aE t n)[j]?=some a)(ho:ofB t kd nm a=false):dnL t kd nm n (j+1)=dnL t kd nm n j:=by
 unfold dnL;rw[kQr,h,List.filter_append];simp[ho]
theorem jzko(hv:aA t=true){j:Nat}(hj:(aE t n).length<=j):eA t kd nm n j=bQ t kd nm n:=by
 unfold eA bQ;rw[yU hj];refine List.map_congr_left fun a ha=>?_;have qa:a<2*t.links.length:=vX.1 ha;unfold fF;have h1:(a∈aE t n)↔tlN t a=n:=(iI hv a n).trans ⟨fun h=>h.2,fun h=>⟨qa,h⟩⟩;rw[decide_eq_decide.2 h1,Bool.and_comm]
theorem jzkp(hv:aA t=true){j:Nat}(hj:(aE t n).length<=j):dnL t kd nm n j=dV t kd nm n:=by
 unfold dnL dV;rw[yU hj];unfold aE bV;rw[List.filter_filter];refine List.filter_congr fun a ha=>?_;have qa:a<2*t.links.length:=vX.1 ha;unfold fF;have h1:=iI hv a n;unfold aE bV at h1;rw[List.mem_filter,vX]at h1;have h2:(aX t a==(n:Int))=decide (tlN t a=n):=(by by_cases e:tlN t a=n;{rw[yO e];exact(h1.2 ⟨qa,e⟩).2};rw[yP e];cases hc:aX t a==(n:Int);{rfl};exact absurd (h1.1 ⟨qa,hc⟩).2 e);rw[h2]
theorem jzkq{a:Nat}(ha:a<2*t.links.length):(mkL t kd nm)[a]?=some (ofB t kd nm a):=by
 unfold mkL;rw[yW,xJ ha];rfl
theorem oY:(bQ t kd nm n).length=2*t.links.length:=by unfold bQ;simp
end
def TaP(w:World)(x:Tb)(e:Ending)(w':World):Prop:=∃E cE D cD,e=.returned (.tuple #[.agg #[vI (x.node:Int),.s E x.es.length cE,.s D x.down.length cD],vI 0])/\TbC w' [vI (x.node:Int),.s E x.es.length cE,.s D x.down.length cD] x/\Ext w w'
structure RtI(w w7 wx:World)(t:Tp)(AO:OA)(co:Nat)(AL:OA)(cl:Nat)(kd nm:Int)(n gt gm gx gd:Nat)(V:Value)(j jd:Nat):Prop where
 ex:Ext w wx
 tb:Blk wx gt 25 #[vI t.nodes,.s AO t.over.length co,.s AL t.links.length cl]
 zb:Blk wx (gt+1+1) 60 #[vI 0,zN,zN]
 mb:Blk wx gm 4 (aG (mkL t kd nm)).toArray
 xb:Blk wx gx 60 #[vI (n:Int),zN,V]
 db:Blk wx gd 4 (aG (eA t kd nm n jd)).toArray
 dn:wx.ownsRow w7.heap.size 3 1 V (dnL t kd nm n j).length (ints (dnL t kd nm n j))
 fr:FrS (fun b=>b=gx\/b=gd\/w7.heap.size<=b) w7 wx
 nm_:gm≠gd
 lx:w.heap.size<=gx
 ld:w.heap.size<=gd
 zx:gt+1+1≠gx
 lz:gx<w7.heap.size/\gd<w7.heap.size/\w.heap.size<=w7.heap.size
section
variable {w w7 wx wy:World} {t:Tp} {AO:Option Addr} {co:Nat} {AL:Option Addr} {cl:Nat} {kd nm:Int} {n gt gm gx gd:Nat} {V:Value} {j jd a:Nat}
theorem RtI.K(h:RtI w w7 wx t AO co AL cl kd nm n gt gm gx gd V j jd)(hx:Ext wx wy):RtI w w7 wy t AO co AL cl kd nm n gt gm gx gd V j jd:=
 ⟨h.ex.tr hx,h.tb.K hx,h.zb.K hx,h.mb.K hx,h.xb.K hx,h.db.K hx,dB h.dn hx,h.fr.tr (eE (S:=fun b=>b=gx\/b=gd\/w7.heap.size<=b) hx) fun b hb=>.inl hb,h.nm_,h.lx,h.ld,h.zx,h.lz⟩
theorem RtI.set1(h:RtI w w7 wx t AO co AL cl kd nm n gt gm gx gd V j jd)(h1:(aE t n)[jd]?=some a)(ha:a<2*t.links.length)(ho:ofB t kd nm a=true):RtI w w7 (wx.setCell (aD gd a) (.bool true)) t AO co AL cl kd nm n gt gm gx gd V j (jd+1):=by
 have k:FrS (fun b=>b=gd) wx (wx.setCell (aD gd a) (.bool true)):=eG (bI wx gd a _) fun y e=>(by (injection e with e);exact e.symm);refine⟨k.ext h.ex fun b hb=>by have hb:b=gd:=hb;have:=h.ld;omega,k.blk h.tb (bL h.tb h.db (by decide)),k.blk h.zb (bL h.zb h.db (by decide)),k.blk h.mb h.nm_,k.blk h.xb (bL h.xb h.db (by decide)),?_,k.own h.dn fun b hb e=>?_,h.fr.tr k fun b hb=>.inl (.inr (.inl hb)),h.nm_,h.lx,h.ld,h.zx,h.lz⟩;{rw[jzkk h1 ha ho];have e3:(aG ((eA t kd nm n jd).set a true)).toArray=(aG (eA t kd nm n jd)).toArray.setIfInBounds a (.bool true):=(by unfold aG;simp[List.map_set]);rw[e3];exact h.db.sT a _};have e:b=gd:=e;subst e;exact aW h.dn hb (t:=4) (by decide) _ _ h.db
theorem RtI.push{g' c':Nat}(h:RtI w w7 wx t AO co AL cl kd nm n gt gm gx gd V j jd)(h1:(aE t n)[j]?=some a)(ho:ofB t kd nm a=true)(own':wy.ownsRow w7.heap.size 3 1 (.s (sA g') ((dnL t kd nm n j).length+1) c') ((dnL t kd nm n j).length+1) (ints (dnL t kd nm n j)++[vI (a:Int)]))(gr:wx.grownBy wy V.ownBlock):
  RtI w w7 (wy.setCell (aD gx 2) (.s (sA g') ((dnL t kd nm n j).length+1) c')) t AO co AL cl kd nm n gt gm gx gd (.s (sA g') ((dnL t kd nm n j).length+1) c') (j+1) jd/\wy.cell? (aD gx 2)=some V/\wy.frozen? (aD gx 2)=false:=by
 have k1:FrS (fun b=>V.ownBlock=some b) wx wy:=eG gr fun g e=>e;have qa:∀b,V.ownBlock=some b->w7.heap.size<=b:=fun b hb=>(h.dn.lt b hb).1;have x1:=k1.blk h.xb fun e=>aW h.dn e (by decide) _ _ h.xb;have k2:FrS (fun b=>b=gx) wy (wy.setCell (aD gx 2) (.s (sA g') ((dnL t kd nm n j).length+1) c')):=eG (bI wy gx 2 _) fun y e=>(by (injection e with e);exact e.symm);have qe:=h.lz;have t1:=k1.blk h.tb fun e=>aW h.dn e (by decide) _ _ h.tb;have z1:=k1.blk h.zb fun e=>aW h.dn e (by decide) _ _ h.zb;have m1:=k1.blk h.mb fun e=>aW h.dn e (by decide) _ _ h.mb;have d1:=k1.blk h.db fun e=>aW h.dn e (by decide) _ _ h.db;refine⟨⟨k2.ext (k1.ext h.ex fun b hb=>yY qe.2.2 (qa b hb)) fun b hb=>by have hb:b=gx:=hb;have:=h.lx;omega,k2.blk t1 (bL t1 x1 (by decide)),k2.blk z1 h.zx,k2.blk m1 (bL m1 x1 (by decide)),x1.sT 2 _,k2.blk d1 (bL d1 x1 (by decide)),?_,(h.fr.tr k1 fun b hb=>.inl (.inr (.inr (qa b hb)))).tr k2 fun b hb=>.inl (.inl hb),h.nm_,h.lx,h.ld,h.zx,h.lz⟩,x1.cell 2,x1.frozen 2⟩;rw[jzkm h1 ho];have e:ints (dnL t kd nm n j++[a])=ints (dnL t kd nm n j)++[vI (a:Int)]:=(by unfold ints;rw[List.map_append];rfl);rw[e,yQ];refine k2.own own' fun b hb e=>?_;have e:b=gx:=e;subst e;exact aW own' hb (t:=60) (by decide) _ _ x1
theorem RtI.miss(h:RtI w w7 wx t AO co AL cl kd nm n gt gm gx gd V j j)(h1:(aE t n)[j]?=some a)(ho:ofB t kd nm a=false):RtI w w7 wx t AO co AL cl kd nm n gt gm gx gd V (j+1) (j+1):=
 ⟨h.ex,h.tb,h.zb,h.mb,h.xb,by rw[jzkl h1 ho];exact h.db,by rw[jzkn h1 ho];exact h.dn,h.fr,h.nm_,h.lx,h.ld,h.zx,h.lz⟩
end
theorem jzkr{w7 wx:World}{gx gd:Nat}{A}{l:LN}{cx cd:Array Value}(fr:FrS (fun b=>b=gx\/b=gd\/w7.heap.size<=b) w7 wx)(hx:Blk w7 gx 60 cx)(hd:Blk w7 gd 4 cd)(h:RdT w7 3 A (ints l)):RdT wx 3 A (ints l):=fr.rdT (fun b hb cs f e=>by
 rcases hb with hb|hb|hb
 ·subst hb;exact cU hx (t:=3) (by decide) _ rfl cs f e
 ·subst hb;exact cU hd (t:=3) (by decide) _ rfl cs f e
 ·rw[kQn hb]at e;cases e) h
theorem jzbi:(Tryz.prog.info? 103).map (fun i=>(i.zero,i.size,i.bytes))=some (some (.agg #[zN,.bool false,zN]),3,56):=by kernel_rfl
structure RtJ(w w8 wx:World)(t:Tp)(AO:OA)(co:Nat)(AL:OA)(cl:Nat)(n gt gx gd:Nat)(ow:List Bool)(D:OA)(cD:Nat)(dl:LN)(VE:Value)(es:List En):Prop where
 ex:Ext w wx
 tb:Blk wx gt 25 #[vI t.nodes,.s AO t.over.length co,.s AL t.links.length cl]
 zb:Blk wx (gt+1+1) 60 #[vI 0,zN,zN]
 xb:Blk wx gx 60 #[vI (n:Int),VE,.s D dl.length cD]
 ob:Blk wx gd 4 (aG ow).toArray
 el:OwL EnC 103 3 wx w8.heap.size VE es
 dr:RdT wx 3 D (ints dl)
 zx:gt+1+1≠gx
 lx:w.heap.size<=gx
 l8:w.heap.size<=w8.heap.size/\w8.heap.size<=wx.heap.size
section
variable {w w8 wx wy:World} {t:Tp} {AO:Option Addr} {co:Nat} {AL:Option Addr} {cl:Nat} {n gt gx gd:Nat} {ow:List Bool} {D:Option Addr} {cD:Nat} {dl:List Nat} {VE:Value} {es:List En}
theorem RtJ.K(h:RtJ w w8 wx t AO co AL cl n gt gx gd ow D cD dl VE es)(hx:Ext wx wy):RtJ w w8 wy t AO co AL cl n gt gx gd ow D cD dl VE es:=
 ⟨h.ex.tr hx,h.tb.K hx,h.zb.K hx,h.xb.K hx,h.ob.K hx,h.el.K hx fun cs x h=>h.K hx,h.dr.K hx,h.zx,h.lx,h.l8.1,yY h.l8.2 hx.size⟩
theorem RtJ.push{g' c':Nat}{E:En}{css:List (List Value)}{us:List Value}(h:RtJ w w8 wx t AO co AL cl n gt gx gd ow D cD dl VE es)(h1:css.length=es.length)(h2:∀cs∈css,cs.length=3)(h3:wx.ownsRow w8.heap.size 103 3 VE es.length css.flatten)(h4:∀(i:Nat) (x:En),es[i]?=some x->∃cs,css[i]?=some cs/\EnC wx cs x)(hE:EnC wx us E)(own':wy.ownsRow w8.heap.size 103 3 (.s (sA g') (es.length+1) c') (es.length+1) (css.flatten++us))(gr:wx.grownBy wy VE.ownBlock):
  RtJ w w8 (wy.setCell (aD gx 1) (.s (sA g') (es.length+1) c')) t AO co AL cl n gt gx gd ow D cD dl (.s (sA g') (es.length+1) c') (es++[E])/\wy.cell? (aD gx 1)=some VE/\wy.frozen? (aD gx 1)=false/\Blk wy gt 25 #[vI t.nodes,.s AO t.over.length co,.s AL t.links.length cl]:=by
 have k1:FrS (fun b=>VE.ownBlock=some b) wx wy:=eG gr fun g e=>e;have qa:∀b,VE.ownBlock=some b->w8.heap.size<=b:=fun b hb=>(h3.lt b hb).1;have x1:=k1.blk h.xb fun e=>aW h3 e (by decide) _ _ h.xb;have k2:FrS (fun b=>b=gx) wy (wy.setCell (aD gx 1) (.s (sA g') (es.length+1) c')):=eG (bI wy gx 1 _) fun y e=>(by (injection e with e);exact e.symm);have t1:=k1.blk h.tb fun e=>aW h3 e (by decide) _ _ h.tb;have z1:=k1.blk h.zb fun e=>aW h3 e (by decide) _ _ h.zb;have o1:=k1.blk h.ob fun e=>aW h3 e (by decide) _ _ h.ob;have d1:=k1.rdT (fun b hb=>aW h3 hb (by decide)) h.dr;have qe:us.length=3:=(by obtain⟨_,_,_,_,e,_⟩:=hE;rw[e];rfl);have e1:∀cs x,EnC wx cs x->EnC wy cs x:=fun cs x hc=>hc.fr k1 (fun b hb=>aW h3 hb (by decide)) (fun b hb=>aW h3 hb (by decide));have qf:=OwL.pushed (R:=EnC) (w:=wx) (w':=wy) (l:=es) (x:=E) h1 h2 h4 qe (fun cs y _=>e1 cs y) (e1 us E hE) own';exact⟨⟨k2.ext (k1.ext h.ex fun b hb=>yY h.l8.1 (qa b hb)) fun b hb=>by have hb:b=gx:=hb;have:=h.lx;omega,k2.blk t1 (bL t1 x1 (by decide)),k2.blk z1 h.zx,x1.sT 1 _,k2.blk o1 (bL o1 x1 (by decide)),qf.fr k2 (fun b hb e=>by have e:b=gx:=e;subst e;exact aW own' hb (t:=60) (by decide) _ _ x1) (fun cs x _ hc=>hc.fr k2 (cU x1 (by decide)) (cU x1 (by decide))),k2.rdT (cU x1 (by decide)) d1,h.zx,h.lx,h.l8.1,yY h.l8.2 (yY k1.size k2.size)⟩,x1.cell 1,x1.frozen 1,t1⟩
end
theorem jzks t AO(co:Nat)AL(cl:Nat)(kd nm:Int)(n N:Nat)w
  (ht:aF w t AO co AL cl) (hv:aA t=true) (hw:wnP t kd nm=true) (hN:t.nodes=(N:Int)) (qK:N<=12) (hn:n<N):
  Calls Tryz.prog 53 #[.agg #[vI t.nodes,.s AO t.over.length co,.s AL t.links.length cl],.agg #[vI kd,vI nm],vI (n:Int)] w (TaP w (bW t kd nm n)):=by
 have qE:=dC hv;have MA:=Hx (fun(W:World) (hx:Ext w W)=>tF t AO co AL cl kd nm W (ht.K hx) hv hw);have NO:=Hx (fun(W:World)=>nY t AO co AL cl W n N hN hn);have AR:=Hx (fun(W:World) (hx:Ext w W)=>fN t AO co AL cl W (ht.K hx));have OU:=Hx (fun(W:World) (hx:Ext w W)=>sK t AO co AL cl n W (ht.K hx) hv);have qI:=run_make_row' (P:=Tryz.prog) 22 4 (.bool false) 1 Tryz.underlying22 Tryz.info4 rfl .i64 .i64 (2*t.links.length) (by omega) (by omega);rw[show((2*t.links.length:Nat):Int)=2*(t.links.length:Int) by omega]at qI;have B0:=Hx (enW w #[vI t.nodes,.s AO t.over.length co,.s AL t.links.length cl] #[vI kd,vI nm] #[vI 0,zN,zN] 25 27 60);have HT:=Hx ht;have HV:=Hx hv;have qg:=Hx (kQa hN (kQa qK hn));have HL:=Hx qE;clear ht hv hw hN qK hn qE;go_enter Tryz.func53,Tryz.ntmps53;(go_upto_region 1 with fail);generalize ((w.alloc (.cells #[vI t.nodes,.s AO t.over.length co,.s AL t.links.length cl] 25)).alloc (.cells #[vI kd,vI nm] 27)).alloc (.cells #[vI 0,zN,zN] 60)=w1 at*;generalize hgt:w.heap.size=gt at*;have qT:=Hx hgt;clear hgt;obtain⟨⟨i0,i1,i2⟩,_⟩:=B0.o.1.t3;have q0:w1.cell? (aD (gt+1) 0)=some (vI kd):=B0.o.2.1.cell 0;have q1:w1.cell? (aD (gt+1) 1)=some (vI nm):=B0.o.2.1.cell 1;(go_wp2_with fail);refine(MA.o _ B0.o.2.2.2).mono ?_;rintro e w2 ⟨g,rfl,qJ,qY,x2⟩;have B2:Hid (Blk w2 gt 25 #[vI t.nodes,.s AO t.over.length co,.s AL t.links.length cl]/\Blk w2 (gt+1+1) 60 #[vI 0,zN,zN]/\Blk w2 g 4 (aG (mkL t kd nm)).toArray/\Ext w w2):=Hx (⟨B0.o.1.K x2,B0.o.2.2.1.K x2,qJ,B0.o.2.2.2.tr x2⟩);clear B0 MA qJ qY x2 i0 i1 i2 q0 q1;obtain⟨⟨i0,i1,i2⟩,_⟩:=B2.o.1.t3;(go_wp2_with fail);refine(NO.o _).mono ?_;rintro e w3 ⟨rfl,x3⟩;have B3:Hid (Blk w3 gt 25 #[vI t.nodes,.s AO t.over.length co,.s AL t.links.length cl]/\Blk w3 (gt+1+1) 60 #[vI 0,zN,zN]/\Blk w3 g 4 (aG (mkL t kd nm)).toArray/\Ext w w3):=Hx (⟨B2.o.1.K x3,B2.o.2.1.K x3,B2.o.2.2.1.K x3,B2.o.2.2.2.tr x3⟩);clear B2 NO x3 i0 i1 i2;go_upto_region 7 with fail
 have B4:=Hx (show Blk (w3.alloc (.cells #[vI (n:Int),zN,zN] 60)) gt 25 #[vI t.nodes,.s AO t.over.length co,.s AL t.links.length cl]/\Blk (w3.alloc (.cells #[vI (n:Int),zN,zN] 60)) (gt+1+1) 60 #[vI 0,zN,zN]/\Blk (w3.alloc (.cells #[vI (n:Int),zN,zN] 60)) g 4 (aG (mkL t kd nm)).toArray/\Ext w (w3.alloc (.cells #[vI (n:Int),zN,zN] 60))/\Blk (w3.alloc (.cells #[vI (n:Int),zN,zN] 60)) w3.heap.size 60 #[vI (n:Int),zN,zN]/\w.heap.size<=w3.heap.size from
  ⟨B3.o.1.alloc _,B3.o.2.1.alloc _,B3.o.2.2.1.alloc _,B3.o.2.2.2.alloc _,eN w3 _ _,B3.o.2.2.2.size⟩)
 have GX:Hid (gt+1+1<w3.heap.size):=Hx (B3.o.2.1.lt);clear B3;generalize w3.alloc (.cells #[vI (n:Int),zN,zN] 60)=w4 at*;generalize w3.heap.size=gx at*;obtain⟨⟨i0,i1,i2⟩,_⟩:=B4.o.1.t3;(go_wp2_with fail);refine(AR.o _ B4.o.2.2.2.1).mono ?_;rintro e w5 ⟨rfl,x5⟩;(go_upto_region 8 with fail);have N6:=eN w5 4 (madeCells #[.bool false] (2*t.links.length));have X6:=Hx (x5.alloc (.cells (madeCells #[.bool false] (2*t.links.length)) 4));have D6:Hid (Blk (w5.alloc (.cells (madeCells #[.bool false] (2*t.links.length)) 4)) w5.heap.size 4 (aG (eA t kd nm n 0)).toArray/\g≠w5.heap.size/\w.heap.size<=w5.heap.size):=Hx (by rw[jzkj, <-nC];exact⟨N6,kQb (B4.o.2.2.1.K x5).lt,(B4.o.2.2.2.1.tr x5).size⟩);clear N6 x5 i0 i1 i2 qI AR;generalize w5.alloc (.cells (madeCells #[.bool false] (2*t.links.length)) 4)=w6 at*;generalize w5.heap.size=gd at*;obtain⟨⟨i0,i1,i2⟩,_⟩:=(B4.o.1.K X6.o).t3;go_wp2_with fail
 refine(OU.o _ (B4.o.2.2.2.1.tr X6.o)).mono ?_;rintro e w7 ⟨v,rfl,h7⟩;obtain⟨A,c,rfl,qG⟩:=oFA h7.own;have X7:=Hx (X6.o.tr h7.ex);have A7:Hid (RdT w7 3 A (ints (aE t n))):=Hx (dX h7.own);have LL:Hid ((aE t n).length<=512/\(aE t n).length<=c):=Hx (⟨by have:=fP t (2*t.links.length) n;have:=HL.o;unfold aE;omega,qG⟩);have G7:=Hx (kQa (B4.o.2.2.2.2.1.K X7.o) (D6.o.1.K h7.ex));have I7:=Hx (show RtI w w7 w7 t AO co AL cl kd nm n gt g gx gd zN 0 0 from
  ⟨B4.o.2.2.2.1.tr X7.o,B4.o.1.K X7.o,B4.o.2.1.K X7.o,B4.o.2.2.1.K X7.o,B4.o.2.2.2.2.1.K X7.o,D6.o.1.K h7.ex,World.ownsRow_nil _ _ _ _,FrS.refl _ _,D6.o.2.1,B4.o.2.2.2.2.2,D6.o.2.2,by have:=GX.o;omega,⟨(B4.o.2.2.2.2.1.K X7.o).lt,(D6.o.1.K h7.ex).lt,(B4.o.2.2.2.1.tr X7.o).size⟩⟩)
 clear X6 D6 h7 qG B4 X7 i0 i1 i2 OU;have qQ:Hid (∀(j a:Nat),(aE t n)[j]?=some a->a<2*t.links.length):=Hx (fun j a h=>((iI HV.o a n).1 (yJ h)).1);have qV:Hid (∀j:Nat,j<(aE t n).length->∃a,(aE t n)[j]?=some a):=Hx (fun j h=>⟨_,yG h⟩);have DA:Hid (∀j:Nat,(aE t n).length<=j->eA t kd nm n j=bQ t kd nm n/\dnL t kd nm n j=dV t kd nm n):=Hx (fun j h=>⟨jzko HV.o h,jzkp HV.o h⟩);have qZ:Hid (∀j:Nat,(dnL t kd nm n j).length<=(aE t n).length):=Hx (fun j=>yY (List.length_filter_le _ _) (List.length_take_le' _ _));generalize hK:(aE t n).length=K at*;have HK:=Hx hK;clear hK;go_wp2;go_loopg [13,39] K (fun q _ it wx=>∃(j:Nat) (V:Value),K-j=q/\j<=K/\it=vI (j:Int)/\Hid (RtI w w7 wx t AO co AL cl kd nm n gt g gx gd V j j));(case atStart=>exact⟨0,_,rfl,yZ _,rfl,I7⟩);obtain⟨j,V,rfl,hj,rfl,I⟩:=hrel;clear I7;by_cases qL:j<K;{obtain⟨a,ha⟩:=qV.o j qL;have HA:=Hx ha;have qF:=qQ.o j a ha;have row:=jzkr I.o.fr G7.o.1 G7.o.2 A7.o;obtain⟨b,o,rfl,hb,hc⟩:=row.rd.ints_ (k:=j) (by rw[HK.o];exact qL);rw[ha,kQ1]at hc;have jK:(j:Int)<(K:Int):=(by omega);have ml:=oW t kd nm;have aM:(a:Int)<((mkL t kd nm).length:Int):=(by omega);have aL:(a:Int)<2*(t.links.length:Int):=(by omega);have ym:wr.cell? (aD g a)=some (.bool (ofB t kd nm a)):=(by rw[I.o.mb.cell a];unfold aG;rw[xI,yW,jzkq qF];rfl);clear ha row hb ml;cases ho:ofB t kd nm a;{rw[ho]at ym;have R:=Hx (I.o.miss HA.o ho);clear I ho;go_wp2;go_roundg (K-(j+1));(case measure=>omega);exact⟨j+1,V,rfl,by omega,by rw[show wrap64 ((j:Int)+1)=((j+1:Nat):Int)from by have:=LL.o.1;unfold wrap64;omega],R⟩};rw[ho]at ym;have HO:=Hx ho;have I1:=Hx (I.o.set1 HA.o qF ho);obtain⟨vd,yd⟩:∃v,wr.cell? (aD gd a)=some v:=(by rw[I.o.db.cell a];exact⟨_,Array.getElem?_eq_getElem (by unfold aG;simp[jzki];omega)⟩);have zd:=I.o.db.frozen a;clear ho I;(go_upto_region 13 with fail);generalize wr.setCell (aD gd a) (.bool true)=W1 at*;clear yd zd ym hc;have yx:W1.cell? (aD gx 2)=some V:=I1.o.xb.cell 2;have BC:=Hx (eN W1 3 #[vI (a:Int)]);have I2:=Hx (I1.o.K ((eR W1).alloc (.cells #[vI (a:Int)] 3)));have qD:w7.heap.size<=(W1.alloc (.cells #[vI (a:Int)] 3)).heap.size:=I2.o.fr.size;have qU:=qZ.o j;have q3:=LL.o.1;clear I1;(go_wp2_with (at_builtin;refine dW _ 28 3 _ 1 8 rfl _ _ rfl Tryz.underlying28 Tryz.info3 rfl (by decide) w7.heap.size V (dnL t kd nm n j).length (ints (dnL t kd nm n j)) rfl I2.o.dn [vI (a:Int)] rfl (by simp[Value.oneCell']) W1.heap.size rfl BC.o (by unfold maxLen;omega) (by omega) qD ?_));intro g9 c9 w9 qt qf qB;have P9:=Hx (I2.o.push HA.o HO.o qt qf);have R:=Hx P9.o.1;have u1:=P9.o.2.1;have u2:=P9.o.2.2;clear qt qf qB BC qD qU I2 P9 yx;go_wp2;go_roundg (K-(j+1));(case measure=>omega);exact⟨j+1,_,rfl,by omega,by go_num,R⟩}
 obtain rfl:j=K:=(by omega);obtain⟨e1,e2⟩:=DA.o j (yX _);obtain⟨D,cD,rfl,qO⟩:=oFA I.o.dn;have qz:=Hx qO;have hD:=dX I.o.dn;have J0:=Hx (show RtJ w wr wr t AO co AL cl n gt gx gd (bQ t kd nm n) D cD (dV t kd nm n) zN []from
  ⟨I.o.ex,I.o.tb,I.o.zb,by rw[<-e2];exact I.o.xb,by rw[<-e1];exact I.o.db,OwL.nil _ _ _ _ _,by rw[<-e2];exact hD,I.o.zx,I.o.lx,I.o.ex.size,yX _⟩)
 rw[e2]at qz;have qR:=Hx qz.o;clear e1 e2 qO hD I qz;generalize (dnL t kd nm n j).length=dl0 at*;obtain⟨i0,i1,i2⟩:=J0.o.tb.t3.1;have qx:=Hx (fun(W:World) (d:Nat) (hx:Ext w W) (hd:d<N) (hm:MkR W t (sA gd) (2*t.links.length) (bQ t kd nm n))=>show Calls Tryz.prog 105 #[.agg #[vI t.nodes,.s AO t.over.length co,.s AL t.links.length cl],.s (sA gd) (2*t.links.length) (2*t.links.length),vI (n:Int),vI (d:Int)] W (EnP W (cL t (bQ t kd nm n) n d))from by have h:=jzj8 t AO co AL cl (sA gd) (2*t.links.length) (bQ t kd nm n) n d N W (HT.o.K hx) HV.o hm qg.o.1 qg.o.2.1 qg.o.2.2 hd oY;rw[oY]at h;exact h);have q2:Hid (∀W,Blk W gd 4 (aG (bQ t kd nm n)).toArray->MkR W t (sA gd) (2*t.links.length) (bQ t kd nm n)):=Hx (fun W h=>by have h2:=MkR.blk h (t:=t) oY;rw[oY]at h2;exact h2);generalize wr=w8 at*;go_wp2;go_loopg [14,59] N (fun q _ it wx=>∃(i:Nat) (VE:Value),N-i=q/\i<=N/\it=vI (i:Int)/\Hid (RtJ w w8 wx t AO co AL cl n gt gx gd (bQ t kd nm n) D cD (dV t kd nm n) VE ((List.range i).map (cL t (bQ t kd nm n) n))));(case atStart=>exact⟨0,_,rfl,yZ _,rfl,J0⟩);obtain⟨i,VE,rfl,hi,rfl,I⟩:=hrel;clear J0 i0 i1 i2;by_cases qX:i<N;{(have iN:(i:Int)<t.nodes:=by have:=qg.o.1;omega);have qa:Hid (∀W,Ext wr W->W.cell? (aD gx 1)=some VE/\W.cell? (aD gt 0)=some (vI t.nodes)/\W.cell? (aD gt 1)=some (.s AO t.over.length co)/\W.cell? (aD gt 2)=some (.s AL t.links.length cl)):=Hx (fun W hx=>⟨(I.o.xb.K hx).cell 1,(I.o.tb.K hx).t3.1⟩);have XD:Hid (Ext wr wr.drew):=Hx ((eR wr).drewN 1);have HSW:=Hx (qa.o _ XD.o);(go_upto_region 18 with fail);(refine wX qa 10 ?_;refine wP 0 rfl HSW.o ?_;try simp only[Act.put,yA,yB,yC,yD,yE,yF]);refine wV 1 rfl HSW.o ?_;refine wV 2 rfl HSW.o ?_;refine wP 3 rfl HSW.o ?_;refine wP 4 rfl HSW.o ?_;(refine wP 5 rfl HSW.o ?_;try simp only[Act.put,yA,yB,yC,yD,yE,yF]);(refine wC 6 rfl (fun KK hK=>?_);go_simp;refine(qx.o _ i (I.o.ex.tr XD.o) qX (q2.o _ (I.o.ob.K XD.o))).mono ?_;rintro e w9 ⟨A9,qm,qe,P9,qk,rfl,qM,x9⟩;have X9:=Hx (XD.o.tr x9);have HE:=Hx qM;refine hK.o _ _ (qa.o _ X9.o) ?_;clear hK KK HSW x9 XD qM;have HSW:=Hx (qa.o _ X9.o);try simp only[Act.put,yD,yE,yF]);(have ES:Hid ((List.range (i+1)).map (cL t (bQ t kd nm n) n)=(List.range i).map (cL t (bQ t kd nm n) n)++[cL t (bQ t kd nm n) n i]):=Hx (by rw[kZc,List.map_append];rfl);have EL:Hid (((List.range i).map (cL t (bQ t kd nm n) n)).length=i):=Hx (by simp);generalize cL t (bQ t kd nm n) n i=E at*;generalize hes:(List.range i).map (cL t (bQ t kd nm n) n)=es at*;clear hes;generalize E.arcs.length=la at*;generalize E.push.length=lp at*;refine wC 7 rfl (fun KK hK=>?_);go_simp;have qw:Hid (Ext wr (w9.alloc (.cells #[.s A9 la qm,.bool qe,.s P9 lp qk] 103))):=Hx (X9.o.alloc _);have BW:Hid (Blk (w9.alloc (.cells #[.s A9 la qm,.bool qe,.s P9 lp qk] 103)) w9.heap.size 103 #[.s A9 la qm,.bool qe,.s P9 lp qk]):=Hx (eN w9 _ _);have qN:=Hx (HE.o.K ((eR w9).alloc (.cells #[.s A9 la qm,.bool qe,.s P9 lp qk] 103)));refine hK.o _ _ (qa.o _ qw.o) ?_;clear hK KK HSW HE X9;have HSW:=Hx (qa.o _ qw.o);generalize w9.alloc (.cells #[.s A9 la qm,.bool qe,.s P9 lp qk] 103)=W9 at*;generalize w9.heap.size=gb at*;try simp only[Act.put,yD,yE,yF]);(have J9:=Hx (I.o.K qw.o);obtain⟨qu,h1,h2,h3,h4⟩:=J9.o.el;have qC:=J9.o.l8.2;have qW:=qg.o.2.1;have qi:=EL.o;refine wC 8 rfl (fun KK hK=>?_);refine jzh W9 58 103 _ 3 56 _ _ rfl Tryz.underlying58 jzbi rfl (by decide) w8.heap.size VE es.length qu.flatten (by rfl) h3 [.s A9 la qm,.bool qe,.s P9 lp qk] rfl (by simp[Value.oneCell']) gb (by rfl) BW.o (by unfold maxLen;omega) (by omega) qC ?_;intro g7 c7 qn qp qh qy;have qo:=Hx (J9.o.push h1 h2 h3 h4 qN.o qp qh);have qj:Hid (qn.cell? (aD gx 1)=some VE/\qn.cell? (aD gt 0)=some (vI t.nodes)/\qn.cell? (aD gt 1)=some (.s AO t.over.length co)/\qn.cell? (aD gt 2)=some (.s AL t.links.length cl)):=Hx (⟨qo.o.2.1,qo.o.2.2.2.t3.1⟩);refine hK.o _ _ qj.o ?_;clear hK KK HSW qp qh qy h1 h2 h3 h4 qu qC qi qW;have HSW:=qj;clear qj;try simp only[Act.put,yD,yE,yF]);(have z0:qn.frozen? (aD gx 1)=false:=qo.o.2.2.1;have y0:qn.cell? (aD gx 1)=some VE:=qo.o.2.1;refine wP 9 rfl HSW.o ?_;try simp only[Act.put,yA,yB,yC,yD,yE,yF]);refine aV (by kernel_rfl) rfl (by rfl) (fun KK hK=>?_);go_simp;refine hK.o _ _ ?_;clear hK KK HSW z0 y0;have R:=Hx qo.o.1;rw[<-ES.o]at R;clear qo J9 BW qN qw qa I;refine wpAny_done (by kernel_rfl) ?_ _;go_wp2;go_roundg (N-(i+1));(case measure=>omega);exact⟨i+1,_,rfl,by omega,by rw[show wrap64 ((i:Int)+1)=((i+1:Nat):Int)from by have:=qg.o.2.1;unfold wrap64;omega],R⟩};obtain rfl:i=N:=(by omega);have iN:¬(i:Int)<t.nodes:=(by have:=qg.o.1;omega);obtain⟨qu,h1,h2,h3,h4⟩:=I.o.el;have qi:((List.range i).map (cL t (bQ t kd nm n) n)).length=i:=(by simp);obtain⟨E,cE,hV,qA⟩:=oFA h3;rw[qi]at hV qA;subst hV;have qH:=Hx (OwL.rd I.o.el qi);have qS:=Hx qA;have TT:Hid (bW t kd nm n=⟨n,(List.range i).map (cL t (bQ t kd nm n) n),dV t kd nm n⟩):=Hx (by unfold bW;rw[show t.nodes.toNat=i by have:=qg.o.1;omega]);have x0:wr.cell? (aD gx 0)=some (vI (n:Int)):=I.o.xb.cell 0;have x1:wr.cell? (aD gx 1)=some (.s E i cE):=I.o.xb.cell 1;have x2:wr.cell? (aD gx 2)=some (.s D (dV t kd nm n).length cD):=I.o.xb.cell 2;obtain⟨⟨d0,d1,d2⟩,f0,f1,f2⟩:=I.o.zb.t3;have B5:=Hx (eD (vI (n:Int)) (.s E i cE) (.s D (dV t kd nm n).length cD) I.o.zb);have F:Hid (TaP w (bW t kd nm n) (.returned (.tuple #[.agg #[vI (n:Int),.s E i cE,.s D (dV t kd nm n).length cD],vI 0])) (((wr.setCell (aD (gt+1+1) 0) (vI (n:Int))).setCell (aD (gt+1+1) 1) (.s E i cE)).setCell (aD (gt+1+1) 2) (.s D (dV t kd nm n).length cD))):=Hx (by rw[TT.o];refine⟨E,cE,D,cD,by simp only[qi],⟨E,cE,D,cD,rfl,by simp only[qi];exact qS.o,qH.o.fr B5.o.2 (cU I.o.zb (by decide)) (fun cs x hc=>hc.fr B5.o.2 (cU I.o.zb (by decide)) (cU I.o.zb (by decide))),qR.o,B5.o.2.rdT (cU I.o.zb (by decide)) I.o.dr⟩,B5.o.2.ext I.o.ex fun b hb=>by have:=qT.o;omega⟩);have r0:=B5.o.1.cell 0;have r1:=B5.o.1.cell 1;have r2:=B5.o.1.cell 2;have zx:=I.o.zx;clear B5 I h1 h2 h3 h4 qi qu qH qA;go_wp2;refine bodyPost_ret (v:=.tuple #[.agg #[vI (n:Int),.s E i cE,.s D (dV t kd nm n).length cD],vI 0]) ?_ rfl F.o;simp[results,Tryz.results53,go_sem,asAddr,Result.andThen,r0,r1,r2]
end Fo
namespace Fo
section
variable {t:Tp} {kd nm:Int} {n:Nat}
theorem jzbj(h:∀a,a<2*t.links.length->ofB t kd nm a=true->tlN t a≠n){a:Nat}(ha:a<2*t.links.length):fF t kd nm n a=false:=by
 unfold fF;cases ho:ofB t kd nm a;{rfl};rw[yP (h a ha ho)];rfl
theorem jzkt(h:∀a,a<2*t.links.length->ofB t kd nm a=true->tlN t a≠n):dV t kd nm n=[]:=by
 unfold dV;rw[List.filter_eq_nil_iff];intro a ha;rw[jzbj h (vX.1 ha)];exact Bool.false_ne_true
theorem jzku(h:∀a,a<2*t.links.length->ofB t kd nm a=true->tlN t a≠n)(l:LN):gI (bQ t kd nm n) l=none:=by
 unfold gI;rw[List.find?_eq_none];intro a _;unfold aU bQ;rw[yW];by_cases ha:a<2*t.links.length;{rw[xJ ha];show¬fF t kd nm n a=true;rw[jzbj h ha];exact Bool.false_ne_true};rw[yI (by simpa using ha)];exact Bool.false_ne_true
theorem jzkv(h:∀a,a<2*t.links.length->ofB t kd nm a=true->tlN t a≠n):bW t kd nm n=⟨n,(List.range t.nodes.toNat).map fun d=>⟨nxP t [] n d,false,[]⟩,[]⟩:=by
 unfold bW;rw[jzkt h];congr 1;refine List.map_congr_left fun d _=>?_;unfold cL;rw[jzku h]
end
end Fo
end Go.Proofs.YtllmekijiohgmaaGreatDoor
