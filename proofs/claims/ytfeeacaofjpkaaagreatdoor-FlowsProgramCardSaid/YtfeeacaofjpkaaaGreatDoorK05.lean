/- Walks, part 5. -/
import Derived.Lib.OwnKind
import Derived.Deep.Onto
import Derived.Deep.AppendSrc
import Derived.Test.YtfeeacaofjpkaaaGreatDoorK04
set_option linter.unusedVariables false
set_option linter.unusedSimpArgs false
set_option maxRecDepth 100000
set_option maxHeartbeats 8000000
namespace Go.Proofs.YtfeeacaofjpkaaaGreatDoor
open Go.Proofs.Tryz
open Go.RowKit
structure bV(w w':World):Prop where
 size:w.heap.size<=w'.heap.size
 blk:∀(i:Nat) (cs:Array Value) (t:TypeId) (fr:Nat×Nat),t≠42->w.heap[i]?=some (.cells cs t fr)->w'.heap[i]?=some (.cells cs t fr)
theorem bV.refl w:bV w w:=⟨yX _,fun _ _ _ _ _ h=>h⟩
theorem bV.trans{a b c}(h:bV a b)(k:bV b c):bV a c:=⟨yY h.size k.size,fun i cs t fr ht hi=>k.blk i cs t fr ht (h.blk i cs t fr ht hi)⟩
theorem iF{w:World}{i:Nat}{o:Obj}(h:w.heap[i]?=some o):i<w.heap.size:=by
 rcases kQd i w.heap.size with hlt|hge
 ·exact hlt
 rw[kQn hge]at h;cases h
theorem bV.ofExt{w w'}(h:Ext w w'):bV w w':=⟨h.size,fun i _ _ _ _ hi=>(h.block i (iF hi)).trans hi⟩
theorem bV.rdT{w w'}{t:TypeId}{A}{xs:List Value}(h:bV w w')(ht:t≠42)(hr:RdT w t A xs):RdT w' t A xs:=fun hne=>by
 obtain⟨b,o,cs,fr,e,hb,hc⟩:=hr hne;exact⟨b,o,cs,fr,e,h.blk b cs t fr ht hb,hc⟩
theorem bV.blk'{w w'}{g:Nat}{t:TypeId}{cs:Array Value}(h:bV w w')(ht:t≠42)(hb:Blk w g t cs):Blk w' g t cs:=h.blk g cs t (0,0) ht hb
theorem bV.grown{w w':World}{row:Option Nat}(hg:w.grownBy w' row)(hr:∀k,row=some k->∃cs fr,w.heap[k]?=some (.cells cs 42 fr)):bV w w':=
 ⟨hg.size,fun i cs t fr ht hi=>by
  refine(hg.block i (iF hi) (fun e=>?_)).trans hi;obtain⟨qe,qa,h'⟩:=hr i e.symm;rw[hi]at h';injection h' with h'
  injection h' with _ h'
  exact ht h'⟩
theorem bV.round{w w2}{g k:Nat}{l:List Bool}(hb:Blk w g 4 (bH l).toArray)(hk:l[k]?=some false)(h:bV (w.setCell (aD g k) (.bool true)) w2):bV w (w2.setCell (aD g k) bF):=by
 have h1:=hb.sT k (.bool true);have h2:=h.blk' qD h1;have h3:=h2.sT k bF;have e:((bH l).toArray.setIfInBounds k (.bool true)).setIfInBounds k bF=(bH l).toArray:=(by apply Array.ext';simp only[yD,List.set_set];apply uK;intro i;by_cases e:i=k;{subst e;obtain⟨qa,he⟩:=yH.1 hk;rw[yM (by simpa [bH]using qa)];simp[bH,hk]};rw[vN (fun h=>e h.symm)]);rw[e]at h3;refine⟨yY (by simp[World.setCell]) (yY h.size (by simp[World.setCell])),fun i cs t fr ht hi=>?_⟩;by_cases e:i=g;{subst e;unfold Blk at hb h3;rw[hb]at hi;rw[h3];exact hi};have h4:(w.setCell (aD g k) (.bool true)).heap[i]?=some (.cells cs t fr):=(Below.heap_setCell w (aD g k) _ i e).trans hi;exact(Below.heap_setCell w2 (aD g k) _ i e).trans (h.blk i cs t fr ht h4)
theorem cJ.K{w w'}{B:Nat}{v:Value}{ps:List (LN)}(h:cJ w B v ps)(hx:Ext w w'):cJ w' B v ps:=by
 obtain⟨cells,h1,h2,h3⟩:=h.ex;refine⟨cells,h1,h2.kept (row:=none) ⟨hx.os,hx.tape,hx.output,hx.size,fun k hk _=>hx.block k hk⟩ ?_,fun i p hp=>?_⟩;{by_cases e:v.ownBlock=none;{exact .inl e};exact .inr e};obtain⟨A,c,h4,h5,h6⟩:=h3 i p hp;exact⟨A,c,h4,h5,h6.K hx⟩
theorem cJ.sT{w}{B:Nat}{v:Value}{ps:List (LN)}(h:cJ w B v ps){p:Addr}{cs:Array Value}(hp:Blk w p.block 4 cs)(u:Value):cJ (w.setCell p u) B v ps:=by
 obtain⟨cells,h1,h2,h3⟩:=h.ex;refine⟨cells,h1,⟨h2.1,?_⟩,fun i q hq=>?_⟩;{(rcases h2.2 with h4|⟨g',cap,cur,h4,h5,h6,h7⟩);{exact .inl h4};(refine .inr ⟨g',cap,cur,h4,h5,(Below.heap_setCell w p u g' ?_).trans h6,h7⟩;rintro rfl;unfold Blk at hp;rw[h6]at hp;injection hp with hp);(injection hp with _ ht);revert ht;decide};obtain⟨A,c,h4,h5,h6⟩:=h3 i q hq;exact⟨A,c,h4,h5,h6.sT hp qD u⟩
theorem cJ.snoc{w w1:World}{B:Nat}{v v':Value}{ps:List (LN)}{p:LN}{A:OA}{c:Nat}{cells:List Value}(h1:cells.length=ps.length)
  (h3:∀(i:Nat) (q:LN),ps[i]?=some q->∃(A:OA) (c:Nat),cells[i]?=some (.s A q.length c)/\q.length<=c/\RdT w1 3 A (ints q))
  (hp:RdT w1 3 A (ints p)) (hc:p.length<=c) (hown:w1.ownsRow B 42 1 v' (ps.length+1) (cells++[.s A p.length c])):cJ w1 B v' (ps++[p]):=by
 refine⟨cells++[.s A p.length c],by simp[h1],by rw[yQ];exact hown,fun i q hq=>?_⟩;by_cases e:i<ps.length;{rw[yR e]at hq;obtain⟨A',c',h4,h5,h6⟩:=h3 i q hq;exact⟨A',c',by rw[yR qO];exact h4,h5,h6⟩};rw[yS qO]at hq;have hi:i=ps.length:=(by have:=(yH.1 hq).1;simp at this;omega);subst hi;simp at hq;subst hq;exact⟨A,c,by rw[yS qO,h1];simp,hc,hp⟩
def bM(t:Tp)(down:List Bool)(d:Nat):Nat->LN->Nat->List Bool->List (LN)
 |0,_,_,_=>[]
 |f+1,path,at_,seen=>if at_=d then [path]else if(0<path.length)/\bT t at_=true then []else
  (aL t at_).flatMap fun a=>if bZ down a||seen[(aK t a).toNat]?.getD false then []else bM t down d f (path++[a]) (aK t a).toNat (seen.set (aK t a).toNat true)
def mF(l:List Bool):Nat:=l.count false
theorem jzae{l:List Bool}{k:Nat}(h:l[k]?=some false):mF (l.set k true)+1=mF l:=by
 unfold mF;(induction l generalizing k with|nil=>simp at h|cons b l ih=>(cases k with|zero=>simp at h;subst h;simp|succ k=>simp at h;have:=ih h;cases b <;> simp[yF] <;> omega))
theorem jzhe t(down:List Bool)(d:Nat):∀(f:Nat) (path:LN) (n:Nat) (qa:List Bool),(bM t down d f path n qa).length<=(2*t.links.length+1)^f:=by
 intro f;(induction f with|zero=>intro path n qa;simp[bM]|succ f ih=>intro path n qa;have h1:1<=(2*t.links.length+1)^(f+1):=Nat.one_le_pow _ _ qO;unfold bM;split;{simpa using h1};split;{simp};have hl:∀l:LN,(l.flatMap fun a=>if bZ down a||qa[(aK t a).toNat]?.getD false then []else bM t down d f (path++[a]) (aK t a).toNat (qa.set (aK t a).toNat true)).length<=l.length*(2*t.links.length+1)^f:=(by intro l;(induction l with|nil=>simp|cons a l ihl=>rw[xU,yQ,kQo,xP,xQ,kZl];refine Nat.add_le_add ihl ?_;split;{simp};exact ih _ _ _));refine yY (hl _) ?_;rw[vD,vE];exact kQh _ (yY (lK t _ n) qO))
theorem tA{t}(hv:aH t=true){a:Nat}(ha:a<2*t.links.length):∃h:Nat,aK t a=(h:Int)/\(h:Int)<t.nodes:=by
 rw[jzad];have qe:a/2*2+1-a%2<2*t.links.length:=qO;generalize a/2*2+1-a%2=b at*;unfold aH at hv;rw[vM]at hv;obtain⟨l,hl⟩:∃l,t.links[b/2]?=some l:=⟨_,yG qO⟩;have qa:=xW.1 hv.2 l (yJ hl);unfold Lk.ok ndB at qa;simp at qa;unfold dQ;rw[hl];simp only[];split;{exact⟨l.a.toNat,qO,qO⟩};exact⟨l.b.toNat,qO,qO⟩
theorem jzaf{t}{n a:Nat}(h:a∈aL t n):a<2*t.links.length:=by
 unfold aL cE at h;rw[List.mem_filter]at h;simpa using h.1
theorem cJ.push{w w1:World}{B:Nat}{ov v':Value}{ps:List (LN)}{p:LN}{A:OA}{c:Nat}{cells:List Value}(h1:cells.length=ps.length)(h2:w.ownsRow B 42 1 ov ps.length cells)
  (h3:∀(i:Nat) (q:LN),ps[i]?=some q->∃(A:OA) (c:Nat),cells[i]?=some (.s A q.length c)/\q.length<=c/\RdT w 3 A (ints q))
  (hp:RdT w 3 A (ints p)) (hc:p.length<=c) (hB:B<=w.heap.size) (hown:w1.ownsRow B 42 1 v' (ps.length+1) (cells++[.s A p.length c])) (hg:w.grownBy w1 ov.ownBlock):
  cJ w1 B v' (ps++[p])/\bV w w1/\Below B w w1:=by
 have hk:bV w w1:=bV.grown hg (fun k hk=>Lib.ownsRow_kind h2 k hk);refine⟨cJ.snoc (w:=w) (v:=ov) h1 (fun i q hq=>?_) (hk.rdT qD hp) hc hown,hk,(Below.refl B w).grown hg hB (fun k hk=>(h2.lt k hk).1)⟩;obtain⟨A',c',h4,h5,h6⟩:=h3 i q hq;exact⟨A',c',h4,h5,hk.rdT qD h6⟩
def fJ(t:Tp)(down:List Bool)(d f:Nat)(path:LN)(seen:List Bool)(a:Nat):List (LN):=
 if bZ down a||seen[(aK t a).toNat]?.getD false then []else bM t down d f (path++[a]) (aK t a).toNat (seen.set (aK t a).toNat true)
theorem jzhf t(down:List Bool)(d f:Nat)(path:LN)(seen:List Bool)(a:Nat):(fJ t down d f path seen a).length<=(2*t.links.length+1)^f:=by
 unfold fJ;split;{simp};exact jzhe _ _ _ _ _ _ _
theorem jzhg t(down:List Bool)(d f:Nat)(path:LN)(seen:List Bool)(l:LN):(l.flatMap (fJ t down d f path seen)).length<=l.length*(2*t.links.length+1)^f:=by
 (induction l with|nil=>simp|cons a l ih=>rw[xU,yQ,kQo,xP,xQ,kZl];exact Nat.add_le_add ih (jzhf ..))
theorem aU{w:World}{p:Addr}{v:Value}(h:w.cell? p=some v)(o:Obj):(w.alloc o).cell? p=some v:=by
 have hb:p.block<w.heap.size:=(by (unfold World.cell? at h;rcases kQd p.block w.heap.size with hlt|hge);{exact hlt};rw[kQn hge]at h;simp at h);exact(World.cell?_of_block (Below.heap_alloc _ _ _ hb)).trans h
theorem jzag{w w3}{g:Nat}{xs:List Value}{row:Option Nat}(h:Rd w (sA g) xs)(hg:w.grownBy w3 row)(hne:some g≠row):Rd w3 (sA g) xs:=fun hx=>by
 obtain⟨b,o,e,hb,hc⟩:=h hx;injection e with e
 injection e with e1 e2
 subst e1 e2;exact⟨g,0,rfl,yL hb hg.size,fun i hi=>(World.cell?_of_block (hg.block g hb hne)).trans (hc i hi)⟩
theorem RdT.get_{w}{ty:TypeId}{b o m a:Nat}{l:LN}(h:RdT w ty (some (aD b o)) (ints l))(hm:l[m]?=some a):w.cell? (aD b (o+m))=some (vI (a:Int)):=by
 have qa:=(yH.1 hm).1;obtain⟨b',o',e,_,hc⟩:=h.rd.at_ (i:=m) (by rw[cW];exact qa);injection e with e
 injection e with e1 e2
 subst e1 e2;rw[hc m (by rw[cW];exact qa),pI _ _ qa,hm];rfl
theorem pL(w:World)(B:Nat)(e:TypeId)(hB:B<=w.heap.size):(w.alloc (.cells #[] e)).ownsRow B e 1 (.s (sA w.heap.size) 0 0) 0 []:=
 World.ownsRow_made w #[] 0 hB qD qS
theorem jzhh(t:Tp)(AO:OA)(co:Nat)(AL:OA)(cl:Nat)(AD:OA)(cd:Nat)(down:List Bool)(d:Nat)(w0:World)(ht:bD w0 t AO co AL cl)(hv:aH t=true)(hll:t.links.length<=256)(hdn:Rd w0 AD (bH down))(hdl:down.length<=600)(hd:d<=1000)(f:Nat):
  ∀(path:LN) (AP:OA) (cp:Nat) (n:Nat) (qa:List Bool) (gs:Nat) (ov:Value) (ps:List (LN)) (w:World),mF qa<f->(qa.length:Int)=t.nodes->n<=1000->path.length<=cp->path.length+f<=1000->(AP=none->path.length=0)->Ext w0 w->RdT w 3 AP (ints path)->Blk w gs 4 (bH qa).toArray->w0.heap.size<=gs->cJ w w0.heap.size ov ps->
  ps.length+(2*t.links.length+1)^f<=2^42->
  Calls prog 55 #[.agg #[vI t.nodes,.s AO t.over.length co,.s AL t.links.length cl],.s AD down.length cd,.s AP path.length cp,vI n,vI d,.s (sA gs) qa.length qa.length,ov] w fun e w'=>∃qp,e=.returned qp/\cJ w' w0.heap.size qp (ps++bM t down d f path n qa)/\Ext w0 w'/\bV w w':=by
 induction f with
 |zero=>intro path AP cp n qa gs ov ps w h;omega
 |succ f ih=>
 intro path AP cp n qa gs ov ps w hf vL hn zA zC vF vJ qx qw vl vR vK;have HT:=Hx (ht);have HV:=Hx (hv);have zj:=Hx (hdn);have IH:=Hx (ih);have HF:=Hx (hf);have v6:=Hx (vL);have X0:=Hx (vJ);have HP:=Hx (qx);have HS:=Hx (qw);have PS:=Hx (vR);have BD:=Hx (vK);have vc:=Hx (vF);have h3:=ht.ll;have h4:=ht.cl;have h5:qa.length<=1000:=by
  unfold aH cS inB at hv;simp at hv;omega
 clear ht hv hdn ih hf vL vJ qx qw vR vK vF;obtain⟨ti,hi,qQ,qV,qT⟩:=info_parts Tryz.info3;obtain⟨zx,zg,zt,zf,zn⟩:=info_parts Tryz.info39;obtain⟨qB,e0⟩:=bA w #[vI t.nodes,.s AO t.over.length co,.s AL t.links.length cl] 25;by_cases va:n=d
 ·have qo:bM t down d (f+1) path n qa=[path]:=by unfold bM;rw[qE va]
  rw[qo];have hb:((n:Int)==(d:Int))=true:=(by simp;omega);clear va qo;obtain⟨cells,pc,qM,v0⟩:=PS.o.ex;have vt:=Hx (qM);have zm:=Hx (v0);have PC:=Hx (pc);clear qM v0 pc
  go_enter func55,ntmps55
  go_wp2_with (at_builtin;go_must (refine pK _ rfl (.tmp 22) (.tmp 23) 42 rfl (w.heap.size+1) 3 ti (vI 0) 8 underlying42 hi qQ qV qT rfl (.s (sA (w.heap.size+1)) 0 0) 0 [] rfl ?c0 AP path.length cp (ints path) rfl ?c1 ?c2 ?c3 (mE _) ?c4 ?c5 ?c6 ?_))
  case c0=>have:=pL (w.alloc (.cells #[vI t.nodes,.s AO t.over.length co,.s AL t.links.length cl] 25)) (w.heap.size+1) 3 qS;simpa using this
  case c1=>exact(cW _).symm
  case c2=>exact HP.o.rd.K (e0.alloc _)
  case c3=>exact fun h=>.inr (vc.o h)
  case c4=>unfold maxLen;omega
  case c5=>omega
  case c6=>simp
  intro v3 w3 qg qe _;have e3:Ext w w3:=Below.grown (e0.alloc (.cells #[] 3)) qe (by simp;omega) (fun k hk=>by simp[Value.ownBlock]at hk;omega);obtain⟨A3,c3,rfl,zp,vO⟩:=iE (l:=path) qg qO;have e4:Ext w (w3.alloc (.cells #[.s A3 path.length c3] 42)):=e3.alloc _;have E4:=Hx (e4);have R3:=Hx (vO);clear qg qe vO e3 e4;have b1:ps.length+1<=4398046511104:=by
   have:=BD.o;have h1:1<=(2*t.links.length+1)^(f+1):=Nat.one_le_pow _ _ qO;omega
  have qy:=Hx (vt.o.kept (row:=none) (w':=w3.alloc (.cells #[.s A3 path.length c3] 42)) ⟨E4.o.os,E4.o.tape,E4.o.output,E4.o.size,fun k hk _=>E4.o.block k hk⟩ (by
   by_cases e:ov.ownBlock=none
   ·exact .inl e
   exact .inr e))
  go_wp2_with (at_builtin;go_must (refine pK _ rfl (.tmp 21) (.tmp 25) 64 rfl w0.heap.size 42 zx zN 24 underlying64 zg zt zf zn rfl ov ps.length cells rfl ?d0 (sA w3.heap.size) 1 1 [.s A3 path.length c3] rfl rfl ?d1 ?d2 ?d3 ?d4 ?d5 ?d6 ?_))
  case d0=>exact qy.o
  case d1=>exact Rd.new _ _ _ rfl rfl
  case d2=>intro h;cases h
  case d3=>intro u hu;simp at hu;subst hu;rfl
  case d4=>unfold maxLen;omega
  case d5=>omega
  case d6=>exact yY X0.o.size E4.o.size
  intro v5 w5 qi qh _;obtain⟨q1,q2,q3⟩:=cJ.push (p:=path) PC.o qy.o (fun i q hq=>by
   obtain⟨A',c',k1,k2,k3⟩:=zm.o i q hq;exact⟨A',c',k1,k2,k3.K E4.o⟩) (R3.o.K ((eR w3).alloc _)) zp (yY X0.o.size E4.o.size) qi qh
  have Q1:=Hx (q1);have Q2:=Hx ((bV.ofExt E4.o).trans q2);have Q3:=Hx ((X0.o.tr E4.o).trans q3);clear q1 q2 q3 qi qh;go_wp2;go_ret;exact⟨v5,rfl,Q1.o,Q3.o,Q2.o⟩
 have hb:((n:Int)==(d:Int))=false:=yK.2 qO;have qo:bM t down d (f+1) path n qa=if(0<path.length)/\bT t n=true then []else
  (aL t n).flatMap fun a=>if bZ down a||qa[(aK t a).toNat]?.getD false then []else bM t down d f (path++[a]) (aK t a).toNat (qa.set (aK t a).toNat true):=by
  rw[bM,qF va]
 generalize hE:bM t down d (f+1) path n qa=E at*;have HE:=Hx (qo);clear qo hE va;obtain⟨⟨i0,i1,i2⟩,g0,g1,g2⟩:=qB.t3
 go_enter func55,ntmps55
 go_upto_region 3 with fail
 go_cut [34] (fun s wx=>s=.bool (decide (0<path.length)&&bT t n)/\Blk wx w.heap.size 25 #[vI t.nodes,.s AO t.over.length co,.s AL t.links.length cl]/\Ext w wx)
 case first=>
  by_cases hp:0<path.length
  ·go_wp2_with fail
   refine(jzha t AO co AL cl n _ (HT.o.K (X0.o.tr e0)) HV.o).mono ?_;rintro e w1 ⟨rfl,qJ⟩;go_wp2;go_meet;exact⟨by simp[hp],qB.K qJ,e0.tr qJ⟩
  go_wp2_with fail
  go_meet;exact⟨by simp[hp],qB,e0⟩
 obtain⟨rfl,qB,hx⟩:=hcut;clear i0 i1 i2 g0 g1 g2 e0;obtain⟨⟨i0,i1,i2⟩,g0,g1,g2⟩:=qB.t3;cases hov:(decide (0<path.length)&&bT t n)
 case true=>
  have vg:E=[]:=by
   rw[HE.o,qE (by simpa using hov)]
  subst vg;have EX:=Hx (hx);clear hx hov;go_wp2;go_ret;exact⟨ov,rfl,by rw[List.append_nil];exact PS.o.K EX.o,X0.o.tr EX.o,bV.ofExt EX.o⟩
 have vT:E=(aL t n).flatMap (fJ t down d f path qa):=by
  rw[HE.o,qF (by simpa using hov)];rfl
 have zy:=Hx (vT);have EX:=Hx (hx);clear hx hov vT HE
 go_wp2_with fail
 refine(jzhc t AO co AL cl n _ (HT.o.K (X0.o.tr EX.o)) HV.o hll).mono ?_;rintro e w1 ⟨AR,cr,rfl,zF,v9,qJ⟩;have E1:=Hx (EX.o.tr qJ);have zo:=Hx (qB.K qJ);have RR:=Hx (v9);clear v9 qJ EX qB i0 i1 i2 g0 g1 g2;have ve:=lK t (2*t.links.length) n;change (aL t n).length<=_ at ve;generalize hL:(aL t n).length=L at*;have HL:=Hx (hL);clear hL;go_wp2
 go_loopw [6,16,17] (fun v it _ wr=>∃m:Nat,m<=L/\it=vI m/\cJ wr w0.heap.size v (ps++((aL t n).take m).flatMap (fJ t down d f path qa))/\Ext w0 wr/\bV w1 wr) (fun _ i _ _=>L-(intOf i).toNat)
 case atStart=>exact⟨0,yZ _,rfl,by rw[List.take_zero,List.flatMap_nil,List.append_nil];exact PS.o.K E1.o,X0.o.tr E1.o,bV.refl _⟩
 obtain⟨m,hm,rfl,vU,v4,v2⟩:=hrel;have PW:=Hx (vU);have q6:=Hx (v4);have KW:=Hx (v2);clear vU v4 v2;by_cases qA:m<L
 ·obtain⟨a,ha⟩:∃a,(aL t n)[m]?=some a:=⟨_,yG (by rw[HL.o];exact qA)⟩
  have zc:a<2*t.links.length:=jzaf (yJ ha);obtain⟨h,hh,zD⟩:=tA HV.o zc;have vz:h<qa.length:=(by have:=v6.o;omega);obtain⟨b,o,rfl,vn,vy⟩:=(KW.o.rdT qD RR.o).rd.at_ (i:=m) (by rw[cW,HL.o];exact qA);have qf:=vy m (by rw[cW,HL.o];exact qA);rw[pI _ _ (by rw[HL.o];exact qA),ha,kQ1]at qf;have qI:=KW.o.blk' qD zo.o;have v1:=KW.o.blk' qD ((bV.ofExt E1.o).blk' qD HS.o);obtain⟨⟨i0,i1,i2⟩,g0,g1,g2⟩:=qI.t3;have x0:=XW.cell _ _ _ qI.lt i0;have x1:=XW.cell _ _ _ qI.lt i1;have x2:=XW.cell _ _ _ qI.lt i2;have y0:=XW.cell _ _ _ vn qf;have HA:=Hx (ha);have HH:=Hx (hh);have za:=Hx (qI);have HSW:=Hx (v1);clear ha hh vy qI v1
  go_wp2_with fail
  refine dG qK qK ?_
  repeat (go_big_quiet_step ((go_at_call 120;exact Calls.ext_of (jzg9 t AO co AL cl a _ (HT.o.K (q6.o.tr (XW.ext _))) HV.o zc))))
  refine wpQuiet_nil ?_;rintro _ ⟨x,rfl⟩;rw[HH.o];have qz:=x.ext;have qf:=y0 x;clear x0 x1 x2 y0 i0 i1 i2 g0 g1 g2;generalize x.val=w2 at*;clear x;have qH:=za.o.K qz;have qn:=HSW.o.K qz;have q9:=Hx (PW.o.K qz);have qU:=Hx (q6.o.tr qz);have qC:=Hx (KW.o.trans (bV.ofExt qz));have zu:b<w2.heap.size:=yL vn qz.size;clear qz PW q6 KW za HSW vn;obtain⟨⟨i0,i1,i2⟩,g0,g1,g2⟩:=qH.t3;have vu:=qn.cell h;have zb:=qn.frozen h;obtain⟨sb,vp⟩:∃sb,qa[h]?=some sb:=⟨_,yG vz⟩;have vG:(bH qa).toArray[h]?=some (.bool sb):=(by simp[bH,vp]);rw[vG]at vu;have vo:=Hx (vp);clear vp vG
  go_wp2_with fail
  refine(jzhb AD cd down a _ (zj.o.K qU.o)).mono ?_;rintro e w3 ⟨rfl,rfl⟩;have TS:=Hx (show((aL t n).take (m+1)).flatMap (fJ t down d f path qa)=((aL t n).take m).flatMap (fJ t down d f path qa)++fJ t down d f path qa a by
   rw[kQr,HA.o,List.flatMap_append];simp)
  have GA:=Hx (show fJ t down d f path qa a=if bZ down a||sb then []else bM t down d f (path++[a]) h (qa.set h true) by
   unfold fJ;rw[HH.o,xL,vo.o];rfl)
  cases hdn:bZ down a
  case true=>
   rw[hdn]at GA;go_wp2
   go_roundw
   case rel=>exact⟨m+1,qO,by go_num,by rw[TS.o,GA.o];simpa using q9.o,qU.o,qC.o⟩
   simp[intOf];omega
  rw[hdn]at GA;cases sb
  case true=>
   go_wp2
   go_roundw
   case rel=>exact⟨m+1,qO,by go_num,by rw[TS.o,GA.o];simpa using q9.o,qU.o,qC.o⟩
   simp[intOf];omega
  go_upto_region 12 with fail
  go_cut [6] (fun s wx=>cJ wx w0.heap.size s (ps++((aL t n).take (m+1)).flatMap (fJ t down d f path qa))/\Ext w0 wx/\bV (w2.setCell (aD gs h) (.bool true)) wx)
  case first=>
   have sw:=qn.sT h (.bool true);have bw:=qH.far (p:=(aD gs h)) (fun e=>by
    have h1:=qH;have h2:=qn;unfold Blk at h1 h2;simp only[]at e;rw[e,h2]at h1;injection h1 with h1
    injection h1 with _ h1
    revert h1;decide) (.bool true)
   have vx:=(qC.o.rdT qD RR.o).sT (p:=(aD gs h)) qn qD (.bool true);have pw:=((qC.o.rdT qD (HP.o.K E1.o)).sT (p:=(aD gs h)) qn qD (.bool true));have v7:=q9.o.sT (p:=(aD gs h)) qn (.bool true);have xw:=Ext.sT qU.o (p:=(aD gs h)) vl (.bool true);have vH:w.heap.size<w2.heap.size:=qH.lt;clear i0 i1 i2 g0 g1 g2 qf vu zb;have vZ:Blk (w2.setCell (aD gs h) (.bool true)) gs 4 (bH (qa.set h true)).toArray:=by
    have e:((bH qa).toArray.setIfInBounds h (.bool true))=(bH (qa.set h true)).toArray:=by
     apply Array.ext';simp[bH,List.map_set]
    rw[<-e];exact sw
   have zd:(ps++((aL t n).take m).flatMap (fJ t down d f path qa)).length+(2*t.links.length+1)^f<=2^42:=by
    have h1:=jzhg t down d f path qa ((aL t n).take m);have h2:((aL t n).take m).length<=m:=(by simp;omega);have h3:=BD.o;rw[vD]at h3;have h4:((aL t n).take m).length*(2*t.links.length+1)^f<=m*(2*t.links.length+1)^f:=xS _ h2;have h5:m*(2*t.links.length+1)^f+(2*t.links.length+1)^f=(m+1)*(2*t.links.length+1)^f:=(by rw[xP,xQ]);have h6:(m+1)*(2*t.links.length+1)^f<=(2*t.links.length+1)*(2*t.links.length+1)^f:=xS _ qO;have h7:(2*t.links.length+1)^f*(2*t.links.length+1)=(2*t.links.length+1)*(2*t.links.length+1)^f:=vE _ _;rw[yQ];omega
   have zz:=jzae vo.o;generalize hW:w2.setCell (aD gs h) (.bool true)=W at*;have vq:w.heap.size<W.heap.size:=(by rw[<-hW];simpa [World.setCell]using vH);clear hW sw qn qH q9 qU qC vH;have qt:∀(A5:OA) (c5:Nat) (W5:World),Ext W W5->RdT W5 3 A5 (ints (path++[a]))->path.length+1<=c5->(A5=none->path.length+1=0)->
     Calls prog 55 #[.agg #[vI t.nodes,.s AO t.over.length co,.s AL t.links.length cl],.s AD down.length cd,.s A5 (path.length+1) c5,vI h,vI d,.s (sA gs) qa.length qa.length,u6] W5 fun e w'=>∃qp,e=.returned qp/\cJ w' w0.heap.size qp ((ps++((aL t n).take m).flatMap (fJ t down d f path qa))++bM t down d f (path++[a]) h (qa.set h true))/\Ext w0 w'/\bV W w':=by
    intro A5 c5 W5 qY q7 zv zq;have hl:(path++[a]).length=path.length+1:=qS;have vV:(qa.set h true).length=qa.length:=qS;have:=IH.o (path++[a]) A5 c5 h (qa.set h true) gs u6 _ W5 (by have:=HF.o;omega) (by rw[vV];exact v6.o) qO (by rw[hl];exact zv) (by rw[hl];omega) (by rw[hl];exact zq) (xw.tr qY) q7 (vZ.K qY) vl (v7.K qY) zd;rw[hl,vV]at this;exact this.mono fun e w' ⟨qp,k1,k2,k3,k4⟩=>⟨qp,k1,k2,k3,(bV.ofExt qY).trans k4⟩
   have vd:=Hx (qt);have vj:=Hx (pw.rd);have zw:=Hx (bw);have zi:=Hx (vx);obtain⟨_,_,e',vk,qW⟩:=vx.rd.at_ (i:=m) (by rw[cW,HL.o];exact qA);injection e' with e'
   injection e' with e1' e2'
   subst e1' e2';have qf:=qW m (by rw[cW,HL.o];exact qA);rw[pI _ _ (by rw[HL.o];exact qA),HA.o,kQ1]at qf;obtain⟨⟨i0,i1,i2⟩,_⟩:=bw.t3;clear qt pw vx v7 xw vZ zd zz qW bw;have KK:=Hx ((show w.heap.size<W.heap.size/\b<W.heap.size from⟨vq,vk⟩));have b1:path.length+1<=1000:=qO;have j0:=i0;have j1:=i1;have j2:=i2;have qj:=qf;have qX:Hid (Ext W (W.alloc (.cells #[] 3)).drew):=Hx (((eR W).alloc _).drewN 1);have q8:Hid (Ext W ((W.alloc (.cells #[] 3)).alloc (.cells #[vI (a:Int)] 3)).drew):=Hx ((((eR W).alloc _).alloc _).drewN 1);have q5:Hid (Ext W ((W.alloc (.cells #[vI (a:Int)] 3)).alloc (.cells #[] 3)).drew):=Hx ((((eR W).alloc _).alloc _).drewN 1);have vh:Hid ((W.alloc (.cells #[] 3)).drew.ownsRow W.heap.size 3 1 (.s (sA W.heap.size) 0 0) 0 []):=Hx (pL W _ _ (yX _));have vw:Hid (((W.alloc (.cells #[] 3)).alloc (.cells #[vI (a:Int)] 3)).drew.ownsRow W.heap.size 3 1 (.s (sA W.heap.size) 0 0) 0 []):=Hx ((pL W _ _ (yX _)).alloc _);have vm:=Hx (show((W.alloc (.cells #[vI (a:Int)] 3)).alloc (.cells #[] 3)).drew.ownsRow W.heap.size 3 1 (.s (sA (W.heap.size+1)) 0 0) 0 [] by
    have:=pL (W.alloc (.cells #[vI (a:Int)] 3)) W.heap.size 3 qS;simp at this;exact this)
   have zs:Hid (Rd ((W.alloc (.cells #[] 3)).alloc (.cells #[vI (a:Int)] 3)).drew (sA (W.heap.size+1)) [vI (a:Int)]):=Hx (Rd.new (W.alloc (.cells #[] 3)) _ _ qS rfl);have zk:Hid (Rd ((W.alloc (.cells #[vI (a:Int)] 3)).alloc (.cells #[] 3)).drew (sA W.heap.size) [vI (a:Int)]):=Hx ((Rd.new W 3 #[vI (a:Int)] rfl rfl).K (Ext.drewN (Ext.alloc (eR _) _) 1))
   go_region_held3 (fun w'=>w'.cell? (aD w.heap.size 0)=some (vI t.nodes)/\w'.cell? (aD w.heap.size 1)=some (.s AO t.over.length co)/\w'.cell? (aD w.heap.size 2)=some (.s AL t.links.length cl)/\
     w'.cell? (aD b (o+m))=some (vI (a:Int))) (first
    |exact⟨i0,i1,i2,qf⟩
    |exact⟨aU i0 _,aU i1 _,aU i2 _,aU qf _⟩
    |exact⟨aU (aU i0 _) _,aU (aU i1 _) _,aU (aU i2 _) _,aU (aU qf _) _⟩)
    (first
    |(rw[qE qR]
      refine mD _ (.tmp 68) (.tmp 69) 42 qR W.heap.size 3 ti (vI 0) 8 underlying42 hi qQ qV qT rfl (.s (sA W.heap.size) 0 0) 0 [] qR vh.o AP path.length cp (ints path) qR (cW _).symm (vj.o.K qX.o) (fun h=>.inr (vc.o h)) (mE _) (by unfold maxLen;omega) qO qX.o.size ?_;intro v3 w3 qg qe _;have e3:Ext W w3:=Below.grown qX.o qe qX.o.size (fun k hk=>by simp[Value.ownBlock]at hk;omega);have i0:=(e3.cell (p:=(aD w.heap.size 0)) KK.o.1).trans j0;have i1:=(e3.cell (p:=(aD w.heap.size 1)) KK.o.1).trans j1;have i2:=(e3.cell (p:=(aD w.heap.size 2)) KK.o.1).trans j2;have qf:=(e3.cell (p:=(aD b (o+m))) KK.o.2).trans qj;have E3:=Hx e3;rw[kQu,List.nil_append]at qg;have qk:=Hx qg;clear e3 qg qe)
    |(rw[qE qR]
      refine mD _ (.tmp 68) (.tmp 69) 42 qR W.heap.size 3 ti (vI 0) 8 underlying42 hi qQ qV qT rfl (.s (sA W.heap.size) 0 0) 0 [] qR vw.o AP path.length cp (ints path) qR (cW _).symm (vj.o.K q8.o) (fun h=>.inr (vc.o h)) (mE _) (by unfold maxLen;omega) qO q8.o.size ?_;intro v3 w3 qg qe _;have e3:Ext W w3:=Below.grown q8.o qe q8.o.size (fun k hk=>by simp[Value.ownBlock]at hk;omega);have v8:Rd w3 (sA (W.heap.size+1)) [vI (a:Int)]:=jzag zs.o qe (by simp[Value.ownBlock]);have i0:=(e3.cell (p:=(aD w.heap.size 0)) KK.o.1).trans j0;have i1:=(e3.cell (p:=(aD w.heap.size 1)) KK.o.1).trans j1;have i2:=(e3.cell (p:=(aD w.heap.size 2)) KK.o.1).trans j2;have qf:=(e3.cell (p:=(aD b (o+m))) KK.o.2).trans qj;have E3:=Hx e3;rw[kQu,List.nil_append]at qg;have qk:=Hx qg;clear e3 qg qe)
    |(rw[qE qR]
      refine mD _ (.tmp 68) (.tmp 69) 42 qR W.heap.size 3 ti (vI 0) 8 underlying42 hi qQ qV qT rfl (.s (sA (W.heap.size+1)) 0 0) 0 [] qR vm.o AP path.length cp (ints path) qR (cW _).symm (vj.o.K q5.o) (fun h=>.inr (vc.o h)) (mE _) (by unfold maxLen;omega) qO q5.o.size ?_;intro v3 w3 qg qe _;have e3:Ext W w3:=Below.grown q5.o qe q5.o.size (fun k hk=>by simp[Value.ownBlock]at hk;omega);have v8:Rd w3 (sA W.heap.size) [vI (a:Int)]:=jzag zk.o qe (by simp[Value.ownBlock]);have i0:=(e3.cell (p:=(aD w.heap.size 0)) KK.o.1).trans j0;have i1:=(e3.cell (p:=(aD w.heap.size 1)) KK.o.1).trans j1;have i2:=(e3.cell (p:=(aD w.heap.size 2)) KK.o.1).trans j2;have qf:=(e3.cell (p:=(aD b (o+m))) KK.o.2).trans qj;have E3:=Hx e3;rw[kQu,List.nil_append]at qg;have qk:=Hx qg;clear e3 qg qe)
    |(rw[qE qR]
      refine mD _ (.tmp 70) (.tmp 75) 42 qR W.heap.size 3 ti (vI 0) 8 underlying42 hi qQ qV qT rfl v3 path.length (ints path) qR (by first|exact qk.o|exact qk.o.alloc _) _ 1 1 [vI (a:Int)] qR rfl (by first|exact v8|exact Rd.new _ _ _ rfl rfl) (fun h=>by cases h) (fun u hu=>by simp at hu;subst hu;rfl) (by unfold maxLen;omega) qO (by first|exact E3.o.size|exact(E3.o.alloc _).size) ?_;intro v5 w5 qi qh _;have e5:Ext W w5:=(by first|exact Below.grown E3.o qh E3.o.size (fun k hk=>(qk.o.lt k hk).1)|exact Below.grown (E3.o.alloc _) qh (E3.o.alloc _).size (fun k hk=>(qk.o.lt k hk).1));have qm:w5.ownsRow W.heap.size 3 1 v5 (path.length+1) (ints (path++[a])):=(by rw[kU];exact qi);obtain⟨g5,c5,rfl⟩:∃g5 c5,v5=.s (sA g5) (path.length+1) c5:=by
       rcases qm.2 with⟨_,hq⟩|⟨g5,c5,_,hq,_⟩
       ·omega
       exact⟨g5,c5,hq⟩
      have q7:RdT w5 3 (sA g5) (ints (path++[a]))/\path.length+1<=c5:=by
       obtain⟨A',c',q1,q2,q3⟩:=iE (l:=path++[a]) qm qS;injection q1 with q1 _ q4
       subst q1 q4;rw[yQ]at q2;exact⟨q3,q2⟩
      have i0:=(e5.cell (p:=(aD w.heap.size 0)) KK.o.1).trans j0;have i1:=(e5.cell (p:=(aD w.heap.size 1)) KK.o.1).trans j1;have i2:=(e5.cell (p:=(aD w.heap.size 2)) KK.o.1).trans j2;have qf:=(e5.cell (p:=(aD b (o+m))) KK.o.2).trans qj;have E5:=Hx e5;have R5:=Hx q7;clear e5 qi qh qm q7)
    |(go_at_call 55
      refine(vd.o _ _ _ E5.o R5.o.1 R5.o.2 (fun h=>by cases h)).mono ?_;rintro e w6 ⟨qp,rfl,q1,q2,q3⟩;obtain⟨⟨i0,i1,i2⟩,_⟩:=(q3.blk' qD zw.o).t3;have qf:=(q3.rdT qD zi.o).get_ HA.o;have Q1:=Hx q1;have Q2:=Hx q2;have Q3:=Hx q3;clear q1 q2 q3))
   all_goals
    go_wp2;go_meet;exact⟨by rw[TS.o,GA.o, <-List.append_assoc];exact Q1.o,Q2.o,Q3.o⟩
  obtain⟨vW,ze,vi⟩:=hcut;have qZ:=vi.blk' qD (qn.sT h (.bool true));have KC:=Hx (qC.o.trans (bV.round qn vo.o vi));have PC:=Hx (vW.sT (p:=(aD gs h)) qZ bF);have XC:=Hx (Ext.sT ze (p:=(aD gs h)) vl bF);have zE:wc.cell? (aD gs h)=some (.bool true):=(qZ.cell h).trans (by simp[bH,vz]);have zB:=qZ.frozen h;clear vW ze vi qZ qn qH i0 i1 i2 g0 g1 g2 qf vu zb;go_wp2
  go_roundw
  case rel=>exact⟨m+1,qO,by go_num,PC.o,XC.o,KC.o⟩
  simp[intOf];omega
 have zh:m=L:=qO;subst zh;have PF:=Hx (show cJ _ w0.heap.size _ (ps++E) by
  have:=PW.o;rw[yU (by rw[HL.o];exact yX _), <-zy.o]at this;exact this)
 have KF:=Hx ((bV.ofExt E1.o).trans KW.o);go_wp2;go_ret;exact⟨_,rfl,PF.o,q6.o,KF.o⟩
theorem Tryz.info4:(prog.info? 4).map (fun i=>(i.zero,i.size,i.bytes))=some (some bF,1,1):=by kernel_rfl
def kV(t:Tp)(down:List Bool)(s d:Nat):List (LN):=bM t down d t.nodes.toNat [] s ((List.replicate t.nodes.toNat false).set s true)
theorem jzhi(N:Nat):mF (List.replicate N false)=N:=by unfold mF;simp
theorem jzhj t AO(co:Nat)AL(cl:Nat)AD(cd:Nat)(down:List Bool)(s d:Nat)w(ht:bD w t AO co AL cl)(hv:aH t=true)(hdn:Rd w AD (bH down))(hdl:down.length<=600)
  (hs:(s:Int)<t.nodes) (hd:(d:Int)<t.nodes) (hb:(2*t.links.length+1)^t.nodes.toNat<=2^42):
  Calls prog 16 #[.agg #[vI t.nodes,.s AO t.over.length co,.s AL t.links.length cl],.s AD down.length cd,vI s,vI d] w fun e w'=>∃v,e=.returned v/\cJ w' w.heap.size v (kV t down s d)/\Ext w w':=by
 have hN:∃N:Nat,t.nodes=(N:Int)/\N<=64/\t.links.length<=256:=(by unfold aH cS inB at hv;simp at hv;exact⟨t.nodes.toNat,qO,qO,qO⟩)
 obtain⟨N,qh,qB,qw⟩:=hN;have qg:kV t down s d=bM t down d N [] s ((List.replicate N false).set s true):=(by unfold kV;rw[qh];rfl);rw[qg];have qa:(Value.agg #[vI t.nodes,.s AO t.over.length co,.s AL t.links.length cl])=.agg #[vI (N:Int),.s AO t.over.length co,.s AL t.links.length cl]:=(by rw[qh]);rw[qa];have qt:(2*t.links.length+1)^N<=2^42:=(by have:=hb;rw[qh]at this;exact this);have qo:s<N:=qO;have qA:d<N:=qO;have qf:((List.replicate N false).set s true).length=N:=qS;have qp:=jzae (l:=List.replicate N false) (k:=s) (by simp[qo]);rw[jzhi]at qp;have qe:∀(W:World) (gs:Nat),Ext w W->w.heap.size<=gs->Blk W gs 4 (bH ((List.replicate N false).set s true)).toArray->
   Calls prog 55 #[.agg #[vI (N:Int),.s AO t.over.length co,.s AL t.links.length cl],.s AD down.length cd,zN,vI s,vI d,.s (sA gs) N N,zN] W fun e w'=>∃ov',e=.returned ov'/\cJ w' w.heap.size ov' (bM t down d N [] s ((List.replicate N false).set s true))/\Ext w w':=by
  intro W gs hW qx qm;have:=jzhh t AO co AL cl AD cd down d w ht hv qw hdn hdl qO N [] none 0 s ((List.replicate N false).set s true) gs zN [] W qO (by rw[qf];exact qh.symm) qO (yX _) (by simp;omega) (fun _=>rfl) hW (RdT.nil _ _ _) qm qx (cJ.nil _ _) (by simpa using qt);rw[qf,qa]at this;exact this.mono fun e w' ⟨ov',k1,k2,k3,_⟩=>⟨ov',k1,k2,k3⟩
 have qj:=Hx (qe);have h3:=ht.ll;have h4:=ht.cl;obtain⟨qn,e0⟩:=bA w #[vI (N:Int),.s AO t.over.length co,.s AL t.links.length cl] 25;have qy:=run_make_row' (P:=prog) 22 4 bF 1 underlying22 Tryz.info4 rfl .i64 .i64 N qO qO;have qi:(madeCells #[bF] N).setIfInBounds s (.bool true)=(bH ((List.replicate N false).set s true)).toArray:=(by apply Array.ext';rw[Array.toList_setIfInBounds,toList_madeCells_one];simp[bH,List.map_set]);have qk:=Hx (qi);clear ht hv hdn qg qa hb qt qf qp qe qh qi hs hd;obtain⟨⟨i0,i1,i2⟩,g0,g1,g2⟩:=qn.t3;have qz:(madeCells #[bF] N)[s]?=some bF:=(by rw[<-kQw,toList_madeCells_one];simp[qo]);have E0:=Hx (e0);clear qn e0;go_enter func16,ntmps16;go_wp2_with fail;rw[qk.o];refine(qj.o _ _ (E0.o.alloc _) (Nat.le_succ _) (Blk.new' _ _ _ qS)).mono ?_;rintro e w2 ⟨v,rfl,q1,q2⟩;have Q1:=Hx (q1);have Q2:=Hx (q2);clear q1 q2;go_wp2;go_ret;exact⟨v,rfl,Q1.o,Q2.o⟩
theorem cJ.form{w}{B:Nat}{v:Value}{ps:List (LN)}(h:cJ w B v ps):∃A c,v=.s A ps.length c:=by
 obtain⟨cells,_,h2,_⟩:=h.ex;rcases h2.2 with⟨h3,h4⟩|⟨g,cap,_,h3,_⟩
 ·exact⟨none,0,by rw[h4];exact h3⟩
 exact⟨_,_,h3⟩
def fK(t:Tp)(s d:Int):Bool:=decide (s<0)||decide (s≥t.nodes)||decide (d<0)||decide (d≥t.nodes)
theorem jzhk{α:Type}[DecidableEq α]{l1 l2:List α}{m:Nat}{a b:α}(h:l1.take m=l2.take m)(h1:l1[m]?=some a)(h2:l2[m]?=some b)(hab:a=b):l1.take (m+1)=l2.take (m+1):=by
 rw[kQr,kQr,h,h1,h2,hab]
theorem Rd.ints_{w}{A}{l:LN}(h:Rd w A (ints l)){k:Nat}(hk:k<l.length):
  ∃b o,A=some (aD b o)/\b<w.heap.size/\w.cell? (aD b (o+k))=some (vI ((l[k]?.getD 0:Nat):Int)):=by
 obtain⟨b,o,e,hb,hc⟩:=h.at_ (i:=k) (by rw[cW];exact hk);exact⟨b,o,e,hb,(hc k (by rw[cW];exact hk)).trans (pI l k hk)⟩
theorem jzhl A1 A2(c1 c2:Nat)(l1 l2:LN)w(hr1:Rd w A1 (ints l1))(hr2:Rd w A2 (ints l2))(hc1:l1.length<=c1)(hc2:l2.length<=c2)(hl1:l1.length<=4398046511104)(hl2:l2.length<=4398046511104):
  Calls prog 62 #[.s A1 l1.length c1,.s A2 l2.length c2] w fun e w'=>e=.returned (.bool (decide (l1=l2)))/\Ext w w':=by
 have R1:=Hx (hr1);have R2:=Hx (hr2);clear hr1 hr2;by_cases hl:l1.length=l2.length;{(have hL:((l1.length:Int) !=(l2.length:Int))=false:=by simp;omega);have HL:=Hx (hl);clear hl;generalize hB:decide (l1=l2)=B;have HB:=Hx (hB);clear hB;go_enter func62,ntmps62;go_wp2_with fail;(go_loopw [5] (fun it wr=>∃m:Nat,m<=l1.length/\it=vI m/\l1.take m=l2.take m/\Ext w wr) (fun i _=>l1.length-(intOf i).toNat));exact⟨0,yZ _,rfl,qS,eR w⟩;obtain⟨m,hm,rfl,qi,hx⟩:=hrel;have TK:=Hx (qi);have EX:=Hx (hx);clear qi hx;by_cases qk:m<l1.length;{(have qf:m<l2.length:=by have:=HL.o;omega);obtain⟨a,ha⟩:∃a,l1[m]?=some a:=⟨_,yG qk⟩;obtain⟨b,hb⟩:∃b,l2[m]?=some b:=⟨_,yG qf⟩;obtain⟨b1,o1,rfl,qo,qe⟩:=(R1.o.K EX.o).ints_ qk;obtain⟨b2,o2,rfl,qn,qa⟩:=(R2.o.K EX.o).ints_ qf;rw[ha,kQ1]at qe;rw[hb,kQ1]at qa;have x1:=XW.cell _ _ _ qo qe;have x2:=XW.cell _ _ _ qn qa;have HA:=Hx (ha);have qj:=Hx (hb);clear ha hb qe qa;go_wp2_with fail;refine dG qK qK ?_;(repeat (go_big_quiet_step (fail)));refine wpQuiet_nil ?_;rintro _ ⟨x,rfl⟩;have qg:=x.ext;clear x1 x2;generalize x.val=w2 at*;clear x;have E2:=Hx (EX.o.tr qg);clear qg;by_cases qh:a=b;{subst qh;go_wp2;go_roundw;(case rel=>exact⟨m+1,qO,by go_num,jzhk TK.o HA.o qj.o rfl,E2.o⟩);simp[intOf];omega};have qp:((a:Int) !=(b:Int))=true:=(by simp;omega);have hB:B=false:=(by (rw[<-HB.o];apply yP;rintro rfl;have:=HA.o.symm.trans qj.o;injection this with this);exact qh this);subst hB;go_wp2;go_ret;exact⟨rfl,E2.o⟩};have qm:m=l1.length:=qO;subst qm;have hB:B=true:=(by rw[<-HB.o];apply yO;have:=TK.o;rw[yU (yX _),HL.o,yU (yX _)]at this;exact this);subst hB;go_wp2;go_ret;exact⟨rfl,EX.o⟩};have hL:((l1.length:Int) !=(l2.length:Int))=true:=(by simp;omega);have hB:decide (l1=l2)=false:=yP (fun e=>hl (by rw[e]));rw[hB];clear hl hB;go_enter func62,ntmps62;go_wp2;go_ret;exact⟨rfl,eR w⟩
section
variable {P:Program} (w:World)
end
def on(l:List Bool)(x:Nat):Prop:=l[x]?.getD false=true
theorem RdT.grown{w w'}{t:TypeId}{A}{xs:List Value}{row:Option Nat}(h:RdT w t A xs)(hg:w.grownBy w' row)(hne:xs≠ []->∀a,A=some a->some a.block≠row):RdT w' t A xs:=fun hx=>by
 obtain⟨b,o,cs,fr,e,hb,hc⟩:=h hx;exact⟨b,o,cs,fr,e,(hg.block b (iF hb) (hne hx _ e)).trans hb,hc⟩
section
variable {w0 wR w w':World} {gs:Nat} {clo:Value} {vis:List Bool} {ps:List (List Nat)} {path:List Nat} {pv qv:Value}
theorem eZ(hx:Ext w w'):w.grownBy w' none:=⟨hx.os,hx.tape,hx.output,hx.size,fun k hk _=>hx.block k hk⟩
theorem fA(v:Value):v.ownBlock=none\/v.ownBlock≠none:=Classical.em _
theorem aM(w:World)(g k:Nat)(u:Value):w.grownBy (w.setCell (aD g k) u) (some g):=
 ⟨rfl,rfl,rfl,by simp[World.setCell],fun i _ hne=>Below.heap_setCell w (aD g k) u i (fun e=>hne (by rw[e]))⟩
theorem jzhm{B n g:Nat}{e:TypeId}{v:Value}{xs:List Value}(h:w.ownsRow B e 1 v n xs)(hg:g<B):v.ownBlock=none\/v.ownBlock≠some g:=by
 right;intro e;have:=(h.lt g e).1;omega
end
end Go.Proofs.YtfeeacaofjpkaaaGreatDoor
