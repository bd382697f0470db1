/- Part 5 of 26 of what the Flows claims share (the white space is struck, the texts are joined). -/
import Derived.Lib.OwnKind
import Derived.Deep.Onto
import Derived.Deep.AppendSrc
import Derived.Test.YtojpooidhilnfaaGreatDoorH04
set_option linter.unusedVariables false
set_option linter.unusedSimpArgs false
set_option maxRecDepth 100000
set_option maxHeartbeats 8000000
namespace Go.Proofs.YtojpooidhilnfaaGreatDoor
open Go.Proofs.Tryz
open Go.RowKit
structure bQ(w w':World):Prop where
 size:w.heap.size<=w'.heap.size
 blk:∀(i:Nat) (cs:Array Value) (t:TypeId) (fr:Nat×Nat),t≠44->w.heap[i]?=some (.cells cs t fr)->w'.heap[i]?=some (.cells cs t fr)
theorem bQ.refl w:bQ w w:=⟨yX _,fun _ _ _ _ _ h=>h⟩
theorem bQ.trans{a b c}(h:bQ a b)(k:bQ b c):bQ a c:=⟨yY h.size k.size,fun i cs t fr ht hi=>k.blk i cs t fr ht (h.blk i cs t fr ht hi)⟩
theorem iE{w:World}{i:Nat}{o:Obj}(h:w.heap[i]?=some o):i<w.heap.size:=by
 rcases kQd i w.heap.size with hlt|hge
 ·exact hlt
 rw[kQn hge]at h;cases h
theorem bQ.ofExt{w w'}(h:Ext w w'):bQ w w':=⟨h.size,fun i _ _ _ _ hi=>(h.block i (iE hi)).trans hi⟩
theorem bQ.rdT{w w'}{t:TypeId}{A}{xs:List Value}(h:bQ w w')(ht:t≠44)(hr:RdT w t A xs):RdT w' t A xs:=fun hne=>by
 obtain⟨b,o,cs,fr,e,hb,hc⟩:=hr hne;exact⟨b,o,cs,fr,e,h.blk b cs t fr ht hb,hc⟩
theorem bQ.blk'{w w'}{g:Nat}{t:TypeId}{cs:Array Value}(h:bQ w w')(ht:t≠44)(hb:Blk w g t cs):Blk w' g t cs:=h.blk g cs t (0,0) ht hb
theorem bQ.grown{w w':World}{row:Option Nat}(hg:w.grownBy w' row)(hr:∀k,row=some k->∃cs fr,w.heap[k]?=some (.cells cs 44 fr)):bQ w w':=
 ⟨hg.size,fun i cs t fr ht hi=>by
  refine(hg.block i (iE hi) (fun e=>?_)).trans hi;obtain⟨qe,qa,h'⟩:=hr i e.symm;rw[hi]at h';injection h' with h'
  injection h' with _ h'
  exact ht h'⟩
theorem bQ.round{w w2}{g k:Nat}{l:List Bool}(hb:Blk w g 4 (bD l).toArray)(hk:l[k]?=some false)(h:bQ (w.setCell (aD g k) (.bool true)) w2):bQ w (w2.setCell (aD g k) (.bool false)):=by
 have h1:=hb.sT k (.bool true);have h2:=h.blk' (by decide) h1;have h3:=h2.sT k (.bool false);have e:((bD l).toArray.setIfInBounds k (.bool true)).setIfInBounds k (.bool false)=(bD l).toArray:=(by apply Array.ext';simp only[yD,List.set_set];apply uK;intro i;by_cases e:i=k;{subst e;obtain⟨qa,he⟩:=yH.1 hk;rw[yM (by simpa [bD]using qa)];simp[bD,hk]};rw[vN (fun h=>e h.symm)]);rw[e]at h3;refine⟨yY (by simp[World.setCell]) (yY h.size (by simp[World.setCell])),fun i cs t fr ht hi=>?_⟩;by_cases e:i=g;{subst e;unfold Blk at hb h3;rw[hb]at hi;rw[h3];exact hi};have h4:(w.setCell (aD g k) (.bool true)).heap[i]?=some (.cells cs t fr):=(Below.heap_setCell w (aD g k) _ i e).trans hi;exact(Below.heap_setCell w2 (aD g k) _ i e).trans (h.blk i cs t fr ht h4)
theorem cH.K{w w'}{B:Nat}{v:Value}{ps:List (LN)}(h:cH w B v ps)(hx:Ext w w'):cH w' B v ps:=by
 obtain⟨cells,h1,h2,h3⟩:=h.ex;refine⟨cells,h1,h2.kept (row:=none) ⟨hx.os,hx.tape,hx.output,hx.size,fun k hk _=>hx.block k hk⟩ ?_,fun i p hp=>?_⟩;{by_cases e:v.ownBlock=none;{exact .inl e};exact .inr e};obtain⟨A,c,h4,h5,h6⟩:=h3 i p hp;exact⟨A,c,h4,h5,h6.K hx⟩
theorem cH.sT{w}{B:Nat}{v:Value}{ps:List (LN)}(h:cH w B v ps){p:Addr}{cs:Array Value}(hp:Blk w p.block 4 cs)(u:Value):cH (w.setCell p u) B v ps:=by
 obtain⟨cells,h1,h2,h3⟩:=h.ex;refine⟨cells,h1,⟨h2.1,?_⟩,fun i q hq=>?_⟩;{(rcases h2.2 with h4|⟨g',cap,cur,h4,h5,h6,h7⟩);{exact .inl h4};(refine .inr ⟨g',cap,cur,h4,h5,(Below.heap_setCell w p u g' ?_).trans h6,h7⟩;rintro rfl;unfold Blk at hp;rw[h6]at hp;injection hp with hp);(injection hp with _ ht);revert ht;decide};obtain⟨A,c,h4,h5,h6⟩:=h3 i q hq;exact⟨A,c,h4,h5,h6.sT hp (by decide) u⟩
theorem cH.snoc{w w1:World}{B:Nat}{v v':Value}{ps:List (LN)}{p:LN}{A:OA}{c:Nat}{cells:List Value}(h1:cells.length=ps.length)
  (h3:∀(i:Nat) (q:LN),ps[i]?=some q->∃(A:OA) (c:Nat),cells[i]?=some (.s A q.length c)/\q.length<=c/\RdT w1 3 A (ints q))
  (hp:RdT w1 3 A (ints p)) (hc:p.length<=c) (hown:w1.ownsRow B 44 1 v' (ps.length+1) (cells++[.s A p.length c])):cH w1 B v' (ps++[p]):=by
 refine⟨cells++[.s A p.length c],by simp[h1],by rw[yQ];exact hown,fun i q hq=>?_⟩;by_cases e:i<ps.length;{rw[yR e]at hq;obtain⟨A',c',h4,h5,h6⟩:=h3 i q hq;exact⟨A',c',by rw[yR (by omega)];exact h4,h5,h6⟩};rw[yS (by omega)]at hq;have hi:i=ps.length:=(by have:=(yH.1 hq).1;simp at this;omega);subst hi;simp at hq;subst hq;exact⟨A,c,by rw[yS (by omega),h1];simp,hc,hp⟩
def cU(t:Tp)(down:List Bool)(d:Nat):Nat->LN->Nat->List Bool->List (LN)
 |0,_,_,_=>[]
 |f+1,path,at_,seen=>if at_=d then [path]else if(0<path.length)/\bH t at_=true then []else
  (aM t at_).flatMap fun a=>if bZ down a||seen[(aH t a).toNat]?.getD false then []else cU t down d f (path++[a]) (aH t a).toNat (seen.set (aH t a).toNat true)
def mK(l:List Bool):Nat:=l.count false
theorem jzax{l:List Bool}{k:Nat}(h:l[k]?=some false):mK (l.set k true)+1=mK l:=by
 unfold mK;(induction l generalizing k with|nil=>simp at h|cons b l ih=>(cases k with|zero=>simp at h;subst h;simp|succ k=>simp at h;have:=ih h;cases b <;> simp[yF] <;> omega))
theorem jzh3 t(down:List Bool)(d:Nat):∀(f:Nat) (path:LN) (n:Nat) (qa:List Bool),(cU t down d f path n qa).length<=(2*t.links.length+1)^f:=by
 intro f;(induction f with|zero=>intro path n qa;simp[cU]|succ f ih=>intro path n qa;have h1:1<=(2*t.links.length+1)^(f+1):=Nat.one_le_pow _ _ (by omega);unfold cU;split;{simpa using h1};split;{simp};have hl:∀l:LN,(l.flatMap fun a=>if bZ down a||qa[(aH t a).toNat]?.getD false then []else cU t down d f (path++[a]) (aH t a).toNat (qa.set (aH t a).toNat true)).length<=l.length*(2*t.links.length+1)^f:=(by intro l;(induction l with|nil=>simp|cons a l ihl=>rw[xU,yQ,kQo,xP,xQ,kZl];refine Nat.add_le_add ihl ?_;split;{simp};exact ih _ _ _));refine yY (hl _) ?_;rw[vD,vE];exact kQh _ (yY (lJ t _ n) (by omega)))
theorem tL{t}(hv:aI t=true){a:Nat}(ha:a<2*t.links.length):∃h:Nat,aH t a=(h:Int)/\(h:Int)<t.nodes:=by
 rw[jzat];have qe:a/2*2+1-a%2<2*t.links.length:=(by omega);generalize a/2*2+1-a%2=b at*;unfold aI at hv;rw[vM]at hv;obtain⟨l,hl⟩:∃l,t.links[b/2]?=some l:=⟨_,yG (by omega)⟩;have qa:=xW.1 hv.2 l (yJ hl);unfold Lk.ok ndB at qa;simp at qa;unfold aU;rw[hl];simp only[];split;{exact⟨l.a.toNat,by omega,by omega⟩};exact⟨l.b.toNat,by omega,by omega⟩
theorem jzay{t}{n a:Nat}(h:a∈aM t n):a<2*t.links.length:=by
 unfold aM cA at h;rw[List.mem_filter]at h;simpa using h.1
theorem cH.push{w w1:World}{B:Nat}{ov v':Value}{ps:List (LN)}{p:LN}{A:OA}{c:Nat}{cells:List Value}(h1:cells.length=ps.length)(h2:w.ownsRow B 44 1 ov ps.length cells)
  (h3:∀(i:Nat) (q:LN),ps[i]?=some q->∃(A:OA) (c:Nat),cells[i]?=some (.s A q.length c)/\q.length<=c/\RdT w 3 A (ints q))
  (hp:RdT w 3 A (ints p)) (hc:p.length<=c) (hB:B<=w.heap.size) (hown:w1.ownsRow B 44 1 v' (ps.length+1) (cells++[.s A p.length c])) (hg:w.grownBy w1 ov.ownBlock):
  cH w1 B v' (ps++[p])/\bQ w w1/\Below B w w1:=by
 have hk:bQ w w1:=bQ.grown hg (fun k hk=>Lib.ownsRow_kind h2 k hk);refine⟨cH.snoc (w:=w) (v:=ov) h1 (fun i q hq=>?_) (hk.rdT (by decide) hp) hc hown,hk,(Below.refl B w).grown hg hB (fun k hk=>(h2.lt k hk).1)⟩;obtain⟨A',c',h4,h5,h6⟩:=h3 i q hq;exact⟨A',c',h4,h5,hk.rdT (by decide) h6⟩
def fH(t:Tp)(down:List Bool)(d f:Nat)(path:LN)(seen:List Bool)(a:Nat):List (LN):=
 if bZ down a||seen[(aH t a).toNat]?.getD false then []else cU t down d f (path++[a]) (aH t a).toNat (seen.set (aH t a).toNat true)
theorem jzh4 t(down:List Bool)(d f:Nat)(path:LN)(seen:List Bool)(a:Nat):(fH t down d f path seen a).length<=(2*t.links.length+1)^f:=by
 unfold fH;split;{simp};exact jzh3 _ _ _ _ _ _ _
theorem jzh5 t(down:List Bool)(d f:Nat)(path:LN)(seen:List Bool)(l:LN):(l.flatMap (fH t down d f path seen)).length<=l.length*(2*t.links.length+1)^f:=by
 (induction l with|nil=>simp|cons a l ih=>rw[xU,yQ,kQo,xP,xQ,kZl];exact Nat.add_le_add ih (jzh4 ..))
theorem aJ{w:World}{p:Addr}{v:Value}(h:w.cell? p=some v)(o:Obj):(w.alloc o).cell? p=some v:=by
 have hb:p.block<w.heap.size:=(by (unfold World.cell? at h;rcases kQd p.block w.heap.size with hlt|hge);{exact hlt};rw[kQn hge]at h;simp at h);exact(World.cell?_of_block (Below.heap_alloc _ _ _ hb)).trans h
theorem jzaz{w w3}{g:Nat}{xs:List Value}{row:Option Nat}(h:Rd w (sA g) xs)(hg:w.grownBy w3 row)(hne:some g≠row):Rd w3 (sA g) xs:=fun hx=>by
 obtain⟨b,o,e,hb,hc⟩:=h hx;injection e with e
 injection e with e1 e2
 subst e1 e2;exact⟨g,0,rfl,yL hb hg.size,fun i hi=>(World.cell?_of_block (hg.block g hb hne)).trans (hc i hi)⟩
theorem RdT.get_{w}{ty:TypeId}{b o m a:Nat}{l:LN}(h:RdT w ty (some (aD b o)) (ints l))(hm:l[m]?=some a):w.cell? (aD b (o+m))=some (vI (a:Int)):=by
 have qa:=(yH.1 hm).1;obtain⟨b',o',e,_,hc⟩:=h.rd.at_ (i:=m) (by rw[bV];exact qa);injection e with e
 injection e with e1 e2
 subst e1 e2;rw[hc m (by rw[bV];exact qa),pW _ _ qa,hm];rfl
theorem lK(w:World)(B:Nat)(e:TypeId)(hB:B<=w.heap.size):(w.alloc (.cells #[] e)).ownsRow B e 1 (.s (sA w.heap.size) 0 0) 0 []:=
 World.ownsRow_made w #[] 0 hB (by decide) (by simp)
theorem jzh6(t:Tp)(AO:OA)(co:Nat)(AL:OA)(cl:Nat)(AD:OA)(cd:Nat)(down:List Bool)(d:Nat)(w0:World)(ht:aX w0 t AO co AL cl)(hv:aI t=true)(hll:t.links.length<=256)(hdn:Rd w0 AD (bD down))(hdl:down.length<=600)(hd:d<=1000)(f:Nat):
  ∀(path:LN) (AP:OA) (cp:Nat) (n:Nat) (qa:List Bool) (gs:Nat) (ov:Value) (ps:List (LN)) (w:World),mK qa<f->(qa.length:Int)=t.nodes->n<=1000->path.length<=cp->path.length+f<=1000->(AP=none->path.length=0)->Ext w0 w->RdT w 3 AP (ints path)->Blk w gs 4 (bD qa).toArray->w0.heap.size<=gs->cH w w0.heap.size ov ps->
  ps.length+(2*t.links.length+1)^f<=2^42->
  Calls prog 102 #[.agg #[vI t.nodes,.s AO t.over.length co,.s AL t.links.length cl],.s AD down.length cd,.s AP path.length cp,vI n,vI d,.s (sA gs) qa.length qa.length,ov] w fun e w'=>∃qp,e=.returned qp/\cH w' w0.heap.size qp (ps++cU t down d f path n qa)/\Ext w0 w'/\bQ w w':=by
 induction f with
 |zero=>intro path AP cp n qa gs ov ps w h;omega
 |succ f ih=>
 intro path AP cp n qa gs ov ps w hf vq hn zm zo vl vo qx qw q7 vu vp;have HT:=Hx (ht);have HV:=Hx (hv);have v6:=Hx (hdn);have IH:=Hx (ih);have HF:=Hx (hf);have vL:=Hx (vq);have X0:=Hx (vo);have HP:=Hx (qx);have HS:=Hx (qw);have PS:=Hx (vu);have BD:=Hx (vp);have qV:=Hx (vl);have h3:=ht.ll;have h4:=ht.cl;have h5:qa.length<=1000:=by
  unfold aI cG inB at hv;simp at hv;omega
 clear ht hv hdn ih hf vq vo qx qw vu vp vl;obtain⟨ti,hi,qH,qK,qI⟩:=info_parts Tryz.info3;obtain⟨zi,v1,ze,v0,v9⟩:=info_parts Tryz.info39;obtain⟨qB,e0⟩:=aV w #[vI t.nodes,.s AO t.over.length co,.s AL t.links.length cl] 25;by_cases qU:n=d
 ·have qo:cU t down d (f+1) path n qa=[path]:=by unfold cU;rw[if_pos qU]
  rw[qo];have hb:((n:Int)==(d:Int))=true:=(by simp;omega);clear qU qo;obtain⟨cells,pc,qG,vG⟩:=PS.o.ex;have ve:=Hx (qG);have v8:=Hx (vG);have PC:=Hx (pc);clear qG vG pc
  go_enter func102,ntmps102
  go_wp2_with (at_builtin;go_must (refine nL _ rfl (.tmp 22) (.tmp 23) 44 rfl (w.heap.size+1) 3 ti (vI 0) 8 underlying44 hi qH qK qI rfl (.s (sA (w.heap.size+1)) 0 0) 0 [] rfl ?c0 AP path.length cp (ints path) rfl ?c1 ?c2 ?c3 (iD _) ?c4 ?c5 ?c6 ?_))
  case c0=>have:=lK (w.alloc (.cells #[vI t.nodes,.s AO t.over.length co,.s AL t.links.length cl] 25)) (w.heap.size+1) 3 (by simp);simpa using this
  case c1=>exact(bV _).symm
  case c2=>exact HP.o.rd.K (e0.alloc _)
  case c3=>exact fun h=>.inr (qV.o h)
  case c4=>unfold maxLen;omega
  case c5=>omega
  case c6=>simp
  intro v3 w3 qg qe _;have e3:Ext w w3:=Below.grown (e0.alloc (.cells #[] 3)) qe (by simp;omega) (fun k hk=>by simp[Value.ownBlock]at hk;omega);obtain⟨A3,c3,rfl,zb,vt⟩:=fF (l:=path) qg (by omega);have e4:Ext w (w3.alloc (.cells #[.s A3 path.length c3] 44)):=e3.alloc _;have E4:=Hx (e4);have R3:=Hx (vt);clear qg qe vt e3 e4;have b1:ps.length+1<=4398046511104:=by
   have:=BD.o;have h1:1<=(2*t.links.length+1)^(f+1):=Nat.one_le_pow _ _ (by omega);omega
  have qy:=Hx (ve.o.kept (row:=none) (w':=w3.alloc (.cells #[.s A3 path.length c3] 44)) ⟨E4.o.os,E4.o.tape,E4.o.output,E4.o.size,fun k hk _=>E4.o.block k hk⟩ (by
   by_cases e:ov.ownBlock=none
   ·exact .inl e
   exact .inr e))
  go_wp2_with (at_builtin;go_must (refine nL _ rfl (.tmp 21) (.tmp 25) 52 rfl w0.heap.size 44 zi zN 24 underlying52 v1 ze v0 v9 rfl ov ps.length cells rfl ?d0 (sA w3.heap.size) 1 1 [.s A3 path.length c3] rfl rfl ?d1 ?d2 ?d3 ?d4 ?d5 ?d6 ?_))
  case d0=>exact qy.o
  case d1=>exact Rd.new _ _ _ rfl rfl
  case d2=>intro h;cases h
  case d3=>intro u hu;simp at hu;subst hu;rfl
  case d4=>unfold maxLen;omega
  case d5=>omega
  case d6=>exact yY X0.o.size E4.o.size
  intro v5 w5 qi qh _;obtain⟨q1,q2,q3⟩:=cH.push (p:=path) PC.o qy.o (fun i q hq=>by
   obtain⟨A',c',k1,k2,k3⟩:=v8.o i q hq;exact⟨A',c',k1,k2,k3.K E4.o⟩) (R3.o.K ((eR w3).alloc _)) zb (yY X0.o.size E4.o.size) qi qh
  have Q1:=Hx (q1);have Q2:=Hx ((bQ.ofExt E4.o).trans q2);have Q3:=Hx ((X0.o.tr E4.o).trans q3);clear q1 q2 q3 qi qh;go_wp2;go_ret;exact⟨v5,rfl,Q1.o,Q3.o,Q2.o⟩
 have hb:((n:Int)==(d:Int))=false:=yK.2 (by omega);have qo:cU t down d (f+1) path n qa=if(0<path.length)/\bH t n=true then []else
  (aM t n).flatMap fun a=>if bZ down a||qa[(aH t a).toNat]?.getD false then []else cU t down d f (path++[a]) (aH t a).toNat (qa.set (aH t a).toNat true):=by
  rw[cU,if_neg qU]
 generalize hE:cU t down d (f+1) path n qa=E at*;have HE:=Hx (qo);clear qo hE qU;obtain⟨⟨i0,i1,i2⟩,g0,g1,g2⟩:=qB.t3
 go_enter func102,ntmps102
 go_upto_region 3 with fail
 go_cut [34] (fun s wx=>s=.bool (decide (0<path.length)&&bH t n)/\Blk wx w.heap.size 25 #[vI t.nodes,.s AO t.over.length co,.s AL t.links.length cl]/\Ext w wx)
 case first=>
  by_cases hp:0<path.length
  ·go_wp2_with fail
   refine(jzav t AO co AL cl n _ (HT.o.K (X0.o.tr e0)) HV.o).mono ?_;rintro e w1 ⟨rfl,qF⟩;go_wp2;go_meet;exact⟨by simp[hp],qB.K qF,e0.tr qF⟩
  go_wp2_with fail
  go_meet;exact⟨by simp[hp],qB,e0⟩
 obtain⟨rfl,qB,hx⟩:=hcut;clear i0 i1 i2 g0 g1 g2 e0;obtain⟨⟨i0,i1,i2⟩,g0,g1,g2⟩:=qB.t3;cases hov:(decide (0<path.length)&&bH t n)
 case true=>
  have qY:E=[]:=by
   rw[HE.o,if_pos (by simpa using hov)]
  subst qY;have EX:=Hx (hx);clear hx hov;go_wp2;go_ret;exact⟨ov,rfl,by rw[List.append_nil];exact PS.o.K EX.o,X0.o.tr EX.o,bQ.ofExt EX.o⟩
 have vw:E=(aM t n).flatMap (fH t down d f path qa):=by
  rw[HE.o,if_neg (by simpa using hov)];rfl
 have zj:=Hx (vw);have EX:=Hx (hx);clear hx hov vw HE
 go_wp2_with fail
 refine(jzh2 t AO co AL cl n _ (HT.o.K (X0.o.tr EX.o)) HV.o hll).mono ?_;rintro e w1 ⟨AR,cr,rfl,zs,vT,qF⟩;have E1:=Hx (EX.o.tr qF);have za:=Hx (qB.K qF);have RR:=Hx (vT);clear vT qF EX qB i0 i1 i2 g0 g1 g2;have qX:=lJ t (2*t.links.length) n;change (aM t n).length<=_ at qX;generalize hL:(aM t n).length=L at*;have HL:=Hx (hL);clear hL;go_wp2
 go_loopw [6,16,17] (fun v it _ wr=>∃m:Nat,m<=L/\it=vI m/\cH wr w0.heap.size v (ps++((aM t n).take m).flatMap (fH t down d f path qa))/\Ext w0 wr/\bQ w1 wr) (fun _ i _ _=>L-(intOf i).toNat)
 case atStart=>exact⟨0,yZ _,rfl,by rw[List.take_zero,List.flatMap_nil,List.append_nil];exact PS.o.K E1.o,X0.o.tr E1.o,bQ.refl _⟩
 obtain⟨m,hm,rfl,vx,vK,vJ⟩:=hrel;have PW:=Hx (vx);have qQ:=Hx (vK);have KW:=Hx (vJ);clear vx vK vJ;by_cases qA:m<L
 ·obtain⟨a,ha⟩:∃a,(aM t n)[m]?=some a:=⟨_,yG (by rw[HL.o];exact qA)⟩
  have vW:a<2*t.links.length:=jzay (yJ ha);obtain⟨h,hh,zp⟩:=tL HV.o vW;have vk:h<qa.length:=(by have:=vL.o;omega);obtain⟨b,o,rfl,q9,vj⟩:=(KW.o.rdT (by decide) RR.o).rd.at_ (i:=m) (by rw[bV,HL.o];exact qA);have qf:=vj m (by rw[bV,HL.o];exact qA);rw[pW _ _ (by rw[HL.o];exact qA),ha,kQ1]at qf;have qE:=KW.o.blk' (by decide) za.o;have vH:=KW.o.blk' (by decide) ((bQ.ofExt E1.o).blk' (by decide) HS.o);obtain⟨⟨i0,i1,i2⟩,g0,g1,g2⟩:=qE.t3;have x0:=XW.cell _ _ _ qE.lt i0;have x1:=XW.cell _ _ _ qE.lt i1;have x2:=XW.cell _ _ _ qE.lt i2;have y0:=XW.cell _ _ _ q9 qf;have HA:=Hx (ha);have HH:=Hx (hh);have vU:=Hx (qE);have HSW:=Hx (vH);clear ha hh vj qE vH
  go_wp2_with fail
  refine cT (by kernel_rfl) (by kernel_rfl) ?_
  repeat (go_big_quiet_step ((go_at_call 53;exact Calls.ext_of (jzau t AO co AL cl a _ (HT.o.K (qQ.o.tr (XW.ext _))) HV.o vW))))
  refine wpQuiet_nil ?_;rintro _ ⟨x,rfl⟩;rw[HH.o];have qz:=x.ext;have qf:=y0 x;clear x0 x1 x2 y0 i0 i1 i2 g0 g1 g2;generalize x.val=w2 at*;clear x;have qD:=vU.o.K qz;have qn:=HSW.o.K qz;have qT:=Hx (PW.o.K qz);have qJ:=Hx (qQ.o.tr qz);have qC:=Hx (KW.o.trans (bQ.ofExt qz));have zf:b<w2.heap.size:=yL q9 qz.size;clear qz PW qQ KW vU HSW q9;obtain⟨⟨i0,i1,i2⟩,g0,g1,g2⟩:=qD.t3;have vg:=qn.cell h;have vV:=qn.frozen h;obtain⟨sb,vc⟩:∃sb,qa[h]?=some sb:=⟨_,yG vk⟩;have vm:(bD qa).toArray[h]?=some (.bool sb):=(by simp[bD,vc]);rw[vm]at vg;have va:=Hx (vc);clear vc vm
  go_wp2_with fail
  refine(jzh1 AD cd down a _ (v6.o.K qJ.o)).mono ?_;rintro e w3 ⟨rfl,rfl⟩;have TS:=Hx (show((aM t n).take (m+1)).flatMap (fH t down d f path qa)=((aM t n).take m).flatMap (fH t down d f path qa)++fH t down d f path qa a by
   rw[kQr,HA.o,List.flatMap_append];simp)
  have GA:=Hx (show fH t down d f path qa a=if bZ down a||sb then []else cU t down d f (path++[a]) h (qa.set h true) by
   unfold fH;rw[HH.o,xL,va.o];rfl)
  cases hdn:bZ down a
  case true=>
   rw[hdn]at GA;go_wp2
   go_roundw
   case rel=>exact⟨m+1,by omega,by go_num,by rw[TS.o,GA.o];simpa using qT.o,qJ.o,qC.o⟩
   simp[intOf];omega
  rw[hdn]at GA;cases sb
  case true=>
   go_wp2
   go_roundw
   case rel=>exact⟨m+1,by omega,by go_num,by rw[TS.o,GA.o];simpa using qT.o,qJ.o,qC.o⟩
   simp[intOf];omega
  go_upto_region 12 with fail
  go_cut [6] (fun s wx=>cH wx w0.heap.size s (ps++((aM t n).take (m+1)).flatMap (fH t down d f path qa))/\Ext w0 wx/\bQ (w2.setCell (aD gs h) (.bool true)) wx)
  case first=>
   have sw:=qn.sT h (.bool true);have bw:=qD.far (p:=(aD gs h)) (fun e=>by
    have h1:=qD;have h2:=qn;unfold Blk at h1 h2;simp only[]at e;rw[e,h2]at h1;injection h1 with h1
    injection h1 with _ h1
    revert h1;decide) (.bool true)
   have vi:=(qC.o.rdT (by decide) RR.o).sT (p:=(aD gs h)) qn (by decide) (.bool true);have pw:=((qC.o.rdT (by decide) (HP.o.K E1.o)).sT (p:=(aD gs h)) qn (by decide) (.bool true));have vO:=qT.o.sT (p:=(aD gs h)) qn (.bool true);have xw:=Ext.sT qJ.o (p:=(aD gs h)) q7 (.bool true);have vn:w.heap.size<w2.heap.size:=qD.lt;clear i0 i1 i2 g0 g1 g2 qf vg vV;have vF:Blk (w2.setCell (aD gs h) (.bool true)) gs 4 (bD (qa.set h true)).toArray:=by
    have e:((bD qa).toArray.setIfInBounds h (.bool true))=(bD (qa.set h true)).toArray:=by
     apply Array.ext';simp[bD,List.map_set]
    rw[<-e];exact sw
   have vY:(ps++((aM t n).take m).flatMap (fH t down d f path qa)).length+(2*t.links.length+1)^f<=2^42:=by
    have h1:=jzh5 t down d f path qa ((aM t n).take m);have h2:((aM t n).take m).length<=m:=(by simp;omega);have h3:=BD.o;rw[vD]at h3;have h4:((aM t n).take m).length*(2*t.links.length+1)^f<=m*(2*t.links.length+1)^f:=xS _ h2;have h5:m*(2*t.links.length+1)^f+(2*t.links.length+1)^f=(m+1)*(2*t.links.length+1)^f:=(by rw[xP,xQ]);have h6:(m+1)*(2*t.links.length+1)^f<=(2*t.links.length+1)*(2*t.links.length+1)^f:=xS _ (by omega);have h7:(2*t.links.length+1)^f*(2*t.links.length+1)=(2*t.links.length+1)*(2*t.links.length+1)^f:=vE _ _;rw[yQ];omega
   have zk:=jzax va.o;generalize hW:w2.setCell (aD gs h) (.bool true)=W at*;have vd:w.heap.size<W.heap.size:=(by rw[<-hW];simpa [World.setCell]using vn);clear hW sw qn qD qT qJ qC vn;have qt:∀(A5:OA) (c5:Nat) (W5:World),Ext W W5->RdT W5 3 A5 (ints (path++[a]))->path.length+1<=c5->(A5=none->path.length+1=0)->
     Calls prog 102 #[.agg #[vI t.nodes,.s AO t.over.length co,.s AL t.links.length cl],.s AD down.length cd,.s A5 (path.length+1) c5,vI h,vI d,.s (sA gs) qa.length qa.length,u6] W5 fun e w'=>∃qp,e=.returned qp/\cH w' w0.heap.size qp ((ps++((aM t n).take m).flatMap (fH t down d f path qa))++cU t down d f (path++[a]) h (qa.set h true))/\Ext w0 w'/\bQ W w':=by
    intro A5 c5 W5 qN qR zg zc;have hl:(path++[a]).length=path.length+1:=(by simp);have vy:(qa.set h true).length=qa.length:=(by simp);have:=IH.o (path++[a]) A5 c5 h (qa.set h true) gs u6 _ W5 (by have:=HF.o;omega) (by rw[vy];exact vL.o) (by omega) (by rw[hl];exact zg) (by rw[hl];omega) (by rw[hl];exact zc) (xw.tr qN) qR (vF.K qN) q7 (vO.K qN) vY;rw[hl,vy]at this;exact this.mono fun e w' ⟨qp,k1,k2,k3,k4⟩=>⟨qp,k1,k2,k3,(bQ.ofExt qN).trans k4⟩
   have qW:=Hx (qt);have q5:=Hx (pw.rd);have zh:=Hx (bw);have v4:=Hx (vi);obtain⟨_,_,e',q6,qL⟩:=vi.rd.at_ (i:=m) (by rw[bV,HL.o];exact qA);injection e' with e'
   injection e' with e1' e2'
   subst e1' e2';have qf:=qL m (by rw[bV,HL.o];exact qA);rw[pW _ _ (by rw[HL.o];exact qA),HA.o,kQ1]at qf;obtain⟨⟨i0,i1,i2⟩,_⟩:=bw.t3;clear qt pw vi vO xw vF vY zk qL bw;have KK:=Hx ((show w.heap.size<W.heap.size/\b<W.heap.size from⟨vd,q6⟩));have b1:path.length+1<=1000:=(by omega);have j0:=i0;have j1:=i1;have j2:=i2;have qj:=qf;have qM:Hid (Ext W (W.alloc (.cells #[] 3)).drew):=Hx (((eR W).alloc _).drewN 1);have qS:Hid (Ext W ((W.alloc (.cells #[] 3)).alloc (.cells #[vI (a:Int)] 3)).drew):=Hx ((((eR W).alloc _).alloc _).drewN 1);have qP:Hid (Ext W ((W.alloc (.cells #[vI (a:Int)] 3)).alloc (.cells #[] 3)).drew):=Hx ((((eR W).alloc _).alloc _).drewN 1);have qZ:Hid ((W.alloc (.cells #[] 3)).drew.ownsRow W.heap.size 3 1 (.s (sA W.heap.size) 0 0) 0 []):=Hx (lK W _ _ (yX _));have vh:Hid (((W.alloc (.cells #[] 3)).alloc (.cells #[vI (a:Int)] 3)).drew.ownsRow W.heap.size 3 1 (.s (sA W.heap.size) 0 0) 0 []):=Hx ((lK W _ _ (yX _)).alloc _);have q8:=Hx (show((W.alloc (.cells #[vI (a:Int)] 3)).alloc (.cells #[] 3)).drew.ownsRow W.heap.size 3 1 (.s (sA (W.heap.size+1)) 0 0) 0 [] by
    have:=lK (W.alloc (.cells #[vI (a:Int)] 3)) W.heap.size 3 (by simp);simp at this;exact this)
   have zd:Hid (Rd ((W.alloc (.cells #[] 3)).alloc (.cells #[vI (a:Int)] 3)).drew (sA (W.heap.size+1)) [vI (a:Int)]):=Hx (Rd.new (W.alloc (.cells #[] 3)) _ _ (by simp) rfl);have v7:Hid (Rd ((W.alloc (.cells #[vI (a:Int)] 3)).alloc (.cells #[] 3)).drew (sA W.heap.size) [vI (a:Int)]):=Hx ((Rd.new W 3 #[vI (a:Int)] rfl rfl).K (Ext.drewN (Ext.alloc (eR _) _) 1))
   go_region_held3 (fun w'=>w'.cell? (aD w.heap.size 0)=some (vI t.nodes)/\w'.cell? (aD w.heap.size 1)=some (.s AO t.over.length co)/\w'.cell? (aD w.heap.size 2)=some (.s AL t.links.length cl)/\
     w'.cell? (aD b (o+m))=some (vI (a:Int))) (first
    |exact⟨i0,i1,i2,qf⟩
    |exact⟨aJ i0 _,aJ i1 _,aJ i2 _,aJ qf _⟩
    |exact⟨aJ (aJ i0 _) _,aJ (aJ i1 _) _,aJ (aJ i2 _) _,aJ (aJ qf _) _⟩)
    (first
    |(rw[if_pos (by rfl)]
      refine eK _ (.tmp 68) (.tmp 69) 44 (by rfl) W.heap.size 3 ti (vI 0) 8 underlying44 hi qH qK qI rfl (.s (sA W.heap.size) 0 0) 0 [] (by rfl) qZ.o AP path.length cp (ints path) (by rfl) (bV _).symm (q5.o.K qM.o) (fun h=>.inr (qV.o h)) (iD _) (by unfold maxLen;omega) (by omega) qM.o.size ?_;intro v3 w3 qg qe _;have e3:Ext W w3:=Below.grown qM.o qe qM.o.size (fun k hk=>by simp[Value.ownBlock]at hk;omega);have i0:=(e3.cell (p:=(aD w.heap.size 0)) KK.o.1).trans j0;have i1:=(e3.cell (p:=(aD w.heap.size 1)) KK.o.1).trans j1;have i2:=(e3.cell (p:=(aD w.heap.size 2)) KK.o.1).trans j2;have qf:=(e3.cell (p:=(aD b (o+m))) KK.o.2).trans qj;have E3:=Hx e3;rw[kQu,List.nil_append]at qg;have qk:=Hx qg;clear e3 qg qe)
    |(rw[if_pos (by rfl)]
      refine eK _ (.tmp 68) (.tmp 69) 44 (by rfl) W.heap.size 3 ti (vI 0) 8 underlying44 hi qH qK qI rfl (.s (sA W.heap.size) 0 0) 0 [] (by rfl) vh.o AP path.length cp (ints path) (by rfl) (bV _).symm (q5.o.K qS.o) (fun h=>.inr (qV.o h)) (iD _) (by unfold maxLen;omega) (by omega) qS.o.size ?_;intro v3 w3 qg qe _;have e3:Ext W w3:=Below.grown qS.o qe qS.o.size (fun k hk=>by simp[Value.ownBlock]at hk;omega);have vR:Rd w3 (sA (W.heap.size+1)) [vI (a:Int)]:=jzaz zd.o qe (by simp[Value.ownBlock]);have i0:=(e3.cell (p:=(aD w.heap.size 0)) KK.o.1).trans j0;have i1:=(e3.cell (p:=(aD w.heap.size 1)) KK.o.1).trans j1;have i2:=(e3.cell (p:=(aD w.heap.size 2)) KK.o.1).trans j2;have qf:=(e3.cell (p:=(aD b (o+m))) KK.o.2).trans qj;have E3:=Hx e3;rw[kQu,List.nil_append]at qg;have qk:=Hx qg;clear e3 qg qe)
    |(rw[if_pos (by rfl)]
      refine eK _ (.tmp 68) (.tmp 69) 44 (by rfl) W.heap.size 3 ti (vI 0) 8 underlying44 hi qH qK qI rfl (.s (sA (W.heap.size+1)) 0 0) 0 [] (by rfl) q8.o AP path.length cp (ints path) (by rfl) (bV _).symm (q5.o.K qP.o) (fun h=>.inr (qV.o h)) (iD _) (by unfold maxLen;omega) (by omega) qP.o.size ?_;intro v3 w3 qg qe _;have e3:Ext W w3:=Below.grown qP.o qe qP.o.size (fun k hk=>by simp[Value.ownBlock]at hk;omega);have vR:Rd w3 (sA W.heap.size) [vI (a:Int)]:=jzaz v7.o qe (by simp[Value.ownBlock]);have i0:=(e3.cell (p:=(aD w.heap.size 0)) KK.o.1).trans j0;have i1:=(e3.cell (p:=(aD w.heap.size 1)) KK.o.1).trans j1;have i2:=(e3.cell (p:=(aD w.heap.size 2)) KK.o.1).trans j2;have qf:=(e3.cell (p:=(aD b (o+m))) KK.o.2).trans qj;have E3:=Hx e3;rw[kQu,List.nil_append]at qg;have qk:=Hx qg;clear e3 qg qe)
    |(rw[if_pos (by rfl)]
      refine eK _ (.tmp 70) (.tmp 75) 44 (by rfl) W.heap.size 3 ti (vI 0) 8 underlying44 hi qH qK qI rfl v3 path.length (ints path) (by rfl) (by first|exact qk.o|exact qk.o.alloc _) _ 1 1 [vI (a:Int)] (by rfl) rfl (by first|exact vR|exact Rd.new _ _ _ rfl rfl) (fun h=>by cases h) (fun u hu=>by simp at hu;subst hu;rfl) (by unfold maxLen;omega) (by omega) (by first|exact E3.o.size|exact(E3.o.alloc _).size) ?_;intro v5 w5 qi qh _;have e5:Ext W w5:=(by first|exact Below.grown E3.o qh E3.o.size (fun k hk=>(qk.o.lt k hk).1)|exact Below.grown (E3.o.alloc _) qh (E3.o.alloc _).size (fun k hk=>(qk.o.lt k hk).1));have qm:w5.ownsRow W.heap.size 3 1 v5 (path.length+1) (ints (path++[a])):=(by rw[iC];exact qi);obtain⟨g5,c5,rfl⟩:∃g5 c5,v5=.s (sA g5) (path.length+1) c5:=by
       rcases qm.2 with⟨_,hq⟩|⟨g5,c5,_,hq,_⟩
       ·omega
       exact⟨g5,c5,hq⟩
      have qR:RdT w5 3 (sA g5) (ints (path++[a]))/\path.length+1<=c5:=by
       obtain⟨A',c',q1,q2,q3⟩:=fF (l:=path++[a]) qm (by simp);injection q1 with q1 _ q4
       subst q1 q4;rw[yQ]at q2;exact⟨q3,q2⟩
      have i0:=(e5.cell (p:=(aD w.heap.size 0)) KK.o.1).trans j0;have i1:=(e5.cell (p:=(aD w.heap.size 1)) KK.o.1).trans j1;have i2:=(e5.cell (p:=(aD w.heap.size 2)) KK.o.1).trans j2;have qf:=(e5.cell (p:=(aD b (o+m))) KK.o.2).trans qj;have E5:=Hx e5;have R5:=Hx qR;clear e5 qi qh qm qR)
    |(go_at_call 102
      refine(qW.o _ _ _ E5.o R5.o.1 R5.o.2 (fun h=>by cases h)).mono ?_;rintro e w6 ⟨qp,rfl,q1,q2,q3⟩;obtain⟨⟨i0,i1,i2⟩,_⟩:=(q3.blk' (by decide) zh.o).t3;have qf:=(q3.rdT (by decide) v4.o).get_ HA.o;have Q1:=Hx q1;have Q2:=Hx q2;have Q3:=Hx q3;clear q1 q2 q3))
   all_goals
    go_wp2;go_meet;exact⟨by rw[TS.o,GA.o, <-List.append_assoc];exact Q1.o,Q2.o,Q3.o⟩
  obtain⟨vz,vZ,q0⟩:=hcut;have qO:=q0.blk' (by decide) (qn.sT h (.bool true));have KC:=Hx (qC.o.trans (bQ.round qn va.o q0));have PC:=Hx (vz.sT (p:=(aD gs h)) qO (.bool false));have XC:=Hx (Ext.sT vZ (p:=(aD gs h)) q7 (.bool false));have zq:wc.cell? (aD gs h)=some (.bool true):=(qO.cell h).trans (by simp[bD,vk]);have zn:=qO.frozen h;clear vz vZ q0 qO qn qD i0 i1 i2 g0 g1 g2 qf vg vV;go_wp2
  go_roundw
  case rel=>exact⟨m+1,by omega,by go_num,PC.o,XC.o,KC.o⟩
  simp[intOf];omega
 have v2:m=L:=(by omega);subst v2;have PF:=Hx (show cH _ w0.heap.size _ (ps++E) by
  have:=PW.o;rw[yU (by rw[HL.o];exact yX _), <-zj.o]at this;exact this)
 have KF:=Hx ((bQ.ofExt E1.o).trans KW.o);go_wp2;go_ret;exact⟨_,rfl,PF.o,qQ.o,KF.o⟩
theorem Tryz.info4:(prog.info? 4).map (fun i=>(i.zero,i.size,i.bytes))=some (some (.bool false),1,1):=by kernel_rfl
def gF(t:Tp)(down:List Bool)(s d:Nat):List (LN):=cU t down d t.nodes.toNat [] s ((List.replicate t.nodes.toNat false).set s true)
theorem jzh7(N:Nat):mK (List.replicate N false)=N:=by unfold mK;simp
theorem jzh8 t AO(co:Nat)AL(cl:Nat)AD(cd:Nat)(down:List Bool)(s d:Nat)w(ht:aX w t AO co AL cl)(hv:aI t=true)(hdn:Rd w AD (bD down))(hdl:down.length<=600)
  (hs:(s:Int)<t.nodes) (hd:(d:Int)<t.nodes) (hb:(2*t.links.length+1)^t.nodes.toNat<=2^42):
  Calls prog 47 #[.agg #[vI t.nodes,.s AO t.over.length co,.s AL t.links.length cl],.s AD down.length cd,vI s,vI d] w fun e w'=>∃v,e=.returned v/\cH w' w.heap.size v (gF t down s d)/\Ext w w':=by
 have hN:∃N:Nat,t.nodes=(N:Int)/\N<=64/\t.links.length<=256:=(by unfold aI cG inB at hv;simp at hv;exact⟨t.nodes.toNat,by omega,by omega,by omega⟩)
 obtain⟨N,qh,qB,qw⟩:=hN;have qg:gF t down s d=cU t down d N [] s ((List.replicate N false).set s true):=(by unfold gF;rw[qh];rfl);rw[qg];have qa:(Value.agg #[vI t.nodes,.s AO t.over.length co,.s AL t.links.length cl])=.agg #[vI (N:Int),.s AO t.over.length co,.s AL t.links.length cl]:=(by rw[qh]);rw[qa];have qt:(2*t.links.length+1)^N<=2^42:=(by have:=hb;rw[qh]at this;exact this);have qo:s<N:=(by omega);have qA:d<N:=(by omega);have qf:((List.replicate N false).set s true).length=N:=(by simp);have qp:=jzax (l:=List.replicate N false) (k:=s) (by simp[qo]);rw[jzh7]at qp;have qe:∀(W:World) (gs:Nat),Ext w W->w.heap.size<=gs->Blk W gs 4 (bD ((List.replicate N false).set s true)).toArray->
   Calls prog 102 #[.agg #[vI (N:Int),.s AO t.over.length co,.s AL t.links.length cl],.s AD down.length cd,zN,vI s,vI d,.s (sA gs) N N,zN] W fun e w'=>∃ov',e=.returned ov'/\cH w' w.heap.size ov' (cU t down d N [] s ((List.replicate N false).set s true))/\Ext w w':=by
  intro W gs hW qx qm;have:=jzh6 t AO co AL cl AD cd down d w ht hv qw hdn hdl (by omega) N [] none 0 s ((List.replicate N false).set s true) gs zN [] W (by omega) (by rw[qf];exact qh.symm) (by omega) (yX _) (by simp;omega) (fun _=>rfl) hW (RdT.nil _ _ _) qm qx (cH.nil _ _) (by simpa using qt);rw[qf,qa]at this;exact this.mono fun e w' ⟨ov',k1,k2,k3,_⟩=>⟨ov',k1,k2,k3⟩
 have qj:=Hx (qe);have h3:=ht.ll;have h4:=ht.cl;obtain⟨qn,e0⟩:=aV w #[vI (N:Int),.s AO t.over.length co,.s AL t.links.length cl] 25;have qy:=run_make_row' (P:=prog) 22 4 (.bool false) 1 underlying22 Tryz.info4 rfl .i64 .i64 N (by omega) (by omega);have qi:(madeCells #[.bool false] N).setIfInBounds s (.bool true)=(bD ((List.replicate N false).set s true)).toArray:=(by apply Array.ext';rw[Array.toList_setIfInBounds,toList_madeCells_one];simp[bD,List.map_set]);have qk:=Hx (qi);clear ht hv hdn qg qa hb qt qf qp qe qh qi hs hd;obtain⟨⟨i0,i1,i2⟩,g0,g1,g2⟩:=qn.t3;have qz:(madeCells #[.bool false] N)[s]?=some (.bool false):=(by rw[<-kQw,toList_madeCells_one];simp[qo]);have E0:=Hx (e0);clear qn e0;go_enter func47,ntmps47;(go_wp2_with fail);rw[qk.o];refine(qj.o _ _ (E0.o.alloc _) (Nat.le_succ _) (Blk.new' _ _ _ (by simp))).mono ?_;rintro e w2 ⟨v,rfl,q1,q2⟩;have Q1:=Hx (q1);have Q2:=Hx (q2);clear q1 q2;go_wp2;go_ret;exact⟨v,rfl,Q1.o,Q2.o⟩
theorem cH.form{w}{B:Nat}{v:Value}{ps:List (LN)}(h:cH w B v ps):∃A c,v=.s A ps.length c:=by
 obtain⟨cells,_,h2,_⟩:=h.ex;rcases h2.2 with⟨h3,h4⟩|⟨g,cap,_,h3,_⟩
 ·exact⟨none,0,by rw[h4];exact h3⟩
 exact⟨_,_,h3⟩
def dZ(t:Tp)(s d:Int):Bool:=decide (s<0)||decide (s≥t.nodes)||decide (d<0)||decide (d≥t.nodes)
theorem Rd.ints_{w}{A}{l:LN}(h:Rd w A (ints l)){k:Nat}(hk:k<l.length):
  ∃b o,A=some (aD b o)/\b<w.heap.size/\w.cell? (aD b (o+k))=some (vI ((l[k]?.getD 0:Nat):Int)):=by
 obtain⟨b,o,e,hb,hc⟩:=h.at_ (i:=k) (by rw[bV];exact hk);exact⟨b,o,e,hb,(hc k (by rw[bV];exact hk)).trans (pW l k hk)⟩
section
variable {P:Program} (w:World)
end
def on(l:List Bool)(x:Nat):Prop:=l[x]?.getD false=true
theorem RdT.grown{w w'}{t:TypeId}{A}{xs:List Value}{row:Option Nat}(h:RdT w t A xs)(hg:w.grownBy w' row)(hne:xs≠ []->∀a,A=some a->some a.block≠row):RdT w' t A xs:=fun hx=>by
 obtain⟨b,o,cs,fr,e,hb,hc⟩:=h hx;exact⟨b,o,cs,fr,e,(hg.block b (iE hb) (hne hx _ e)).trans hb,hc⟩
section
variable {w0 wR w w':World} {gs:Nat} {clo:Value} {vis:List Bool} {ps:List (List Nat)} {path:List Nat} {pv qv:Value}
theorem bW(hx:Ext w w'):w.grownBy w' none:=⟨hx.os,hx.tape,hx.output,hx.size,fun k hk _=>hx.block k hk⟩
theorem bX(v:Value):v.ownBlock=none\/v.ownBlock≠none:=Classical.em _
theorem aO(w:World)(g k:Nat)(u:Value):w.grownBy (w.setCell (aD g k) u) (some g):=
 ⟨rfl,rfl,rfl,by simp[World.setCell],fun i _ hne=>Below.heap_setCell w (aD g k) u i (fun e=>hne (by rw[e]))⟩
theorem jzh9{B n g:Nat}{e:TypeId}{v:Value}{xs:List Value}(h:w.ownsRow B e 1 v n xs)(hg:g<B):v.ownBlock=none\/v.ownBlock≠some g:=by
 right;intro e;have:=(h.lt g e).1;omega
end
end Go.Proofs.YtojpooidhilnfaaGreatDoor
