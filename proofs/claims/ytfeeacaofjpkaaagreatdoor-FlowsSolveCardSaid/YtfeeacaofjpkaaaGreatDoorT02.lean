/- Walks, part 2. -/
import Derived.Lib.OwnKind
import Derived.Deep.Onto
import Derived.Deep.AppendSrc
import Derived.Laws.EntriesVeiled
import Derived.Lib.ItoaNum
import Derived.Lib.Builder
import Derived.Lib.AppendStr
import Derived.Lib.Repeat
import Derived.Lib.SmallJoins
import Derived.Test.YtfeeacaofjpkaaaGreatDoorRows
import Derived.ProofKit
import Derived.LaidMore
import Derived.OpenShut
import Derived.Stop.Joined
import Derived.Carry
import Derived.Lib.LaidTab
import Derived.Stop.LaidErr
import Derived.OrdersHeld
import Derived.Below
import Derived.Laws.IdiomStrings
import Derived.Test.YtfeeacaofjpkaaaGreatDoorT01
set_option linter.defProp false set_option linter.unusedVariables false
set_option linter.unusedSimpArgs false
set_option maxRecDepth 100000
set_option maxHeartbeats 8000000
namespace Go.Proofs.YtfeeacaofjpkaaaGreatDoor
open Go.Proofs.Tryz
open Go.RowKit
structure bV(w w':World):Prop where
 size:w.heap.size<=w'.heap.size
 blk:∀(i:Nat) (cs:Array Value) (t:TypeId) (fr:Nat×Nat),t≠42->w.heap[i]?=some (.cells cs t fr)->w'.heap[i]?=some (.cells cs t fr)
def bV.refl w:bV w w:=⟨yX _,fun _ _ _ _ _ h=>h⟩
def bV.trans{a b c}(h:bV a b)(k:bV b c):bV a c:=⟨yY h.size k.size,fun i cs t fr ht hi=>k.blk i cs t fr ht (h.blk i cs t fr ht hi)⟩
def gB{w:World}{i:Nat}{o:Obj}(h:w.heap[i]?=some o):i<w.heap.size:=by
 rcases Bc i w.heap.size with hlt|hge
 ·exact hlt
 rw[Fx hge]at h;cases h
def bV.Ec{w w'}(h:Ext w w'):bV w w':=⟨h.size,fun i _ _ _ _ hi=>(h.block i (gB hi)).trans hi⟩
def bV.Bz{w w'}{t:TypeId}{A}{xs:List Value}(h:bV w w')(ht:t≠42)(hr:og w t A xs):og w' t A xs:=fun hne=>by
 obtain⟨b,o,cs,fr,e,hb,hc⟩:=hr hne;exact⟨b,o,cs,fr,e,h.blk b cs t fr ht hb,hc⟩
def bV.Hz{w w'}{g:Nat}{t:TypeId}{cs:Array Value}(h:bV w w')(ht:t≠42)(hb:ak w g t cs):ak w' g t cs:=h.blk g cs t (0,0) ht hb
def bV.grown{w w':World}{row:Option Nat}(hg:w.grownBy w' row)(hr:∀k,row=some k->∃cs fr,w.heap[k]?=some (.cells cs 42 fr)):bV w w':=
 ⟨hg.size,fun i cs t fr ht hi=>by
  refine(hg.block i (gB hi) (fun e=>?_)).trans hi;obtain⟨qe,qa,h'⟩:=hr i e.symm;rw[hi]at h';injection h' with h'
  injection h' with _ h'
  exact ht h'⟩
def bV.round{w w2}{g k:Nat}{l:List Bool}(hb:ak w g 4 (bB l).toArray)(hk:l[k]?=some false)(h:bV (w.setCell (aD g k) (.bool true)) w2):bV w (w2.setCell (aD g k) bF):=by
 have h1:=hb.sT k (.bool true);have h2:=h.Hz qD h1;have h3:=h2.sT k bF;have e:((bB l).toArray.setIfInBounds k (.bool true)).setIfInBounds k bF=(bB l).toArray:=(by apply Array.ext';simp only[yD,List.set_set];apply uK;intro i;by_cases e:i=k;{subst e;obtain⟨qa,he⟩:=yH.1 hk;rw[yM (by simpa [bB]using qa)];simp[bB,hk]};rw[vN (fun h=>e h.symm)]);rw[e]at h3;refine⟨yY (by simp[World.setCell]) (yY h.size (by simp[World.setCell])),fun i cs t fr ht hi=>?_⟩;by_cases e:i=g;{subst e;unfold ak at hb h3;rw[hb]at hi;rw[h3];exact hi};have h4:(w.setCell (aD g k) (.bool true)).heap[i]?=some (.cells cs t fr):=(Below.heap_setCell w (aD g k) _ i e).trans hi;exact(Below.heap_setCell w2 (aD g k) _ i e).trans (h.blk i cs t fr ht h4)
def cH.K{w w'}{B:Nat}{v:Value}{ps:List (LN)}(h:cH w B v ps)(hx:Ext w w'):cH w' B v ps:=by
 obtain⟨cells,h1,h2,h3⟩:=h.ex;refine⟨cells,h1,h2.kept (row:=none) ⟨hx.os,hx.tape,hx.output,hx.size,fun k hk _=>hx.block k hk⟩ ?_,fun i p hp=>?_⟩;{by_cases e:v.ownBlock=none;{exact .inl e};exact .inr e};obtain⟨A,c,h4,h5,h6⟩:=h3 i p hp;exact⟨A,c,h4,h5,h6.K hx⟩
def cH.sT{w}{B:Nat}{v:Value}{ps:List (LN)}(h:cH w B v ps){p:Addr}{cs:Array Value}(hp:ak w p.block 4 cs)(u:Value):cH (w.setCell p u) B v ps:=by
 obtain⟨cells,h1,h2,h3⟩:=h.ex;refine⟨cells,h1,⟨h2.1,?_⟩,fun i q hq=>?_⟩;{(rcases h2.2 with h4|⟨g',cap,cur,h4,h5,h6,h7⟩);{exact .inl h4};(refine .inr ⟨g',cap,cur,h4,h5,(Below.heap_setCell w p u g' ?_).trans h6,h7⟩;rintro rfl;unfold ak at hp;rw[h6]at hp;injection hp with hp);(injection hp with _ ht);revert ht;decide};obtain⟨A,c,h4,h5,h6⟩:=h3 i q hq;exact⟨A,c,h4,h5,h6.sT hp qD u⟩
def cH.snoc{w w1:World}{B:Nat}{v v':Value}{ps:List (LN)}{p:LN}{A:OA}{c:Nat}{cells:List Value}(h1:cells.length=ps.length)
  (h3:∀(i:Nat) (q:LN),ps[i]?=some q->∃(A:OA) (c:Nat),cells[i]?=some (.s A q.length c)/\q.length<=c/\og w1 3 A (ints q))
  (hp:og w1 3 A (ints p)) (hc:p.length<=c) (hown:w1.ownsRow B 42 1 v' (ps.length+1) (cells++[.s A p.length c])):cH w1 B v' (ps++[p]):=by
 refine⟨cells++[.s A p.length c],by simp[h1],by rw[yQ];exact hown,fun i q hq=>?_⟩;by_cases e:i<ps.length;{rw[yR e]at hq;obtain⟨A',c',h4,h5,h6⟩:=h3 i q hq;exact⟨A',c',by rw[yR qO];exact h4,h5,h6⟩};rw[yS qO]at hq;have hi:i=ps.length:=(by have:=(yH.1 hq).1;simp at this;omega);subst hi;simp at hq;subst hq;exact⟨A,c,by rw[yS qO,h1];simp,hc,hp⟩
def cB(t:Tp)(down:List Bool)(d:Nat):Nat->LN->Nat->List Bool->List (LN)
 |0,_,_,_=>[]
 |f+1,path,at_,seen=>if at_=d then [path]else if(0<path.length)/\bP t at_=true then []else
  (aL t at_).flatMap fun a=>if cE down a||seen[(aK t a).toNat]?.getD false then []else cB t down d f (path++[a]) (aK t a).toNat (seen.set (aK t a).toNat true)
def kO(l:List Bool):Nat:=l.count false
def pM{l:List Bool}{k:Nat}(h:l[k]?=some false):kO (l.set k true)+1=kO l:=by
 unfold kO;(induction l generalizing k with|nil=>simp at h|cons b l ih=>(cases k with|zero=>simp at h;subst h;simp|succ k=>simp at h;have:=ih h;cases b <;> simp[yF] <;> omega))
def jzbg t(down:List Bool)(d:Nat):∀(f:Nat) (path:LN) (n:Nat) (qa:List Bool),(cB t down d f path n qa).length<=(2*t.links.length+1)^f:=by
 intro f;(induction f with|zero=>intro path n qa;simp[cB]|succ f ih=>intro path n qa;have h1:1<=(2*t.links.length+1)^(f+1):=Nat.one_le_pow _ _ qO;unfold cB;split;{simpa using h1};split;{simp};have hl:∀l:LN,(l.flatMap fun a=>if cE down a||qa[(aK t a).toNat]?.getD false then []else cB t down d f (path++[a]) (aK t a).toNat (qa.set (aK t a).toNat true)).length<=l.length*(2*t.links.length+1)^f:=(by intro l;(induction l with|nil=>simp|cons a l ihl=>rw[xU,yQ,Dw,xP,xQ,FI];refine Nat.add_le_add ihl ?_;split;{simp};exact ih _ _ _));refine yY (hl _) ?_;rw[vD,vE];exact Dx _ (yY (lJ t _ n) qO))
def pN{t}(hv:aG t=true){a:Nat}(ha:a<2*t.links.length):∃h:Nat,aK t a=(h:Int)/\(h:Int)<t.nodes:=by
 rw[jzbc];have qe:a/2*2+1-a%2<2*t.links.length:=qO;generalize a/2*2+1-a%2=b at*;unfold aG at hv;rw[vM]at hv;obtain⟨l,hl⟩:∃l,t.links[b/2]?=some l:=⟨_,yG qO⟩;have qa:=xW.1 hv.2 l (yJ hl);unfold Lk.ok Cr at qa;simp at qa;unfold dG;rw[hl];simp only[];split;{exact⟨l.a.toNat,qO,qO⟩};exact⟨l.b.toNat,qO,qO⟩
def jzbh{t}{n a:Nat}(h:a∈aL t n):a<2*t.links.length:=by
 unfold aL cG at h;rw[List.mem_filter]at h;simpa using h.1
def cH.push{w w1:World}{B:Nat}{ov v':Value}{ps:List (LN)}{p:LN}{A:OA}{c:Nat}{cells:List Value}(h1:cells.length=ps.length)(h2:w.ownsRow B 42 1 ov ps.length cells)
  (h3:∀(i:Nat) (q:LN),ps[i]?=some q->∃(A:OA) (c:Nat),cells[i]?=some (.s A q.length c)/\q.length<=c/\og w 3 A (ints q))
  (hp:og w 3 A (ints p)) (hc:p.length<=c) (hB:B<=w.heap.size) (hown:w1.ownsRow B 42 1 v' (ps.length+1) (cells++[.s A p.length c])) (hg:w.grownBy w1 ov.ownBlock):
  cH w1 B v' (ps++[p])/\bV w w1/\Below B w w1:=by
 have hk:bV w w1:=bV.grown hg (fun k hk=>Lib.ownsRow_kind h2 k hk);refine⟨cH.snoc (w:=w) (v:=ov) h1 (fun i q hq=>?_) (hk.Bz qD hp) hc hown,hk,(Below.refl B w).grown hg hB (fun k hk=>(h2.lt k hk).1)⟩;obtain⟨A',c',h4,h5,h6⟩:=h3 i q hq;exact⟨A',c',h4,h5,hk.Bz qD h6⟩
def fB(t:Tp)(down:List Bool)(d f:Nat)(path:LN)(seen:List Bool)(a:Nat):List (LN):=
 if cE down a||seen[(aK t a).toNat]?.getD false then []else cB t down d f (path++[a]) (aK t a).toNat (seen.set (aK t a).toNat true)
def jzi6 t(down:List Bool)(d f:Nat)(path:LN)(seen:List Bool)(a:Nat):(fB t down d f path seen a).length<=(2*t.links.length+1)^f:=by
 unfold fB;split;{simp};exact jzbg _ _ _ _ _ _ _
def jzi7 t(down:List Bool)(d f:Nat)(path:LN)(seen:List Bool)(l:LN):(l.flatMap (fB t down d f path seen)).length<=l.length*(2*t.links.length+1)^f:=by
 (induction l with|nil=>simp|cons a l ih=>rw[xU,yQ,Dw,xP,xQ,FI];exact Nat.add_le_add ih (jzi6 ..))
def aS{w:World}{p:Addr}{v:Value}(h:w.cell? p=some v)(o:Obj):(w.alloc o).cell? p=some v:=by
 have hb:p.block<w.heap.size:=(by (unfold World.cell? at h;rcases Bc p.block w.heap.size with hlt|hge);{exact hlt};rw[Fx hge]at h;simp at h);exact(World.cell?_of_block (Below.heap_alloc _ _ _ hb)).trans h
def jzbi{w w3}{g:Nat}{xs:List Value}{row:Option Nat}(h:Rd w (sA g) xs)(hg:w.grownBy w3 row)(hne:some g≠row):Rd w3 (sA g) xs:=fun hx=>by
 obtain⟨b,o,e,hb,hc⟩:=h hx;injection e with e
 injection e with e1 e2
 subst e1 e2;exact⟨g,0,rfl,yL hb hg.size,fun i hi=>(World.cell?_of_block (hg.block g hb hne)).trans (hc i hi)⟩
def og.get_{w}{ty:TypeId}{b o m a:Nat}{l:LN}(h:og w ty (some (aD b o)) (ints l))(hm:l[m]?=some a):w.cell? (aD b (o+m))=some (vI (a:Int)):=by
 have qa:=(yH.1 hm).1;obtain⟨b',o',e,_,hc⟩:=h.rd.at_ (i:=m) (by rw[bX];exact qa);injection e with e
 injection e with e1 e2
 subst e1 e2;rw[hc m (by rw[bX];exact qa),pK _ _ qa,hm];rfl
def lK(w:World)(B:Nat)(e:TypeId)(hB:B<=w.heap.size):(w.alloc (.cells #[] e)).ownsRow B e 1 (.s (sA w.heap.size) 0 0) 0 []:=
 World.ownsRow_made w #[] 0 hB qD qS
def jzi8(t:Tp)(AO:OA)(co:Nat)(AL:OA)(cl:Nat)(AD:OA)(cd:Nat)(down:List Bool)(d:Nat)(w0:World)(ht:aR w0 t AO co AL cl)(hv:aG t=true)(hll:t.links.length<=256)(hdn:Rd w0 AD (bB down))(hdl:down.length<=600)(hd:d<=1000)(f:Nat):
  ∀(path:LN) (AP:OA) (cp:Nat) (n:Nat) (qa:List Bool) (gs:Nat) (ov:Value) (ps:List (LN)) (w:World),kO qa<f->(qa.length:Int)=t.nodes->n<=1000->path.length<=cp->path.length+f<=1000->(AP=none->path.length=0)->Ext w0 w->og w 3 AP (ints path)->ak w gs 4 (bB qa).toArray->w0.heap.size<=gs->cH w w0.heap.size ov ps->
  ps.length+(2*t.links.length+1)^f<=2^42->
  Calls prog 55 #[.agg #[vI t.nodes,.s AO t.over.length co,.s AL t.links.length cl],.s AD down.length cd,.s AP path.length cp,vI n,vI d,.s (sA gs) qa.length qa.length,ov] w fun e w'=>∃qp,e=.returned qp/\cH w' w0.heap.size qp (ps++cB t down d f path n qa)/\Ext w0 w'/\bV w w':=by
 induction f with
 |zero=>intro path AP cp n qa gs ov ps w h;omega
 |succ f ih=>
 intro path AP cp n qa gs ov ps w hf vK hn zz zB vz vH qx qw vk vO vJ;have HT:=Hx (ht);have HV:=Hx (hv);have zi:=Hx (hdn);have IH:=Hx (ih);have HF:=Hx (hf);have v4:=Hx (vK);have X0:=Hx (vH);have HP:=Hx (qx);have HS:=Hx (qw);have PS:=Hx (vO);have BD:=Hx (vJ);have va:=Hx (vz);have h3:=ht.ll;have h4:=ht.cl;have h5:qa.length<=1000:=by
  unfold aG cF kg at hv;simp at hv;omega
 clear ht hv hdn ih hf vK vH qx qw vO vJ vz;obtain⟨ti,hi,qQ,qV,qT⟩:=info_parts Tryz.info3;obtain⟨zw,zf,zs,ze,zm⟩:=info_parts Tryz.Jc;obtain⟨qB,e0⟩:=aU w #[vI t.nodes,.s AO t.over.length co,.s AL t.links.length cl] 25;by_cases q9:n=d
 ·have qo:cB t down d (f+1) path n qa=[path]:=by unfold cB;rw[qE q9]
  rw[qo];have hb:((n:Int)==(d:Int))=true:=(by simp;omega);clear q9 qo;obtain⟨cells,pc,qM,vZ⟩:=PS.o.ex;have vq:=Hx (qM);have zk:=Hx (vZ);have PC:=Hx (pc);clear qM vZ pc
  go_enter func55,ntmps55
  go_wp2_with (at_builtin;go_must (refine nF _ rfl (.tmp 22) (.tmp 23) 42 rfl (w.heap.size+1) 3 ti (vI 0) 8 underlying42 hi qQ qV qT rfl (.s (sA (w.heap.size+1)) 0 0) 0 [] rfl ?c0 AP path.length cp (ints path) rfl ?c1 ?c2 ?c3 (gW _) ?c4 ?c5 ?c6 ?_))
  case c0=>have:=lK (w.alloc (.cells #[vI t.nodes,.s AO t.over.length co,.s AL t.links.length cl] 25)) (w.heap.size+1) 3 qS;simpa using this
  case c1=>exact(bX _).symm
  case c2=>exact HP.o.rd.K (e0.alloc _)
  case c3=>exact fun h=>.inr (va.o h)
  case c4=>unfold maxLen;omega
  case c5=>omega
  case c6=>simp
  intro v3 w3 qg qe _;have e3:Ext w w3:=Below.grown (e0.alloc (.cells #[] 3)) qe (by simp;omega) (fun k hk=>by simp[Value.ownBlock]at hk;omega);obtain⟨A3,c3,rfl,zo,vL⟩:=fA (l:=path) qg qO;have e4:Ext w (w3.alloc (.cells #[.s A3 path.length c3] 42)):=e3.alloc _;have E4:=Hx (e4);have R3:=Hx (vL);clear qg qe vL e3 e4;have b1:ps.length+1<=4398046511104:=by
   have:=BD.o;have h1:1<=(2*t.links.length+1)^(f+1):=Nat.one_le_pow _ _ qO;omega
  have qy:=Hx (vq.o.kept (row:=none) (w':=w3.alloc (.cells #[.s A3 path.length c3] 42)) ⟨E4.o.os,E4.o.tape,E4.o.output,E4.o.size,fun k hk _=>E4.o.block k hk⟩ (by
   by_cases e:ov.ownBlock=none
   ·exact .inl e
   exact .inr e))
  go_wp2_with (at_builtin;go_must (refine nF _ rfl (.tmp 21) (.tmp 25) 64 rfl w0.heap.size 42 zw zN 24 underlying64 zf zs ze zm rfl ov ps.length cells rfl ?d0 (sA w3.heap.size) 1 1 [.s A3 path.length c3] rfl rfl ?d1 ?d2 ?d3 ?d4 ?d5 ?d6 ?_))
  case d0=>exact qy.o
  case d1=>exact Rd.new _ _ _ rfl rfl
  case d2=>intro h;cases h
  case d3=>intro u hu;simp at hu;subst hu;rfl
  case d4=>unfold maxLen;omega
  case d5=>omega
  case d6=>exact yY X0.o.size E4.o.size
  intro v5 w5 qi qh _;obtain⟨q1,q2,q3⟩:=cH.push (p:=path) PC.o qy.o (fun i q hq=>by
   obtain⟨A',c',k1,k2,k3⟩:=zk.o i q hq;exact⟨A',c',k1,k2,k3.K E4.o⟩) (R3.o.K ((eR w3).alloc _)) zo (yY X0.o.size E4.o.size) qi qh
  have Q1:=Hx (q1);have Q2:=Hx ((bV.Ec E4.o).trans q2);have Q3:=Hx ((X0.o.tr E4.o).trans q3);clear q1 q2 q3 qi qh;go_wp2;go_ret;exact⟨v5,rfl,Q1.o,Q3.o,Q2.o⟩
 have hb:((n:Int)==(d:Int))=false:=yK.2 qO;have qo:cB t down d (f+1) path n qa=if(0<path.length)/\bP t n=true then []else
  (aL t n).flatMap fun a=>if cE down a||qa[(aK t a).toNat]?.getD false then []else cB t down d f (path++[a]) (aK t a).toNat (qa.set (aK t a).toNat true):=by
  rw[cB,qF q9]
 generalize hE:cB t down d (f+1) path n qa=E at*;have HE:=Hx (qo);clear qo hE q9;obtain⟨⟨i0,i1,i2⟩,g0,g1,g2⟩:=qB.t3
 go_enter func55,ntmps55
 go_upto_region 3 with fail
 go_cut [34] (fun s wx=>s=.bool (decide (0<path.length)&&bP t n)/\ak wx w.heap.size 25 #[vI t.nodes,.s AO t.over.length co,.s AL t.links.length cl]/\Ext w wx)
 case first=>
  by_cases hp:0<path.length
  ·go_wp2_with fail
   refine(jzbd t AO co AL cl n _ (HT.o.K (X0.o.tr e0)) HV.o).r fun w1 qJ=>?_;go_wp2;go_meet;exact⟨by simp[hp],qB.K qJ,e0.tr qJ⟩
  go_wp2_with fail
  go_meet;exact⟨by simp[hp],qB,e0⟩
 obtain⟨rfl,qB,hx⟩:=hcut;clear i0 i1 i2 g0 g1 g2 e0;obtain⟨⟨i0,i1,i2⟩,g0,g1,g2⟩:=qB.t3;cases hov:(decide (0<path.length)&&bP t n)
 case true=>
  have ve:E=[]:=by
   rw[HE.o,qE (by simpa using hov)]
  subst ve;have EX:=Hx (hx);clear hx hov;go_wp2;go_ret;exact⟨ov,rfl,by rw[List.append_nil];exact PS.o.K EX.o,X0.o.tr EX.o,bV.Ec EX.o⟩
 have vT:E=(aL t n).flatMap (fB t down d f path qa):=by
  rw[HE.o,qF (by simpa using hov)];rfl
 have zx:=Hx (vT);have EX:=Hx (hx);clear hx hov vT
 go_wp2_with fail
 refine(jzi5 t AO co AL cl n _ (HT.o.K (X0.o.tr EX.o)) HV.o hll).mono ?_;rintro e w1 ⟨AR,cr,rfl,zE,v8,qJ⟩;have E1:=Hx (EX.o.tr qJ);have zn:=Hx (qB.K qJ);have RR:=Hx (v8);clear v8 qJ qB i0 i1 i2 g0 g1 g2;have vd:=lJ t (2*t.links.length) n;change (aL t n).length<=_ at vd;generalize hL:(aL t n).length=L at*;have HL:=Hx (hL);clear hL;go_wp2
 go_loopw [6,16,17] (fun v it _ wr=>∃m:Nat,m<=L/\it=vI m/\cH wr w0.heap.size v (ps++((aL t n).take m).flatMap (fB t down d f path qa))/\Ext w0 wr/\bV w1 wr) (fun _ i _ _=>L-(intOf i).toNat)
 case atStart=>exact⟨0,yZ _,rfl,by rw[List.take_zero,List.flatMap_nil,List.append_nil];exact PS.o.K E1.o,X0.o.tr E1.o,bV.refl _⟩
 obtain⟨m,hm,rfl,vU,v2,v1⟩:=hrel;have PW:=Hx (vU);have q5:=Hx (v2);have KW:=Hx (v1);clear vU v2 v1;by_cases qA:m<L
 ·obtain⟨a,ha⟩:∃a,(aL t n)[m]?=some a:=⟨_,yG (by rw[HL.o];exact qA)⟩
  have zb:a<2*t.links.length:=jzbh (yJ ha);obtain⟨h,hh,zC⟩:=pN HV.o zb;have vy:h<qa.length:=(by have:=v4.o;omega);obtain⟨b,o,rfl,vm,vx⟩:=(KW.o.Bz qD RR.o).rd.at_ (i:=m) (by rw[bX,HL.o];exact qA);have qf:=vx m (by rw[bX,HL.o];exact qA);rw[pK _ _ (by rw[HL.o];exact qA),ha,DL]at qf;have qI:=KW.o.Hz qD zn.o;have v0:=KW.o.Hz qD ((bV.Ec E1.o).Hz qD HS.o);obtain⟨⟨i0,i1,i2⟩,g0,g1,g2⟩:=qI.t3;have x0:=XW.cell _ _ _ qI.lt i0;have x1:=XW.cell _ _ _ qI.lt i1;have x2:=XW.cell _ _ _ qI.lt i2;have y0:=XW.cell _ _ _ vm qf;have HA:=Hx (ha);have HH:=Hx (hh);have v9:=Hx (qI);have eu:=Hx (v0);clear ha hh vx qI v0
  go_wp2_with fail
  refine cA qK qK ?_
  repeat (go_big_quiet_step ((go_at_call 120;exact Calls.ru (tY t AO co AL cl a _ (HT.o.K (q5.o.tr (XW.ext _))) HV.o zb))))
  refine wpQuiet_nil ?_;rintro _ ⟨x,rfl⟩;rw[HH.o];have qz:=x.ext;have qf:=y0 x;clear x0 x1 x2 y0 i0 i1 i2 g0 g1 g2;generalize x.val=w2 at*;clear x;have qH:=v9.o.K qz;have qn:=eu.o.K qz;have q8:=Hx (PW.o.K qz);have qU:=Hx (q5.o.tr qz);have qC:=Hx (KW.o.trans (bV.Ec qz));have zt:b<w2.heap.size:=yL vm qz.size;clear qz q5 v9 vm;obtain⟨⟨i0,i1,i2⟩,g0,g1,g2⟩:=qH.t3;have vt:=qn.cell h;have za:=qn.frozen h;obtain⟨sb,vo⟩:∃sb,qa[h]?=some sb:=⟨_,yG vy⟩;have vF:(bB qa).toArray[h]?=some (.bool sb):=(by simp[bB,vo]);rw[vF]at vt;have vn:=Hx (vo);clear vo vF
  go_wp2_with fail
  refine(jzbe AD cd down a _ (zi.o.K qU.o)).mono ?_;rintro e w3 ⟨rfl,rfl⟩;have TS:=Hx (show((aL t n).take (m+1)).flatMap (fB t down d f path qa)=((aL t n).take m).flatMap (fB t down d f path qa)++fB t down d f path qa a by
   rw[Dj,HA.o,List.flatMap_append];simp)
  have GA:=Hx (show fB t down d f path qa a=if cE down a||sb then []else cB t down d f (path++[a]) h (qa.set h true) by
   unfold fB;rw[HH.o,xL,vn.o];rfl)
  cases hdn:cE down a
  case true=>
   rw[hdn]at GA;go_wp2
   go_roundw
   case rel=>exact⟨m+1,qO,by go_num,by rw[TS.o,GA.o];simpa using q8.o,qU.o,qC.o⟩
   simp[intOf];omega
  rw[hdn]at GA;cases sb
  case true=>
   go_wp2
   go_roundw
   case rel=>exact⟨m+1,qO,by go_num,by rw[TS.o,GA.o];simpa using q8.o,qU.o,qC.o⟩
   simp[intOf];omega
  go_upto_region 12 with fail
  go_cut [6] (fun s wx=>cH wx w0.heap.size s (ps++((aL t n).take (m+1)).flatMap (fB t down d f path qa))/\Ext w0 wx/\bV (w2.setCell (aD gs h) (.bool true)) wx)
  case first=>
   have sw:=qn.sT h (.bool true);have bw:=qH.far (p:=(aD gs h)) (fun e=>by
    have h1:=qH;have h2:=qn;unfold ak at h1 h2;simp only[]at e;rw[e,h2]at h1;injection h1 with h1
    injection h1 with _ h1
    revert h1;decide) (.bool true)
   have vw:=(qC.o.Bz qD RR.o).sT (p:=(aD gs h)) qn qD (.bool true);have pw:=((qC.o.Bz qD (HP.o.K E1.o)).sT (p:=(aD gs h)) qn qD (.bool true));have v6:=q8.o.sT (p:=(aD gs h)) qn (.bool true);have xw:=Ext.sT qU.o (p:=(aD gs h)) vk (.bool true);have vG:w.heap.size<w2.heap.size:=qH.lt;clear i0 i1 i2 g0 g1 g2 qf vt za;have vY:ak (w2.setCell (aD gs h) (.bool true)) gs 4 (bB (qa.set h true)).toArray:=by
    have e:((bB qa).toArray.setIfInBounds h (.bool true))=(bB (qa.set h true)).toArray:=by
     apply Array.ext';simp[bB,List.map_set]
    rw[<-e];exact sw
   have zc:(ps++((aL t n).take m).flatMap (fB t down d f path qa)).length+(2*t.links.length+1)^f<=2^42:=by
    have h1:=jzi7 t down d f path qa ((aL t n).take m);have h2:((aL t n).take m).length<=m:=(by simp;omega);have h3:=BD.o;rw[vD]at h3;have h4:((aL t n).take m).length*(2*t.links.length+1)^f<=m*(2*t.links.length+1)^f:=xS _ h2;have h5:m*(2*t.links.length+1)^f+(2*t.links.length+1)^f=(m+1)*(2*t.links.length+1)^f:=(by rw[xP,xQ]);have h6:(m+1)*(2*t.links.length+1)^f<=(2*t.links.length+1)*(2*t.links.length+1)^f:=xS _ qO;have h7:(2*t.links.length+1)^f*(2*t.links.length+1)=(2*t.links.length+1)*(2*t.links.length+1)^f:=vE _ _;rw[yQ];omega
   have zy:=pM vn.o;generalize hW:w2.setCell (aD gs h) (.bool true)=W at*;have vp:w.heap.size<W.heap.size:=(by rw[<-hW];simpa [World.setCell]using vG);clear hW sw qn qH q8 qU qC vG;have qt:∀(A5:OA) (c5:Nat) (W5:World),Ext W W5->og W5 3 A5 (ints (path++[a]))->path.length+1<=c5->(A5=none->path.length+1=0)->
     Calls prog 55 #[.agg #[vI t.nodes,.s AO t.over.length co,.s AL t.links.length cl],.s AD down.length cd,.s A5 (path.length+1) c5,vI h,vI d,.s (sA gs) qa.length qa.length,u6] W5 fun e w'=>∃qp,e=.returned qp/\cH w' w0.heap.size qp ((ps++((aL t n).take m).flatMap (fB t down d f path qa))++cB t down d f (path++[a]) h (qa.set h true))/\Ext w0 w'/\bV W w':=by
    intro A5 c5 W5 qY q6 zu zp;have hl:(path++[a]).length=path.length+1:=qS;have vV:(qa.set h true).length=qa.length:=qS;have:=IH.o (path++[a]) A5 c5 h (qa.set h true) gs u6 _ W5 (by have:=HF.o;omega) (by rw[vV];exact v4.o) qO (by rw[hl];exact zu) (by rw[hl];omega) (by rw[hl];exact zp) (xw.tr qY) q6 (vY.K qY) vk (v6.K qY) zc;rw[hl,vV]at this;exact this.mono fun e w' ⟨qp,k1,k2,k3,k4⟩=>⟨qp,k1,k2,k3,(bV.Ec qY).trans k4⟩
   have vc:=Hx (qt);have vi:=Hx (pw.rd);have zv:=Hx (bw);have zh:=Hx (vw);obtain⟨_,_,e',vj,qW⟩:=vw.rd.at_ (i:=m) (by rw[bX,HL.o];exact qA);injection e' with e'
   injection e' with e1' e2'
   subst e1' e2';have qf:=qW m (by rw[bX,HL.o];exact qA);rw[pK _ _ (by rw[HL.o];exact qA),HA.o,DL]at qf;obtain⟨⟨i0,i1,i2⟩,_⟩:=bw.t3;clear qt pw vw v6 xw vY zc zy qW bw;have KK:=Hx ((show w.heap.size<W.heap.size/\b<W.heap.size from⟨vp,vj⟩));have b1:path.length+1<=1000:=qO;have j0:=i0;have j1:=i1;have j2:=i2;have qj:=qf;have qX:Hid (Ext W (W.alloc (.cells #[] 3)).drew):=Hx (((eR W).alloc _).drewN 1);have q7:Hid (Ext W ((W.alloc (.cells #[] 3)).alloc (.cells #[vI (a:Int)] 3)).drew):=Hx ((((eR W).alloc _).alloc _).drewN 1);have q0:Hid (Ext W ((W.alloc (.cells #[vI (a:Int)] 3)).alloc (.cells #[] 3)).drew):=Hx ((((eR W).alloc _).alloc _).drewN 1);have vg:Hid ((W.alloc (.cells #[] 3)).drew.ownsRow W.heap.size 3 1 (.s (sA W.heap.size) 0 0) 0 []):=Hx (lK W _ _ (yX _));have vu:Hid (((W.alloc (.cells #[] 3)).alloc (.cells #[vI (a:Int)] 3)).drew.ownsRow W.heap.size 3 1 (.s (sA W.heap.size) 0 0) 0 []):=Hx ((lK W _ _ (yX _)).alloc _);have vl:=Hx (show((W.alloc (.cells #[vI (a:Int)] 3)).alloc (.cells #[] 3)).drew.ownsRow W.heap.size 3 1 (.s (sA (W.heap.size+1)) 0 0) 0 [] by
    have:=lK (W.alloc (.cells #[vI (a:Int)] 3)) W.heap.size 3 qS;simp at this;exact this)
   have zq:Hid (Rd ((W.alloc (.cells #[] 3)).alloc (.cells #[vI (a:Int)] 3)).drew (sA (W.heap.size+1)) [vI (a:Int)]):=Hx (Rd.new (W.alloc (.cells #[] 3)) _ _ qS rfl);have zj:Hid (Rd ((W.alloc (.cells #[vI (a:Int)] 3)).alloc (.cells #[] 3)).drew (sA W.heap.size) [vI (a:Int)]):=Hx ((Rd.new W 3 #[vI (a:Int)] rfl rfl).K (Ext.drewN (Ext.alloc (eR _) _) 1))
   go_region_held3 (fun w'=>w'.C w.heap.size 0 (vI t.nodes)/\w'.C w.heap.size 1 (.s AO t.over.length co)/\w'.C w.heap.size 2 (.s AL t.links.length cl)/\
     w'.C b (o+m) (vI (a:Int))) (first
    |exact⟨i0,i1,i2,qf⟩
    |exact⟨aS i0 _,aS i1 _,aS i2 _,aS qf _⟩
    |exact⟨aS (aS i0 _) _,aS (aS i1 _) _,aS (aS i2 _) _,aS (aS qf _) _⟩)
    (first
    |(rw[qE qR]
      refine mF _ (.tmp 68) (.tmp 69) 42 qR W.heap.size 3 ti (vI 0) 8 underlying42 hi qQ qV qT rfl (.s (sA W.heap.size) 0 0) 0 [] qR vg.o AP path.length cp (ints path) qR (bX _).symm (vi.o.K qX.o) (fun h=>.inr (va.o h)) (gW _) (by unfold maxLen;omega) qO qX.o.size ?_;intro v3 w3 qg qe _;have e3:Ext W w3:=Below.grown qX.o qe qX.o.size (fun k hk=>by simp[Value.ownBlock]at hk;omega);have i0:=(e3.cell (p:=(aD w.heap.size 0)) KK.o.1).trans j0;have i1:=(e3.cell (p:=(aD w.heap.size 1)) KK.o.1).trans j1;have i2:=(e3.cell (p:=(aD w.heap.size 2)) KK.o.1).trans j2;have qf:=(e3.cell (p:=(aD b (o+m))) KK.o.2).trans qj;have E3:=Hx e3;rw[CU,List.nil_append]at qg;have qk:=Hx qg;clear e3 qg qe)
    |(rw[qE qR]
      refine mF _ (.tmp 68) (.tmp 69) 42 qR W.heap.size 3 ti (vI 0) 8 underlying42 hi qQ qV qT rfl (.s (sA W.heap.size) 0 0) 0 [] qR vu.o AP path.length cp (ints path) qR (bX _).symm (vi.o.K q7.o) (fun h=>.inr (va.o h)) (gW _) (by unfold maxLen;omega) qO q7.o.size ?_;intro v3 w3 qg qe _;have e3:Ext W w3:=Below.grown q7.o qe q7.o.size (fun k hk=>by simp[Value.ownBlock]at hk;omega);have v7:Rd w3 (sA (W.heap.size+1)) [vI (a:Int)]:=jzbi zq.o qe (by simp[Value.ownBlock]);have i0:=(e3.cell (p:=(aD w.heap.size 0)) KK.o.1).trans j0;have i1:=(e3.cell (p:=(aD w.heap.size 1)) KK.o.1).trans j1;have i2:=(e3.cell (p:=(aD w.heap.size 2)) KK.o.1).trans j2;have qf:=(e3.cell (p:=(aD b (o+m))) KK.o.2).trans qj;have E3:=Hx e3;rw[CU,List.nil_append]at qg;have qk:=Hx qg;clear e3 qg qe)
    |(rw[qE qR]
      refine mF _ (.tmp 68) (.tmp 69) 42 qR W.heap.size 3 ti (vI 0) 8 underlying42 hi qQ qV qT rfl (.s (sA (W.heap.size+1)) 0 0) 0 [] qR vl.o AP path.length cp (ints path) qR (bX _).symm (vi.o.K q0.o) (fun h=>.inr (va.o h)) (gW _) (by unfold maxLen;omega) qO q0.o.size ?_;intro v3 w3 qg qe _;have e3:Ext W w3:=Below.grown q0.o qe q0.o.size (fun k hk=>by simp[Value.ownBlock]at hk;omega);have v7:Rd w3 (sA W.heap.size) [vI (a:Int)]:=jzbi zj.o qe (by simp[Value.ownBlock]);have i0:=(e3.cell (p:=(aD w.heap.size 0)) KK.o.1).trans j0;have i1:=(e3.cell (p:=(aD w.heap.size 1)) KK.o.1).trans j1;have i2:=(e3.cell (p:=(aD w.heap.size 2)) KK.o.1).trans j2;have qf:=(e3.cell (p:=(aD b (o+m))) KK.o.2).trans qj;have E3:=Hx e3;rw[CU,List.nil_append]at qg;have qk:=Hx qg;clear e3 qg qe)
    |(rw[qE qR]
      refine mF _ (.tmp 70) (.tmp 75) 42 qR W.heap.size 3 ti (vI 0) 8 underlying42 hi qQ qV qT rfl v3 path.length (ints path) qR (by first|exact qk.o|exact qk.o.alloc _) _ 1 1 [vI (a:Int)] qR rfl (by first|exact v7|exact Rd.new _ _ _ rfl rfl) (fun h=>by cases h) (fun u hu=>by simp at hu;subst hu;rfl) (by unfold maxLen;omega) qO (by first|exact E3.o.size|exact(E3.o.alloc _).size) ?_;intro v5 w5 qi qh _;have e5:Ext W w5:=(by first|exact Below.grown E3.o qh E3.o.size (fun k hk=>(qk.o.lt k hk).1)|exact Below.grown (E3.o.alloc _) qh (E3.o.alloc _).size (fun k hk=>(qk.o.lt k hk).1));have qm:w5.ownsRow W.heap.size 3 1 v5 (path.length+1) (ints (path++[a])):=(by rw[gU];exact qi);obtain⟨g5,c5,rfl⟩:∃g5 c5,v5=.s (sA g5) (path.length+1) c5:=by
       rcases qm.2 with⟨_,hq⟩|⟨g5,c5,_,hq,_⟩
       ·omega
       exact⟨g5,c5,hq⟩
      have q6:og w5 3 (sA g5) (ints (path++[a]))/\path.length+1<=c5:=by
       obtain⟨A',c',q1,q2,q3⟩:=fA (l:=path++[a]) qm qS;injection q1 with q1 _ q4
       subst q1 q4;rw[yQ]at q2;exact⟨q3,q2⟩
      have i0:=(e5.cell (p:=(aD w.heap.size 0)) KK.o.1).trans j0;have i1:=(e5.cell (p:=(aD w.heap.size 1)) KK.o.1).trans j1;have i2:=(e5.cell (p:=(aD w.heap.size 2)) KK.o.1).trans j2;have qf:=(e5.cell (p:=(aD b (o+m))) KK.o.2).trans qj;have E5:=Hx e5;have R5:=Hx q6;clear e5 qi qh qm q6)
    |(go_at_call 55
      refine(vc.o _ _ _ E5.o R5.o.1 R5.o.2 (fun h=>by cases h)).mono ?_;rintro e w6 ⟨qp,rfl,q1,q2,q3⟩;obtain⟨⟨i0,i1,i2⟩,_⟩:=(q3.Hz qD zv.o).t3;have qf:=(q3.Bz qD zh.o).get_ HA.o;have Q1:=Hx q1;have Q2:=Hx q2;have Q3:=Hx q3;clear q1 q2 q3))
   all_goals
    go_wp2;go_meet;exact⟨by rw[TS.o,GA.o, <-List.append_assoc];exact Q1.o,Q2.o,Q3.o⟩
  obtain⟨vW,zd,vh⟩:=hcut;have qZ:=vh.Hz qD (qn.sT h (.bool true));have KC:=Hx (qC.o.trans (bV.round qn vn.o vh));have PC:=Hx (vW.sT (p:=(aD gs h)) qZ bF);have XC:=Hx (Ext.sT zd (p:=(aD gs h)) vk bF);have zD:wc.cell? (aD gs h)=some (.bool true):=(qZ.cell h).trans (by simp[bB,vy]);have zA:=qZ.frozen h;clear vW zd vh qZ qn qH i0 i1 i2 g0 g1 g2 qf vt za;go_wp2
  go_roundw
  case rel=>exact⟨m+1,qO,by go_num,PC.o,XC.o,KC.o⟩
  simp[intOf];omega
 have zg:m=L:=qO;subst zg;have PF:=Hx (show cH _ w0.heap.size _ (ps++E) by
  have:=PW.o;rw[yU (by rw[HL.o];exact yX _), <-zx.o]at this;exact this)
 have KF:=Hx ((bV.Ec E1.o).trans KW.o);go_wp2;go_ret;exact⟨_,rfl,PF.o,q5.o,KF.o⟩
def Tryz.Jb:(prog.info? 4).map (fun i=>(i.zero,i.size,i.bytes))=some (some bF,1,1):=by kernel_rfl
def cW(t:Tp)(down:List Bool)(s d:Nat):List (LN):=cB t down d t.nodes.toNat [] s ((List.replicate t.nodes.toNat false).set s true)
def jzbj(N:Nat):kO (List.replicate N false)=N:=by unfold kO;simp
def jzbk t AO(co:Nat)AL(cl:Nat)AD(cd:Nat)(down:List Bool)(s d:Nat)w(ht:aR w t AO co AL cl)(hv:aG t=true)(hdn:Rd w AD (bB down))(hdl:down.length<=600)
  (hs:(s:Int)<t.nodes) (hd:(d:Int)<t.nodes) (hb:(2*t.links.length+1)^t.nodes.toNat<=2^42):
  Calls prog 16 #[.agg #[vI t.nodes,.s AO t.over.length co,.s AL t.links.length cl],.s AD down.length cd,vI s,vI d] w fun e w'=>∃v,e=.returned v/\cH w' w.heap.size v (cW t down s d)/\Ext w w':=by
 have hN:∃N:Nat,t.nodes=(N:Int)/\N<=64/\t.links.length<=256:=(by unfold aG cF kg at hv;simp at hv;exact⟨t.nodes.toNat,qO,qO,qO⟩)
 obtain⟨N,qh,qB,qw⟩:=hN;have qg:cW t down s d=cB t down d N [] s ((List.replicate N false).set s true):=(by unfold cW;rw[qh];rfl);rw[qg];have qa:(Value.agg #[vI t.nodes,.s AO t.over.length co,.s AL t.links.length cl])=.agg #[vI (N:Int),.s AO t.over.length co,.s AL t.links.length cl]:=(by rw[qh]);rw[qa];have qt:(2*t.links.length+1)^N<=2^42:=(by have:=hb;rw[qh]at this;exact this);have qo:s<N:=qO;have qA:d<N:=qO;have qf:((List.replicate N false).set s true).length=N:=qS;have qp:=pM (l:=List.replicate N false) (k:=s) (by simp[qo]);rw[jzbj]at qp;have qe:∀(W:World) (gs:Nat),Ext w W->w.heap.size<=gs->ak W gs 4 (bB ((List.replicate N false).set s true)).toArray->
   Calls prog 55 #[.agg #[vI (N:Int),.s AO t.over.length co,.s AL t.links.length cl],.s AD down.length cd,zN,vI s,vI d,.s (sA gs) N N,zN] W fun e w'=>∃ov',e=.returned ov'/\cH w' w.heap.size ov' (cB t down d N [] s ((List.replicate N false).set s true))/\Ext w w':=by
  intro W gs hW qx qm;have:=jzi8 t AO co AL cl AD cd down d w ht hv qw hdn hdl qO N [] none 0 s ((List.replicate N false).set s true) gs zN [] W qO (by rw[qf];exact qh.symm) qO (yX _) (by simp;omega) (fun _=>rfl) hW (og.nil _ _ _) qm qx (cH.nil _ _) (by simpa using qt);rw[qf,qa]at this;exact this.mono fun e w' ⟨ov',k1,k2,k3,_⟩=>⟨ov',k1,k2,k3⟩
 have qj:=Hx (qe);have h3:=ht.ll;have h4:=ht.cl;obtain⟨qn,e0⟩:=aU w #[vI (N:Int),.s AO t.over.length co,.s AL t.links.length cl] 25;have qy:=run_make_row' (P:=prog) 22 4 bF 1 underlying22 Tryz.Jb rfl .i64 .i64 N qO qO;have qi:(madeCells #[bF] N).setIfInBounds s (.bool true)=(bB ((List.replicate N false).set s true)).toArray:=(by apply Array.ext';rw[Array.toList_setIfInBounds,toList_madeCells_one];simp[bB,List.map_set]);have qk:=Hx (qi);clear ht hv hdn qg qa hb qt qf qp qe qh qi hs hd;obtain⟨⟨i0,i1,i2⟩,g0,g1,g2⟩:=qn.t3;have qz:(madeCells #[bF] N)[s]?=some bF:=(by rw[<-Gi,toList_madeCells_one];simp[qo]);have E0:=Hx (e0);clear qn e0;go_enter func16,ntmps16;go_wp2_with fail;rw[qk.o];refine(qj.o _ _ (E0.o.alloc _) (Nat.le_succ _) (ak.new' _ _ _ qS)).mono ?_;rintro e w2 ⟨v,rfl,q1,q2⟩;have Q1:=Hx (q1);have Q2:=Hx (q2);clear q1 q2;go_wp2;go_ret;exact⟨v,rfl,Q1.o,Q2.o⟩
def cH.form{w}{B:Nat}{v:Value}{ps:List (LN)}(h:cH w B v ps):∃A c,v=.s A ps.length c:=by
 obtain⟨cells,_,h2,_⟩:=h.ex;rcases h2.2 with⟨h3,h4⟩|⟨g,cap,_,h3,_⟩
 ·exact⟨none,0,by rw[h4];exact h3⟩
 exact⟨_,_,h3⟩
def dR(t:Tp)(s d:Int):Bool:=decide (s<0)||decide (s≥t.nodes)||decide (d<0)||decide (d≥t.nodes)
def jzi9{α:Type}[DecidableEq α]{l1 l2:List α}{m:Nat}{a b:α}(h:l1.take m=l2.take m)(h1:l1[m]?=some a)(h2:l2[m]?=some b)(hab:a=b):l1.take (m+1)=l2.take (m+1):=by
 rw[Dj,Dj,h,h1,h2,hab]
def Rd.Cg{w}{A}{l:LN}(h:Rd w A (ints l)){k:Nat}(hk:k<l.length):
  ∃b o,A=some (aD b o)/\b<w.heap.size/\w.cell? (aD b (o+k))=some (vI ((l[k]?.getD 0:Nat):Int)):=by
 obtain⟨b,o,e,hb,hc⟩:=h.at_ (i:=k) (by rw[bX];exact hk);exact⟨b,o,e,hb,(hc k (by rw[bX];exact hk)).trans (pK l k hk)⟩
def jzja A1 A2(c1 c2:Nat)(l1 l2:LN)w(hr1:Rd w A1 (ints l1))(hr2:Rd w A2 (ints l2))(hc1:l1.length<=c1)(hc2:l2.length<=c2)(hl1:l1.length<=4398046511104)(hl2:l2.length<=4398046511104):
  Calls prog 62 #[.s A1 l1.length c1,.s A2 l2.length c2] w fun e w'=>e=.returned (.bool (decide (l1=l2)))/\Ext w w':=by
 have R1:=Hx (hr1);have R2:=Hx (hr2);clear hr1 hr2;by_cases hl:l1.length=l2.length;{(have hL:((l1.length:Int) !=(l2.length:Int))=false:=by simp;omega);have HL:=Hx (hl);clear hl;generalize hB:decide (l1=l2)=B;have HB:=Hx (hB);clear hB;go_enter func62,ntmps62;go_wp2_with fail;(go_loopw [5] (fun it wr=>∃m:Nat,m<=l1.length/\it=vI m/\l1.take m=l2.take m/\Ext w wr) (fun i _=>l1.length-(intOf i).toNat));exact⟨0,yZ _,rfl,qS,eR w⟩;obtain⟨m,hm,rfl,qi,hx⟩:=hrel;have TK:=Hx (qi);have EX:=Hx (hx);clear qi hx;by_cases qk:m<l1.length;{(have qf:m<l2.length:=by have:=HL.o;omega);obtain⟨a,ha⟩:∃a,l1[m]?=some a:=⟨_,yG qk⟩;obtain⟨b,hb⟩:∃b,l2[m]?=some b:=⟨_,yG qf⟩;obtain⟨b1,o1,rfl,qo,qe⟩:=(R1.o.K EX.o).Cg qk;obtain⟨b2,o2,rfl,qn,qa⟩:=(R2.o.K EX.o).Cg qf;rw[ha,DL]at qe;rw[hb,DL]at qa;have x1:=XW.cell _ _ _ qo qe;have x2:=XW.cell _ _ _ qn qa;have HA:=Hx (ha);have qj:=Hx (hb);clear ha hb qe qa;go_wp2_with fail;refine cA qK qK ?_;(repeat (go_big_quiet_step (fail)));refine wpQuiet_nil ?_;rintro _ ⟨x,rfl⟩;have qg:=x.ext;clear x1 x2;generalize x.val=w2 at*;clear x;have E2:=Hx (EX.o.tr qg);clear qg;by_cases qh:a=b;{subst qh;go_wp2;go_roundw;(case rel=>exact⟨m+1,qO,by go_num,jzi9 TK.o HA.o qj.o rfl,E2.o⟩);simp[intOf];omega};have qp:((a:Int) !=(b:Int))=true:=(by simp;omega);have hB:B=false:=(by (rw[<-HB.o];apply yP;rintro rfl;have:=HA.o.symm.trans qj.o;injection this with this);exact qh this);subst hB;go_wp2;go_ret;exact⟨rfl,E2.o⟩};have qm:m=l1.length:=qO;subst qm;have hB:B=true:=(by rw[<-HB.o];apply yO;have:=TK.o;rw[yU (yX _),HL.o,yU (yX _)]at this;exact this);subst hB;go_wp2;go_ret;exact⟨rfl,EX.o⟩};have hL:((l1.length:Int) !=(l2.length:Int))=true:=(by simp;omega);have hB:decide (l1=l2)=false:=yP (fun e=>hl (by rw[e]));rw[hB];clear hl hB;go_enter func62,ntmps62;go_wp2;go_ret;exact⟨rfl,eR w⟩
section
variable {P:Program} (w:World)
end
def on(l:List Bool)(x:Nat):Prop:=l[x]?.getD false=true
def og.grown{w w'}{t:TypeId}{A}{xs:List Value}{row:Option Nat}(h:og w t A xs)(hg:w.grownBy w' row)(hne:xs≠ []->∀a,A=some a->some a.block≠row):og w' t A xs:=fun hx=>by
 obtain⟨b,o,cs,fr,e,hb,hc⟩:=h hx;exact⟨b,o,cs,fr,e,(hg.block b (gB hb) (hne hx _ e)).trans hb,hc⟩
section
variable {w0 wR w w':World} {gs:Nat} {clo:Value} {vis:List Bool} {ps:List (List Nat)} {path:List Nat} {pv qv:Value}
def eU(hx:Ext w w'):w.grownBy w' none:=⟨hx.os,hx.tape,hx.output,hx.size,fun k hk _=>hx.block k hk⟩
def eV(v:Value):v.ownBlock=none\/v.ownBlock≠none:=Classical.em _
def aM(w:World)(g k:Nat)(u:Value):w.grownBy (w.setCell (aD g k) u) (some g):=
 ⟨rfl,rfl,rfl,by simp[World.setCell],fun i _ hne=>Below.heap_setCell w (aD g k) u i (fun e=>hne (by rw[e]))⟩
def jzjb{B n g:Nat}{e:TypeId}{v:Value}{xs:List Value}(h:w.ownsRow B e 1 v n xs)(hg:g<B):v.ownBlock=none\/v.ownBlock≠some g:=by
 right;intro e;have:=(h.lt g e).1;omega
end
end Go.Proofs.YtfeeacaofjpkaaaGreatDoor
namespace Go.Proofs.YtfeeacaofjpkaaaGreatDoor.av
open Go.Proofs.Tryz
def guess(B u0 u1 u2 v1 v2:Nat):Nat:=min (B-1) (((u0*B+u1)*B+u2)/(v1*B+v2))
def DT{B u0 u1 u2 v1 v2 g r:Nat}(hv:0<v1*B+v2)(h:g*v1+r=u0*B+u1)(h1:g<B)(h2:g*v2<=r*B+u2)(hG:guess B u0 u1 u2 v1 v2<=g):g=guess B u0 u1 u2 v1 v2:=by
 have e:g*(v1*B+v2)<=(u0*B+u1)*B+u2:=(by rw[<-h,Ag,xP, <-Cb];omega);have e2:g<=((u0*B+u1)*B+u2)/(v1*B+v2):=(KJ hv).2 e;unfold guess at*;omega
def Gl{B u0 u1 u2 v1 v2 g r:Nat}(hB:0<B)(hv:0<v1*B+v2)(h:g*v1+r=u0*B+u1)(hc:B<=g\/r*B+u2<g*v2):guess B u0 u1 u2 v1 v2<g:=by
 (unfold guess;rcases hc with hc|hc);{omega};have e:(u0*B+u1)*B+u2<g*(v1*B+v2):=(by rw[<-h,Ag,xP, <-Cb];omega);have:=(Js hv).2 e;omega
def Fz{B u0 u1 u2 v1 v2 g r:Nat}(hv:0<v1*B+v2)(h:g*v1+r=u0*B+u1)(hu:u0<=v1)(hu1:u1<B)(hv2:v2<B)(hr:B<=r)(hG:guess B u0 u1 u2 v1 v2<=g):g<B/\g=guess B u0 u1 u2 v1 v2:=by
 have h1:g<B:=(by (rcases Bc g B with h2|h2);{exact h2};have h3:B*v1<=g*v1:=xS _ h2;have h4:u0*B<=v1*B:=xS _ hu;rw[vE v1 B]at h4;omega);refine⟨h1,DT hv h h1 ?_ hG⟩;have h5:g*v2<=B*B:=DK qO qO;have h6:B*B<=r*B:=xS _ hr;omega
def Fy{B u0 u1 u2 v1 v2:Nat}(hv1:0<v1)(hu2:u2<B):guess B u0 u1 u2 v1 v2<=(u0*B+u1)/v1:=by
 rw[KJ hv1];have hB:0<B:=qO;have h0:guess B u0 u1 u2 v1 v2<=((u0*B+u1)*B+u2)/(v1*B+v2):=(by unfold guess;omega);have hv:0<v1*B+v2:=(by have:=Nat.mul_pos hv1 hB;omega);have h1:=(KJ hv).1 h0;generalize guess B u0 u1 u2 v1 v2=g at*;rw[Ag, <-Cb]at h1;have h2:g*v1*B<(u0*B+u1+1)*B:=(by rw[xP (u0*B+u1) 1 B,xQ];omega);have h3:=Nat.lt_of_mul_lt_mul_right h2;omega
def jzjc{B k U V u v u0 u1 u2 v1 v2:Nat}(hB:0<B)(hU:U=((u0*B+u1)*B+u2)*B^k+u)(hu:u<B^k)(hV:V=(v1*B+v2)*B^k+v)(hv:v<B^k)(hlt:U<V*B)(hV2:B<=v1*B+v2):
  U/V<=guess B u0 u1 u2 v1 v2/\guess B u0 u1 u2 v1 v2<=U/V+1:=by
 unfold guess;generalize (u0*B+u1)*B+u2=U3 at*;generalize v1*B+v2=V2 at*;have hP:0<B^k:=Du hB;generalize B^k=P at*;have qa:0<V:=(by have:=Nat.mul_pos (show 0<V2 by omega) hP;omega);constructor;{have h1:U/V<B:=(Js qa).2 (by rw[vE];exact hlt);have h2:=Nat.div_mul_le_self U V;generalize U/V=Q at*;have h3:Q*V2*P<(U3+1)*P:=(by rw[hV,Ag, <-Cb]at h2;rw[xP U3 1 P,xQ];omega);have h4:=Nat.lt_of_mul_lt_mul_right h3;have h5:Q<=U3/V2:=(KJ qO).2 qO;omega};(have h0:min (B-1) (U3/V2)<=U3/V2:=qO;have h1:=(KJ (show 0<V2 by omega)).1 h0;have hg:min (B-1) (U3/V2)<=B:=qO;generalize min (B-1) (U3/V2)=g at*;cases g with|zero=>exact yZ _|succ g=>have h2:g<=U/V:=(by rw[KJ qa,hV,hU,Ag, <-Cb];have h3:(g+1)*V2*P<=U3*P:=xS _ h1;rw[xP,xP,xQ]at h3;have h4:g*v<=V2*P:=DK qO qO;omega);exact Nat.succ_le_succ h2)
end Go.Proofs.YtfeeacaofjpkaaaGreatDoor.av
namespace Go.Proofs.YtfeeacaofjpkaaaGreatDoor.av
open Go.Proofs.Tryz
def Ko{B c p x low:Nat}(hB:B=c*p)(hlow:low<p)(hc:0<c):x*p%B+low<B:=by
 subst hB;rw[Nat.mul_mod_mul_right];have h1:x%c<c:=xT _ hc;have h2:(x%c+1)*p<=c*p:=xS _ h1;rw[xP,xQ]at h2;omega
def Iz{B p k x low:Nat}{xs ls:LN}(hk:k<xs.length)(hl:k<ls.length)(ex:x=xs[k]?.getD 0)(h:val B (ls.take k)+B^k*low=val B (xs.take k)*p):
  val B ((ls.set k (x*p%B+low)).take (k+1))+B^(k+1)*(x*p/B)=val B (xs.take (k+1))*p:=by
 rw[lu B ls k _ hl,dw B xs k hk];simp only[List.getD];rw[<-ex,xP, <-h,Ag,vD];have e:B^k*(x*p%B)+B^k*B*(x*p/B)=B^k*x*p:=(by rw[Cb, <-Ag,Nat.mod_add_div, <-Cb]);omega
def Iy{B p c d D:Nat}(hp:0<p)(hB:B=c*p)(hc:0<c)(hd:d<B):(d+B*D)/p=(D%B*B+d)/p%B+B*(D/p):=by
 have qe:0<B:=(by rw[hB];exact Nat.mul_pos hc hp);have qa:∀q r,r<p->((q*p+r)*B+d)/p=q*B+(r*B+d)/p:=(by intro q r hr;have e:(q*p+r)*B+d=(r*B+d)+p*(q*B):=(by rw[xP,Cb,Nat.mul_left_comm q p B];omega);rw[e,Nat.add_mul_div_left _ _ hp];omega);have small:∀r,r<p->(r*B+d)/p<B:=(by intro r hr;rw[Js hp];have:(r+1)*B<=p*B:=xS _ hr;rw[xP,xQ,vE p B]at this;omega);have hr:D%p<p:=xT _ hp;have h1:(d+B*D)/p=D/p*B+(D%p*B+d)/p:=(by have:=qa (D/p) (D%p) hr;rw[vE (D/p) p,Ij]at this;rw[FI d,vE B D];exact this);have h2:D%B%p=D%p:=Nat.mod_mod_of_dvd D (by rw[hB];exact Nat.dvd_mul_left _ _);have h3:(D%B*B+d)/p=D%B/p*B+(D%p*B+d)/p:=(by have:=qa (D%B/p) (D%B%p) (by rw[h2];exact hr);rw[vE (D%B/p) p,Ij,h2]at this;exact this);rw[h1,h3,FI (D%B/p*B),Nat.add_mul_mod_self_right,Ey (small _ hr),vE B];omega
def IG{B i q x y pc br d EH:Nat}{uo un vs:LN}(hv:i<vs.length)(hu:i<uo.length)(hn:i<un.length)(ey:y=vs[i]?.getD 0)(ex:x=uo[i]?.getD 0)(hd:x+B*EH=d+(pc+y*q)%B+br)
  (h:val B (un.take i)+q*val B (vs.take i)=val B (uo.take i)+B^i*(pc+br)):
  val B ((un.set i d).take (i+1))+q*val B (vs.take (i+1))=val B (uo.take (i+1))+B^(i+1)*((pc+y*q)/B+EH):=by
 rw[lu B un i _ hn,dw B vs i hv,dw B uo i hu];simp only[List.getD];rw[<-ey, <-ex,vD];have e1:q*(B^i*y)=B^i*(y*q):=(by rw[Nat.mul_left_comm,vE q y]);have e2:B^i*B*((pc+y*q)/B+EH)+B^i*((pc+y*q)%B)=B^i*(pc+y*q)+B^i*(B*EH):=(by rw[Cb, <-Ag,Ag B,Nat.add_right_comm,Ij,Ag]);have e3:B^i*x+B^i*(B*EH)=B^i*d+B^i*((pc+y*q)%B)+B^i*br:=(by rw[<-Ag,hd,Ag,Ag]);have e4:B^i*(pc+y*q)=B^i*pc+B^i*(y*q):=Ag _ _ _;have e5:q*(val B (vs.take i)+B^i*y)=q*val B (vs.take i)+q*(B^i*y):=Ag _ _ _;rw[Ag]at h;omega
def JC{B q x pc br d EH n V:Nat}{uo un:LN}(hu:n+1=uo.length)(hn:n<un.length)(hl:un.length=uo.length)(ex:x=uo[n]?.getD 0)(hd:x+B*EH=d+pc+br)
  (h:val B (un.take n)+q*V=val B (uo.take n)+B^n*(pc+br)):
  val B (un.set n d)+q*V=val B uo+B^(n+1)*EH:=by
 have h1:=lu B un n d hn;rw[yU (by rw[yV];omega)]at h1;have h2:=dw B uo n qO;rw[yU qO]at h2;simp only[List.getD]at h2;rw[h1,h2, <-ex,vD];have e3:B^n*x+B^n*B*EH=B^n*d+B^n*pc+B^n*br:=(by rw[Cb, <-Ag,hd,Ag,Ag]);rw[Ag]at h;omega
def II{q V U R:Nat}(hV:0<V)(h:R+q*V=U)(hq:U/V<=q):q=U/V/\R=U%V:=by
 have h1:q<=U/V:=(KJ hV).2 qO;have h2:q=U/V:=Nat.le_antisymm h1 hq;refine⟨h2,?_⟩;have h3:=Ij U V;rw[<-h2,vE]at h3;omega
def IJ{q V U R R' M c:Nat}(hV:0<V)(hR:R<M)(hR':R'<M)(h:R+q*V=U+M)(h':R'+M*c=R+V)(hc:c<=1)(hq:q<=U/V+1):0<q/\q-1=U/V/\R'=U%V:=by
 have h1:U/V<q:=(Js hV).2 qO;have h2:q=U/V+1:=Nat.le_antisymm hq h1;have h3:=Ij U V;have h4:q*V=V*(U/V)+V:=(by rw[h2,xP,xQ,vE]);have hm:c=0\/c=1:=qO;generalize U/V=Q at*;refine⟨qO,qO,?_⟩;generalize V*Q=X at*;generalize q*V=Y at*;rcases hm with rfl|rfl
 ·simp at h';omega
 simp at h';omega
end Go.Proofs.YtfeeacaofjpkaaaGreatDoor.av
namespace Go.Proofs.YtfeeacaofjpkaaaGreatDoor.av
open Go.Proofs.Tryz
def top3{B n:Nat}{uo:LN}(h:uo.length=n+1)(hn:2<=n):
  val B uo=((uo[n]?.getD 0*B+uo[n-1]?.getD 0)*B+uo[n-2]?.getD 0)*B^(n-2)+val B (uo.take (n-2)):=by
 have h1:=om B uo (n-2) qO;have h2:=qc B uo (n-2) qO;have h3:=qc B uo (n-1) qO;have h4:=qc B uo n qO;rw[D5 (show uo.length<=n+1 by omega),Dq,ER,Ef]at h4;rw[show n-2+1=n-1 by omega]at h2;rw[show n-1+1=n by omega]at h3;simp only[List.getD]at h2 h3 h4;rw[h1,h2,h3,h4,vE (B^(n-2)),FI (val B _)];congr 2;rw[vE B,FI,vE B,FI (uo[n-1]?.getD 0)]
def top2{B n:Nat}{vs:LN}(h:vs.length=n)(hn:2<=n):val B vs=(vs[n-1]?.getD 0*B+vs[n-2]?.getD 0)*B^(n-2)+val B (vs.take (n-2)):=by
 have h1:=om B vs (n-2) qO;have h2:=qc B vs (n-2) qO;have h3:=qc B vs (n-1) qO;rw[show n-1+1=n by omega,D5 (show vs.length<=n by omega),Dq,ER,Ef]at h3;rw[show n-2+1=n-1 by omega]at h2;simp only[List.getD]at h2 h3;rw[h1,h2,h3,vE (B^(n-2)),FI (val B _),vE B,FI (vs[n-2]?.getD 0)]
def tZ{B n:Nat}{vs:LN}(h:vs.length=n+1):val B vs=vs[n]?.getD 0*B^n+val B (vs.take n):=by
 have h1:=dw B vs n qO;rw[yU qO]at h1;simp only[List.getD]at h1;rw[h1,vE,FI]
def pO{B:Nat}(hB:0<B){ds:LN}(h:∀d∈ds,d<B)(k:Nat)(hk:k<=ds.length):val B (ds.take k)<B^k:=by
 have:=ow hB (ds:=ds.take k) (fun d hd=>h d (xM hd));rw[xF,Ik hk]at this;exact this
def norm{B n p:Nat}{ys:LN}(hB:0<B)(hys:∀d∈ys,d<B)(h:ys.length=n+1)(h2:(ys[n]?.getD 0+1)*p<=B)(h1:B<=2*(ys[n]?.getD 0*p)):
  val B ys*p<B^(n+1)/\B^(n+1)<=2*(val B ys*p):=by
 have e:=tZ (B:=B) h;have hl:=pO hB hys n qO;generalize ys[n]?.getD 0=t at*;generalize val B (ys.take n)=l at*;have hP:0<B^n:=Du hB;have hp:0<p:=(by (rcases Ee p with e0|e0);{subst e0;simp at h1;omega};exact e0);rw[e,vD];constructor;{have h3:(t*B^n+l)*p<((t+1)*B^n)*p:=Nat.mul_lt_mul_of_pos_right (by rw[xP,xQ];omega) hp;refine yL h3 ?_;rw[Nat.mul_right_comm,vE];exact Dx _ h2};have h3:B^n*B<=B^n*(2*(t*p)):=Dx _ h1;refine yY h3 ?_;rw[Nat.mul_left_comm];refine Dx _ ?_;rw[xP,vE (B^n),Nat.mul_right_comm];omega
def uA{B j n V:Nat}{du:LN}(hB:0<B)(hdu:∀d∈du,d<B)(hj:j+n+1<=du.length)(hlow:val B (du.drop (j+1))<V)(hV:V<=B^n):
  val B (du.drop (j+n+1))=0/\val B ((du.drop j).take (n+1))=val B (du.drop j)/\val B (du.drop j)<V*B:=by
 have h1:=qc B du j qO;have hd:du.getD j 0<B:=(by rw[List.getD_eq_getElem?_getD,yG qO];exact hdu _ (xR _));have h2:B*(val B (du.drop (j+1))+1)<=B*V:=Dx _ hlow;rw[Ag,Nat.mul_one]at h2;have h3:val B (du.drop j)<V*B:=(by rw[h1,vE V];omega);have h4:=om B (du.drop j) (n+1) (by rw[List.length_drop];omega);rw[List.drop_drop]at h4;have h5:V*B<=B^(n+1):=(by rw[vD];exact xS _ hV);have h6:val B (du.drop (j+(n+1)))=0:=(by (rcases Ee (val B (du.drop (j+(n+1))))with e|e);{exact e};have:=Dx (B^(n+1)) (show 1<=val B (du.drop (j+(n+1)))from e);omega);refine⟨h6,?_,h3⟩;rw[h6,ER,Ef]at h4;exact h4.symm
def Kn(du:LN)(j n:Nat):du=du.take j++((du.drop j).take (n+1)++du.drop (j+n+1)):=by
 rw[show du.drop (j+n+1)=(du.drop j).drop (n+1) by rw[List.drop_drop,JK],KH,KH]
def jzjd{B n U V u0 v1 u v:Nat}(hU:U=u0*B^(n+1)+u)(hV:V=v1*B^n+v)(hv:v<B^n)(hlt:U<V*B):u0<=v1:=by
 (rcases Bc v1 u0 with h|h);{have h1:(v1+1)*B^(n+1)<=u0*B^(n+1):=xS _ h;have h2:V*B<=(v1+1)*B^n*B:=xS _ (by rw[hV,xP,xQ];omega);rw[Cb,show B^n*B=B^(n+1)from rfl]at h2;omega};exact h
def Hf{B nq n p V X:Nat}{us:LN}(hB:0<B)(Ez:nq<=us.length)(hX:val B us=X*p)(hX2:X<B^(nq+n))(hV:B^(n+1)<=2*V)(hp:2*p<=B)(hp0:0<p):val B (us.drop nq)<V:=by
 rcases Bc (val B (us.drop nq)) V with h|h
 ·exact h
 exfalso;have h1:=om B us nq Ez;have h2:B^nq*V<=B^nq*val B (us.drop nq):=Dx _ h;have h3:B^nq*B^(n+1)<=B^nq*(2*V):=Dx _ hV;have h4:B^(nq+n)*(2*p)<=B^(nq+n)*B:=Dx _ hp;have h5:X*p<B^(nq+n)*p:=Nat.mul_lt_mul_of_pos_right hX2 hp0;have e1:B^nq*B^(n+1)=B^(nq+n)*B:=(by rw[<-Nat.pow_add, <-JK,vD]);have e2:B^(nq+n)*(2*p)=2*(B^(nq+n)*p):=(by rw[Nat.mul_left_comm]);have e3:B^nq*(2*V)=2*(B^nq*V):=(by rw[Nat.mul_left_comm]);omega
def Jg{B j k n A V:Nat}{du dq un:LN}(hk:k=j+1)(hj:j+n+1<=du.length)(hq:j<dq.length)(hV:0<V)(hA:A=val B (dq.drop k)*B^k*V+val B du)
  (hb:val B (du.drop (j+n+1))=0) (hw:val B ((du.drop j).take (n+1))=val B (du.drop j)) (hun:un.length=n+1) (hr:val B un=val B ((du.drop j).take (n+1))%V):
  A=val B ((dq.set j (val B ((du.drop j).take (n+1))/V)).drop j)*B^j*V+val B (du.take j++(un++du.drop (j+n+1)))/\val B ((du.take j++(un++du.drop (j+n+1))).drop j)<V:=by
 subst hk;have hl:(du.take j).length=j:=(by rw[xF,Ik qO]);constructor;{rw[AU _ _ _ hq,mh,val_append,val_append,hb,ER,Ef,hl,hr];simp only[Ef];have h1:=om B du j qO;rw[<-hw]at h1;rw[hA,h1];generalize val B ((du.drop j).take (n+1))=U at*;generalize val B (du.take j)=L;generalize val B (dq.drop (j+1))=D;have h2:=Ij U V;have e1:B^j*U=B^j*(V*(U/V))+B^j*(U%V):=(by rw[<-Ag,h2]);have e2:(U/V+B*D)*B^j*V=B^j*(V*(U/V))+D*B^(j+1)*V:=(by rw[xP,xP,vD];congr 1;{rw[vE (U/V),Cb,vE (U/V)]};rw[vE B D,Cb D B,vE B]);omega};rw[List.drop_append_of_le_length qO,D5 qO,List.nil_append,val_append,hb,ER,Ef,hr];exact xT _ hV
def FD{B j:Nat}{du vs:LN}(hB:2<=B)(hL:2<=vs.length)(hdu:∀d∈du,d<B)(hvs:∀d∈vs,d<B)(hj:j+vs.length+1<=du.length)(hlow:val B (du.drop (j+1))<val B vs)(hnorm:B^vs.length<=2*val B vs):
  val B (du.drop (j+vs.length+1))=0/\val B ((du.drop j).take (vs.length+1))=val B (du.drop j)/\
  val B ((du.drop j).take (vs.length+1))/val B vs<=guess B (du[j+vs.length]?.getD 0) (du[j+vs.length-1]?.getD 0) (du[j+vs.length-2]?.getD 0) (vs[vs.length-1]?.getD 0) (vs[vs.length-2]?.getD 0)/\
  guess B (du[j+vs.length]?.getD 0) (du[j+vs.length-1]?.getD 0) (du[j+vs.length-2]?.getD 0) (vs[vs.length-1]?.getD 0) (vs[vs.length-2]?.getD 0)<=val B ((du.drop j).take (vs.length+1))/val B vs+1/\
  du[j+vs.length]?.getD 0<=vs[vs.length-1]?.getD 0/\B<=2*vs[vs.length-1]?.getD 0+1/\0<val B vs:=by
 have qe:0<B:=qO;have qf:=ow qe hvs;obtain⟨wz,ww,wl⟩:=uA (n:=vs.length) qe hdu qO hlow (Bg qf);have qi:((du.drop j).take (vs.length+1)).length=vs.length+1:=(by rw[xF,List.length_drop];omega);have qm:∀d∈(du.drop j).take (vs.length+1),d<B:=fun d hd=>hdu d (List.mem_of_mem_drop (xM hd));have t3:=top3 (B:=B) qi qO;have t2:=top2 (B:=B) (vs:=vs) rfl hL;have t1:=tZ (B:=B) (vs:=vs) (n:=vs.length-1) qO;have s1:=tZ (B:=B) qi;have qa:∀i,i<=vs.length->((du.drop j).take (vs.length+1))[i]?.getD 0=du[j+i]?.getD 0:=fun i hi=>(by rw[xG,qE qO,List.getElem?_drop]);rw[qa _ (yX _),qa (vs.length-1) qO,qa (vs.length-2) qO,show j+(vs.length-1)=j+vs.length-1 by omega,show j+(vs.length-2)=j+vs.length-2 by omega]at t3;rw[qa _ (yX _)]at s1;have l3:=pO qe qm (vs.length-2) qO;have l2:=pO qe hvs (vs.length-2) qO;have l1:=pO qe hvs (vs.length-1) qO;have qh:val B ((du.drop j).take (vs.length+1))<val B vs*B:=(by rw[ww];exact wl);have qj:B<=2*vs[vs.length-1]?.getD 0+1:=(by (rcases Bc (2*vs[vs.length-1]?.getD 0+1) B with h|h);{exfalso;have h1:B^vs.length=B^(vs.length-1)*B:=(by rw[<-vD];congr 1;omega);have h2:B^(vs.length-1)*(2*vs[vs.length-1]?.getD 0+2)<=B^(vs.length-1)*B:=Dx _ h;rw[Ag,Nat.mul_left_comm,vE (B^(vs.length-1)) (vs[vs.length-1]?.getD 0)]at h2;omega};exact h);have qk:0<val B vs:=(by have:0<B^vs.length:=Du qe;omega);have qg:du[j+vs.length]?.getD 0<=vs[vs.length-1]?.getD 0:=(by exact jzjd (n:=vs.length-1) (by rw[show vs.length-1+1=vs.length by omega];exact s1) t1 l1 qh);have qn:B<=vs[vs.length-1]?.getD 0*B+vs[vs.length-2]?.getD 0:=(by have:1*B<=vs[vs.length-1]?.getD 0*B:=xS _ qO;omega);obtain⟨q1,q2⟩:=jzjc qe t3 l3 t2 l2 qh qn;exact⟨wz,ww,q1,q2,qg,qj,qk⟩
end Go.Proofs.YtfeeacaofjpkaaaGreatDoor.av
namespace Go.Proofs.YtfeeacaofjpkaaaGreatDoor
open Go.Proofs.Tryz
open Go.RowKit
def uB(s:Nat)(hs:s<32):dh=2^(32-s)*2^s:=by
 rw[<-Nat.pow_add,Nat.sub_add_cancel qO];rfl
def jzje(x low s:Nat)(hx:x<4294967296)(hs:s<32)(hlow:low<2^s):
  bits BinOp.or IntKind.u32 ((x:Int)*2^s%4294967296) (low:Int)=((x*2^s%dh+low:Nat):Int)/\IntKind.u64.wrap ((x:Int)*2^s)/4294967296%4294967296=((x*2^s/dh:Nat):Int)/\x*2^s/dh<2^s/\x*2^s%dh+low<dh:=by
 have hp:2^s<4294967296:=Nat.pow_lt_pow_of_lt (a:=2) qD hs;have hc:0<2^(32-s):=Du qD;have e:(x:Int)*2^s=((x*2^s:Nat):Int):=(by rw[Ii,Int.natCast_pow];rfl);have h1:x*2^s<4294967296*2^s:=Nat.mul_lt_mul_of_pos_right hx (Du qD);have h2:=av.Ko (x:=x) (uB s hs) hlow hc;have hm:x*2^s%dh=2^s*(x%2^(32-s)):=(by rw[uB s hs,Nat.mul_mod_mul_right,vE]);have qa:x*2^s%dh|||low=x*2^s%dh+low:=(by rw[hm];exact(Nat.two_pow_add_eq_or_of_lt hlow _).symm);rw[aP]at*;refine⟨?_,?_,?_,h2⟩;{rw[e,show((x*2^s:Nat):Int)%4294967296=((x*2^s%4294967296:Nat):Int) by omega,u32_or_nat _ _ qO qO,qa]};{rw[e,IntKind.wrap_u64];omega};rw[Js qD,vE (2^s)];exact h1
def jzbl A(c s len:Nat)(xs:LN)w(hc:xs.length<=c)(hxs:∀d∈xs,d<dh)(hr:og w 196 A (cZ xs))(hn:xs.length<=1073741824)(hs:s<32)(qk:len=xs.length\/len=xs.length+1):
  Calls prog 207 #[.s A xs.length c,vI s,vI len] w fun e w'=>∃(g:Nat) (ls:LN),e=.returned (.s (sA g) len len)/\Row w' g ls/\ls.length=len/\(∀d∈ls,d<dh)/\w.heap.size<=g/\Ext w w'/\av.val dh ls=av.val dh xs*2^s%dh^len:=by
 have qA:=run_make_row' (P:=prog) 29 196 (.int .u32 0) 4 underlying29 Tryz.AJ rfl .i64 .i64 len qO qO;have qJ:xs.length<=len:=qO;have qI:len<=xs.length+1:=qO;clear qk;go_enter func207,ntmps207;go_wp2;clear qA
 go_loopw [8,9,10,15] (fun lo _ _ it wr=>∃(k low:Nat) (ls:LN),k<=xs.length/\it=vI k/\lo=.int .u32 low/\low<2^s/\ls.length=len/\(∀d∈ls,d<dh)/\(∀j,k<=j->ls[j]?.getD 0=0)/\
  av.val dh (ls.take k)+dh^k*low=av.val dh (xs.take k)*2^s/\Row wr w.heap.size ls/\Ext w wr) (fun _ _ _ i _=>xs.length-(intOf i).toNat)
 (case atStart=>refine⟨0,0,List.replicate len 0,yZ _,rfl,rfl,Du qD,qS,fun d hd=>?_,fun j _=>?_,by simp[av.val],Row.made _ _ rfl,(eR _).alloc _⟩;{have:=uF hd;subst this;exact bA};rw[xB];split <;> rfl);obtain⟨k,low,ls,hk,rfl,rfl,qi,qt,qm,qh,qj,qa,hx⟩:=hrel;have HV:=Hx qj;have qg:=Hx qt;have HZ:=Hx qh;clear qj qt qh;by_cases qx:k<xs.length
 ·obtain⟨b1,o1,rfl,qB,qe⟩:=hr.rd.u32 (k:=k) qO;have qH:wr.cell? (aD b1 (o1+k))=_:=(hx.cell (p:=(aD b1 (o1+k))) qB).trans (qe k qO);have qy:=qa.cell (i:=k) (by have:=qg.o;omega);have qC:=qa.frozen k;have qw:=bY hxs k;rw[aP]at qw;generalize hxe:xs[k]?.getD 0=x at*;generalize ls[k]?.getD 0=dk at*;have HX:=Hx hxe;have qo:=Hx qi;clear hxe qe qi;obtain⟨d1,d2,d3,d4⟩:=jzje x low s qw hs qo.o;have D1:=Hx d1;have D2:=Hx d2;have D3:=Hx d3;have D4:=Hx d4;clear d1 d2 d3 d4;go_wp2;go_roundw
  case rel=>
   rw[D1.o,D2.o];exact⟨k+1,x*2^s/dh,ls.set k (x*2^s%dh+low),qO,by go_num,rfl,D3.o,by rw[yV];exact qg.o,av.pz qm D4.o,fun j hj=>by rw[vN qO];exact HZ.o j qO,
    av.Iz qx (by have:=qg.o;omega) HX.o.symm HV.o,qa.sT _ _,Below.setCell hx qS _⟩
  simp[intOf];omega
 have qz:k=xs.length:=qO;subst qz;rw[yU (yX _)]at HV;have qn:=av.ow bA hxs;by_cases qk:xs.length<len;{(have qp:len=xs.length+1:=by omega);subst qp;have qy:=qa.cell (i:=xs.length) (by have:=qg.o;omega);have qC:=qa.frozen xs.length;generalize ls[xs.length]?.getD 0=dk at*;have hp:2^s<dh:=(by show 2^s<2^32;exact Nat.pow_lt_pow_of_lt qD hs);have qf:av.val dh (ls.set xs.length low)=av.val dh xs*2^s%dh^(xs.length+1):=(by have h1:=av.lu dh ls xs.length low (by have:=qg.o;omega);rw[yU (by rw[yV];have:=qg.o;omega)]at h1;rw[h1,HV.o,Ey];rw[vD];exact J7 qn (Bg hp) bA);have HF:=Hx qf;have HP:=Hx hp;clear qf qn hp;go_wp2;go_ret;exact⟨w.heap.size,ls.set xs.length low,rfl,qa.sT _ _,by rw[yV];exact qg.o,av.pz qm (Nat.lt_trans qi HP.o),yX _,Below.setCell hx qS _,HF.o⟩};have qp:len=xs.length:=qO;subst qp;have qf:av.val dh ls=av.val dh xs*2^s%dh^xs.length:=(by have h1:=HV.o;rw[yU (by rw[qg.o];exact yX _)]at h1;have h2:=av.ow bA qm;rw[qg.o]at h2;rw[<-h1,Nat.add_mul_mod_self_left,Ey h2]);have HF:=Hx qf;clear qf qn;go_wp2;go_ret;exact⟨w.heap.size,ls,rfl,qa,qg.o,qm,yX _,hx,HF.o⟩
def jzjf(xs:LN)(hxs:∀d∈xs,d<dh)(k:Nat):av.val dh (xs.drop k)%dh=xs[k]?.getD 0:=by
 by_cases hk:k<xs.length;{rw[av.qc dh xs k hk,Nat.add_mul_mod_self_left,Ey];{rfl};exact bY hxs k};rw[D5 qO,yI qO];rfl
def jzjg A(c s:Nat)(xs:LN)w(hc:xs.length<=c)(hxs:∀d∈xs,d<dh)(hr:og w 196 A (cZ xs))(hn:xs.length<=1073741824)(hs:s<32):
  Calls prog 209 #[.s A xs.length c,vI s] w fun e w'=>∃(g:Nat) (ls:LN),e=.returned (.s (sA g) xs.length xs.length)/\Row w' g ls/\ls.length=xs.length/\(∀d∈ls,d<dh)/\w.heap.size<=g/\Ext w w'/\av.val dh ls=av.val dh xs/2^s:=by
 have qt:=run_make_row' (P:=prog) 29 196 (.int .u32 0) 4 underlying29 Tryz.AJ rfl .i64 .i64 xs.length qO qO;go_enter func209,ntmps209;go_wp2;clear qt
 go_loopw [6,7,8] (fun hi it _ wr=>∃(k:Nat) (ls:LN),k<=xs.length/\it=vI (k-1)/\hi=.int .u32 ((xs[k]?.getD 0:Nat):Int)/\ls.length=xs.length/\(∀d∈ls,d<dh)/\
  av.val dh (ls.drop k)=av.val dh (xs.drop k)/2^s/\Row wr w.heap.size ls/\Ext w wr) (fun _ i _ _=>(intOf i+1).toNat)
 (case atStart=>refine⟨xs.length,List.replicate xs.length 0,yX _,rfl,qS,qS,fun d hd=>?_,?_,Row.made _ _ rfl,(eR _).alloc _⟩;{have:=uF hd;subst this;exact bA};rw[D5 (yX _),D5 qS];simp[av.val]);obtain⟨k,ls,hk,rfl,rfl,qn,qm,qg,qe,hx⟩:=hrel;have HV:=Hx qg;have qi:=Hx qn;clear qg qn;by_cases qp:0<k;{obtain⟨b1,o1,rfl,qw,qa⟩:=hr.rd.u32 (k:=k-1) qO;have qB:wr.cell? (aD b1 (o1+(k-1)))=_:=(hx.cell (p:=(aD b1 (o1+(k-1)))) qw).trans (qa (k-1) qO);have qA:b1≠w.heap.size:=qO;have qH:=qe.cell (i:=k-1) (by have:=qi.o;omega);have qI:=qe.frozen (k-1);have qo:=bY hxs (k-1);have qx:=bY hxs k;have qh:=jzjf xs hxs k;rw[aP]at qo qx;have qj:=av.qc dh xs (k-1) qO;simp only[List.getD]at qj;rw[Nat.sub_add_cancel qp]at qj;generalize hxe:xs[k-1]?.getD 0=x at*;generalize xs[k]?.getD 0=hi at*;generalize ls[k-1]?.getD 0=dk at*;have HX:=Hx hxe;have qk:=av.Iy (D:=av.val dh (xs.drop k)) (Du qD) (uB s hs) (Du qD) (show x<dh by rw[aP];exact qo);rw[qh, <-qj]at qk;have qy:=Hx qk;have qC:=mZ hi x qO qO qO qO;have qf:((hi:Int)*4294967296+x)/2^s%4294967296=(((hi*dh+x)/2^s%dh:Nat):Int):=(by rw[aP,Int.natCast_emod,Int.natCast_ediv,Jo,Ii,Int.natCast_pow];rfl);have HC:=Hx qf;clear hxe qa qk qj qh qf;go_wp2;go_roundw;(case rel=>refine⟨k-1,ls.set (k-1) ((hi*dh+x)/2^s%dh),qO,by go_num,by rw[HX.o],by rw[yV];exact qi.o,av.pz qm (xT _ bA),?_,?_,Below.setCell hx qS _⟩;{rw[av.AU _ _ _ (by have:=qi.o;omega),Nat.sub_add_cancel qp,av.mh,HV.o,qy.o]};rw[HC.o];exact qe.sT _ _);simp[intOf];omega};have qz:k=0:=qO;subst qz;go_wp2;go_ret;have:=HV.o;rw[List.drop_zero,List.drop_zero]at this;exact⟨w.heap.size,ls,rfl,qe,qi.o,qm,yX _,hx,this⟩
def pP(a un b:LN)(i:Nat)(h:i<un.length):(a++(un++b))[a.length+i]?.getD 0=un[i]?.getD 0:=by
 rw[yS qO,Nat.add_sub_cancel_left,yR h]
def pQ(a un b:LN)(i d:Nat)(h:i<un.length):(a++(un++b)).set (a.length+i) d=a++(un.set i d++b):=by
 rw[List.set_append_right _ _ qO,Nat.add_sub_cancel_left,List.set_append_left _ _ h]
def jzbm(y q pc:Nat)(hy:y<4294967296)(hq:q<4294967296)(hp:pc<4294967296):
  (y:Int)*q<=18446744065119617025/\0<=(y:Int)*q/\((pc:Int)+y*q)/4294967296=(((pc+y*q)/dh:Nat):Int)/\((pc:Int)+y*q)%4294967296=(((pc+y*q)%dh:Nat):Int)/\(pc+y*q)/dh<4294967296/\(pc+y*q)%dh<4294967296:=by
 have h1:y*q<=4294967295*4294967295:=DK qO qO;have e:(y:Int)*q=((y*q:Nat):Int):=(by rw[Ii]);rw[e,aP];generalize y*q=P at*;refine⟨qO,qO,qO,qO,qO,qO⟩
def pR{a w:World}{g:Nat}(h:a.grownBy w (some g))(k:Nat)(u:Value):a.grownBy (w.setCell (aD g k) u) (some g):=h.trans (aM w g k u)
def jzbn(x y cr:Nat)(hx:x<4294967296)(hy:y<4294967296)(hc:cr<=1):
  ∃d Ji:Nat,((x:Int)+y+cr)%4294967296=d/\((x:Int)+y+cr)/4294967296=Ji/\x+y+cr=d+dh*Ji/\d<dh/\Ji<=1:=by
 refine⟨(((x:Int)+y+cr)%4294967296).toNat,(((x:Int)+y+cr)/4294967296).toNat,qO,qO,?_,?_,qO⟩;{rw[aP];omega};rw[aP];omega
def jzjh{B i x y cr d Ji:Nat}{uo un vs:LN}(hv:i<vs.length)(hu:i<uo.length)(hn:i<un.length)(ey:y=vs[i]?.getD 0)(ex:x=uo[i]?.getD 0)(hd:x+y+cr=d+B*Ji)
  (h:av.val B (un.take i)+B^i*cr=av.val B (uo.take i)+av.val B (vs.take i)):
  av.val B ((un.set i d).take (i+1))+B^(i+1)*Ji=av.val B (uo.take (i+1))+av.val B (vs.take (i+1)):=by
 rw[av.lu B un i _ hn,av.dw B vs i hv,av.dw B uo i hu];simp only[List.getD];rw[<-ey, <-ex,vD];have e3:B^i*x+B^i*y+B^i*cr=B^i*d+B^i*B*Ji:=(by rw[<-Ag, <-Ag,hd,Ag,Cb]);omega
def jzji{B x cr d Ji n V:Nat}{uo un:LN}(hu:n+1=uo.length)(hn:n<un.length)(hl:un.length=uo.length)(ex:x=uo[n]?.getD 0)(hd:x+cr=d+B*Ji)
  (h:av.val B (un.take n)+B^n*cr=av.val B (uo.take n)+V):av.val B (un.set n d)+B^(n+1)*Ji=av.val B uo+V:=by
 have h1:=av.lu B un n d hn;rw[yU (by rw[yV];omega)]at h1;have h2:=av.dw B uo n qO;rw[yU qO]at h2;simp only[List.getD]at h2;rw[h1,h2, <-ex,vD];have e3:B^n*x+B^n*cr=B^n*d+B^n*B*Ji:=(by rw[<-Ag,hd,Ag,Cb]);omega
def jzjj(g:Nat)(a uo b vs:LN)AV(cv q:Nat)w(hrow:Row w g (a++(uo++b)))(hul:uo.length=vs.length+1)(hal:a.length<=1073741824)(huo:∀d∈uo,d<dh)(hvs:∀d∈vs,d<dh)(hv:og w 196 AV (cZ vs))(hvg:vs≠ []->∀ad,AV=some ad->ad.block≠g)
  (hcv:vs.length<=cv) (hn:vs.length<=1073741824) (hq:q<4294967296) (hV:0<av.val dh vs) (hq1:av.val dh uo/av.val dh vs<=q) (hq2:q<=av.val dh uo/av.val dh vs+1):
  Calls prog 208 #[.s (some (aD g a.length)) (vs.length+1) (vs.length+1),.s AV vs.length cv,.int .u32 (q:Int)] w fun e w'=>e=.returned (.int .u32 ((av.val dh uo/av.val dh vs:Nat):Int))/\
   ∃un,Row w' g (a++(un++b))/\un.length=vs.length+1/\(∀d∈un,d<dh)/\av.val dh un=av.val dh uo%av.val dh vs/\w.grownBy w' (some g):=by
 have ve:=Hx hq1;have vl:=Hx hq2;have qT:=Hx hul;have q7:=Hx hV;clear hq1 hq2 hul hV;go_enter func208,ntmps208;go_wp2
 go_loopw [8,9,10,16] (fun pt bt _ it wr=>∃(i pc br:Nat) (un:LN),i<=vs.length/\it=vI i/\pt=.int .u64 pc/\bt=.int .u32 br/\pc<4294967296/\br<=1/\un.length=vs.length+1/\(∀d∈un,d<dh)/\(∀k,i<=k->un[k]?.getD 0=uo[k]?.getD 0)/\
  av.val dh (un.take i)+q*av.val dh (vs.take i)=av.val dh (uo.take i)+dh^i*(pc+br)/\Row wr g (a++(un++b))/\w.grownBy wr (some g)) (fun _ _ _ i _=>vs.length-(intOf i).toNat)
 (case atStart=>exact⟨0,0,0,uo,yZ _,rfl,rfl,rfl,qD,qD,qT.o,huo,fun _ _=>rfl,by simp[av.val],hrow,World.grownBy.refl w _⟩);obtain⟨i,pc,br,un,hi,rfl,rfl,rfl,q6,q9,qk,qh,qf,qn,qg,qj⟩:=hrel;have HV:=Hx qn;have qa:=Hx qk;have qt:=Hx qf;clear qn qk qf;by_cases qo:i<vs.length;{obtain⟨b2,o2,rfl,q2,qe⟩:=hv.rd.u32 (k:=i) qo;have qW:b2≠g:=hvg (by rintro rfl;simp at qo) _ rfl;have vi:wr.cell? (aD b2 (o2+i))=_:=(World.cell?_of_block (a:=(aD b2 (o2+i))) (qj.block b2 q2 (fun e=>qW (by injection e)))).trans (qe i qo);have qJ:=bY hvs i;rw[aP]at qJ;generalize hye:vs[i]?.getD 0=y at*;have HY:=Hx hye;clear hye qe;have qp:=qg.cell (i:=a.length+i) (by have:=qa.o;simp;omega);have qU:=qg.frozen (a.length+i);rw[pP a un b i (by have:=qa.o;omega),qt.o i (yX _)]at qp;have qm:=bY huo i;rw[aP]at qm;generalize hxe:uo[i]?.getD 0=x at*;have HX:=Hx hxe;clear hxe;obtain⟨t1,t2,t3,t4,t5,t6⟩:=jzbm y q pc qJ hq q6;have T3:=Hx t3;have T4:=Hx t4;clear t3 t4;go_wp2_with fail;rw[T4.o];refine(pC _ _ _ _ qO qO qO qO qO qO).mono ?_;rintro e w' ⟨rfl,rfl⟩;obtain⟨d,qV,ed,eb,qi,qx,qA⟩:=pE x ((pc+y*q)%dh) br qm t6 q9;have EB:=Hx eb;have qX:=Hx qi;rw[ed];clear ed qi;rw[EB.o];clear eb;go_wp2;go_roundw;(case rel=>rw[T3.o];refine⟨i+1,(pc+y*q)/dh,qV,un.set i d,qO,by go_num,rfl,rfl,t5,qA,by rw[yV];exact qa.o,av.pz qh qx,fun k hk=>?_,?_,?_,pR qj _ _⟩;{rw[vN qO];exact qt.o k qO};{exact av.IG qo (by have:=qT.o;omega) (by have:=qa.o;omega) HY.o.symm HX.o.symm qX.o.symm HV.o};rw[<-pQ a un b i d (by have:=qa.o;omega)];exact qg.sT _ _);simp[intOf];omega};have qZ:i=vs.length:=qO;subst qZ;rw[yU (yX _)]at HV;have qp:=qg.cell (i:=a.length+vs.length) (by have:=qa.o;simp;omega);have qU:=qg.frozen (a.length+vs.length);rw[pP a un b vs.length (by have:=qa.o;omega),qt.o vs.length (yX _)]at qp;have qm:=bY huo vs.length;rw[aP]at qm;generalize hxe:uo[vs.length]?.getD 0=x at*;have HX:=Hx hxe;clear hxe;go_wp2_with fail;refine(pC _ _ _ _ qO qO qO qO qO qO).mono ?_;rintro e w' ⟨rfl,rfl⟩;obtain⟨d,qV,ed,eb,qi,qx,qA⟩:=pE x pc br qm q6 q9;have HT:=Hx (av.JC (B:=dh) (q:=q) (V:=av.val dh vs) qT.o.symm (by have:=qa.o;omega) (qa.o.trans qT.o.symm) HX.o.symm qi.symm HV.o);rw[ed,eb];clear ed qi eb;have qM:Row (wr.setCell (aD g (a.length+vs.length)) (.int .u32 (d:Int))) g (a++(un.set vs.length d++b)):=(by rw[<-pQ a un b vs.length d (by have:=qa.o;omega)];exact qg.sT _ _);(have qH:=pR qj (a.length+vs.length) (.int .u32 (d:Int));have qQ:∀e∈un.set vs.length d,e<dh:=av.pz qh qx;have qC:(un.set vs.length d).length=vs.length+1:=(by rw[yV];exact qa.o);have q4:=Hx qM;have va:=Hx qH;have qB:=Hx qQ;have qz:=Hx qC;clear qM qH qQ qC qa qt qh;generalize un.set vs.length d=un2 at*;have vd:qV=0\/qV=1:=qO;rcases vd with rfl|rfl);{obtain⟨r1,r2⟩:=av.II q7.o (by have:=HT.o;rw[ER,Ef]at this;exact this) ve.o;have R1:=Hx r1;have R2:=Hx r2;clear r1 r2;go_wp2;go_ret;exact⟨by rw[<-R1.o];rfl,un2,q4.o,qz.o,qB.o,R2.o,va.o⟩};clear qg qj;rw[Int.natCast_one];go_wp2;clear qp qU;generalize wr.setCell (aD g (a.length+vs.length)) (.int .u32 (d:Int))=w2 at*
 go_loopw [11,12,64] (fun ct _ it wr=>∃(i cr:Nat) (un:LN),i<=vs.length/\it=vI i/\ct=.int .u32 cr/\cr<=1/\un.length=vs.length+1/\(∀d∈un,d<dh)/\(∀k,i<=k->un[k]?.getD 0=un2[k]?.getD 0)/\
  av.val dh (un.take i)+dh^i*cr=av.val dh (un2.take i)+av.val dh (vs.take i)/\Row wr g (a++(un++b))/\w.grownBy wr (some g)) (fun _ _ i _=>vs.length-(intOf i).toNat)
 (case atStart=>exact⟨0,0,un2,yZ _,rfl,rfl,qD,qz.o,qB.o,fun _ _=>rfl,by simp[av.val],q4.o,va.o⟩);obtain⟨i,cr,un,hi,rfl,rfl,vc,qk,qh,qf,qn,qg,qj⟩:=hrel;have HV:=Hx qn;have qa:=Hx qk;have qt:=Hx qf;clear qn qk qf;by_cases qo:i<vs.length
 ·obtain⟨b2,o2,rfl,q2,qe⟩:=hv.rd.u32 (k:=i) qo;have qW:b2≠g:=hvg (by rintro rfl;simp at qo) _ rfl;have vi:wr.cell? (aD b2 (o2+i))=_:=(World.cell?_of_block (a:=(aD b2 (o2+i))) (qj.block b2 q2 (fun e=>qW (by injection e)))).trans (qe i qo);have qJ:=bY hvs i;rw[aP]at qJ;generalize hye:vs[i]?.getD 0=y at*;have HY:=Hx hye;clear hye qe;have qp:=qg.cell (i:=a.length+i) (by have:=qa.o;simp;omega);have qU:=qg.frozen (a.length+i);rw[pP a un b i (by have:=qa.o;omega),qt.o i (yX _)]at qp;have qm:=bY qB.o i;rw[aP]at qm;generalize hxe:un2[i]?.getD 0=x at*;have HX:=Hx hxe;clear hxe;obtain⟨d2,q3,ed,eb,qi,qx,qA⟩:=jzbn x y cr qm qJ vc;have qX:=Hx qi;have ED:=Hx ed;have EB:=Hx eb;clear qi ed eb;have vp:(i:Int)<(vs.length:Int)+1:=qO;have vo:(i:Int)<(vs.length:Int):=qO;go_wp2;go_region_with ((go_at_call 170;refine(nA _ _ _ _ qO qO qO qO qO qO).mono ?_;rintro e w' ⟨rfl,rfl⟩))
  all_goals
   go_wp2
   go_roundw
   case rel=>
    rw[ED.o,EB.o];refine⟨i+1,q3,un.set i d2,qO,by go_num,rfl,qA,by rw[yV];exact qa.o,av.pz qh qx,fun k hk=>?_,?_,?_,pR (g:=g) (w:=wr.drew) ⟨qj.os,qj.tape,qj.output,qj.size,qj.block⟩ _ _⟩
    ·
     rw[vN qO];exact qt.o k qO
    ·
     exact jzjh qo (by have:=qz.o;omega) (by have:=qa.o;omega) HY.o.symm HX.o.symm qX.o HV.o
    rw[<-pQ a un b i d2 (by have:=qa.o;omega)];exact(qg.drewN 1).sT _ _
   simp[intOf];omega
 have qZ:i=vs.length:=qO;subst qZ;rw[yU (yX _)]at HV;have qp:=qg.cell (i:=a.length+vs.length) (by have:=qa.o;simp;omega);have qU:=qg.frozen (a.length+vs.length);rw[pP a un b vs.length (by have:=qa.o;omega),qt.o vs.length (yX _)]at qp;have qm:=bY qB.o vs.length;rw[aP]at qm;generalize hxe:un2[vs.length]?.getD 0=x at*;have HX:=Hx hxe;clear hxe;obtain⟨d2,q3,ed,eb,qi,qx,qA⟩:=jzbn x 0 cr qm qO vc;rw[Int.natCast_zero,Int.add_zero]at ed;rw[Ef]at qi;have q8:=Hx (jzji (B:=dh) (V:=av.val dh vs) qz.o.symm (by have:=qa.o;omega) (qa.o.trans qz.o.symm) HX.o.symm qi HV.o);have ED:=Hx ed;have qy:∀e∈un.set vs.length d2,e<dh:=av.pz qh qx;have qw:(un.set vs.length d2).length=vs.length+1:=(by rw[yV];exact qa.o);have q0:=av.ow bA qy;rw[qw]at q0;have qY:=av.ow bA qB.o;rw[qz.o]at qY;have q1:=av.IJ q7.o qY q0 (by have:=HT.o;rw[Nat.mul_one]at this;exact this) q8.o qA vl.o;have q5:=Hx q1;have vq:1<=q:=q1.1;have qI:Row (wr.setCell (aD g (a.length+vs.length)) (.int .u32 (d2:Int))) g (a++(un.set vs.length d2++b)):=(by rw[<-pQ a un b vs.length d2 (by have:=qa.o;omega)];exact qg.sT _ _);have vn:=Hx qI;have vg:=Hx qy;have vj:=Hx qw;have vm:=Hx (pR qj (a.length+vs.length) (.int .u32 (d2:Int)));clear ed eb qi q1 qY q0 qy qw qI q8;have vk:(vs.length:Int)<(vs.length:Int)+1:=qO;go_wp2;go_ret;rw[ED.o];have vh:((q:Int)-1)=((q-1:Nat):Int):=qO;exact⟨by rw[<-q5.o.2.1, <-vh];rfl,_,vn.o,vj.o,vg.o,q5.o.2.2,vm.o⟩
def jzbo:∀(f x:Nat),x<2^f->x<2^Lib.bitLenAux f x/\(x≠0->2^Lib.bitLenAux f x<=2*x)
 |0,x,h=>by
  have:x=0:=(by simpa using h);subst this;exact⟨qD,fun h=>absurd rfl h⟩
 |f+1,x,h=>by
  unfold Lib.bitLenAux
  split
  ·rename_i e;subst e;exact⟨qD,fun h=>absurd rfl h⟩
  rename_i hx
  have ih:=jzbo f (x/2) (by rw[vD]at h;omega);rw[FI,vD];refine⟨qO,fun _=>?_⟩;by_cases h2:x/2=0
  ·have:Lib.bitLenAux f (x/2)=0:=by
    rw[h2];cases f with
    |zero=>rfl
    |succ f=>simp[Lib.bitLenAux]
   rw[this];omega
  have:=ih.2 h2;omega
def jzjk(t:Nat)(h0:0<t)(h1:t<4294967296):∃s:Nat,s<32/\(32-(Lib.bitLen t:Int))=(s:Int)/\(t+1)*2^s<=dh/\dh<=2*(t*2^s):=by
 obtain⟨a1,a2⟩:=jzbo 64 t qO;change t<2^Lib.bitLen t at a1;change t≠0->2^Lib.bitLen t<=2*t at a2;have a3:=a2 qO;have hl:Lib.bitLen t<=32:=(by (rcases Bc 32 (Lib.bitLen t)with h|h);{have:=DU (n:=2) qD (show 33<=Lib.bitLen t from h);have e:(2:Nat)^33=8589934592:=qD;omega};exact h);have qa:1<=Lib.bitLen t:=(by (rcases Ee (Lib.bitLen t)with h|h);{rw[h]at a1;omega};exact h);generalize Lib.bitLen t=l at*;have e:2^l*2^(32-l)=dh:=(by rw[<-Nat.pow_add,Nat.add_sub_cancel' hl];rfl);refine⟨32-l,qO,qO,?_,?_⟩;{rw[<-e];exact xS _ a1};rw[<-e, <-Cb];exact xS _ a3
structure uC(w w':World)(gu gv gq:Nat)(vs:LN)(nq A k:Nat)(du dq:LN):Prop where
 Er:Row w' gu du
 rowq:Row w' gq dq
 Fh:Row w' gv vs
 Iw:du.length=nq+vs.length
 qlen:dq.length=nq
 ult:∀d∈du,d<dh
 qlt:∀d∈dq,d<dh
 kle:k<=nq
 val:A=av.val dh (dq.drop k)*dh^k*av.val dh vs+av.val dh du
 low:av.val dh (du.drop k)<av.val dh vs
 r4:ak w' w.heap.size 31 #[zN]
 r5:ak w' (w.heap.size+1) 31 #[zN]
 ext:Ext w w'
def jzjl(A1 A2:OA)(n1 c1 n2 c2 a b:Nat)(w:World)(h1:aE w A1 n1 c1 a)(h2:aE w A2 n2 c2 b)(hn1:n1<=1073741824)(hn2:2<=n2)(hab:b<=a):
  Calls prog 173 #[.s A1 n1 c1,.s A2 n2 c2] w fun e w'=>∃(A:OA) (n c:Nat) (A':OA) (n' c':Nat),e=.returned (.tuple #[.agg #[.s A n c],.agg #[.s A' n' c']])/\aE w' A n c (a/b)/\aE w' A' n' c' (a%b)/\Ext w w':=by
 have xg:=aE.wm h2 h1 hab
 obtain⟨xs,rfl,zE,vk,v5,v8⟩:=h1
 obtain⟨ys,rfl,zb,qZ,zD,vi⟩:=h2
 obtain⟨n2,qp⟩:∃n2,ys.length=n2+1:=⟨ys.length-1,qO⟩
 obtain⟨mq,zz⟩:∃mq,xs.length+1=mq+ys.length:=⟨xs.length+1-ys.length,qO⟩
 have xc:mq<=1073741825:=by omega
 obtain⟨b2,o2,rfl,qA,qk⟩:=vi.rd.u32 (k:=n2) qO
 have zt:=qk n2 qO
 have vK:=bY qZ.lt n2
 rw[aP]at vK
 have zm:0<ys[n2]?.getD 0:=by
  have:=qZ.top
  rw[List.getLast?_eq_getElem?,qp,Nat.add_sub_cancel,yG qO]at this
  rw[yG qO]
  simp at this⊢
  omega
 obtain⟨s,hs,zs,vJ,vo⟩:=jzjk (ys[n2]?.getD 0) zm vK
 obtain⟨zu,za⟩:=av.norm bA qZ.lt qp vJ vo
 have qT:2^s<=2147483648:=DU (n:=2) qD (show s<=31 by omega)
 have zd:=run_make_row' (P:=prog) 29 196 (.int .u32 0) 4 underlying29 Tryz.AJ rfl .i64 .i64 mq qO qO
 rw[show((mq:Nat):Int)=(xs.length:Int)-ys.length+1 by omega]at zd
 have qg:∀W,Ext w W->_:=fun W hW=>jzbl A1 c1 s (xs.length+1) xs W zE vk.lt (v8.K hW) hn1 hs (.inr rfl)
 have qj:∀W,Ext w W->_:=fun W hW=>jzbl (some (aD b2 o2)) c2 s ys.length ys W zb qZ.lt (vi.K hW) qO hs (.inl rfl)
 simp only[Jo,Int.natCast_one]at qg
 have C1:=Hx (qg)
 have C2:=Hx (qj)
 have zy:=Hx (zs)
 have vn:=Hx (v5)
 have qQ:=Hx (zD)
 have zB:=Hx (zu)
 have vW:=Hx (za)
 have qz:=Hx (qT)
 have qV:=Hx (qp)
 have qx:=Hx (zz)
 have ze:=Hx vk.lt
 clear qg qj zs v5 zD zu za qT qp zz vJ vo qk v8 vi vk qZ
 generalize hte:ys[n2]?.getD 0=tp at*
 clear hte
 obtain⟨b4,b5,e0⟩:=cN w #[zN] 31 #[zN] 31
 have vu:((ys.length:Int)-1)=(n2:Int):=by have:=qV.o;omega
 have vw:((w.alloc (.cells #[zN] 31)).alloc (.cells #[zN] 31)).cell? (aD b2 (o2+n2))=some (.int .u32 (tp:Int)):=(e0.cell (p:=(aD b2 (o2+n2))) qA).trans zt
 have vj:(n2:Int)<(ys.length:Int):=by omega
 clear zt
 go_enter func173,ntmps173
 go_wp2_with fail
 refine(Tryz.bits_LeadingZeros32 _ _ qO qO).mono ?_
 rintro e w' ⟨rfl,rfl⟩
 rw[xL,zy.o]
 clear vw vu vj
 go_wp2_with fail
 refine(C1.o _ e0).mono ?_
 rintro e w1 ⟨gu,us,rfl,Er,Iw,ult,zh,vh,qJ⟩
 have vy:gu<w1.heap.size:=Er.lt
 have xa:w.heap.size+2<=gu:=by have:=zh;simp at this;omega
 have B4:=Hx (b4.K vh)
 have B5:=Hx (b5.K vh)
 have E1:=Hx (e0.tr vh)
 have RU:=Hx Er
 have UL:=Hx Iw
 have UT:=Hx ult
 have UV:=Hx qJ
 clear b4 b5 e0 vh Er Iw ult qJ C1
 go_wp2_with fail
 refine(C2.o _ E1.o).mono ?_
 rintro e w2 ⟨gv,vs,rfl,Fh,qI,zn,z4,qC,q4⟩
 have B4:=Hx (B4.o.K qC)
 have B5:=Hx (B5.o.K qC)
 have E2:=Hx (E1.o.tr qC)
 have RU:=Hx (RU.o.K qC)
 have RV:=Hx Fh
 have VL:=Hx qI
 have VT:=Hx zn
 have VV:=Hx q4
 have vY:=RU.o.lt
 have vH:=Fh.lt
 clear qC Fh qI zn q4 C2 E1
 go_wp2
 generalize ys.length=yn at*
 obtain rfl:=VL.o
 have vV:=Hx (show xs.length=mq+n2 by have h1:=qx.o;have h2:=qV.o;omega)
 have vc:av.val dh vs=b*2^s:=by
  rw[VV.o,qQ.o,Ey]
  rw[qV.o, <-qQ.o];exact zB.o
 have v0:0<2^s:=Du qD
 have vF:a<dh^(mq+n2):=by rw[<-vn.o, <-vV.o];exact av.ow bA ze.o
 have vq:av.val dh us=a*2^s:=by
  rw[UV.o,vn.o,Ey]
  rw[vV.o,vD]
  exact J7 vF (yY qz.o qD) bA
 have qf:av.val dh (us.drop mq)<av.val dh vs:=av.Hf bA (by rw[UL.o];have:=qx.o;omega) vq vF (by rw[vc, <-qQ.o];exact vW.o) (by have:=qz.o;rw[aP];omega) v0
 have zj:=Hx (show uC w (w2.alloc (.cells (madeCells #[.int .u32 0] mq) 196)) gu gv w2.heap.size vs mq (a*2^s) mq us (List.replicate mq 0)from
  ⟨RU.o.alloc _,Row.made _ _ rfl,RV.o.alloc _,by rw[UL.o];exact qx.o,qS,UT.o,fun d hd=>by have:=uF hd;subst this;exact bA,yX _,
   by rw[D5 qS,av.Dq,Nat.zero_mul,Nat.zero_mul,CU];exact vq.symm,qf,B4.o.alloc _,B5.o.alloc _,E2.o.alloc _⟩)
 have v4:gu≠gv:=by omega
 have vl:gu≠w2.heap.size/\gv≠w2.heap.size:=by omega
 have zT:w.heap.size+2<=w2.heap.size:=by omega
 have zF:w.heap.size+2<=gv:=by omega
 have zv:vs.length<=1073741824:=by omega
 have zw:=Hx (show a*2^s/av.val dh vs=a/b/\a*2^s%av.val dh vs=a%b*2^s by
  rw[vc,Nat.mul_div_mul_right _ _ v0,Nat.mul_mod_mul_right];exact⟨rfl,rfl⟩)
 have zP:mq+vs.length<=1073741825:=by have:=qx.o;omega
 have qW:=Hx (show dh^vs.length<=2*av.val dh vs by rw[vc,qV.o, <-qQ.o];exact vW.o)
 clear zd B4 B5 RU RV UL UT UV E2 vq vF qf vY vH VL vc VV zB vW vn qQ qz ze zy vV zh vy z4 zE zb hn1 xg qA zm vK hab qV
 generalize a*2^s=AA at*
 generalize hgen:w2.heap.size=gq at*
 clear hgen
 generalize w2.alloc (.cells (madeCells #[.int .u32 0] mq) 196)=w3 at*
 go_loopg [11,12,13,14] mq (fun k jt _ _ _ wr=>∃(m:Nat) (du dq:LN),m=k/\jt=vI (m-1)/\uC w wr gu gv gq vs mq AA m du dq)
 case atStart=>exact⟨mq,us,_,rfl,rfl,zj.o⟩
 case round=>
  clear zj
  obtain⟨k,du,dq,rfl,rfl,qa⟩:=hrel
  have xt:=qa.kle
  by_cases xm:0<k
  ·obtain⟨j,rfl⟩:∃j,k=j+1:=⟨k-1,qO⟩
   rw[show(((j+1:Nat):Int)-1)=(j:Int) by omega]
   obtain⟨n,hn⟩:∃n,vs.length=n+2:=⟨vs.length-2,qO⟩
   have vg:=qa.Iw
   have zo:=qa.qlen
   have zJ:=qa.Er.cell (i:=j+vs.length) qO
   have zQ:=qa.Er.cell (i:=j+vs.length-1) qO
   have xu:=qa.Er.cell (i:=j+vs.length-2) qO
   have xo:=qa.Fh.cell (i:=vs.length-1) qO
   have xk:=qa.Fh.cell (i:=vs.length-2) qO
   have z9:=bY qa.ult (j+vs.length)
   have zg:=bY qa.ult (j+vs.length-1)
   have zC:=bY qa.ult (j+vs.length-2)
   have z2:=bY VT.o (vs.length-1)
   have vL:=bY VT.o (vs.length-2)
   obtain⟨wz,ww,q1,q2,v3,zR,q0⟩:=av.FD (j:=j) qD hn2 qa.ult VT.o qO qa.low qW.o
   have hG:av.guess dh (du[j+vs.length]?.getD 0) (du[j+vs.length-1]?.getD 0) (du[j+vs.length-2]?.getD 0) (vs[vs.length-1]?.getD 0) (vs[vs.length-2]?.getD 0)<=4294967295:=Nat.min_le_left _ _
   generalize hgG:av.guess dh (du[j+vs.length]?.getD 0) (du[j+vs.length-1]?.getD 0) (du[j+vs.length-2]?.getD 0) (vs[vs.length-1]?.getD 0) (vs[vs.length-2]?.getD 0)=G at*
   generalize du[j+vs.length]?.getD 0=u0 at*
   generalize du[j+vs.length-1]?.getD 0=u1 at*
   generalize du[j+vs.length-2]?.getD 0=u2 at*
   generalize vs[vs.length-1]?.getD 0=v1 at*
   generalize vs[vs.length-2]?.getD 0=v2 at*
   have GG:=Hx hgG
   have WZ:=Hx wz
   have WW:=Hx ww
   have Q1:=Hx q1
   have Q2:=Hx q2
   have V0:=Hx q0
   have DS:=Hx qa
   have q9:=Hx vg
   have vm:=Hx zo
   rw[aP]at z9 zg zC z2 vL zR
   clear hgG wz ww q1 q2 q0 qa vg zo n hn
   have vO:2147483648<=v1:=by omega
   have zc:=mZ u0 u1 qO qO qO qO
   have j1:((j:Int)+vs.length).toNat=j+vs.length:=by omega
   have j2:((j:Int)+vs.length-1).toNat=j+vs.length-1:=by omega
   have j3:(j:Int)+vs.length<(xs.length:Int)+1:=by have:=qx.o;omega
   have j4:IntKind.i64.wrap ((j:Int)+vs.length)=(j:Int)+vs.length:=IntWalk.i64_in _ qO
   have j5:IntKind.i64.wrap ((j:Int)+vs.length-1)=(j:Int)+vs.length-1:=IntWalk.i64_in _ qO
   have j6:(0:Int)<=(j:Int)+vs.length:=by omega
   have j7:(0:Int)<=(j:Int)+vs.length-1:=by omega
   have j8:(j:Int)+vs.length-1<(xs.length:Int)+1:=by omega
   have j9:(1:Int)<=(j:Int)+vs.length:=by omega
   go_wp2
   go_quiet (fail)
   go_wp2
   clear zc j1 j2 j3 j4 j5 j6 j7 j8 j9 zJ zQ
   rw[show(u0:Int)*4294967296+u1=((u0*4294967296+u1:Nat):Int) by omega]
   have xb:u0*4294967296+u1<18446744073709551616:=by omega
   generalize hzz:u0*4294967296+u1=z at*
   have vT:=Hx hzz
   clear hzz
   have z8:z/v1<=z:=JL _ _
   have xl:z%v1<v1:=xT _ qO
   have ht:(z:Int).tdiv (v1:Int)=((z/v1:Nat):Int):=by rw[Int.tdiv_eq_ediv_of_nonneg qO,Int.natCast_ediv]
   have hm:(z:Int).tmod (v1:Int)=((z%v1:Nat):Int):=by rw[Int.tmod_eq_emod_of_nonneg qO,Int.natCast_emod]
   have xd:((v1:Int) !=0)=true:=bne_iff_ne.2 qO
   have zi:=Ij z v1
   have z7:=Hx zi
   clear zi
   have zG:=Hx (show z/v1=z/v1 from rfl)
   generalize hQQ:z/v1=qq at*
   generalize hRR:z%v1=rr at*
   have zf:=Hx hQQ
   clear hQQ hRR
   have l1:((vs.length:Int)-1).toNat=vs.length-1:=by omega
   have l2:(0:Int)<=(vs.length:Int)-1:=by omega
   have l3:(vs.length:Int)-1<(vs.length:Int):=by omega
   have l4:IntKind.i64.wrap ((vs.length:Int)-1)=(vs.length:Int)-1:=IntWalk.i64_in _ qO
   have l5:IntKind.u64.wrap (qq:Int)=(qq:Int):=IntWalk.u64_in _ qO
   have zW:qq<8589934592:=by
    rw[<-zf.o,Js qO]
    have:8589934592*2147483648<=8589934592*v1:=Dx _ vO
    omega
   have zX:G<=qq:=by
    rw[<-GG.o, <-zf.o, <-vT.o]
    have:=av.Fy (B:=dh) (u0:=u0) (u1:=u1) (u2:=u2) (v1:=v1) (v2:=v2) qO (by rw[aP];exact zC)
    rw[aP]at this⊢
    exact this
   go_quiet (fail)
   go_upto_block 2 with fail
   clear z8 ht hm xd l5 xb l4 l1 l2 l3
   go_cut [13,14] (fun g _ wx=>g=.int .u64 G/\∃m,wx=wr.drewN m)
   case first=>
    have zx:0<v1*dh+v2:=by have:=Nat.mul_pos (show 0<v1 by omega) bA;omega
    have VB:=Hx zx
    clear zx
    go_wp2
    go_loopg [13,14] qq (fun k gt rt wi=>∃g r:Nat,g=k/\gt=.int .u64 g/\rt=.int .u64 r/\g*v1+r=z/\G<=g/\r<4294967296/\g<8589934592/\∃m,wi=wr.drewN m)
    case atStart=>exact⟨qq,rr,rfl,rfl,rfl,by rw[vE];exact z7.o,zX,qO,zW,_,rfl⟩
    case round=>
     obtain⟨g,r,rfl,rfl,rfl,q3,zM,hr,hg,m,rfl⟩:=hrel
     have qn:=Hx (show g*v1+r=u0*dh+u1 by rw[q3, <-vT.o,aP])
     clear q3
     go_upto_region 11 with fail
     go_cut [104] (fun b wx=>b=.bool (decide (4294967296<=g\/r*4294967296+u2<g*v2))/\∃m,wx=wr.drewN m)
     case first=>
      by_cases xj:4294967296<=g
      ·have xe:decide ((4294967296:Int)<=(g:Int))=true:=by simp;omega
       go_quiet (fail)
       go_wp2
       go_meet
       exact⟨by simp[xj],_,World.drewN_drewN _ _ _⟩
      ·have xe:decide ((4294967296:Int)<=(g:Int))=false:=by simp;omega
       obtain⟨p1,p2,_⟩:=jzbm g v2 0 qO vL qD
       have p3:IntKind.u64.wrap ((g:Int)*v2)=(g:Int)*v2:=IntWalk.u64_in _ qO
       have p4:IntKind.u64.wrap ((r:Int)*4294967296)=(r:Int)*4294967296:=IntWalk.u64_in _ qO
       have zc:=mZ r u2 qO qO qO qO
       have k1:((j:Int)+vs.length-2).toNat=j+vs.length-2:=by omega
       have k2:(0:Int)<=(j:Int)+vs.length-2:=by omega
       have k3:(j:Int)+vs.length-2<(xs.length:Int)+1:=by have:=qx.o;omega
       have k4:IntKind.i64.wrap ((j:Int)+vs.length-2)=(j:Int)+vs.length-2:=IntWalk.i64_in _ qO
       have k5:IntKind.i64.wrap ((j:Int)+vs.length)=(j:Int)+vs.length:=IntWalk.i64_in _ qO
       have k6:((vs.length:Int)-2).toNat=vs.length-2:=by omega
       have k7:(0:Int)<=(vs.length:Int)-2:=by omega
       have k8:(vs.length:Int)-2<(vs.length:Int):=by omega
       have k9:IntKind.i64.wrap ((vs.length:Int)-2)=(vs.length:Int)-2:=IntWalk.i64_in _ qO
       have xp:(2:Int)<=(vs.length:Int):=by omega
       have xr:(2:Int)<=(j:Int)+vs.length:=by omega
       go_quiet (fail)
       go_wp2
       go_meet
       refine⟨?_,_,World.drewN_drewN _ _ _⟩
       congr 1
       rw[decide_eq_decide]
       have e:(g:Int)*v2=((g*v2:Nat):Int):=by rw[Ii]
       rw[e]
       omega
     case rest=>
      obtain⟨rfl,m2,rfl⟩:=hcut
      by_cases hc:4294967296<=g\/r*4294967296+u2<g*v2
      ·have qH:decide (4294967296<=g\/r*4294967296+u2<g*v2)=true:=yO hc
       have qX:=av.Gl (u2:=u2) (v2:=v2) bA VB.o qn.o (by rw[aP];exact hc)
       rw[GG.o]at qX
       have v9:=Hx (show(g-1)*v1+(r+v1)=u0*dh+u1 by
        rw[<-qn.o]
        have:g*v1=(g-1)*v1+v1:=by
         have e:g=(g-1)+1:=by omega
         rw[e,xP,xQ, <-e]
        omega)
       rw[qH]
       clear hc qH qn
       have xn:1<=g:=by omega
       by_cases hb:4294967296<=r+v1
       ·have vt:=av.Fz (u2:=u2) VB.o v9.o v3 (by rw[aP];exact zg) (by rw[aP];exact vL) (by rw[aP];exact hb) (by rw[GG.o];omega)
        rw[GG.o]at vt
        have xi:=Hx vt.2
        have zH:decide ((4294967296:Int)<=(r:Int)+v1)=true:=by simp;omega
        clear vt
        have HB:=Hx hb
        clear hb
        go_wp2
        go_meet
        refine⟨?_,_,rfl⟩
        rw[<-xi.o,show((g-1:Nat):Int)=(g:Int)-1 by omega]
       ·have zH:decide ((4294967296:Int)<=(r:Int)+v1)=false:=by simp;omega
        have HB:=Hx hb
        clear hb
        go_wp2
        have hb:=HB.o
        go_roundg (g-1)
        case measure=>omega
        case rel=>exact⟨g-1,r+v1,rfl,by rw[show((g-1:Nat):Int)=(g:Int)-1 by omega],rfl,by rw[v9.o, <-vT.o,aP],qO,qO,qO,_,rfl⟩
      ·have qH:decide (4294967296<=g\/r*4294967296+u2<g*v2)=false:=yP hc
       have vp:=av.DT (u2:=u2) (v2:=v2) VB.o qn.o (by rw[aP];omega) (by rw[aP];omega) (by rw[GG.o];exact zM)
       rw[GG.o]at vp
       have zL:=Hx vp
       rw[qH]
       clear hc qH vp
       go_wp2
       go_meet
       exact⟨by rw[zL.o],_,rfl⟩
   case rest=>
    obtain⟨rfl,m,rfl⟩:=hcut
    have qi:=jzjj gu (du.take j) ((du.drop j).take (vs.length+1)) (du.drop (j+vs.length+1)) vs (sA gv) vs.length G (wr.drewN m) (by rw[<-av.Kn];exact DS.o.Er)
     (by rw[xF,List.length_drop];have:=q9.o;omega) (by rw[xF];omega) (fun d hd=>DS.o.ult d (List.mem_of_mem_drop (xM hd))) VT.o DS.o.Fh.Bz (fun _ ad e=>by injection e with e;subst e;exact v4.symm) (yX _) qO qO V0.o Q1.o Q2.o
    rw[show(du.take j).length=j by rw[xF];have:=q9.o;omega]at qi
    have HC:=Hx qi
    have zO:j+vs.length+1<=xs.length+1:=by have:=qx.o;omega
    clear qi
    go_wp2_with fail
    rw[show j+vs.length+1-j=vs.length+1 by omega]
    refine HC.o.mono ?_
    rintro e w5 ⟨rfl,un,qw,vU,q5,v6,qB⟩
    have qy:wr.grownBy w5 (some gu):=⟨qB.os,qB.tape,qB.output,qB.size,qB.block⟩
    have qe:∀{gg:Nat} {ty:TypeId} {cs:Array Value},gg≠gu->ak wr gg ty cs->ak w5 gg ty cs:=fun hg hb=>(qy.block _ hb.lt (fun e=>hg (by injection e))).trans hb
    have q7:Row w5 gq dq:=qe vl.1.symm DS.o.rowq
    have cq:=q7.cell (i:=j) (by have:=vm.o;omega)
    have fq:=q7.frozen j
    obtain⟨d1,d2⟩:=av.Jg (j:=j) (n:=vs.length) (dq:=dq) rfl (by have:=q9.o;omega) (by have:=vm.o;omega) V0.o DS.o.val WZ.o WW.o vU v6
    have qY:av.val dh ((du.drop j).take (vs.length+1))/av.val dh vs<dh:=Im Q1.o (show G<dh by rw[aP];omega)
    have v7:Ext w w5:=Below.grown DS.o.ext qy DS.o.ext.size (fun k hk=>by injection hk with hk;omega)
    generalize av.val dh ((du.drop j).take (vs.length+1))/av.val dh vs=Q at*
    have DN:=Hx (show uC w (w5.setCell (aD gq j) (.int .u32 (Q:Int))) gu gv gq vs mq AA j (du.take j++(un++du.drop (j+vs.length+1))) (dq.set j Q)from
     ⟨qw.far (p:=(aD gq j)) vl.1 _,q7.sT j Q,(qe v4.symm DS.o.Fh).far (p:=(aD gq j)) vl.2 _,
      by simp only[yQ,xF,List.length_drop,vU];have:=q9.o;omega,by rw[yV];exact vm.o,
      fun d hd=>by
       rcases xY.1 hd with h|h
       ·exact DS.o.ult d (xM h)
       ·rcases xY.1 h with h|h
        ·exact q5 d h
        ·exact DS.o.ult d (List.mem_of_mem_drop h),
      av.pz DS.o.qlt qY,qO,d1,d2,ak.far (p:=(aD gq j)) (qe qO DS.o.r4) (by simp only;omega) _,ak.far (p:=(aD gq j)) (qe qO DS.o.r5) (by simp only;omega) _,Ext.sT v7 (p:=(aD gq j)) (by simp only;omega) _⟩)
    clear qw vU q5 v6 qB qy qe q7 d1 d2 qY v7 HC
    generalize dq[j]?.getD 0=qo at*
    go_wp2
    go_roundg j
    case measure=>omega
    case rel=>exact⟨j,_,_,rfl,rfl,DN.o⟩
  ·have hk:k=0:=by omega
   subst hk
   have qt:=qa.val
   have qf:=qa.low
   rw[List.drop_zero,Nat.pow_zero,Nat.mul_one]at qt
   rw[List.drop_zero]at qf
   have q0:0<av.val dh vs:=by omega
   have zk:av.val dh dq=a/b:=by
    rw[<-zw.o.1,qt,FI,Nat.add_mul_div_right _ _ q0,Nat.div_eq_of_lt qf,CU]
   have zp:av.val dh du=a%b*2^s:=by
    rw[<-zw.o.2,qt,FI,Nat.add_mul_mod_self_right,Ey qf]
   have vg:=qa.Iw
   have vz:=av.ow bA VT.o
   have zq:av.val dh (du.take vs.length)=a%b*2^s:=by
    have h1:=av.om dh du vs.length qO
    rcases Ee (av.val dh (du.drop vs.length))with e|e
    ·rw[e,ER,Ef]at h1
     rw[<-h1];exact zp
    ·exfalso
     have:=Dx (dh^vs.length) (show 1<=av.val dh (du.drop vs.length)from e)
     omega
   have ve:(du.take vs.length).length=vs.length:=by rw[xF];omega
   have q8:∀W,Ext wr W->_:=fun W hW=>jzjg (sA gu) vs.length s (du.take vs.length) W (by rw[ve];exact yX _) (fun d hd=>qa.ult d (xM hd)) (by rw[jzav];exact(qa.Er.Bz.take _).K hW) (by rw[ve];omega) hs
   rw[ve]at q8
   rw[zq,Nat.mul_div_cancel _ v0]at q8
   have SR:=Hx q8
   have DS:=Hx qa
   have QD:=Hx zk
   have zO:vs.length<=xs.length+1:=by have:=qx.o;omega
   have vJ:(0:Int)<=(vs.length:Int):=by omega
   have vo:(vs.length:Int)<=(xs.length:Int)+1:=by omega
   have qh:=qa.r4
   have qm:=qa.r5
   clear qt qf q0 zk zp vz zq ve q8 qa vg
   go_wp2
   have qh:ak wr.drew _ _ _:=qh
   have qm:ak wr.drew _ _ _:=qm
   have z3:Hid (Ext w wr.drew):=DS.o.ext.drewN 1
   have zY:Hid (Ext wr wr.drew):=(eR wr).drewN 1
   have RQ:Hid (Row wr.drew gq dq):=DS.o.rowq
   have zA:True:=trivial
   go_region_held3 (fun _=>True) (trivial) (first
    |(go_at_call 161;have _t:=zA;refine(kI (sA gq) mq mq dq _ DS.o.qlen (yX _) qO DS.o.qlt RQ.o.Bz).mono ?_;rintro e w5 ⟨A5,n5,c5,rfl,z6,q6⟩;clear zA;have qh:=qh.K q6;have qm:=qm.K q6;have zS:=Hx (z3.o.tr q6);have zU:=Hx (zY.o.tr q6))
    |(go_at_call 209;refine(SR.o _ zU.o).mono ?_;rintro e w6 ⟨g6,zK,rfl,vx,qM,z0,xq,va,qU⟩;have qh:=qh.K va;have qm:=qm.K va;have zV:=Hx (zS.o.tr va);have zZ:=Hx (z6.K va);have vG:=Hx qM;have vZ:=Hx qU;clear qM qU)
    |(go_at_call 161;refine(kI (sA g6) vs.length vs.length zK _ vG.o (yX _) qO z0 vx.Bz).mono ?_;rintro e w7 ⟨A7,n7,c7,rfl,xf,vd⟩;have qh:=qh.K vd;have qm:=qm.K vd;have z1:=Hx (zV.o.tr vd);have zI:=Hx (zZ.o.K vd);obtain⟨d2,f2⟩:=qh.one;obtain⟨d3,f3⟩:=qm.one))
   go_wp2
   have e1:aE w7 A5 n5 c5 (a/b):=by have:=zI.o;rw[QD.o]at this;exact this
   have e2:aE w7 A7 n7 c7 (a%b):=by have:=xf;rw[vZ.o]at this;exact this
   have xh:=(qh.sT 0 (.s A5 n5 c5)).far (p:=(aD (w.heap.size+1) 0)) qL (.s A7 n7 c7)
   have qA:=(qm.far (p:=(aD w.heap.size 0)) qL (.s A5 n5 c5))
   refine bodyPost_ret (v:=.tuple #[.agg #[.s A5 n5 c5],.agg #[.s A7 n7 c7]]) (by simp[results,results173,go_sem,xh.cell,(qA.sT 0 _).cell]) rfl
    ⟨_,_,_,_,_,_,rfl,?_,?_,?_⟩
   ·exact(e1.sT (p:=(aD w.heap.size 0)) qh qD _).sT (p:=(aD (w.heap.size+1) 0)) qA qD _
   ·exact(e2.sT (p:=(aD w.heap.size 0)) qh qD _).sT (p:=(aD (w.heap.size+1) 0)) qA qD _
   ·exact((z1.o.sT qL _).sT qL _)
def jzjm A(n c N:Nat)w(h:aE w A n c N):
  Calls prog 172 #[.agg #[.s A n c]] w fun e w'=>∃(x:Int) (ok:Bool),e=.returned (.tuple #[.int .u64 x,.bool ok])/\Ext w w':=by
 rcases Bc N 18446744073709551616 with hN|hN
 ·exact(kJ A n c N w h hN).mono fun e w' ⟨h1,h2⟩=>⟨_,_,h1,h2⟩
 exact(nB A n c N w h hN).mono fun e w' ⟨h1,h2⟩=>⟨_,_,h1,h2⟩
def aF{w:World}{p q:Addr}{u v:Value}(h:w.cell? p=some v)(hne:p.block≠q.block):(w.setCell q u).cell? p=some v:=(World.cell?_setCell_other w q p u (fun e=>hne (by rw[e]))).trans h
def uD(w:World)(a b:Nat)(p r:Value)(wx:World):Prop:=
 ∃(A:OA) (n c gx:Nat),p=.pointer (sA gx)/\r=.int .u32 ((a%b:Nat):Int)/\w.heap.size+1+1+1<gx/\ak wx gx 31 #[.s A n c]/\aE wx A n c (a/b)/\ak wx (w.heap.size+1+1) 31 #[zN]/\ak wx (w.heap.size+1+1+1) 31 #[zN]/\Ext w wx
def jzjn A1 A2(n1 c1 n2 c2 a b:Nat)w(h1:aE w A1 n1 c1 a)(h2:aE w A2 n2 c2 b)(hn1:n1<=1073741824)(hb0:0<b)(hab:b<=a)(ha:18446744073709551616<=a):
  Calls prog 126 #[.agg #[.s A1 n1 c1],.agg #[.s A2 n2 c2]] w (pF w (a/b) (a%b)):=by
 have H1:=Hx h1;have H2:=Hx h2;have z2:((n2:Int)==0)=false:=(by have:=h2.iw;exact yK.2 qO);have va:n2≠0:=(by have:=h2.iw;omega);have hq:0<=aI a b:=(by unfold aI;rw[qF qO];split <;> omega);have HA:=Hx ha;have q7:=Hx hab;have qI:=Hx hb0;clear h1 h2 ha hab hb0;go_enter func126,ntmps126;go_wp2_with fail;refine(bL A2 n2 c2 _).r fun w1 qz=>?_;obtain⟨qf,qa,qj,qi,e0⟩:=tJ w #[.s A1 n1 c1] 31 #[.s A2 n2 c2] 31 #[zN] 31 #[zN] 31;have HX:=Hx (e0.tr qz);have qf:=qf.K qz;have qa:=qa.K qz;have qj:=qj.K qz;have qi:=qi.K qz;have ca:=qf.one.1;have cb:=qa.one.1;clear e0 qz;go_wp2_with fail;refine(lC A1 A2 n1 c1 n2 c2 a b _ (H1.o.K HX.o) (H2.o.K HX.o) qO).r fun w2 qw=>?_;generalize aI a b=q at*;have qf:=qf.K qw;have qa:=qa.K qw;have qj:=qj.K qw;have qi:=qi.K qw;have qV:=Hx (HX.o.tr qw);have ca:=qf.one.1;have cb:=qa.one.1;clear qw;go_wp2_with fail;refine(nB A1 n1 c1 a _ (H1.o.K qV.o) HA.o).r fun w3 qy=>?_;have qf:=qf.K qy;have qa:=qa.K qy;have qj:=qj.K qy;have qi:=qi.K qy;have qJ:=Hx (qV.o.tr qy);have ca:=qf.one.1;have cb:=qa.one.1;clear qy qV;go_wp2_with fail;refine(jzjm A2 n2 c2 b _ (H2.o.K qJ.o)).mono ?_;rintro e w4 ⟨x,ok,rfl,qx⟩;have qf:=qf.K qx;have qa:=qa.K qx;have qj:=qj.K qx;have qi:=qi.K qx;have qg:=Hx (qJ.o.tr qx);obtain⟨ca,_⟩:=qf.one;obtain⟨cb,_⟩:=qa.one;have BR:=Hx qj;have BS:=Hx qi;have BA:=Hx qf;have BB:=Hx qa;clear qx qJ qj qi qf qa;by_cases vh:n2=1
 ·subst vh;have qC:((((1:Nat):Int))==1)=true:=rfl;obtain⟨ys,q4,vg,qn,qZ,q0⟩:=H2.o;obtain⟨b2,o2,rfl,qk,qh⟩:=q0.rd.u32 (k:=0) qO;have qp:ys[0]?.getD 0=b:=(by obtain⟨y,rfl⟩:∃y,ys=[y]:=List.length_eq_one_iff.1 q4;rw[<-qZ];simp[av.val]);have qU:b<4294967296:=(by rw[<-qp, <-aP];exact bY qn.lt 0);have cy:w4.cell? (aD b2 o2)=some (.int .u32 (b:Int)):=(by have:=(qg.o.cell (p:=(aD b2 (o2+0))) qk).trans (qh 0 qO);rw[qp]at this;exact this);have qQ:b2<w4.heap.size:=yL qk qg.o.size;clear q4 vg qn qZ q0 qh qp;(go_upto_region 10 with fail);go_cut [11,12] (uD w a b)
  case first=>
   have W0:Hid (Ext w4 w4.drew):=Hx ((eR w4).drewN 1);have WA:Hid (Ext w4 (w4.alloc (.cells #[zN] 31)).drew):=Hx (((eR w4).alloc _).drewN 1);have BN:Hid (ak (w4.alloc (.cells #[zN] 31)).drew w4.heap.size 31 #[zN]):=Hx (eN w4 _ _);have q9:=ca;have ve:=cb;have vd:=cy
   go_region_held3 (fun w'=>w'.C w.heap.size 0 (.s A1 n1 c1)/\w'.C (w.heap.size+1) 0 (.s (some (aD b2 o2)) 1 c2)/\w'.C b2 o2 (.int .u32 (b:Int)))
    (first|exact⟨ca,cb,cy⟩|exact⟨aS ca _,aS cb _,aS cy _⟩|exact⟨aF ca (Ht BA.o.lt),aF cb (Ht BB.o.lt),aF cy (Ht qQ)⟩)
    (first
     |(go_at_call 132
       refine(tI A1 n1 c1 a b _ (by exact H1.o.K (qg.o.tr W0.o)) hn1 qI.o qU).mono ?_;rintro e w5 ⟨A5,n5,c5,rfl,qm,qe⟩;have X5:=Hx (W0.o.tr qe);have R5:=Hx qm;have ca:=(X5.o.cell (p:=(aD w.heap.size 0)) BA.o.lt).trans ca;have cb:=(X5.o.cell (p:=(aD (w.heap.size+1) 0)) BB.o.lt).trans cb;have cy:=(X5.o.cell (p:=(aD b2 o2)) qQ).trans cy;have q5:=Hx (show uD w a b (.pointer (sA w5.heap.size)) (.int .u32 ((a%b:Nat):Int)) (w5.alloc (.cells #[.s A5 n5 c5] 31))from
        ⟨A5,n5,c5,w5.heap.size,rfl,rfl,(BS.o.K X5.o).lt,eN _ _ _,R5.o.K ((eR _).alloc _),(BR.o.K X5.o).alloc _,(BS.o.K X5.o).alloc _,(qg.o.tr X5.o).alloc _⟩)
       clear qe qm)
     |(go_at_call 132
       refine(tI A1 n1 c1 a b _ (by exact H1.o.K (qg.o.tr WA.o)) hn1 qI.o qU).mono ?_;rintro e w5 ⟨A5,n5,c5,rfl,qm,qe⟩;have X5:=Hx (WA.o.tr qe);have R5:=Hx qm;have qM:=Hx (BN.o.K qe);obtain⟨cn,fn⟩:=qM.o.one;have ca:=(X5.o.cell (p:=(aD w.heap.size 0)) BA.o.lt).trans q9;have cb:=(X5.o.cell (p:=(aD (w.heap.size+1) 0)) BB.o.lt).trans ve;have cy:=(X5.o.cell (p:=(aD b2 o2)) qQ).trans vd;have q5:=Hx (show uD w a b (.pointer (sA w4.heap.size)) (.int .u32 ((a%b:Nat):Int)) (w5.setCell (aD w4.heap.size 0) (.s A5 n5 c5))from
        ⟨A5,n5,c5,w4.heap.size,rfl,rfl,BS.o.lt,qM.o.sT 0 _,R5.o.sT (p:=(aD w4.heap.size 0)) qM.o qD _,(BR.o.K X5.o).far (p:=(aD w4.heap.size 0)) (by have:=BR.o.lt;simp only;omega) _,(BS.o.K X5.o).far (p:=(aD w4.heap.size 0)) (by have:=BS.o.lt;simp only;omega) _,Ext.sT (qg.o.tr X5.o) (p:=(aD w4.heap.size 0)) (by have:=qg.o.size;simp only;omega) _⟩)
       clear qe qm))
   all_goals
    go_wp2;go_meet;exact q5.o
  obtain⟨A5,n5,c5,gx,rfl,rfl,vl,bx,r5,br,bs,qe⟩:=hcut;have cx:=bx.one.1;obtain⟨d2,f2⟩:=br.one;obtain⟨d3,f3⟩:=bs.one;have vm:a%b<4294967296:=Nat.lt_trans (xT _ qI.o) qU;have R5:=Hx r5;have qo:=Hx br;have qA:=Hx bs;have vi:=Hx bx;have X5:=Hx qe;clear r5 br bs qe bx qg;generalize hrm:a%b=rm at*;clear hrm;have vn:IntKind.u64.wrap (rm:Int)=(rm:Int):=IntWalk.u64_in _ qO;have qB:gx≠w.heap.size+1+1:=qO;have qT:gx≠w.heap.size+1+1+1:=qO;go_wp2
  go_region_held3 (fun w'=>w'.C gx 0 (.s A5 n5 c5)) (first|exact cx|exact aF cx qB|exact aF (aF cx qB) qT)
   (first
    |(go_at_call 117
      refine(lB _ _ qO qO).mono ?_;rintro e w6 ⟨A6,n6,c6,rfl,qH,q8⟩;have X6:Hid (Ext wc w6):=Hx (((eR wc).drewN 1).tr q8);have cx:=(vi.o.K X6.o).one.1;obtain⟨d2,f2⟩:=(qo.o.K X6.o).one;obtain⟨d3,f3⟩:=(qA.o.K X6.o).one))
  go_wp2;have e1:aE w6 A5 n5 c5 (a/b):=R5.o.K X6.o;have e2:aE w6 A6 n6 c6 rm:=qH;have qt:=qo.o.K X6.o;have qW:=qA.o.K X6.o;have qC:=(qt.sT 0 (.s A5 n5 c5)).far (p:=(aD (w.heap.size+1+1+1) 0)) qL (.s A6 n6 c6);have qk:=(qW.far (p:=(aD (w.heap.size+1+1) 0)) qL (.s A5 n5 c5));have qX:=X5.o.tr X6.o;refine bodyPost_ret (v:=.tuple #[.agg #[.s A5 n5 c5],.agg #[.s A6 n6 c6],vI 0]) (by simp[results,results126,go_sem,qC.cell,(qk.sT 0 _).cell]) rfl
   ⟨_,_,_,_,_,_,rfl,?_,?_,?_⟩
  {exact(e1.sT (p:=(aD (w.heap.size+1+1) 0)) qt qD _).sT (p:=(aD (w.heap.size+1+1+1) 0)) qk qD _};{exact(e2.sT (p:=(aD (w.heap.size+1+1) 0)) qt qD _).sT (p:=(aD (w.heap.size+1+1+1) 0)) qk qD _};exact((qX.sT qL _).sT qL _)
 have qC:((n2:Int)==1)=false:=yK.2 qO;go_wp2_with fail;refine(jzjl A1 A2 n1 c1 n2 c2 a b _ (H1.o.K qg.o) (H2.o.K qg.o) hn1 qO q7.o).mono ?_;rintro e w5 ⟨A5,n5,c5,A6,n6,c6,rfl,qm,qH,qe⟩;have qo:=Hx (BR.o.K qe);have qA:=Hx (BS.o.K qe);have X5:=Hx (qg.o.tr qe);have R5:=Hx qm;have R6:=Hx qH;clear qe qm qH ca cb qg;obtain⟨b1,b2,e7⟩:=cN w5 #[.s A5 n5 c5] 31 #[.s A6 n6 c6] 31;generalize hw7:(w5.alloc (.cells #[.s A5 n5 c5] 31)).alloc (.cells #[.s A6 n6 c6] 31)=w7 at*;have qY:=Hx (qo.o.K e7);have q3:=Hx (qA.o.K e7);obtain⟨d2,f2⟩:=qY.o.one;obtain⟨d3,f3⟩:=q3.o.one;have p1:=b1.one.1;have p2:=b2.one.1;have q1:w.heap.size+1+1≠w5.heap.size:=(by have:=qo.o.lt;omega);have q2:w.heap.size+1+1≠w5.heap.size+1:=(by have:=qo.o.lt;omega);have vj:=Hx (R5.o.K e7);have vc:=Hx (R6.o.K e7);have X7:=Hx (X5.o.tr e7);clear e7 b1 b2 qo qA;go_wp2;clear hw7;go_region
 all_goals
  go_wp2;have qt:=qY.o;have qW:=q3.o;have qC:=(qt.sT 0 (.s A5 n5 c5)).far (p:=(aD (w.heap.size+1+1+1) 0)) qL (.s A6 n6 c6);have qk:=(qW.far (p:=(aD (w.heap.size+1+1) 0)) qL (.s A5 n5 c5));have qX:=X7.o;refine bodyPost_ret (v:=.tuple #[.agg #[.s A5 n5 c5],.agg #[.s A6 n6 c6],vI 0]) (by simp[results,results126,go_sem,qC.cell,(qk.sT 0 _).cell]) rfl
   ⟨_,_,_,_,_,_,rfl,?_,?_,?_⟩
  ·
   exact(vj.o.sT (p:=(aD (w.heap.size+1+1) 0)) qt qD _).sT (p:=(aD (w.heap.size+1+1+1) 0)) qk qD _
  ·
   exact(vc.o.sT (p:=(aD (w.heap.size+1+1) 0)) qt qD _).sT (p:=(aD (w.heap.size+1+1+1) 0)) qk qD _
  exact((qX.sT qL _).sT qL _).drewN 1
def jzjo(x y:Nat)(hy:0<y):lD x y:=fun A1 A2 n1 c1 n2 c2 w h1 h2 hn1 hn2=>by
 (rcases Bc x 18446744073709551616 with hx|hx);{exact tK hy hx A1 A2 n1 c1 n2 c2 w h1 h2 hn1 hn2};{(rcases Bc x y with h|h);{rw[Nat.div_eq_of_lt h,Ey h];exact jzaz A1 A2 n1 c1 n2 c2 x y w h1 h2 hn1 h};{exact jzjn A1 A2 n1 c1 n2 c2 x y w h1 h2 hn1 hy h hx}}
def iX{N D:Nat}(hD:D≠0):tN N D:=jzil hD (fun _ x y hy=>jzjo x y hy)
def jzjp{w:World}{B n:Nat}{e:TypeId}{v:Value}{xs:List Value}(h:w.ownsRow B e 1 v (n+1) xs):∃g cap,v=.s (sA g) (n+1) cap/\n+1<=cap:=by
 rcases h.2 with⟨_,h2⟩|⟨g,cap,_,h2,_,_,h3,_⟩
 ·omega
 exact⟨g,cap,h2,h3⟩
def jzjq{w:World}{B n:Nat}{e:TypeId}{v:Value}{xs:List Value}(h:w.ownsRow B e 1 v n xs):∃A cap,v=.s A n cap:=by
 rcases h.2 with⟨h1,h2⟩|⟨g,cap,_,h2,_⟩
 ·exact⟨none,0,by rw[h1,h2]⟩
 exact⟨_,cap,h2⟩
end Go.Proofs.YtfeeacaofjpkaaaGreatDoor
namespace Go.Proofs.YtfeeacaofjpkaaaGreatDoor.av
open Go.Proofs.Tryz
open Go.Lib
def CZ:Nat->Nat->List UInt8
 |0,_=>[]
 |k+1,r=>CZ k (r/10)++[UInt8.ofNat (48+r%10)]
def jzbp(q:Nat)(hq:0<q):∀(k r:Nat),r<10^k->decDigits (q*10^k+r)=decDigits q++CZ k r
 |0,r,h=>by simp at h;subst h;simp[CZ]
 |k+1,r,h=>by
  have hp:1<=10^k:=Nat.one_le_pow _ _ qD;have e:q*10^(k+1)=q*10^k*10:=(by rw[vD,Cb]);have h1:1<=q*10^k:=Nat.mul_pos hq qO;rw[vD]at h;rw[e,decDigits,dif_neg qO,CZ,show(q*10^k*10+r)/10=q*10^k+r/10 by omega,jzbp q hq k (r/10) qO,List.append_assoc,show(q*10^k*10+r)%10=r%10 by omega]
def jzbq:∀k,CZ k 0=List.replicate k 48
 |0=>rfl
 |k+1=>by
  rw[CZ,Nat.zero_div,jzbq k,List.replicate_succ'];rfl
def CB:∀(k r:Nat),r<10^(k+1)->CZ (k+1) r=List.replicate (k+1-(decDigits r).length) 48++decDigits r
 |k,r,h=>by
  by_cases h1:r<10
  ·rw[CZ,Nat.div_eq_of_lt h1,jzbq,decDigits_one h1,Ey h1]
   simp
  ·cases k with
   |zero=>simp at h;omega
   |succ k=>
    have ih:=CB k (r/10) (by rw[vD]at h;omega);rw[CZ,ih,decDigits.eq_1 r,dif_neg h1,List.append_assoc]
    congr 2
    simp
def Jh(N:Nat)(h:1000000000<=N):decDigits N=decDigits (N/1000000000)++(List.replicate (9-(decDigits (N%1000000000)).length) 48++decDigits (N%1000000000)):=by
 have h1:=jzbp (N/1000000000) qO 9 (N%1000000000) (by simp;omega);have h2:=CB 8 (N%1000000000) (by simp;omega);rw[h2]at h1;rw[<-h1];congr 1;omega
def CG(r:Nat)(h:r<1000000000):(decDigits r).length<=9/\1<=(decDigits r).length:=by
 rw[decDigits_length];refine⟨?_,nDigits_pos r⟩;have h1:=CB 8 r (by simp;omega);have h2:∀k r,(CZ k r).length=k:=fun k=>(by (induction k with|zero=>intro r;rfl|succ k ih=>intro r;rw[CZ,yQ,ih];rfl));have h3:=congrArg List.length h1;rw[h2,yQ,xC,decDigits_length]at h3;omega
end Go.Proofs.YtfeeacaofjpkaaaGreatDoor.av
namespace Go.Proofs.YtfeeacaofjpkaaaGreatDoor
open Go.Proofs.Tryz
open Go.RowKit Go.Lib
def jzbr:(prog.info? 180).map (·.size)=some 2:=by kernel_rfl
def jzjr:liesAt prog prog.depth 180 (2/prog.cellsOf 180) 0 180 1=true:=by kernel_rfl
def jzbs:(prog.info? 5).map (fun i=>(i.zero,i.size,i.bytes))=some (some (.int .u8 0),1,1):=by kernel_rfl
def jzjs(b:Nat)(w:World)(h0:w.C b 0 (.pointer (sA b))):
  Calls prog 167 #[.pointer (sA b)] w fun e w'=>e=.returned (.tuple #[])/\w'=w:=by
 obtain⟨j,hj,_⟩:=Option.map_eq_some_iff.1 jzbr;go_enter func167,ntmps167;go_wp2;rw[Lib.run_neq_ptr_same w _ underlying177 hj];go_wp2;(go_end0);exact⟨rfl,rfl⟩
def jzjt(b:Nat)(w:World)(h0:w.C b 0 (.pointer none))(hsh:w.shape? b=some (180,2))(hfz:w.frozen? (aD b 0)=false):
  Calls prog 167 #[.pointer (sA b)] w fun e w'=>e=.returned (.tuple #[])/\w'=w.setCell (aD b 0) (.pointer (sA b)):=by
 obtain⟨j,hj,qa⟩:=Option.map_eq_some_iff.1 jzbr;go_enter func167,ntmps167;go_wp2;rw[Lib.run_to_unsafe w (aD b 0) underlying177 underlying283 hj (by rw[qa];decide) hsh (Nat.zero_lt_succ 1)];simp only[Result.andThen];rw[Oper.upon_value];go_wp2;rw[run_callFunc_extern func204 qK qK qK (e:=Extern.AbiNoEscape.same) qK];rw[Lib.run_noEscape];simp only[Result.andThen];rw[Oper.upon_value];go_wp2;rw[Lib.run_from_unsafe w (aD b 0) underlying283 underlying177 hj hsh jzjr];simp only[Result.andThen];rw[Oper.upon_value];go_wp2;(go_end0);exact⟨rfl,rfl⟩
def jzbt(B b:Nat)(bs:List Value)w(h:Lib.IsBuilder 180 5 B b bs w):
  Calls prog 167 #[.pointer (sA b)] w fun e w'=>e=.returned (.tuple #[])/\(Lib.BuilderAt 180 5 B b (.pointer (sA b)) bs w'/\Below B w w'):=by
 (rcases h with h|h);{refine(jzjt b w h.cell0 h.shape h.frozen0).mono ?_;rintro e w' ⟨rfl,rfl⟩;exact⟨rfl,h.used _,(Below.refl B w).setCell (p:=(aD b 0)) h.1 _⟩};refine(jzjs b w h.cell0).mono ?_;rintro e w' ⟨rfl,rfl⟩;exact⟨rfl,h,Below.refl B _⟩
def uE(B b:Nat)(bs:List Value)(s:ByteArray)w(h:Lib.IsBuilder 180 5 B b bs w)(hlen:bs.length+s.size<=140737488355328)(hBw:B<=w.heap.size):
  Calls prog 110 #[.pointer (sA b),.string s] w fun e w'=>e=.returned (.tuple #[vI s.size,.nilIface])/\(Lib.BuilderAt 180 5 B b (.pointer (sA b)) (bs++Lib.strCells s) w'/\Below B w w'):=by
 obtain⟨i0,hi,qn,qo,qj⟩:=info_parts jzbs;go_enter func110,ntmps110;go_wp2_with fail;(refine(jzbt B b bs _ h).mono ?_;rintro e w1 ⟨rfl,h1,qi⟩;obtain⟨hB,v,qg,qf,qm⟩:=h1;have c0:w1.cell? (aD b 0)=some (.pointer (sA b)):=(by rw[Lib.cell_of_heap qg];rfl);have c1:w1.cell? (aD b 1)=some v:=by rw[Lib.cell_of_heap qg];rfl);(go_wp2_with (at_builtin;refine Lib.wpList_append_own_string _ rfl _ _ 178 9 rfl B 5 i0 underlying178 underlying9 hi qn qo qj _ _ _ rfl qf s rfl ?c3 ?c4 ?c5 ?_));(case c3=>unfold maxLen;omega);(case c4=>omega);(case c5=>have:=qi.size;omega);intro v' w2 qa qe _;have qk:b<w1.heap.size:=(by (rcases Bc b w1.heap.size with h'|h');{exact h'};simp[Fx h']at qg);have qh:w2.heap[b]?=some (.cells #[.pointer (sA b),v] 180 (0,0)):=(by rw[qe.block b qk (fun e=>qm e.symm)];exact qg);have d0:w2.cell? (aD b 0)=some (.pointer (sA b)):=(by rw[Lib.cell_of_heap qh];rfl);have d1:w2.cell? (aD b 1)=some v:=(by rw[Lib.cell_of_heap qh];rfl);have f1:w2.frozen? (aD b 1)=false:=Lib.frozen_of_heap qh 1;obtain⟨ao,n',cap,rfl⟩:∃ao n' cap,v'=.s ao n' cap:=(by (rcases qa.2 with⟨hv,_⟩|⟨g,cap,cur,hv,_⟩);{exact⟨_,_,_,hv⟩};exact⟨_,_,_,hv⟩);go_wp2;(go_ret2);refine⟨rfl,?_,?_⟩;{exact Lib.BuilderAt.put (T:=180) (e:=5) hB qh (bs':=bs++Lib.strCells s) (by simpa [Lib.strCells_length]using qa) qD};exact(qi.grown qe (by have:=qi.size;omega) (fun k hk=>(qf.lt k hk).1)).setCell (p:=(aD b 1)) hB _
end Go.Proofs.YtfeeacaofjpkaaaGreatDoor
namespace Go.Proofs.YtfeeacaofjpkaaaGreatDoor
open Go.Proofs.Tryz
open Go.RowKit Go.Sort
def Tryz.info9:(prog.info? 9).map (fun i=>(i.zero,i.size,i.bytes))=some (some (.string ⟨#[]⟩),1,16):=by kernel_rfl
def lL(l:List (List UInt8)):List Value:=l.map fun s=>Value.string ⟨s.toArray⟩
def jzju(l:List (List UInt8))(s:List UInt8):lL (l++[s])=lL l++[.string ⟨s.toArray⟩]:=by simp[lL]
def jzjv(l:List (List UInt8))(i:Nat)(h:i<l.length):(lL l)[i]?=some (.string ⟨(l[i]?.getD []).toArray⟩):=by simp[lL,h]
def Tab(w:World):Prop:=Lib.TabIs prog w "internal/strconv.uint64pow10" .u64 Lib.pow10Tab
def jzjw:∃g,prog.globalNamed "internal/strconv.uint64pow10" =some g:=by
 have h:(prog.globalNamed "internal/strconv.uint64pow10").isSome=true:=qK;exact Option.isSome_iff_exists.1 h
def Tab.K{w w'}(h:Tab w)(hx:Ext w w'):Tab w':=by
 obtain⟨g,hg⟩:=jzjw;exact Joins.tab_stays hg h hx (yX _)
def jzbu w(k:Nat)(os:Array Obj):Ext w (grow (w.drewN k) os):=
 ⟨rfl,rfl,rfl,by simp[grow],fun i hi=>by
  show((w.drewN k).heap++os)[i]?=_;rw[Array.getElem?_append_left (by show i<w.heap.size;omega)];rfl⟩
def jzjx(r:Nat)w(ht:Tab w)(hr:r<1000000000):
  Calls prog 111 #[vI r] w fun e w'=>e=.returned (.string ⟨(Lib.decDigits r).toArray⟩)/\Ext w w':=by
 refine(Tryz.strconv_Itoa r qO qO w ht).mono ?_;rintro e w' ⟨rfl,k,os,rfl⟩;refine⟨?_,jzbu _ _ _⟩;unfold Lib.itoa;rw[qF qO,xL]
def jzjy(k:Nat)w(hk:k<=9):
  Calls prog 133 #[.string ⟨#[48]⟩,vI k] w fun e w'=>e=.returned (.string ⟨(List.replicate k (48:UInt8)).toArray⟩)/\Ext w w':=by
 refine(Tryz.strings_Repeat ⟨#[48]⟩ k w qO (by show 1*k<=_;omega)).r fun w' hb=>?_;refine⟨?_,hb⟩;have:=Lib.repeatL_replicate 48 1 k;rw[Nat.mul_one]at this;rw[<-this];rfl
def gC(N M:Nat)(ps:List (List UInt8)):Prop:=Lib.decDigits N=(if M=0 then []else Lib.decDigits M)++ps.reverse.flatten
def jzjz{N M:Nat}{ps:List (List UInt8)}(h:gC N M ps)(hM:0<M)(hl:M/1000000000=0):gC N 0 (ps++[Lib.decDigits (M%1000000000)]):=by
 unfold gC at*;rw[h,qF qO,qE rfl,List.reverse_append];rw[Ey qO];simp
def jzj0{N M:Nat}{ps:List (List UInt8)}(h:gC N M ps)(hl:0<M/1000000000):
  gC N (M/1000000000) (ps++[List.replicate (9-(Lib.decDigits (M%1000000000)).length) 48++Lib.decDigits (M%1000000000)]):=by
 unfold gC at*;rw[h,qF qO,qF qO,av.Jh M qO,List.reverse_append];simp
def jzj1(a b:Array UInt8):((⟨a⟩:ByteArray)++⟨b⟩)=⟨a++b⟩:=ByteArray.ext (by simp[ByteArray.data_append])
def fC(M:Nat):List UInt8:=if M/1000000000=0 then Lib.decDigits (M%1000000000)else List.replicate (9-(Lib.decDigits (M%1000000000)).length) 48++Lib.decDigits (M%1000000000)
def jzj2(M:Nat):(fC M).length<=9:=by
 have:=av.CG (M%1000000000) (xT _ qD);unfold fC;split;{omega};simp only[yQ,xC];omega
def jzj3{N M:Nat}{ps:List (List UInt8)}(h:gC N M ps)(hM:0<M):gC N (M/1000000000) (ps++[fC M]):=by
 unfold fC;split;{rename_i e;rw[e];exact jzjz h hM e};exact jzj0 h qO
def jzj4(l:List (List UInt8))(h:∀p∈l,p.length<=9):l.flatten.length<=9*l.length:=by
 (induction l with|nil=>simp|cons a l ih=>have h1:=h a qS;have h2:=ih (fun p hp=>h p (by simp[hp]));simp only[List.flatten_cons,yQ,Dw];omega)
structure uG(w wr:World)(N K k M:Nat)(ps:List (List UInt8))(v:Value)(A:OA)(n c:Nat):Prop where
 lt:M<10^(9*k)
 cnt:ps.length+k<=K
 txt:gC N M ps
 own:wr.ownsRow (w.heap.size+1) 9 1 v ps.length (lL ps)
 len:∀p∈ps,p.length<=9
 blk:ak wr w.heap.size 31 #[.s A n c]
 num:aE wr A n c M
 nle:n<=1048576
 ext:Ext w wr
def uH A(n c N:Nat)w(h:aE w A n c N)(hn:n<=1048576)(ht:Tab w):
  Calls prog 67 #[.agg #[.s A n c]] w fun e w'=>e=.returned (.string ⟨(Lib.decDigits N).toArray⟩)/\Ext w w':=by
 obtain⟨hb,e0⟩:=aU w #[.s A n c] 31;have hz:=h.iw;by_cases hN:N=0;{(have zb:((n:Int)==0)=true:=by have:=hz.2 hN;subst this;rfl);subst hN;have cb:=hb.one.1;clear hz h ht;go_enter func67,ntmps67;(go_wp2_with fail);refine(bL A n c _).mono ?_;rintro e w1 ⟨rfl,qm⟩;have HX:=Hx (e0.tr qm);clear qm e0 hb cb;go_wp2;go_ret;exact⟨by rw[Lib.decDigits_one qD];rfl,HX.o⟩};have zb:((n:Int)==0)=false:=yK.2 qO;have hK:N<10^(9*(2*n)):=(by obtain⟨ds,hl,_,qC,hv,_⟩:=h;have h1:=av.ow bA qC.lt;rw[hv,hl]at h1;refine yL h1 ?_;rw[show 9*(2*n)=18*n by omega,Nat.pow_mul];exact Nat.pow_le_pow_left qD _);have cb:=hb.one.1;have H:=Hx h;have HT:=Hx ht;have HK:=Hx hK;have vk:2*n<=2097152:=qO;obtain⟨ti,hi,q9,va,q0⟩:=info_parts Tryz.info9;clear h ht hz hN hK;go_enter func67,ntmps67;(go_wp2_with fail);refine(bL A n c _).mono ?_;rintro e w1 ⟨rfl,qm⟩;have HX:=Hx (e0.tr qm);have HB:=Hx (hb.K qm);clear qm e0 hb cb;go_wp2;generalize ES:2*n=K at*;have S0:Hid (uG w w1 N K K N [] zN A n c):=Hx (⟨HK.o,qS,by unfold gC;have:=H.o.iw;rw[qF (by intro e;rw[this.2 e]at zb;cases zb)];simp,World.ownsRow_nil _ _ _ _,fun p hp=>by simp at hp,HB.o,H.o.K HX.o,hn,HX.o⟩);clear ES HK HB H hn zb;go_loopg [3,4,5] K (fun k v _ _ wr=>∃(j M:Nat) (ps:List (List UInt8)) (A:OA) (n c:Nat),j=k/\uG w wr N K j M ps v A n c);(case atStart=>exact⟨K,N,[],A,n,c,rfl,S0.o⟩);clear S0;obtain⟨k,M,ps,A,n,c,rfl,qy⟩:=hrel;have ca:=qy.blk.one.1;have hz:=qy.num.iw;have ST:=Hx qy;clear qy;by_cases hM:M=0;{(have zb:((n:Int)==0)=true:=by have:=hz.2 hM;subst this;rfl);clear hz;(go_wp2_with fail);refine(bL A n c _).mono ?_;rintro e w2 ⟨rfl,qk⟩;have qB:=Hx qk;clear qk ca;subst hM;have qe:=ST.o.txt;unfold gC at qe;rw[qE rfl,List.nil_append]at qe;have ve:=Hx qe;have O2:=Hx (ST.o.own.kept (eU qB.o) (eV _));have E2:=Hx (ST.o.ext.tr qB.o);have qZ:ps.length<=2097152:=(by have:=ST.o.cnt;omega);have qQ:=Hx ST.o.len;obtain⟨AV,cv,rfl⟩:=jzjq O2.o;clear qe ST qB;go_wp2;clear zb;(go_loopw [7,36] (fun _ it wr=>∃i:Nat,i<=ps.length/\it=vI i/\Lib.IsBuilder 180 5 w2.heap.size w2.heap.size (Lib.byteCells ((ps.reverse.take i).flatten)) wr/\Below w2.heap.size w2 wr) (fun _ i _=>ps.length-(intOf i).toNat));(case atStart=>refine⟨0,yZ _,rfl,.inl ⟨yX _,zN,heap_alloc_new w2 _,World.ownsRow_nil _ _ _ _,by simp[Value.ownBlock]⟩,(eR w2).alloc _⟩);obtain⟨i,hi,rfl,qV,qI⟩:=hrel;have BD:=Hx qV;have BL:=Hx qI;clear qV qI;by_cases vn:i<ps.length;{obtain⟨m,hm⟩:∃m,ps.length=m+1+i:=⟨ps.length-1-i,qO⟩;have qH:m<ps.length:=qO;obtain⟨g,rfl,vd,qh⟩:∃g,AV=(sA g)/\g<w2.heap.size/\w2.cell? (aD g m)=some (.string ⟨(ps[m]?.getD []).toArray⟩):=(by (rcases O2.o.2 with⟨_,e⟩|⟨g,cap,cur,e,_⟩);{omega};(injection e with e1 e2 e3);subst e1 e3;exact⟨g,rfl,(O2.o.lt g rfl).2,(O2.o.cellAt m qO).trans (jzjv ps m qH)⟩);have vj:=(BL.o.cell (p:=(aD g m)) vd).trans qh;have hx:((ps.length:Int)-1-(i:Int))=(m:Int):=qO;have vc:(m:Int)<(ps.length:Int):=qO;have qn:ps.reverse[i]?=some (ps[m]?.getD []):=(by rw[List.getElem?_reverse qO,show ps.length-1-i=m by omega,yG qH];rfl);have vg:(ps[m]?.getD []).length<=9:=(by rw[yG qH];exact qQ.o _ (xR _));have qA:=Hx (show Lib.byteCells ((ps.reverse.take (i+1)).flatten)=Lib.byteCells ((ps.reverse.take i).flatten)++Lib.strCells ⟨(ps[m]?.getD []).toArray⟩ by rw[Dj,qn,List.flatten_append,Lib.byteCells_append];simp;rfl);have vm:((ps.reverse.take i).flatten).length<=9*ps.length:=(by have:=jzj4 (ps.reverse.take i) (fun p hp=>qQ.o p (List.mem_reverse.1 (xM hp)));simp only[xF,List.length_reverse]at this;omega);generalize ps[m]?.getD []=pm at*;clear hm qh qn;(go_wp2_with fail);refine(uE w2.heap.size w2.heap.size _ ⟨pm.toArray⟩ _ BD.o (by rw[Lib.byteCells_length];show _+pm.toArray.size<=_;rw[show pm.toArray.size=pm.length by simp];omega) BL.o.size).mono ?_;rintro e w9 ⟨rfl,qX,qt⟩;have B9:=Hx qX;have L9:=Hx (BL.o.trans qt);clear qX qt hx;go_wp2;go_roundw;(case rel=>exact⟨i+1,qO,by go_num,.inr (by rw[qA.o];exact B9.o),L9.o⟩);simp[intOf];omega};have q7:i=ps.length:=qO;subst q7;(go_wp2_with fail);refine(Tryz.Builder_String_any w2.heap.size w2.heap.size _ _ BD.o BL.o.size).mono ?_;rintro e w9 ⟨rfl,qt⟩;have HE:=Hx (E2.o.tr (BL.o.trans qt));clear qt;go_wp2;go_ret;refine⟨?_,HE.o⟩;rw[ve.o,yU qS];rfl};have zb:((n:Int)==0)=false:=yK.2 qO;clear hz;(go_wp2_with fail);refine(bL A n c _).mono ?_;rintro e w2 ⟨rfl,qk⟩;have ca:=(ST.o.blk.K qk).one.1;have X2:=Hx qk;clear qk;(go_wp2_with fail);refine(tI A n c M 1000000000 _ (ST.o.num.K X2.o) (by have:=ST.o.nle;omega) qD qD).mono ?_;rintro e w3 ⟨A3,n3,c3,rfl,qx,qW⟩;have X3:=Hx (X2.o.tr qW);have R3:=Hx qx;have B3:=Hx (ST.o.blk.K X3.o);obtain⟨ca,fa⟩:=B3.o.one;have qY:M%1000000000<1000000000:=xT _ qD;have vl:n3<=n:=aE.wm qx ST.o.num (JL _ _);have qT:=qx.iw;clear qW qx X2;have X4:Hid (Ext w (w3.setCell (aD w.heap.size 0) (.s A3 n3 c3))):=Hx (Ext.sT (ST.o.ext.tr X3.o) (p:=(aD w.heap.size 0)) (yX _) _);generalize hrm:M%1000000000=r at*;have HR:=Hx hrm;clear hrm;(go_wp2_with fail);refine(jzjx r _ (HT.o.K X4.o) qY).mono ?_;rintro e w5 ⟨rfl,qp⟩;have X5:=Hx (X4.o.tr qp);have B5:=Hx ((B3.o.sT 0 (.s A3 n3 c3)).K qp);have R5:=Hx ((R3.o.sT (p:=(aD w.heap.size 0)) B3.o qD (.s A3 n3 c3)).K qp);have g4:w3.grownBy (w3.setCell (aD w.heap.size 0) (.s A3 n3 c3)) (some w.heap.size):=aM w3 w.heap.size 0 _;have O5:=Hx (((ST.o.own.kept (eU X3.o) (eV _)).kept g4 (jzjb (ST.o.own.kept (eU X3.o) (eV _)) qO)).kept (eU qp) (eV _));have ca:=B5.o.one.1;clear qp g4 X4 X3 B3 R3 fa;have vp:=av.CG r qY;generalize hdr:Lib.decDigits r=dr at*;have q8:=Hx hdr;clear hdr;(go_wp2_with fail);refine(bL A3 n3 c3 _).mono ?_;rintro e w6 ⟨rfl,qo⟩;have X6:=Hx (X5.o.tr qo);have B6:=Hx (B5.o.K qo);have R6:=Hx (R5.o.K qo);have O6:=Hx (O5.o.kept (eU qo) (eV _));clear qo X5 B5 R5 O5 ca;have PP:=Hx (show fC M=if M/1000000000=0 then dr else List.replicate (9-dr.length) 48++dr by unfold fC;rw[HR.o,q8.o]);have qU:((n3:Int)==0)=decide (M/1000000000=0):=(by by_cases hq:M/1000000000=0;{have:=qT.2 hq;subst this;rw[yO hq];rfl};rw[yP hq];exact yK.2 qO);rw[qU];generalize hz9:decide (M/1000000000=0)=zz at*;have qz:=Hx hz9;clear qU hz9 qT;(go_upto_if 23 with fail);go_cut [5] (fun s wx=>s=.string ⟨(fC M).toArray⟩/\Ext w6 wx);(case first=>cases zz;(case true=>have hp:=PP.o;rw[qE (of_decide_eq_true qz.o)]at hp;have HP:=Hx hp;clear hp;go_wp2;go_meet;exact⟨by rw[HP.o],eR _⟩);have hp:=PP.o;rw[qF (of_decide_eq_false qz.o)]at hp;have HP:=Hx hp;clear hp;(go_wp2_with fail);rw[show(9-(dr.length:Int))=((9-dr.length:Nat):Int) by omega];refine(jzjy (9-dr.length) _ qO).mono ?_;rintro e w7 ⟨rfl,qg⟩;have X7:=Hx qg;clear qg;go_wp2;go_meet;refine⟨?_,X7.o⟩;rw[HP.o,jzj1];congr 2;apply Array.ext';simp);obtain⟨rfl,qg⟩:=hcut;have X7:=Hx (X6.o.tr qg);have B7:=Hx (B6.o.K qg);have R7:=Hx (R6.o.K qg);have O7:=Hx (O6.o.kept (eU qg) (eV _));have vo:=ST.o.cnt;clear qg X6 B6 R6 O6 qz PP;(go_wp2_with (at_builtin;go_must (refine nF _ rfl (.tmp 30) (.tmp 32) 203 rfl (w.heap.size+1) 9 ti (.string ⟨#[]⟩) 16 underlying203 hi q9 va q0 rfl u3 ps.length (lL ps) rfl ?c0 (sA wc.heap.size) 1 1 [.string ⟨(fC M).toArray⟩] rfl rfl ?c1 ?c2 ?c3 ?c4 ?c5 ?c6 ?_)));(case c0=>exact O7.o.alloc _);(case c1=>exact Rd.new _ _ _ rfl rfl);(case c2=>intro h;cases h);(case c3=>intro u hu;simp at hu;subst hu;rfl);(case c4=>unfold maxLen;omega);(case c5=>omega);(case c6=>have:=B7.o.lt;simp;omega);intro v8 w8 qf qa _;have qw:(wc.alloc (.cells #[.string ⟨(fC M).toArray⟩] 9)).grownBy w8 u3.ownBlock:=qa;have qj:∀k,u3.ownBlock=some k->w.heap.size+1<=k:=fun k hk=>(O7.o.lt k hk).1;have qi:ak w8 w.heap.size 31 #[.s A3 n3 c3]:=(qw.block _ (B7.o.alloc _).lt (fun e=>by have:=qj _ e.symm;omega)).trans (B7.o.alloc _);have vi:1<=k:=(by (rcases Ee k with e|e);{exfalso;have:=ST.o.lt;rw[e]at this;simp at this;omega};exact e);have qJ:Ext w w8:=Below.grown (X7.o.alloc _) qw (X7.o.alloc _).size (fun k hk=>by have:=qj k hk;omega);have qM:aE w8 A3 n3 c3 (M/1000000000):=(by obtain⟨ds,q1,q2,q3,q4,q5⟩:=R7.o.K ((eR wc).alloc (.cells #[.string ⟨(fC M).toArray⟩] 9));refine⟨ds,q1,q2,q3,q4,q5.grown qw (fun hx ad had e=>?_)⟩;obtain⟨bb,oo,cs,fr,e1,e2,_⟩:=q5 hx;rw[had]at e1;injection e1 with e1;(subst e1;obtain⟨c9,f9,e9⟩:=Lib.ownsRow_kind (O7.o.alloc (.cells #[.string ⟨(fC M).toArray⟩] 9)) _ e.symm;rw[e2]at e9;injection e9 with e9);(injection e9 with _ e9);revert e9;decide)
 have SN:=Hx (show uG w w8 N K (k-1) (M/1000000000) (ps++[fC M]) v8 A3 n3 c3 from
  ⟨by
   rw[Js qD];have:=ST.o.lt;rw[show 9*k=9*(k-1)+9 by omega,Nat.pow_add]at this;exact this,by rw[yQ,J5];omega,jzj3 ST.o.txt qO,by rw[yQ,J5,jzju];exact qf,fun p hp=>by
    rcases xY.1 hp with h|h
    ·
     exact ST.o.len p h
    rw[xD.1 h];exact jzj2 M,qi,qM,by have:=ST.o.nle;omega,qJ⟩)
 clear qf qa qw qj qi qJ qM;go_wp2;go_roundg (k-1);(case measure=>omega);exact⟨k-1,M/1000000000,ps++[fC M],A3,n3,c3,rfl,SN.o⟩
def eD(q:Rat):List UInt8:=(if q.num<0 then [45]else [])++Lib.decDigits q.num.natAbs++(if q.den=1 then []else [47]++Lib.decDigits q.den)
def jzbv:∀(k N:Nat),N<10^(k+1)->Lib.nDigits N<=k+1
 |0,N,h=>by rw[Lib.nDigits_small (by simpa using h)];exact yX _
 |k+1,N,h=>by
  by_cases hN:N<10
  ·rw[Lib.nDigits_small hN];omega
  ·rw[Lib.nDigits_big hN]
   have:=jzbv k (N/10) (by rw[vD]at h;omega);omega
def jzbw{w}{A}{n c N:Nat}(h:aE w A n c N)(hn:n<=1048576):(Lib.decDigits N).length<=20000000:=by
 obtain⟨ds,hl,_,qa,hv,_⟩:=h;have h1:=av.ow bA qa.lt;rw[hv,hl]at h1;have h2:N<10^(18*n+1):=(by refine yL h1 (yY (Nat.pow_le_pow_left (show dh<=10^18 by decide) n) ?_);rw[<-Nat.pow_mul];exact DU qD qO);rw[Lib.decDigits_length];have:=jzbv _ _ h2;omega
def jzbx(neg:Bool)A(n c:Nat)A'(n' c':Nat)(q:Rat)w(h:aC w neg A n c A' n' c' q)(hn:n<=1048576)(hn':n'<=1048576)(ht:Tab w):
  Calls prog 23 #[.agg #[.bool neg,.s A n c,.s A' n' c']] w fun e w'=>e=.returned (.string ⟨(eD q).toArray⟩)/\Ext w w':=by
 obtain⟨qa,e0⟩:=aU w #[.bool neg,.s A n c,.s A' n' c'] 33;have hz:=h.2.2.iw;have qg:(((n':Int)==0)=true/\q.den=1)\/(((n':Int)==0)=false/\q.den≠1/\dk q=q.den):=(by have hd:=q.den_nz;unfold dk at hz⊢;by_cases h1:q.den=1;{rw[qE h1]at hz;have:=hz.2 rfl;subst this;exact .inl ⟨rfl,h1⟩};rw[qF h1]at hz⊢;exact .inr ⟨yK.2 qO,h1,rfl⟩);have qx:=jzbw h.2.1 hn;have qo:=jzbw h.2.2 hn';have H:=Hx h;have HT:=Hx ht;have qj:=h.1;have SG:=Hx (show(if q.num<0 then [45]else([]:List UInt8))=if neg then [45]else [] by rw[qj];simp);clear h ht hz qj;obtain⟨⟨i0,i1,i2⟩,g0,g1,g2⟩:=qa.t3;have goal:∀(s:ByteArray),s.data.toList=eD q->s=⟨(eD q).toArray⟩:=fun s hs=>(by rw[<-hs])
 have qi:=Hx goal;clear goal;have qp:∀b1:Bool,neg=b1->Calls prog 23 #[.agg #[.bool neg,.s A n c,.s A' n' c']] w fun e w'=>e=.returned (.string ⟨(eD q).toArray⟩)/\Ext w w':=by
  intro b1 qt;subst qt;rcases qg with⟨zb,hd⟩|⟨zb,hd,hdk⟩
  ·have HD:=Hx hd;clear hd;cases neg
   all_goals
    go_enter func23,ntmps23
    go_wp2_with fail
    refine(uH A n c q.num.natAbs _ (H.o.2.1.K e0) hn (HT.o.K e0)).r fun w1 qe=>?_;have qa:=qa.K qe;obtain⟨⟨i0,i1,i2⟩,g0,g1,g2⟩:=qa.t3;have HX:=Hx (e0.tr qe);clear qe
    go_wp2_with fail
    refine(bL A' n' c' _).r fun w2 qf=>?_;have qh:=Hx (HX.o.tr qf);clear qf;go_wp2;go_ret;refine⟨congrArg (fun s=>Ending.returned (.string s)) (qi.o _ ?_),qh.o⟩;unfold eD;rw[SG.o,HD.o];simp[ByteArray.data_append]
  have HD:=Hx hd;have qm:=Hx hdk;clear hd hdk;cases neg
  all_goals
   go_enter func23,ntmps23
   go_wp2_with fail
   refine(uH A n c q.num.natAbs _ (H.o.2.1.K e0) hn (HT.o.K e0)).r fun w1 qe=>?_;have qa:=qa.K qe;obtain⟨⟨i0,i1,i2⟩,g0,g1,g2⟩:=qa.t3;have HX:=Hx (e0.tr qe);clear qe
   go_wp2_with fail
   refine(bL A' n' c' _).r fun w2 qf=>?_;have qh:=Hx (HX.o.tr qf);have qa:=qa.K qf;obtain⟨⟨i0,i1,i2⟩,g0,g1,g2⟩:=qa.t3;clear qf
   go_wp2_with fail
   refine(uH A' n' c' (dk q) _ (H.o.2.2.K qh.o) hn' (HT.o.K qh.o)).r fun w3 qk=>?_;have qw:=qo;have qn:=Hx (qh.o.tr qk);clear qk;go_wp2;go_ret;refine⟨congrArg (fun s=>Ending.returned (.string s)) (qi.o _ ?_),qn.o⟩;unfold eD;rw[SG.o,qF HD.o,qm.o];simp[ByteArray.data_append]
 exact qp neg rfl
end Go.Proofs.YtfeeacaofjpkaaaGreatDoor
namespace Go.Proofs.YtfeeacaofjpkaaaGreatDoor
open Go.Proofs.Tryz
open Go.ChangeShapes Go.WideShapes Go.ChangeAt Go.RowKit
def Tryz.own:ownKnob prog.godebug=none:=by kernel_rfl
def Tryz.laidOut:laidOutB prog=true:=by kernel_rfl
abbrev mG:List (String×DataW Unit):=Rows.flowsSolveRow.laid
def jzj5{W}(h:laidMetH prog mG W):Tab W:=by
 rw[MakeChecks.laidMetH_plain _ _ _ qK]at h;have h0:laidMet prog mG W:=h;have h3:laidMet prog [("internal/strconv.uint64pow10",Lib.tabData .u64 Lib.pow10Tab)] W:=h0.tail.tail;exact Lib.tabIs_of_head (g:=1) (t:=310) qK qK underlying310 underlying189 qK qK h3
def jzj6(os:Os)(args:Array Value):laidMetH prog mG ((World.doorLaid prog 24 os).forCall (fun _ _=>0) ⟨#[],args,[]⟩).memory:=
 laidMetH_of_parts3 (fuel:=8) (laidMet_of_run' 8 qK qK) qK qK
end Go.Proofs.YtfeeacaofjpkaaaGreatDoor
namespace Go.Proofs.YtfeeacaofjpkaaaGreatDoor
open Go.Proofs.Tryz
open Go Go.RowKit
variable {P:Program} {md:Region.Mode} {ops:Array Oper} {Q:Exit->Act->World->Prop} {S:World->Prop} {L:Nat}
def wpAnyL(P:Program)(md:Region.Mode)(ops:Array Oper)(Q:Exit->Act->World->Prop)(S:World->Prop)(L:Nat):Nat->Array Bool->Act->World->Prop
 |0,listed,a,w=>Region.ready md ops listed=[]/\Q .normal a w
 |fuel+1,listed,a,w=>
  (Region.ready md ops listed=[]->Q .normal a w)/\
  ∀i∈Region.ready md ops listed,wpOp P ops Q i (fun a' w'=>(i=L->wpAny P md ops Q fuel (listed.setIfInBounds i true) a' w')/\(i≠L->S w'/\wpAnyL P md ops Q S L fuel (listed.setIfInBounds i true) a' w')) a w
def jzby:∀(fuel:Nat) (listed:Array Bool) (a:Act) (w:World),wpAnyL P md ops Q S L fuel listed a w->wpAny P md ops Q fuel listed a w
 |0,_,_,_,h=>h
 |fuel+1,_,_,_,h=>⟨h.1,fun i hi=>wpOp_mono (fun a' w' h'=>by
  by_cases e:i=L
  ·exact h'.1 e
  ·exact jzby fuel _ a' w' (h'.2 e).2) (h.2 i hi)⟩
def wu(md:Region.Mode)(ops:Array Oper)(L i:Nat):Bool:=match ops[L]? with
 |none=>false
 |some o=>o.after.any fun e=>Region.binds md e&&e.on==i
def nG{i:Nat}(h:wu md ops L i=true){listed:Array Bool}(hr:L∈Region.ready md ops listed)(hsz:listed.getD i true=false):False:=by
 unfold wu at h;obtain⟨_,oj,qe,qa⟩:=mem_ready.1 hr;rw[qe]at h;obtain⟨e,he,hb⟩:=Array.any_eq_true'.1 h;rw[vM,beq_iff_eq]at hb;have h2:=qa e he hb.1;rw[hb.2]at h2;rcases Bc i listed.size with h'|h'
 ·simp[h']at hsz h2;rw[hsz]at h2;cases h2
 simp[Fx h']at hsz
def jzj7{i:Nat}{oi:Oper}{v:Value}(hL:wu md ops L i=true)(hi:ops[i]?=some oi)(Cc:i≠L)(hsel:∀(j:Nat) (o:Oper) cs b,ops[j]?=some o->o.op≠.select cs b)
  (hQ:∀c a w,Q (.panic c) (a.put oi.dst v) w->Q (.panic c) a w):
  ∀(qe:Nat) (qa:Array Bool) (a:Act) (w:World),
   (∀j oj,ops[j]?=some oj->j≠i->qa.getD j true=false->(∀e∈oj.after,Region.binds md e=true->e.on≠i)->oi.apart ops oj=true)->
   i∈Region.ready md ops qa->YieldsIf P ops S oi v a->S w->
   wpAnyL P md ops Q S L qe (qa.setIfInBounds i true) (a.put oi.dst v) w->wpAnyL P md ops Q S L (qe+1) qa a w:=by
 intro qe
 induction qe with
 |zero=>
  intro qa a w _ hr hy hS H;refine⟨fun h=>(by rw[h]at hr;cases hr),fun j hj=>?_⟩;by_cases qg:j=i
  ·subst qg;exact hy.wpOp hi hS ⟨fun e=>absurd e Cc,fun _=>⟨hS,H⟩⟩
  have:=ready_mono hj qg;rw[H.1]at this;cases this
 |succ qe ih=>
  intro qa a w qf hr hy hS H;refine⟨fun h=>(by rw[h]at hr;cases hr),fun j hj=>?_⟩;by_cases qg:j=i
  ·subst qg;exact hy.wpOp hi hS ⟨fun e=>absurd e Cc,fun _=>⟨hS,H⟩⟩
  have qj:j≠L:=fun e=>by
   rw[e]at hj;exact nG hL hj (mem_ready.1 hr).1
  have h1:=H.2 j (ready_mono hj qg);obtain⟨qi,oj,qk,qm⟩:=mem_ready.1 hj;have qn:∀e∈oj.after,Region.binds md e=true->e.on≠i:=fun e he hb heq=>by
   have h1:=qm e he hb;have h0:=(mem_ready.1 hr).1;rw[heq]at h1;rcases Bc i qa.size with h'|h'
   ·simp[h']at h0 h1;rw[h0]at h1;cases h1
   simp[Fx h']at h1
  have h2:=wpOp_putIf qk (qf j oj qk qg qi qn) (fun cs b=>hsel i oi cs b hi) (fun cs b=>hsel j oj cs b qk) hQ hy h1;have qh:∀k ok,ops[k]?=some ok->k≠i->(qa.setIfInBounds j true).getD k true=false->
    (∀e∈ok.after,Region.binds md e=true->e.on≠i)->oi.apart ops ok=true:=fun k ok hk hki hun hno=>by
   refine qf k ok hk hki ?_ hno;by_cases qo:j=k
   ·subst qo;exact qi
   rw[getD_set_ne true qo]at hun;exact hun
  refine wpOp_mono (fun a' w' h3=>⟨fun e=>absurd e qj,fun _=>⟨(h3.2.2 qj).1,ih (qa.setIfInBounds j true) a' w' qh (ready_mono hr (Ne.symm qg)) h3.1 (h3.2.2 qj).1 ?_⟩⟩) h2;rw[Array.setIfInBounds_comm _ _ qg];exact(h3.2.2 qj).2
def Da{i:Nat}{oi:Oper}{v:Value}{fuel:Nat}{listed:Array Bool}{a:Act}{w}(hi:ops[i]?=some oi)(hL:wu md ops L i=true)(Cc:i≠L)
  (hs:Region.noSelect ops=true) (hf:Region.free md ops listed i=true) (hr:(Region.ready md ops listed).contains i=true)
  (hQ:∀c a w,Q (.panic c) (a.put oi.dst v) w->Q (.panic c) a w) (hy:YieldsIf P ops S oi v a) (hS:S w)
  (h:wpAnyL P md ops Q S L fuel (listed.setIfInBounds i true) (a.put oi.dst v) w):wpAnyL P md ops Q S L (fuel+1) listed a w:=
 jzj7 hL hi Cc (Region.noSelect_spec hs) hQ fuel listed a w (Region.free_spec hi hf) (by simpa using hr) hy hS h
def jzj8{oi:Oper}{v:Value}{a:Act}(h:YieldsIf P ops (fun _=>True) oi v a):Yields P ops oi v a:=h.imp (fun⟨hw,hv⟩=>⟨hw,fun w=>hv w trivial⟩) id
def jzj9{i:Nat}{oi:Oper}{v:Value}(hi:ops[i]?=some oi)(Cc:i≠L)(hsel:∀(j:Nat) (o:Oper) cs b,ops[j]?=some o->o.op≠.select cs b)
  (hQ:∀c a w,Q (.panic c) (a.put oi.dst v) w->Q (.panic c) a w):
  ∀(qe:Nat) (qa:Array Bool) (a:Act) (w:World),
   (∀j oj,ops[j]?=some oj->j≠i->qa.getD j true=false->(∀e∈oj.after,Region.binds md e=true->e.on≠i)->oi.apart ops oj=true)->
   i∈Region.ready md ops qa->YieldsIf P ops (fun _=>True) oi v a->S w->
   wpAnyL P md ops Q S L qe (qa.setIfInBounds i true) (a.put oi.dst v) w->wpAnyL P md ops Q S L (qe+1) qa a w:=by
 intro qe
 induction qe with
 |zero=>
  intro qa a w _ hr hy hS H;refine⟨fun h=>(by rw[h]at hr;cases hr),fun j hj=>?_⟩;by_cases qg:j=i
  ·subst qg;exact hy.wpOp hi trivial ⟨fun e=>absurd e Cc,fun _=>⟨hS,H⟩⟩
  have:=ready_mono hj qg;rw[H.1]at this;cases this
 |succ qe ih=>
  intro qa a w qh hr hy hS H;refine⟨fun h=>(by rw[h]at hr;cases hr),fun j hj=>?_⟩;by_cases qg:j=i
  ·subst qg;exact hy.wpOp hi trivial ⟨fun e=>absurd e Cc,fun _=>⟨hS,H⟩⟩
  have h1:=H.2 j (ready_mono hj qg);obtain⟨qi,oj,qj,qk⟩:=mem_ready.1 hj;have qm:∀e∈oj.after,Region.binds md e=true->e.on≠i:=fun e he hb heq=>by
   have h1:=qk e he hb;have h0:=(mem_ready.1 hr).1;rw[heq]at h1;rcases Bc i qa.size with h'|h'
   ·simp[h']at h0 h1;rw[h0]at h1;cases h1
   simp[Fx h']at h1
  have h2:=wpOp_putIf qj (qh j oj qj qg qi qm) (fun cs b=>hsel i oi cs b hi) (fun cs b=>hsel j oj cs b qj) hQ hy h1;have qf:∀k ok,ops[k]?=some ok->k≠i->(qa.setIfInBounds j true).getD k true=false->
    (∀e∈ok.after,Region.binds md e=true->e.on≠i)->oi.apart ops ok=true:=fun k ok hk hki hun hno=>by
   refine qh k ok hk hki ?_ hno;by_cases qn:j=k
   ·subst qn;exact qi
   rw[getD_set_ne true qn]at hun;exact hun
  refine wpOp_mono (fun a' w' h3=>⟨fun e=>?_,fun e=>⟨(h3.2.2 e).1,ih (qa.setIfInBounds j true) a' w' qf (ready_mono hr (Ne.symm qg)) h3.1 (h3.2.2 e).1 ?_⟩⟩) h2
  ·refine wpAny_first hi hsel hQ qe (qa.setIfInBounds j true) a' w' qf (ready_mono hr (Ne.symm qg)) (jzj8 h3.1) ?_
   rw[Array.setIfInBounds_comm _ _ qg];exact h3.2.1 e
  rw[Array.setIfInBounds_comm _ _ qg];exact(h3.2.2 e).2
def Fb{i:Nat}{oi:Oper}{v:Value}{fuel:Nat}{listed:Array Bool}{a:Act}{w}(hi:ops[i]?=some oi)(Cc:i≠L)
  (hs:Region.noSelect ops=true) (hf:Region.free md ops listed i=true) (hr:(Region.ready md ops listed).contains i=true)
  (hQ:∀c a w,Q (.panic c) (a.put oi.dst v) w->Q (.panic c) a w) (hy:YieldsIf P ops (fun _=>True) oi v a) (hS:S w)
  (h:wpAnyL P md ops Q S L fuel (listed.setIfInBounds i true) (a.put oi.dst v) w):wpAnyL P md ops Q S L (fuel+1) listed a w:=
 jzj9 hi Cc (Region.noSelect_spec hs) hQ fuel listed a w (Region.free_spec hi hf) (by simpa using hr) hy hS h
def jzbz{i:Nat}{fuel:Nat}{listed:Array Bool}{a:Act}{w}(hr:Region.ready md ops listed=[i])
  (h:wpOp P ops Q i (fun a' w'=>(i=L->wpAny P md ops Q fuel (listed.setIfInBounds i true) a' w')/\(i≠L->S w'/\wpAnyL P md ops Q S L fuel (listed.setIfInBounds i true) a' w')) a w):wpAnyL P md ops Q S L (fuel+1) listed a w:=
 ⟨fun h0=>(by rw[hr]at h0;cases h0),fun j hj=>(by rw[hr]at hj;obtain rfl:j=i:=(by simpa using hj);exact h)⟩
def Fe{i:Nat}{o:Oper}{fuel:Nat}{listed:Array Bool}{a:Act}{w}(Cc:i≠L)(hr:Region.ready md ops listed=[i])(ho:ops[i]?=some o)(hw:Region.wanted o (yielded ops a.tmps)=true)
  (h:∀K':Act->World->Prop,Hid (∀a w,S w->wpAnyL P md ops Q S L fuel (listed.setIfInBounds i true) a w->K' a w)->Oper.wp P o a w K' Q):wpAnyL P md ops Q S L (fuel+1) listed a w:=
 jzbz hr (wpOp_step ho fun K' hK=>by rw[qE hw];exact h K' (Hx fun a w h1 h2=>hK a w ⟨fun e=>absurd e Cc,fun _=>⟨h1,h2⟩⟩))
def bE{o:Oper}{fuel:Nat}{listed:Array Bool}{a:Act}{w}(hr:Region.ready md ops listed=[L])(ho:ops[L]?=some o)(hw:Region.wanted o (yielded ops a.tmps)=true)
  (h:∀K':Act->World->Prop,Hid (∀a w,wpAny P md ops Q fuel (listed.setIfInBounds L true) a w->K' a w)->Oper.wp P o a w K' Q):wpAnyL P md ops Q S L (fuel+1) listed a w:=
 jzbz hr (wpOp_step ho fun K' hK=>by rw[qE hw];exact h K' (Hx fun a w h2=>hK a w ⟨fun _=>h2,fun e=>absurd rfl e⟩))
def iY{i:Nat}{o:Oper}{fuel:Nat}{listed:Array Bool}{a:Act}{w}(hr:Region.ready md ops listed=[i])(ho:ops[i]?=some o)(hw:Region.wanted o (yielded ops a.tmps)=true)
  (h:∀K':Act->World->Prop,Hid (∀a w,wpAny P md ops Q fuel (listed.setIfInBounds i true) a w->K' a w)->Oper.wp P o a w K' Q):wpAny P md ops Q (fuel+1) listed a w:=
 ⟨fun h0=>(by rw[hr]at h0;cases h0),fun j hj=>(by
  rw[hr]at hj;obtain rfl:j=i:=(by simpa using hj);exact wpOp_step ho fun K' hK=>by rw[qE hw];exact h K' (Hx hK))⟩
def jh{id:Nat}{a:Act}{w:World}(S:World->Prop)(L:Nat)(hm:P.follows .mixedOrders=true)
  (h:wpAnyL P .any ops Q S L ops.size (Array.replicate ops.size false) a w.drew):(Code.region id ops true).wp P Q a w:=
 wp_region_any hm (jzby _ _ _ _ h)
def wP(i:Nat){oi:Oper}{v:Value}{fuel:Nat}{listed:Array Bool}{a:Act}{w:World}(h:wpAnyL P md ops Q S L fuel (listed.setIfInBounds i true) (a.put oi.dst v) w)(hi:ops[i]?=some oi:=by exact rfl)(hS:S w:=by exact eu.o)(hv:∀ w,True->(execOp a.eval oi).run P w=.ok (.value v) w:=by intro w _;go_simp;try with_reducible rfl)(Cc:i≠L:=by decide)(hs:Region.noSelect ops=true:=by kernel_rfl)(hf:Region.free md ops listed i=true:=by kernel_rfl)(hr:(Region.ready md ops listed).contains i=true:=by kernel_rfl)(hQ:∀ c a w,Q (.panic c) (a.put oi.dst v) w->Q (.panic c) a w:=by exact fun _ _ _ h=>h)(hw:Region.wanted oi (yielded ops a.tmps)=true:=by rfl):wpAnyL P md ops Q S L (fuel+1) listed a w:=Fb hi Cc hs hf hr hQ (DF ⟨hw,hv⟩) hS h
def wT(i:Nat){oi:Oper}{v:Value}{fuel:Nat}{listed:Array Bool}{a:Act}{w:World}(hi:ops[i]?=some oi)(hv:∀ w,S w->(execOp a.eval oi).run P w=.ok (.value v) w)(hS:S w)(h:wpAnyL P md ops Q S L fuel (listed.setIfInBounds i true) (a.put oi.dst v) w)(hL:wu md ops L i=true:=by kernel_rfl)(Cc:i≠L:=by decide)(hs:Region.noSelect ops=true:=by kernel_rfl)(hf:Region.free md ops listed i=true:=by kernel_rfl)(hr:(Region.ready md ops listed).contains i=true:=by kernel_rfl)(hQ:∀ c a w,Q (.panic c) (a.put oi.dst v) w->Q (.panic c) a w:=by exact fun _ _ _ h=>h)(hw:Region.wanted oi (yielded ops a.tmps)=true:=by rfl):wpAnyL P md ops Q S L (fuel+1) listed a w:=Da hi hL Cc hs hf hr hQ (DF ⟨hw,hv⟩) hS h
def wC(i:Nat){o:Oper}{fuel:Nat}{listed:Array Bool}{a:Act}{w:World}(ho:ops[i]?=some o)(h:∀ K':Act->World->Prop,Hid (∀ a w,S w->wpAnyL P md ops Q S L fuel (listed.setIfInBounds i true) a w->K' a w)->Oper.wp P o a w K' Q)(Cc:i≠L:=by decide)(hr:Region.ready md ops listed=[i]:=by kernel_rfl)(hw:Region.wanted o (yielded ops a.tmps)=true:=by rfl):wpAnyL P md ops Q S L (fuel+1) listed a w:=Fe Cc hr ho hw h
def wV(i:Nat){oi:Oper}{v:Value}{fuel:Nat}{listed:Array Bool}{a:Act}{w:World}(h:wpAnyL P md ops Q S L fuel (listed.setIfInBounds i true) (a.put oi.dst v) w)(hi:ops[i]?=some oi:=by exact rfl)(hS:S w:=by exact eu.o)(hv:∀ w,S w->(execOp a.eval oi).run P w=.ok (.value v) w:=by intro w h;revert h;(try simp only [and_imp]);intros;go_simp;try with_reducible rfl)(hL:wu md ops L i=true:=by kernel_rfl)(Cc:i≠L:=by decide)(hs:Region.noSelect ops=true:=by kernel_rfl)(hf:Region.free md ops listed i=true:=by kernel_rfl)(hr:(Region.ready md ops listed).contains i=true:=by kernel_rfl)(hQ:∀ c a w,Q (.panic c) (a.put oi.dst v) w->Q (.panic c) a w:=by exact fun _ _ _ h=>h)(hw:Region.wanted oi (yielded ops a.tmps)=true:=by rfl):wpAnyL P md ops Q S L (fuel+1) listed a w:=Da hi hL Cc hs hf hr hQ (DF ⟨hw,hv⟩) hS h
def wX{R:World->Prop}{id:Nat}{a:Act}{w:World}(_k:Hid (∀ x,R x->S x))(L:Nat)(h:wpAnyL P .any ops Q S L ops.size (Array.replicate ops.size false) a w.drew)(hm:P.follows .mixedOrders=true:=by kernel_rfl):(Code.region id ops true).wp P Q a w:=jh S L hm h
end Go.Proofs.YtfeeacaofjpkaaaGreatDoor
namespace Go.Proofs.YtfeeacaofjpkaaaGreatDoor
open Go.Proofs.Tryz
open Go.RowKit
def nH(a b:Rat):a*b=Am (decide (a.num<0) !=decide (b.num<0)) (a.num.natAbs*b.num.natAbs) (a.den*b.den):=by
 have hs:(if(decide (a.num<0) !=decide (b.num<0))=true then-((a.num.natAbs*b.num.natAbs:Nat):Int)else((a.num.natAbs*b.num.natAbs:Nat):Int))=a.num*b.num:=(by (rw[Ii];rcases Int.lt_or_le a.num 0 with ha|ha <;> rcases Int.lt_or_le b.num 0 with hb|hb);{rw[show((a.num.natAbs:Nat):Int)= -a.num by omega,show((b.num.natAbs:Nat):Int)= -b.num by omega];simp only[ha,hb,decide_true,bne_self_eq_false,Jr,if_false,Int.neg_mul_neg]};{rw[show((a.num.natAbs:Nat):Int)= -a.num by omega,show((b.num.natAbs:Nat):Int)=b.num by omega];simp only[ha,show¬b.num<0 by omega,decide_true,decide_false,Bool.true_bne,Bool.not_false,if_true,Int.neg_mul,Int.neg_neg]};{rw[show((a.num.natAbs:Nat):Int)=a.num by omega,show((b.num.natAbs:Nat):Int)= -b.num by omega];simp only[hb,show¬a.num<0 by omega,decide_true,decide_false,Bool.false_bne,if_true,Int.mul_neg,Int.neg_neg]};rw[show((a.num.natAbs:Nat):Int)=a.num by omega,show((b.num.natAbs:Nat):Int)=b.num by omega];simp[show¬a.num<0 by omega,show¬b.num<0 by omega]);unfold Am;rw[hs];(conv=>lhs;rw[<-Rat.mkRat_self a, <-Rat.mkRat_self b]);rw[Rat.mkRat_mul_mkRat]
def gX(na nb:Bool)A1(n1 c1:Nat)kr(n1' c1':Nat)A2(n2 c2:Nat)mg(ko c2':Nat)(a b:Rat)w
  (ha:aC w na A1 n1 c1 kr n1' c1' a) (hb:aC w nb A2 n2 c2 mg ko c2' b) (l1:n1<=134217728) (EO:n1'<=134217728) (l2:n2<=134217728) (Fw:ko<=134217728):
  Calls prog 47 #[.agg #[.bool na,.s A1 n1 c1,.s kr n1' c1'],.agg #[.bool nb,.s A2 n2 c2,.s mg ko c2']] w (eM w (a*b)):=by
 obtain⟨qa,qe,qf,e0⟩:=fP w #[.bool na,.s A1 n1 c1,.s kr n1' c1'] 33 #[.bool nb,.s A2 n2 c2,.s mg ko c2'] 33 rV 33;have hq:=nH a b;rw[<-ha.1, <-hb.1]at hq;have qB:=Hx (iX (N:=a.num.natAbs*b.num.natAbs) (D:=a.den*b.den) (Hq a.den_nz b.den_nz));have za:=ha.2.2.iw;have zb:=hb.2.2.iw;rw[lE]at za zb;have ZA:=Hx (za);have ZB:=Hx (zb);have HA:=Hx (ha);have HB:=Hx (hb);have HQ:=Hx (hq);clear ha hb hq za zb;obtain⟨⟨i0,i1,i2⟩,h0,h1,h2⟩:=qa.t3;obtain⟨⟨j0,j1,j2⟩,qw,qp,qt⟩:=qe.t3;go_enter func47,ntmps47;go_wp2_with fail;refine(jzay A1 A2 n1 c1 n2 c2 a.num.natAbs b.num.natAbs _ (HA.o.2.1.K e0) (HB.o.2.1.K e0) qO qO).mono ?_;rintro e w1 ⟨A,n,c,rfl,hN,qo⟩;have L1:=jza3 hN (HA.o.2.1) (HB.o.2.1);have xb:=(eR w1).alloc (.cells #[.s A n c] 31);have qg:=eN w1 31 #[.s A n c];have qa:=(qa.K qo).K xb;have qe:=(qe.K qo).K xb;have qf:=(qf.K qo).K xb;have E5:=Hx ((e0.tr qo).tr xb);have R5:=Hx (hN.K xb);have qI:w.heap.size+1+1<w1.heap.size:=(by have:=qo.size;simp at this;omega);clear qo hN xb e0 i0 i1 i2 h0 h1 h2 j0 j1 j2 qw qp qt;(go_upto_region 2 with fail);generalize hW1:w1.alloc (.cells #[.s A n c] 31)=W1 at*;clear hW1;generalize hgg:w1.heap.size=g at*;clear hgg;have qy:(a.den=1/\b.den=1)\/(a.den=1/\b.den≠1)\/a.den≠1:=qO;rcases qy with⟨hda,hdb⟩|⟨hda,hdb⟩|hda
 case' inl=>
  have za:((n1':Int)==0)=true:=(by rw[ZA.o.2 hda];rfl);have zb:((ko:Int)==0)=true:=(by rw[ZB.o.2 hdb];rfl);have qx:a*b=Am (na !=nb) (a.num.natAbs*b.num.natAbs) 1:=(by rw[HQ.o,hda,hdb]);have HF:=Hx (qx);obtain⟨⟨i0,i1,i2⟩,h0,h1,h2⟩:=qa.t3;clear qx hda hdb
  go_wp2_with fail
  refine(bL kr n1' c1' _).r fun w6 qh=>?_;have qa:=qa.K qh;have qe:=qe.K qh;have qf:=qf.K qh;have qg:=qg.K qh;obtain⟨⟨j0,j1,j2⟩,qw,qp,qt⟩:=qe.t3;have E6:=Hx (E5.o.tr qh);have R6:=Hx (R5.o.K qh);clear qh
  go_wp2_with fail
  refine(bL mg ko c2' _).r fun w7 qi=>?_;have qa:=qa.K qi;have qe:=qe.K qi;have qf:=qf.K qi;have qg:=qg.K qi;clear i0 i1 i2 h0 h1 h2 j0 j1 j2 qw qp qt;obtain⟨⟨i0,i1,i2⟩,h0,h1,h2⟩:=qa.t3;obtain⟨⟨j0,j1,j2⟩,qw,qp,qt⟩:=qe.t3;have cg:=qg.one.1;have E7:=Hx (E6.o.tr qi);have R7:=Hx (R6.o.K qi);clear qi
  go_wp2_with fail
  refine(mA (na !=nb) A n c _ _ R7.o).mono ?_;rintro e w8 ⟨ng,B,m,d,B',m',d',rfl,qm,qk⟩;have qf:=qf.K qk;obtain⟨⟨k0,k1,k2⟩,f0,f1,f2⟩:=qf.t3;have E8:=Hx (E7.o.tr qk);have R8:=Hx (qm);clear qk qm;go_wp2;exact bodyPost_ret (v:=.agg #[.bool ng,.s B m d,.s B' m' d']) (by simp[results,results47,go_sem,(((qf.sT 0 _).sT 1 _).sT 2 _).cell]) rfl (by rw[HF.o];exact eZ qf qD R8.o E8.o qO)
 case' inr.inl=>
  have za:((n1':Int)==0)=true:=(by rw[ZA.o.2 hda];rfl);have zb:((ko:Int)==0)=false:=yK.2 (fun h=>hdb (ZB.o.1 qO));obtain⟨⟨i0,i1,i2⟩,h0,h1,h2⟩:=qa.t3;clear hda hdb
  go_wp2_with fail
  refine(bL kr n1' c1' _).r fun w6 qh=>?_;have qa:=qa.K qh;have qe:=qe.K qh;have qf:=qf.K qh;have qg:=qg.K qh;obtain⟨⟨j0,j1,j2⟩,qw,qp,qt⟩:=qe.t3;have E6:=Hx (E5.o.tr qh);have R6:=Hx (R5.o.K qh);clear qh
  go_wp2_with fail
  refine(bL mg ko c2' _).r fun wz qj=>?_;have qa:=qa.K qj;have qe:=qe.K qj;have qf:=qf.K qj;have qg:=qg.K qj;have EZ:=Hx (E6.o.tr qj);have RZ:=Hx (R6.o.K qj);clear qj i0 i1 i2 h0 h1 h2 j0 j1 j2 qw qp qt
 case' inr.inr=>
  have za:((n1':Int)==0)=false:=yK.2 (fun h=>hda (ZA.o.1 qO));obtain⟨⟨i0,i1,i2⟩,h0,h1,h2⟩:=qa.t3;clear hda
  go_wp2_with fail
  refine(bL kr n1' c1' _).r fun wz qj=>?_;have qa:=qa.K qj;have qe:=qe.K qj;have qf:=qf.K qj;have qg:=qg.K qj;have EZ:=Hx (E5.o.tr qj);have RZ:=Hx (R5.o.K qj);clear qj i0 i1 i2 h0 h1 h2
 all_goals
  have qa:ak wz.drew _ _ _:=qa;have qe:ak wz.drew _ _ _:=qe;have qf:ak wz.drew _ _ _:=qf;have qg:ak wz.drew _ _ _:=qg;have EZ:=Hx (EZ.o.drewN 1);have RZ:=Hx (RZ.o.K ((eR wz).drewN 1));obtain⟨⟨i0,i1,i2⟩,_⟩:=qa.t3;obtain⟨⟨j0,j1,j2⟩,_⟩:=qe.t3;obtain⟨cg,_⟩:=qg.one;go_wp2
  go_region_held3 (fun w'=>w'.C w.heap.size 0 (.bool na)/\w'.C w.heap.size 1 (.s A1 n1 c1)/\w'.C w.heap.size 2 (.s kr n1' c1')/\
    w'.C (w.heap.size+1) 0 (.bool nb)/\w'.C (w.heap.size+1) 2 (.s mg ko c2')/\w'.C g 0 (.s A n c)) (first|exact⟨i0,i1,i2,j0,j2,cg⟩|exact⟨(fa _ _ _).cell 0,(fa _ _ _).cell 1,(fa _ _ _).cell 2,(fb _ _ _).cell 0,(fb _ _ _).cell 2,(fg _ _ _).cell 0⟩)
   (first
    |(go_at_call 60
      refine(jza2 na A1 n1 c1 kr n1' c1' a _ (HA.o.K EZ.o)).mono ?_;rintro e w7 ⟨A7,n7,c7,rfl,qz,qi⟩;have qa:=qa.K qi;have qe:=qe.K qi;have qf:=qf.K qi;have qg:=qg.K qi;have E7:=Hx (EZ.o.tr qi);have qC:=Hx (RZ.o.K qi);have R7:=Hx qz;have L7:=jza6 qz HA.o.2.2;obtain⟨⟨i0,i1,i2⟩,_⟩:=qa.t3;obtain⟨⟨j0,j1,j2⟩,_⟩:=qe.t3;obtain⟨cg,_⟩:=qg.one;clear qi qz)
    |(go_at_call 57
      refine(kK A7 mg n7 c7 ko c2' a.den (dk b) _ R7.o (HB.o.2.2.K E7.o) qO qO).mono ?_;rintro e w8 ⟨A8,n8,c8,rfl,qm,qk⟩;have qa:=qa.K qk;have qe:=qe.K qk;have qf:=qf.K qk;have qg:=qg.K qk;have E8:=Hx (E7.o.tr qk);have qH:=Hx (qC.o.K qk);have L8:=iW qm R7.o (HB.o.2.2.K E7.o);have qm:aE w8 A8 n8 c8 (a.den*b.den):=(by rw[iV]at qm;exact qm);have R8:=Hx qm;obtain⟨⟨i0,i1,i2⟩,_⟩:=qa.t3;obtain⟨⟨j0,j1,j2⟩,_⟩:=qe.t3;obtain⟨cg,_⟩:=qg.one;clear qk qm)
    |(go_at_call 59
      refine(qB.o (na !=nb) A A8 n c n8 c8 _ qH.o R8.o qO qO).mono ?_;rintro e w9 ⟨ng,B,m,d,B',m',d',rfl,qA,qn⟩;have qa:=qa.K qn;have qe:=qe.K qn;have qf:=qf.K qn;have qg:=qg.K qn;have E9:=Hx (E8.o.tr qn);have R9:=Hx qA;obtain⟨⟨i0,i1,i2⟩,_⟩:=qa.t3;obtain⟨⟨j0,j1,j2⟩,_⟩:=qe.t3;obtain⟨⟨k0,k1,k2⟩,f0,f1,f2⟩:=qf.t3;obtain⟨cg,_⟩:=qg.one;have fa:=fun u0 u1 u2=>((qa.far (p:=(aD (w.heap.size+1+1) 0)) (by simp;omega) u0).far (p:=(aD (w.heap.size+1+1) 1)) (by simp;omega) u1).far (p:=(aD (w.heap.size+1+1) 2)) (by simp;omega) u2;have fb:=fun u0 u1 u2=>((qe.far (p:=(aD (w.heap.size+1+1) 0)) qS u0).far (p:=(aD (w.heap.size+1+1) 1)) qS u1).far (p:=(aD (w.heap.size+1+1) 2)) qS u2;have fg:=fun u0 u1 u2=>((qg.far (p:=(aD (w.heap.size+1+1) 0)) (by simp;omega) u0).far (p:=(aD (w.heap.size+1+1) 1)) (by simp;omega) u1).far (p:=(aD (w.heap.size+1+1) 2)) (by simp;omega) u2;clear qn qA))
  go_wp2;exact bodyPost_ret (v:=.agg #[.bool ng,.s B m d,.s B' m' d']) (by simp[results,results47,go_sem,(((qf.sT 0 _).sT 1 _).sT 2 _).cell]) rfl (by rw[HQ.o];exact eZ qf qD R9.o E9.o qO)
def G6:Nat:=1000000
def fD:G6=1000000:=rfl
def eW:0<G6:=by decide
def nI:1<G6:=by decide
def aJ(w:World)(A:OA)(n c N:Nat):Prop:=
 ∃ds:LN,ds.length=n/\n<=c/\av.Canon G6 ds/\av.val G6 ds=N/\og w 3 A (ints ds)
def aJ.K{w w'}{A}{n c N:Nat}(h:aJ w A n c N)(hb:Ext w w'):aJ w' A n c N:=by
 obtain⟨ds,h1,h2,h3,h4,h5⟩:=h;exact⟨ds,h1,h2,h3,h4,h5.K hb⟩
def aJ.zero w A(c:Nat):aJ w A 0 c 0:=⟨[],rfl,yZ _,av.Canon.nil _,rfl,og.nil _ _ _⟩
def aJ.iw{w}{A}{n c N:Nat}(h:aJ w A n c N):n=0↔N=0:=by
 obtain⟨ds,rfl,_,h3,rfl,_⟩:=h;constructor;{intro h;rw[FJ.1 h];rfl};intro h;rw[h3.val_zero eW h];rfl
def aJ.lenOf{w}{A}{n c N k:Nat}(h:aJ w A n c N)(hN:N<G6^k):n<=k:=by
 obtain⟨ds,rfl,_,qa,rfl,_⟩:=h;exact qa.wm nI hN
def iZ(w:World)(N:Nat)(e:Ending)(w':World):Prop:=
 ∃(A:OA) (n c:Nat),e=.returned (.s A n c)/\aJ w' A n c N/\Ext w w'/\∀ad,A=some ad->w.heap.size<=ad.block
def jzka{P:Program}{w}{t t2 ty e e2:TypeId}(ht:P.underlying t=some (.slice e))(ht2:P.underlying t2=some (.slice e2)){i:TypeInfo}(hi:P.info? e=some i)(v x:Value):(Builtin.append_ #[t,t2] ty #[v,x]).run P w=(Builtin.append_ #[t,t] ty #[v,x]).run P w:=by
 unfold Builtin.append_;cases v <;> simp[run_underlying ht,run_underlying ht2,sizeOf,typeInfo,hi]
section
variable {P:Program} (w:World)
def pS{ops:Array Oper}{rest:List Oper}{o:Oper}{a:Act}{Q:Exit->Act->World->Prop}(hgd:o.guard=none)(s x:Operand)(t t2:TypeId)
  (ho:o.op=.call {callee:=.builtin .append,args:=#[s,x],argTypes:=#[t,t2]})
  (base:Nat) (e:TypeId) (i:TypeInfo) (z:Value) (bytes:Nat) (e2:TypeId) (ht2:P.underlying t2=some (.slice e2)) (ht:P.underlying t=some (.slice e)) (hi:P.info? e=some i) (hz:i.zero=some z)
  (hsize:i.size=1) (hby:i.bytes=bytes) (hzs:z.cells.size=1)
  (v:Value) (n:Nat) (xs:List Value) (hs:a.eval s=v) (hown:w.ownsRow base e 1 v n xs)
  A (m c:Nat) (news:List Value) (hx:a.eval x=.s A m c) (hm:m=news.length) (hr:Rd w A news) (hA:A=none->m=0/\c=0\/m=0) (h1:∀u∈news,u.oneCell'=true)
  (h63:n+m<=maxLen) (hbytes:(n+m)*bytes<=140737488355328) (hbase:base<=w.heap.size)
  (h:∀v' w',w'.ownsRow base e 1 v' (n+m) (xs++news)->w.grownBy w' v.ownBlock->(v'.ownBlock=v.ownBlock\/v'.ownBlock=some w.heap.size)->wpList P ops Q rest (a.put o.dst v') w'):wpList P ops Q (o::rest) a w:=
 wpList_plain hgd fun _ hK=>by
  obtain⟨v',w',qa,h2,h3,h4⟩:=jzbf (P:=P) w base t o.type e i z bytes ht hi hz hsize hby hzs v n xs hown A m c news hm hr hA h1 h63 hbytes hbase;unfold Oper.wp execOp;simp only[ho,resolve,invoke,builtin,Sem.run_bind,Sem.run_pure,Result.andThen_ok,List.map_toArray,Ka,List.map_nil,hs,hx,jzka ht ht2 hi,qa];exact hK _ _ (h v' w' h2 h3 h4)
end
def Rd.ints{w}{A}{ds:LN}(h:Rd w A (ints ds)){k:Nat}(hk:k<ds.length):
  ∃b o:Nat,A=some (aD b o)/\b<w.heap.size/\∀i,i<ds.length->w.cell? (aD b (o+i))=some (vI ((ds[i]?.getD 0:Nat):Int)):=by
 obtain⟨b,o,e,qa,hc⟩:=h.at_ (i:=k) (by rw[bX];exact hk);refine⟨b,o,e,qa,fun i hi=>(hc i (by rw[bX];exact hi)).trans ?_⟩;simp[Go.Proofs.YtfeeacaofjpkaaaGreatDoor.ints,hi]
def aJ.Dt{w}{A}{ds:LN}{k c:Nat}(hr:og w 3 A (ints (ds.take k)))(hk:k<=ds.length)(hz:∀j,k<=j->j<ds.length->ds[j]?.getD 0=0)
  (ht:0<k->ds[k-1]?.getD 0≠0) (hlt:∀d∈ds,d<G6) (hkc:k<=c):aJ w A k c (av.val G6 ds):=by
 refine⟨ds.take k,by rw[xF];omega,hkc,⟨fun d hd=>hlt d (xM hd),?_⟩,?_,hr⟩;{intro h;by_cases h0:k=0;{subst h0;simp at h};rw[List.getLast?_eq_getElem?,xF,Ik hk,xG,qE qO]at h;exact ht qO (by rw[h];rfl)};rw[<-av.BK, <-av.BK G6 ds,av.CW ds k hk (fun j h1 h2=>hz j h1 h2)]
def jzkb(ds:LN)(k:Nat):ints (ds.take k)=(ints ds).take k:=by simp[ints]
def jzb0 A(c:Nat)(ds:LN)w(hr:Rd w A (ints ds))(hc:ds.length<=c)(hlt:∀d∈ds,d<G6)(hl:ds.length<=1073741824):
  Calls prog 157 #[.s A ds.length c] w (iZ w (av.val G6 ds)):=by
 obtain⟨ti,hi,qj,qk,qm⟩:=info_parts Tryz.info3;have HR:=Hx (hr);have HL:=Hx (hlt);clear hr hlt;go_enter func157,ntmps157;go_wp2;go_loopg [0] ds.length (fun m it wr=>∃k,k=m/\k<=ds.length/\it=.s A k c/\(∀j,k<=j->j<ds.length->ds[j]?.getD 0=0)/\wr=w);exact⟨_,rfl,yX _,rfl,fun j h1 h2=>qO,rfl⟩;obtain⟨k,rfl,hk,rfl,hz,rfl⟩:=hrel;have HZ:=Hx (hz);have HK:=Hx (hk);have HA:Hid (A=none->k=0):=Hx (fun h=>by (rcases Ee k with h0|h0);{exact h0};obtain⟨b,o,e,_⟩:=HR.o.ints (k:=0) qO;rw[h]at e;cases e);clear hz;by_cases h0:k=0;{subst h0;have NZ:Hid (0<0->ds[0-1]?.getD 0≠0):=Hx (fun h=>qO);(go_wp2_with (at_builtin;go_must (refine pS _ rfl (.tmp 20) (.tmp 21) 43 42 rfl wr.heap.size 3 ti (vI 0) 8 3 underlying42 underlying43 hi qj qk qm rfl (.s (sA wr.heap.size) 0 0) 0 [] rfl ?c0 A 0 c (ints (ds.take 0)) rfl ?c1 ?c2 ?c3 (gW _) ?c4 ?c5 ?c6 ?_)));(case c0=>exact lK wr wr.heap.size 3 (yX _));(case c1=>rfl);(case c2=>exact Rd.nil _ _);intro v3 w3 qe qa _;have e3:Ext wr w3:=Below.grown ((eR wr).alloc (.cells #[] 3)) qa qS (fun k hk=>by simp[Value.ownBlock]at hk;omega);obtain⟨A3,c3,rfl,qh,qg⟩:=fA (l:=ds.take 0) qe (by rw[xF];omega);have qi:(ds.take 0).length=0:=(by rw[xF];omega);rw[qi]at qh⊢;have F:=Hx (aJ.Dt qg HK.o HZ.o NZ.o HL.o qh);have E3:=Hx e3;have FR:Hid (∀ad,A3=some ad->wr.heap.size<=ad.block):=Hx (fun ad h=>(qe.lt ad.block (by rw[h];rfl)).1);clear qe qa e3 qg;go_wp2;go_ret;exact⟨_,_,_,rfl,F.o,E3.o,FR.o⟩};obtain⟨b,o,rfl,hb,qf⟩:=HR.o.ints (k:=k-1) qO;have qn:=qf (k-1) qO;clear qf;obtain⟨d,hd⟩:∃d,d=ds[k-1]?.getD 0:=⟨_,rfl⟩;rw[<-hd]at qn;have HD:=Hx (hd);clear hd;by_cases hd:d=0
 ·subst hd;go_wp2;go_roundg (k-1);(case measure=>omega)
  case rel=>
   exact⟨_,rfl,qO,by go_num,fun j h1 h2=>by
   by_cases e:j=k-1;{subst e;exact HD.o.symm}
   exact HZ.o j qO h2,rfl⟩
 have qo:((d:Int)==0)=false:=yK.2 qO;have NZ:Hid (0<k->ds[k-1]?.getD 0≠0):=Hx (fun _=>by rw[<-HD.o];exact hd);(go_wp2_with (at_builtin;go_must (refine pS _ rfl (.tmp 20) (.tmp 21) 43 42 rfl wr.heap.size 3 ti (vI 0) 8 3 underlying42 underlying43 hi qj qk qm rfl (.s (sA wr.heap.size) 0 0) 0 [] rfl ?d0 (some (aD b o)) k c (ints (ds.take k)) rfl ?d1 ?d2 ?d3 (gW _) ?d4 ?d5 ?d6 ?_)));(case d0=>exact lK wr wr.heap.size 3 (yX _));(case d1=>rw[bX,xF];omega);(case d2=>rw[jzkb];exact(HR.o.take k).K ((eR _).alloc _));(case d3=>exact fun h=>.inr (HA.o h));(case d4=>unfold maxLen;omega);(case d5=>omega);(case d6=>simp);intro v3 w3 qe qa _;have e3:Ext wr w3:=Below.grown ((eR wr).alloc (.cells #[] 3)) qa qS (fun k hk=>by simp[Value.ownBlock]at hk;omega);obtain⟨A3,c3,rfl,qh,qg⟩:=fA (l:=ds.take k) qe (by rw[xF];omega);have qi:(ds.take k).length=k:=(by rw[xF];omega);rw[qi]at qh⊢;have F:=Hx (aJ.Dt qg HK.o HZ.o NZ.o HL.o qh);have E3:=Hx e3;have FR:Hid (∀ad,A3=some ad->wr.heap.size<=ad.block):=Hx (fun ad h=>(qe.lt ad.block (by rw[h];rfl)).1);clear qe qa e3 qg;go_wp2;go_ret;exact⟨_,_,_,rfl,F.o,E3.o,FR.o⟩
def Ext.tr'{a b c}(h:Ext a b)(k:Below a.heap.size b c):Ext a c:=h.trans k
def OI(w:World)(B:Nat)(v:Value)(l:LN):Prop:=w.ownsRow B 3 1 v l.length (ints l)
def OI.nil w(B:Nat):OI w B zN []:=World.ownsRow_nil _ _ _ _
def OI.K{w w'}{B:Nat}{v:Value}{l:LN}(h:OI w B v l)(hx:Ext w w'):OI w' B v l:=
 World.ownsRow.kept (row:=none) h ⟨hx.os,hx.tape,hx.output,hx.size,fun k hk _=>hx.block k hk⟩ (by
  by_cases e:v.ownBlock=none
  ·exact .inl e
  ·exact .inr e)
def OI.Bz{w}{B:Nat}{v:Value}{l:LN}(h:OI w B v l):∃(A:OA) (c:Nat),v=.s A l.length c/\l.length<=c/\og w 3 A (ints l):=fA h rfl
def pT{ops:Array Oper}{rest:List Oper}{o:Oper}{a:Act}{Q:Exit->Act->World->Prop}w(hgd:o.guard=none)(s x:Operand)
  (ho:o.op=.call {callee:=.builtin .append,args:=#[s,x],argTypes:=#[42,42]})
  (B:Nat) (v:Value) (l:LN) (hs:a.eval s=v) (hown:OI w B v l) (u:Value) (n:Nat) (hu:u=vI (n:Int)) (hx:a.eval x=.s (sA w.heap.size) 1 1)
  (hl:l.length<=4398046511104) (hB:B<=w.heap.size)
  (h:∀v' w',OI w' B v' (l++[n])->Below B w w'->(∃A c,v'=.s A (l.length+1) c)->wpList prog ops Q rest (a.put o.dst v') w'):wpList prog ops Q (o::rest) a (w.alloc (.cells #[u] 3)):=by
 obtain⟨ti,hi,qf,qg,qe⟩:=info_parts Tryz.info3;subst hu;refine nF _ hgd s x 42 ho B 3 ti (vI 0) 8 underlying42 hi qf qg qe rfl v l.length (ints l) hs (OI.K hown ((eR w).alloc _)) (sA w.heap.size) 1 1 [vI (n:Int)] hx rfl (Rd.new w _ _ rfl rfl) (by intro h;cases h) (by intro u hu;simp at hu;subst hu;rfl) (by unfold maxLen;omega) qO (by simp;omega) ?_;intro v' w' h1 h2 h3;have qa:OI w' B v' (l++[n]):=(by unfold OI;rw[yQ,gU];exact h1);obtain⟨A,c,e,_⟩:=qa.Bz;refine h v' w' qa ?_ ⟨A,c,by rw[e,yQ];rfl⟩;exact Below.grown (Below.alloc (Below.refl B w) hB _) h2 (by simp;omega) (fun k hk=>(hown.lt k hk).1)
def lM(N:Nat)w(hN:N<18446744073709551616):
  Calls prog 155 #[.int .u64 N] w (iZ w N):=by
 go_enter func155,ntmps155;go_wp2;go_loopg [0,3] N (fun m nt ot wr=>∃(k:Nat) (ds:LN) (A:OA) (c:Nat),k=m/\nt=.int .u64 k/\ot=.s A ds.length c/\OI wr w.heap.size ot ds/\(∀d∈ds,d<G6)/\N=av.val G6 ds+G6^ds.length*k/\ds.length<=4/\Ext w wr/\k<=N);exact⟨_,[],none,0,rfl,rfl,rfl,OI.nil _ _,(fun _ h=>by cases h),(by simp[av.val]),qS,eR _,yX _⟩;obtain⟨k,ds,A,c,rfl,rfl,rfl,qe,qg,qf,qk,hx,qp⟩:=hrel;have OW:=Hx (qe);have HL:=Hx (qg);have HV:=Hx (qf);have EX:=Hx (hx);clear qe qg qf hx;by_cases h0:k=0;{subst h0;obtain⟨A',c',e,hc,hr⟩:=OW.o.Bz;injection e with e1 e2 e3;subst e1 e3;have R:=Hx (hr.rd);clear hr;go_wp2_with fail;refine(jzb0 A c ds _ R.o hc HL.o qO).mono ?_;rintro e w1 ⟨A1,n1,c1,rfl,hR,qi,fr⟩;have hv:av.val G6 ds=N:=(by have:=HV.o;rw[ER,Ef]at this;exact this.symm);rw[hv]at hR;have F:=Hx (ah hR (ah (EX.o.tr qi) (fun ad h=>yY EX.o.size (fr ad h))));clear hR qi hv fr;go_wp2;go_ret;exact⟨_,_,_,rfl,F.o.1,F.o.2.1,F.o.2.2⟩};have qo:decide ((k:Int)>0)=true:=(by simp;omega);have qh:ds.length<=3:=(by (rcases Bc ds.length 4 with h|h);{omega};have hv:=HV.o;have:G6^4<=G6^ds.length:=DU eW h;have h4:G6^4=1000000000000000000000000:=qD;have:G6^ds.length*1<=G6^ds.length*k:=Dx _ qO;omega);(go_wp2_with (at_builtin;go_must (refine pT wr rfl (.tmp 6) (.tmp 10) rfl w.heap.size (.s A ds.length c) ds rfl OW.o _ (k%1000000) ?c0 rfl ?c1 ?c2 ?_)));(case c0=>go_num);(case c1=>omega);(case c2=>exact EX.o.size);intro v2 w2 qa qj A2 c2 e2;subst e2;have hd:=Ij k 1000000;have hm:=xT k (show 1000000>0 by decide);have qn:=Hx qa;have qm:=Hx (EX.o.tr' qj);have V2:=Hx (show N=av.val G6 (ds++[k%1000000])+G6^(ds++[k%1000000]).length*(k/1000000) by rw[av.BJ,yQ,Nat.pow_add,HV.o,JK,Cb, <-Ag];congr 1;congr 1;simp only[J5,Nat.pow_one,fD];omega);have L2:Hid (∀d∈ds++[k%1000000],d<G6):=Hx (fun d hd=>by (rcases xY.1 hd with h|h);{exact HL.o d h};simp at h;subst h;exact hm);clear qa qj;go_wp2;go_roundg (k/1000000);exact⟨_,ds++[k%1000000],A2,c2,rfl,by go_num,by rw[yQ];rfl,qn.o,L2.o,V2.o,by rw[yQ];simp;omega,qm.o,qO⟩;omega
def pU(xs:LN)(i:Nat):av.val G6 (xs.take (i+1))=av.val G6 (xs.take i)+G6^i*xs[i]?.getD 0:=by
 rcases Bc i xs.length with h|h
 ·rw[av.dw _ _ _ h];simp[List.getD]
 rw[yU qO,yU h,yI h];simp
def jzb1{V D C x P:Nat}(h:V=D+P*C):V+P*x=(D+P*((C+x)%1000000))+P*G6*((C+x)/1000000):=by
 have:=Ij (C+x) 1000000;rw[h,fD,Cb,JK,JK, <-Ag, <-Ag];congr 2;omega
def mH A(n c:Nat)(ds:LN)(hn:ds.length=n)w(hr:Rd w A (ints ds))(hc:n<=c)(hlt:∀d∈ds,d<G6)(hl:n<=1073741824):
  Calls prog 157 #[.s A n c] w (iZ w (av.val G6 ds)):=by
 subst hn;exact jzb0 A c ds w hr hc hlt hl
def gY(n i C:Nat):Prop:=(i<=n/\C<=5000000000000)\/(i=n+1/\C<=5000000)\/(i=n+2/\C<=5)\/(i=n+3/\C=0)
def jzkc A(c:Nat)(xs:LN)w(hr:Rd w A (ints xs))(hc:xs.length<=c)(qi:∀d∈xs,d<=4000000000000000000)(hl:xs.length<=100000000):
  Calls prog 154 #[.s A xs.length c] w (iZ w (av.val G6 xs)):=by
 have HR:=Hx (hr);have HX:=Hx (qi);clear hr qi;go_enter func154,ntmps154;go_wp2;go_loopg [3,4,5] (xs.length+3) (fun m ot ct it wr=>∃(i C:Nat) (ds:LN) (A:OA) (c:Nat),xs.length+3-i=m/\it=vI i/\ct=vI C/\ot=.s A ds.length c/\OI wr w.heap.size ot ds/\(∀d∈ds,d<G6)/\ds.length=i/\av.val G6 (xs.take i)=av.val G6 ds+G6^i*C/\gY xs.length i C/\Ext w wr);exact⟨0,0,[],none,0,rfl,rfl,rfl,rfl,OI.nil _ _,(fun _ h=>by cases h),rfl,by simp[av.val],by unfold gY;omega,eR _⟩;obtain⟨i,C,ds,A',c',rfl,rfl,rfl,rfl,qh,qi,qe,qj,qw,hx⟩:=hrel;have OW:=Hx (qh);have HL:=Hx (qi);have HV:=Hx (qj);have EX:=Hx (hx);have ST:=Hx (qw);clear qh qi qj hx qw;by_cases h0:i<xs.length;{obtain⟨b,o,rfl,hb,qf⟩:=HR.o.ints (k:=i) h0;obtain⟨x,qg⟩:∃x,x=xs[i]?.getD 0:=⟨_,rfl⟩;have qz:x<=4000000000000000000:=(by rw[qg,yG h0];exact HX.o _ (xR h0));have qB:=EX.o.cell (p:=(aD b (o+i))) hb;rw[qf i h0, <-qg]at qB;have qp:=Hx (qg);have hS:(C:Int)+(x:Int)<=4500000000000000000:=(by have:=ST.o;unfold gY at this;omega);have qm:=Hx (show gY xs.length (i+1) ((C+x)/1000000) by have:=ST.o;unfold gY at this⊢;omega);clear qg qf qz;(go_wp2_with (at_builtin;go_must (refine pT wr rfl (.tmp 26) (.tmp 29) rfl w.heap.size (.s A' ds.length c') ds rfl OW.o _ ((C+x)%1000000) ?c0 rfl ?c1 ?c2 ?_)));(case c0=>go_num);(case c1=>omega);(case c2=>exact EX.o.size);intro v2 w2 qa qk A2 c2 e2;subst e2;have qo:=Hx qa;have qn:=Hx (EX.o.tr' qk);have V2:=Hx (show av.val G6 (xs.take (i+1))=av.val G6 (ds++[(C+x)%1000000])+G6^(i+1)*((C+x)/1000000) by rw[pU, <-qp.o,av.BJ,qe,vD];exact jzb1 HV.o);have L2:Hid (∀d∈ds++[(C+x)%1000000],d<G6):=Hx (fun d hd=>by (rcases xY.1 hd with h|h);{exact HL.o d h};simp at h;subst h;exact xT _ qD);clear qa qk;go_wp2;go_roundg (xs.length+3-(i+1));exact⟨i+1,(C+x)/1000000,ds++[(C+x)%1000000],A2,c2,rfl,by go_num,by go_num,by rw[yQ,qe];rfl,qo.o,L2.o,by rw[yQ,qe];rfl,V2.o,qm.o,qn.o⟩;omega};by_cases h1:0<C;{obtain⟨x,qg⟩:∃x,x=xs[i]?.getD 0:=⟨_,rfl⟩;(obtain rfl:x=0:=(by rw[qg,yI qO];rfl);have qp:=Hx (qg);have hS:(C:Int)<=4500000000000000000:=(by have:=ST.o;unfold gY at this;omega);have qm:=Hx (show gY xs.length (i+1) (C/1000000) by have:=ST.o;unfold gY at this⊢;omega);have qA:i<xs.length+3:=(by have:=ST.o;unfold gY at this;omega);clear qg;have d1:decide ((i:Int)<(xs.length:Int))=false:=(by simp;omega);have d2:decide ((C:Int)>0)=true:=by simp;omega);(go_wp2_with (at_builtin;go_must (refine pT wr rfl (.tmp 26) (.tmp 29) rfl w.heap.size (.s A' ds.length c') ds rfl OW.o _ (C%1000000) ?d0 rfl ?d1 ?d2 ?_)));(case d0=>go_num);(case d1=>omega);(case d2=>exact EX.o.size);intro v2 w2 qa qk A2 c2 e2;subst e2;have qo:=Hx qa;have qn:=Hx (EX.o.tr' qk);have V2:=Hx (show av.val G6 (xs.take (i+1))=av.val G6 (ds++[C%1000000])+G6^(i+1)*(C/1000000) by rw[pU, <-qp.o,av.BJ,qe,vD];exact jzb1 (x:=0) HV.o);have L2:Hid (∀d∈ds++[C%1000000],d<G6):=Hx (fun d hd=>by (rcases xY.1 hd with h|h);{exact HL.o d h};simp at h;subst h;exact xT _ qD);clear qa qk;go_wp2;go_roundg (xs.length+3-(i+1));exact⟨i+1,C/1000000,ds++[C%1000000],A2,c2,rfl,by go_num,by go_num,by rw[yQ,qe];rfl,qo.o,L2.o,by rw[yQ,qe];rfl,V2.o,qm.o,qn.o⟩;omega};obtain rfl:C=0:=qO;have qA:i<=xs.length+3:=(by have:=ST.o;unfold gY at this;omega);have d1:decide ((i:Int)<(xs.length:Int))=false:=(by simp;omega);obtain⟨A2,c2,e,qy,qt⟩:=OW.o.Bz;injection e with e1 e2 e3;subst e1 e3;have R:=Hx (qt.rd);clear qt;go_wp2_with fail;rw[qe]at qy;refine(mH A' i c' ds qe _ R.o qy HL.o qO).mono ?_;rintro e w1 ⟨A1,n1,c1,rfl,hR,qx,fr⟩;have hv:av.val G6 ds=av.val G6 xs:=(by have:=HV.o;rw[ER,Ef,yU qO]at this;exact this.symm);rw[hv]at hR;have F:=Hx (ah hR (ah (EX.o.tr qx) (fun ad h=>yY EX.o.size (fr ad h))));clear hR qx hv fr;go_wp2;go_ret;exact⟨_,_,_,rfl,F.o.1,F.o.2.1,F.o.2.2⟩
def uI A(n c:Nat)(xs:LN)(hn:xs.length=n)w(hr:Rd w A (ints xs))(hc:n<=c)(hlt:∀d∈xs,d<=4000000000000000000)(hl:n<=100000000):
  Calls prog 154 #[.s A n c] w (iZ w (av.val G6 xs)):=by
 subst hn;exact jzkc A c xs w hr hc hlt hl
def jzkd(m:Nat)(ds:LN):av.val G6 (ds.map (· *m))=av.val G6 ds*m:=by
 (induction ds with|nil=>simp[av.val]|cons d ds ih=>rw[Ka,av.mh,av.mh,ih,xP,Cb])
def jzb2 A(n c N m:Nat)w(h:aJ w A n c N)(hn:n<=10000000)(hm:m<=4294967296):
  Calls prog 222 #[.s A n c,vI m] w (iZ w (N*m)):=by
 obtain⟨ds,qt,hc,qi,rfl,hr⟩:=h;have HR:=Hx (hr.rd);have HD:=Hx (qi.lt);have qj:=Hx (qt);clear hr qi qt;go_enter func222,ntmps222;go_wp2;go_loopg [5,6] n (fun k ot it wr=>∃(i:Nat) (l:LN) (A:OA) (c:Nat),n-i=k/\i<=n/\it=vI i/\ot=.s A i c/\l.length=i/\l=(ds.take i).map (· *m)/\OI wr w.heap.size (.s A i c) l/\Ext w wr);exact⟨0,[],none,0,rfl,yZ _,rfl,rfl,rfl,qS,OI.nil _ _,eR _⟩;obtain⟨i,l,A',c',rfl,hi,rfl,rfl,qf,hl,qh,hx⟩:=hrel;have OW:=Hx (qh);have HL:=Hx (hl);have EX:=Hx (hx);clear qh hl hx;by_cases h0:i<n;{obtain⟨b,o,rfl,hb,qe⟩:=HR.o.ints (k:=i) (by rw[qj.o];exact h0);obtain⟨x,qk⟩:∃x,x=ds[i]?.getD 0:=⟨_,rfl⟩;have qg:ds[i]?=some x:=(by rw[qk,yG (by rw[qj.o];exact h0)];rfl);have qA:x<1000000:=HD.o x (yJ qg);have qy:=EX.o.cell (p:=(aD b (o+i))) hb;rw[qe i (by rw[qj.o];exact h0), <-qk]at qy;have hS:(x:Int)*(m:Int)<=4294967296000000:=(by have h1:x*m<=1000000*4294967296:=DK qO hm;have h2:((x*m:Nat):Int)=(x:Int)*(m:Int):=qS;omega);have qz:0<=(x:Int)*(m:Int):=(by have h2:((x*m:Nat):Int)=(x:Int)*(m:Int):=qS;omega);have L2:=Hx (show l++[x*m]=(ds.take (i+1)).map (· *m) by rw[Dj,qg,HL.o];simp);clear qk qe qg;(go_wp2_with (at_builtin;go_must (refine pT wr rfl (.tmp 13) (.tmp 20) rfl w.heap.size (.s A' i c') l rfl OW.o _ (x*m) ?c0 rfl ?c1 ?c2 ?_)));(case c0=>rw[Ii]);(case c1=>omega);(case c2=>exact EX.o.size);intro v2 w2 qa qp A2 c2 e2;subst e2;have qx:=Hx qa;have qw:=Hx (EX.o.tr' qp);clear qa qp;go_wp2;go_roundg (n-(i+1));exact⟨i+1,l++[x*m],A2,c2,rfl,qO,by go_num,rfl,by rw[yQ,qf];rfl,L2.o,qx.o,qw.o⟩;omega};obtain rfl:i=n:=qO;obtain⟨A2,c2,e,qo,qm⟩:=OW.o.Bz;injection e with e1 e2 e3;subst e1 e3;rw[qf]at qo;have R:=Hx (qm.rd);clear qm e2;have hb:Hid (∀d∈l,d<=4000000000000000000):=Hx (fun d hd=>by rw[HL.o]at hd;obtain⟨x,hx,rfl⟩:=Bv.1 hd;have h1:=HD.o x (xM hx);rw[fD]at h1;exact yY (DK (Bg h1) hm) qD);have hv:=Hx (show av.val G6 l=av.val G6 ds*m by rw[HL.o,yU (by rw[qj.o];omega),jzkd]);go_wp2_with fail;refine(uI A' i c' l qf _ R.o qo hb.o qO).mono ?_;rintro e w1 ⟨A1,n1,c1,rfl,hR,qn,fr⟩;rw[hv.o]at hR;have F:=Hx (ah hR (ah (EX.o.tr qn) (fun ad h=>yY EX.o.size (fr ad h))));clear hR qn fr;go_wp2;go_ret;exact⟨_,_,_,rfl,F.o.1,F.o.2.1,F.o.2.2⟩
def pV A1 A2(n1 c1 n2 c2 a b:Nat)w(h1:aJ w A1 n1 c1 a)(h2:aJ w A2 n2 c2 b)(hn:n1<=1099511627776):
  Calls prog 96 #[.s A1 n1 c1,.s A2 n2 c2] w fun e w'=>e=.returned (vI (aI a b))/\Ext w w':=by
 obtain⟨xs,rfl,qC,qi,rfl,qo⟩:=h1;obtain⟨ys,rfl,qz,qj,rfl,qn⟩:=h2;by_cases hl:xs.length=ys.length
 ·(have qH:decide (xs.length<ys.length)=false:=by simp;omega);have qx:decide (ys.length<xs.length)=false:=(by simp;omega);have HL:=Hx (hl);clear hl;go_enter func96,ntmps96;go_wp2;(go_loopw [5] (fun t wr=>∃(k m:Nat),k<=xs.length/\t=vI (k-1)/\wr=w.drewN m/\∀j,k<=j->j<xs.length->xs[j]?.getD 0=ys[j]?.getD 0) (fun t _=>(intOf t+1).toNat));exact⟨xs.length,0,yX _,by go_num,rfl,fun j h1 h2=>qO⟩;obtain⟨k,m,hk,rfl,rfl,hz⟩:=hrel;have HZ:=Hx hz;clear hz;by_cases h0:k=0;{subst h0;have qa:aI (av.val G6 xs) (av.val G6 ys)=0:=(by have e:xs=ys:=(by have:=av.Cm HL.o HZ.o;simpa using this);unfold aI;rw[e];simp);have HF:=Hx qa;clear qa;go_wp2;go_ret;rw[HF.o];exact⟨rfl,by repeat (first|exact eR _|refine Ext.drewN ?_ _|refine Ext.alloc ?_ _)⟩};(have qp:=HL.o;obtain⟨b1,o1,rfl,qB,qf⟩:=qo.rd.ints (k:=k-1) qO;obtain⟨b2,o2,rfl,qy,qe⟩:=qn.rd.ints (k:=k-1) qO;have qw:=qf (k-1) qO;have qt:=qe (k-1) qO;clear qf qe qo qn;obtain⟨d1,qk⟩:∃d,d=xs[k-1]?.getD 0:=⟨_,rfl⟩;obtain⟨d2,qg⟩:∃d,d=ys[k-1]?.getD 0:=⟨_,rfl⟩;rw[<-qk]at qw;rw[<-qg]at qt;have qm:=Hx qk;have qh:=Hx qg;have i0:(0:Int)<=(k:Int)-1:=qO;have i1:(k:Int)-1<(xs.length:Int):=qO;have i2:(k:Int)-1<(ys.length:Int):=qO;have i3:((k:Int)-1).toNat=k-1:=qO;clear qk qg qp;rcases Nat.lt_trichotomy d1 d2 with hd|hd|hd);{(have hb:decide (d1<d2)=true:=by simpa using hd);have qa:aI (av.val G6 xs) (av.val G6 ys)= -1:=(by unfold aI;rw[qE (av.tu eW qi.lt HL.o (k:=k-1) qO (fun j h1 h2=>HZ.o j qO h2) (by rw[<-qm.o, <-qh.o];exact hd))]);have HF:=Hx qa;clear qa;go_wp2;go_quiet (fail);go_wp2;go_ret;rw[HF.o];exact⟨rfl,by repeat (first|exact eR _|refine Ext.drewN ?_ _|refine Ext.alloc ?_ _)⟩}
  ·subst hd;go_wp2;go_quiet (fail);go_wp2;go_quiet (fail);go_wp2;go_roundw
   case rel=>
    exact⟨k-1,_,qO,by go_num,rfl,fun j h1 h2=>by
    by_cases e:j=k-1;{subst e;rw[<-qm.o, <-qh.o]}
    exact HZ.o j qO h2⟩
   simp[intOf];omega
  have hb:decide (d1<d2)=false:=(by simp;omega);have qA:decide (d2<d1)=true:=(by simpa using hd);have qa:aI (av.val G6 xs) (av.val G6 ys)=1:=(by have:=av.tu eW qj.lt HL.o.symm (k:=k-1) (by have:=HL.o;omega) (fun j h1 h2=>(HZ.o j qO (by have:=HL.o;omega)).symm) (by rw[<-qm.o, <-qh.o];exact hd);unfold aI;rw[qF qO,qF qO]);have HF:=Hx qa;clear qa;go_wp2;go_quiet (fail);go_wp2;go_quiet (fail);go_wp2;go_ret;rw[HF.o];exact⟨rfl,by repeat (first|exact eR _|refine Ext.drewN ?_ _|refine Ext.alloc ?_ _)⟩
 (rcases Bc xs.length ys.length with hlt|hge);{(have hb:decide (xs.length<ys.length)=true:=by simp;omega);have qa:aI (av.val G6 xs) (av.val G6 ys)= -1:=(by unfold aI;rw[qE (av.Canon.Bp nI qi qj hlt)]);rw[qa];clear qa;go_enter func96,ntmps96;go_wp2;go_ret;exact⟨rfl,eR _⟩};have hb:decide (xs.length<ys.length)=false:=(by simp;omega);have qy:decide (ys.length<xs.length)=true:=(by simp;omega);have qa:aI (av.val G6 xs) (av.val G6 ys)=1:=(by have:=av.Canon.Bp nI qj qi qO;unfold aI;rw[qF qO,qF qO]);rw[qa];clear qa;go_enter func96,ntmps96;go_wp2;go_ret;exact⟨rfl,eR _⟩
def jzb3(ds:LN)(k:Nat)(h:k<ds.length):av.val G6 (ds.drop k)=ds[k]?.getD 0+G6*av.val G6 (ds.drop (k+1)):=by
 rw[av.qc _ _ _ h];simp[List.getD]
def jzke(ds:LN)(k:Nat):av.val G6 (ds.drop k)<=av.val G6 ds:=by
 rcases Bc ds.length k with h|h
 ·rw[D5 qO];exact yZ _
 rw[av.om G6 ds k h];have:av.val G6 (ds.drop k)*1<=av.val G6 (ds.drop k)*G6^k:=Dx _ (Du eW);rw[vE (G6^k)];omega
def Kj:Nat:=18446744073709551616
def uJ:Kj=18446744073709551616:=rfl
def jzb4 A(n c N:Nat)w(h:aJ w A n c N)(hn:n<=1000000000):
  Calls prog 220 #[.s A n c] w fun e w'=>∃(x:Nat) (ok:Bool),e=.returned (.tuple #[.int .u64 x,.bool ok])/\((N<Kj/\x=N/\ok=true)\/(Kj<=N/\ok=false))/\Ext w w':=by
 obtain⟨ds,qi,hc,qf,rfl,hr⟩:=h;have HR:=Hx (hr.rd);have HD:=Hx (qf.lt);have qj:=Hx (qi);clear hr qf qi;go_enter func220,ntmps220;go_wp2;go_loopg [4,5,6] n (fun m at_ it _ wr=>∃k V:Nat,k=m/\k<=n/\it=vI (k-1)/\at_=.int .u64 V/\Hid (V=av.val G6 (ds.drop k))/\Hid (V<Kj)/\wr=w);exact⟨n,0,rfl,yX _,by go_num,rfl,Hx (by rw[D5 (by rw[qj.o];omega)];rfl),Hx qD,rfl⟩;obtain⟨k,V,rfl,hk,rfl,rfl,hV,qn,rfl⟩:=hrel;by_cases h0:k=0;{subst h0;have hv:V=av.val G6 ds:=hV.o;go_wp2;refine bodyPost_ret (v:=.tuple #[.int .u64 V,.bool true]) (by simp[results,results220,go_sem]) rfl ?_;exact⟨V,true,rfl,.inl ⟨by rw[<-hv];exact qn.o,hv,rfl⟩,eR _⟩};have qe:k-1<ds.length:=(by rw[qj.o];omega);obtain⟨b,o,rfl,hb,qa⟩:=HR.o.ints (k:=k-1) qe;obtain⟨x,qh⟩:∃x,x=ds[k-1]?.getD 0:=⟨_,rfl⟩;have qg:ds[k-1]?=some x:=(by rw[qh,yG qe];rfl);have qo:x<1000000:=HD.o x (yJ qg);have qm:=qa (k-1) qe;rw[<-qh]at qm;have NX:=Hx (show av.val G6 (ds.drop (k-1))=x+1000000*V by rw[jzb3 ds (k-1) qe, <-qh,show k-1+1=k by omega,hV.o];rfl);have LE:=Hx (jzke ds (k-1));have i0:(0:Int)<=(k:Int)-1:=qO;have i3:((k:Int)-1).toNat=k-1:=qO;clear qh qa qg qe;go_wp2;{rename_i hf;have qk:(18446744073709551615-(x:Int))/1000000<(V:Int):=(by simpa using hf);refine bodyPost_ret (v:=.tuple #[.int .u64 0,bF]) (by simp[results,results220,go_sem]) rfl ?_;exact⟨0,false,rfl,.inr ⟨by have h1:=NX.o;have h2:=LE.o;rw[uJ];omega,rfl⟩,eR _⟩};rename_i hf;(have qk:¬(18446744073709551615-(x:Int))/1000000<(V:Int):=(by simpa using hf);have hs:(V:Int)*1000000+(x:Int)<18446744073709551616:=by omega);go_roundg (k-1);exact⟨k-1,V*1000000+x,rfl,qO,by go_num,by go_num,Hx (by rw[NX.o];omega),Hx (by rw[uJ];omega),rfl⟩;omega
def aJ.vv{w}{A}{n c N:Nat}(h:aJ w A n c N):N<G6^n:=by
 obtain⟨ds,rfl,_,qa,rfl,_⟩:=h;exact av.ow eW qa.lt
def jzkf A1 A2(n1 c1 n2 c2 a b:Nat)w(h1:aJ w A1 n1 c1 a)(h2:aJ w A2 n2 c2 b)(hn2:n2<=10000000):
  Calls prog 221 #[.s A1 n1 c1,.s A2 n2 c2] w fun e w'=>∃q:Nat,e=.returned (vI q)/\q<=999999/\b*q<=a/\(q=999999\/a<b*(q+1))/\Ext w w':=by
 have H1:=Hx (h1);have H2:=Hx (h2);clear h1 h2;go_enter func221,ntmps221;go_wp2;go_loopg [5,6,7] 999999 (fun m lt mt _ wr=>∃l h:Nat,h-l=m/\l<=h/\h<=999999/\lt=vI l/\mt=vI h/\Hid (b*l<=a)/\Hid (h=999999\/a<b*(h+1))/\Ext w wr);exact⟨0,999999,rfl,qO,yX _,rfl,rfl,Hx (by rw[ER];exact yZ _),Hx (.inl rfl),eR _⟩;obtain⟨l,h,rfl,qk,hh,rfl,rfl,hl,qh,hx⟩:=hrel;have EX:=Hx (hx);clear hx;by_cases h0:l<h;{obtain⟨m,hm⟩:∃m,m=(l+h+1)/2:=⟨_,rfl⟩;have qm:l<m/\m<=h:=qO;have qj:((l:Int)+(h:Int)+1)/2=(m:Int):=qO;clear hm;go_wp2_with fail;refine(jzb2 A2 n2 c2 b m _ (H2.o.K EX.o) hn2 qO).mono ?_;rintro e w1 ⟨A3,n3,c3,rfl,h3,qi,_⟩;have qg:=Hx (EX.o.tr qi);have qn:n3<=n2+1:=h3.lenOf (by have:=(H2.o).vv;rw[vD];exact yL (J7 this (show m<=G6 by rw[fD];omega) eW) (yX _));have H3:=Hx h3;clear h3 qi;go_wp2_with fail;refine(pV A3 A1 n3 c3 n1 c1 (b*m) a _ H3.o (H1.o.K qg.o) qO).r fun w2 qe=>?_;have qf:=Hx (qg.o.tr qe);clear qe;by_cases hc:b*m<=a;{(have qa:aI (b*m) a<=0:=by unfold aI;split <;> (try split) <;> omega);have hb:decide (aI (b*m) a<=0)=true:=(by simpa using qa);have HC:=Hx (hc);clear hc qa;go_wp2;go_roundg (h-m);exact⟨m,h,rfl,qO,hh,rfl,rfl,HC,qh,qf.o⟩;omega};have qa:¬aI (b*m) a<=0:=(by unfold aI;rw[qF qO,qF qO];decide);have hb:decide (aI (b*m) a<=0)=false:=(by simpa using qa);have HC:=Hx (hc);clear hc qa;go_wp2;go_roundg (m-1-l);exact⟨l,m-1,rfl,qO,qO,rfl,by go_num,hl,Hx (.inr (by rw[show m-1+1=m by omega];have:=HC.o;omega)),qf.o⟩;omega};obtain rfl:l=h:=qO;go_wp2;go_ret;exact⟨l,rfl,hh,hl.o,qh.o,EX.o⟩
def bD(w:World)(g n:Nat)(f:Nat->Int):Prop:=∃cur:Array Value,w.heap[g]?=some (.cells cur 3 (0,0))/\∀j,j<n->cur[j]?=some (vI (f j))
section
variable {w w':World} {g n:Nat} {f f':Nat->Int}
def bD.lt(h:bD w g n f):g<w.heap.size:=by
 obtain⟨qa,h1,_⟩:=h;exact gB h1
def bD.cell(h:bD w g n f){j:Nat}(hj:j<n):w.cell? (aD g j)=some (vI (f j)):=by
 obtain⟨qa,h1,h2⟩:=h;rw[cell_of_row w g j qa _ (0,0) h1,h2 j hj]
def bD.frozen(h:bD w g n f)(j:Nat):w.frozen? (aD g j)=false:=by
 obtain⟨qa,h1,h2⟩:=h;simp[World.frozen?,h1]
def bD.K(h:bD w g n f)(hx:Ext w w'):bD w' g n f:=by
 have hl:=h.lt;obtain⟨qa,h1,h2⟩:=h;exact⟨qa,(hx.block g hl).trans h1,h2⟩
def bD.drewN(h:bD w g n f)(k:Nat):bD (w.drewN k) g n f:=h
def bD.congr(h:bD w g n f)(hf:∀j,j<n->f j=f' j):bD w g n f':=by
 obtain⟨qa,h1,h2⟩:=h;exact⟨qa,h1,fun j hj=>by rw[h2 j hj,hf j hj]⟩
def bD.sT(h:bD w g n f)(i:Nat)(v:Int):bD (w.setCell (aD g i) (vI v)) g n (fun j=>if j=i then v else f j):=by
 obtain⟨qa,h1,h2⟩:=h;refine⟨qa.setIfInBounds i (vI v),?_,fun j hj=>?_⟩;{simp[World.setCell,Array.getElem?_modify,h1]};have h3:=h2 j hj;have qe:=(KM.1 h3).1;by_cases e:j=i;{subst e;simp[qe]};rw[xH (fun h=>e h.symm),h3];simp only[qF e]
def bD.rd(h:bD w g n f){l:LN}(hl:l.length=n)(hf:∀j,j<n->f j=((l[j]?.getD 0:Nat):Int)):Rd w (sA g) (ints l):=fun _=>by
 refine⟨g,0,rfl,h.lt,fun i hi=>?_⟩;rw[bX,hl]at hi;rw[CU,h.cell hi,hf i hi];simp[ints,show i<l.length by omega]
end
def bD.BM{w}{g n:Nat}{cs:Array Value}{f:Nat->Int}(h:ak w g 3 cs)(hf:∀j,j<n->cs[j]?=some (vI (f j))):bD w g n f:=⟨cs,h,hf⟩
def OI.irow{w}{B:Nat}{v:Value}{l:LN}(h:OI w B v l)(hl:0<l.length):∃g c,v=.s (sA g) l.length c/\l.length<=c/\B<=g/\bD w g l.length (fun j=>((l[j]?.getD 0:Nat):Int)):=by
 (have hb:=fun k hk=>h.lt k hk;rcases h.2 with⟨h1,h2⟩|⟨g,cap,cur,h2,h3,h4,h5,h6,h7,h8⟩);{omega};refine⟨g,cap,h2,h5,h3,cur,h4,fun j hj=>?_⟩;have qa:(ints l).length=l.length:=bX l;rw[Nat.mul_one]at h8;have h9:(ints l)[j]?=cur[j]?:=(by rw[<-h8,xG,qE hj];simp);rw[<-h9];simp[ints,hj]
structure lN(xs ys:LN)(i:Nat)(r:LN)(β:Nat):Prop where
 len:r.length=i
 lt:∀d∈r,d<G6
 b1:β<=1
 val:av.val G6 (xs.take i)+G6^i*β=av.val G6 r+av.val G6 (ys.take i)
def lN.step{xs ys r:LN}{i β d β':Nat}(h:lN xs ys i r β)(hd:d<G6)(hb:β'<=1)(he:xs[i]?.getD 0+G6*β'=β+d+ys[i]?.getD 0):lN xs ys (i+1) (r++[d]) β':=by
 refine⟨by rw[yQ,h.len];rfl,fun x hx=>?_,hb,?_⟩;{(rcases xY.1 hx with h1|h1);{exact h.lt x h1};simp at h1;subst h1;exact hd};rw[pU,pU,av.BJ,h.len,vD];have h1:=h.val;have h2:G6^i*(xs[i]?.getD 0+G6*β')=G6^i*(β+d+ys[i]?.getD 0):=(by rw[he]);rw[Ag,Ag,Ag, <-Cb]at h2;omega
def lN.done{xs ys r:LN}{n β:Nat}(h:lN xs ys n r β)(hx:xs.length<=n)(hy:ys.length<=n)(hle:av.val G6 ys<=av.val G6 xs):β=0/\av.val G6 r=av.val G6 xs-av.val G6 ys:=by
 have h1:=h.val;rw[yU hx,yU hy]at h1;have h2:=av.ow eW h.lt;rw[h.len]at h2;have h3:=h.b1;rcases Ee β with h0|h0
 ·subst h0;exact⟨rfl,by rw[ER]at h1;omega⟩
 obtain rfl:β=1:=qO;rw[Nat.mul_one]at h1;omega
def cX(xs r:LN)(i β:Nat)(j:Nat):Int:=if j<i then((r[j]?.getD 0:Nat):Int)else if j=i then((xs[j]?.getD 0:Nat):Int)-β else((xs[j]?.getD 0:Nat):Int)
def uL{xs r:LN}{i β d n:Nat}(hr:r.length=i):∀j,j<n->(if j=i then((d:Nat):Int)else cX xs r i β j)=cX xs (r++[d]) (i+1) 0 j:=by
 intro j _;unfold cX;by_cases h1:j=i;{subst h1;rw[qE rfl,qE qO,yS qO,hr];simp};by_cases h2:j<i;{rw[qF h1,qE h2,qE qO,yR qO]};rw[qF h1,qF h2,qF h1,qF qO];split <;> simp
def jzkg{xs r:LN}{i β d n:Nat}(hr:r.length=i):∀j,j<n->(if j=i+1 then((xs[i+1]?.getD 0:Nat):Int)-1 else if j=i then((d:Nat):Int)else cX xs r i β j)=cX xs (r++[d]) (i+1) 1 j:=by
 intro j hj;by_cases h1:j=i+1;{subst h1;unfold cX;rw[qE rfl,qF qO,qE rfl];rfl};rw[qF h1,uL hr j hj];unfold cX;by_cases h2:j<i+1;{rw[qE h2,qE h2]};rw[qF h2,qF h2,qF h1,qF h1]
def jzb5{W}{g n i β d:Nat}{xs r:LN}{f:Nat->Int}{z:Nat}(h:bD W g n f)(hf:∀j,j≠i->f j=cX xs r i β j)(hr:r.length=i)(hi:i+1<n)(hz:z=xs[i+1]?.getD 0)(v2:Int)(hv:v2=((d:Nat):Int)):
  (W.setCell (aD g i) (vI v2)).cell? (aD g (i+1))=some (vI (z:Int))/\(W.setCell (aD g i) (vI v2)).frozen? (aD g (i+1))=false/\
  bD ((W.setCell (aD g i) (vI v2)).setCell (aD g (i+1)) (vI ((z:Int)-1))) g n (cX xs (r++[d]) (i+1) 1):=by
 have h2:=h.sT i v2;refine⟨?_,h2.frozen _,?_⟩;{rw[h2.cell hi];simp only[qF (show¬i+1=i by omega)];rw[hf (i+1) qO,hz];unfold cX;rw[qF qO,qF qO]};refine(h2.sT (i+1) ((z:Int)-1)).congr (fun j hj=>?_);rw[<-jzkg (β:=β) hr j hj];by_cases h1:j=i+1;{rw[qE h1,qE h1,hz]};rw[qF h1,qF h1];by_cases h3:j=i;{rw[qE h3,qE h3,hv]};rw[qF h3,qF h3,hf j h3]
def uM A1 A2(n1 c1 n2 c2 a b:Nat)w(h1:aJ w A1 n1 c1 a)(h2:aJ w A2 n2 c2 b)(hn:n1<=100000000)(hle:b<=a):
  Calls prog 97 #[.s A1 n1 c1,.s A2 n2 c2] w fun e w'=>∃(A:OA) (n c:Nat),e=.returned (.tuple #[.s A n c,vI 0])/\aJ w' A n c (a-b)/\Ext w w':=by
 obtain⟨ti,hi,qX,qY,qV⟩:=info_parts Tryz.info3;have H1:=Hx (h1);have H2:=Hx (h2);obtain⟨xs,qM,q5,qp,qI,qw⟩:=h1;obtain⟨ys,qk,q4,qx,qH,qC⟩:=h2;have qt:ys.length<=xs.length:=(by (rcases Bc xs.length ys.length with h|h);{have:=av.Canon.Bp nI qp qx h;omega};exact h);have HA:Hid (A1=none->n1=0):=Hx (fun h=>by (rcases Ee n1 with h0|h0);{exact h0};obtain⟨b,o,e,_⟩:=qw.rd.ints (k:=0) qO;rw[h]at e;cases e);have HX:=Hx (ah qM (ah qp.lt (ah qI qw.rd)));have HY:=Hx (ah qk (ah qx.lt (ah qH qC.rd)));have qz:n2<=n1:=qO;clear qM qp qI qw qk qx qH qC qt;go_enter func97,ntmps97;go_wp2_with fail;refine(pV A1 A2 n1 c1 n2 c2 a b _ H1.o H2.o qO).r fun w1 x1=>?_;have qB:¬aI a b<0:=(by unfold aI;rw[qF qO];split <;> decide);have hb:decide (aI a b<0)=false:=(by simpa using qB);have X1:=Hx (x1);clear qB x1;(go_wp2_with (at_builtin;go_must (refine pS _ rfl (.tmp 12) (.tmp 13) 42 43 rfl w1.heap.size 3 ti (vI 0) 8 3 underlying43 underlying42 hi qX qY qV rfl (.s (sA w1.heap.size) 0 0) 0 [] rfl ?c0 A1 n1 c1 (ints xs) rfl ?c1 ?c2 ?c3 (gW _) ?c4 ?c5 ?c6 ?_)));(case c0=>exact lK w1 w1.heap.size 3 (yX _));(case c1=>rw[bX];exact HX.o.1.symm);(case c2=>exact(HX.o.2.2.2.K X1.o).K ((eR _).alloc _));(case c3=>exact fun h=>.inr (HA.o h));(case c4=>unfold maxLen;omega);(case c5=>omega);(case c6=>simp);intro v3 w3 qf qa _;have e3:Ext w1 w3:=Below.grown ((eR w1).alloc (.cells #[] 3)) qa qS (fun k hk=>by simp[Value.ownBlock]at hk;omega);have OW:=Hx (show OI w3 w1.heap.size v3 xs by unfold OI;rw[HX.o.1];simpa using qf);have E3:=Hx (X1.o.tr e3);clear qf qa e3;by_cases h0:n1=0;{subst h0;obtain rfl:xs=[]:=Kc HX.o.1;obtain rfl:ys=[]:=Kc (by have:=HY.o.1;omega);obtain⟨A3,c3,rfl,qo,qT⟩:=OW.o.Bz;have qQ:av.val G6 []=a-b:=(by rw[<-HX.o.2.2.1, <-HY.o.2.2.1];rfl);have qU:=Hx (qQ);have R3:=Hx (qT.rd);clear qQ qT;rw[show([]:LN).length=0 from rfl]at*;go_wp2;go_loopg [7] 0 (fun k it wr=>it=vI 0/\wr=w3);exact⟨rfl,rfl⟩;obtain⟨rfl,rfl⟩:=hrel;go_wp2_with fail;refine(mH A3 0 c3 [] rfl _ R3.o qo (fun _ h=>by cases h) qO).mono ?_;rintro e w5 ⟨A5,n5,c5,rfl,h5,x5,_⟩;rw[qU.o]at h5;have F:=Hx (ah h5 (E3.o.tr x5));clear h5 x5;go_wp2;exact bodyPost_ret (v:=.tuple #[.s A5 n5 c5,vI 0]) (by simp[results,results97,go_sem]) rfl ⟨_,_,_,rfl,F.o.1,F.o.2⟩};obtain⟨g,c3,rfl,qo,hg,qh⟩:=OW.o.irow (by rw[HX.o.1];omega);rw[HX.o.1]at qo qh;have qi:w.heap.size<=g:=yY X1.o.size hg;rw[HX.o.1];have S0:Hid (lN xs ys 0 [] 0):=Hx (⟨rfl,(fun _ h=>by cases h),qO,by simp[av.val]⟩);have R0:Hid (bD w3 g n1 (cX xs [] 0 0)):=Hx (qh.congr (fun j _=>by unfold cX;rw[qF qO];split <;> simp));clear qh hg;go_wp2;go_loopg [7] n1 (fun k it wr=>∃(i:Nat) (r:LN) (β:Nat),n1-i=k/\i<=n1/\it=vI i/\Hid (lN xs ys i r β)/\Hid (bD wr g n1 (cX xs r i β))/\Hid (Ext w wr));exact⟨0,[],0,rfl,yZ _,rfl,S0,R0,E3⟩;obtain⟨i,r,β,rfl,q3,rfl,ST,RW,EW⟩:=hrel;by_cases qy:i<n1;{obtain⟨x,hx⟩:∃x,x=xs[i]?.getD 0:=⟨_,rfl⟩;obtain⟨y,hy⟩:∃y,y=ys[i]?.getD 0:=⟨_,rfl⟩;have q2:x<1000000:=(by rw[hx,yG (by rw[HX.o.1];exact qy)];exact HX.o.2.1 _ (xR _));have q0:y<1000000:=(by (rw[hy];rcases Bc i ys.length with h|h);{rw[yG h];exact HY.o.2.1 _ (xR _)};rw[yI h];decide);have hβ:=ST.o.b1;have k0:=RW.o.cell (j:=i) qy;have f0:=RW.o.frozen i;rw[show cX xs r i β i=(x:Int)-(β:Int)from by unfold cX;rw[qF qO,qE rfl,hx]]at k0;have SX:=Hx hx;have SY:=Hx hy;clear hx hy;by_cases qk:i<n2;{obtain⟨bb,oo,rfl,qJ,qg⟩:=HY.o.2.2.2.ints (k:=i) (by rw[HY.o.1];exact qk);have k1:=EW.o.cell (p:=(aD bb (oo+i))) qJ;rw[qg i (by rw[HY.o.1];exact qk), <-SY.o]at k1;clear qg qJ;have qn:=Hx (RW.o.sT i ((x:Int)-(β:Int)-(y:Int)));have k2:=qn.o.cell (j:=i) qy;have f2:=qn.o.frozen i;simp only[if_true]at k2;by_cases hd:y+β<=x;{(have qA:decide ((x:Int)-(β:Int)-(y:Int)<0)=false:=by simp;omega);have SD:=Hx (ST.o.step (d:=x-β-y) (β':=0) (by rw[fD];omega) qO (by rw[<-SX.o, <-SY.o];omega));have RD:Hid (bD ((wr.setCell (aD g i) (vI ((x:Int)-(β:Int)-(y:Int)))).drewN 1) g n1 (cX xs (r++[x-β-y]) (i+1) 0)):=Hx (by refine(qn.o.congr (fun j hj=>?_)).drewN 1;rw[<-uL (β:=β) ST.o.len j hj,show((x-β-y:Nat):Int)=(x:Int)-(β:Int)-(y:Int) by omega]);go_wp2;go_region;(all_goals go_wp2);go_roundg (n1-(i+1));exact⟨i+1,r++[x-β-y],0,rfl,qO,by go_num,SD,RD,Hx ((EW.o.sT (p:=(aD g i)) qi _).drewN 1)⟩;omega};have qA:decide ((x:Int)-(β:Int)-(y:Int)<0)=true:=(by simp;omega);have SD:=Hx (ST.o.step (d:=x+1000000-β-y) (β':=1) (by rw[fD];omega) qO (by rw[<-SX.o, <-SY.o,fD];omega));have qj:i+1<n1:=(by (rcases Bc (i+1) n1 with h|h);{exact h};have hh:i+1=n1:=qO;have hs:=SD.o;rw[hh]at hs;have:=(hs.done (by rw[HX.o.1];omega) (by rw[HY.o.1];exact qz) (by rw[HX.o.2.2.1,HY.o.2.2.1];exact hle)).1;omega);obtain⟨z,hz⟩:∃z,z=xs[i+1]?.getD 0:=⟨_,rfl⟩;have qW:z<1000000:=(by rw[hz,yG (by rw[HX.o.1];exact qj)];exact HX.o.2.1 _ (xR _));have RX:=Hx (ah (show bD (wr.setCell (aD g i) (vI ((x:Int)-(β:Int)-(y:Int)))).drew g n1 _ from qn.o.drewN 1) (show∀j,j≠i->(if j=i then(x:Int)-(β:Int)-(y:Int)else cX xs r i β j)=cX xs r i β j from fun j hj=>qF hj));have EX:Hid (Ext w (wr.setCell (aD g i) (vI ((x:Int)-(β:Int)-(y:Int)))).drew):=Hx ((EW.o.sT (p:=(aD g i)) qi _).drewN 1);have qZ:(wr.setCell (aD g i) (vI ((x:Int)-(β:Int)-(y:Int)))).drew.cell? (aD g i)=some (vI ((x:Int)-(β:Int)-(y:Int))):=k2;have q1:(wr.setCell (aD g i) (vI ((x:Int)-(β:Int)-(y:Int)))).drew.frozen? (aD g i)=false:=f2;clear k2 f2;go_wp2;go_region;generalize (wr.setCell (aD g i) (vI ((x:Int)-(β:Int)-(y:Int)))).drew=W1 at*;obtain⟨k3,f3,qe⟩:=jzb5 RX.o.1 RX.o.2 ST.o.len qj hz (((x:Int)-(β:Int)-(y:Int))+1000000) (d:=x+1000000-β-y) qO;have RF:=Hx qe;have EF:=Hx ((EX.o.sT (p:=(aD g i)) qi (vI (((x:Int)-(β:Int)-(y:Int))+1000000))).sT (p:=(aD g (i+1))) qi (vI ((z:Int)-1)));clear hz qe;go_wp2;go_roundg (n1-(i+1));exact⟨i+1,r++[x+1000000-β-y],1,rfl,qO,by go_num,SD,RF,EF⟩;omega};obtain rfl:y=0:=(by rw[SY.o,yI (by rw[HY.o.1];omega)];rfl);by_cases hd:β<=x;{(have qA:decide ((x:Int)-(β:Int)<0)=false:=by simp;omega);have SD:=Hx (ST.o.step (d:=x-β) (β':=0) (by rw[fD];omega) qO (by rw[<-SX.o, <-SY.o];omega));have RD:Hid (bD wr g n1 (cX xs (r++[x-β]) (i+1) 0)):=Hx (by refine RW.o.congr (fun j hj=>?_);rw[<-uL (β:=β) ST.o.len j hj];by_cases e:j=i;{rw[qE e,e];unfold cX;rw[qF qO,qE rfl, <-SX.o];omega};rw[qF e]);go_wp2;go_roundg (n1-(i+1));exact⟨i+1,r++[x-β],0,rfl,qO,by go_num,SD,RD,EW⟩;omega};have qA:decide ((x:Int)-(β:Int)<0)=true:=(by simp;omega);have SD:=Hx (ST.o.step (d:=x+1000000-β) (β':=1) (by rw[fD];omega) qO (by rw[<-SX.o, <-SY.o,fD];omega));have qj:i+1<n1:=(by (rcases Bc (i+1) n1 with h|h);{exact h};have hh:i+1=n1:=qO;have hs:=SD.o;rw[hh]at hs;have:=(hs.done (by rw[HX.o.1];omega) (by rw[HY.o.1];exact qz) (by rw[HX.o.2.2.1,HY.o.2.2.1];exact hle)).1;omega);obtain⟨z,hz⟩:∃z,z=xs[i+1]?.getD 0:=⟨_,rfl⟩;have qW:z<1000000:=(by rw[hz,yG (by rw[HX.o.1];exact qj)];exact HX.o.2.1 _ (xR _));have RX:=Hx (ah RW.o (show∀j,j≠i->cX xs r i β j=cX xs r i β j from fun j hj=>rfl));have EX:=EW;obtain⟨k3,f3,qe⟩:=jzb5 RX.o.1 RX.o.2 ST.o.len qj hz (((x:Int)-(β:Int))+1000000) (d:=x+1000000-β) qO;have RF:=Hx qe;have EF:=Hx ((EX.o.sT (p:=(aD g i)) qi (vI (((x:Int)-(β:Int))+1000000))).sT (p:=(aD g (i+1))) qi (vI ((z:Int)-1)));clear hz qe;go_wp2;go_roundg (n1-(i+1));exact⟨i+1,r++[x+1000000-β],1,rfl,qO,by go_num,SD,RF,EF⟩;omega};obtain rfl:i=n1:=qO;obtain⟨hβ0,qm⟩:=ST.o.done (by rw[HX.o.1];omega) (by rw[HY.o.1];exact qz) (by rw[HX.o.2.2.1,HY.o.2.2.1];exact hle);have VV:=Hx (show av.val G6 r=a-b by rw[qm,HX.o.2.2.1,HY.o.2.2.1]);have RR:=Hx (RW.o.rd (l:=r) ST.o.len (fun j hj=>by unfold cX;rw[qE hj]));clear qm hβ0;go_wp2_with fail;refine(mH (sA g) i c3 r ST.o.len _ RR.o qo ST.o.lt qO).mono ?_;rintro e w5 ⟨A5,n5,c5,rfl,h5,x5,_⟩;rw[VV.o]at h5;have F:=Hx (ah h5 (EW.o.tr x5));clear h5 x5;go_wp2;exact bodyPost_ret (v:=.tuple #[.s A5 n5 c5,vI 0]) (by simp[results,results97,go_sem]) rfl ⟨_,_,_,rfl,F.o.1,F.o.2⟩
def jzkh(w:World)(q r:Nat)(e:Ending)(w':World):Prop:=
 ∃(A:OA) (n c:Nat) (A':OA) (n' c':Nat),e=.returned (.tuple #[.s A n c,.s A' n' c',vI 0])/\aJ w' A n c q/\aJ w' A' n' c' r/\Ext w w'
def jzki(w:World)(q r:Nat)(e:Ending)(w':World):Prop:=
 ∃(A:OA) (n c:Nat) (A':OA) (n' c':Nat),e=.returned (.tuple #[.s A n c,.s A' n' c',vI 0])/\aJ w' A n c q/\aJ w' A' n' c' r/\Ext w w'/\∀ad,A=some ad->w.heap.size<=ad.block
def aJ.far{w}{A}{n c N:Nat}(h:aJ w A n c N){p:Addr}(hA:∀ad,A=some ad->ad.block≠p.block)(u:Value):aJ (w.setCell p u) A n c N:=by
 obtain⟨ds,h1,h2,h3,h4,h5⟩:=h;refine⟨ds,h1,h2,h3,h4,fun hx=>?_⟩;obtain⟨b,o,cs,fr,e,hb,hc⟩:=h5 hx;exact⟨b,o,cs,fr,e,(Below.heap_setCell w p u b (hA _ e)).trans hb,hc⟩
def lO(qd:LN)(k:Nat)(j:Nat):Int:=if k<=j then((qd[j-k]?.getD 0:Nat):Int)else 0
def jzkj{qd:LN}{k q n:Nat}(hk:0<k):∀j,j<n->(if j=k-1 then((q:Nat):Int)else lO qd k j)=lO (q::qd) (k-1) j:=by
 intro j _;unfold lO;by_cases h1:j=k-1;{subst h1;simp};rw[qF h1];by_cases h2:k<=j;{rw[qE h2,qE qO,show j-(k-1)=(j-k)+1 by omega];simp};rw[qF h2,qF qO]
structure nJ(ds:LN)(b n k R:Nat)(qd:LN):Prop where
 len:qd.length=n-k
 lt:∀d∈qd,d<G6
 val:av.val G6 (ds.drop k)=b*av.val G6 qd+R
 R:R<b
def nJ.step{ds qd:LN}{b n k R x q:Nat}(h:nJ ds b n k R qd)(hk:0<k)(hkn:k<=n)(hn:ds.length=n)(hx:x=ds[k-1]?.getD 0)(hxb:x<G6)(hq:q<=999999)(h1:b*q<=x+G6*R)(h2:q=999999\/x+G6*R<b*(q+1)):
  nJ ds b n (k-1) (x+G6*R-b*q) (q::qd):=by
 have hR:=h.R;have qa:x+G6*R<b*(q+1):=(by (rcases h2 with h3|h3);{subst h3;have:G6*R+G6<=b*G6:=(by rw[vE b G6, <-Nat.mul_succ];exact Dx _ hR);rw[show 999999+1=G6 from rfl];omega};exact h3);refine⟨by rw[Dw,h.len];omega,fun d hd=>?_,?_,?_⟩;{(rcases xZ.1 hd with e|e);{rw[e,fD];omega};exact h.lt d e};{rw[jzb3 ds (k-1) qO, <-hx,show k-1+1=k by omega,h.val,av.mh,Ag,Ag, <-Cb, <-Cb,vE G6 b];omega};rw[Ag]at qa;omega
def uN A1 A2(n1 c1 n2 c2 a b:Nat)w(h1:aJ w A1 n1 c1 a)(h2:aJ w A2 n2 c2 b)(hn1:n1<=10000000)(hn2:n2<=1000000)(hb0:0<b):
  Calls prog 199 #[.s A1 n1 c1,.s A2 n2 c2] w (jzki w (a/b) (a%b)):=by
 obtain⟨ti,hi,vd,vm,vi⟩:=info_parts Tryz.info3;have z2:((n2:Int)==0)=false:=(by have:=h2.iw;exact yK.2 qO);have H1:=Hx (h1);have H2:=Hx (h2);clear h1 h2;go_enter func199,ntmps199;go_wp2_with fail;refine(jzb4 A1 n1 c1 a _ H1.o qO).mono ?_;rintro e w1 ⟨x,qt,rfl,qo,x1⟩;have X1:=Hx (x1);clear x1;go_wp2_with fail;refine(jzb4 A2 n2 c2 b _ (H2.o.K X1.o) qO).mono ?_;rintro e w2 ⟨y,qB,rfl,qk,x2⟩;have X2:=Hx (X1.o.tr x2);clear x2;by_cases hs:a<Kj/\b<Kj
 ·obtain⟨rfl,rfl⟩:x=a/\qt=true:=(by (rcases qo with⟨_,h1,h2⟩|⟨h,_⟩);{exact⟨h1,h2⟩};omega);obtain⟨rfl,rfl⟩:y=b/\qB=true:=(by (rcases qk with⟨_,h1,h2⟩|⟨h,_⟩);{exact⟨h1,h2⟩};omega);clear qo qk;obtain⟨Q,hQ⟩:∃Q,Q=x/y:=⟨_,rfl⟩;obtain⟨R,qp⟩:∃R,R=x%y:=⟨_,rfl⟩;have qz:(x:Int).tdiv y=(Q:Int):=(by rw[Int.tdiv_eq_ediv_of_nonneg qO,hQ];simp);have vn:(x:Int).tmod y=(R:Int):=(by rw[Int.tmod_eq_emod_of_nonneg qO,qp];simp);have qy:Q<Kj:=Im (by rw[hQ];exact JL _ _) hs.1;have q4:R<Kj:=yL (by rw[qp];exact xT _ hb0) (Bg hs.2);have vw:¬y=0:=qO;have vt:IntKind.u64.wrap (Q:Int)=(Q:Int):=(by rw[IntKind.wrap_u64];exact Int.emod_eq_of_lt qO (by rw[uJ]at qy;omega));have HD:=Hx (ah qy q4);have HQ:=Hx (hQ);have HR:=Hx (qp);clear hQ qp qy q4 hs;go_wp2;have X2:Hid (Ext w w2.drew):=X2.o.drewN 1;have q6:True:=trivial
  go_region_held3 (fun _=>True) (trivial) (first
   |(go_at_call 155;have _t:=q6;refine(lM _ _ HD.o.1).mono ?_;rintro e w5 ⟨A5,n5,c5,rfl,vl,q9,qh⟩;clear q6;have q8:=Hx qh;clear qh;have X5:=Hx (X2.o.tr q9))
   |(go_at_call 155;refine(lM _ _ HD.o.2).mono ?_;rintro e w6 ⟨A6,n6,c6,rfl,vh,qZ,_⟩;have X6:=Hx (X5.o.tr qZ)))
  go_wp2;have e1:aJ w6 A5 n5 c5 (x/y):=(by have:=vl.K qZ;rw[<-HQ.o];exact this);have e2:aJ w6 A6 n6 c6 (x%y):=(by rw[<-HR.o];exact vh);exact bodyPost_ret (v:=.tuple #[.s A5 n5 c5,.s A6 n6 c6,vI 0]) (by simp[results,results199,go_sem]) rfl ⟨_,_,_,_,_,_,rfl,e1,e2,X6.o,fun ad h=>yY X2.o.size (q8.o ad h)⟩
 obtain⟨ds,qV,vx,qj,qz,qJ⟩:=H1.o;have DS:=Hx (ah qV (ah qj.lt (ah qz qJ.rd)));clear qV qj qz qJ;have vq:=run_make_row' (P:=prog) 42 3 (vI 0) 8 underlying42 Tryz.info3 rfl .i64 .i64 n1 qO qO;have va:(qt&&qB)=false:=(by (rcases qo with⟨g1,_,g2⟩|⟨g1,g2⟩);{(rcases qk with⟨g3,_,g4⟩|⟨g3,g4⟩);{exact absurd ⟨g1,g3⟩ hs};rw[g4];simp};rw[g2];rfl);clear qo qk hs;(go_upto_region 5 with fail);go_cut [30] (fun s wx=>s=bF/\wx=w2);(case first=>cases qt <;> cases qB;{go_wp2;go_meet;exact⟨rfl,rfl⟩};{go_wp2;go_meet;exact⟨rfl,rfl⟩};{go_wp2;go_meet;exact⟨rfl,rfl⟩};cases va);obtain⟨rfl,rfl⟩:=hcut;have qi:bD ((wc.alloc (.cells (madeCells #[vI 0] n1) 3)).alloc (.cells #[] 3)) wc.heap.size n1 (lO [] n1):=(by refine bD.BM ((eN wc 3 (madeCells #[vI 0] n1)).alloc _) (fun j hj=>?_);unfold lO;rw[qF qO, <-Gi,toList_madeCells_one];simp[hj]);have R0:=Hx qi;have E0:=Hx ((X2.o.alloc (.cells (madeCells #[vI 0] n1) 3)).alloc (.cells #[] 3));have G0:=Hx (aJ.zero ((wc.alloc (.cells (madeCells #[vI 0] n1) 3)).alloc (.cells #[] 3)) (sA (wc.heap.size+1)) 0);have L0:Hid (nJ ds b n1 n1 0 []):=Hx (⟨qS,(fun _ h=>by cases h),by rw[D5 (by rw[DS.o.1];omega)];simp[av.val],hb0⟩);have q7:w.heap.size<=wc.heap.size:=X2.o.size;generalize hg:wc.heap.size=g at*;clear qi;go_wp2;go_loopg [12,13] n1 (fun m rt it wr=>∃(k R:Nat) (qd:LN) (AR:OA) (nR cR:Nat),k=m/\k<=n1/\it=vI (k-1)/\rt=.s AR nR cR/\Hid (aJ wr AR nR cR R)/\Hid (bD wr g n1 (lO qd k))/\Hid (nJ ds b n1 k R qd)/\Hid (Ext w wr));exact⟨n1,0,[],(sA (g+1)),0,0,rfl,yX _,by go_num,by simp[hg],G0,R0,L0,E0⟩;obtain⟨k,R,qd,AR,nR,cR,rfl,hk,rfl,rfl,GR,RW,LS,EW⟩:=hrel;by_cases h0:k=0;{subst h0;have q2:=RW.o.rd (l:=qd) (by rw[LS.o.len];omega) (fun j hj=>by unfold lO;rw[qE qO];simp);have LV:Hid (av.val G6 qd=a/b/\R=a%b):=Hx (by have h1:=LS.o.val;have h2:=LS.o.R;rw[List.drop_zero,DS.o.2.2.1]at h1;rw[h1,Nat.mul_add_div hb0,Nat.div_eq_of_lt h2,Ef,Nat.mul_add_mod,Ey h2];exact⟨rfl,rfl⟩);have RR:=Hx (q2);clear q2;go_wp2_with fail;refine(mH (sA g) n1 n1 qd (by rw[LS.o.len];omega) _ RR.o (yX _) LS.o.lt qO).mono ?_;rintro e w5 ⟨A5,n5,c5,rfl,h5,x5,qh⟩;rw[LV.o.1]at h5;have e2:=GR.o.K x5;rw[LV.o.2]at e2;have F:=Hx (ah h5 (ah e2 (ah (EW.o.tr x5) (fun ad h=>yY EW.o.size (qh ad h)))));clear h5 x5 e2 qh;go_wp2;exact bodyPost_ret (v:=.tuple #[.s A5 n5 c5,.s AR nR cR,vI 0]) (by simp[results,results199,go_sem]) rfl ⟨_,_,_,_,_,_,rfl,F.o.1,F.o.2.1,F.o.2.2.1,F.o.2.2.2⟩};have qn:k-1<ds.length:=(by rw[DS.o.1];omega);obtain⟨x,hx⟩:∃x,x=ds[k-1]?.getD 0:=⟨_,rfl⟩;have q0:x<1000000:=(by rw[hx,yG qn];exact DS.o.2.1 _ (xR _));obtain⟨bb,oo,vg,qI,qg⟩:=DS.o.2.2.2.ints (k:=k-1) qn;subst vg;have k1:=EW.o.cell (p:=(aD bb (oo+(k-1)))) qI;rw[qg (k-1) qn, <-hx]at k1;clear qg qI qn;have SX:=Hx hx;have i0:(0:Int)<=(k:Int)-1:=qO;have i3:((k:Int)-1).toNat=k-1:=qO;obtain⟨rs,qT,vp,qY,qH,qC⟩:=GR.o;have vo:nR<=n2:=GR.o.lenOf (Nat.lt_trans LS.o.R H2.o.vv);have RS:=Hx (ah qT (ah qY.lt (ah qH qC.rd)));have HA:Hid (AR=none->nR=0):=Hx (fun h=>by (rcases Ee nR with h0|h0);{exact h0};obtain⟨b,o,e,_⟩:=qC.rd.ints (k:=0) qO;rw[h]at e;cases e);clear qT qY qH qC hx;(go_wp2_with (at_builtin;go_must (refine pS _ rfl (.tmp 54) (.tmp 55) 42 43 rfl wr.heap.size 3 ti (vI 0) 8 3 underlying43 underlying42 hi vd vm vi rfl (.s (sA wr.heap.size) 1 1) 1 [vI (x:Int)] rfl ?c0 AR nR cR (ints rs) rfl ?c1 ?c2 ?c3 (gW _) ?c4 ?c5 ?c6 ?_)));(case c0=>exact⟨rfl,.inr ⟨wr.heap.size,1,#[vI (x:Int)],rfl,yX _,heap_alloc_new wr _,yX _,by unfold maxLen;omega,rfl,rfl⟩⟩);(case c1=>rw[bX];exact RS.o.1.symm);(case c2=>exact RS.o.2.2.2.K ((eR _).alloc _));(case c3=>exact fun h=>.inr (HA.o h));(case c4=>unfold maxLen;omega);(case c5=>omega);(case c6=>simp);intro v3 w3 qf qa _;have e3:Ext wr w3:=Below.grown ((eR wr).alloc (.cells #[vI (x:Int)] 3)) qa qS (fun k hk=>by simp[Value.ownBlock]at hk;omega);have qe:w3.ownsRow wr.heap.size 3 1 v3 (1+nR) (ints (x::rs)):=qf;obtain⟨A3,c3,rfl,qX,qW⟩:=fA (l:=x::rs) qe (by rw[Dw,RS.o.1];omega);have E3:=Hx (EW.o.tr e3);have qw:=Hx (RW.o.K e3);have qU:(x::rs).length=nR+1:=(by rw[Dw,RS.o.1]);have R3:=Hx qW.rd;rw[qU]at qX⊢;clear qf qe qa e3 qW;go_wp2_with fail;refine(mH A3 (nR+1) c3 (x::rs) qU _ R3.o qX (fun d hd=>by (rcases xZ.1 hd with e|e);{rw[e];exact q0};exact RS.o.2.1 d e) qO).mono ?_;rintro e w4 ⟨A4,n4,c4,rfl,h4,x4,q3⟩;rw[av.mh,RS.o.2.2.1]at h4;have vu:n4<=n2+1:=h4.lenOf (by have h1:=H2.o.vv;have h2:=LS.o.R;rw[vD,vE (G6^n2)];have:G6*R+G6<=G6*G6^n2:=(by rw[<-Nat.mul_succ];exact Dx _ qO);rw[fD]at this⊢;omega);have E4:=Hx (E3.o.tr x4);have q1:=Hx (qw.o.K x4);have vc:Hid (∀ad,A4=some ad->ad.block≠g):=Hx (fun ad h=>by have:=q3 ad h;have:=qw.o.lt;omega);have G4:=Hx h4;clear h4 x4 q3 qw;go_wp2_with fail;refine(jzkf A4 A2 n4 c4 n2 c2 _ b _ G4.o (H2.o.K E4.o) qO).mono ?_;rintro e w5 ⟨q,rfl,vk,qx,qM,x5⟩;have E5:=Hx (E4.o.tr x5);have qm:=Hx (q1.o.K x5);have G5:=Hx (G4.o.K x5);have ve:=Hx (LS.o.step qO hk DS.o.1 SX.o q0 vk qx qM);have QQ:=Hx qx;have fz:=qm.o.frozen (k-1);have fc:=qm.o.cell (j:=k-1) qO;have qA:=Hx (qm.o.sT (k-1) (q:Int));have kc:=qA.o.cell (j:=k-1) qO;simp only[if_true]at kc;have E6:=Hx (E5.o.sT (p:=(aD g (k-1))) q7 (vI (q:Int)));have q5:=Hx (G5.o.far (p:=(aD g (k-1))) vc.o (vI (q:Int)));clear x5 qx qM q1;go_wp2_with fail;refine(jzb2 A2 n2 c2 b q _ (H2.o.K E6.o) qO qO).mono ?_;rintro e w7 ⟨A7,n7,c7,rfl,h7,x7,_⟩;have E7:=Hx (E6.o.tr x7);have qQ:=Hx (qA.o.K x7);have G7:=Hx (ah (q5.o.K x7) h7);clear x7 h7 qA q5 kc fz fc qm;go_wp2_with fail;refine(uM A4 A7 n4 c4 n7 c7 _ (b*q) _ G7.o.1 G7.o.2 qO QQ.o).mono ?_;rintro e w8 ⟨A8,n8,c8,rfl,h8,x8⟩;have E8:=Hx (E7.o.tr x8);have vj:=Hx ((qQ.o.K x8).congr (jzkj (q:=q) (n:=n1) qO));have G8:=Hx h8;clear x8 h8 qQ;go_wp2;go_roundg (k-1);exact⟨k-1,_,q::qd,A8,n8,c8,rfl,qO,by go_num,rfl,G8,vj,ve,E8⟩;omega
def jzkk A1 A2(n1 c1 n2 c2 a b:Nat)w(h1:aJ w A1 n1 c1 a)(h2:aJ w A2 n2 c2 b)(hn1:n1<=10000000)(hn2:n2<=1000000)(hb0:0<b):
  Calls prog 199 #[.s A1 n1 c1,.s A2 n2 c2] w (jzkh w (a/b) (a%b)):=
 (uN A1 A2 n1 c1 n2 c2 a b w h1 h2 hn1 hn2 hb0).mono fun e w' ⟨A,n,c,A',n',c',k0,k1,k2,k3,_⟩=>⟨A,n,c,A',n',c',k0,k1,k2,k3⟩
end Go.Proofs.YtfeeacaofjpkaaaGreatDoor
namespace Go.Proofs.YtfeeacaofjpkaaaGreatDoor
open Go.Proofs.Tryz
open Go.RowKit Go.Sort
def jzkl A1 A2(n1 c1 n2 c2 a b:Nat)w(h1:aJ w A1 n1 c1 a)(h2:aJ w A2 n2 c2 b)(hn1:n1<=1000000)(hn2:n2<=1000000):
  Calls prog 198 #[.s A1 n1 c1,.s A2 n2 c2] w fun e w'=>∃(A:OA) (n c:Nat),e=.returned (.s A n c)/\aJ w' A n c (Nat.gcd a b)/\Ext w w':=by
 (induction b using Nat.strongRecOn generalizing A1 A2 n1 c1 n2 c2 a w with|ind b ih=>have hz:=h2.iw;have H1:=Hx (h1);have H2:=Hx (h2);have IH:=Hx (ih);clear h1 h2 ih;by_cases hb:b=0;{obtain rfl:n2=0:=hz.2 hb;subst hb;clear hz;go_enter func198,ntmps198;go_wp2;go_ret;exact⟨_,_,_,rfl,by rw[Nat.gcd_zero_right];exact H1.o,eR _⟩};have z2:((n2:Int)==0)=false:=yK.2 qO;have qe:0<b:=qO;clear hz;go_enter func198,ntmps198;go_wp2_with fail;refine(jzkk A1 A2 n1 c1 n2 c2 a b _ H1.o H2.o qO hn2 qe).mono ?_;rintro e w1 ⟨A3,n3,c3,A4,n4,c4,rfl,h3,h4,x1⟩;have qa:a%b<b:=xT _ qe;have qf:n4<=n2:=h4.lenOf (Nat.lt_trans qa H2.o.vv);have H4:=Hx (ah (H2.o.K x1) (ah h4 x1));clear h3 h4 x1;go_wp2_with fail;refine(IH.o (a%b) qa A2 A4 n2 c2 n4 c4 b _ H4.o.1 H4.o.2.1 hn2 qO).mono ?_;rintro e w2 ⟨A5,n5,c5,rfl,h5,x2⟩;have hg:Nat.gcd b (a%b)=Nat.gcd a b:=(by rw[Nat.gcd_comm a b,Nat.gcd_rec b a,Nat.gcd_comm]);rw[hg]at h5;have F:=Hx (ah h5 (H4.o.2.2.tr x2));clear h5 x2 hg;go_wp2;go_ret;exact⟨_,_,_,rfl,F.o.1,F.o.2⟩)
end Go.Proofs.YtfeeacaofjpkaaaGreatDoor
