/- Walks, part 2. -/
import Derived.WalkKit
import Derived.WalkSpells
import Derived.WalkLawsBesides
import Derived.KernelRfl
import Derived.Deep.QuietTactic
import Derived.BigQuiet
import Derived.Deep.RegionHeld3
import Derived.Deep.DeepFit
import Derived.Deep.LoopGhost
import Derived.Deep.OwnRows
import Derived.Laws.OwnMore
import Derived.Laws.CopyOwn
import Derived.RegionTactic
import Derived.ChangeAlike
import Derived.Deep.RegionWith
import Derived.Test.YtfeeacaofjpkaaaGreatDoorK01
set_option linter.unusedVariables false
set_option linter.unusedSimpArgs false
set_option maxRecDepth 100000
set_option maxHeartbeats 8000000
namespace Go.Proofs.YtfeeacaofjpkaaaGreatDoor.Dig
open Go.Proofs.Tryz
def val(B:Nat):LN->Nat
 | []=>0
 |d::ds=>d+B*val B ds
theorem val_nil(B:Nat):val B []=0:=rfl
theorem val_cons(B d:Nat)(ds:LN):val B (d::ds)=d+B*val B ds:=rfl
theorem mZ(B:Nat)(xs ys:LN):val B (xs++ys)=val B xs+B^xs.length*val B ys:=by
 (induction xs with|nil=>simp[val]|cons x xs ih=>simp only[List.cons_append,val,ih,kQo,vD];grind)
theorem jzfw(B d:Nat):val B [d]=d:=by simp[val]
theorem jzfx(B:Nat)(xs:LN)(d:Nat):val B (xs++[d])=val B xs+B^xs.length*d:=by rw[mZ,jzfw]
theorem jzr(B:Nat)(xs:LN)(k:Nat)(h:k<xs.length):val B (xs.take (k+1))=val B (xs.take k)+B^k*xs[k]:=by
 rw[List.take_succ_eq_append_getElem h,jzfx,xF,kZh qO]
theorem val_take_succ'(B:Nat)(xs:LN)(k:Nat)(h:k<xs.length):val B (xs.take (k+1))=val B (xs.take k)+B^k*xs.getD k 0:=by
 rw[jzr B xs k h];simp[List.getD,h]
theorem val_lt{B:Nat}(_hB:0<B){ds:LN}(h:∀d∈ds,d<B):val B ds<B^ds.length:=by
 (induction ds with|nil=>simp[val]|cons d ds ih=>have h1:=ih (fun x hx=>h x (by simp[hx]));have h2:=h d qS;simp only[val,kQo,vD];have:B*(val B ds+1)<=B*B^ds.length:=kQh _ h1;have e:B^ds.length*B=B*B^ds.length:=vE _ _;rw[e];rw[kQc]at this;omega)
theorem val_replicate(B n:Nat):val B (List.replicate n 0)=0:=by
 (induction n with|zero=>rfl|succ n ih=>simp[List.replicate_succ,val,ih])
theorem jzfy(B:Nat)(xs:LN)(k:Nat):val B xs=val B (xs.take k)+B^(min k xs.length)*val B (xs.drop k):=by
 conv=>lhs;rw[<-kZz k xs]
 rw[mZ,xF]
theorem val_split'(B:Nat)(xs:LN)(k:Nat)(h:k<=xs.length):val B xs=val B (xs.take k)+B^k*val B (xs.drop k):=by
 rw[jzfy B xs k,kZh h]
theorem jzfz(B:Nat)(xs:LN)(k:Nat)(h:k<xs.length):val B (xs.drop k)=xs[k]+B*val B (xs.drop (k+1)):=by
 rw[kQ6 h];rfl
theorem val_drop'(B:Nat)(xs:LN)(k:Nat)(h:k<xs.length):val B (xs.drop k)=xs.getD k 0+B*val B (xs.drop (k+1)):=by
 rw[jzfz B xs k h];simp[List.getD,h]
structure Canon(B:Nat)(ds:LN):Prop where
 lt:∀d∈ds,d<B
 top:ds.getLast?≠some 0
theorem Canon.nil(B:Nat):Canon B []:=⟨qS,qS⟩
theorem Canon.tail{B d:Nat}{ds:LN}(h:Canon B (d::ds)):Canon B ds:=by
 (refine⟨fun x hx=>h.lt x (by simp[hx]),?_⟩;cases ds with|nil=>simp|cons e es=>have:=h.top;rwa [List.getLast?_cons_cons]at this)
theorem Canon.pos{B:Nat}(hB:0<B):∀{ds:LN},Canon B ds->ds≠ []->0<val B ds
 | [],_,h=>absurd rfl h
 | [d],h,_=>by have:=h.top;simp at this;simp[val];omega
 |d::e::es,h,_=>by
  have:=Canon.pos hB h.tail qS;rw[val_cons];have:0<B*val B (e::es):=Nat.mul_pos hB this;omega
theorem Canon.val_zero{B:Nat}(hB:0<B){ds:LN}(h:Canon B ds)(h0:val B ds=0):ds=[]:=by
 by_cases hd:ds=[];{exact hd};have:=h.pos hB hd;omega
theorem Canon.ge{B:Nat}(hB:0<B){ds:LN}(h:Canon B ds)(hne:ds≠ []):B^(ds.length-1)<=val B ds:=by
 (induction ds with|nil=>exact absurd rfl hne|cons d ds ih=>(cases ds with|nil=>have:=h.pos hB qS;simp[val]at this⊢;omega|cons e es=>have:=ih h.tail qS;simp only[kQo,Nat.add_sub_cancel]at this⊢;rw[val_cons,vD];have:B*B^es.length<=B*val B (e::es):=kQh _ this;rw[vE (B^es.length)];omega))
theorem Canon.len_lt{B:Nat}(hB:1<B){xs ys:LN}(hx:Canon B xs)(hy:Canon B ys)(h:xs.length<ys.length):val B xs<val B ys:=by
 have h1:=val_lt qO hx.lt;have h2:=hy.ge qO (by intro e;simp[e]at h);have h3:B^xs.length<=B^(ys.length-1):=kQk qO qO;omega
theorem Canon.len_le{B:Nat}(hB:1<B){ds:LN}(h:Canon B ds){k:Nat}(hv:val B ds<B^k):ds.length<=k:=by
 by_cases qa:ds=[];{simp[qa]};have h1:=h.ge qO qa;have h2:B^(ds.length-1)<B^k:=qO;have:=(Nat.pow_lt_pow_iff_right hB).1 h2;omega
theorem jzs{B:Nat}(hB:0<B):∀{xs ys:LN},(∀d∈xs,d<B)->(∀d∈ys,d<B)->xs.length=ys.length->val B xs=val B ys->xs=ys
 | [],[],_,_,_,_=>rfl
 | [],_::_,_,_,h,_=>by simp at h
 |_::_,[],_,_,h,_=>by simp at h
 |x::xs,y::ys,hx,hy,hl,hv=>by
  have qf:=hx x qS;have qe:=hy y qS;rw[val_cons,val_cons]at hv;have e1:(x+B*val B xs)%B=x:=(by rw[Nat.add_mul_mod_self_left,kQv qf]);have e2:(y+B*val B ys)%B=y:=(by rw[Nat.add_mul_mod_self_left,kQv qe]);have qa:x=y:=(by rw[<-e1, <-e2,hv]);subst qa;have:val B xs=val B ys:=Nat.eq_of_mul_eq_mul_left hB qO;rw[jzs hB (fun d hd=>hx d (by simp[hd])) (fun d hd=>hy d (by simp[hd])) (by simpa using hl) this]
theorem Canon.unique{B:Nat}(hB:1<B){xs ys:LN}(hx:Canon B xs)(hy:Canon B ys)(h:val B xs=val B ys):xs=ys:=by
 (refine jzs qO hx.lt hy.lt ?_ h;rcases Nat.lt_trichotomy xs.length ys.length with hl|hl|hl);{have:=hx.len_lt hB hy hl;omega};{exact hl};have:=hy.len_lt hB hx hl;omega
def trim:LN->LN
 | []=>[]
 |d::ds=>match trim ds with
  | []=>if d=0 then []else [d]
  |e::es=>d::e::es
theorem trim_val(B:Nat)(ds:LN):val B (trim ds)=val B ds:=by
 (induction ds with|nil=>rfl|cons d ds ih=>simp only[trim];split;{rename_i h;rw[h]at ih;rw[val_cons, <-ih,val_nil];split <;> simp[val, *]};rename_i e es h;rw[h]at ih;rw[val_cons B d (e::es),ih,val_cons])
theorem jzf0(ds:LN):trim (ds++[0])=trim ds:=by
 (induction ds with|nil=>rfl|cons d ds ih=>simp only[List.cons_append,trim,ih])
theorem jzf1(ds:LN)(d:Nat)(hd:d≠0):trim (ds++[d])=ds++[d]:=by
 (induction ds with|nil=>simp[trim,hd]|cons e es ih=>simp only[List.cons_append,trim,ih];split;{rename_i h;simp at h};rename_i h;rw[<-h])
theorem trim_take(ds:LN)(n:Nat)(hn:n<=ds.length)(hz:∀k,n<=k->k<ds.length->ds.getD k 0=0):trim ds=trim (ds.take n):=by
 (induction hm:ds.length-n generalizing n with|zero=>rw[yU qO]|succ m ih=>have h:=ih (n+1) qO (fun k hk hk'=>hz k qO hk') qO;rw[h,List.take_succ_eq_append_getElem (by omega:n<ds.length)];have h0:=hz n qO qO;simp only[List.getD,yG (by omega:n<ds.length),kQ1]at h0;rw[h0,jzf0])
theorem jzf2{ds:LN}(h:ds.getLast?≠some 0):trim ds=ds:=by
 rcases List.eq_nil_or_concat ds with rfl|⟨xs,x,rfl⟩
 ·rfl
 rw[List.concat_eq_append]at h⊢;exact jzf1 xs x (by simpa using h)
theorem Canon.trim{B:Nat}{ds:LN}(h:Canon B ds):Dig.trim ds=ds:=jzf2 h.top
theorem drop_eq_of{xs ys:LN}(hl:xs.length=ys.length){k:Nat}(heq:∀j,k<=j->j<xs.length->xs[j]?.getD 0=ys[j]?.getD 0):xs.drop k=ys.drop k:=by
 apply uK;intro i;rw[List.getElem?_drop,List.getElem?_drop];by_cases h:k+i<xs.length;{have:=heq (k+i) qO h;rw[yG h,yG (by omega:k+i<ys.length)]at this⊢;simpa using this};rw[yI qO,yI qO]
theorem val_lt_of_digit{B:Nat}(hB:0<B){xs ys:LN}(hx:∀d∈xs,d<B)(hl:xs.length=ys.length){k:Nat}(hk:k<xs.length)
  (heq:∀j,k<j->j<xs.length->xs[j]?.getD 0=ys[j]?.getD 0) (hlt:xs[k]?.getD 0<ys[k]?.getD 0):val B xs<val B ys:=by
 rw[val_split' B xs (k+1) qO,val_split' B ys (k+1) qO,drop_eq_of hl (k:=k+1) (fun j h1 h2=>heq j qO h2),
  val_take_succ' B xs k hk,val_take_succ' B ys k qO]
 simp only[List.getD]at*;have h1:val B (xs.take k)<B^k:=(by have:=val_lt hB (ds:=xs.take k) (fun d hd=>hx d (xM hd));rwa [xF,kZh qO]at this);have h2:B^k*(xs[k]?.getD 0+1)<=B^k*ys[k]?.getD 0:=kQh _ hlt;rw[kQc]at h2;omega
theorem jzf3(ds:LN)(k j d:Nat)(h:j<=k):(ds.set k d).take j=ds.take j:=by
 apply uK;intro i;simp only[xG,kZs];split;{rw[qF qO]};rfl
theorem val_take_set(B:Nat)(ds:LN)(k d:Nat)(h:k<ds.length):val B ((ds.set k d).take (k+1))=val B (ds.take k)+B^k*d:=by
 rw[jzr B _ k (by simpa using h),jzf3 ds k k d (yX _)];simp
theorem jzt(ds:LN)(k j d:Nat)(h:k<j):(ds.set k d).drop j=ds.drop j:=by
 apply uK;intro i;simp only[List.getElem?_drop,kZs];rw[qF qO]
theorem set_lt{B:Nat}{ds:LN}(h:∀d∈ds,d<B){k x:Nat}(hx:x<B):∀d∈ds.set k x,d<B:=fun d hd=>by
 rcases xE hd with h1|h1
 ·exact h d h1
 ·omega
theorem val_set(B:Nat)(ds:LN)(j d:Nat)(h:j<ds.length):val B (ds.set j d)+B^j*ds[j]?.getD 0=val B ds+B^j*d:=by
 rw[val_split' B (ds.set j d) (j+1) (by rw[yV];omega),val_split' B ds (j+1) qO,jzt ds j (j+1) d qO,val_take_set B ds j d h,val_take_succ' B ds j h];simp only[List.getD];omega
theorem drop_set_self(ds:LN)(k d:Nat)(h:k<ds.length):(ds.set k d).drop k=d::ds.drop (k+1):=by
 rw[kQ6 (by rw[yV];exact h),jzt ds k (k+1) d qO];simp
end Go.Proofs.YtfeeacaofjpkaaaGreatDoor.Dig
namespace Go.Proofs.YtfeeacaofjpkaaaGreatDoor
open Go.Proofs.Tryz
open Go.RowKit
def B32:Nat:=4294967296
theorem aR:B32=4294967296:=rfl
theorem bB:0<B32:=by decide
theorem sL:B32^2=18446744073709551616:=by decide
theorem kC:1<B32:=by decide
def Rd(w:World)(A:OA)(xs:List Value):Prop:=
 xs≠ []->∃b o:Nat,A=some (aD b o)/\b<w.heap.size/\∀i,i<xs.length->w.cell? (aD b (o+i))=xs[i]?
theorem Rd.nil w A:Rd w A []:=fun h=>absurd rfl h
theorem Rd.at_{w}{A}{xs:List Value}(h:Rd w A xs){i:Nat}(hi:i<xs.length):
 ∃b o:Nat,A=some (aD b o)/\b<w.heap.size/\∀i,i<xs.length->w.cell? (aD b (o+i))=xs[i]?:=h (by intro e;simp[e]at hi)
theorem Rd.K{w w'}{A}{xs:List Value}(h:Rd w A xs)(hb:Below w.heap.size w w'):Rd w' A xs:=fun hne=>by
 obtain⟨b,o,e,qa,hc⟩:=h hne;exact⟨b,o,e,yL qa hb.size,fun i hi=>(hb.cell (p:=(aD b (o+i))) qa).trans (hc i hi)⟩
theorem Rd.take{w}{A}{xs:List Value}(h:Rd w A xs)(k:Nat):Rd w A (xs.take k):=fun hne=>by
 obtain⟨b,o,e,qa,hc⟩:=h (by intro e;simp[e]at hne);refine⟨b,o,e,qa,fun i hi=>?_⟩;rw[xF]at hi;rw[hc i qO,xG,qE qO]
theorem Rd.new(w:World)(t:TypeId)(cs:Array Value){g:Nat}{xs:List Value}(hg:g=w.heap.size)(hx:xs=cs.toList):Rd (w.alloc (.cells cs t)) (sA g) xs:=fun _=>by
 subst hg;subst hx;refine⟨w.heap.size,0,rfl,qS,fun i hi=>?_⟩;have h:(w.alloc (.cells cs t)).heap[w.heap.size]?=some (.cells cs t (0,0)):=heap_alloc_new w _;rw[kQu,cell_of_row _ _ _ _ _ _ h];simp
abbrev Ext(w w':World):Prop:=Below w.heap.size w w'
theorem Ext.refl w:Ext w w:=Below.refl _ _
theorem eR:type_of% @Ext.refl:=@Ext.refl
theorem Ext.alloc{a w}(h:Ext a w)(o:Obj):Ext a (w.alloc o):=Below.alloc h h.size o
theorem Ext.drewN{a w}(h:Ext a w)(n:Nat):Ext a (w.drewN n):=⟨h.os,h.tape,h.output,h.size,h.block⟩
theorem Ext.tr{a b c}(h:Ext a b)(k:Ext b c):Ext a c:=h.trans (k.mono h.size)
def Blk(w:World)(g:Nat)(t:TypeId)(cs:Array Value):Prop:=w.heap[g]?=some (.cells cs t (0,0))
section
variable {w w':World} {g:Nat} {t:TypeId} {cs:Array Value}
theorem Blk.lt(h:Blk w g t cs):g<w.heap.size:=by
 rcases kQd g w.heap.size with hlt|hge
 ·exact hlt
 unfold Blk at h;rw[kQn hge]at h;cases h
theorem Blk.cell(h:Blk w g t cs)(i:Nat):w.cell? (aD g i)=cs[i]?:=cell_of_row w g i cs t (0,0) h
theorem Blk.frozen(h:Blk w g t cs)(i:Nat):w.frozen? (aD g i)=false:=by
 unfold Blk at h;simp[World.frozen?,h]
theorem Blk.new(w:World)(t:TypeId)(cs:Array Value):Blk (w.alloc (.cells cs t)) w.heap.size t cs:=heap_alloc_new w _
theorem eN:type_of% @Blk.new:=@Blk.new
theorem Blk.new'(w:World)(t:TypeId)(cs:Array Value)(hg:g=w.heap.size):Blk (w.alloc (.cells cs t)) g t cs:=by subst hg;exact heap_alloc_new w _
theorem Blk.drewN(h:Blk w g t cs)(n:Nat):Blk (w.drewN n) g t cs:=h
theorem Blk.alloc(h:Blk w g t cs)(o:Obj):Blk (w.alloc o) g t cs:=(Below.heap_alloc w o g h.lt).trans h
theorem Blk.sT(h:Blk w g t cs)(i:Nat)(u:Value):Blk (w.setCell (aD g i) u) g t (cs.setIfInBounds i u):=by
 unfold Blk at h⊢;simp[World.setCell,Array.getElem?_modify,h]
theorem Blk.far(h:Blk w g t cs){p:Addr}(hp:g≠p.block)(u:Value):Blk (w.setCell p u) g t cs:=(Below.heap_setCell w p u g hp).trans h
theorem Blk.K(h:Blk w g t cs)(hb:Ext w w'):Blk w' g t cs:=(hb.block g h.lt).trans h
theorem Blk.ne_{g':Nat}{t':TypeId}{cs':Array Value}(h:Blk w g t cs)(h':Blk w g' t' cs')(hne:t≠t'):g≠g':=by
 rintro rfl;unfold Blk at h h';rw[h]at h';injection h' with h'
 injection h' with _ ht
 exact hne ht
end
def RdT(w:World)(t:TypeId)(A:OA)(xs:List Value):Prop:=
 xs≠ []->∃(b o:Nat) (cs:Array Value) (fr:Nat×Nat),A=some (aD b o)/\w.heap[b]?=some (.cells cs t fr)/\∀i,i<xs.length->cs[o+i]?=xs[i]?
section
variable {w w':World} {t:TypeId} {A:Option Addr} {xs:List Value}
theorem RdT.nil w(t:TypeId)A:RdT w t A []:=fun h=>absurd rfl h
theorem RdT.rd(h:RdT w t A xs):Rd w A xs:=fun hne=>by
 obtain⟨b,o,cs,fr,e,hb,hc⟩:=h hne;refine⟨b,o,e,?_,fun i hi=>(cell_of_row w b (o+i) cs t fr hb).trans (hc i hi)⟩;rcases kQd b w.heap.size with hlt|hge
 ·exact hlt
 ·rw[kQn hge]at hb;cases hb
theorem RdT.K(h:RdT w t A xs)(hb:Ext w w'):RdT w' t A xs:=fun hne=>by
 obtain⟨b,o,cs,fr,e,h1,hc⟩:=h hne;obtain⟨b',o',e',qa,_⟩:=h.rd hne;have:b'=b:=(by rw[e]at e';injection e' with e';injection e' with e1;exact e1.symm);subst this;exact⟨b',o,cs,fr,e,(hb.block b' qa).trans h1,hc⟩
theorem RdT.take(h:RdT w t A xs)(k:Nat):RdT w t A (xs.take k):=fun hne=>by
 obtain⟨b,o,cs,fr,e,hb,hc⟩:=h (by intro e;simp[e]at hne);refine⟨b,o,cs,fr,e,hb,fun i hi=>?_⟩;rw[xF]at hi;rw[hc i qO,xG,qE qO]
theorem RdT.sT(h:RdT w t A xs){p:Addr}{t':TypeId}{cs':Array Value}(hp:Blk w p.block t' cs')(hne:t≠t')(u:Value):RdT (w.setCell p u) t A xs:=fun hx=>by
 obtain⟨b,o,cs,fr,e,hb,hc⟩:=h hx;refine⟨b,o,cs,fr,e,(Below.heap_setCell w p u b ?_).trans hb,hc⟩;rintro rfl;unfold Blk at hp;rw[hb]at hp;injection hp with hp
 injection hp with _ ht
 exact hne ht
theorem RdT.new{g:Nat}{cs:Array Value}(w:World)(t:TypeId)(hg:g=w.heap.size)(hx:xs=cs.toList):RdT (w.alloc (.cells cs t)) t (sA g) xs:=fun _=>by
 subst hg;subst hx;exact⟨w.heap.size,0,cs,(0,0),rfl,heap_alloc_new w _,fun i hi=>qS⟩
theorem RdT.of_blk{g:Nat}{cs:Array Value}(h:Blk w g t cs)(hx:xs=cs.toList):RdT w t (sA g) xs:=fun _=>by
 subst hx;exact⟨g,0,cs,(0,0),rfl,h,fun i hi=>qS⟩
end
def dE(ds:LN):List Value:=ds.map fun d:Nat=>Value.int .u32 (d:Int)
theorem jzu(ds:LN):(dE ds).length=ds.length:=by simp[dE]
theorem jzv(ds:LN)(i:Nat)(h:i<ds.length):(dE ds)[i]?=some (.int .u32 ((ds[i]?.getD 0:Nat):Int)):=by
 simp[dE,h]
theorem jzw(ds:LN)(k:Nat):dE (ds.take k)=(dE ds).take k:=by simp[dE]
theorem Rd.u32{w}{A}{ds:LN}(h:Rd w A (dE ds)){k:Nat}(hk:k<ds.length):
  ∃b o:Nat,A=some (aD b o)/\b<w.heap.size/\∀i,i<ds.length->w.cell? (aD b (o+i))=some (.int .u32 ((ds[i]?.getD 0:Nat):Int)):=by
 obtain⟨b,o,e,qa,hc⟩:=h.at_ (i:=k) (by rw[jzu];exact hk);exact⟨b,o,e,qa,fun i hi=>(hc i (by rw[jzu];exact hi)).trans (jzv ds i hi)⟩
def Row(w:World)(g:Nat)(ds:LN):Prop:=Blk w g 196 (dE ds).toArray
section
variable {w w':World} {g:Nat} {ds:List Nat}
theorem Row.lt(h:Row w g ds):g<w.heap.size:=Blk.lt h
theorem Row.cell(h:Row w g ds){i:Nat}(hi:i<ds.length):w.cell? (aD g i)=some (.int .u32 ((ds[i]?.getD 0:Nat):Int)):=by
 rw[Blk.cell h i,xI,jzv ds i hi]
theorem Row.frozen(h:Row w g ds)(i:Nat):w.frozen? (aD g i)=false:=Blk.frozen h i
theorem Row.K(h:Row w g ds)(hb:Ext w w'):Row w' g ds:=Blk.K h hb
theorem Row.alloc(h:Row w g ds)(o:Obj):Row (w.alloc o) g ds:=Blk.alloc h o
theorem Row.drewN(h:Row w g ds)(n:Nat):Row (w.drewN n) g ds:=h
theorem Row.far(h:Row w g ds){p:Addr}(hp:g≠p.block)(u:Value):Row (w.setCell p u) g ds:=Blk.far h hp u
theorem Row.sT(h:Row w g ds)(i d:Nat):Row (w.setCell (aD g i) (.int .u32 (d:Int))) g (ds.set i d):=by
 have:=Blk.sT h i (.int .u32 (d:Int));unfold Row;rw[show(dE (ds.set i d)).toArray=(dE ds).toArray.setIfInBounds i (.int .u32 (d:Int))from by simp[dE,List.map_set]];exact this
theorem Row.made(w:World)(n:Nat)(hg:g=w.heap.size):Row (w.alloc (.cells (madeCells #[.int .u32 0] n) 196)) g (List.replicate n 0):=by
 unfold Row;have e:(dE (List.replicate n 0)).toArray=madeCells #[.int .u32 0] n:=(by apply Array.toList_inj.1;rw[toList_madeCells_one];simp[dE]);rw[e];exact Blk.new' w _ _ hg
theorem Row.rdT(h:Row w g ds):RdT w 196 (sA g) (dE ds):=RdT.of_blk h qS
end
def aE(w:World)(A:OA)(n c:Nat)(N:Nat):Prop:=
 ∃ds:LN,ds.length=n/\n<=c/\Dig.Canon B32 ds/\Dig.val B32 ds=N/\RdT w 196 A (dE ds)
theorem aE.K{w w'}{A}{n c N:Nat}(h:aE w A n c N)(hb:Ext w w'):aE w' A n c N:=by
 obtain⟨ds,h1,h2,h3,h4,h5⟩:=h;exact⟨ds,h1,h2,h3,h4,h5.K hb⟩
theorem aE.sT{w}{A}{n c N:Nat}(h:aE w A n c N){p:Addr}{t':TypeId}{cs':Array Value}(hp:Blk w p.block t' cs')(hne:196≠t')(u:Value):aE (w.setCell p u) A n c N:=by
 obtain⟨ds,h1,h2,h3,h4,h5⟩:=h;exact⟨ds,h1,h2,h3,h4,h5.sT hp hne u⟩
theorem aE.zero w A(c:Nat):aE w A 0 c 0:=⟨[],rfl,yZ _,Dig.Canon.nil _,rfl,RdT.nil _ _ _⟩
theorem aE.eq_zero{w}{A}{n c N:Nat}(h:aE w A n c N):n=0↔N=0:=by
 obtain⟨ds,rfl,_,h3,rfl,_⟩:=h;constructor;{intro h;rw[kQp.1 h];rfl};intro h;rw[h3.val_zero bB h];rfl
theorem aE.of_take{w}{A}{ds:LN}{k c:Nat}(hr:RdT w 196 A (dE ds))(hk:k<=ds.length)(hz:∀j,k<=j->j<ds.length->ds[j]?.getD 0=0)
  (ht:0<k->ds[k-1]?.getD 0≠0) (hlt:∀d∈ds,d<B32) (hkc:k<=c):aE w A k c (Dig.val B32 ds):=by
 refine⟨ds.take k,by rw[xF];omega,hkc,⟨fun d hd=>hlt d (xM hd),?_⟩,?_,by rw[jzw];exact hr.take k⟩;{intro h;by_cases h0:k=0;{subst h0;simp at h};rw[List.getLast?_eq_getElem?,xF,kZh hk,xG,qE qO]at h;exact ht qO (by rw[h];rfl)};rw[<-Dig.trim_val, <-Dig.trim_val B32 ds,Dig.trim_take ds k hk (fun j h1 h2=>hz j h1 h2)]
theorem bY{ds:LN}(h:∀d∈ds,d<B32)(i:Nat):ds[i]?.getD 0<B32:=by
 by_cases hi:i<ds.length;{rw[yG hi];exact h _ (xR hi)};rw[yI qO];exact bB
theorem jzf4{ds:LN}(hz:∀j,0<=j->j<ds.length->ds[j]?.getD 0=0):Dig.val B32 ds=0:=by
 rw[<-Dig.trim_val,Dig.trim_take ds 0 (yZ _) (fun j h1 h2=>hz j h1 h2)];rfl
theorem oX{W w1}(hb:Ext W w1):(∀b o,b<W.heap.size->w1.cell? (aD b o)=W.cell? (aD b o))/\(∀b o,b<W.heap.size->w1.frozen? (aD b o)=W.frozen? (aD b o)):=
 ⟨fun b o h=>hb.cell (p:=(aD b o)) h,fun b o h=>hb.frozen (p:=(aD b o)) h⟩
def kP(w:World)(N:Nat)(e:Ending)(w':World):Prop:=
 ∃(A:OA) (n c:Nat),e=.returned (.agg #[.s A n c])/\aE w' A n c N/\Ext w w'
theorem oY(X:Nat)(h:X<4294967296):X.testBit 31=decide (2147483648<=X):=by
 rw[Nat.testBit_eq_decide_div_mod_eq];simp only[Nat.reducePow];rw[decide_eq_decide];omega
theorem jzf5(X:Nat)(h:X<4294967296):X/2147483648=if X.testBit 31 then 1 else 0:=by
 rw[oY X h];simp only[decide_eq_true_eq];split <;> omega
theorem jzf6(x y d:Nat)(hx:x<4294967296)(hy:y<4294967296)(hd:d<4294967296):
  (((4294967295^^^x)&&&y)|||((4294967295^^^(x^^^y))&&&d))/2147483648=if(x<2147483648/\2147483648<=y)\/(decide (2147483648<=x)=decide (2147483648<=y)/\2147483648<=d)then 1 else 0:=by
 have hb:(((4294967295^^^x)&&&y)|||((4294967295^^^(x^^^y))&&&d))<2^32:=
  Nat.or_lt_two_pow (Nat.and_lt_two_pow _ qO) (Nat.and_lt_two_pow _ qO)
 rw[jzf5 _ qO];have h1:(4294967295:Nat).testBit 31=true:=qD;simp only[Nat.testBit_or,Nat.testBit_and,Nat.testBit_xor,h1,oY x hx,oY y hy,oY d hd];by_cases a:2147483648<=x <;> by_cases b:2147483648<=y <;> by_cases c:2147483648<=d <;> simp[a,b,c,Nat.not_lt.2,Nat.lt_of_not_le]
theorem jzf7(x y c:Int)(hx:0<=x)(hx':x<4294967296)(hy:0<=y)(hy':y<4294967296)(hc:0<=c)(hc':c<=1):
  bits BinOp.or IntKind.u32 (bits BinOp.and IntKind.u32 (bits BinOp.xor IntKind.u32 IntKind.u32.max x) y)
   (bits BinOp.and IntKind.u32 (bits BinOp.xor IntKind.u32 IntKind.u32.max (bits BinOp.xor IntKind.u32 x y)) ((x-y-c)%4294967296))/2147483648= -((x-y-c)/4294967296):=by
 obtain⟨X,rfl⟩:=kQj hx;obtain⟨Y,rfl⟩:=kQj hy;obtain⟨D,hD⟩:=kQj (show 0<=((X:Int)-Y-c)%4294967296 by omega);have hM:IntKind.u32.max=((4294967295:Nat):Int):=qD;have qe:X<4294967296:=qO;have qf:Y<4294967296:=qO;have qg:D<4294967296:=qO;rw[hD,hM,u32_xor_nat _ _ qO qe,u32_xor_nat _ _ qe qf,u32_and_nat _ _ (Nat.xor_lt_two_pow (n:=32) qO qO) qf,
  u32_xor_nat _ _ qO (Nat.xor_lt_two_pow (n:=32) qO qO),u32_and_nat _ _ (Nat.xor_lt_two_pow (n:=32) qO (Nat.xor_lt_two_pow qO qO)) qg,
  u32_or_nat _ _ (Nat.and_lt_two_pow (n:=32) _ qO) (Nat.and_lt_two_pow (n:=32) _ qO)]
 rw[show(2147483648:Int)=((2147483648:Nat):Int)from rfl, <-Int.natCast_ediv,jzf6 X Y D qe qf qg];have qa:((X<2147483648/\2147483648<=Y)\/(decide (2147483648<=X)=decide (2147483648<=Y)/\2147483648<=D))↔(X:Int)-Y-c<0:=(by by_cases a:2147483648<=X <;> by_cases b:2147483648<=Y <;> by_cases e:2147483648<=D <;> simp[a,b,e] <;> omega);by_cases hn:(X:Int)-Y-c<0;{rw[qE (qa.2 hn)];omega};rw[qF (fun h=>hn (qa.1 h))];omega
theorem nA(h l:Int)(hx:0<=h)(hx':h<4294967296)(hy:0<=l)(hy':l<4294967296):bits BinOp.or IntKind.u64 (h*4294967296) l=h*4294967296+l:=by
 obtain⟨H,rfl⟩:=kQj hx;obtain⟨L,rfl⟩:=kQj hy;have e:(H:Int)*4294967296=((4294967296*H:Nat):Int):=qO;have qa:4294967296*H|||L=4294967296*H+L:=(Nat.two_pow_add_eq_or_of_lt (i:=32) (b:=L) qO H).symm;rw[e,u64_or_nat _ _ qO qO,qa];omega
theorem nB(x y c:Int)w(hx:0<=x)(hx':x<4294967296)(hy:0<=y)(hy':y<4294967296)(hc:0<=c)(hc':c<=1):
  Calls prog 170 #[.int .u32 x,.int .u32 y,.int .u32 c] w fun e w'=>e=.returned (.tuple #[.int .u32 ((x+y+c)%4294967296),.int .u32 ((x+y+c)/4294967296)])/\w=w':=by
 go_enter func170,ntmps170;go_wp2;(go_ret2);exact⟨rfl,rfl⟩
theorem oZ(x y c:Int)w(hx:0<=x)(hx':x<4294967296)(hy:0<=y)(hy':y<4294967296)(hc:0<=c)(hc':c<=1):
  Calls prog 171 #[.int .u32 x,.int .u32 y,.int .u32 c] w fun e w'=>e=.returned (.tuple #[.int .u32 ((x-y-c)%4294967296),.int .u32 (-((x-y-c)/4294967296))])/\w=w':=by
 have HB:=Hx (jzf7 x y c hx hx' hy hy' hc hc');go_enter func171,ntmps171;go_wp2;(go_ret2);refine⟨?_,rfl⟩;rw[<-HB.o];rfl
theorem jzf8(h l y:Int)w(hx:0<=h)(hx':h<y)(hy:0<=l)(hy':l<4294967296)(hc:0<y)(hc':y<4294967296):
  Calls prog 178 #[.int .u32 h,.int .u32 l,.int .u32 y] w fun e w'=>e=.returned (.tuple #[.int .u32 ((h*4294967296+l)/y),.int .u32 ((h*4294967296+l)%y)])/\∃k,w'=w.drewN k:=by
 (have qh:=nA h l hx qO hy hy';have qa:0<=h*4294967296+l:=qO;have qk:h*4294967296+l<18446744073709551616:=qO;have qe:h*4294967296+l<y*4294967296:=qO;have qg:(y !=0)=true:=bne_iff_ne.2 qO;have qf:decide (y<=h)=false:=by simp;omega);go_enter func178,ntmps178;go_wp2;clear qh qg qf;generalize hZ:h*4294967296+l=Z at*;have HZ:=Hx hZ;clear hZ;have qm:0<=Z/y:=Int.ediv_nonneg qa qO;have qi:Z/y<4294967296:=Int.ediv_lt_of_lt_mul hc (by rw[Int.mul_comm];exact qe);have qj:0<=Z%y:=Int.emod_nonneg _ qO;have qn:Z%y<y:=Int.emod_lt_of_pos _ hc;have ht:Z.tdiv y=Z/y:=Int.tdiv_eq_ediv_of_nonneg qa;have hm:Z.tmod y=Z%y:=Int.tmod_eq_emod_of_nonneg qa;go_quiet (fail);go_wp2;(go_ret2);refine⟨?_,_,rfl⟩;rw[HZ.o];rfl
theorem kQ A(n c:Nat)(ds:LN)w(hl:ds.length=n)(hc:n<=c)(hn:n<=1099511627776)(hlt:∀d∈ds,d<B32)(hr:RdT w 196 A (dE ds)):
  Calls prog 161 #[.s A n c] w (kP w (Dig.val B32 ds)):=by
 subst hl;go_enter func161,ntmps161;go_wp2;(go_loop [3] (fun t=>∃k:Nat,k<=ds.length/\t=vI k/\∀j,k<=j->j<ds.length->ds[j]?.getD 0=0) (fun t=>(intOf t).toNat));exact⟨ds.length,yX _,rfl,fun j h1 h2=>qO⟩;obtain⟨k,hk,rfl,hz⟩:=hrel;have HZ:=Hx hz;clear hz;by_cases h0:k=0;{subst h0;go_wp2;refine bodyPost_ret (v:=.agg #[zN]) (by simp[results,results161,go_sem]) rfl ⟨_,_,_,rfl,?_,(eR _).alloc _⟩;rw[jzf4 HZ.o];exact aE.zero _ _ _};obtain⟨b,o,rfl,hb,qa⟩:=hr.rd.u32 (k:=k-1) qO;have qe:=qa (k-1) qO;clear qa;obtain⟨d,hd⟩:∃d,d=ds[k-1]?.getD 0:=⟨_,rfl⟩;rw[<-hd]at qe;have HD:=Hx hd;clear hd;by_cases hd:d=0
 ·subst hd;go_wp2;go_round
  case rel=>
   exact⟨k-1,qO,by go_num,fun j h1 h2=>by
   by_cases e:j=k-1;{subst e;exact HD.o.symm}
   exact HZ.o j qO h2⟩
  simp[intOf];omega
 have qg:((d:Int)==0)=false:=yK.2 qO;have qf:((k:Int)==0)=false:=yK.2 qO;go_wp2;refine bodyPost_ret (v:=.agg #[.s (some (aD b o)) k k]) (by simp[results,results161,go_sem]) rfl ⟨_,_,_,rfl,?_,(eR _).alloc _⟩;exact(aE.of_take hr hk HZ.o (fun _=>by rw[<-HD.o];exact hd) hlt (yX _)).K ((eR _).alloc _)
theorem lE(x:Int)w(h0:0<=x)(h1:x<18446744073709551616):
  Calls prog 117 #[.int .u64 x] w (kP w x.toNat):=by
 obtain⟨X,rfl⟩:=kQj h0;go_enter func117,ntmps117;go_wp2_with fail;refine(kQ (sA (w.heap.size+1)) 2 2 [X%4294967296,X/4294967296] _ rfl (yX _) qO (by rw[aR];simp;omega) (RdT.new _ _ qS (by simp[dE]))).mono ?_;rintro e w1 ⟨A,n,c,rfl,hR,hx⟩;have qa:aE w1 A n c X:=(by (have e:Dig.val B32 [X%4294967296,X/4294967296]=X:=by simp only[Dig.val,aR];omega);rwa [e]at hR);have H:=Hx qa;clear hR qa;have HB:=Hx (((eN w 31 #[zN]).alloc _).K hx);obtain⟨hc,hf⟩:=oX hx;go_wp2;refine bodyPost_ret (v:=.agg #[.s A n c]) (by simp[results,results117,go_sem,(HB.o.sT 0 _).cell]) rfl ⟨_,_,_,rfl,H.o.sT HB.o qD _,?_⟩;exact((((eR _).alloc _).alloc _).trans (hx.mono (by simp;omega))).setCell qS _
theorem bO A(n c:Nat)w:
  Calls prog 58 #[.agg #[.s A n c]] w fun e w'=>e=.returned (.bool ((n:Int)==0))/\Ext w w':=by
 go_enter func58,ntmps58;go_wp2;go_ret;exact⟨rfl,(eR _).alloc _⟩
theorem val2(ds:LN)(h:ds.length=2):Dig.val B32 ds=ds[1]?.getD 0*4294967296+ds[0]?.getD 0:=by
 match ds,h with
 | [a,b],_=>simp only[Dig.val,aR];simp;omega
theorem kR A(n c N:Nat)w(h:aE w A n c N)(hN:N<18446744073709551616):
  Calls prog 172 #[.agg #[.s A n c]] w fun e w'=>e=.returned (.tuple #[.int .u64 (N:Int),.bool true])/\Ext w w':=by
 (obtain⟨ds,rfl,hc,qe,rfl,hr⟩:=h;have qh:ds.length<=2:=qe.len_le kC (by rw[sL];omega);have qf:ds.length=0\/ds.length=1\/ds.length=2:=qO;clear qh hN;rcases qf with h|h|h);{(have hv:Dig.val B32 ds=0:=by rw[kQp.1 h];rfl);rw[hv,h];clear hv h qe hr hc;go_enter func172,ntmps172;go_wp2;(go_ret2);exact⟨rfl,(eR _).alloc _⟩};{have hv:Dig.val B32 ds=ds[0]?.getD 0:=(by (match ds,h with| [a],_=>simp[Dig.val]));obtain⟨b,o,rfl,hb,qa⟩:=hr.rd.u32 (k:=0) qO;have h0:=qa 0 qO;rw[kQ3]at h0;have qg:=bY qe.lt 0;rw[aR]at qg;rw[hv,h];clear hv h qe hr hc qa;generalize ds[0]?.getD 0=d at*;go_enter func172,ntmps172;go_wp2;(go_ret2);exact⟨rfl,(eR _).alloc _⟩};have hv:=val2 ds h;obtain⟨b,o,rfl,hb,qa⟩:=hr.rd.u32 (k:=0) qO;have h0:=qa 0 qO;rw[kQ3]at h0;have h1:=qa 1 qO;have qg:=bY qe.lt 0;have qi:=bY qe.lt 1;rw[aR]at qg qi;rw[hv,h];clear hv h qe hr hc qa;generalize ds[0]?.getD 0=d at*;generalize ds[1]?.getD 0=f at*;have qj:=nA f d qO qO qO qO;go_enter func172,ntmps172;go_wp2;go_quiet (fail);go_wp2;(go_ret2);have e:((f*4294967296+d:Nat):Int)=(f:Int)*4294967296+(d:Int):=qO;rw[e];exact⟨rfl,((eR _).alloc _).drewN _⟩
theorem nC A(n c N:Nat)w(h:aE w A n c N)(hN:18446744073709551616<=N):
  Calls prog 172 #[.agg #[.s A n c]] w fun e w'=>e=.returned (.tuple #[.int .u64 0,bF])/\Ext w w':=by
 obtain⟨ds,rfl,hc,qa,rfl,hr⟩:=h;have qe:3<=ds.length:=(by (have h1:=Dig.val_lt bB qa.lt;rcases kQd ds.length 3 with h|h);{have:B32^ds.length<=B32^2:=kQk bB qO;rw[sL]at this;omega};exact h);have b0:((ds.length:Int)==0)=false:=yK.2 qO;have b1:((ds.length:Int)==1)=false:=yK.2 qO;have b2:((ds.length:Int)==2)=false:=yK.2 qO;clear hN qa hr hc;go_enter func172,ntmps172;go_wp2;(go_ret2);exact⟨rfl,(eR _).alloc _⟩
def aS(a b:Nat):Int:=if a<b then-1 else if a=b then 0 else 1
theorem jzf9(a b:Nat): -1<=aS a b/\aS a b<=1:=by unfold aS;split <;> (try split) <;> omega
theorem lF A1 A2(n1 c1 n2 c2 a b:Nat)w(h1:aE w A1 n1 c1 a)(h2:aE w A2 n2 c2 b)(hn:n1<=1099511627776):
  Calls prog 61 #[.agg #[.s A1 n1 c1],.agg #[.s A2 n2 c2]] w fun e w'=>e=.returned (vI (aS a b))/\Ext w w':=by
 obtain⟨xs,rfl,qH,qi,rfl,qo⟩:=h1;obtain⟨ys,rfl,qz,qj,rfl,qn⟩:=h2;by_cases hl:xs.length=ys.length
 ·(have qy:((xs.length:Int) !=(ys.length:Int))=false:=by simp[hl]);have HL:=Hx hl;clear hl;go_enter func61,ntmps61;go_wp2;go_quiet (fail);go_wp2;(go_loopw [7] (fun t wr=>∃(k m:Nat),k<=xs.length/\t=vI (k-1)/\wr=((w.alloc (.cells #[.s A1 xs.length c1] 31)).alloc (.cells #[.s A2 ys.length c2] 31)).drewN m/\∀j,k<=j->j<xs.length->xs[j]?.getD 0=ys[j]?.getD 0) (fun t _=>(intOf t+1).toNat));exact⟨xs.length,_,yX _,rfl,rfl,fun j h1 h2=>qO⟩;obtain⟨k,m,hk,rfl,rfl,hz⟩:=hrel;have HZ:=Hx hz;clear hz;by_cases h0:k=0;{subst h0;have qa:aS (Dig.val B32 xs) (Dig.val B32 ys)=0:=(by have e:xs=ys:=(by have:=Dig.drop_eq_of HL.o HZ.o;simpa using this);unfold aS;rw[e];simp);have HF:=Hx qa;clear qa;go_wp2;go_ret;rw[HF.o];exact⟨rfl,by repeat (first|exact eR _|refine Ext.drewN ?_ _|refine Ext.alloc ?_ _)⟩};(have qt:=HL.o;obtain⟨b1,o1,rfl,qC,qf⟩:=qo.rd.u32 (k:=k-1) qO;obtain⟨b2,o2,rfl,qA,qe⟩:=qn.rd.u32 (k:=k-1) qO;have qx:=qf (k-1) qO;have qw:=qe (k-1) qO;clear qf qe qo qn;obtain⟨d1,qk⟩:∃d,d=xs[k-1]?.getD 0:=⟨_,rfl⟩;obtain⟨d2,qg⟩:∃d,d=ys[k-1]?.getD 0:=⟨_,rfl⟩;rw[<-qk]at qx;rw[<-qg]at qw;have qm:=Hx qk;have qh:=Hx qg;have i0:(0:Int)<=(k:Int)-1:=qO;have i1:(k:Int)-1<(xs.length:Int):=qO;have i2:(k:Int)-1<(ys.length:Int):=qO;have i3:((k:Int)-1).toNat=k-1:=qO;clear qk qg qt;rcases Nat.lt_trichotomy d1 d2 with hd|hd|hd);{(have hb:decide (d1<d2)=true:=by simpa using hd);have qa:aS (Dig.val B32 xs) (Dig.val B32 ys)= -1:=(by unfold aS;rw[qE (Dig.val_lt_of_digit bB qi.lt HL.o (k:=k-1) qO (fun j h1 h2=>HZ.o j qO h2) (by rw[<-qm.o, <-qh.o];exact hd))]);have HF:=Hx qa;clear qa;go_wp2;go_quiet (fail);go_wp2;go_ret;rw[HF.o];exact⟨rfl,by repeat (first|exact eR _|refine Ext.drewN ?_ _|refine Ext.alloc ?_ _)⟩}
  ·subst hd;go_wp2;go_quiet (fail);go_wp2;go_quiet (fail);go_wp2;go_roundw
   case rel=>
    exact⟨k-1,_,qO,by go_num,rfl,fun j h1 h2=>by
    by_cases e:j=k-1;{subst e;rw[<-qm.o, <-qh.o]}
    exact HZ.o j qO h2⟩
   simp[intOf];omega
  have hb:decide (d1<d2)=false:=(by simp;omega);have qB:decide (d2<d1)=true:=(by simpa using hd);have qa:aS (Dig.val B32 xs) (Dig.val B32 ys)=1:=(by have:=Dig.val_lt_of_digit bB qj.lt HL.o.symm (k:=k-1) (by have:=HL.o;omega) (fun j h1 h2=>(HZ.o j qO (by have:=HL.o;omega)).symm) (by rw[<-qm.o, <-qh.o];exact hd);unfold aS;rw[qF qO,qF qO]);have HF:=Hx qa;clear qa;go_wp2;go_quiet (fail);go_wp2;go_quiet (fail);go_wp2;go_ret;rw[HF.o];exact⟨rfl,by repeat (first|exact eR _|refine Ext.drewN ?_ _|refine Ext.alloc ?_ _)⟩
 have qy:((xs.length:Int) !=(ys.length:Int))=true:=(by simp;omega);have qp:(decide (xs.length<ys.length)=true/\aS (Dig.val B32 xs) (Dig.val B32 ys)= -1)\/(decide (xs.length<ys.length)=false/\aS (Dig.val B32 xs) (Dig.val B32 ys)=1):=(by (rcases Nat.lt_or_gt_of_ne hl with h|h);{have:=qi.len_lt kC qj h;exact .inl ⟨by simp;omega,by unfold aS;rw[qE this]⟩};have:=qj.len_lt kC qi h;exact .inr ⟨by simp;omega,by unfold aS;rw[qF qO,qF qO]⟩);clear hl;rcases qp with⟨hd,hv⟩|⟨hd,hv⟩
 all_goals
  have HV:=Hx hv;clear hv
  go_enter func61,ntmps61
  go_wp2
  go_quiet (fail)
  go_wp2;go_ret;rw[HV.o];exact⟨rfl,by repeat (first|exact eR _|refine Ext.drewN ?_ _|refine Ext.alloc ?_ _)⟩
theorem Tryz.info167:(prog.info? 196).map (fun i=>(i.zero,i.size,i.bytes))=some (some (.int .u32 0),1,4):=by kernel_rfl
theorem pA{B k x y cr:Nat}{xs ys ds:LN}(hx:k<xs.length)(hd:k<ds.length)(ex:x=xs[k]?.getD 0)(ey:y=ys[k]?.getD 0)
  (h:Dig.val B (ds.take k)+B^k*cr=Dig.val B (xs.take k)+Dig.val B (ys.take k)):
  Dig.val B ((ds.set k ((x+y+cr)%B)).take (k+1))+B^(k+1)*((x+y+cr)/B)=Dig.val B (xs.take (k+1))+Dig.val B (ys.take (k+1)):=by
 have hy:Dig.val B (ys.take (k+1))=Dig.val B (ys.take k)+B^k*y:=(by subst ey;by_cases h:k<ys.length;{exact Dig.val_take_succ' B ys k h};rw[yU qO,yU qO,yI qO];simp);rw[Dig.val_take_set B ds k _ hd,hy,Dig.val_take_succ' B xs k hx];have e:B^k*((x+y+cr)%B)+B^(k+1)*((x+y+cr)/B)=B^k*(x+y+cr):=(by rw[vD,kQg, <-kQc,Nat.mod_add_div]);simp only[List.getD];rw[<-ex];have e2:B^k*(x+y+cr)=B^k*x+B^k*y+B^k*cr:=(by rw[kQc,kQc]);omega
theorem jzga A1 A2(n1 c1 n2 c2 a b:Nat)w(h1:aE w A1 n1 c1 a)(h2:aE w A2 n2 c2 b)(hn1:n1<=1073741824)(hn2:n2<=1073741824):
  Calls prog 122 #[.agg #[.s A1 n1 c1],.agg #[.s A2 n2 c2]] w (kP w (a+b)):=by
 obtain⟨xs,rfl,q9,qZ,rfl,q1⟩:=h1;obtain⟨ys,rfl,q8,q2,rfl,qY⟩:=h2;by_cases hl:xs.length<ys.length
 ·(have q7:decide (xs.length<ys.length)=true:=by simpa using hl);have qW:xs.length<=ys.length:=qO;have qH:=run_make_row' (P:=prog) 29 196 (.int .u32 0) 4 underlying29 Tryz.info167 rfl .i64 .i64 (ys.length+1) qO qO;rw[kZv,Int.natCast_one]at qH;clear hl;go_enter func122,ntmps122;go_wp2;clear qH
  go_loopw [6,27] (fun cy i wr=>∃(k cr:Nat) (ds:LN),k<=ys.length/\i=vI k/\cy=.int .u32 cr/\cr<=1/\ds.length=ys.length+1/\(∀d∈ds,d<B32)/\
    Dig.val B32 (ds.take k)+B32^k*cr=Dig.val B32 (ys.take k)+Dig.val B32 (xs.take k)/\
    Row wr (w.heap.size+3) ds/\Blk wr w.heap.size 31 #[.s A2 ys.length c2]/\Blk wr (w.heap.size+1) 31 #[.s A1 xs.length c1]/\Blk wr (w.heap.size+2) 31 #[zN]/\Ext w wr)
   (fun _ i _=>ys.length-(intOf i).toNat)
  (case atStart=>refine⟨0,0,List.replicate (ys.length+1) 0,yZ _,rfl,rfl,yZ _,qS,fun d hd=>?_,by simp[Dig.val],Row.made _ _ qS,?_,?_,?_,?_⟩;{have:=uF hd;subst this;exact bB};{exact((((eN w _ _).alloc _).alloc _).alloc _)};{exact((Blk.new' (w.alloc _) _ _ qS).alloc _).alloc _};{exact(Blk.new' ((w.alloc _).alloc _) _ _ qS).alloc _};exact(((eR _).alloc _).alloc _).alloc _ |>.alloc _);obtain⟨k,cr,ds,hk,rfl,rfl,q6,qI,qk,qm,qa,qt,qn,qw,hx⟩:=hrel;have HV:=Hx qm;have qg:=Hx qI;clear qm qI;have ca:=qt.cell 0;have cb:=qn.cell 0;simp only[xI,kQi]at ca cb;by_cases qp:k<ys.length
  ·obtain⟨b1,o1,rfl,qX,qf⟩:=qY.rd.u32 (k:=k) qp;have q5:wr.cell? (aD b1 (o1+k))=_:=(hx.cell (p:=(aD b1 (o1+k))) qX).trans (qf k qp);have qz:=qa.cell (i:=k) (by have:=qg.o;omega);have qB:=qa.frozen k;have qJ:=bY q2.lt k;rw[aR]at qJ;generalize hxe:ys[k]?.getD 0=x at*;generalize ds[k]?.getD 0=dk at*;have HX:=Hx hxe;clear hxe qf;have j1:(k:Int)<(ys.length:Int)+1:=qO;by_cases qy:k<xs.length
   ·obtain⟨b2,o2,rfl,qV,qe⟩:=q1.rd.u32 (k:=k) qy;have q4:wr.cell? (aD b2 (o2+k))=_:=(hx.cell (p:=(aD b2 (o2+k))) qV).trans (qe k qy);have qM:=bY qZ.lt k;rw[aR]at qM;generalize qo:xs[k]?.getD 0=y at*;have HY:=Hx qo;clear qo qe;(go_wp2_with (go_at_call 170;refine(nB _ _ _ _ qO qO qO qO qO qO).mono ?_;rintro e w' ⟨rfl,rfl⟩));(have qi:((x:Int)+y+cr)/4294967296=(((x+y+cr)/B32:Nat):Int):=(by rw[aR];omega);have qj:((x:Int)+y+cr)%4294967296=(((x+y+cr)%B32:Nat):Int):=by rw[aR];omega);go_roundw
    case rel=>
     rw[qj];exact⟨k+1,(x+y+cr)/B32,ds.set k ((x+y+cr)%B32),qO,by go_num,by rw[qi],by rw[aR];omega,by rw[yV];exact qg.o,Dig.set_lt qk (xT _ bB),
      pA qp (by have:=qg.o;omega) HX.o.symm HY.o.symm HV.o,qa.sT _ _,qt.far qL _,qn.far qL _,qw.far qL _,Below.setCell hx qL _⟩
    simp[intOf];omega
   (go_wp2_with (go_at_call 170;refine(nB _ _ _ _ qO qO qO qO qO qO).mono ?_;rintro e w' ⟨rfl,rfl⟩));(have qo:0=xs[k]?.getD 0:=(by rw[yI qO];rfl);have qi:((x:Int)+cr)/4294967296=(((x+0+cr)/B32:Nat):Int):=(by rw[aR];omega);have qj:((x:Int)+cr)%4294967296=(((x+0+cr)%B32:Nat):Int):=by rw[aR];omega);go_roundw
   case rel=>
    rw[qj];exact⟨k+1,(x+0+cr)/B32,ds.set k ((x+0+cr)%B32),qO,by go_num,by rw[qi],by rw[aR];omega,by rw[yV];exact qg.o,Dig.set_lt qk (xT _ bB),
     pA qp (by have:=qg.o;omega) HX.o.symm qo HV.o,qa.sT _ _,qt.far qL _,qn.far qL _,qw.far qL _,Below.setCell hx qL _⟩
   simp[intOf];omega
  (have qU:k=ys.length:=qO;subst qU;have qz:=qa.cell (i:=ys.length) (by have:=qg.o;omega);have qB:=qa.frozen ys.length;generalize ds[ys.length]?.getD 0=dk at*;have j1:(ys.length:Int)<(ys.length:Int)+1:=by omega);go_wp2_with fail;have qh:=qa.sT ys.length cr;have qC:Ext w (wr.setCell (aD (w.heap.size+3) ys.length) (.int .u32 cr)):=Below.setCell hx qL _;refine(kQ (sA (w.heap.size+3)) (ys.length+1) (ys.length+1) (ds.set ys.length cr) _ (by rw[yV];exact qg.o) (yX _) qO (Dig.set_lt qk (by rw[aR];omega)) qh.rdT).mono ?_;rintro e w1 ⟨A,n,c,rfl,hR,qx⟩;have qA:aE w1 A n c (Dig.val B32 xs+Dig.val B32 ys):=(by have e1:=Dig.val_take_set B32 ds ys.length cr (by have:=qg.o;omega);rw[yU (by rw[yV];have:=qg.o;omega)]at e1;have e2:=HV.o;rw[yU (yX _),yU qW]at e2;have e3:Dig.val B32 xs+Dig.val B32 ys=Dig.val B32 (ds.set ys.length cr):=qO;rw[e3];exact hR);have H:=Hx qA;have HB:=Hx ((qw.far (p:=(aD (w.heap.size+3) ys.length)) qL (.int .u32 cr)).K qx);have qT:=HB.o.cell 0;have q3:=HB.o.frozen 0;simp only[xI,kQi]at qT;have qQ:=Hx (qC.tr qx);clear hR qA qx qC qh qa qt qn qw hx ca cb qz qB;go_wp2;refine bodyPost_ret (v:=.agg #[.s A n c]) (by simp[results,results122,go_sem,(HB.o.sT 0 _).cell]) rfl ⟨_,_,_,rfl,H.o.sT HB.o qD _,Below.setCell qQ.o qL _⟩
 have q7:decide (xs.length<ys.length)=false:=(by simp;omega);have qW:ys.length<=xs.length:=qO;have qH:=run_make_row' (P:=prog) 29 196 (.int .u32 0) 4 underlying29 Tryz.info167 rfl .i64 .i64 (xs.length+1) qO qO;rw[kZv,Int.natCast_one]at qH;clear hl;go_enter func122,ntmps122;go_wp2;clear qH
 go_loopw [6,27] (fun cy i wr=>∃(k cr:Nat) (ds:LN),k<=xs.length/\i=vI k/\cy=.int .u32 cr/\cr<=1/\ds.length=xs.length+1/\(∀d∈ds,d<B32)/\
   Dig.val B32 (ds.take k)+B32^k*cr=Dig.val B32 (xs.take k)+Dig.val B32 (ys.take k)/\
   Row wr (w.heap.size+3) ds/\Blk wr w.heap.size 31 #[.s A1 xs.length c1]/\Blk wr (w.heap.size+1) 31 #[.s A2 ys.length c2]/\Blk wr (w.heap.size+2) 31 #[zN]/\Ext w wr)
  (fun _ i _=>xs.length-(intOf i).toNat)
 (case atStart=>refine⟨0,0,List.replicate (xs.length+1) 0,yZ _,rfl,rfl,yZ _,qS,fun d hd=>?_,by simp[Dig.val],Row.made _ _ qS,?_,?_,?_,?_⟩;{have:=uF hd;subst this;exact bB};{exact((((eN w _ _).alloc _).alloc _).alloc _)};{exact((Blk.new' (w.alloc _) _ _ qS).alloc _).alloc _};{exact(Blk.new' ((w.alloc _).alloc _) _ _ qS).alloc _};exact(((eR _).alloc _).alloc _).alloc _ |>.alloc _);obtain⟨k,cr,ds,hk,rfl,rfl,q6,qI,qk,qm,qa,qt,qn,qw,hx⟩:=hrel;have HV:=Hx qm;have qg:=Hx qI;clear qm qI;have ca:=qt.cell 0;have cb:=qn.cell 0;simp only[xI,kQi]at ca cb;by_cases qp:k<xs.length
 ·obtain⟨b1,o1,rfl,qX,qf⟩:=q1.rd.u32 (k:=k) qp;have q5:wr.cell? (aD b1 (o1+k))=_:=(hx.cell (p:=(aD b1 (o1+k))) qX).trans (qf k qp);have qz:=qa.cell (i:=k) (by have:=qg.o;omega);have qB:=qa.frozen k;have qJ:=bY qZ.lt k;rw[aR]at qJ;generalize hxe:xs[k]?.getD 0=x at*;generalize ds[k]?.getD 0=dk at*;have HX:=Hx hxe;clear hxe qf;have j1:(k:Int)<(xs.length:Int)+1:=qO;by_cases qy:k<ys.length
  ·obtain⟨b2,o2,rfl,qV,qe⟩:=qY.rd.u32 (k:=k) qy;have q4:wr.cell? (aD b2 (o2+k))=_:=(hx.cell (p:=(aD b2 (o2+k))) qV).trans (qe k qy);have qM:=bY q2.lt k;rw[aR]at qM;generalize qo:ys[k]?.getD 0=y at*;have HY:=Hx qo;clear qo qe;(go_wp2_with (go_at_call 170;refine(nB _ _ _ _ qO qO qO qO qO qO).mono ?_;rintro e w' ⟨rfl,rfl⟩));(have qi:((x:Int)+y+cr)/4294967296=(((x+y+cr)/B32:Nat):Int):=(by rw[aR];omega);have qj:((x:Int)+y+cr)%4294967296=(((x+y+cr)%B32:Nat):Int):=by rw[aR];omega);go_roundw
   case rel=>
    rw[qj];exact⟨k+1,(x+y+cr)/B32,ds.set k ((x+y+cr)%B32),qO,by go_num,by rw[qi],by rw[aR];omega,by rw[yV];exact qg.o,Dig.set_lt qk (xT _ bB),
     pA qp (by have:=qg.o;omega) HX.o.symm HY.o.symm HV.o,qa.sT _ _,qt.far qL _,qn.far qL _,qw.far qL _,Below.setCell hx qL _⟩
   simp[intOf];omega
  (go_wp2_with (go_at_call 170;refine(nB _ _ _ _ qO qO qO qO qO qO).mono ?_;rintro e w' ⟨rfl,rfl⟩));(have qo:0=ys[k]?.getD 0:=(by rw[yI qO];rfl);have qi:((x:Int)+cr)/4294967296=(((x+0+cr)/B32:Nat):Int):=(by rw[aR];omega);have qj:((x:Int)+cr)%4294967296=(((x+0+cr)%B32:Nat):Int):=by rw[aR];omega);go_roundw
  case rel=>
   rw[qj];exact⟨k+1,(x+0+cr)/B32,ds.set k ((x+0+cr)%B32),qO,by go_num,by rw[qi],by rw[aR];omega,by rw[yV];exact qg.o,Dig.set_lt qk (xT _ bB),
    pA qp (by have:=qg.o;omega) HX.o.symm qo HV.o,qa.sT _ _,qt.far qL _,qn.far qL _,qw.far qL _,Below.setCell hx qL _⟩
  simp[intOf];omega
 (have qU:k=xs.length:=qO;subst qU;have qz:=qa.cell (i:=xs.length) (by have:=qg.o;omega);have qB:=qa.frozen xs.length;generalize ds[xs.length]?.getD 0=dk at*;have j1:(xs.length:Int)<(xs.length:Int)+1:=by omega);go_wp2_with fail;have qh:=qa.sT xs.length cr;have qC:Ext w (wr.setCell (aD (w.heap.size+3) xs.length) (.int .u32 cr)):=Below.setCell hx qL _;refine(kQ (sA (w.heap.size+3)) (xs.length+1) (xs.length+1) (ds.set xs.length cr) _ (by rw[yV];exact qg.o) (yX _) qO (Dig.set_lt qk (by rw[aR];omega)) qh.rdT).mono ?_;rintro e w1 ⟨A,n,c,rfl,hR,qx⟩;have qA:aE w1 A n c (Dig.val B32 xs+Dig.val B32 ys):=(by have e1:=Dig.val_take_set B32 ds xs.length cr (by have:=qg.o;omega);rw[yU (by rw[yV];have:=qg.o;omega)]at e1;have e2:=HV.o;rw[yU (yX _),yU qW]at e2;have e3:Dig.val B32 xs+Dig.val B32 ys=Dig.val B32 (ds.set xs.length cr):=qO;rw[e3];exact hR);have H:=Hx qA;have HB:=Hx ((qw.far (p:=(aD (w.heap.size+3) xs.length)) qL (.int .u32 cr)).K qx);have qT:=HB.o.cell 0;have q3:=HB.o.frozen 0;simp only[xI,kQi]at qT;have qQ:=Hx (qC.tr qx);clear hR qA qx qC qh qa qt qn qw hx ca cb qz qB;go_wp2;refine bodyPost_ret (v:=.agg #[.s A n c]) (by simp[results,results122,go_sem,(HB.o.sT 0 _).cell]) rfl ⟨_,_,_,rfl,H.o.sT HB.o qD _,Below.setCell qQ.o qL _⟩
theorem jzx{B k x y br d br':Nat}{xs ys ds:LN}(hx:k<xs.length)(hd:k<ds.length)(ex:x=xs[k]?.getD 0)(ey:y=ys[k]?.getD 0)
  (h:Dig.val B (ds.take k)+Dig.val B (ys.take k)=Dig.val B (xs.take k)+B^k*br) (e:d+y+br=x+B*br'):
  Dig.val B ((ds.set k d).take (k+1))+Dig.val B (ys.take (k+1))=Dig.val B (xs.take (k+1))+B^(k+1)*br':=by
 have hy:Dig.val B (ys.take (k+1))=Dig.val B (ys.take k)+B^k*y:=(by subst ey;by_cases h:k<ys.length;{exact Dig.val_take_succ' B ys k h};rw[yU qO,yU qO,yI qO];simp);rw[Dig.val_take_set B ds k _ hd,hy,Dig.val_take_succ' B xs k hx];simp only[List.getD];rw[<-ex];have e2:B^k*(d+y+br)=B^k*(x+B*br'):=(by rw[e]);have e3:B^(k+1)*br'=B^k*(B*br'):=(by rw[vD,kQg]);rw[kQc,kQc,kQc]at e2;omega
theorem pB(x y br:Nat)(hx:x<4294967296)(hy:y<4294967296)(hb:br<=1):
  ∃d br':Nat,((x:Int)-y-br)%4294967296=d/\ -(((x:Int)-y-br)/4294967296)=br'/\d+y+br=x+B32*br'/\d<B32/\br'<=1:=by
 refine⟨(((x:Int)-y-br)%4294967296).toNat,(-(((x:Int)-y-br)/4294967296)).toNat,qO,qO,?_,?_,qO⟩;{rw[aR];omega};rw[aR];omega
theorem jzy A1 A2(n1 c1 n2 c2 a b:Nat)w(h1:aE w A1 n1 c1 a)(h2:aE w A2 n2 c2 b)(hn1:n1<=1073741824)(hab:b<=a):
  Calls prog 123 #[.agg #[.s A1 n1 c1],.agg #[.s A2 n2 c2]] w fun e w'=>∃(A:OA) (n c:Nat),e=.returned (.tuple #[.agg #[.s A n c],vI 0])/\aE w' A n c (a-b)/\Ext w w':=by
 have H1:=Hx h1;have H2:=Hx h2;obtain⟨xs,rfl,vj,qC,qH,qY⟩:=h1;obtain⟨ys,rfl,vi,qQ,qV,qW⟩:=h2;have q8:ys.length<=xs.length:=(by (rcases kQd xs.length ys.length with h|h);{have:=qC.len_lt kC qQ h;omega};exact h);have hq:0<=aS a b:=(by unfold aS;rw[qF qO];split <;> omega);have qX:=Hx qH;have qZ:=Hx qV;clear qH qV;have q6:=run_make_row' (P:=prog) 29 196 (.int .u32 0) 4 underlying29 Tryz.info167 rfl .i64 .i64 xs.length qO qO;go_enter func123,ntmps123;go_wp2_with fail;refine(lF A1 A2 xs.length c1 ys.length c2 a b _ ((H1.o.K ((eR _).alloc _)).K ((eR _).alloc _) |>.K ((eR _).alloc _)) ((H2.o.K ((eR _).alloc _)).K ((eR _).alloc _) |>.K ((eR _).alloc _)) qO).mono ?_;rintro e w1 ⟨rfl,qm⟩;have qi:=(((eN w 31 #[.s A1 xs.length c1]).alloc (.cells #[.s A2 ys.length c2] 31)).alloc (.cells #[zN] 31)).K qm;have qh:=((Blk.new' (g:=w.heap.size+1) (w.alloc (.cells #[.s A1 xs.length c1] 31)) 31 #[.s A2 ys.length c2] qS).alloc (.cells #[zN] 31)).K qm;have qk:=(Blk.new' (g:=w.heap.size+2) ((w.alloc (.cells #[.s A1 xs.length c1] 31)).alloc (.cells #[.s A2 ys.length c2] 31)) 31 #[zN] qS).K qm;have qJ:Ext w w1:=((((eR w).alloc _).alloc _).alloc _).tr qm;have hz:w.heap.size+3<=w1.heap.size:=(by have:=qm.size;simp at this;omega);have q1:w.heap.size<w1.heap.size:=qO;have q4:w.heap.size+1<w1.heap.size:=qO;have ca:=qi.cell 0;have cb:=qh.cell 0;simp only[xI,kQi]at ca cb;have va:=Hx qJ;clear qm qJ H1 H2;generalize hq':aS a b=q at*;clear hq';go_wp2;clear q6 q1 q4
 go_loopw [7,23] (fun cy i wr=>∃(k br:Nat) (ds:LN),k<=xs.length/\i=vI k/\cy=.int .u32 br/\br<=1/\ds.length=xs.length/\(∀d∈ds,d<B32)/\
   Dig.val B32 (ds.take k)+Dig.val B32 (ys.take k)=Dig.val B32 (xs.take k)+B32^k*br/\
   Row wr w1.heap.size ds/\Blk wr w.heap.size 31 #[.s A1 xs.length c1]/\Blk wr (w.heap.size+1) 31 #[.s A2 ys.length c2]/\Blk wr (w.heap.size+2) 31 #[zN]/\Ext w wr)
  (fun _ i _=>xs.length-(intOf i).toNat)
 (case atStart=>refine⟨0,0,List.replicate xs.length 0,yZ _,rfl,rfl,yZ _,qS,fun d hd=>?_,by simp[Dig.val],Row.made _ _ rfl,qi.alloc _,qh.alloc _,qk.alloc _,va.o.alloc _⟩;have:=uF hd;subst this;exact bB);clear qi qh qk ca cb;obtain⟨k,cr,ds,hk,rfl,rfl,qU,qT,qg,qn,qa,qi,qh,qk,hx⟩:=hrel;have HV:=Hx qn;have qj:=Hx qT;clear qn qT;have ca:=qi.cell 0;have cb:=qh.cell 0;simp only[xI,kQi]at ca cb;by_cases qp:k<xs.length
 ·obtain⟨b1,o1,rfl,q9,qf⟩:=qY.rd.u32 (k:=k) qp;have vh:wr.cell? (aD b1 (o1+k))=_:=(hx.cell (p:=(aD b1 (o1+k))) q9).trans (qf k qp);have vd:=qa.cell (i:=k) (by have:=qj.o;omega);have ve:=qa.frozen k;have qy:=bY qC.lt k;rw[aR]at qy;generalize hxe:xs[k]?.getD 0=x at*;generalize ds[k]?.getD 0=dk at*;have HX:=Hx hxe;clear hxe qf;by_cases qB:k<ys.length
  ·obtain⟨b2,o2,rfl,q7,qe⟩:=qW.rd.u32 (k:=k) qB;have vg:wr.cell? (aD b2 (o2+k))=_:=(hx.cell (p:=(aD b2 (o2+k))) q7).trans (qe k qB);have qM:=bY qQ.lt k;rw[aR]at qM;generalize qo:ys[k]?.getD 0=y at*;have HY:=Hx qo;clear qo qe;(go_wp2_with (go_at_call 171;refine(oZ _ _ _ _ qO qO qO qO qO qO).mono ?_;rintro e w' ⟨rfl,rfl⟩));obtain⟨d,qz,ed,eb,qw,qx,qA⟩:=pB x y cr qy qM qU;go_roundw
   case rel=>
    rw[ed];exact⟨k+1,qz,ds.set k d,qO,by go_num,by rw[eb],qA,by rw[yV];exact qj.o,Dig.set_lt qg qx,
     jzx qp (by have:=qj.o;omega) HX.o.symm HY.o.symm HV.o qw,qa.sT _ _,qi.far qL _,qh.far qL _,qk.far qL _,Below.setCell hx qL _⟩
   simp[intOf];omega
  (go_wp2_with (go_at_call 171;refine(oZ _ _ _ _ qO qO qO qO qO qO).mono ?_;rintro e w' ⟨rfl,rfl⟩));have qo:0=ys[k]?.getD 0:=(by rw[yI qO];rfl);obtain⟨d,qz,ed,eb,qw,qx,qA⟩:=pB x 0 cr qy qO qU;simp only[Int.natCast_zero,Int.sub_zero]at ed eb;go_roundw
  case rel=>
   rw[ed];exact⟨k+1,qz,ds.set k d,qO,by go_num,by rw[eb],qA,by rw[yV];exact qj.o,Dig.set_lt qg qx,
    jzx qp (by have:=qj.o;omega) HX.o.symm qo HV.o qw,qa.sT _ _,qi.far qL _,qh.far qL _,qk.far qL _,Below.setCell hx qL _⟩
  simp[intOf];omega
 have q5:k=xs.length:=qO;subst q5;go_wp2_with fail;refine(kQ (sA w1.heap.size) xs.length xs.length ds _ qj.o (yX _) qO qg qa.rdT).mono ?_;rintro e w2 ⟨A,n,c,rfl,hR,qt⟩;have qI:aE w2 A n c (a-b):=(by have e2:=HV.o;rw[yU (by rw[qj.o];exact yX _),yU (yX _),yU q8,qX.o,qZ.o]at e2;have h3:=Dig.val_lt bB qg;rw[qj.o]at h3;have h4:cr=0:=(by (rcases kQm cr with h|h);{exact h};have:cr=1:=qO;subst this;omega);subst h4;have:Dig.val B32 ds=a-b:=qO;rw[<-this];exact hR);have H:=Hx qI;have HB:=Hx (qk.K qt);have q3:=HB.o.cell 0;have vc:=HB.o.frozen 0;simp only[xI,kQi]at q3;have q2:=Hx (hx.tr qt);clear hR qI qt qa qi qh qk hx ca cb;go_wp2;refine bodyPost_ret (v:=.tuple #[.agg #[.s A n c],vI 0]) (by simp[results,results123,go_sem,(HB.o.sT 0 _).cell]) rfl ⟨_,_,_,rfl,H.o.sT HB.o qD _,Below.setCell q2.o qL _⟩
theorem jzgb{B j x y cr V S:Nat}{ds:LN}(hj:j<ds.length)(h:Dig.val B ds+B^j*cr=V+S):
  Dig.val B (ds.set j ((cr+(x*y+ds[j]?.getD 0))%B))+B^(j+1)*((cr+(x*y+ds[j]?.getD 0))/B)=V+(S+B^j*(x*y)):=by
 have h1:=Dig.val_set B ds j ((cr+(x*y+ds[j]?.getD 0))%B) hj;generalize ds[j]?.getD 0=d at*;have e:B^j*((cr+(x*y+d))%B)+B^(j+1)*((cr+(x*y+d))/B)=B^j*(cr+(x*y+d)):=(by rw[vD,kQg, <-kQc,Nat.mod_add_div]);have e2:B^j*(cr+(x*y+d))=B^j*cr+(B^j*(x*y)+B^j*d):=(by rw[kQc,kQc]);omega
theorem jzgc{B i k x y:Nat}{ys:LN}(hk:k<ys.length)(ey:y=ys[k]?.getD 0):
  x*B^i*Dig.val B (ys.take k)+B^(i+k)*(x*y)=x*B^i*Dig.val B (ys.take (k+1)):=by
 rw[Dig.val_take_succ' B ys k hk];simp only[List.getD];rw[<-ey,kQc,Nat.pow_add];simp only[kQg,vE,Nat.mul_left_comm]
theorem jzgd{B i x:Nat}{xs:LN}(v:Nat)(hi:i<xs.length)(ex:x=xs[i]?.getD 0):
  Dig.val B (xs.take i)*v+x*B^i*v=Dig.val B (xs.take (i+1))*v:=by
 rw[Dig.val_take_succ' B xs i hi];simp only[List.getD];rw[<-ex,xP,vE x]
theorem jzge(x y cr d:Nat)(hx:x<4294967296)(hy:y<4294967296)(hc:cr<4294967296)(hd:d<4294967296):
  (x:Int)*y<=18446744065119617025/\0<=(x:Int)*y/\(cr+(x*y+d))/B32<B32/\((cr:Int)+(x*y+d))/4294967296=(((cr+(x*y+d))/B32:Nat):Int)/\((cr:Int)+(x*y+d))%4294967296=(((cr+(x*y+d))%B32:Nat):Int):=by
 have h1:x*y<=4294967295*4294967295:=kQq qO qO;have e:(x:Int)*y=((x*y:Nat):Int):=(by rw[kZk]);rw[e,aR];refine⟨qO,qO,qO,qO,qO⟩
theorem jzz A1 A2(n1 c1 n2 c2 a b:Nat)w(h1:aE w A1 n1 c1 a)(h2:aE w A2 n2 c2 b)(hn1:n1<=1073741824)(hn2:n2<=1073741824):
  Calls prog 103 #[.agg #[.s A1 n1 c1],.agg #[.s A2 n2 c2]] w (kP w (a*b)):=by
 obtain⟨xs,rfl,vt,q9,qT,vc⟩:=h1;obtain⟨ys,rfl,vq,vj,q6,q8⟩:=h2;have qW:=Hx qT;have q1:=Hx q6;clear qT q6;by_cases z1:xs.length=0;{(have zb:((xs.length:Int)==0)=true:=by simp;exact kQp.1 z1);have hz:a*b=0:=(by rw[<-qW.o,kQp.1 z1];simp[Dig.val]);rw[hz];clear z1 hz;go_enter func103,ntmps103;go_wp2_with fail;refine(bO A1 xs.length c1 _).mono ?_;rintro e w1 ⟨rfl,qe⟩;have qf:=(Blk.new' (g:=w.heap.size+2) ((w.alloc (.cells #[.s A1 xs.length c1] 31)).alloc (.cells #[.s A2 ys.length c2] 31)) 31 #[zN] qS).K qe;have HX:=Hx (((((eR w).alloc _).alloc _).alloc _).tr qe);obtain⟨hc,hf⟩:=oX qe;go_wp2;refine bodyPost_ret (v:=.agg #[zN]) (by simp[results,results103,go_sem,(qf.sT 0 _).cell]) rfl ⟨_,_,_,rfl,aE.zero _ _ _,Below.setCell HX.o qL _⟩};have vn:((xs.length:Int)==0)=false:=(by simp;exact fun h=>z1 (by rw[h];rfl));by_cases z2:ys.length=0;{(have zb:((ys.length:Int)==0)=true:=by simp;exact kQp.1 z2);have hz:a*b=0:=(by rw[<-q1.o,kQp.1 z2];simp[Dig.val]);rw[hz];clear z1 z2 hz;go_enter func103,ntmps103;go_wp2_with fail;refine(bO A1 xs.length c1 _).mono ?_;rintro e w1 ⟨rfl,qe⟩;have qf:=(Blk.new' (g:=w.heap.size+2) ((w.alloc (.cells #[.s A1 xs.length c1] 31)).alloc (.cells #[.s A2 ys.length c2] 31)) 31 #[zN] qS).K qe;have HX:=Hx (((((eR w).alloc _).alloc _).alloc _).tr qe);obtain⟨hc,hf⟩:=oX qe;go_wp2_with fail;refine(bO A2 ys.length c2 _).mono ?_;rintro e w2 ⟨rfl,qn⟩;have qg:=qf.K qn;have qy:=Hx (HX.o.tr qn);have qJ:=qg.cell 0;have q7:=qg.frozen 0;simp only[xI,kQi]at qJ;clear qe qn hc hf qf;go_wp2;refine bodyPost_ret (v:=.agg #[zN]) (by simp[results,results103,go_sem,(qg.sT 0 _).cell]) rfl ⟨_,_,_,rfl,aE.zero _ _ _,Below.setCell qy.o qL _⟩};have vg:((ys.length:Int)==0)=false:=(by simp;exact fun h=>z2 (by rw[h];rfl));have q3:=run_make_row' (P:=prog) 29 196 (.int .u32 0) 4 underlying29 Tryz.info167 rfl .i64 .i64 (xs.length+ys.length) qO qO;rw[kZv]at q3;clear z1 z2;go_enter func103,ntmps103;go_wp2_with fail;refine(bO A1 xs.length c1 _).mono ?_;rintro e w1 ⟨rfl,qe⟩;have qk:=(((eN w 31 #[.s A1 xs.length c1]).alloc (.cells #[.s A2 ys.length c2] 31)).alloc (.cells #[zN] 31)).K qe;have qi:=((Blk.new' (g:=w.heap.size+1) (w.alloc (.cells #[.s A1 xs.length c1] 31)) 31 #[.s A2 ys.length c2] qS).alloc (.cells #[zN] 31)).K qe;have qf:=(Blk.new' (g:=w.heap.size+2) ((w.alloc (.cells #[.s A1 xs.length c1] 31)).alloc (.cells #[.s A2 ys.length c2] 31)) 31 #[zN] qS).K qe;have HX:=Hx (((((eR w).alloc _).alloc _).alloc _).tr qe);obtain⟨hc,hf⟩:=oX qe;go_wp2_with fail;refine(bO A2 ys.length c2 _).mono ?_;rintro e w2 ⟨rfl,qn⟩;have qw:=qk.K qn;have qt:=qi.K qn;have qg:=qf.K qn;have qy:=Hx (HX.o.tr qn);have hz:w.heap.size+3<=w2.heap.size:=(by have:=qe.size;have h':=qn.size;simp at this;omega);have vi:w.heap.size<w2.heap.size:=qO;have vk:w.heap.size+1<w2.heap.size:=qO;have ca:=qw.cell 0;have cb:=qt.cell 0;simp only[xI,kQi]at ca cb;clear qe qn hc hf qf qk qi HX;go_wp2;clear q3 vi vk vn vg
 go_loopw [29] (fun it wr=>∃(i:Nat) (ds:LN),i<=xs.length/\it=vI i/\ds.length=xs.length+ys.length/\(∀d∈ds,d<B32)/\
   Dig.val B32 ds=Dig.val B32 (xs.take i)*Dig.val B32 ys/\(∀j,i+ys.length<=j->ds[j]?.getD 0=0)/\
   Row wr w2.heap.size ds/\Blk wr w.heap.size 31 #[.s A1 xs.length c1]/\Blk wr (w.heap.size+1) 31 #[.s A2 ys.length c2]/\Blk wr (w.heap.size+2) 31 #[zN]/\Ext w wr)
  (fun i _=>xs.length-(intOf i).toNat)
 (case atStart=>refine⟨0,List.replicate (xs.length+ys.length) 0,yZ _,rfl,qS,fun d hd=>?_,by simp[Dig.val,Dig.val_replicate],fun j _=>?_,Row.made _ _ rfl,qw.alloc _,qt.alloc _,qg.alloc _,qy.o.alloc _⟩;{have:=uF hd;subst this;exact bB};rw[xB];split <;> rfl);clear qw qt qg ca cb qy;obtain⟨wo,rfl⟩:∃wo:World,wo=wr:=⟨_,rfl⟩;obtain⟨i,ds,hi,rfl,q4,qB,qA,qo,qa,qk,qi,qf,hx⟩:=hrel;have HV:=Hx qA;have q5:=Hx q4;have HZ:=Hx qo;clear qA q4 qo;have ca:=qk.cell 0;have cb:=qi.cell 0;simp only[xI,kQi]at ca cb;by_cases qM:i<xs.length
 ·obtain⟨b1,o1,rfl,vo,qm⟩:=vc.rd.u32 (k:=i) qM;have vh:wo.cell? (aD b1 (o1+i))=_:=(hx.cell (p:=(aD b1 (o1+i))) vo).trans (qm i qM);have qX:=bY q9.lt i;rw[aR]at qX;generalize hxe:xs[i]?.getD 0=x at*;have HX:=Hx hxe;clear hxe qm;go_wp2
  go_loopw [8,37] (fun cy kt wr=>∃(k cr:Nat) (es:LN),k<=ys.length/\kt=vI k/\cy=.int .u64 cr/\cr<B32/\es.length=xs.length+ys.length/\(∀d∈es,d<B32)/\
    Dig.val B32 es+B32^(i+k)*cr=Dig.val B32 ds+x*B32^i*Dig.val B32 (ys.take k)/\(∀j,i+ys.length<=j->es[j]?.getD 0=0)/\
    Row wr w2.heap.size es/\Blk wr w.heap.size 31 #[.s (some (aD b1 o1)) xs.length c1]/\Blk wr (w.heap.size+1) 31 #[.s A2 ys.length c2]/\Blk wr (w.heap.size+2) 31 #[zN]/\Ext w wr)
   (fun _ k _=>ys.length-(intOf k).toNat)
  (case atStart=>exact⟨0,0,ds,yZ _,rfl,rfl,bB,q5.o,qB,by simp[Dig.val],HZ.o,qa,qk,qi,qf,hx⟩);clear vh qa qk qi qf hx ca cb;obtain⟨k,cr,es,hk,rfl,rfl,qQ,qU,qx,qp,qj,qa,qk,qi,qf,hx⟩:=hrel;have q2:=Hx qp;have qz:=Hx qU;have qC:=Hx qj;clear qp qU qj;have ca:=qk.cell 0;have cb:=qi.cell 0;simp only[xI,kQi]at ca cb;rw[aR]at qQ;by_cases qI:k<ys.length;{obtain⟨b2,o2,rfl,vm,qh⟩:=q8.rd.u32 (k:=k) qI;have vp:wr.cell? (aD b2 (o2+k))=_:=(hx.cell (p:=(aD b2 (o2+k))) vm).trans (qh k qI);have qZ:=bY vj.lt k;rw[aR]at qZ;generalize hye:ys[k]?.getD 0=y at*;have HY:=Hx hye;clear hye qh;have va:=qa.cell (i:=i+k) (by have:=qz.o;omega);have ve:=qa.frozen (i+k);have qY:=bY qx (i+k);rw[aR]at qY;generalize hde:es[i+k]?.getD 0=d at*;have HD:=Hx hde;clear hde;obtain⟨t1,t2,t3,t4,t5⟩:=jzge x y cr d qX qZ qQ qY;have T3:=Hx t3;have T4:=Hx t4;have T5:=Hx t5;clear t3 t4 t5;have j1:(i:Int)+k<(xs.length:Int)+ys.length:=qO;have j2:((i:Int)+k).toNat=i+k:=qO;go_wp2;go_roundw;(case rel=>rw[T5.o];have hs:=jzgb (B:=B32) (x:=x) (y:=y) (by have:=qz.o;omega:i+k<es.length) q2.o;rw[HD.o,kZw i k 1]at hs;refine⟨k+1,(cr+(x*y+d))/B32,es.set (i+k) ((cr+(x*y+d))%B32),qO,by go_num,by rw[T4.o],T3.o,by rw[yV];exact qz.o,Dig.set_lt qx (xT _ bB),?_,?_,qa.sT _ _,qk.far qL _,qi.far qL _,qf.far qL _,Below.setCell hx qL _⟩;{rw[<-jzgc qI HY.o.symm];exact hs};intro j hj;rw[kZs,qF qO];exact qC.o j hj);simp[intOf];omega};have vl:k=ys.length:=qO;subst vl;have va:=qa.cell (i:=i+ys.length) (by have:=qz.o;omega);have ve:=qa.frozen (i+ys.length);have j1:(i:Int)+ys.length<(xs.length:Int)+ys.length:=qO;have j2:((i:Int)+ys.length).toNat=i+ys.length:=qO;generalize hde:es[i+ys.length]?.getD 0=d at*;clear hde;go_wp2;go_roundw;(case rel=>refine⟨i+1,es.set (i+ys.length) cr,qO,by go_num,by rw[yV];exact qz.o,Dig.set_lt qx (by rw[aR];exact qQ),?_,?_,qa.sT _ _,qk.far qL _,qi.far qL _,qf.far qL _,Below.setCell hx qL _⟩;{have e1:=Dig.val_set B32 es (i+ys.length) cr (by have:=qz.o;omega);rw[qC.o _ (yX _),kQ8,kQ3]at e1;have e2:=q2.o;rw[yU (yX _),HV.o,jzgd _ qM HX.o.symm]at e2;omega};intro j hj;rw[kZs,qF qO];exact qC.o j qO);simp[intOf];omega
 have vd:i=xs.length:=qO;subst vd;go_wp2_with fail;refine(kQ (sA w2.heap.size) (xs.length+ys.length) (xs.length+ys.length) ds _ q5.o (yX _) qO qB qa.rdT).mono ?_;rintro e w3 ⟨A,n,c,rfl,hR,qH⟩;have qV:aE w3 A n c (a*b):=(by have e2:=HV.o;rw[yU (yX _),qW.o,q1.o]at e2;rw[<-e2];exact hR);have H:=Hx qV;have HB:=Hx (qf.K qH);have qJ:=HB.o.cell 0;have q7:=HB.o.frozen 0;simp only[xI,kQi]at qJ;have qy:=Hx (hx.tr qH);clear hR qV qH qa qk qi qf hx ca cb;go_wp2;refine bodyPost_ret (v:=.agg #[.s A n c]) (by simp[results,results103,go_sem,(HB.o.sT 0 _).cell]) rfl ⟨_,_,_,rfl,H.o.sT HB.o qD _,Below.setCell qy.o qL _⟩
theorem jzgf{B k x b q r rest:Nat}{xs ds:LN}(hx:k<xs.length)(hd:k<ds.length)(ex:x=xs[k]?.getD 0)
  (h:Dig.val B (xs.drop (k+1))=Dig.val B (ds.drop (k+1))*b+rest) (e:rest*B+x=q*b+r):
  Dig.val B (xs.drop k)=Dig.val B ((ds.set k q).drop k)*b+r:=by
 rw[Dig.drop_set_self ds k q hd,Dig.val_cons,Dig.val_drop' B xs k hx,h];simp only[List.getD];rw[<-ex,xP,kQc, <-kQg];have:B*rest=rest*B:=vE _ _;omega
theorem jzgg(rest x b:Nat)(hr:rest<b)(hx:x<4294967296)(hb:b<4294967296):
  ∃q r:Nat,((rest:Int)*4294967296+x)/b=q/\((rest:Int)*4294967296+x)%b=r/\rest*B32+x=q*b+r/\q<B32/\r<b:=by
 refine⟨(rest*4294967296+x)/b,(rest*4294967296+x)%b,qS,qS,?_,?_,xT _ qO⟩;{rw[aR,vE _ b,kZj]};rw[aR];exact(kZp qO).2 qO
theorem sM A1(n1 c1 a b:Nat)w(h1:aE w A1 n1 c1 a)(hn1:n1<=1073741824)(hb0:0<b)(hbB:b<4294967296):
  Calls prog 132 #[.agg #[.s A1 n1 c1],.int .u32 (b:Int)] w fun e w'=>∃(A:OA) (n c:Nat),e=.returned (.tuple #[.agg #[.s A n c],.int .u32 ((a%b:Nat):Int)])/\aE w' A n c (a/b)/\Ext w w':=by
 obtain⟨xs,rfl,qW,qx,qn,qM⟩:=h1;have qI:=Hx qn;clear qn;have qJ:=run_make_row' (P:=prog) 29 196 (.int .u32 0) 4 underlying29 Tryz.info167 rfl .i64 .i64 xs.length qO qO;go_enter func132,ntmps132;go_wp2;clear qJ
 go_loopw [7,8] (fun cy it wr=>∃(k rest:Nat) (ds:LN),k<=xs.length/\it=vI (k-1)/\cy=.int .u32 rest/\rest<b/\ds.length=xs.length/\(∀d∈ds,d<B32)/\
   Dig.val B32 (xs.drop k)=Dig.val B32 (ds.drop k)*b+rest/\
   Row wr (w.heap.size+2) ds/\Blk wr w.heap.size 31 #[.s A1 xs.length c1]/\Blk wr (w.heap.size+1) 31 #[zN]/\Ext w wr)
  (fun _ i _=>(intOf i+1).toNat)
 (case atStart=>refine⟨xs.length,0,List.replicate xs.length 0,yX _,rfl,rfl,hb0,qS,fun d hd=>?_,?_,Row.made _ _ qS,((eN w _ _).alloc _).alloc _,(Blk.new' (w.alloc _) _ _ qS).alloc _,(((eR _).alloc _).alloc _).alloc _⟩;{have:=uF hd;subst this;exact bB};rw[kQf (yX _),kQf qS];simp[Dig.val]);obtain⟨k,cr,ds,hk,rfl,rfl,qm,qp,qg,qf,qe,qj,qk,hx⟩:=hrel;have HV:=Hx qf;have qh:=Hx qp;clear qf qp;have ca:=qj.cell 0;simp only[xI,kQi]at ca;by_cases qA:0<k
 ·obtain⟨b1,o1,rfl,qQ,qa⟩:=qM.rd.u32 (k:=k-1) qO;have qU:wr.cell? (aD b1 (o1+(k-1)))=_:=(hx.cell (p:=(aD b1 (o1+(k-1)))) qQ).trans (qa (k-1) qO);have qV:=qe.cell (i:=k-1) (by have:=qh.o;omega);have qX:=qe.frozen (k-1);have qt:=bY qx.lt (k-1);rw[aR]at qt;generalize hxe:xs[k-1]?.getD 0=x at*;generalize ds[k-1]?.getD 0=dk at*;have HX:=Hx hxe;clear hxe qa;(go_wp2_with (go_at_call 178;refine(jzf8 _ _ _ _ qO qO qO qO qO qO).mono ?_;rintro e w' ⟨rfl,m,rfl⟩));obtain⟨q,r,eq,er,qw,qC,qB⟩:=jzgg cr x b qm qt hbB;go_roundw
  case rel=>
   rw[eq];exact⟨k-1,r,ds.set (k-1) q,qO,by go_num,by rw[er],qB,by rw[yV];exact qh.o,Dig.set_lt qg qC,
    jzgf qO (by have:=qh.o;omega) HX.o.symm (by rw[Nat.sub_add_cancel qA];exact HV.o) qw,(qe.drewN _).sT _ _,(qj.drewN _).far qL _,(qk.drewN _).far qL _,Below.setCell (hx.drewN _) qL _⟩
  simp[intOf];omega
 have qH:k=0:=qO;subst qH;go_wp2_with fail;refine(kQ (sA (w.heap.size+2)) xs.length xs.length ds _ qh.o (yX _) qO qg qe.rdT).mono ?_;rintro e w2 ⟨A,n,c,rfl,hR,qi⟩;have e2:=HV.o;simp only[List.drop_zero]at e2;rw[qI.o]at e2;have ed:Dig.val B32 ds=a/b:=(by rw[e2,vE,Nat.mul_add_div hb0,Nat.div_eq_of_lt qm,kQ3]);have em:cr=a%b:=(by rw[e2,vE,Nat.mul_add_mod,kQv qm]);have qo:aE w2 A n c (a/b):=(by rw[<-ed];exact hR);have H:=Hx qo;have HM:=Hx em;have HB:=Hx (qk.K qi);have qz:=HB.o.cell 0;have qT:=HB.o.frozen 0;simp only[xI,kQi]at qz;have qy:=Hx (hx.tr qi);clear hR qo qi qe qj qk hx ca e2 ed em;go_wp2;refine bodyPost_ret (v:=.tuple #[.agg #[.s A n c],.int .u32 (cr:Int)]) (by simp[results,results132,go_sem,(HB.o.sT 0 _).cell]) rfl ⟨_,_,_,by rw[<-HM.o],H.o.sT HB.o qD _,Below.setCell qy.o qL _⟩
section
variable {w w':World} {g:Nat} {t:TypeId}
theorem Blk.one{v:Value}(h:Blk w g t #[v]):w.cell? (aD g 0)=some v/\w.frozen? (aD g 0)=false:=⟨h.cell 0,h.frozen 0⟩
theorem Blk.t3{a b c:Value}(h:Blk w g t #[a,b,c]):(w.cell? (aD g 0)=some a/\w.cell? (aD g 1)=some b/\w.cell? (aD g 2)=some c)/\
 w.frozen? (aD g 0)=false/\w.frozen? (aD g 1)=false/\w.frozen? (aD g 2)=false:=⟨⟨h.cell 0,h.cell 1,h.cell 2⟩,h.frozen 0,h.frozen 1,h.frozen 2⟩
end
theorem bA(w:World)(c0:Array Value)(t0:TypeId):Blk (w.alloc (.cells c0 t0)) w.heap.size t0 c0/\Ext w (w.alloc (.cells c0 t0)):=⟨eN w _ _,(eR w).alloc _⟩
theorem dK(w:World)(c0:Array Value)(t0:TypeId)(c1:Array Value)(t1:TypeId):
  Blk ((w.alloc (.cells c0 t0)).alloc (.cells c1 t1)) w.heap.size t0 c0/\Blk ((w.alloc (.cells c0 t0)).alloc (.cells c1 t1)) (w.heap.size+1) t1 c1/\Ext w ((w.alloc (.cells c0 t0)).alloc (.cells c1 t1)):=
 ⟨(eN w _ _).alloc _,Blk.new' _ _ _ qS,((eR w).alloc _).alloc _⟩
theorem iD(w:World)(c0:Array Value)(t0:TypeId)(c1:Array Value)(t1:TypeId)(c2:Array Value)(t2:TypeId):
  Blk (((w.alloc (.cells c0 t0)).alloc (.cells c1 t1)).alloc (.cells c2 t2)) w.heap.size t0 c0/\Blk (((w.alloc (.cells c0 t0)).alloc (.cells c1 t1)).alloc (.cells c2 t2)) (w.heap.size+1) t1 c1/\
  Blk (((w.alloc (.cells c0 t0)).alloc (.cells c1 t1)).alloc (.cells c2 t2)) (w.heap.size+1+1) t2 c2/\Ext w (((w.alloc (.cells c0 t0)).alloc (.cells c1 t1)).alloc (.cells c2 t2)):=
 ⟨((eN w _ _).alloc _).alloc _,(Blk.new' _ _ _ qS).alloc _,Blk.new' _ _ _ qS,(((eR w).alloc _).alloc _).alloc _⟩
theorem pC(w:World)(c0:Array Value)(t0:TypeId)(c1:Array Value)(t1:TypeId)(c2:Array Value)(t2:TypeId)(c3:Array Value)(t3:TypeId):
  Blk ((((w.alloc (.cells c0 t0)).alloc (.cells c1 t1)).alloc (.cells c2 t2)).alloc (.cells c3 t3)) w.heap.size t0 c0/\Blk ((((w.alloc (.cells c0 t0)).alloc (.cells c1 t1)).alloc (.cells c2 t2)).alloc (.cells c3 t3)) (w.heap.size+1) t1 c1/\
  Blk ((((w.alloc (.cells c0 t0)).alloc (.cells c1 t1)).alloc (.cells c2 t2)).alloc (.cells c3 t3)) (w.heap.size+1+1) t2 c2/\Blk ((((w.alloc (.cells c0 t0)).alloc (.cells c1 t1)).alloc (.cells c2 t2)).alloc (.cells c3 t3)) (w.heap.size+1+1+1) t3 c3/\
  Ext w ((((w.alloc (.cells c0 t0)).alloc (.cells c1 t1)).alloc (.cells c2 t2)).alloc (.cells c3 t3)):=
 ⟨(((eN w _ _).alloc _).alloc _).alloc _,((Blk.new' _ _ _ qS).alloc _).alloc _,(Blk.new' _ _ _ qS).alloc _,Blk.new' _ _ _ qS,((((eR w).alloc _).alloc _).alloc _).alloc _⟩
theorem Ext.sT{a w}(h:Ext a w){p:Addr}(hp:a.heap.size<=p.block)(u:Value):Ext a (w.setCell p u):=Below.setCell h hp u
def pD(w:World)(q r:Nat)(e:Ending)(w':World):Prop:=
 ∃(A:OA) (n c:Nat) (A':OA) (n' c':Nat),e=.returned (.tuple #[.agg #[.s A n c],.agg #[.s A' n' c'],vI 0])/\aE w' A n c q/\aE w' A' n' c' r/\Ext w w'
theorem jz0 A1 A2(n1 c1 n2 c2 a b:Nat)w(h1:aE w A1 n1 c1 a)(h2:aE w A2 n2 c2 b)(hn1:n1<=1073741824)(hab:a<b):
  Calls prog 126 #[.agg #[.s A1 n1 c1],.agg #[.s A2 n2 c2]] w (pD w 0 a):=by
 have H1:=Hx h1;have H2:=Hx h2;have z2:((n2:Int)==0)=false:=(by have:=h2.eq_zero;exact yK.2 qO);have hq:aS a b= -1:=(by unfold aS;rw[qE hab]);have HQ:=Hx hq;clear h1 h2 hq;go_enter func126,ntmps126;go_wp2_with fail;refine(bO A2 n2 c2 _).mono ?_;rintro e w1 ⟨rfl,qg⟩;obtain⟨qf,qi,qa,qe,e0⟩:=pC w #[.s A1 n1 c1] 31 #[.s A2 n2 c2] 31 #[zN] 31 #[zN] 31;have HX:=Hx (e0.tr qg);have qf:=qf.K qg;have qi:=qi.K qg;have qa:=qa.K qg;have qe:=qe.K qg;have ca:=qf.one.1;have cb:=qi.one.1;clear e0 qg;go_wp2_with fail;refine(lF A1 A2 n1 c1 n2 c2 a b _ (H1.o.K HX.o) (H2.o.K HX.o) qO).mono ?_;rintro e w2 ⟨rfl,qh⟩;rw[HQ.o];have qf:=qf.K qh;have qa:=qa.K qh;have qe:=qe.K qh;have qk:=Hx (HX.o.tr qh);obtain⟨d1,_⟩:=qf.one;obtain⟨d2,f2⟩:=qa.one;obtain⟨d3,f3⟩:=qe.one;clear qh ca cb qi;go_wp2;go_region
 go_wp2;have qm:=(qa.sT 0 zN).far (p:=(aD (w.heap.size+1+1+1) 0)) qL (.s A1 n1 c1);have qj:=(qe.far (p:=(aD (w.heap.size+1+1) 0)) qL zN);refine bodyPost_ret (v:=.tuple #[.agg #[zN],.agg #[.s A1 n1 c1],vI 0]) (by simp[results,results126,go_sem,qm.cell,(qj.sT 0 _).cell]) rfl
  ⟨_,_,_,_,_,_,rfl,aE.zero _ _ _,?_,?_⟩
 {exact((H1.o.K qk.o).sT (p:=(aD (w.heap.size+1+1) 0)) qa qD _).sT (p:=(aD (w.heap.size+1+1+1) 0)) qj qD _};exact((qk.o.sT qL _).sT qL _).drewN 1
theorem jzgh A1 A2(n1 c1 n2 c2 a b:Nat)w(h1:aE w A1 n1 c1 a)(h2:aE w A2 n2 c2 b)(hn1:n1<=1073741824)(hb0:0<b)(hab:b<=a)(ha:a<18446744073709551616):
  Calls prog 126 #[.agg #[.s A1 n1 c1],.agg #[.s A2 n2 c2]] w (pD w (a/b) (a%b)):=by
 have H1:=Hx h1;have H2:=Hx h2;have z2:((n2:Int)==0)=false:=(by have:=h2.eq_zero;exact yK.2 qO);have hq:0<=aS a b:=(by unfold aS;rw[qF qO];split <;> omega);clear h1 h2;go_enter func126,ntmps126;go_wp2_with fail;refine(bO A2 n2 c2 _).mono ?_;rintro e w1 ⟨rfl,qi⟩;obtain⟨qg,qf,qa,qe,e0⟩:=pC w #[.s A1 n1 c1] 31 #[.s A2 n2 c2] 31 #[zN] 31 #[zN] 31;have HX:=Hx (e0.tr qi);have qg:=qg.K qi;have qf:=qf.K qi;have qa:=qa.K qi;have qe:=qe.K qi;have ca:=qg.one.1;have cb:=qf.one.1;clear e0 qi;go_wp2_with fail;refine(lF A1 A2 n1 c1 n2 c2 a b _ (H1.o.K HX.o) (H2.o.K HX.o) qO).mono ?_;rintro e w2 ⟨rfl,qh⟩;generalize aS a b=q at*;have qg:=qg.K qh;have qf:=qf.K qh;have qa:=qa.K qh;have qe:=qe.K qh;have qp:=Hx (HX.o.tr qh);have ca:=qg.one.1;have cb:=qf.one.1;clear qh HX;go_wp2_with fail;refine(kR A1 n1 c1 a _ (H1.o.K qp.o) ha).mono ?_;rintro e w3 ⟨rfl,qj⟩;have qf:=qf.K qj;have qa:=qa.K qj;have qe:=qe.K qj;have qo:=Hx (qp.o.tr qj);have cb:=qf.one.1;clear qj qp qg ca;go_wp2_with fail;refine(kR A2 n2 c2 b _ (H2.o.K qo.o) qO).mono ?_;rintro e w4 ⟨rfl,qm⟩;have qa:=qa.K qm;have qe:=qe.K qm;have qx:=Hx (qo.o.tr qm);obtain⟨d2,f2⟩:=qa.one;obtain⟨d3,f3⟩:=qe.one;obtain⟨Q,hQ⟩:∃Q,Q=a/b:=⟨_,rfl⟩;obtain⟨R,qn⟩:∃R,R=a%b:=⟨_,rfl⟩;have qM:(a:Int).tdiv b=(Q:Int):=(by rw[Int.tdiv_eq_ediv_of_nonneg qO,hQ];simp);have qQ:(a:Int).tmod b=(R:Int):=(by rw[Int.tmod_eq_emod_of_nonneg qO,qn];simp);have qJ:Q<=a:=(by rw[hQ];exact kZi _ _);have qI:R<b:=(by rw[qn];exact xT _ hb0);have qT:¬b=0:=qO;have qU:IntKind.u64.wrap (Q:Int)=(Q:Int):=(by rw[IntKind.wrap_u64];exact Int.emod_eq_of_lt qO qO);have HQ:=Hx hQ;have HR:=Hx qn;clear qm qo qf cb hQ qn;go_wp2;have qa:Blk w4.drew _ _ _:=qa;have qe:Blk w4.drew _ _ _:=qe;have qx:Hid (Ext w w4.drew):=qx.o.drewN 1;have qy:True:=trivial
 go_region_held3 (fun _=>True) (trivial) (first
  |(go_at_call 117;have _t:=qy;refine(lE _ _ qO qO).mono ?_;rintro e w5 ⟨A5,n5,c5,rfl,qz,qt⟩;clear qy;have qa:=qa.K qt;have qe:=qe.K qt;have qC:=Hx (qx.o.tr qt);obtain⟨d2,f2⟩:=qa.one;obtain⟨d3,f3⟩:=qe.one)
  |(go_at_call 117;refine(lE _ _ qO qO).mono ?_;rintro e w6 ⟨A6,n6,c6,rfl,qB,qk⟩;have qa:=qa.K qk;have qe:=qe.K qk;have qA:=Hx (qC.o.tr qk);obtain⟨d2,f2⟩:=qa.one;obtain⟨d3,f3⟩:=qe.one))
 go_wp2;have e1:aE w6 A5 n5 c5 (a/b):=(by have:=qz.K qk;rw[<-HQ.o];exact this);have e2:aE w6 A6 n6 c6 (a%b):=(by rw[<-HR.o];exact qB);have qH:=(qa.sT 0 (.s A5 n5 c5)).far (p:=(aD (w.heap.size+1+1+1) 0)) qL (.s A6 n6 c6);have qw:=(qe.far (p:=(aD (w.heap.size+1+1) 0)) qL (.s A5 n5 c5));refine bodyPost_ret (v:=.tuple #[.agg #[.s A5 n5 c5],.agg #[.s A6 n6 c6],vI 0]) (by simp[results,results126,go_sem,qH.cell,(qw.sT 0 _).cell]) rfl
  ⟨_,_,_,_,_,_,rfl,?_,?_,?_⟩
 {exact(e1.sT (p:=(aD (w.heap.size+1+1) 0)) qa qD _).sT (p:=(aD (w.heap.size+1+1+1) 0)) qw qD _};{exact(e2.sT (p:=(aD (w.heap.size+1+1) 0)) qa qD _).sT (p:=(aD (w.heap.size+1+1+1) 0)) qw qD _};exact((qA.o.sT qL _).sT qL _)
def lG(x y:Nat):Prop:=∀(A1 A2:OA) (n1 c1 n2 c2:Nat) (w:World),aE w A1 n1 c1 x->aE w A2 n2 c2 y->n1<=1073741824->n2<=1073741824->
 Calls prog 126 #[.agg #[.s A1 n1 c1],.agg #[.s A2 n2 c2]] w (pD w (x/y) (x%y))
theorem sO{x y:Nat}(hy:0<y)(hx:x<18446744073709551616):lG x y:=fun A1 A2 n1 c1 n2 c2 w h1 h2 hn1 _=>by
 rcases kQd x y with h|h
 ·rw[Nat.div_eq_of_lt h,kQv h];exact jz0 A1 A2 n1 c1 n2 c2 x y w h1 h2 hn1 h
 ·exact jzgh A1 A2 n1 c1 n2 c2 x y w h1 h2 hn1 hy h hx
theorem aE.len_le{w w'}{A A'}{n c N n' c' M:Nat}(h:aE w A n c N)(h':aE w' A' n' c' M)(hle:N<=M):n<=n':=by
 obtain⟨xs,rfl,_,hx,rfl,_⟩:=h;obtain⟨ys,rfl,_,hy,rfl,_⟩:=h';rcases kQd ys.length xs.length with h|h
 ·have:=hy.len_lt kC hx h;omega
 exact h
theorem jzgi A1 A2(n1 c1 n2 c2 a b:Nat)w(h1:aE w A1 n1 c1 a)(h2:aE w A2 n2 c2 b)(hn1:n1<=1073741824)(hn2:n2<=1073741824)
  (qn:18446744073709551616<=a\/18446744073709551616<=b->∀x y,0<y->lG x y):
  Calls prog 125 #[.agg #[.s A1 n1 c1],.agg #[.s A2 n2 c2]] w (kP w (Nat.gcd a b)):=by
 have qW:=Hx qn;have H1:=Hx h1;have H2:=Hx h2;clear qn h1 h2
 go_enter func125,ntmps125
 go_wp2;obtain⟨qe,qf,qa,e0⟩:=iD w #[.s A1 n1 c1] 31 #[.s A2 n2 c2] 31 #[zN] 31
 go_loopg [5] b (fun m t wr=>∃(A A':OA) (n c n' c' x y:Nat),t=t/\y<=m/\Blk wr w.heap.size 31 #[.s A n c]/\Blk wr (w.heap.size+1) 31 #[.s A' n' c']/\Blk wr (w.heap.size+1+1) 31 #[zN]/\
  aE wr A n c x/\aE wr A' n' c' y/\n<=1073741824/\n'<=1073741824/\Nat.gcd x y=Nat.gcd a b/\(18446744073709551616<=x\/18446744073709551616<=y->18446744073709551616<=a\/18446744073709551616<=b)/\Ext w wr)
 case atStart=>exact⟨A1,A2,n1,c1,n2,c2,a,b,rfl,yX _,qe,qf,qa,H1.o.K e0,H2.o.K e0,hn1,hn2,rfl,id,e0⟩
 clear qe qf qa e0 H1 H2;obtain⟨A,A',n,c,n',c',x,y,_,vm,qe,qf,qa,hx,hy,hn,q1,hg,qp,qt⟩:=hrel;have ca:=qe.one.1;have cb:=qf.one.1;have G:=Hx hg;have qV:=Hx qp;have NX:=Hx hx;have NY:=Hx hy;clear hg qp;by_cases vc:y=0
 ·have zb:((n':Int)==0)=true:=by have:=hy.eq_zero;simp;omega
  clear hx hy
  go_wp2_with fail
  refine(bO A' n' c' _).mono ?_;rintro e w1 ⟨rfl,qh⟩;have qe:=qe.K qh;have qa:=qa.K qh;have ca:=qe.one.1;obtain⟨d2,f2⟩:=qa.one;have qw:=Hx (qt.tr qh);have qm:=Hx (NX.o.K qh);have qi:x=Nat.gcd a b:=(by rw[<-G.o,vc,Nat.gcd_zero_right]);have HF:=Hx qi;clear qh qi;go_wp2;refine bodyPost_ret (v:=.agg #[.s A n c]) (by simp[results,results125,go_sem,(qa.sT 0 _).cell]) rfl ⟨_,_,_,rfl,by rw[<-HF.o];exact qm.o.sT qa qD _,qw.o.sT qL _⟩
 have zb:((n':Int)==0)=false:=(by have:=hy.eq_zero;exact yK.2 qO);clear hx hy
 go_wp2_with fail
 refine(bO A' n' c' _).mono ?_;rintro e w1 ⟨rfl,qh⟩;have qe:=qe.K qh;have qf:=qf.K qh;have qa:=qa.K qh;have ca:=qe.one.1;have cb:=qf.one.1;have qw:=Hx (qt.tr qh);have qm:=Hx (NX.o.K qh);have qH:=Hx (NY.o.K qh);clear qh;by_cases qM:x<18446744073709551616/\y<18446744073709551616
 ·obtain⟨qJ,qQ⟩:=qM
  go_wp2_with fail
  refine(kR A n c x _ qm.o qJ).mono ?_;rintro e w2 ⟨rfl,qg⟩;have qf:=qf.K qg;have qa:=qa.K qg;have cb:=qf.one.1;have qA:=Hx (qw.o.tr qg);have qo:=Hx (qH.o.K qg);clear qg
  go_wp2_with fail
  refine(kR A' n' c' y _ qo.o qQ).mono ?_;rintro e w3 ⟨rfl,qj⟩;have qa:=qa.K qj;have qx:=Hx (qA.o.tr qj);clear qj;go_wp2
  go_loopw [5,7] (fun t5 t7 wr=>∃(p q m:Nat),t5=.int .u64 p/\t7=.int .u64 q/\p<18446744073709551616/\q<18446744073709551616/\Nat.gcd p q=Nat.gcd a b/\wr=w3.drewN m) (fun _ t7 _=>(intOf t7).toNat)
  case atStart=>exact⟨x,y,0,rfl,rfl,qJ,qQ,G.o,rfl⟩
  obtain⟨p,q,m,rfl,rfl,hp,hq,qX,rfl⟩:=hrel;have GP:=Hx qX;clear qX;by_cases qB:q=0
  ·subst qB
   have qi:p=Nat.gcd a b:=(by rw[<-GP.o,Nat.gcd_zero_right]);have HF:=Hx qi;clear qi
   go_wp2_with fail
   refine(lE p _ qO qO).mono ?_;rintro e w5 ⟨A5,n5,c5,rfl,qY,qy⟩;have qa:=(qa.drewN m).K qy;obtain⟨d2,f2⟩:=qa.one;have vj:=Hx ((qx.o.drewN m).tr qy);have R5:=Hx qY;clear qy qY;go_wp2;refine bodyPost_ret (v:=.agg #[.s A5 n5 c5]) (by simp[results,results125,go_sem,(qa.sT 0 _).cell]) rfl ⟨_,_,_,rfl,?_,vj.o.sT qL _⟩;have:=R5.o.sT (p:=(aD (w.heap.size+1+1) 0)) qa qD (.s A5 n5 c5);rw[xL,HF.o]at this;exact this
  have vn:((q:Int) !=0)=true:=bne_iff_ne.2 qO;have vh:¬q=0:=qB;obtain⟨r,hr⟩:∃r,r=p%q:=⟨_,rfl⟩;have vl:(p:Int).tmod q=(r:Int):=(by rw[Int.tmod_eq_emod_of_nonneg qO,hr];simp);have vk:r<q:=(by rw[hr];exact xT _ qO);have HR:=Hx hr;clear hr qB;go_wp2
  go_quiet (fail)
  go_wp2
  go_roundw
  case rel=>exact⟨q,r,m+nq,rfl,rfl,hq,qO,by rw[HR.o, <-GP.o,Nat.gcd_comm p q,Nat.gcd_rec q p,Nat.gcd_comm],by rw[World.drewN_drewN]⟩
  simp[intOf];omega
 have qn:=qW.o (qV.o qO) x y qO;have HD:=Hx qn;obtain⟨v1,qz,qZ,q6⟩:∃(v:Int) (bl:Bool),Calls prog 172 #[.agg #[.s A n c]] w1 (fun e w'=>e=.returned (.tuple #[.int .u64 v,.bool bl])/\Ext w1 w')/\(bl=true->18446744073709551616<=y):=by
  rcases kQd x 18446744073709551616 with h|h
  ·exact⟨_,_,kR A n c x _ qm.o h,fun _=>qO⟩
  exact⟨_,_,nC A n c x _ qm.o h,fun h=>by cases h⟩
 have qU:=Hx qZ;have qT:=Hx q6;clear qn qM qW qZ q6
 go_wp2_with fail
 refine qU.o.mono ?_;rintro e w2 ⟨rfl,qg⟩;have qe:=qe.K qg;have qf:=qf.K qg;have qa:=qa.K qg;have cb:=qf.one.1;have qA:=Hx (qw.o.tr qg);have ve:=Hx (qm.o.K qg);have qo:=Hx (qH.o.K qg);obtain⟨v2,vi,qC,q5⟩:∃(v:Int) (bl:Bool),Calls prog 172 #[.agg #[.s A' n' c']] w2 (fun e w'=>e=.returned (.tuple #[.int .u64 v,.bool bl])/\Ext w2 w')/\(18446744073709551616<=y->bl=false):=by
  rcases kQd y 18446744073709551616 with h|h
  ·exact⟨_,_,kR A' n' c' y _ qo.o h,fun _=>qO⟩
  exact⟨_,_,nC A' n' c' y _ qo.o h,fun _=>rfl⟩
 have q3:=Hx qC;have q2:=Hx q5;clear qg qC q5 qU
 go_wp2_with fail
 refine q3.o.mono ?_;rintro e w3 ⟨rfl,qj⟩;have qe:=qe.K qj;have qf:=qf.K qj;have qa:=qa.K qj;have ca:=qe.one.1;have cb:=qf.one.1;have qx:=Hx (qA.o.tr qj);have q9:=Hx (ve.o.K qj);have q4:=Hx (qo.o.K qj);have q8:qz=false\/(qz=true/\vi=false):=by
  cases qz
  ·exact .inl rfl
  exact .inr ⟨rfl,q2.o (qT.o rfl)⟩
 clear qj q3 qT q2;rcases q8 with rfl|⟨rfl,rfl⟩
 all_goals
  go_wp2_with fail
  refine(HD.o A A' n c n' c' _ q9.o q4.o hn q1).mono ?_;rintro e w4 ⟨B1,k1,d1,B2,k2,d2,rfl,hQ,hR,qk⟩;have qe:=qe.K qk;have qf:=qf.K qk;have qa:=qa.K qk;have z0:=qe.lt;have z1:=qf.lt;have f0:=qe.one.2;have f1:=qf.one.2;have ca:=qe.one.1;have cb:=qf.one.1;have vd:=Hx (qx.o.tr qk);have q7:=Hx (q4.o.K qk);have qI:=Hx hR;clear qk hQ hR;go_wp2
  go_region
  go_wp2;have hm:x%y<y:=xT _ qO;have b0:=(qe.sT 0 (.s A' n' c')).far (p:=(aD (w.heap.size+1) 0)) qL (.s B2 k2 d2);have b1:=(qf.far (p:=(aD w.heap.size 0)) qL (.s A' n' c'));have b2:=(qa.far (p:=(aD w.heap.size 0)) qL (.s A' n' c')).far (p:=(aD (w.heap.size+1) 0)) qL (.s B2 k2 d2);have va:=(q7.o.sT (p:=(aD w.heap.size 0)) qe qD (.s A' n' c')).sT (p:=(aD (w.heap.size+1) 0)) b1 qD (.s B2 k2 d2);have vg:=(qI.o.sT (p:=(aD w.heap.size 0)) qe qD (.s A' n' c')).sT (p:=(aD (w.heap.size+1) 0)) b1 qD (.s B2 k2 d2);have e5:=(vd.o.sT (p:=(aD w.heap.size 0)) qL (.s A' n' c')).sT (p:=(aD (w.heap.size+1) 0)) qL (.s B2 k2 d2)
  go_roundg (x%y)
  case measure=>omega
  have e6:Ext ((w4.setCell (aD w.heap.size 0) (.s A' n' c')).setCell (aD (w.heap.size+1) 0) (.s B2 k2 d2)) ((((w4.setCell (aD w.heap.size 0) (.s A' n' c')).setCell (aD (w.heap.size+1) 0) (.s B2 k2 d2)).alloc (.cells #[.s B1 k1 d1] 31)).alloc (.cells #[.s B2 k2 d2] 31)).drew:=(((eR _).alloc _).alloc _).drewN 1;refine⟨A',B2,n',c',k2,d2,y,x%y,trivial,yX _,?_,?_,?_,?_,?_,q1,?_,?_,?_,?_⟩
  ·exact b0.K e6
  ·exact(b1.sT 0 (.s B2 k2 d2)).K e6
  ·exact b2.K e6
  ·exact va.K e6
  ·exact vg.K e6
  ·have:=qI.o.len_le q7.o qO;omega
  ·rw[<-G.o,Nat.gcd_comm x y,Nat.gcd_rec y x,Nat.gcd_comm]
  ·intro h;exact qV.o (.inr qO)
  exact e5.tr e6
end Go.Proofs.YtfeeacaofjpkaaaGreatDoor
