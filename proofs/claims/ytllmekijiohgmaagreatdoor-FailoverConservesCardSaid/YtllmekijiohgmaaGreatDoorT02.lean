/- Part 2 of 23 of what the Flows claims share (the white space is struck, the texts are joined). -/
import Derived.WalkKit
import Derived.WalkSpells
import Derived.WalkLawsBesides
import Derived.KernelRfl
import Derived.Deep.QuietTactic
import Derived.BigQuiet
import Derived.Deep.RegionHeld3
import Derived.Deep.DeepFit
import Derived.Deep.LoopGhost
import Derived.Deep.OwnRows
import Derived.Laws.OwnMore
import Derived.Laws.CopyOwn
import Derived.RegionTactic
import Derived.ChangeAlike
import Derived.Deep.RegionWith
import Derived.Test.YtllmekijiohgmaaGreatDoorT01
set_option linter.unusedVariables false
set_option linter.unusedSimpArgs false
set_option maxRecDepth 100000
set_option maxHeartbeats 8000000
namespace Go.Proofs.YtllmekijiohgmaaGreatDoor.Dig
def val(B:Nat):LN->Nat
 | []=>0
 |d::ds=>d+B*val B ds
theorem val_nil(B:Nat):val B []=0:=rfl
theorem val_cons(B d:Nat)(ds:LN):val B (d::ds)=d+B*val B ds:=rfl
theorem kY(B:Nat)(xs ys:LN):val B (xs++ys)=val B xs+B^xs.length*val B ys:=by
 (induction xs with|nil=>simp[val]|cons x xs ih=>simp only[List.cons_append,val,ih,kQo,vD];grind)
theorem jzct(B d:Nat):val B [d]=d:=by simp[val]
theorem jzcu(B:Nat)(xs:LN)(d:Nat):val B (xs++[d])=val B xs+B^xs.length*d:=by rw[kY,jzct]
theorem uA(B:Nat)(xs:LN)(k:Nat)(h:k<xs.length):val B (xs.take (k+1))=val B (xs.take k)+B^k*xs[k]:=by
 rw[List.take_succ_eq_append_getElem h,jzcu,xF,kZh (by omega)]
theorem val_take_succ'(B:Nat)(xs:LN)(k:Nat)(h:k<xs.length):val B (xs.take (k+1))=val B (xs.take k)+B^k*xs.getD k 0:=by
 rw[uA B xs k h];simp[List.getD,h]
theorem val_lt{B:Nat}(_hB:0<B){ds:LN}(h:∀d∈ds,d<B):val B ds<B^ds.length:=by
 (induction ds with|nil=>simp[val]|cons d ds ih=>have h1:=ih (fun x hx=>h x (by simp[hx]));have h2:=h d (by simp);simp only[val,kQo,vD];have:B*(val B ds+1)<=B*B^ds.length:=kQh _ h1;have e:B^ds.length*B=B*B^ds.length:=vE _ _;rw[e];rw[kQc]at this;omega)
theorem val_replicate(B n:Nat):val B (List.replicate n 0)=0:=by
 (induction n with|zero=>rfl|succ n ih=>simp[List.replicate_succ,val,ih])
theorem jzcv(B:Nat)(xs:LN)(k:Nat):val B xs=val B (xs.take k)+B^(min k xs.length)*val B (xs.drop k):=by
 conv=>lhs;rw[<-kZz k xs]
 rw[kY,xF]
theorem val_split'(B:Nat)(xs:LN)(k:Nat)(h:k<=xs.length):val B xs=val B (xs.take k)+B^k*val B (xs.drop k):=by
 rw[jzcv B xs k,kZh h]
theorem jzcw(B:Nat)(xs:LN)(k:Nat)(h:k<xs.length):val B (xs.drop k)=xs[k]+B*val B (xs.drop (k+1)):=by
 rw[kQ6 h];rfl
theorem val_drop'(B:Nat)(xs:LN)(k:Nat)(h:k<xs.length):val B (xs.drop k)=xs.getD k 0+B*val B (xs.drop (k+1)):=by
 rw[jzcw B xs k h];simp[List.getD,h]
structure Canon(B:Nat)(ds:LN):Prop where
 lt:∀d∈ds,d<B
 top:ds.getLast?≠some 0
theorem Canon.nil(B:Nat):Canon B []:=⟨by simp,by simp⟩
theorem Canon.tail{B d:Nat}{ds:LN}(h:Canon B (d::ds)):Canon B ds:=by
 (refine⟨fun x hx=>h.lt x (by simp[hx]),?_⟩;cases ds with|nil=>simp|cons e es=>have:=h.top;rwa [List.getLast?_cons_cons]at this)
theorem Canon.pos{B:Nat}(hB:0<B):∀{ds:LN},Canon B ds->ds≠ []->0<val B ds
 | [],_,h=>absurd rfl h
 | [d],h,_=>by have:=h.top;simp at this;simp[val];omega
 |d::e::es,h,_=>by
  have:=Canon.pos hB h.tail (by simp);rw[val_cons];have:0<B*val B (e::es):=Nat.mul_pos hB this;omega
theorem Canon.val_zero{B:Nat}(hB:0<B){ds:LN}(h:Canon B ds)(h0:val B ds=0):ds=[]:=by
 by_cases hd:ds=[];{exact hd};have:=h.pos hB hd;omega
theorem Canon.ge{B:Nat}(hB:0<B){ds:LN}(h:Canon B ds)(hne:ds≠ []):B^(ds.length-1)<=val B ds:=by
 (induction ds with|nil=>exact absurd rfl hne|cons d ds ih=>(cases ds with|nil=>have:=h.pos hB (by simp);simp[val]at this⊢;omega|cons e es=>have:=ih h.tail (by simp);simp only[kQo,Nat.add_sub_cancel]at this⊢;rw[val_cons,vD];have:B*B^es.length<=B*val B (e::es):=kQh _ this;rw[vE (B^es.length)];omega))
theorem Canon.len_lt{B:Nat}(hB:1<B){xs ys:LN}(hx:Canon B xs)(hy:Canon B ys)(h:xs.length<ys.length):val B xs<val B ys:=by
 have h1:=val_lt (by omega) hx.lt;have h2:=hy.ge (by omega) (by intro e;simp[e]at h);have h3:B^xs.length<=B^(ys.length-1):=kQk (by omega) (by omega);omega
theorem Canon.len_le{B:Nat}(hB:1<B){ds:LN}(h:Canon B ds){k:Nat}(hv:val B ds<B^k):ds.length<=k:=by
 by_cases qa:ds=[];{simp[qa]};have h1:=h.ge (by omega) qa;have h2:B^(ds.length-1)<B^k:=(by omega);have:=(Nat.pow_lt_pow_iff_right hB).1 h2;omega
theorem uB{B:Nat}(hB:0<B):∀{xs ys:LN},(∀d∈xs,d<B)->(∀d∈ys,d<B)->xs.length=ys.length->val B xs=val B ys->xs=ys
 | [],[],_,_,_,_=>rfl
 | [],_::_,_,_,h,_=>by simp at h
 |_::_,[],_,_,h,_=>by simp at h
 |x::xs,y::ys,hx,hy,hl,hv=>by
  have qf:=hx x (by simp);have qe:=hy y (by simp);rw[val_cons,val_cons]at hv;have e1:(x+B*val B xs)%B=x:=(by rw[Nat.add_mul_mod_self_left,kQv qf]);have e2:(y+B*val B ys)%B=y:=(by rw[Nat.add_mul_mod_self_left,kQv qe]);have qa:x=y:=(by rw[<-e1, <-e2,hv]);subst qa;have:val B xs=val B ys:=Nat.eq_of_mul_eq_mul_left hB (by omega);rw[uB hB (fun d hd=>hx d (by simp[hd])) (fun d hd=>hy d (by simp[hd])) (by simpa using hl) this]
theorem Canon.unique{B:Nat}(hB:1<B){xs ys:LN}(hx:Canon B xs)(hy:Canon B ys)(h:val B xs=val B ys):xs=ys:=by
 (refine uB (by omega) hx.lt hy.lt ?_ h;rcases Nat.lt_trichotomy xs.length ys.length with hl|hl|hl);{have:=hx.len_lt hB hy hl;omega};{exact hl};have:=hy.len_lt hB hx hl;omega
def trim:LN->LN
 | []=>[]
 |d::ds=>match trim ds with
  | []=>if d=0 then []else [d]
  |e::es=>d::e::es
theorem trim_val(B:Nat)(ds:LN):val B (trim ds)=val B ds:=by
 (induction ds with|nil=>rfl|cons d ds ih=>simp only[trim];split;{rename_i h;rw[h]at ih;rw[val_cons, <-ih,val_nil];split <;> simp[val, *]};rename_i e es h;rw[h]at ih;rw[val_cons B d (e::es),ih,val_cons])
theorem jzcx(ds:LN):trim (ds++[0])=trim ds:=by
 (induction ds with|nil=>rfl|cons d ds ih=>simp only[List.cons_append,trim,ih])
theorem jzcy(ds:LN)(d:Nat)(hd:d≠0):trim (ds++[d])=ds++[d]:=by
 (induction ds with|nil=>simp[trim,hd]|cons e es ih=>simp only[List.cons_append,trim,ih];split;{rename_i h;simp at h};rename_i h;rw[<-h])
theorem trim_take(ds:LN)(n:Nat)(hn:n<=ds.length)(hz:∀k,n<=k->k<ds.length->ds.getD k 0=0):trim ds=trim (ds.take n):=by
 (induction hm:ds.length-n generalizing n with|zero=>rw[yU (by omega)]|succ m ih=>have h:=ih (n+1) (by omega) (fun k hk hk'=>hz k (by omega) hk') (by omega);rw[h,List.take_succ_eq_append_getElem (by omega:n<ds.length)];have h0:=hz n (by omega) (by omega);simp only[List.getD,yG (by omega:n<ds.length),kQ1]at h0;rw[h0,jzcx])
theorem jzcz{ds:LN}(h:ds.getLast?≠some 0):trim ds=ds:=by
 rcases List.eq_nil_or_concat ds with rfl|⟨xs,x,rfl⟩
 ·rfl
 rw[List.concat_eq_append]at h⊢;exact jzcy xs x (by simpa using h)
theorem Canon.trim{B:Nat}{ds:LN}(h:Canon B ds):Dig.trim ds=ds:=jzcz h.top
theorem drop_eq_of{xs ys:LN}(hl:xs.length=ys.length){k:Nat}(heq:∀j,k<=j->j<xs.length->xs[j]?.getD 0=ys[j]?.getD 0):xs.drop k=ys.drop k:=by
 apply uK;intro i;rw[List.getElem?_drop,List.getElem?_drop];by_cases h:k+i<xs.length;{have:=heq (k+i) (by omega) h;rw[yG h,yG (by omega:k+i<ys.length)]at this⊢;simpa using this};rw[yI (by omega),yI (by omega)]
theorem val_lt_of_digit{B:Nat}(hB:0<B){xs ys:LN}(hx:∀d∈xs,d<B)(hl:xs.length=ys.length){k:Nat}(hk:k<xs.length)
  (heq:∀j,k<j->j<xs.length->xs[j]?.getD 0=ys[j]?.getD 0) (hlt:xs[k]?.getD 0<ys[k]?.getD 0):val B xs<val B ys:=by
 rw[val_split' B xs (k+1) (by omega),val_split' B ys (k+1) (by omega),drop_eq_of hl (k:=k+1) (fun j h1 h2=>heq j (by omega) h2),
  val_take_succ' B xs k hk,val_take_succ' B ys k (by omega)]
 simp only[List.getD]at*;have h1:val B (xs.take k)<B^k:=(by have:=val_lt hB (ds:=xs.take k) (fun d hd=>hx d (xM hd));rwa [xF,kZh (by omega)]at this);have h2:B^k*(xs[k]?.getD 0+1)<=B^k*ys[k]?.getD 0:=kQh _ hlt;rw[kQc]at h2;omega
theorem jzc0(ds:LN)(k j d:Nat)(h:j<=k):(ds.set k d).take j=ds.take j:=by
 apply uK;intro i;simp only[xG,kZs];split;{rw[if_neg (by omega)]};rfl
theorem val_take_set(B:Nat)(ds:LN)(k d:Nat)(h:k<ds.length):val B ((ds.set k d).take (k+1))=val B (ds.take k)+B^k*d:=by
 rw[uA B _ k (by simpa using h),jzc0 ds k k d (yX _)];simp
theorem uC(ds:LN)(k j d:Nat)(h:k<j):(ds.set k d).drop j=ds.drop j:=by
 apply uK;intro i;simp only[List.getElem?_drop,kZs];rw[if_neg (by omega)]
theorem set_lt{B:Nat}{ds:LN}(h:∀d∈ds,d<B){k x:Nat}(hx:x<B):∀d∈ds.set k x,d<B:=fun d hd=>by
 rcases xE hd with h1|h1
 ·exact h d h1
 ·omega
theorem val_set(B:Nat)(ds:LN)(j d:Nat)(h:j<ds.length):val B (ds.set j d)+B^j*ds[j]?.getD 0=val B ds+B^j*d:=by
 rw[val_split' B (ds.set j d) (j+1) (by rw[yV];omega),val_split' B ds (j+1) (by omega),uC ds j (j+1) d (by omega),val_take_set B ds j d h,val_take_succ' B ds j h];simp only[List.getD];omega
theorem drop_set_self(ds:LN)(k d:Nat)(h:k<ds.length):(ds.set k d).drop k=d::ds.drop (k+1):=by
 rw[kQ6 (by rw[yV];exact h),uC ds k (k+1) d (by omega)];simp
end Go.Proofs.YtllmekijiohgmaaGreatDoor.Dig
namespace Go.Proofs.YtllmekijiohgmaaGreatDoor
open Go.RowKit
def B32:Nat:=4294967296
theorem aT:B32=4294967296:=rfl
theorem aY:0<B32:=by decide
theorem pH:B32^2=18446744073709551616:=by decide
theorem fL:1<B32:=by decide
def Rd(w:World)(A:OA)(xs:List Value):Prop:=
 xs≠ []->∃b o:Nat,A=some (aD b o)/\b<w.heap.size/\∀i,i<xs.length->w.cell? (aD b (o+i))=xs[i]?
theorem Rd.nil w A:Rd w A []:=fun h=>absurd rfl h
theorem Rd.at_{w}{A}{xs:List Value}(h:Rd w A xs){i:Nat}(hi:i<xs.length):
 ∃b o:Nat,A=some (aD b o)/\b<w.heap.size/\∀i,i<xs.length->w.cell? (aD b (o+i))=xs[i]?:=h (by intro e;simp[e]at hi)
theorem Rd.K{w w'}{A}{xs:List Value}(h:Rd w A xs)(hb:Below w.heap.size w w'):Rd w' A xs:=fun hne=>by
 obtain⟨b,o,e,qa,hc⟩:=h hne;exact⟨b,o,e,yL qa hb.size,fun i hi=>(hb.cell (p:=(aD b (o+i))) qa).trans (hc i hi)⟩
theorem Rd.take{w}{A}{xs:List Value}(h:Rd w A xs)(k:Nat):Rd w A (xs.take k):=fun hne=>by
 obtain⟨b,o,e,qa,hc⟩:=h (by intro e;simp[e]at hne);refine⟨b,o,e,qa,fun i hi=>?_⟩;rw[xF]at hi;rw[hc i (by omega),xG,if_pos (by omega)]
theorem Rd.new(w:World)(t:TypeId)(cs:Array Value){g:Nat}{xs:List Value}(hg:g=w.heap.size)(hx:xs=cs.toList):Rd (w.alloc (.cells cs t)) (sA g) xs:=fun _=>by
 subst hg;subst hx;refine⟨w.heap.size,0,rfl,by simp,fun i hi=>?_⟩;have h:(w.alloc (.cells cs t)).heap[w.heap.size]?=some (.cells cs t (0,0)):=heap_alloc_new w _;rw[kQu,cell_of_row _ _ _ _ _ _ h];simp
abbrev Ext(w w':World):Prop:=Below w.heap.size w w'
theorem Ext.refl w:Ext w w:=Below.refl _ _
theorem eR:type_of% @Ext.refl:=@Ext.refl
theorem Ext.alloc{a w}(h:Ext a w)(o:Obj):Ext a (w.alloc o):=Below.alloc h h.size o
theorem Ext.drewN{a w}(h:Ext a w)(n:Nat):Ext a (w.drewN n):=⟨h.os,h.tape,h.output,h.size,h.block⟩
theorem Ext.tr{a b c}(h:Ext a b)(k:Ext b c):Ext a c:=h.trans (k.mono h.size)
def Blk(w:World)(g:Nat)(t:TypeId)(cs:Array Value):Prop:=w.heap[g]?=some (.cells cs t (0,0))
section
variable {w w':World} {g:Nat} {t:TypeId} {cs:Array Value}
theorem Blk.lt(h:Blk w g t cs):g<w.heap.size:=by
 rcases kQd g w.heap.size with hlt|hge
 ·exact hlt
 unfold Blk at h;rw[kQn hge]at h;cases h
theorem Blk.cell(h:Blk w g t cs)(i:Nat):w.cell? (aD g i)=cs[i]?:=cell_of_row w g i cs t (0,0) h
theorem Blk.frozen(h:Blk w g t cs)(i:Nat):w.frozen? (aD g i)=false:=by
 unfold Blk at h;simp[World.frozen?,h]
theorem Blk.new(w:World)(t:TypeId)(cs:Array Value):Blk (w.alloc (.cells cs t)) w.heap.size t cs:=heap_alloc_new w _
theorem eN:type_of% @Blk.new:=@Blk.new
theorem Blk.new'(w:World)(t:TypeId)(cs:Array Value)(hg:g=w.heap.size):Blk (w.alloc (.cells cs t)) g t cs:=by subst hg;exact heap_alloc_new w _
theorem Blk.drewN(h:Blk w g t cs)(n:Nat):Blk (w.drewN n) g t cs:=h
theorem Blk.alloc(h:Blk w g t cs)(o:Obj):Blk (w.alloc o) g t cs:=(Below.heap_alloc w o g h.lt).trans h
theorem Blk.sT(h:Blk w g t cs)(i:Nat)(u:Value):Blk (w.setCell (aD g i) u) g t (cs.setIfInBounds i u):=by
 unfold Blk at h⊢;simp[World.setCell,Array.getElem?_modify,h]
theorem Blk.far(h:Blk w g t cs){p:Addr}(hp:g≠p.block)(u:Value):Blk (w.setCell p u) g t cs:=(Below.heap_setCell w p u g hp).trans h
theorem Blk.K(h:Blk w g t cs)(hb:Ext w w'):Blk w' g t cs:=(hb.block g h.lt).trans h
theorem Blk.ne_{g':Nat}{t':TypeId}{cs':Array Value}(h:Blk w g t cs)(h':Blk w g' t' cs')(hne:t≠t'):g≠g':=by
 rintro rfl;unfold Blk at h h';rw[h]at h';injection h' with h'
 injection h' with _ ht
 exact hne ht
end
def RdT(w:World)(t:TypeId)(A:OA)(xs:List Value):Prop:=
 xs≠ []->∃(b o:Nat) (cs:Array Value) (fr:Nat×Nat),A=some (aD b o)/\w.heap[b]?=some (.cells cs t fr)/\∀i,i<xs.length->cs[o+i]?=xs[i]?
section
variable {w w':World} {t:TypeId} {A:Option Addr} {xs:List Value}
theorem RdT.nil w(t:TypeId)A:RdT w t A []:=fun h=>absurd rfl h
theorem RdT.rd(h:RdT w t A xs):Rd w A xs:=fun hne=>by
 obtain⟨b,o,cs,fr,e,hb,hc⟩:=h hne;refine⟨b,o,e,?_,fun i hi=>(cell_of_row w b (o+i) cs t fr hb).trans (hc i hi)⟩;rcases kQd b w.heap.size with hlt|hge
 ·exact hlt
 ·rw[kQn hge]at hb;cases hb
theorem RdT.K(h:RdT w t A xs)(hb:Ext w w'):RdT w' t A xs:=fun hne=>by
 obtain⟨b,o,cs,fr,e,h1,hc⟩:=h hne;obtain⟨b',o',e',qa,_⟩:=h.rd hne;have:b'=b:=(by rw[e]at e';injection e' with e';injection e' with e1;exact e1.symm);subst this;exact⟨b',o,cs,fr,e,(hb.block b' qa).trans h1,hc⟩
theorem RdT.take(h:RdT w t A xs)(k:Nat):RdT w t A (xs.take k):=fun hne=>by
 obtain⟨b,o,cs,fr,e,hb,hc⟩:=h (by intro e;simp[e]at hne);refine⟨b,o,cs,fr,e,hb,fun i hi=>?_⟩;rw[xF]at hi;rw[hc i (by omega),xG,if_pos (by omega)]
theorem RdT.sT(h:RdT w t A xs){p:Addr}{t':TypeId}{cs':Array Value}(hp:Blk w p.block t' cs')(hne:t≠t')(u:Value):RdT (w.setCell p u) t A xs:=fun hx=>by
 obtain⟨b,o,cs,fr,e,hb,hc⟩:=h hx;refine⟨b,o,cs,fr,e,(Below.heap_setCell w p u b ?_).trans hb,hc⟩;rintro rfl;unfold Blk at hp;rw[hb]at hp;injection hp with hp
 injection hp with _ ht
 exact hne ht
theorem RdT.new{g:Nat}{cs:Array Value}(w:World)(t:TypeId)(hg:g=w.heap.size)(hx:xs=cs.toList):RdT (w.alloc (.cells cs t)) t (sA g) xs:=fun _=>by
 subst hg;subst hx;exact⟨w.heap.size,0,cs,(0,0),rfl,heap_alloc_new w _,fun i hi=>by simp⟩
theorem RdT.of_blk{g:Nat}{cs:Array Value}(h:Blk w g t cs)(hx:xs=cs.toList):RdT w t (sA g) xs:=fun _=>by
 subst hx;exact⟨g,0,cs,(0,0),rfl,h,fun i hi=>by simp⟩
end
def dD(ds:LN):List Value:=ds.map fun d:Nat=>Value.int .u32 (d:Int)
theorem uD(ds:LN):(dD ds).length=ds.length:=by simp[dD]
theorem uE(ds:LN)(i:Nat)(h:i<ds.length):(dD ds)[i]?=some (.int .u32 ((ds[i]?.getD 0:Nat):Int)):=by
 simp[dD,h]
theorem uG(ds:LN)(k:Nat):dD (ds.take k)=(dD ds).take k:=by simp[dD]
theorem Rd.u32{w}{A}{ds:LN}(h:Rd w A (dD ds)){k:Nat}(hk:k<ds.length):
  ∃b o:Nat,A=some (aD b o)/\b<w.heap.size/\∀i,i<ds.length->w.cell? (aD b (o+i))=some (.int .u32 ((ds[i]?.getD 0:Nat):Int)):=by
 obtain⟨b,o,e,qa,hc⟩:=h.at_ (i:=k) (by rw[uD];exact hk);exact⟨b,o,e,qa,fun i hi=>(hc i (by rw[uD];exact hi)).trans (uE ds i hi)⟩
def Row(w:World)(g:Nat)(ds:LN):Prop:=Blk w g 168 (dD ds).toArray
section
variable {w w':World} {g:Nat} {ds:List Nat}
theorem Row.lt(h:Row w g ds):g<w.heap.size:=Blk.lt h
theorem Row.cell(h:Row w g ds){i:Nat}(hi:i<ds.length):w.cell? (aD g i)=some (.int .u32 ((ds[i]?.getD 0:Nat):Int)):=by
 rw[Blk.cell h i,xI,uE ds i hi]
theorem Row.frozen(h:Row w g ds)(i:Nat):w.frozen? (aD g i)=false:=Blk.frozen h i
theorem Row.K(h:Row w g ds)(hb:Ext w w'):Row w' g ds:=Blk.K h hb
theorem Row.alloc(h:Row w g ds)(o:Obj):Row (w.alloc o) g ds:=Blk.alloc h o
theorem Row.drewN(h:Row w g ds)(n:Nat):Row (w.drewN n) g ds:=h
theorem Row.far(h:Row w g ds){p:Addr}(hp:g≠p.block)(u:Value):Row (w.setCell p u) g ds:=Blk.far h hp u
theorem Row.sT(h:Row w g ds)(i d:Nat):Row (w.setCell (aD g i) (.int .u32 (d:Int))) g (ds.set i d):=by
 have:=Blk.sT h i (.int .u32 (d:Int));unfold Row;rw[show(dD (ds.set i d)).toArray=(dD ds).toArray.setIfInBounds i (.int .u32 (d:Int))from by simp[dD,List.map_set]];exact this
theorem Row.made(w:World)(n:Nat)(hg:g=w.heap.size):Row (w.alloc (.cells (madeCells #[.int .u32 0] n) 168)) g (List.replicate n 0):=by
 unfold Row;have e:(dD (List.replicate n 0)).toArray=madeCells #[.int .u32 0] n:=(by apply Array.toList_inj.1;rw[toList_madeCells_one];simp[dD]);rw[e];exact Blk.new' w _ _ hg
theorem Row.rdT(h:Row w g ds):RdT w 168 (sA g) (dD ds):=RdT.of_blk h (by simp)
end
def aB(w:World)(A:OA)(n c:Nat)(N:Nat):Prop:=
 ∃ds:LN,ds.length=n/\n<=c/\Dig.Canon B32 ds/\Dig.val B32 ds=N/\RdT w 168 A (dD ds)
theorem aB.K{w w'}{A}{n c N:Nat}(h:aB w A n c N)(hb:Ext w w'):aB w' A n c N:=by
 obtain⟨ds,h1,h2,h3,h4,h5⟩:=h;exact⟨ds,h1,h2,h3,h4,h5.K hb⟩
theorem aB.sT{w}{A}{n c N:Nat}(h:aB w A n c N){p:Addr}{t':TypeId}{cs':Array Value}(hp:Blk w p.block t' cs')(hne:168≠t')(u:Value):aB (w.setCell p u) A n c N:=by
 obtain⟨ds,h1,h2,h3,h4,h5⟩:=h;exact⟨ds,h1,h2,h3,h4,h5.sT hp hne u⟩
theorem aB.zero w A(c:Nat):aB w A 0 c 0:=⟨[],rfl,yZ _,Dig.Canon.nil _,rfl,RdT.nil _ _ _⟩
theorem aB.eq_zero{w}{A}{n c N:Nat}(h:aB w A n c N):n=0↔N=0:=by
 obtain⟨ds,rfl,_,h3,rfl,_⟩:=h;constructor;{intro h;rw[kQp.1 h];rfl};intro h;rw[h3.val_zero aY h];rfl
theorem aB.of_take{w}{A}{ds:LN}{k c:Nat}(hr:RdT w 168 A (dD ds))(hk:k<=ds.length)(hz:∀j,k<=j->j<ds.length->ds[j]?.getD 0=0)
  (ht:0<k->ds[k-1]?.getD 0≠0) (hlt:∀d∈ds,d<B32) (hkc:k<=c):aB w A k c (Dig.val B32 ds):=by
 refine⟨ds.take k,by rw[xF];omega,hkc,⟨fun d hd=>hlt d (xM hd),?_⟩,?_,by rw[uG];exact hr.take k⟩;{intro h;by_cases h0:k=0;{subst h0;simp at h};rw[List.getLast?_eq_getElem?,xF,kZh hk,xG,if_pos (by omega)]at h;exact ht (by omega) (by rw[h];rfl)};rw[<-Dig.trim_val, <-Dig.trim_val B32 ds,Dig.trim_take ds k hk (fun j h1 h2=>hz j h1 h2)]
theorem cJ{ds:LN}(h:∀d∈ds,d<B32)(i:Nat):ds[i]?.getD 0<B32:=by
 by_cases hi:i<ds.length;{rw[yG hi];exact h _ (xR hi)};rw[yI (by omega)];exact aY
theorem jzc1{ds:LN}(hz:∀j,0<=j->j<ds.length->ds[j]?.getD 0=0):Dig.val B32 ds=0:=by
 rw[<-Dig.trim_val,Dig.trim_take ds 0 (yZ _) (fun j h1 h2=>hz j h1 h2)];rfl
theorem mP{W w1}(hb:Ext W w1):(∀b o,b<W.heap.size->w1.cell? (aD b o)=W.cell? (aD b o))/\(∀b o,b<W.heap.size->w1.frozen? (aD b o)=W.frozen? (aD b o)):=
 ⟨fun b o h=>hb.cell (p:=(aD b o)) h,fun b o h=>hb.frozen (p:=(aD b o)) h⟩
def fW(w:World)(N:Nat)(e:Ending)(w':World):Prop:=
 ∃(A:OA) (n c:Nat),e=.returned (.agg #[.s A n c])/\aB w' A n c N/\Ext w w'
theorem mQ(X:Nat)(h:X<4294967296):X.testBit 31=decide (2147483648<=X):=by
 rw[Nat.testBit_eq_decide_div_mod_eq];simp only[Nat.reducePow];rw[decide_eq_decide];omega
theorem jzc2(X:Nat)(h:X<4294967296):X/2147483648=if X.testBit 31 then 1 else 0:=by
 rw[mQ X h];simp only[decide_eq_true_eq];split <;> omega
theorem jzc3(x y d:Nat)(hx:x<4294967296)(hy:y<4294967296)(hd:d<4294967296):
  (((4294967295^^^x)&&&y)|||((4294967295^^^(x^^^y))&&&d))/2147483648=if(x<2147483648/\2147483648<=y)\/(decide (2147483648<=x)=decide (2147483648<=y)/\2147483648<=d)then 1 else 0:=by
 have hb:(((4294967295^^^x)&&&y)|||((4294967295^^^(x^^^y))&&&d))<2^32:=
  Nat.or_lt_two_pow (Nat.and_lt_two_pow _ (by omega)) (Nat.and_lt_two_pow _ (by omega))
 rw[jzc2 _ (by omega)];have h1:(4294967295:Nat).testBit 31=true:=(by decide);simp only[Nat.testBit_or,Nat.testBit_and,Nat.testBit_xor,h1,mQ x hx,mQ y hy,mQ d hd];by_cases a:2147483648<=x <;> by_cases b:2147483648<=y <;> by_cases c:2147483648<=d <;> simp[a,b,c,Nat.not_lt.2,Nat.lt_of_not_le]
theorem jzc4(x y c:Int)(hx:0<=x)(hx':x<4294967296)(hy:0<=y)(hy':y<4294967296)(hc:0<=c)(hc':c<=1):
  bits BinOp.or IntKind.u32 (bits BinOp.and IntKind.u32 (bits BinOp.xor IntKind.u32 IntKind.u32.max x) y)
   (bits BinOp.and IntKind.u32 (bits BinOp.xor IntKind.u32 IntKind.u32.max (bits BinOp.xor IntKind.u32 x y)) ((x-y-c)%4294967296))/2147483648= -((x-y-c)/4294967296):=by
 obtain⟨X,rfl⟩:=kQj hx;obtain⟨Y,rfl⟩:=kQj hy;obtain⟨D,hD⟩:=kQj (show 0<=((X:Int)-Y-c)%4294967296 by omega);have hM:IntKind.u32.max=((4294967295:Nat):Int):=(by decide);have qe:X<4294967296:=(by omega);have qf:Y<4294967296:=(by omega);have qg:D<4294967296:=(by omega);rw[hD,hM,u32_xor_nat _ _ (by omega) qe,u32_xor_nat _ _ qe qf,u32_and_nat _ _ (Nat.xor_lt_two_pow (n:=32) (by omega) (by omega)) qf,
  u32_xor_nat _ _ (by omega) (Nat.xor_lt_two_pow (n:=32) (by omega) (by omega)),u32_and_nat _ _ (Nat.xor_lt_two_pow (n:=32) (by omega) (Nat.xor_lt_two_pow (by omega) (by omega))) qg,
  u32_or_nat _ _ (Nat.and_lt_two_pow (n:=32) _ (by omega)) (Nat.and_lt_two_pow (n:=32) _ (by omega))]
 rw[show(2147483648:Int)=((2147483648:Nat):Int)from rfl, <-Int.natCast_ediv,jzc3 X Y D qe qf qg];have qa:((X<2147483648/\2147483648<=Y)\/(decide (2147483648<=X)=decide (2147483648<=Y)/\2147483648<=D))↔(X:Int)-Y-c<0:=(by by_cases a:2147483648<=X <;> by_cases b:2147483648<=Y <;> by_cases e:2147483648<=D <;> simp[a,b,e] <;> omega);by_cases hn:(X:Int)-Y-c<0;{rw[if_pos (qa.2 hn)];omega};rw[if_neg (fun h=>hn (qa.1 h))];omega
theorem kZ(h l:Int)(hx:0<=h)(hx':h<4294967296)(hy:0<=l)(hy':l<4294967296):bits BinOp.or IntKind.u64 (h*4294967296) l=h*4294967296+l:=by
 obtain⟨H,rfl⟩:=kQj hx;obtain⟨L,rfl⟩:=kQj hy;have e:(H:Int)*4294967296=((4294967296*H:Nat):Int):=(by omega);have qa:4294967296*H|||L=4294967296*H+L:=(Nat.two_pow_add_eq_or_of_lt (i:=32) (b:=L) (by omega) H).symm;rw[e,u64_or_nat _ _ (by omega) (by omega),qa];omega
theorem lA(x y c:Int)w(hx:0<=x)(hx':x<4294967296)(hy:0<=y)(hy':y<4294967296)(hc:0<=c)(hc':c<=1):
  Calls Tryz.prog 175 #[.int .u32 x,.int .u32 y,.int .u32 c] w fun e w'=>e=.returned (.tuple #[.int .u32 ((x+y+c)%4294967296),.int .u32 ((x+y+c)/4294967296)])/\w=w':=by
 go_enter Tryz.func175,Tryz.ntmps175;go_wp2;(go_ret2);exact⟨rfl,rfl⟩
theorem mR(x y c:Int)w(hx:0<=x)(hx':x<4294967296)(hy:0<=y)(hy':y<4294967296)(hc:0<=c)(hc':c<=1):
  Calls Tryz.prog 176 #[.int .u32 x,.int .u32 y,.int .u32 c] w fun e w'=>e=.returned (.tuple #[.int .u32 ((x-y-c)%4294967296),.int .u32 (-((x-y-c)/4294967296))])/\w=w':=by
 have HB:=Hx (jzc4 x y c hx hx' hy hy' hc hc');go_enter Tryz.func176,Tryz.ntmps176;go_wp2;(go_ret2);refine⟨?_,rfl⟩;rw[<-HB.o];rfl
theorem jzc5(h l y:Int)w(hx:0<=h)(hx':h<y)(hy:0<=l)(hy':l<4294967296)(hc:0<y)(hc':y<4294967296):
  Calls Tryz.prog 152 #[.int .u32 h,.int .u32 l,.int .u32 y] w fun e w'=>e=.returned (.tuple #[.int .u32 ((h*4294967296+l)/y),.int .u32 ((h*4294967296+l)%y)])/\∃k,w'=w.drewN k:=by
 (have qh:=kZ h l hx (by omega) hy hy';have qa:0<=h*4294967296+l:=(by omega);have qk:h*4294967296+l<18446744073709551616:=(by omega);have qe:h*4294967296+l<y*4294967296:=(by omega);have qg:(y !=0)=true:=bne_iff_ne.2 (by omega);have qf:decide (y<=h)=false:=by simp;omega);go_enter Tryz.func152,Tryz.ntmps152;go_wp2;clear qh qg qf;generalize hZ:h*4294967296+l=Z at*;have HZ:=Hx hZ;clear hZ;have qm:0<=Z/y:=Int.ediv_nonneg qa (by omega);have qi:Z/y<4294967296:=Int.ediv_lt_of_lt_mul hc (by rw[Int.mul_comm];exact qe);have qj:0<=Z%y:=Int.emod_nonneg _ (by omega);have qn:Z%y<y:=Int.emod_lt_of_pos _ hc;have ht:Z.tdiv y=Z/y:=Int.tdiv_eq_ediv_of_nonneg qa;have hm:Z.tmod y=Z%y:=Int.tmod_eq_emod_of_nonneg qa;go_quiet (fail);go_wp2;(go_ret2);refine⟨?_,_,rfl⟩;rw[HZ.o];rfl
theorem fX A(n c:Nat)(ds:LN)w(hl:ds.length=n)(hc:n<=c)(hn:n<=1099511627776)(hlt:∀d∈ds,d<B32)(hr:RdT w 168 A (dD ds)):
  Calls Tryz.prog 137 #[.s A n c] w (fW w (Dig.val B32 ds)):=by
 subst hl;go_enter Tryz.func137,Tryz.ntmps137;go_wp2;(go_loop [3] (fun t=>∃k:Nat,k<=ds.length/\t=vI k/\∀j,k<=j->j<ds.length->ds[j]?.getD 0=0) (fun t=>(intOf t).toNat));(case atStart=>exact⟨ds.length,yX _,rfl,fun j h1 h2=>by omega⟩);obtain⟨k,hk,rfl,hz⟩:=hrel;have HZ:=Hx hz;clear hz;by_cases h0:k=0;{subst h0;go_wp2;refine bodyPost_ret (v:=.agg #[zN]) (by simp[results,Tryz.results137,go_sem]) rfl ⟨_,_,_,rfl,?_,(eR _).alloc _⟩;rw[jzc1 HZ.o];exact aB.zero _ _ _};obtain⟨b,o,rfl,hb,qa⟩:=hr.rd.u32 (k:=k-1) (by omega);have qe:=qa (k-1) (by omega);clear qa;obtain⟨d,hd⟩:∃d,d=ds[k-1]?.getD 0:=⟨_,rfl⟩;rw[<-hd]at qe;have HD:=Hx hd;clear hd;by_cases hd:d=0
 ·subst hd;go_wp2;go_round
  case rel=>
   exact⟨k-1,by omega,by go_num,fun j h1 h2=>by
   by_cases e:j=k-1;{subst e;exact HD.o.symm}
   exact HZ.o j (by omega) h2⟩
  simp[intOf];omega
 have qg:((d:Int)==0)=false:=yK.2 (by omega);have qf:((k:Int)==0)=false:=yK.2 (by omega);go_wp2;refine bodyPost_ret (v:=.agg #[.s (some (aD b o)) k k]) (by simp[results,Tryz.results137,go_sem]) rfl ⟨_,_,_,rfl,?_,(eR _).alloc _⟩;exact(aB.of_take hr hk HZ.o (fun _=>by rw[<-HD.o];exact hd) hlt (yX _)).K ((eR _).alloc _)
theorem gR(x:Int)w(h0:0<=x)(h1:x<18446744073709551616):
  Calls Tryz.prog 126 #[.int .u64 x] w (fW w x.toNat):=by
 obtain⟨X,rfl⟩:=kQj h0;go_enter Tryz.func126,Tryz.ntmps126;(go_wp2_with fail);refine(fX (sA (w.heap.size+1)) 2 2 [X%4294967296,X/4294967296] _ rfl (yX _) (by omega) (by rw[aT];simp;omega) (RdT.new _ _ (by simp) (by simp[dD]))).mono ?_;rintro e w1 ⟨A,n,c,rfl,hR,hx⟩;have qa:aB w1 A n c X:=(by (have e:Dig.val B32 [X%4294967296,X/4294967296]=X:=by simp only[Dig.val,aT];omega);rwa [e]at hR);have H:=Hx qa;clear hR qa;have HB:=Hx (((eN w 38 #[zN]).alloc _).K hx);obtain⟨hc,hf⟩:=mP hx;go_wp2;refine bodyPost_ret (v:=.agg #[.s A n c]) (by simp[results,Tryz.results126,go_sem,(HB.o.sT 0 _).cell]) rfl ⟨_,_,_,rfl,H.o.sT HB.o (by decide) _,?_⟩;exact((((eR _).alloc _).alloc _).trans (hx.mono (by simp;omega))).setCell (by simp) _
theorem cF A(n c:Nat)w:
  Calls Tryz.prog 49 #[.agg #[.s A n c]] w fun e w'=>e=.returned (.bool ((n:Int)==0))/\Ext w w':=by
 go_enter Tryz.func49,Tryz.ntmps49;go_wp2;go_ret;exact⟨rfl,(eR _).alloc _⟩
theorem val2(ds:LN)(h:ds.length=2):Dig.val B32 ds=ds[1]?.getD 0*4294967296+ds[0]?.getD 0:=by
 match ds,h with
 | [a,b],_=>simp only[Dig.val,aT];simp;omega
theorem fY A(n c N:Nat)w(h:aB w A n c N)(hN:N<18446744073709551616):
  Calls Tryz.prog 177 #[.agg #[.s A n c]] w fun e w'=>e=.returned (.tuple #[.int .u64 (N:Int),.bool true])/\Ext w w':=by
 (obtain⟨ds,rfl,hc,qe,rfl,hr⟩:=h;have qh:ds.length<=2:=qe.len_le fL (by rw[pH];omega);have qf:ds.length=0\/ds.length=1\/ds.length=2:=(by omega);clear qh hN;rcases qf with h|h|h);{(have hv:Dig.val B32 ds=0:=by rw[kQp.1 h];rfl);rw[hv,h];clear hv h qe hr hc;go_enter Tryz.func177,Tryz.ntmps177;go_wp2;(go_ret2);exact⟨rfl,(eR _).alloc _⟩};{have hv:Dig.val B32 ds=ds[0]?.getD 0:=(by (match ds,h with| [a],_=>simp[Dig.val]));obtain⟨b,o,rfl,hb,qa⟩:=hr.rd.u32 (k:=0) (by omega);have h0:=qa 0 (by omega);rw[kQ3]at h0;have qg:=cJ qe.lt 0;rw[aT]at qg;rw[hv,h];clear hv h qe hr hc qa;generalize ds[0]?.getD 0=d at*;go_enter Tryz.func177,Tryz.ntmps177;go_wp2;(go_ret2);exact⟨rfl,(eR _).alloc _⟩};have hv:=val2 ds h;obtain⟨b,o,rfl,hb,qa⟩:=hr.rd.u32 (k:=0) (by omega);have h0:=qa 0 (by omega);rw[kQ3]at h0;have h1:=qa 1 (by omega);have qg:=cJ qe.lt 0;have qi:=cJ qe.lt 1;rw[aT]at qg qi;rw[hv,h];clear hv h qe hr hc qa;generalize ds[0]?.getD 0=d at*;generalize ds[1]?.getD 0=f at*;have qj:=kZ f d (by omega) (by omega) (by omega) (by omega);go_enter Tryz.func177,Tryz.ntmps177;go_wp2;go_quiet (fail);go_wp2;(go_ret2);have e:((f*4294967296+d:Nat):Int)=(f:Int)*4294967296+(d:Int):=(by omega);rw[e];exact⟨rfl,((eR _).alloc _).drewN _⟩
theorem lC A(n c N:Nat)w(h:aB w A n c N)(hN:18446744073709551616<=N):
  Calls Tryz.prog 177 #[.agg #[.s A n c]] w fun e w'=>e=.returned (.tuple #[.int .u64 0,.bool false])/\Ext w w':=by
 obtain⟨ds,rfl,hc,qa,rfl,hr⟩:=h;have qe:3<=ds.length:=(by (have h1:=Dig.val_lt aY qa.lt;rcases kQd ds.length 3 with h|h);{have:B32^ds.length<=B32^2:=kQk aY (by omega);rw[pH]at this;omega};exact h);have b0:((ds.length:Int)==0)=false:=yK.2 (by omega);have b1:((ds.length:Int)==1)=false:=yK.2 (by omega);have b2:((ds.length:Int)==2)=false:=yK.2 (by omega);clear hN qa hr hc;go_enter Tryz.func177,Tryz.ntmps177;go_wp2;(go_ret2);exact⟨rfl,(eR _).alloc _⟩
def bM(a b:Nat):Int:=if a<b then-1 else if a=b then 0 else 1
theorem jzc6(a b:Nat): -1<=bM a b/\bM a b<=1:=by unfold bM;split <;> (try split) <;> omega
theorem gT A1 A2(n1 c1 n2 c2 a b:Nat)w(h1:aB w A1 n1 c1 a)(h2:aB w A2 n2 c2 b)(hn:n1<=1099511627776):
  Calls Tryz.prog 74 #[.agg #[.s A1 n1 c1],.agg #[.s A2 n2 c2]] w fun e w'=>e=.returned (vI (bM a b))/\Ext w w':=by
 obtain⟨xs,rfl,qC,qi,rfl,qo⟩:=h1;obtain⟨ys,rfl,qy,qj,rfl,qn⟩:=h2;by_cases hl:xs.length=ys.length
 ·(have qx:((xs.length:Int) !=(ys.length:Int))=false:=by simp[hl]);have HL:=Hx hl;clear hl;go_enter Tryz.func74,Tryz.ntmps74;go_wp2;go_quiet (fail);go_wp2;(go_loopw [7] (fun t wr=>∃(k m:Nat),k<=xs.length/\t=vI (k-1)/\wr=((w.alloc (.cells #[.s A1 xs.length c1] 38)).alloc (.cells #[.s A2 ys.length c2] 38)).drewN m/\∀j,k<=j->j<xs.length->xs[j]?.getD 0=ys[j]?.getD 0) (fun t _=>(intOf t+1).toNat));(case atStart=>exact⟨xs.length,_,yX _,rfl,rfl,fun j h1 h2=>by omega⟩);obtain⟨k,m,hk,rfl,rfl,hz⟩:=hrel;have HZ:=Hx hz;clear hz;by_cases h0:k=0;{subst h0;have qa:bM (Dig.val B32 xs) (Dig.val B32 ys)=0:=(by have e:xs=ys:=(by have:=Dig.drop_eq_of HL.o HZ.o;simpa using this);unfold bM;rw[e];simp);have HF:=Hx qa;clear qa;go_wp2;go_ret;rw[HF.o];exact⟨rfl,by repeat (first|exact eR _|refine Ext.drewN ?_ _|refine Ext.alloc ?_ _)⟩};(have qt:=HL.o;obtain⟨b1,o1,rfl,qB,qf⟩:=qo.rd.u32 (k:=k-1) (by omega);obtain⟨b2,o2,rfl,qz,qe⟩:=qn.rd.u32 (k:=k-1) (by omega);have qw:=qf (k-1) (by omega);have qu:=qe (k-1) (by omega);clear qf qe qo qn;obtain⟨d1,qk⟩:∃d,d=xs[k-1]?.getD 0:=⟨_,rfl⟩;obtain⟨d2,qg⟩:∃d,d=ys[k-1]?.getD 0:=⟨_,rfl⟩;rw[<-qk]at qw;rw[<-qg]at qu;have qm:=Hx qk;have qh:=Hx qg;have i0:(0:Int)<=(k:Int)-1:=(by omega);have i1:(k:Int)-1<(xs.length:Int):=(by omega);have i2:(k:Int)-1<(ys.length:Int):=(by omega);have i3:((k:Int)-1).toNat=k-1:=(by omega);clear qk qg qt;rcases Nat.lt_trichotomy d1 d2 with hd|hd|hd);{(have hb:decide (d1<d2)=true:=by simpa using hd);have qa:bM (Dig.val B32 xs) (Dig.val B32 ys)= -1:=(by unfold bM;rw[if_pos (Dig.val_lt_of_digit aY qi.lt HL.o (k:=k-1) (by omega) (fun j h1 h2=>HZ.o j (by omega) h2) (by rw[<-qm.o, <-qh.o];exact hd))]);have HF:=Hx qa;clear qa;go_wp2;go_quiet (fail);go_wp2;go_ret;rw[HF.o];exact⟨rfl,by repeat (first|exact eR _|refine Ext.drewN ?_ _|refine Ext.alloc ?_ _)⟩}
  ·subst hd;go_wp2;go_quiet (fail);go_wp2;go_quiet (fail);go_wp2;go_roundw
   case rel=>
    exact⟨k-1,_,by omega,by go_num,rfl,fun j h1 h2=>by
    by_cases e:j=k-1;{subst e;rw[<-qm.o, <-qh.o]}
    exact HZ.o j (by omega) h2⟩
   simp[intOf];omega
  have hb:decide (d1<d2)=false:=(by simp;omega);have qA:decide (d2<d1)=true:=(by simpa using hd);have qa:bM (Dig.val B32 xs) (Dig.val B32 ys)=1:=(by have:=Dig.val_lt_of_digit aY qj.lt HL.o.symm (k:=k-1) (by have:=HL.o;omega) (fun j h1 h2=>(HZ.o j (by omega) (by have:=HL.o;omega)).symm) (by rw[<-qm.o, <-qh.o];exact hd);unfold bM;rw[if_neg (by omega),if_neg (by omega)]);have HF:=Hx qa;clear qa;go_wp2;go_quiet (fail);go_wp2;go_quiet (fail);go_wp2;go_ret;rw[HF.o];exact⟨rfl,by repeat (first|exact eR _|refine Ext.drewN ?_ _|refine Ext.alloc ?_ _)⟩
 have qx:((xs.length:Int) !=(ys.length:Int))=true:=(by simp;omega);have qp:(decide (xs.length<ys.length)=true/\bM (Dig.val B32 xs) (Dig.val B32 ys)= -1)\/(decide (xs.length<ys.length)=false/\bM (Dig.val B32 xs) (Dig.val B32 ys)=1):=(by (rcases Nat.lt_or_gt_of_ne hl with h|h);{have:=qi.len_lt fL qj h;exact .inl ⟨by simp;omega,by unfold bM;rw[if_pos this]⟩};have:=qj.len_lt fL qi h;exact .inr ⟨by simp;omega,by unfold bM;rw[if_neg (by omega),if_neg (by omega)]⟩);clear hl;rcases qp with⟨hd,hv⟩|⟨hd,hv⟩
 all_goals
  have HV:=Hx hv;clear hv
  go_enter Tryz.func74,Tryz.ntmps74
  go_wp2
  go_quiet (fail)
  go_wp2;go_ret;rw[HV.o];exact⟨rfl,by repeat (first|exact eR _|refine Ext.drewN ?_ _|refine Ext.alloc ?_ _)⟩
theorem Tryz.info167:(Tryz.prog.info? 168).map (fun i=>(i.zero,i.size,i.bytes))=some (some (.int .u32 0),1,4):=by kernel_rfl
theorem mS{B k x y cr:Nat}{xs ys ds:LN}(hx:k<xs.length)(hd:k<ds.length)(ex:x=xs[k]?.getD 0)(ey:y=ys[k]?.getD 0)
  (h:Dig.val B (ds.take k)+B^k*cr=Dig.val B (xs.take k)+Dig.val B (ys.take k)):
  Dig.val B ((ds.set k ((x+y+cr)%B)).take (k+1))+B^(k+1)*((x+y+cr)/B)=Dig.val B (xs.take (k+1))+Dig.val B (ys.take (k+1)):=by
 have hy:Dig.val B (ys.take (k+1))=Dig.val B (ys.take k)+B^k*y:=(by subst ey;by_cases h:k<ys.length;{exact Dig.val_take_succ' B ys k h};rw[yU (by omega),yU (by omega),yI (by omega)];simp);rw[Dig.val_take_set B ds k _ hd,hy,Dig.val_take_succ' B xs k hx];have e:B^k*((x+y+cr)%B)+B^(k+1)*((x+y+cr)/B)=B^k*(x+y+cr):=(by rw[vD,kQg, <-kQc,Nat.mod_add_div]);simp only[List.getD];rw[<-ex];have e2:B^k*(x+y+cr)=B^k*x+B^k*y+B^k*cr:=(by rw[kQc,kQc]);omega
theorem jzc7 A1 A2(n1 c1 n2 c2 a b:Nat)w(h1:aB w A1 n1 c1 a)(h2:aB w A2 n2 c2 b)(hn1:n1<=1073741824)(hn2:n2<=1073741824):
  Calls Tryz.prog 121 #[.agg #[.s A1 n1 c1],.agg #[.s A2 n2 c2]] w (fW w (a+b)):=by
 obtain⟨xs,rfl,qX,qN,rfl,qO⟩:=h1;obtain⟨ys,rfl,qW,qQ,rfl,qM⟩:=h2;by_cases hl:xs.length<ys.length
 ·(have qV:decide (xs.length<ys.length)=true:=by simpa using hl);have qK:xs.length<=ys.length:=(by omega);have qC:=run_make_row' (P:=Tryz.prog) 36 168 (.int .u32 0) 4 Tryz.underlying36 Tryz.info167 rfl .i64 .i64 (ys.length+1) (by omega) (by omega);rw[kZv,Int.natCast_one]at qC;clear hl;go_enter Tryz.func121,Tryz.ntmps121;go_wp2;clear qC
  go_loopw [6,27] (fun cy i wr=>∃(k cr:Nat) (ds:LN),k<=ys.length/\i=vI k/\cy=.int .u32 cr/\cr<=1/\ds.length=ys.length+1/\(∀d∈ds,d<B32)/\
    Dig.val B32 (ds.take k)+B32^k*cr=Dig.val B32 (ys.take k)+Dig.val B32 (xs.take k)/\
    Row wr (w.heap.size+3) ds/\Blk wr w.heap.size 38 #[.s A2 ys.length c2]/\Blk wr (w.heap.size+1) 38 #[.s A1 xs.length c1]/\Blk wr (w.heap.size+2) 38 #[zN]/\Ext w wr)
   (fun _ i _=>ys.length-(intOf i).toNat)
  (case atStart=>refine⟨0,0,List.replicate (ys.length+1) 0,yZ _,rfl,rfl,yZ _,by simp,fun d hd=>?_,by simp[Dig.val],Row.made _ _ (by simp),?_,?_,?_,?_⟩;{have:=uF hd;subst this;exact aY};{exact((((eN w _ _).alloc _).alloc _).alloc _)};{exact((Blk.new' (w.alloc _) _ _ (by simp)).alloc _).alloc _};{exact(Blk.new' ((w.alloc _).alloc _) _ _ (by simp)).alloc _};exact(((eR _).alloc _).alloc _).alloc _ |>.alloc _);obtain⟨k,cr,ds,hk,rfl,rfl,qU,qD,qk,qm,qa,qt,qn,qu,hx⟩:=hrel;have HV:=Hx qm;have qg:=Hx qD;clear qm qD;have ca:=qt.cell 0;have cb:=qn.cell 0;simp only[xI,kQi]at ca cb;by_cases qp:k<ys.length
  ·obtain⟨b1,o1,rfl,qL,qf⟩:=qM.rd.u32 (k:=k) qp;have qT:wr.cell? (aD b1 (o1+k))=_:=(hx.cell (p:=(aD b1 (o1+k))) qL).trans (qf k qp);have qy:=qa.cell (i:=k) (by have:=qg.o;omega);have qA:=qa.frozen k;have qE:=cJ qQ.lt k;rw[aT]at qE;generalize hxe:ys[k]?.getD 0=x at*;generalize ds[k]?.getD 0=dk at*;have HX:=Hx hxe;clear hxe qf;have j1:(k:Int)<(ys.length:Int)+1:=(by omega);by_cases qx:k<xs.length
   ·obtain⟨b2,o2,rfl,qJ,qe⟩:=qO.rd.u32 (k:=k) qx;have qS:wr.cell? (aD b2 (o2+k))=_:=(hx.cell (p:=(aD b2 (o2+k))) qJ).trans (qe k qx);have qF:=cJ qN.lt k;rw[aT]at qF;generalize qo:xs[k]?.getD 0=y at*;have HY:=Hx qo;clear qo qe;(go_wp2_with (go_at_call 175;refine(lA _ _ _ _ (by omega) (by omega) (by omega) (by omega) (by omega) (by omega)).mono ?_;rintro e w' ⟨rfl,rfl⟩));(have qi:((x:Int)+y+cr)/4294967296=(((x+y+cr)/B32:Nat):Int):=(by rw[aT];omega);have qj:((x:Int)+y+cr)%4294967296=(((x+y+cr)%B32:Nat):Int):=by rw[aT];omega);go_roundw
    case rel=>
     rw[qj];exact⟨k+1,(x+y+cr)/B32,ds.set k ((x+y+cr)%B32),by omega,by go_num,by rw[qi],by rw[aT];omega,by rw[yV];exact qg.o,Dig.set_lt qk (xT _ aY),
      mS qp (by have:=qg.o;omega) HX.o.symm HY.o.symm HV.o,qa.sT _ _,qt.far (by first|(simp;omega)|simp) _,qn.far (by first|(simp;omega)|simp) _,qu.far (by first|(simp;omega)|simp) _,Below.setCell hx (by first|(simp;omega)|simp) _⟩
    simp[intOf];omega
   (go_wp2_with (go_at_call 175;refine(lA _ _ _ _ (by omega) (by omega) (by omega) (by omega) (by omega) (by omega)).mono ?_;rintro e w' ⟨rfl,rfl⟩));(have qo:0=xs[k]?.getD 0:=(by rw[yI (by omega)];rfl);have qi:((x:Int)+cr)/4294967296=(((x+0+cr)/B32:Nat):Int):=(by rw[aT];omega);have qj:((x:Int)+cr)%4294967296=(((x+0+cr)%B32:Nat):Int):=by rw[aT];omega);go_roundw
   case rel=>
    rw[qj];exact⟨k+1,(x+0+cr)/B32,ds.set k ((x+0+cr)%B32),by omega,by go_num,by rw[qi],by rw[aT];omega,by rw[yV];exact qg.o,Dig.set_lt qk (xT _ aY),
     mS qp (by have:=qg.o;omega) HX.o.symm qo HV.o,qa.sT _ _,qt.far (by first|(simp;omega)|simp) _,qn.far (by first|(simp;omega)|simp) _,qu.far (by first|(simp;omega)|simp) _,Below.setCell hx (by first|(simp;omega)|simp) _⟩
   simp[intOf];omega
  (have qI:k=ys.length:=(by omega);subst qI;have qy:=qa.cell (i:=ys.length) (by have:=qg.o;omega);have qA:=qa.frozen ys.length;generalize ds[ys.length]?.getD 0=dk at*;have j1:(ys.length:Int)<(ys.length:Int)+1:=by omega);(go_wp2_with fail);have qh:=qa.sT ys.length cr;have qB:Ext w (wr.setCell (aD (w.heap.size+3) ys.length) (.int .u32 cr)):=Below.setCell hx (by first|(simp;omega)|simp) _;refine(fX (sA (w.heap.size+3)) (ys.length+1) (ys.length+1) (ds.set ys.length cr) _ (by rw[yV];exact qg.o) (yX _) (by omega) (Dig.set_lt qk (by rw[aT];omega)) qh.rdT).mono ?_;rintro e w1 ⟨A,n,c,rfl,hR,qw⟩;have qz:aB w1 A n c (Dig.val B32 xs+Dig.val B32 ys):=(by have e1:=Dig.val_take_set B32 ds ys.length cr (by have:=qg.o;omega);rw[yU (by rw[yV];have:=qg.o;omega)]at e1;have e2:=HV.o;rw[yU (yX _),yU qK]at e2;have e3:Dig.val B32 xs+Dig.val B32 ys=Dig.val B32 (ds.set ys.length cr):=(by omega);rw[e3];exact hR);have H:=Hx qz;have HB:=Hx ((qu.far (p:=(aD (w.heap.size+3) ys.length)) (by first|(simp;omega)|simp) (.int .u32 cr)).K qw);have qH:=HB.o.cell 0;have qR:=HB.o.frozen 0;simp only[xI,kQi]at qH;have qG:=Hx (qB.tr qw);clear hR qz qw qB qh qa qt qn qu hx ca cb qy qA;go_wp2;refine bodyPost_ret (v:=.agg #[.s A n c]) (by simp[results,Tryz.results121,go_sem,(HB.o.sT 0 _).cell]) rfl ⟨_,_,_,rfl,H.o.sT HB.o (by decide) _,Below.setCell qG.o (by first|(simp;omega)|simp) _⟩
 have qV:decide (xs.length<ys.length)=false:=(by simp;omega);have qK:ys.length<=xs.length:=(by omega);have qC:=run_make_row' (P:=Tryz.prog) 36 168 (.int .u32 0) 4 Tryz.underlying36 Tryz.info167 rfl .i64 .i64 (xs.length+1) (by omega) (by omega);rw[kZv,Int.natCast_one]at qC;clear hl;go_enter Tryz.func121,Tryz.ntmps121;go_wp2;clear qC
 go_loopw [6,27] (fun cy i wr=>∃(k cr:Nat) (ds:LN),k<=xs.length/\i=vI k/\cy=.int .u32 cr/\cr<=1/\ds.length=xs.length+1/\(∀d∈ds,d<B32)/\
   Dig.val B32 (ds.take k)+B32^k*cr=Dig.val B32 (xs.take k)+Dig.val B32 (ys.take k)/\
   Row wr (w.heap.size+3) ds/\Blk wr w.heap.size 38 #[.s A1 xs.length c1]/\Blk wr (w.heap.size+1) 38 #[.s A2 ys.length c2]/\Blk wr (w.heap.size+2) 38 #[zN]/\Ext w wr)
  (fun _ i _=>xs.length-(intOf i).toNat)
 (case atStart=>refine⟨0,0,List.replicate (xs.length+1) 0,yZ _,rfl,rfl,yZ _,by simp,fun d hd=>?_,by simp[Dig.val],Row.made _ _ (by simp),?_,?_,?_,?_⟩;{have:=uF hd;subst this;exact aY};{exact((((eN w _ _).alloc _).alloc _).alloc _)};{exact((Blk.new' (w.alloc _) _ _ (by simp)).alloc _).alloc _};{exact(Blk.new' ((w.alloc _).alloc _) _ _ (by simp)).alloc _};exact(((eR _).alloc _).alloc _).alloc _ |>.alloc _);obtain⟨k,cr,ds,hk,rfl,rfl,qU,qD,qk,qm,qa,qt,qn,qu,hx⟩:=hrel;have HV:=Hx qm;have qg:=Hx qD;clear qm qD;have ca:=qt.cell 0;have cb:=qn.cell 0;simp only[xI,kQi]at ca cb;by_cases qp:k<xs.length
 ·obtain⟨b1,o1,rfl,qL,qf⟩:=qO.rd.u32 (k:=k) qp;have qT:wr.cell? (aD b1 (o1+k))=_:=(hx.cell (p:=(aD b1 (o1+k))) qL).trans (qf k qp);have qy:=qa.cell (i:=k) (by have:=qg.o;omega);have qA:=qa.frozen k;have qE:=cJ qN.lt k;rw[aT]at qE;generalize hxe:xs[k]?.getD 0=x at*;generalize ds[k]?.getD 0=dk at*;have HX:=Hx hxe;clear hxe qf;have j1:(k:Int)<(xs.length:Int)+1:=(by omega);by_cases qx:k<ys.length
  ·obtain⟨b2,o2,rfl,qJ,qe⟩:=qM.rd.u32 (k:=k) qx;have qS:wr.cell? (aD b2 (o2+k))=_:=(hx.cell (p:=(aD b2 (o2+k))) qJ).trans (qe k qx);have qF:=cJ qQ.lt k;rw[aT]at qF;generalize qo:ys[k]?.getD 0=y at*;have HY:=Hx qo;clear qo qe;(go_wp2_with (go_at_call 175;refine(lA _ _ _ _ (by omega) (by omega) (by omega) (by omega) (by omega) (by omega)).mono ?_;rintro e w' ⟨rfl,rfl⟩));(have qi:((x:Int)+y+cr)/4294967296=(((x+y+cr)/B32:Nat):Int):=(by rw[aT];omega);have qj:((x:Int)+y+cr)%4294967296=(((x+y+cr)%B32:Nat):Int):=by rw[aT];omega);go_roundw
   case rel=>
    rw[qj];exact⟨k+1,(x+y+cr)/B32,ds.set k ((x+y+cr)%B32),by omega,by go_num,by rw[qi],by rw[aT];omega,by rw[yV];exact qg.o,Dig.set_lt qk (xT _ aY),
     mS qp (by have:=qg.o;omega) HX.o.symm HY.o.symm HV.o,qa.sT _ _,qt.far (by first|(simp;omega)|simp) _,qn.far (by first|(simp;omega)|simp) _,qu.far (by first|(simp;omega)|simp) _,Below.setCell hx (by first|(simp;omega)|simp) _⟩
   simp[intOf];omega
  (go_wp2_with (go_at_call 175;refine(lA _ _ _ _ (by omega) (by omega) (by omega) (by omega) (by omega) (by omega)).mono ?_;rintro e w' ⟨rfl,rfl⟩));(have qo:0=ys[k]?.getD 0:=(by rw[yI (by omega)];rfl);have qi:((x:Int)+cr)/4294967296=(((x+0+cr)/B32:Nat):Int):=(by rw[aT];omega);have qj:((x:Int)+cr)%4294967296=(((x+0+cr)%B32:Nat):Int):=by rw[aT];omega);go_roundw
  case rel=>
   rw[qj];exact⟨k+1,(x+0+cr)/B32,ds.set k ((x+0+cr)%B32),by omega,by go_num,by rw[qi],by rw[aT];omega,by rw[yV];exact qg.o,Dig.set_lt qk (xT _ aY),
    mS qp (by have:=qg.o;omega) HX.o.symm qo HV.o,qa.sT _ _,qt.far (by first|(simp;omega)|simp) _,qn.far (by first|(simp;omega)|simp) _,qu.far (by first|(simp;omega)|simp) _,Below.setCell hx (by first|(simp;omega)|simp) _⟩
  simp[intOf];omega
 (have qI:k=xs.length:=(by omega);subst qI;have qy:=qa.cell (i:=xs.length) (by have:=qg.o;omega);have qA:=qa.frozen xs.length;generalize ds[xs.length]?.getD 0=dk at*;have j1:(xs.length:Int)<(xs.length:Int)+1:=by omega);(go_wp2_with fail);have qh:=qa.sT xs.length cr;have qB:Ext w (wr.setCell (aD (w.heap.size+3) xs.length) (.int .u32 cr)):=Below.setCell hx (by first|(simp;omega)|simp) _;refine(fX (sA (w.heap.size+3)) (xs.length+1) (xs.length+1) (ds.set xs.length cr) _ (by rw[yV];exact qg.o) (yX _) (by omega) (Dig.set_lt qk (by rw[aT];omega)) qh.rdT).mono ?_;rintro e w1 ⟨A,n,c,rfl,hR,qw⟩;have qz:aB w1 A n c (Dig.val B32 xs+Dig.val B32 ys):=(by have e1:=Dig.val_take_set B32 ds xs.length cr (by have:=qg.o;omega);rw[yU (by rw[yV];have:=qg.o;omega)]at e1;have e2:=HV.o;rw[yU (yX _),yU qK]at e2;have e3:Dig.val B32 xs+Dig.val B32 ys=Dig.val B32 (ds.set xs.length cr):=(by omega);rw[e3];exact hR);have H:=Hx qz;have HB:=Hx ((qu.far (p:=(aD (w.heap.size+3) xs.length)) (by first|(simp;omega)|simp) (.int .u32 cr)).K qw);have qH:=HB.o.cell 0;have qR:=HB.o.frozen 0;simp only[xI,kQi]at qH;have qG:=Hx (qB.tr qw);clear hR qz qw qB qh qa qt qn qu hx ca cb qy qA;go_wp2;refine bodyPost_ret (v:=.agg #[.s A n c]) (by simp[results,Tryz.results121,go_sem,(HB.o.sT 0 _).cell]) rfl ⟨_,_,_,rfl,H.o.sT HB.o (by decide) _,Below.setCell qG.o (by first|(simp;omega)|simp) _⟩
theorem uH{B k x y br d br':Nat}{xs ys ds:LN}(hx:k<xs.length)(hd:k<ds.length)(ex:x=xs[k]?.getD 0)(ey:y=ys[k]?.getD 0)
  (h:Dig.val B (ds.take k)+Dig.val B (ys.take k)=Dig.val B (xs.take k)+B^k*br) (e:d+y+br=x+B*br'):
  Dig.val B ((ds.set k d).take (k+1))+Dig.val B (ys.take (k+1))=Dig.val B (xs.take (k+1))+B^(k+1)*br':=by
 have hy:Dig.val B (ys.take (k+1))=Dig.val B (ys.take k)+B^k*y:=(by subst ey;by_cases h:k<ys.length;{exact Dig.val_take_succ' B ys k h};rw[yU (by omega),yU (by omega),yI (by omega)];simp);rw[Dig.val_take_set B ds k _ hd,hy,Dig.val_take_succ' B xs k hx];simp only[List.getD];rw[<-ex];have e2:B^k*(d+y+br)=B^k*(x+B*br'):=(by rw[e]);have e3:B^(k+1)*br'=B^k*(B*br'):=(by rw[vD,kQg]);rw[kQc,kQc,kQc]at e2;omega
theorem mT(x y br:Nat)(hx:x<4294967296)(hy:y<4294967296)(hb:br<=1):
  ∃d br':Nat,((x:Int)-y-br)%4294967296=d/\ -(((x:Int)-y-br)/4294967296)=br'/\d+y+br=x+B32*br'/\d<B32/\br'<=1:=by
 refine⟨(((x:Int)-y-br)%4294967296).toNat,(-(((x:Int)-y-br)/4294967296)).toNat,by omega,by omega,?_,?_,by omega⟩;{rw[aT];omega};rw[aT];omega
theorem uI A1 A2(n1 c1 n2 c2 a b:Nat)w(h1:aB w A1 n1 c1 a)(h2:aB w A2 n2 c2 b)(hn1:n1<=1073741824)(hab:b<=a):
  Calls Tryz.prog 122 #[.agg #[.s A1 n1 c1],.agg #[.s A2 n2 c2]] w fun e w'=>∃(A:OA) (n c:Nat),e=.returned (.tuple #[.agg #[.s A n c],vI 0])/\aB w' A n c (a-b)/\Ext w w':=by
 have H1:=Hx h1;have H2:=Hx h2;obtain⟨xs,rfl,q5,qB,qC,qM⟩:=h1;obtain⟨ys,rfl,q4,qG,qJ,qK⟩:=h2;have qW:ys.length<=xs.length:=(by (rcases kQd xs.length ys.length with h|h);{have:=qB.len_lt fL qG h;omega};exact h);have hq:0<=bM a b:=(by unfold bM;rw[if_neg (by omega)];split <;> omega);have qL:=Hx qC;have qN:=Hx qJ;clear qC qJ;have qU:=run_make_row' (P:=Tryz.prog) 36 168 (.int .u32 0) 4 Tryz.underlying36 Tryz.info167 rfl .i64 .i64 xs.length (by omega) (by omega);go_enter Tryz.func122,Tryz.ntmps122;(go_wp2_with fail);refine(gT A1 A2 xs.length c1 ys.length c2 a b _ ((H1.o.K ((eR _).alloc _)).K ((eR _).alloc _) |>.K ((eR _).alloc _)) ((H2.o.K ((eR _).alloc _)).K ((eR _).alloc _) |>.K ((eR _).alloc _)) (by omega)).mono ?_;rintro e w1 ⟨rfl,qm⟩;have qi:=(((eN w 38 #[.s A1 xs.length c1]).alloc (.cells #[.s A2 ys.length c2] 38)).alloc (.cells #[zN] 38)).K qm;have qh:=((Blk.new' (g:=w.heap.size+1) (w.alloc (.cells #[.s A1 xs.length c1] 38)) 38 #[.s A2 ys.length c2] (by simp)).alloc (.cells #[zN] 38)).K qm;have qk:=(Blk.new' (g:=w.heap.size+2) ((w.alloc (.cells #[.s A1 xs.length c1] 38)).alloc (.cells #[.s A2 ys.length c2] 38)) 38 #[zN] (by simp)).K qm;have qE:Ext w w1:=((((eR w).alloc _).alloc _).alloc _).tr qm;have hz:w.heap.size+3<=w1.heap.size:=(by have:=qm.size;simp at this;omega);have qO:w.heap.size<w1.heap.size:=(by omega);have qS:w.heap.size+1<w1.heap.size:=(by omega);have ca:=qi.cell 0;have cb:=qh.cell 0;simp only[xI,kQi]at ca cb;have qY:=Hx qE;clear qm qE H1 H2;generalize hq':bM a b=q at*;clear hq';go_wp2;clear qU qO qS
 go_loopw [7,23] (fun cy i wr=>∃(k br:Nat) (ds:LN),k<=xs.length/\i=vI k/\cy=.int .u32 br/\br<=1/\ds.length=xs.length/\(∀d∈ds,d<B32)/\
   Dig.val B32 (ds.take k)+Dig.val B32 (ys.take k)=Dig.val B32 (xs.take k)+B32^k*br/\
   Row wr w1.heap.size ds/\Blk wr w.heap.size 38 #[.s A1 xs.length c1]/\Blk wr (w.heap.size+1) 38 #[.s A2 ys.length c2]/\Blk wr (w.heap.size+2) 38 #[zN]/\Ext w wr)
  (fun _ i _=>xs.length-(intOf i).toNat)
 (case atStart=>refine⟨0,0,List.replicate xs.length 0,yZ _,rfl,rfl,yZ _,by simp,fun d hd=>?_,by simp[Dig.val],Row.made _ _ rfl,qi.alloc _,qh.alloc _,qk.alloc _,qY.o.alloc _⟩;have:=uF hd;subst this;exact aY);clear qi qh qk ca cb;obtain⟨k,cr,ds,hk,rfl,rfl,qI,qH,qg,qn,qa,qi,qh,qk,hx⟩:=hrel;have HV:=Hx qn;have qj:=Hx qH;clear qn qH;have ca:=qi.cell 0;have cb:=qh.cell 0;simp only[xI,kQi]at ca cb;by_cases qp:k<xs.length
 ·obtain⟨b1,o1,rfl,qX,qf⟩:=qM.rd.u32 (k:=k) qp;have q3:wr.cell? (aD b1 (o1+k))=_:=(hx.cell (p:=(aD b1 (o1+k))) qX).trans (qf k qp);have q0:=qa.cell (i:=k) (by have:=qj.o;omega);have q1:=qa.frozen k;have qx:=cJ qB.lt k;rw[aT]at qx;generalize hxe:xs[k]?.getD 0=x at*;generalize ds[k]?.getD 0=dk at*;have HX:=Hx hxe;clear hxe qf;by_cases qA:k<ys.length
  ·obtain⟨b2,o2,rfl,qV,qe⟩:=qK.rd.u32 (k:=k) qA;have q2:wr.cell? (aD b2 (o2+k))=_:=(hx.cell (p:=(aD b2 (o2+k))) qV).trans (qe k qA);have qF:=cJ qG.lt k;rw[aT]at qF;generalize qo:ys[k]?.getD 0=y at*;have HY:=Hx qo;clear qo qe;(go_wp2_with (go_at_call 176;refine(mR _ _ _ _ (by omega) (by omega) (by omega) (by omega) (by omega) (by omega)).mono ?_;rintro e w' ⟨rfl,rfl⟩));obtain⟨d,qy,ed,eb,qu,qw,qz⟩:=mT x y cr qx qF qI;go_roundw
   case rel=>
    rw[ed];exact⟨k+1,qy,ds.set k d,by omega,by go_num,by rw[eb],qz,by rw[yV];exact qj.o,Dig.set_lt qg qw,
     uH qp (by have:=qj.o;omega) HX.o.symm HY.o.symm HV.o qu,qa.sT _ _,qi.far (by first|(simp;omega)|simp) _,qh.far (by first|(simp;omega)|simp) _,qk.far (by first|(simp;omega)|simp) _,Below.setCell hx (by first|(simp;omega)|simp) _⟩
   simp[intOf];omega
  (go_wp2_with (go_at_call 176;refine(mR _ _ _ _ (by omega) (by omega) (by omega) (by omega) (by omega) (by omega)).mono ?_;rintro e w' ⟨rfl,rfl⟩));have qo:0=ys[k]?.getD 0:=(by rw[yI (by omega)];rfl);obtain⟨d,qy,ed,eb,qu,qw,qz⟩:=mT x 0 cr qx (by omega) qI;simp only[Int.natCast_zero,Int.sub_zero]at ed eb;go_roundw
  case rel=>
   rw[ed];exact⟨k+1,qy,ds.set k d,by omega,by go_num,by rw[eb],qz,by rw[yV];exact qj.o,Dig.set_lt qg qw,
    uH qp (by have:=qj.o;omega) HX.o.symm qo HV.o qu,qa.sT _ _,qi.far (by first|(simp;omega)|simp) _,qh.far (by first|(simp;omega)|simp) _,qk.far (by first|(simp;omega)|simp) _,Below.setCell hx (by first|(simp;omega)|simp) _⟩
  simp[intOf];omega
 have qT:k=xs.length:=(by omega);subst qT;(go_wp2_with fail);refine(fX (sA w1.heap.size) xs.length xs.length ds _ qj.o (yX _) (by omega) qg qa.rdT).mono ?_;rintro e w2 ⟨A,n,c,rfl,hR,qt⟩;have qD:aB w2 A n c (a-b):=(by have e2:=HV.o;rw[yU (by rw[qj.o];exact yX _),yU (yX _),yU qW,qL.o,qN.o]at e2;have h3:=Dig.val_lt aY qg;rw[qj.o]at h3;have h4:cr=0:=(by (rcases kQm cr with h|h);{exact h};have:cr=1:=(by omega);subst this;omega);subst h4;have:Dig.val B32 ds=a-b:=(by omega);rw[<-this];exact hR);have H:=Hx qD;have HB:=Hx (qk.K qt);have qR:=HB.o.cell 0;have qZ:=HB.o.frozen 0;simp only[xI,kQi]at qR;have qQ:=Hx (hx.tr qt);clear hR qD qt qa qi qh qk hx ca cb;go_wp2;refine bodyPost_ret (v:=.tuple #[.agg #[.s A n c],vI 0]) (by simp[results,Tryz.results122,go_sem,(HB.o.sT 0 _).cell]) rfl ⟨_,_,_,rfl,H.o.sT HB.o (by decide) _,Below.setCell qQ.o (by first|(simp;omega)|simp) _⟩
theorem jzc8{B j x y cr V S:Nat}{ds:LN}(hj:j<ds.length)(h:Dig.val B ds+B^j*cr=V+S):
  Dig.val B (ds.set j ((cr+(x*y+ds[j]?.getD 0))%B))+B^(j+1)*((cr+(x*y+ds[j]?.getD 0))/B)=V+(S+B^j*(x*y)):=by
 have h1:=Dig.val_set B ds j ((cr+(x*y+ds[j]?.getD 0))%B) hj;generalize ds[j]?.getD 0=d at*;have e:B^j*((cr+(x*y+d))%B)+B^(j+1)*((cr+(x*y+d))/B)=B^j*(cr+(x*y+d)):=(by rw[vD,kQg, <-kQc,Nat.mod_add_div]);have e2:B^j*(cr+(x*y+d))=B^j*cr+(B^j*(x*y)+B^j*d):=(by rw[kQc,kQc]);omega
theorem jzc9{B i k x y:Nat}{ys:LN}(hk:k<ys.length)(ey:y=ys[k]?.getD 0):
  x*B^i*Dig.val B (ys.take k)+B^(i+k)*(x*y)=x*B^i*Dig.val B (ys.take (k+1)):=by
 rw[Dig.val_take_succ' B ys k hk];simp only[List.getD];rw[<-ey,kQc,Nat.pow_add];simp only[kQg,vE,Nat.mul_left_comm]
theorem jzda{B i x:Nat}{xs:LN}(v:Nat)(hi:i<xs.length)(ex:x=xs[i]?.getD 0):
  Dig.val B (xs.take i)*v+x*B^i*v=Dig.val B (xs.take (i+1))*v:=by
 rw[Dig.val_take_succ' B xs i hi];simp only[List.getD];rw[<-ex,xP,vE x]
theorem jzdb(x y cr d:Nat)(hx:x<4294967296)(hy:y<4294967296)(hc:cr<4294967296)(hd:d<4294967296):
  (x:Int)*y<=18446744065119617025/\0<=(x:Int)*y/\(cr+(x*y+d))/B32<B32/\((cr:Int)+(x*y+d))/4294967296=(((cr+(x*y+d))/B32:Nat):Int)/\((cr:Int)+(x*y+d))%4294967296=(((cr+(x*y+d))%B32:Nat):Int):=by
 have h1:x*y<=4294967295*4294967295:=kQq (by omega) (by omega);have e:(x:Int)*y=((x*y:Nat):Int):=(by rw[kZk]);rw[e,aT];refine⟨by omega,by omega,by omega,by omega,by omega⟩
theorem jzdc A1 A2(n1 c1 n2 c2 a b:Nat)w(h1:aB w A1 n1 c1 a)(h2:aB w A2 n2 c2 b)(hn1:n1<=1073741824)(hn2:n2<=1073741824):
  Calls Tryz.prog 82 #[.agg #[.s A1 n1 c1],.agg #[.s A2 n2 c2]] w (fW w (a*b)):=by
 obtain⟨xs,rfl,vg,qX,qH,qZ⟩:=h1;obtain⟨ys,rfl,ve,q5,qU,qW⟩:=h2;have qK:=Hx qH;have qO:=Hx qU;clear qH qU;by_cases z1:xs.length=0;{(have zb:((xs.length:Int)==0)=true:=by simp;exact kQp.1 z1);have hz:a*b=0:=(by rw[<-qK.o,kQp.1 z1];simp[Dig.val]);rw[hz];clear z1 hz;go_enter Tryz.func82,Tryz.ntmps82;(go_wp2_with fail);refine(cF A1 xs.length c1 _).mono ?_;rintro e w1 ⟨rfl,qe⟩;have qf:=(Blk.new' (g:=w.heap.size+2) ((w.alloc (.cells #[.s A1 xs.length c1] 38)).alloc (.cells #[.s A2 ys.length c2] 38)) 38 #[zN] (by simp)).K qe;have HX:=Hx (((((eR w).alloc _).alloc _).alloc _).tr qe);obtain⟨hc,hf⟩:=mP qe;go_wp2;refine bodyPost_ret (v:=.agg #[zN]) (by simp[results,Tryz.results82,go_sem,(qf.sT 0 _).cell]) rfl ⟨_,_,_,rfl,aB.zero _ _ _,Below.setCell HX.o (by first|(simp;omega)|simp) _⟩};have q9:((xs.length:Int)==0)=false:=(by simp;exact fun h=>z1 (by rw[h];rfl));by_cases z2:ys.length=0;{(have zb:((ys.length:Int)==0)=true:=by simp;exact kQp.1 z2);have hz:a*b=0:=(by rw[<-qO.o,kQp.1 z2];simp[Dig.val]);rw[hz];clear z1 z2 hz;go_enter Tryz.func82,Tryz.ntmps82;(go_wp2_with fail);refine(cF A1 xs.length c1 _).mono ?_;rintro e w1 ⟨rfl,qe⟩;have qf:=(Blk.new' (g:=w.heap.size+2) ((w.alloc (.cells #[.s A1 xs.length c1] 38)).alloc (.cells #[.s A2 ys.length c2] 38)) 38 #[zN] (by simp)).K qe;have HX:=Hx (((((eR w).alloc _).alloc _).alloc _).tr qe);obtain⟨hc,hf⟩:=mP qe;(go_wp2_with fail);refine(cF A2 ys.length c2 _).mono ?_;rintro e w2 ⟨rfl,qn⟩;have qg:=qf.K qn;have qx:=Hx (HX.o.tr qn);have qE:=qg.cell 0;have qV:=qg.frozen 0;simp only[xI,kQi]at qE;clear qe qn hc hf qf;go_wp2;refine bodyPost_ret (v:=.agg #[zN]) (by simp[results,Tryz.results82,go_sem,(qg.sT 0 _).cell]) rfl ⟨_,_,_,rfl,aB.zero _ _ _,Below.setCell qx.o (by first|(simp;omega)|simp) _⟩};have q2:((ys.length:Int)==0)=false:=(by simp;exact fun h=>z2 (by rw[h];rfl));have qR:=run_make_row' (P:=Tryz.prog) 36 168 (.int .u32 0) 4 Tryz.underlying36 Tryz.info167 rfl .i64 .i64 (xs.length+ys.length) (by omega) (by omega);rw[kZv]at qR;clear z1 z2;go_enter Tryz.func82,Tryz.ntmps82;(go_wp2_with fail);refine(cF A1 xs.length c1 _).mono ?_;rintro e w1 ⟨rfl,qe⟩;have qk:=(((eN w 38 #[.s A1 xs.length c1]).alloc (.cells #[.s A2 ys.length c2] 38)).alloc (.cells #[zN] 38)).K qe;have qi:=((Blk.new' (g:=w.heap.size+1) (w.alloc (.cells #[.s A1 xs.length c1] 38)) 38 #[.s A2 ys.length c2] (by simp)).alloc (.cells #[zN] 38)).K qe;have qf:=(Blk.new' (g:=w.heap.size+2) ((w.alloc (.cells #[.s A1 xs.length c1] 38)).alloc (.cells #[.s A2 ys.length c2] 38)) 38 #[zN] (by simp)).K qe;have HX:=Hx (((((eR w).alloc _).alloc _).alloc _).tr qe);obtain⟨hc,hf⟩:=mP qe;(go_wp2_with fail);refine(cF A2 ys.length c2 _).mono ?_;rintro e w2 ⟨rfl,qn⟩;have qu:=qk.K qn;have qt:=qi.K qn;have qg:=qf.K qn;have qx:=Hx (HX.o.tr qn);have hz:w.heap.size+3<=w2.heap.size:=(by have:=qe.size;have h':=qn.size;simp at this;omega);have q4:w.heap.size<w2.heap.size:=(by omega);have q6:w.heap.size+1<w2.heap.size:=(by omega);have ca:=qu.cell 0;have cb:=qt.cell 0;simp only[xI,kQi]at ca cb;clear qe qn hc hf qf qk qi HX;go_wp2;clear qR q4 q6 q9 q2
 go_loopw [29] (fun it wr=>∃(i:Nat) (ds:LN),i<=xs.length/\it=vI i/\ds.length=xs.length+ys.length/\(∀d∈ds,d<B32)/\
   Dig.val B32 ds=Dig.val B32 (xs.take i)*Dig.val B32 ys/\(∀j,i+ys.length<=j->ds[j]?.getD 0=0)/\
   Row wr w2.heap.size ds/\Blk wr w.heap.size 38 #[.s A1 xs.length c1]/\Blk wr (w.heap.size+1) 38 #[.s A2 ys.length c2]/\Blk wr (w.heap.size+2) 38 #[zN]/\Ext w wr)
  (fun i _=>xs.length-(intOf i).toNat)
 (case atStart=>refine⟨0,List.replicate (xs.length+ys.length) 0,yZ _,rfl,by simp,fun d hd=>?_,by simp[Dig.val,Dig.val_replicate],fun j _=>?_,Row.made _ _ rfl,qu.alloc _,qt.alloc _,qg.alloc _,qx.o.alloc _⟩;{have:=uF hd;subst this;exact aY};rw[xB];split <;> rfl);clear qu qt qg ca cb qx;obtain⟨wo,rfl⟩:∃wo:World,wo=wr:=⟨_,rfl⟩;obtain⟨i,ds,hi,rfl,qS,qA,qz,qo,qa,qk,qi,qf,hx⟩:=hrel;have HV:=Hx qz;have qT:=Hx qS;have HZ:=Hx qo;clear qz qS qo;have ca:=qk.cell 0;have cb:=qi.cell 0;simp only[xI,kQi]at ca cb;by_cases qF:i<xs.length
 ·obtain⟨b1,o1,rfl,vc,qm⟩:=qZ.rd.u32 (k:=i) qF;have q3:wo.cell? (aD b1 (o1+i))=_:=(hx.cell (p:=(aD b1 (o1+i))) vc).trans (qm i qF);have qL:=cJ qX.lt i;rw[aT]at qL;generalize hxe:xs[i]?.getD 0=x at*;have HX:=Hx hxe;clear hxe qm;go_wp2
  go_loopw [8,37] (fun cy kt wr=>∃(k cr:Nat) (es:LN),k<=ys.length/\kt=vI k/\cy=.int .u64 cr/\cr<B32/\es.length=xs.length+ys.length/\(∀d∈es,d<B32)/\
    Dig.val B32 es+B32^(i+k)*cr=Dig.val B32 ds+x*B32^i*Dig.val B32 (ys.take k)/\(∀j,i+ys.length<=j->es[j]?.getD 0=0)/\
    Row wr w2.heap.size es/\Blk wr w.heap.size 38 #[.s (some (aD b1 o1)) xs.length c1]/\Blk wr (w.heap.size+1) 38 #[.s A2 ys.length c2]/\Blk wr (w.heap.size+2) 38 #[zN]/\Ext w wr)
   (fun _ k _=>ys.length-(intOf k).toNat)
  (case atStart=>exact⟨0,0,ds,yZ _,rfl,rfl,aY,qT.o,qA,by simp[Dig.val],HZ.o,qa,qk,qi,qf,hx⟩);clear q3 qa qk qi qf hx ca cb;obtain⟨k,cr,es,hk,rfl,rfl,qG,qI,qw,qp,qj,qa,qk,qi,qf,hx⟩:=hrel;have qQ:=Hx qp;have qy:=Hx qI;have qB:=Hx qj;clear qp qI qj;have ca:=qk.cell 0;have cb:=qi.cell 0;simp only[xI,kQi]at ca cb;rw[aT]at qG;by_cases qD:k<ys.length;{obtain⟨b2,o2,rfl,q8,qh⟩:=qW.rd.u32 (k:=k) qD;have vd:wr.cell? (aD b2 (o2+k))=_:=(hx.cell (p:=(aD b2 (o2+k))) q8).trans (qh k qD);have qN:=cJ q5.lt k;rw[aT]at qN;generalize hye:ys[k]?.getD 0=y at*;have HY:=Hx hye;clear hye qh;have qY:=qa.cell (i:=i+k) (by have:=qy.o;omega);have q1:=qa.frozen (i+k);have qM:=cJ qw (i+k);rw[aT]at qM;generalize hde:es[i+k]?.getD 0=d at*;have HD:=Hx hde;clear hde;obtain⟨t1,t2,t3,t4,t5⟩:=jzdb x y cr d qL qN qG qM;have T3:=Hx t3;have T4:=Hx t4;have T5:=Hx t5;clear t3 t4 t5;have j1:(i:Int)+k<(xs.length:Int)+ys.length:=(by omega);have j2:((i:Int)+k).toNat=i+k:=(by omega);go_wp2;go_roundw;(case rel=>rw[T5.o];have hs:=jzc8 (B:=B32) (x:=x) (y:=y) (by have:=qy.o;omega:i+k<es.length) qQ.o;rw[HD.o,kZw i k 1]at hs;refine⟨k+1,(cr+(x*y+d))/B32,es.set (i+k) ((cr+(x*y+d))%B32),by omega,by go_num,by rw[T4.o],T3.o,by rw[yV];exact qy.o,Dig.set_lt qw (xT _ aY),?_,?_,qa.sT _ _,qk.far (by first|(simp;omega)|simp) _,qi.far (by first|(simp;omega)|simp) _,qf.far (by first|(simp;omega)|simp) _,Below.setCell hx (by first|(simp;omega)|simp) _⟩;{rw[<-jzc9 qD HY.o.symm];exact hs};intro j hj;rw[kZs,if_neg (by omega)];exact qB.o j hj);simp[intOf];omega};have q7:k=ys.length:=(by omega);subst q7;have qY:=qa.cell (i:=i+ys.length) (by have:=qy.o;omega);have q1:=qa.frozen (i+ys.length);have j1:(i:Int)+ys.length<(xs.length:Int)+ys.length:=(by omega);have j2:((i:Int)+ys.length).toNat=i+ys.length:=(by omega);generalize hde:es[i+ys.length]?.getD 0=d at*;clear hde;go_wp2;go_roundw;(case rel=>refine⟨i+1,es.set (i+ys.length) cr,by omega,by go_num,by rw[yV];exact qy.o,Dig.set_lt qw (by rw[aT];exact qG),?_,?_,qa.sT _ _,qk.far (by first|(simp;omega)|simp) _,qi.far (by first|(simp;omega)|simp) _,qf.far (by first|(simp;omega)|simp) _,Below.setCell hx (by first|(simp;omega)|simp) _⟩;{have e1:=Dig.val_set B32 es (i+ys.length) cr (by have:=qy.o;omega);rw[qB.o _ (yX _),kQ8,kQ3]at e1;have e2:=qQ.o;rw[yU (yX _),HV.o,jzda _ qF HX.o.symm]at e2;omega};intro j hj;rw[kZs,if_neg (by omega)];exact qB.o j (by omega));simp[intOf];omega
 have q0:i=xs.length:=(by omega);subst q0;(go_wp2_with fail);refine(fX (sA w2.heap.size) (xs.length+ys.length) (xs.length+ys.length) ds _ qT.o (yX _) (by omega) qA qa.rdT).mono ?_;rintro e w3 ⟨A,n,c,rfl,hR,qC⟩;have qJ:aB w3 A n c (a*b):=(by have e2:=HV.o;rw[yU (yX _),qK.o,qO.o]at e2;rw[<-e2];exact hR);have H:=Hx qJ;have HB:=Hx (qf.K qC);have qE:=HB.o.cell 0;have qV:=HB.o.frozen 0;simp only[xI,kQi]at qE;have qx:=Hx (hx.tr qC);clear hR qJ qC qa qk qi qf hx ca cb;go_wp2;refine bodyPost_ret (v:=.agg #[.s A n c]) (by simp[results,Tryz.results82,go_sem,(HB.o.sT 0 _).cell]) rfl ⟨_,_,_,rfl,H.o.sT HB.o (by decide) _,Below.setCell qx.o (by first|(simp;omega)|simp) _⟩
theorem jzdd{B k x b q r rest:Nat}{xs ds:LN}(hx:k<xs.length)(hd:k<ds.length)(ex:x=xs[k]?.getD 0)
  (h:Dig.val B (xs.drop (k+1))=Dig.val B (ds.drop (k+1))*b+rest) (e:rest*B+x=q*b+r):
  Dig.val B (xs.drop k)=Dig.val B ((ds.set k q).drop k)*b+r:=by
 rw[Dig.drop_set_self ds k q hd,Dig.val_cons,Dig.val_drop' B xs k hx,h];simp only[List.getD];rw[<-ex,xP,kQc, <-kQg];have:B*rest=rest*B:=vE _ _;omega
theorem jzde(rest x b:Nat)(hr:rest<b)(hx:x<4294967296)(hb:b<4294967296):
  ∃q r:Nat,((rest:Int)*4294967296+x)/b=q/\((rest:Int)*4294967296+x)%b=r/\rest*B32+x=q*b+r/\q<B32/\r<b:=by
 refine⟨(rest*4294967296+x)/b,(rest*4294967296+x)%b,by simp,by simp,?_,?_,xT _ (by omega)⟩;{rw[aT,vE _ b,kZj]};rw[aT];exact(kZp (by omega)).2 (by omega)
theorem pI A1(n1 c1 a b:Nat)w(h1:aB w A1 n1 c1 a)(hn1:n1<=1073741824)(hb0:0<b)(hbB:b<4294967296):
  Calls Tryz.prog 95 #[.agg #[.s A1 n1 c1],.int .u32 (b:Int)] w fun e w'=>∃(A:OA) (n c:Nat),e=.returned (.tuple #[.agg #[.s A n c],.int .u32 ((a%b:Nat):Int)])/\aB w' A n c (a/b)/\Ext w w':=by
 obtain⟨xs,rfl,qK,qw,qn,qF⟩:=h1;have qD:=Hx qn;clear qn;have qE:=run_make_row' (P:=Tryz.prog) 36 168 (.int .u32 0) 4 Tryz.underlying36 Tryz.info167 rfl .i64 .i64 xs.length (by omega) (by omega);go_enter Tryz.func95,Tryz.ntmps95;go_wp2;clear qE
 go_loopw [7,8] (fun cy it wr=>∃(k rest:Nat) (ds:LN),k<=xs.length/\it=vI (k-1)/\cy=.int .u32 rest/\rest<b/\ds.length=xs.length/\(∀d∈ds,d<B32)/\
   Dig.val B32 (xs.drop k)=Dig.val B32 (ds.drop k)*b+rest/\
   Row wr (w.heap.size+2) ds/\Blk wr w.heap.size 38 #[.s A1 xs.length c1]/\Blk wr (w.heap.size+1) 38 #[zN]/\Ext w wr)
  (fun _ i _=>(intOf i+1).toNat)
 (case atStart=>refine⟨xs.length,0,List.replicate xs.length 0,yX _,rfl,rfl,hb0,by simp,fun d hd=>?_,?_,Row.made _ _ (by simp),((eN w _ _).alloc _).alloc _,(Blk.new' (w.alloc _) _ _ (by simp)).alloc _,(((eR _).alloc _).alloc _).alloc _⟩;{have:=uF hd;subst this;exact aY};rw[kQf (yX _),kQf (by simp)];simp[Dig.val]);obtain⟨k,cr,ds,hk,rfl,rfl,qm,qp,qg,qf,qe,qj,qk,hx⟩:=hrel;have HV:=Hx qf;have qh:=Hx qp;clear qf qp;have ca:=qj.cell 0;simp only[xI,kQi]at ca;by_cases qz:0<k
 ·obtain⟨b1,o1,rfl,qG,qa⟩:=qF.rd.u32 (k:=k-1) (by omega);have qI:wr.cell? (aD b1 (o1+(k-1)))=_:=(hx.cell (p:=(aD b1 (o1+(k-1)))) qG).trans (qa (k-1) (by omega));have qJ:=qe.cell (i:=k-1) (by have:=qh.o;omega);have qL:=qe.frozen (k-1);have qt:=cJ qw.lt (k-1);rw[aT]at qt;generalize hxe:xs[k-1]?.getD 0=x at*;generalize ds[k-1]?.getD 0=dk at*;have HX:=Hx hxe;clear hxe qa;(go_wp2_with (go_at_call 152;refine(jzc5 _ _ _ _ (by omega) (by omega) (by omega) (by omega) (by omega) (by omega)).mono ?_;rintro e w' ⟨rfl,m,rfl⟩));obtain⟨q,r,eq,er,qu,qB,qA⟩:=jzde cr x b qm qt hbB;go_roundw
  case rel=>
   rw[eq];exact⟨k-1,r,ds.set (k-1) q,by omega,by go_num,by rw[er],qA,by rw[yV];exact qh.o,Dig.set_lt qg qB,
    jzdd (by omega) (by have:=qh.o;omega) HX.o.symm (by rw[Nat.sub_add_cancel qz];exact HV.o) qu,(qe.drewN _).sT _ _,(qj.drewN _).far (by first|(simp;omega)|simp) _,(qk.drewN _).far (by first|(simp;omega)|simp) _,Below.setCell (hx.drewN _) (by first|(simp;omega)|simp) _⟩
  simp[intOf];omega
 have qC:k=0:=(by omega);subst qC;(go_wp2_with fail);refine(fX (sA (w.heap.size+2)) xs.length xs.length ds _ qh.o (yX _) (by omega) qg qe.rdT).mono ?_;rintro e w2 ⟨A,n,c,rfl,hR,qi⟩;have e2:=HV.o;simp only[List.drop_zero]at e2;rw[qD.o]at e2;have ed:Dig.val B32 ds=a/b:=(by rw[e2,vE,Nat.mul_add_div hb0,Nat.div_eq_of_lt qm,kQ3]);have em:cr=a%b:=(by rw[e2,vE,Nat.mul_add_mod,kQv qm]);have qo:aB w2 A n c (a/b):=(by rw[<-ed];exact hR);have H:=Hx qo;have HM:=Hx em;have HB:=Hx (qk.K qi);have qy:=HB.o.cell 0;have qH:=HB.o.frozen 0;simp only[xI,kQi]at qy;have qx:=Hx (hx.tr qi);clear hR qo qi qe qj qk hx ca e2 ed em;go_wp2;refine bodyPost_ret (v:=.tuple #[.agg #[.s A n c],.int .u32 (cr:Int)]) (by simp[results,Tryz.results95,go_sem,(HB.o.sT 0 _).cell]) rfl ⟨_,_,_,by rw[<-HM.o],H.o.sT HB.o (by decide) _,Below.setCell qx.o (by first|(simp;omega)|simp) _⟩
section
variable {w w':World} {g:Nat} {t:TypeId}
theorem Blk.one{v:Value}(h:Blk w g t #[v]):w.cell? (aD g 0)=some v/\w.frozen? (aD g 0)=false:=⟨h.cell 0,h.frozen 0⟩
theorem Blk.t3{a b c:Value}(h:Blk w g t #[a,b,c]):(w.cell? (aD g 0)=some a/\w.cell? (aD g 1)=some b/\w.cell? (aD g 2)=some c)/\
 w.frozen? (aD g 0)=false/\w.frozen? (aD g 1)=false/\w.frozen? (aD g 2)=false:=⟨⟨h.cell 0,h.cell 1,h.cell 2⟩,h.frozen 0,h.frozen 1,h.frozen 2⟩
end
theorem bF(w:World)(c0:Array Value)(t0:TypeId):Blk (w.alloc (.cells c0 t0)) w.heap.size t0 c0/\Ext w (w.alloc (.cells c0 t0)):=⟨eN w _ _,(eR w).alloc _⟩
theorem dS(w:World)(c0:Array Value)(t0:TypeId)(c1:Array Value)(t1:TypeId):
  Blk ((w.alloc (.cells c0 t0)).alloc (.cells c1 t1)) w.heap.size t0 c0/\Blk ((w.alloc (.cells c0 t0)).alloc (.cells c1 t1)) (w.heap.size+1) t1 c1/\Ext w ((w.alloc (.cells c0 t0)).alloc (.cells c1 t1)):=
 ⟨(eN w _ _).alloc _,Blk.new' _ _ _ (by simp),((eR w).alloc _).alloc _⟩
theorem fZ(w:World)(c0:Array Value)(t0:TypeId)(c1:Array Value)(t1:TypeId)(c2:Array Value)(t2:TypeId):
  Blk (((w.alloc (.cells c0 t0)).alloc (.cells c1 t1)).alloc (.cells c2 t2)) w.heap.size t0 c0/\Blk (((w.alloc (.cells c0 t0)).alloc (.cells c1 t1)).alloc (.cells c2 t2)) (w.heap.size+1) t1 c1/\
  Blk (((w.alloc (.cells c0 t0)).alloc (.cells c1 t1)).alloc (.cells c2 t2)) (w.heap.size+1+1) t2 c2/\Ext w (((w.alloc (.cells c0 t0)).alloc (.cells c1 t1)).alloc (.cells c2 t2)):=
 ⟨((eN w _ _).alloc _).alloc _,(Blk.new' _ _ _ (by simp)).alloc _,Blk.new' _ _ _ (by simp),(((eR w).alloc _).alloc _).alloc _⟩
theorem pJ(w:World)(c0:Array Value)(t0:TypeId)(c1:Array Value)(t1:TypeId)(c2:Array Value)(t2:TypeId)(c3:Array Value)(t3:TypeId):
  Blk ((((w.alloc (.cells c0 t0)).alloc (.cells c1 t1)).alloc (.cells c2 t2)).alloc (.cells c3 t3)) w.heap.size t0 c0/\Blk ((((w.alloc (.cells c0 t0)).alloc (.cells c1 t1)).alloc (.cells c2 t2)).alloc (.cells c3 t3)) (w.heap.size+1) t1 c1/\
  Blk ((((w.alloc (.cells c0 t0)).alloc (.cells c1 t1)).alloc (.cells c2 t2)).alloc (.cells c3 t3)) (w.heap.size+1+1) t2 c2/\Blk ((((w.alloc (.cells c0 t0)).alloc (.cells c1 t1)).alloc (.cells c2 t2)).alloc (.cells c3 t3)) (w.heap.size+1+1+1) t3 c3/\
  Ext w ((((w.alloc (.cells c0 t0)).alloc (.cells c1 t1)).alloc (.cells c2 t2)).alloc (.cells c3 t3)):=
 ⟨(((eN w _ _).alloc _).alloc _).alloc _,((Blk.new' _ _ _ (by simp)).alloc _).alloc _,(Blk.new' _ _ _ (by simp)).alloc _,Blk.new' _ _ _ (by simp),((((eR w).alloc _).alloc _).alloc _).alloc _⟩
theorem Ext.sT{a w}(h:Ext a w){p:Addr}(hp:a.heap.size<=p.block)(u:Value):Ext a (w.setCell p u):=Below.setCell h hp u
def mU(w:World)(q r:Nat)(e:Ending)(w':World):Prop:=
 ∃(A:OA) (n c:Nat) (A':OA) (n' c':Nat),e=.returned (.tuple #[.agg #[.s A n c],.agg #[.s A' n' c'],vI 0])/\aB w' A n c q/\aB w' A' n' c' r/\Ext w w'
theorem uJ A1 A2(n1 c1 n2 c2 a b:Nat)w(h1:aB w A1 n1 c1 a)(h2:aB w A2 n2 c2 b)(hn1:n1<=1073741824)(hab:a<b):
  Calls Tryz.prog 125 #[.agg #[.s A1 n1 c1],.agg #[.s A2 n2 c2]] w (mU w 0 a):=by
 have H1:=Hx h1;have H2:=Hx h2;have z2:((n2:Int)==0)=false:=(by have:=h2.eq_zero;exact yK.2 (by omega));have hq:bM a b= -1:=(by unfold bM;rw[if_pos hab]);have HQ:=Hx hq;clear h1 h2 hq;go_enter Tryz.func125,Tryz.ntmps125;(go_wp2_with fail);refine(cF A2 n2 c2 _).mono ?_;rintro e w1 ⟨rfl,qg⟩;obtain⟨qf,qi,qa,qe,e0⟩:=pJ w #[.s A1 n1 c1] 38 #[.s A2 n2 c2] 38 #[zN] 38 #[zN] 38;have HX:=Hx (e0.tr qg);have qf:=qf.K qg;have qi:=qi.K qg;have qa:=qa.K qg;have qe:=qe.K qg;have ca:=qf.one.1;have cb:=qi.one.1;clear e0 qg;(go_wp2_with fail);refine(gT A1 A2 n1 c1 n2 c2 a b _ (H1.o.K HX.o) (H2.o.K HX.o) (by omega)).mono ?_;rintro e w2 ⟨rfl,qh⟩;rw[HQ.o];have qf:=qf.K qh;have qa:=qa.K qh;have qe:=qe.K qh;have qk:=Hx (HX.o.tr qh);obtain⟨d1,_⟩:=qf.one;obtain⟨d2,f2⟩:=qa.one;obtain⟨d3,f3⟩:=qe.one;clear qh ca cb qi;go_wp2;go_region
 go_wp2;have qm:=(qa.sT 0 zN).far (p:=(aD (w.heap.size+1+1+1) 0)) (by first|(simp;omega)|simp) (.s A1 n1 c1);have qj:=(qe.far (p:=(aD (w.heap.size+1+1) 0)) (by first|(simp;omega)|simp) zN);refine bodyPost_ret (v:=.tuple #[.agg #[zN],.agg #[.s A1 n1 c1],vI 0]) (by simp[results,Tryz.results125,go_sem,qm.cell,(qj.sT 0 _).cell]) rfl
  ⟨_,_,_,_,_,_,rfl,aB.zero _ _ _,?_,?_⟩
 {exact((H1.o.K qk.o).sT (p:=(aD (w.heap.size+1+1) 0)) qa (by decide) _).sT (p:=(aD (w.heap.size+1+1+1) 0)) qj (by decide) _};exact((qk.o.sT (by first|(simp;omega)|simp) _).sT (by first|(simp;omega)|simp) _).drewN 1
theorem jzdf A1 A2(n1 c1 n2 c2 a b:Nat)w(h1:aB w A1 n1 c1 a)(h2:aB w A2 n2 c2 b)(hn1:n1<=1073741824)(hb0:0<b)(hab:b<=a)(ha:a<18446744073709551616):
  Calls Tryz.prog 125 #[.agg #[.s A1 n1 c1],.agg #[.s A2 n2 c2]] w (mU w (a/b) (a%b)):=by
 have H1:=Hx h1;have H2:=Hx h2;have z2:((n2:Int)==0)=false:=(by have:=h2.eq_zero;exact yK.2 (by omega));have hq:0<=bM a b:=(by unfold bM;rw[if_neg (by omega)];split <;> omega);clear h1 h2;go_enter Tryz.func125,Tryz.ntmps125;(go_wp2_with fail);refine(cF A2 n2 c2 _).mono ?_;rintro e w1 ⟨rfl,qi⟩;obtain⟨qg,qf,qa,qe,e0⟩:=pJ w #[.s A1 n1 c1] 38 #[.s A2 n2 c2] 38 #[zN] 38 #[zN] 38;have HX:=Hx (e0.tr qi);have qg:=qg.K qi;have qf:=qf.K qi;have qa:=qa.K qi;have qe:=qe.K qi;have ca:=qg.one.1;have cb:=qf.one.1;clear e0 qi;(go_wp2_with fail);refine(gT A1 A2 n1 c1 n2 c2 a b _ (H1.o.K HX.o) (H2.o.K HX.o) (by omega)).mono ?_;rintro e w2 ⟨rfl,qh⟩;generalize bM a b=q at*;have qg:=qg.K qh;have qf:=qf.K qh;have qa:=qa.K qh;have qe:=qe.K qh;have qp:=Hx (HX.o.tr qh);have ca:=qg.one.1;have cb:=qf.one.1;clear qh HX;(go_wp2_with fail);refine(fY A1 n1 c1 a _ (H1.o.K qp.o) ha).mono ?_;rintro e w3 ⟨rfl,qj⟩;have qf:=qf.K qj;have qa:=qa.K qj;have qe:=qe.K qj;have qo:=Hx (qp.o.tr qj);have cb:=qf.one.1;clear qj qp qg ca;(go_wp2_with fail);refine(fY A2 n2 c2 b _ (H2.o.K qo.o) (by omega)).mono ?_;rintro e w4 ⟨rfl,qm⟩;have qa:=qa.K qm;have qe:=qe.K qm;have qw:=Hx (qo.o.tr qm);obtain⟨d2,f2⟩:=qa.one;obtain⟨d3,f3⟩:=qe.one;obtain⟨Q,hQ⟩:∃Q,Q=a/b:=⟨_,rfl⟩;obtain⟨R,qn⟩:∃R,R=a%b:=⟨_,rfl⟩;have qF:(a:Int).tdiv b=(Q:Int):=(by rw[Int.tdiv_eq_ediv_of_nonneg (by omega),hQ];simp);have qG:(a:Int).tmod b=(R:Int):=(by rw[Int.tmod_eq_emod_of_nonneg (by omega),qn];simp);have qE:Q<=a:=(by rw[hQ];exact kZi _ _);have qD:R<b:=(by rw[qn];exact xT _ hb0);have qH:¬b=0:=(by omega);have qI:IntKind.u64.wrap (Q:Int)=(Q:Int):=(by rw[IntKind.wrap_u64];exact Int.emod_eq_of_lt (by omega) (by omega));have HQ:=Hx hQ;have HR:=Hx qn;clear qm qo qf cb hQ qn;go_wp2;have qa:Blk w4.drew _ _ _:=qa;have qe:Blk w4.drew _ _ _:=qe;have qw:Hid (Ext w w4.drew):=qw.o.drewN 1;have qx:True:=trivial
 go_region_held3 (fun _=>True) (trivial) (first
  |(go_at_call 126;have _t:=qx;refine(gR _ _ (by omega) (by omega)).mono ?_;rintro e w5 ⟨A5,n5,c5,rfl,qy,qt⟩;clear qx;have qa:=qa.K qt;have qe:=qe.K qt;have qB:=Hx (qw.o.tr qt);obtain⟨d2,f2⟩:=qa.one;obtain⟨d3,f3⟩:=qe.one)
  |(go_at_call 126;refine(gR _ _ (by omega) (by omega)).mono ?_;rintro e w6 ⟨A6,n6,c6,rfl,qA,qk⟩;have qa:=qa.K qk;have qe:=qe.K qk;have qz:=Hx (qB.o.tr qk);obtain⟨d2,f2⟩:=qa.one;obtain⟨d3,f3⟩:=qe.one))
 go_wp2;have e1:aB w6 A5 n5 c5 (a/b):=(by have:=qy.K qk;rw[<-HQ.o];exact this);have e2:aB w6 A6 n6 c6 (a%b):=(by rw[<-HR.o];exact qA);have qC:=(qa.sT 0 (.s A5 n5 c5)).far (p:=(aD (w.heap.size+1+1+1) 0)) (by first|(simp;omega)|simp) (.s A6 n6 c6);have qu:=(qe.far (p:=(aD (w.heap.size+1+1) 0)) (by first|(simp;omega)|simp) (.s A5 n5 c5));refine bodyPost_ret (v:=.tuple #[.agg #[.s A5 n5 c5],.agg #[.s A6 n6 c6],vI 0]) (by simp[results,Tryz.results125,go_sem,qC.cell,(qu.sT 0 _).cell]) rfl
  ⟨_,_,_,_,_,_,rfl,?_,?_,?_⟩
 {exact(e1.sT (p:=(aD (w.heap.size+1+1) 0)) qa (by decide) _).sT (p:=(aD (w.heap.size+1+1+1) 0)) qu (by decide) _};{exact(e2.sT (p:=(aD (w.heap.size+1+1) 0)) qa (by decide) _).sT (p:=(aD (w.heap.size+1+1+1) 0)) qu (by decide) _};exact((qz.o.sT (by first|(simp;omega)|simp) _).sT (by first|(simp;omega)|simp) _)
def gU(x y:Nat):Prop:=∀(A1 A2:OA) (n1 c1 n2 c2:Nat) (w:World),aB w A1 n1 c1 x->aB w A2 n2 c2 y->n1<=1073741824->n2<=1073741824->
 Calls Tryz.prog 125 #[.agg #[.s A1 n1 c1],.agg #[.s A2 n2 c2]] w (mU w (x/y) (x%y))
theorem pK{x y:Nat}(hy:0<y)(hx:x<18446744073709551616):gU x y:=fun A1 A2 n1 c1 n2 c2 w h1 h2 hn1 _=>by
 rcases kQd x y with h|h
 ·rw[Nat.div_eq_of_lt h,kQv h];exact uJ A1 A2 n1 c1 n2 c2 x y w h1 h2 hn1 h
 ·exact jzdf A1 A2 n1 c1 n2 c2 x y w h1 h2 hn1 hy h hx
theorem aB.len_le{w w'}{A A'}{n c N n' c' M:Nat}(h:aB w A n c N)(h':aB w' A' n' c' M)(hle:N<=M):n<=n':=by
 obtain⟨xs,rfl,_,hx,rfl,_⟩:=h;obtain⟨ys,rfl,_,hy,rfl,_⟩:=h';rcases kQd ys.length xs.length with h|h
 ·have:=hy.len_lt fL hx h;omega
 exact h
theorem jzdg A1 A2(n1 c1 n2 c2 a b:Nat)w(h1:aB w A1 n1 c1 a)(h2:aB w A2 n2 c2 b)(hn1:n1<=1073741824)(hn2:n2<=1073741824)
  (qn:18446744073709551616<=a\/18446744073709551616<=b->∀x y,0<y->gU x y):
  Calls Tryz.prog 124 #[.agg #[.s A1 n1 c1],.agg #[.s A2 n2 c2]] w (fW w (Nat.gcd a b)):=by
 have qK:=Hx qn;have H1:=Hx h1;have H2:=Hx h2;clear qn h1 h2
 go_enter Tryz.func124,Tryz.ntmps124
 go_wp2;obtain⟨qe,qf,qa,e0⟩:=fZ w #[.s A1 n1 c1] 38 #[.s A2 n2 c2] 38 #[zN] 38
 go_loopg [5] b (fun m t wr=>∃(A A':OA) (n c n' c' x y:Nat),t=t/\y<=m/\Blk wr w.heap.size 38 #[.s A n c]/\Blk wr (w.heap.size+1) 38 #[.s A' n' c']/\Blk wr (w.heap.size+1+1) 38 #[zN]/\
  aB wr A n c x/\aB wr A' n' c' y/\n<=1073741824/\n'<=1073741824/\Nat.gcd x y=Nat.gcd a b/\(18446744073709551616<=x\/18446744073709551616<=y->18446744073709551616<=a\/18446744073709551616<=b)/\Ext w wr)
 case atStart=>exact⟨A1,A2,n1,c1,n2,c2,a,b,rfl,yX _,qe,qf,qa,H1.o.K e0,H2.o.K e0,hn1,hn2,rfl,id,e0⟩
 clear qe qf qa e0 H1 H2;obtain⟨A,A',n,c,n',c',x,y,_,q8,qe,qf,qa,hx,hy,hn,qO,hg,qp,qt⟩:=hrel;have ca:=qe.one.1;have cb:=qf.one.1;have G:=Hx hg;have qJ:=Hx qp;have NX:=Hx hx;have NY:=Hx hy;clear hg qp;by_cases qZ:y=0
 ·have zb:((n':Int)==0)=true:=by have:=hy.eq_zero;simp;omega
  clear hx hy
  go_wp2_with fail
  refine(cF A' n' c' _).mono ?_;rintro e w1 ⟨rfl,qh⟩;have qe:=qe.K qh;have qa:=qa.K qh;have ca:=qe.one.1;obtain⟨d2,f2⟩:=qa.one;have qu:=Hx (qt.tr qh);have qm:=Hx (NX.o.K qh);have qi:x=Nat.gcd a b:=(by rw[<-G.o,qZ,Nat.gcd_zero_right]);have HF:=Hx qi;clear qh qi;go_wp2;refine bodyPost_ret (v:=.agg #[.s A n c]) (by simp[results,Tryz.results124,go_sem,(qa.sT 0 _).cell]) rfl ⟨_,_,_,rfl,by rw[<-HF.o];exact qm.o.sT qa (by decide) _,qu.o.sT (by first|(simp;omega)|simp) _⟩
 have zb:((n':Int)==0)=false:=(by have:=hy.eq_zero;exact yK.2 (by omega));clear hx hy
 go_wp2_with fail
 refine(cF A' n' c' _).mono ?_;rintro e w1 ⟨rfl,qh⟩;have qe:=qe.K qh;have qf:=qf.K qh;have qa:=qa.K qh;have ca:=qe.one.1;have cb:=qf.one.1;have qu:=Hx (qt.tr qh);have qm:=Hx (NX.o.K qh);have qC:=Hx (NY.o.K qh);clear qh;by_cases qF:x<18446744073709551616/\y<18446744073709551616
 ·obtain⟨qE,qG⟩:=qF
  go_wp2_with fail
  refine(fY A n c x _ qm.o qE).mono ?_;rintro e w2 ⟨rfl,qg⟩;have qf:=qf.K qg;have qa:=qa.K qg;have cb:=qf.one.1;have qz:=Hx (qu.o.tr qg);have qo:=Hx (qC.o.K qg);clear qg
  go_wp2_with fail
  refine(fY A' n' c' y _ qo.o qG).mono ?_;rintro e w3 ⟨rfl,qj⟩;have qa:=qa.K qj;have qw:=Hx (qz.o.tr qj);clear qj;go_wp2
  go_loopw [5,7] (fun t5 t7 wr=>∃(p q m:Nat),t5=.int .u64 p/\t7=.int .u64 q/\p<18446744073709551616/\q<18446744073709551616/\Nat.gcd p q=Nat.gcd a b/\wr=w3.drewN m) (fun _ t7 _=>(intOf t7).toNat)
  case atStart=>exact⟨x,y,0,rfl,rfl,qE,qG,G.o,rfl⟩
  obtain⟨p,q,m,rfl,rfl,hp,hq,qL,rfl⟩:=hrel;have GP:=Hx qL;clear qL;by_cases qA:q=0
  ·subst qA
   have qi:p=Nat.gcd a b:=(by rw[<-GP.o,Nat.gcd_zero_right]);have HF:=Hx qi;clear qi
   go_wp2_with fail
   refine(gR p _ (by omega) (by omega)).mono ?_;rintro e w5 ⟨A5,n5,c5,rfl,qM,qx⟩;have qa:=(qa.drewN m).K qx;obtain⟨d2,f2⟩:=qa.one;have q5:=Hx ((qw.o.drewN m).tr qx);have R5:=Hx qM;clear qx qM;go_wp2;refine bodyPost_ret (v:=.agg #[.s A5 n5 c5]) (by simp[results,Tryz.results124,go_sem,(qa.sT 0 _).cell]) rfl ⟨_,_,_,rfl,?_,q5.o.sT (by first|(simp;omega)|simp) _⟩;have:=R5.o.sT (p:=(aD (w.heap.size+1+1) 0)) qa (by decide) (.s A5 n5 c5);rw[xL,HF.o]at this;exact this
  have q9:((q:Int) !=0)=true:=bne_iff_ne.2 (by omega);have q3:¬q=0:=qA;obtain⟨r,hr⟩:∃r,r=p%q:=⟨_,rfl⟩;have q7:(p:Int).tmod q=(r:Int):=(by rw[Int.tmod_eq_emod_of_nonneg (by omega),hr];simp);have q6:r<q:=(by rw[hr];exact xT _ (by omega));have HR:=Hx hr;clear hr qA;go_wp2
  go_quiet (fail)
  go_wp2
  go_roundw
  case rel=>exact⟨q,r,m+nq,rfl,rfl,hq,by omega,by rw[HR.o, <-GP.o,Nat.gcd_comm p q,Nat.gcd_rec q p,Nat.gcd_comm],by rw[World.drewN_drewN]⟩
  simp[intOf];omega
 have qn:=qK.o (qJ.o (by omega)) x y (by omega);have HD:=Hx qn;obtain⟨v1,qy,qN,qU⟩:∃(v:Int) (bl:Bool),Calls Tryz.prog 177 #[.agg #[.s A n c]] w1 (fun e w'=>e=.returned (.tuple #[.int .u64 v,.bool bl])/\Ext w1 w')/\(bl=true->18446744073709551616<=y):=by
  rcases kQd x 18446744073709551616 with h|h
  ·exact⟨_,_,fY A n c x _ qm.o h,fun _=>by omega⟩
  exact⟨_,_,lC A n c x _ qm.o h,fun h=>by cases h⟩
 have qI:=Hx qN;have qH:=Hx qU;clear qn qF qK qN qU
 go_wp2_with fail
 refine qI.o.mono ?_;rintro e w2 ⟨rfl,qg⟩;have qe:=qe.K qg;have qf:=qf.K qg;have qa:=qa.K qg;have cb:=qf.one.1;have qz:=Hx (qu.o.tr qg);have q1:=Hx (qm.o.K qg);have qo:=Hx (qC.o.K qg);obtain⟨v2,q4,qB,qT⟩:∃(v:Int) (bl:Bool),Calls Tryz.prog 177 #[.agg #[.s A' n' c']] w2 (fun e w'=>e=.returned (.tuple #[.int .u64 v,.bool bl])/\Ext w2 w')/\(18446744073709551616<=y->bl=false):=by
  rcases kQd y 18446744073709551616 with h|h
  ·exact⟨_,_,fY A' n' c' y _ qo.o h,fun _=>by omega⟩
  exact⟨_,_,lC A' n' c' y _ qo.o h,fun _=>rfl⟩
 have qR:=Hx qB;have qQ:=Hx qT;clear qg qB qT qI
 go_wp2_with fail
 refine qR.o.mono ?_;rintro e w3 ⟨rfl,qj⟩;have qe:=qe.K qj;have qf:=qf.K qj;have qa:=qa.K qj;have ca:=qe.one.1;have cb:=qf.one.1;have qw:=Hx (qz.o.tr qj);have qX:=Hx (q1.o.K qj);have qS:=Hx (qo.o.K qj);have qW:qy=false\/(qy=true/\q4=false):=by
  cases qy
  ·exact .inl rfl
  exact .inr ⟨rfl,qQ.o (qH.o rfl)⟩
 clear qj qR qH qQ;rcases qW with rfl|⟨rfl,rfl⟩
 all_goals
  go_wp2_with fail
  refine(HD.o A A' n c n' c' _ qX.o qS.o hn qO).mono ?_;rintro e w4 ⟨B1,k1,d1,B2,k2,d2,rfl,hQ,hR,qk⟩;have qe:=qe.K qk;have qf:=qf.K qk;have qa:=qa.K qk;have z0:=qe.lt;have z1:=qf.lt;have f0:=qe.one.2;have f1:=qf.one.2;have ca:=qe.one.1;have cb:=qf.one.1;have q0:=Hx (qw.o.tr qk);have qV:=Hx (qS.o.K qk);have qD:=Hx hR;clear qk hQ hR;go_wp2
  go_region
  go_wp2;have hm:x%y<y:=xT _ (by omega);have b0:=(qe.sT 0 (.s A' n' c')).far (p:=(aD (w.heap.size+1) 0)) (by first|(simp;omega)|simp) (.s B2 k2 d2);have b1:=(qf.far (p:=(aD w.heap.size 0)) (by first|(simp;omega)|simp) (.s A' n' c'));have b2:=(qa.far (p:=(aD w.heap.size 0)) (by first|(simp;omega)|simp) (.s A' n' c')).far (p:=(aD (w.heap.size+1) 0)) (by first|(simp;omega)|simp) (.s B2 k2 d2);have qY:=(qV.o.sT (p:=(aD w.heap.size 0)) qe (by decide) (.s A' n' c')).sT (p:=(aD (w.heap.size+1) 0)) b1 (by decide) (.s B2 k2 d2);have q2:=(qD.o.sT (p:=(aD w.heap.size 0)) qe (by decide) (.s A' n' c')).sT (p:=(aD (w.heap.size+1) 0)) b1 (by decide) (.s B2 k2 d2);have e5:=(q0.o.sT (p:=(aD w.heap.size 0)) (by first|(simp;omega)|simp) (.s A' n' c')).sT (p:=(aD (w.heap.size+1) 0)) (by first|(simp;omega)|simp) (.s B2 k2 d2)
  go_roundg (x%y)
  case measure=>omega
  have e6:Ext ((w4.setCell (aD w.heap.size 0) (.s A' n' c')).setCell (aD (w.heap.size+1) 0) (.s B2 k2 d2)) ((((w4.setCell (aD w.heap.size 0) (.s A' n' c')).setCell (aD (w.heap.size+1) 0) (.s B2 k2 d2)).alloc (.cells #[.s B1 k1 d1] 38)).alloc (.cells #[.s B2 k2 d2] 38)).drew:=(((eR _).alloc _).alloc _).drewN 1;refine⟨A',B2,n',c',k2,d2,y,x%y,trivial,yX _,?_,?_,?_,?_,?_,qO,?_,?_,?_,?_⟩
  ·exact b0.K e6
  ·exact(b1.sT 0 (.s B2 k2 d2)).K e6
  ·exact b2.K e6
  ·exact qY.K e6
  ·exact q2.K e6
  ·have:=qD.o.len_le qV.o (by omega);omega
  ·rw[<-G.o,Nat.gcd_comm x y,Nat.gcd_rec y x,Nat.gcd_comm]
  ·intro h;exact qJ.o (.inr (by omega))
  exact e5.tr e6
end Go.Proofs.YtllmekijiohgmaaGreatDoor
