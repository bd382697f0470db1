/- Part 2 of 24 of what the Flows claims share (the white space is struck, the texts are joined). -/
import Derived.WalkKit
import Derived.WalkSpells
import Derived.WalkLawsBesides
import Derived.KernelRfl
import Derived.Deep.QuietTactic
import Derived.BigQuiet
import Derived.Deep.RegionHeld3
import Derived.Deep.DeepFit
import Derived.Deep.LoopGhost
import Derived.Deep.OwnRows
import Derived.Laws.OwnMore
import Derived.Laws.CopyOwn
import Derived.RegionTactic
import Derived.ChangeAlike
import Derived.Deep.RegionWith
import Derived.Test.YthbmikapohlikaaGreatDoorZ01
set_option linter.unusedVariables false
set_option linter.unusedSimpArgs false
set_option maxRecDepth 100000
set_option maxHeartbeats 8000000
namespace Go.Proofs.YthbmikapohlikaaGreatDoor.Dig
def val(B:Nat):List Nat->Nat
 | []=>0
 |d::ds=>d+B*val B ds
theorem val_nil(B:Nat):val B []=0:=rfl
theorem val_cons(B d:Nat)(ds:List Nat):val B (d::ds)=d+B*val B ds:=rfl
theorem jzbd(B:Nat)(xs ys:List Nat):val B (xs++ys)=val B xs+B^xs.length*val B ys:=by
 induction xs with
 |nil=>simp [val]
 |cons x xs ih=>simp only [List.cons_append,val,ih,List.length_cons,vD];grind
theorem jzjg(B d:Nat):val B [d]=d:=by simp [val]
theorem val_snoc(B:Nat)(xs:List Nat)(d:Nat):val B (xs++[d])=val B xs+B^xs.length*d:=by rw [jzbd,jzjg]
theorem jzcv(B:Nat)(xs:List Nat)(k:Nat)(h:k<xs.length):val B (xs.take (k+1))=val B (xs.take k)+B^k*xs[k]:=by
 rw [List.take_succ_eq_append_getElem h,val_snoc,xF,Nat.min_eq_left (by omega)]
theorem val_take_succ'(B:Nat)(xs:List Nat)(k:Nat)(h:k<xs.length):val B (xs.take (k+1))=val B (xs.take k)+B^k*xs.getD k 0:=by
 rw [jzcv B xs k h];simp [List.getD,h]
theorem val_lt{B:Nat}(_hB:0<B){ds:List Nat}(h:∀d∈ds,d<B):val B ds<B^ds.length:=by
 induction ds with
 |nil=>simp [val]
 |cons d ds ih=>
  have h1:=ih (fun x hx=>h x (by simp [hx]));have h2:=h d (by simp);simp only [val,List.length_cons,vD];have:B*(val B ds+1)<=B*B^ds.length:=Nat.mul_le_mul_left _ h1;have e:B^ds.length*B=B*B^ds.length:=vE _ _;rw [e];rw [Nat.mul_add]at this;omega
theorem val_replicate(B n:Nat):val B (List.replicate n 0)=0:=by
 induction n with
 |zero=>rfl
 |succ n ih=>simp [List.replicate_succ,val,ih]
theorem val_split(B:Nat)(xs:List Nat)(k:Nat):val B xs=val B (xs.take k)+B^(min k xs.length)*val B (xs.drop k):=by
 conv=>lhs;rw [<-List.take_append_drop k xs]
 rw [jzbd,xF]
theorem val_split'(B:Nat)(xs:List Nat)(k:Nat)(h:k<=xs.length):val B xs=val B (xs.take k)+B^k*val B (xs.drop k):=by
 rw [val_split B xs k,Nat.min_eq_left h]
theorem val_drop(B:Nat)(xs:List Nat)(k:Nat)(h:k<xs.length):val B (xs.drop k)=xs[k]+B*val B (xs.drop (k+1)):=by
 rw [List.drop_eq_getElem_cons h];rfl
theorem val_drop'(B:Nat)(xs:List Nat)(k:Nat)(h:k<xs.length):val B (xs.drop k)=xs.getD k 0+B*val B (xs.drop (k+1)):=by
 rw [val_drop B xs k h];simp [List.getD,h]
structure Canon(B:Nat)(ds:List Nat):Prop where
 lt:∀d∈ds,d<B
 top:ds.getLast?≠some 0
theorem Canon.nil(B:Nat):Canon B []:=⟨by simp,by simp⟩
theorem Canon.tail{B d:Nat}{ds:List Nat}(h:Canon B (d::ds)):Canon B ds:=by
 refine⟨fun x hx=>h.lt x (by simp [hx]),?_⟩;cases ds with
 |nil=>simp
 |cons e es=>have:=h.top;rwa [List.getLast?_cons_cons]at this
theorem Canon.pos{B:Nat}(hB:0<B):∀{ds:List Nat},Canon B ds->ds≠ []->0<val B ds
 | [],_,h=>absurd rfl h
 | [d],h,_=>by have:=h.top;simp at this;simp [val];omega
 |d::e::es,h,_=>by
  have:=Canon.pos hB h.tail (by simp);rw [val_cons];have:0<B*val B (e::es):=Nat.mul_pos hB this;omega
theorem Canon.val_zero{B:Nat}(hB:0<B){ds:List Nat}(h:Canon B ds)(h0:val B ds=0):ds=[]:=by
 by_cases hd:ds=[]
 ·exact hd
 ·have:=h.pos hB hd;omega
theorem Canon.ge{B:Nat}(hB:0<B){ds:List Nat}(h:Canon B ds)(hne:ds≠ []):B^(ds.length-1)<=val B ds:=by
 induction ds with
 |nil=>exact absurd rfl hne
 |cons d ds ih=>
  cases ds with
  |nil=>have:=h.pos hB (by simp);simp [val]at this⊢;omega
  |cons e es=>
   have:=ih h.tail (by simp);simp only [List.length_cons,Nat.add_sub_cancel]at this⊢;rw [val_cons,vD];have:B*B^es.length<=B*val B (e::es):=Nat.mul_le_mul_left _ this;rw [vE (B^es.length)];omega
theorem Canon.len_lt{B:Nat}(hB:1<B){xs ys:List Nat}(hx:Canon B xs)(hy:Canon B ys)(h:xs.length<ys.length):val B xs<val B ys:=by
 have h1:=val_lt (by omega) hx.lt;have h2:=hy.ge (by omega) (by intro e;simp [e]at h);have h3:B^xs.length<=B^(ys.length-1):=Nat.pow_le_pow_right (by omega) (by omega);omega
theorem Canon.len_le{B:Nat}(hB:1<B){ds:List Nat}(h:Canon B ds){k:Nat}(hv:val B ds<B^k):ds.length<=k:=by
 by_cases qa:ds=[]
 ·simp [qa]
 ·have h1:=h.ge (by omega) qa
  have h2:B^(ds.length-1)<B^k:=(by omega);have:=(Nat.pow_lt_pow_iff_right hB).1 h2;omega
theorem jzcw{B:Nat}(hB:0<B):∀{xs ys:List Nat},(∀d∈xs,d<B)->(∀d∈ys,d<B)->xs.length=ys.length->val B xs=val B ys->xs=ys
 | [],[],_,_,_,_=>rfl
 | [],_::_,_,_,h,_=>by simp at h
 |_::_,[],_,_,h,_=>by simp at h
 |x::xs,y::ys,hx,hy,hl,hv=>by
  have qe:=hx x (by simp);have qf:=hy y (by simp);rw [val_cons,val_cons]at hv;have e1:(x+B*val B xs)%B=x:=(by rw [Nat.add_mul_mod_self_left,Nat.mod_eq_of_lt qe]);have e2:(y+B*val B ys)%B=y:=(by rw [Nat.add_mul_mod_self_left,Nat.mod_eq_of_lt qf]);have qa:x=y:=(by rw [<-e1, <-e2,hv]);subst qa;have:val B xs=val B ys:=Nat.eq_of_mul_eq_mul_left hB (by omega);rw [jzcw hB (fun d hd=>hx d (by simp [hd])) (fun d hd=>hy d (by simp [hd])) (by simpa using hl) this]
theorem Canon.unique{B:Nat}(hB:1<B){xs ys:List Nat}(hx:Canon B xs)(hy:Canon B ys)(h:val B xs=val B ys):xs=ys:=by
 refine jzcw (by omega) hx.lt hy.lt ?_ h;rcases Nat.lt_trichotomy xs.length ys.length with hl|hl|hl
 ·have:=hx.len_lt hB hy hl;omega
 ·exact hl
 ·have:=hy.len_lt hB hx hl;omega
def trim:List Nat->List Nat
 | []=>[]
 |d::ds=>match trim ds with
  | []=>if d=0 then []else [d]
  |e::es=>d::e::es
theorem trim_val(B:Nat)(ds:List Nat):val B (trim ds)=val B ds:=by
 induction ds with
 |nil=>rfl
 |cons d ds ih=>
  simp only [trim]
  split
  ·rename_i h;rw [h]at ih;rw [val_cons, <-ih,val_nil];split <;> simp [val, *]
  ·rename_i e es h;rw [h]at ih;rw [val_cons B d (e::es),ih,val_cons]
theorem jzeg(ds:List Nat):trim (ds++[0])=trim ds:=by
 induction ds with
 |nil=>rfl
 |cons d ds ih=>simp only [List.cons_append,trim,ih]
theorem trim_snoc(ds:List Nat)(d:Nat)(hd:d≠0):trim (ds++[d])=ds++[d]:=by
 induction ds with
 |nil=>simp [trim,hd]
 |cons e es ih=>
  simp only [List.cons_append,trim,ih]
  split
  ·rename_i h;simp at h
  ·rename_i h;rw [<-h]
theorem trim_take(ds:List Nat)(n:Nat)(hn:n<=ds.length)(hz:∀k,n<=k->k<ds.length->ds.getD k 0=0):trim ds=trim (ds.take n):=by
 induction hm:ds.length-n generalizing n with
 |zero=>rw [yU (by omega)]
 |succ m ih=>
  have h:=ih (n+1) (by omega) (fun k hk hk'=>hz k (by omega) hk') (by omega);rw [h,List.take_succ_eq_append_getElem (by omega:n<ds.length)];have h0:=hz n (by omega) (by omega);simp only [List.getD,yG (by omega:n<ds.length),Option.getD_some]at h0;rw [h0,jzeg]
theorem jzif{ds:List Nat}(h:ds.getLast?≠some 0):trim ds=ds:=by
 rcases List.eq_nil_or_concat ds with rfl|⟨xs,x,rfl⟩
 ·rfl
 ·rw [List.concat_eq_append]at h⊢;exact trim_snoc xs x (by simpa using h)
theorem Canon.trim{B:Nat}{ds:List Nat}(h:Canon B ds):Dig.trim ds=ds:=jzif h.top
theorem drop_eq_of{xs ys:List Nat}(hl:xs.length=ys.length){k:Nat}(heq:∀j,k<=j->j<xs.length->xs[j]?.getD 0=ys[j]?.getD 0):xs.drop k=ys.drop k:=by
 apply uK;intro i;rw [List.getElem?_drop,List.getElem?_drop];by_cases h:k+i<xs.length
 ·have:=heq (k+i) (by omega) h
  rw [yG h,yG (by omega:k+i<ys.length)]at this⊢
  simpa using this
 ·rw [yI (by omega),yI (by omega)]
theorem val_lt_of_digit{B:Nat}(hB:0<B){xs ys:List Nat}(hx:∀d∈xs,d<B)(hl:xs.length=ys.length){k:Nat}(hk:k<xs.length)
  (heq:∀j,k<j->j<xs.length->xs[j]?.getD 0=ys[j]?.getD 0) (hlt:xs[k]?.getD 0<ys[k]?.getD 0):val B xs<val B ys:=by
 rw [val_split' B xs (k+1) (by omega),val_split' B ys (k+1) (by omega),drop_eq_of hl (k:=k+1) (fun j h1 h2=>heq j (by omega) h2),
  val_take_succ' B xs k hk,val_take_succ' B ys k (by omega)]
 simp only [List.getD]at*;have h1:val B (xs.take k)<B^k:=by
  have:=val_lt hB (ds:=xs.take k) (fun d hd=>hx d (xM hd))
  rwa [xF,Nat.min_eq_left (by omega)]at this
 have h2:B^k*(xs[k]?.getD 0+1)<=B^k*ys[k]?.getD 0:=Nat.mul_le_mul_left _ hlt;rw [Nat.mul_add]at h2;omega
theorem jzig(ds:List Nat)(k j d:Nat)(h:j<=k):(ds.set k d).take j=ds.take j:=by
 apply uK;intro i;simp only [xG,List.getElem?_set]
 split
 ·rw [if_neg (by omega)]
 ·rfl
theorem val_take_set(B:Nat)(ds:List Nat)(k d:Nat)(h:k<ds.length):val B ((ds.set k d).take (k+1))=val B (ds.take k)+B^k*d:=by
 rw [jzcv B _ k (by simpa using h),jzig ds k k d (yX _)];simp
theorem jzd1(ds:List Nat)(k j d:Nat)(h:k<j):(ds.set k d).drop j=ds.drop j:=by
 apply uK;intro i;simp only [List.getElem?_drop,List.getElem?_set];rw [if_neg (by omega)]
theorem set_lt{B:Nat}{ds:List Nat}(h:∀d∈ds,d<B){k x:Nat}(hx:x<B):∀d∈ds.set k x,d<B:=fun d hd=>by
 rcases xE hd with h1|h1
 ·exact h d h1
 ·omega
theorem val_set(B:Nat)(ds:List Nat)(j d:Nat)(h:j<ds.length):val B (ds.set j d)+B^j*ds[j]?.getD 0=val B ds+B^j*d:=by
 rw [val_split' B (ds.set j d) (j+1) (by rw [yV];omega),val_split' B ds (j+1) (by omega),jzd1 ds j (j+1) d (by omega),val_take_set B ds j d h,val_take_succ' B ds j h];simp only [List.getD];omega
theorem drop_set_self(ds:List Nat)(k d:Nat)(h:k<ds.length):(ds.set k d).drop k=d::ds.drop (k+1):=by
 rw [List.drop_eq_getElem_cons (by rw [yV];exact h),jzd1 ds k (k+1) d (by omega)];simp
end Go.Proofs.YthbmikapohlikaaGreatDoor.Dig
namespace Go.Proofs.YthbmikapohlikaaGreatDoor
open Go.RowKit
def B32:Nat:=4294967296
theorem jzo:B32=4294967296:=rfl
theorem jzm:0<B32:=by decide
theorem B32_sq:B32^2=18446744073709551616:=by decide
theorem jzeh:1<B32:=by decide
def Rd(w:World)(A:Option Addr)(xs:List Value):Prop:=
 xs≠ []->∃b o:Nat,A=some ⟨b,o,none⟩/\b<w.heap.size/\∀i,i<xs.length->w.cell? ⟨b,o+i,none⟩=xs[i]?
theorem Rd.nil(w:World)(A:Option Addr):Rd w A []:=fun h=>absurd rfl h
theorem Rd.at_{w:World}{A:Option Addr}{xs:List Value}(h:Rd w A xs){i:Nat}(hi:i<xs.length):
 ∃b o:Nat,A=some ⟨b,o,none⟩/\b<w.heap.size/\∀i,i<xs.length->w.cell? ⟨b,o+i,none⟩=xs[i]?:=h (by intro e;simp [e]at hi)
theorem Rd.keep{w w':World}{A:Option Addr}{xs:List Value}(h:Rd w A xs)(hb:Below w.heap.size w w'):Rd w' A xs:=fun hne=>by
 obtain⟨b,o,e,qa,hc⟩:=h hne;exact⟨b,o,e,yL qa hb.size,fun i hi=>(hb.cell (p:=⟨b,o+i,none⟩) qa).trans (hc i hi)⟩
theorem Rd.take{w:World}{A:Option Addr}{xs:List Value}(h:Rd w A xs)(k:Nat):Rd w A (xs.take k):=fun hne=>by
 obtain⟨b,o,e,qa,hc⟩:=h (by intro e;simp [e]at hne);refine⟨b,o,e,qa,fun i hi=>?_⟩;rw [xF]at hi;rw [hc i (by omega),xG,if_pos (by omega)]
theorem Rd.new(w:World)(t:TypeId)(cs:Array Value){g:Nat}{xs:List Value}(hg:g=w.heap.size)(hx:xs=cs.toList):Rd (w.alloc (.cells cs t)) (some ⟨g,0,none⟩) xs:=fun _=>by
 subst hg;subst hx;refine⟨w.heap.size,0,rfl,by simp,fun i hi=>?_⟩;have h:(w.alloc (.cells cs t)).heap[w.heap.size]?=some (.cells cs t (0,0)):=heap_alloc_new w _;rw [Nat.zero_add,cell_of_row _ _ _ _ _ _ h];simp
abbrev Ext(w w':World):Prop:=Below w.heap.size w w'
theorem Ext.refl(w:World):Ext w w:=Below.refl _ _
theorem Ext.alloc{a w:World}(h:Ext a w)(o:Obj):Ext a (w.alloc o):=Below.alloc h h.size o
theorem Ext.drewN{a w:World}(h:Ext a w)(n:Nat):Ext a (w.drewN n):=⟨h.os,h.tape,h.output,h.size,h.block⟩
theorem Ext.tr{a b c:World}(h:Ext a b)(k:Ext b c):Ext a c:=h.trans (k.mono h.size)
def Blk(w:World)(g:Nat)(t:TypeId)(cs:Array Value):Prop:=w.heap[g]?=some (.cells cs t (0,0))
section
variable {w w':World} {g:Nat} {t:TypeId} {cs:Array Value}
theorem Blk.lt(h:Blk w g t cs):g<w.heap.size:=by
 rcases Nat.lt_or_ge g w.heap.size with hlt|hge
 ·exact hlt
 ·unfold Blk at h;rw [Array.getElem?_eq_none hge]at h;cases h
theorem Blk.cell(h:Blk w g t cs)(i:Nat):w.cell? ⟨g,i,none⟩=cs[i]?:=cell_of_row w g i cs t (0,0) h
theorem Blk.frozen(h:Blk w g t cs)(i:Nat):w.frozen? ⟨g,i,none⟩=false:=by
 unfold Blk at h;simp [World.frozen?,h]
theorem Blk.new(w:World)(t:TypeId)(cs:Array Value):Blk (w.alloc (.cells cs t)) w.heap.size t cs:=heap_alloc_new w _
theorem Blk.new'(w:World)(t:TypeId)(cs:Array Value)(hg:g=w.heap.size):Blk (w.alloc (.cells cs t)) g t cs:=by subst hg;exact heap_alloc_new w _
theorem Blk.drewN(h:Blk w g t cs)(n:Nat):Blk (w.drewN n) g t cs:=h
theorem Blk.alloc(h:Blk w g t cs)(o:Obj):Blk (w.alloc o) g t cs:=(Below.heap_alloc w o g h.lt).trans h
theorem Blk.set_(h:Blk w g t cs)(i:Nat)(u:Value):Blk (w.setCell ⟨g,i,none⟩ u) g t (cs.setIfInBounds i u):=by
 unfold Blk at h⊢;simp [World.setCell,Array.getElem?_modify,h]
theorem Blk.far(h:Blk w g t cs){p:Addr}(hp:g≠p.block)(u:Value):Blk (w.setCell p u) g t cs:=(Below.heap_setCell w p u g hp).trans h
theorem Blk.keep(h:Blk w g t cs)(hb:Ext w w'):Blk w' g t cs:=(hb.block g h.lt).trans h
theorem Blk.ne_{g':Nat}{t':TypeId}{cs':Array Value}(h:Blk w g t cs)(h':Blk w g' t' cs')(hne:t≠t'):g≠g':=by
 rintro rfl;unfold Blk at h h';rw [h]at h';injection h' with h'
 injection h' with _ ht
 exact hne ht
end
def RdT(w:World)(t:TypeId)(A:Option Addr)(xs:List Value):Prop:=
 xs≠ []->∃(b o:Nat) (cs:Array Value) (fr:Nat×Nat),A=some ⟨b,o,none⟩/\w.heap[b]?=some (.cells cs t fr)/\∀i,i<xs.length->cs[o+i]?=xs[i]?
section
variable {w w':World} {t:TypeId} {A:Option Addr} {xs:List Value}
theorem RdT.nil(w:World)(t:TypeId)(A:Option Addr):RdT w t A []:=fun h=>absurd rfl h
theorem RdT.rd(h:RdT w t A xs):Rd w A xs:=fun hne=>by
 obtain⟨b,o,cs,fr,e,hb,hc⟩:=h hne;refine⟨b,o,e,?_,fun i hi=>(cell_of_row w b (o+i) cs t fr hb).trans (hc i hi)⟩;rcases Nat.lt_or_ge b w.heap.size with hlt|hge
 ·exact hlt
 ·rw [Array.getElem?_eq_none hge]at hb;cases hb
theorem RdT.keep(h:RdT w t A xs)(hb:Ext w w'):RdT w' t A xs:=fun hne=>by
 obtain⟨b,o,cs,fr,e,h1,hc⟩:=h hne;obtain⟨b',o',e',qa,_⟩:=h.rd hne;have:b'=b:=(by rw [e]at e';injection e' with e';injection e' with e1;exact e1.symm);subst this;exact⟨b',o,cs,fr,e,(hb.block b' qa).trans h1,hc⟩
theorem RdT.take(h:RdT w t A xs)(k:Nat):RdT w t A (xs.take k):=fun hne=>by
 obtain⟨b,o,cs,fr,e,hb,hc⟩:=h (by intro e;simp [e]at hne);refine⟨b,o,cs,fr,e,hb,fun i hi=>?_⟩;rw [xF]at hi;rw [hc i (by omega),xG,if_pos (by omega)]
theorem RdT.set_(h:RdT w t A xs){p:Addr}{t':TypeId}{cs':Array Value}(hp:Blk w p.block t' cs')(hne:t≠t')(u:Value):RdT (w.setCell p u) t A xs:=fun hx=>by
 obtain⟨b,o,cs,fr,e,hb,hc⟩:=h hx;refine⟨b,o,cs,fr,e,(Below.heap_setCell w p u b ?_).trans hb,hc⟩;rintro rfl;unfold Blk at hp;rw [hb]at hp;injection hp with hp
 injection hp with _ ht
 exact hne ht
theorem RdT.new{g:Nat}{cs:Array Value}(w:World)(t:TypeId)(hg:g=w.heap.size)(hx:xs=cs.toList):RdT (w.alloc (.cells cs t)) t (some ⟨g,0,none⟩) xs:=fun _=>by
 subst hg;subst hx;exact⟨w.heap.size,0,cs,(0,0),rfl,heap_alloc_new w _,fun i hi=>by simp⟩
theorem RdT.of_blk{g:Nat}{cs:Array Value}(h:Blk w g t cs)(hx:xs=cs.toList):RdT w t (some ⟨g,0,none⟩) xs:=fun _=>by
 subst hx;exact⟨g,0,cs,(0,0),rfl,h,fun i hi=>by simp⟩
end
def u32s(ds:List Nat):List Value:=ds.map fun d:Nat=>Value.int .u32 (d:Int)
theorem jzd2(ds:List Nat):(u32s ds).length=ds.length:=by simp [u32s]
theorem jzjh(ds:List Nat)(i:Nat)(h:i<ds.length):(u32s ds)[i]?=some (.int .u32 ((ds[i]?.getD 0:Nat):Int)):=by
 simp [u32s,h]
theorem jzg2(ds:List Nat)(k:Nat):u32s (ds.take k)=(u32s ds).take k:=by simp [u32s]
theorem Rd.u32{w:World}{A:Option Addr}{ds:List Nat}(h:Rd w A (u32s ds)){k:Nat}(hk:k<ds.length):
  ∃b o:Nat,A=some ⟨b,o,none⟩/\b<w.heap.size/\∀i,i<ds.length->w.cell? ⟨b,o+i,none⟩=some (.int .u32 ((ds[i]?.getD 0:Nat):Int)):=by
 obtain⟨b,o,e,qa,hc⟩:=h.at_ (i:=k) (by rw [jzd2];exact hk);exact⟨b,o,e,qa,fun i hi=>(hc i (by rw [jzd2];exact hi)).trans (jzjh ds i hi)⟩
def Row(w:World)(g:Nat)(ds:List Nat):Prop:=Blk w g 167 (u32s ds).toArray
section
variable {w w':World} {g:Nat} {ds:List Nat}
theorem Row.lt(h:Row w g ds):g<w.heap.size:=Blk.lt h
theorem Row.cell(h:Row w g ds){i:Nat}(hi:i<ds.length):w.cell? ⟨g,i,none⟩=some (.int .u32 ((ds[i]?.getD 0:Nat):Int)):=by
 rw [Blk.cell h i,xI,jzjh ds i hi]
theorem Row.frozen(h:Row w g ds)(i:Nat):w.frozen? ⟨g,i,none⟩=false:=Blk.frozen h i
theorem Row.keep(h:Row w g ds)(hb:Ext w w'):Row w' g ds:=Blk.keep h hb
theorem Row.alloc(h:Row w g ds)(o:Obj):Row (w.alloc o) g ds:=Blk.alloc h o
theorem Row.drewN(h:Row w g ds)(n:Nat):Row (w.drewN n) g ds:=h
theorem Row.far(h:Row w g ds){p:Addr}(hp:g≠p.block)(u:Value):Row (w.setCell p u) g ds:=Blk.far h hp u
theorem Row.set_(h:Row w g ds)(i d:Nat):Row (w.setCell ⟨g,i,none⟩ (.int .u32 (d:Int))) g (ds.set i d):=by
 have:=Blk.set_ h i (.int .u32 (d:Int));unfold Row;rw [show(u32s (ds.set i d)).toArray=(u32s ds).toArray.setIfInBounds i (.int .u32 (d:Int))from by simp [u32s,List.map_set]];exact this
theorem Row.made(w:World)(n:Nat)(hg:g=w.heap.size):Row (w.alloc (.cells (madeCells #[.int .u32 0] n) 167)) g (List.replicate n 0):=by
 unfold Row;have e:(u32s (List.replicate n 0)).toArray=madeCells #[.int .u32 0] n:=by
  apply Array.toList_inj.1;rw [toList_madeCells_one];simp [u32s]
 rw [e];exact Blk.new' w _ _ hg
theorem Row.rdT(h:Row w g ds):RdT w 167 (some ⟨g,0,none⟩) (u32s ds):=RdT.of_blk h (by simp)
end
def NatR(w:World)(A:Option Addr)(n c:Nat)(N:Nat):Prop:=
 ∃ds:List Nat,ds.length=n/\n<=c/\Dig.Canon B32 ds/\Dig.val B32 ds=N/\RdT w 167 A (u32s ds)
theorem NatR.keep{w w':World}{A:Option Addr}{n c N:Nat}(h:NatR w A n c N)(hb:Ext w w'):NatR w' A n c N:=by
 obtain⟨ds,h1,h2,h3,h4,h5⟩:=h;exact⟨ds,h1,h2,h3,h4,h5.keep hb⟩
theorem NatR.set_{w:World}{A:Option Addr}{n c N:Nat}(h:NatR w A n c N){p:Addr}{t':TypeId}{cs':Array Value}(hp:Blk w p.block t' cs')(hne:167≠t')(u:Value):NatR (w.setCell p u) A n c N:=by
 obtain⟨ds,h1,h2,h3,h4,h5⟩:=h;exact⟨ds,h1,h2,h3,h4,h5.set_ hp hne u⟩
theorem NatR.zero(w:World)(A:Option Addr)(c:Nat):NatR w A 0 c 0:=⟨[],rfl,yZ _,Dig.Canon.nil _,rfl,RdT.nil _ _ _⟩
theorem NatR.eq_zero{w:World}{A:Option Addr}{n c N:Nat}(h:NatR w A n c N):n=0↔N=0:=by
 obtain⟨ds,rfl,_,h3,rfl,_⟩:=h;constructor
 ·intro h;rw [List.length_eq_zero_iff.1 h];rfl
 ·intro h;rw [h3.val_zero jzm h];rfl
theorem NatR.of_take{w:World}{A:Option Addr}{ds:List Nat}{k c:Nat}(hr:RdT w 167 A (u32s ds))(hk:k<=ds.length)(hz:∀j,k<=j->j<ds.length->ds[j]?.getD 0=0)
  (ht:0<k->ds[k-1]?.getD 0≠0) (hlt:∀d∈ds,d<B32) (hkc:k<=c):NatR w A k c (Dig.val B32 ds):=by
 refine⟨ds.take k,by rw [xF];omega,hkc,⟨fun d hd=>hlt d (xM hd),?_⟩,?_,by rw [jzg2];exact hr.take k⟩
 ·intro h
  by_cases h0:k=0
  ·subst h0;simp at h
  ·rw [List.getLast?_eq_getElem?,xF,Nat.min_eq_left hk,xG,if_pos (by omega)]at h
   exact ht (by omega) (by rw [h];rfl)
 ·rw [<-Dig.trim_val, <-Dig.trim_val B32 ds,Dig.trim_take ds k hk (fun j h1 h2=>hz j h1 h2)]
theorem jzj{ds:List Nat}(h:∀d∈ds,d<B32)(i:Nat):ds[i]?.getD 0<B32:=by
 by_cases hi:i<ds.length
 ·rw [yG hi];exact h _ (xR hi)
 ·rw [yI (by omega)];exact jzm
theorem jzih{ds:List Nat}(hz:∀j,0<=j->j<ds.length->ds[j]?.getD 0=0):Dig.val B32 ds=0:=by
 rw [<-Dig.trim_val,Dig.trim_take ds 0 (yZ _) (fun j h1 h2=>hz j h1 h2)];rfl
theorem bcell{W w1:World}(hb:Ext W w1):(∀b o,b<W.heap.size->w1.cell? ⟨b,o,none⟩=W.cell? ⟨b,o,none⟩)/\(∀b o,b<W.heap.size->w1.frozen? ⟨b,o,none⟩=W.frozen? ⟨b,o,none⟩):=
 ⟨fun b o h=>hb.cell (p:=⟨b,o,none⟩) h,fun b o h=>hb.frozen (p:=⟨b,o,none⟩) h⟩
def NatPost(w:World)(N:Nat)(e:Ending)(w':World):Prop:=
 ∃(A:Option Addr) (n c:Nat),e=.returned (.agg #[.slice A n c])/\NatR w' A n c N/\Ext w w'
theorem bit31(X:Nat)(h:X<4294967296):X.testBit 31=decide (2147483648<=X):=by
 rw [Nat.testBit_eq_decide_div_mod_eq];simp only [Nat.reducePow];rw [decide_eq_decide];omega
theorem top31(X:Nat)(h:X<4294967296):X/2147483648=if X.testBit 31 then 1 else 0:=by
 rw [bit31 X h];simp only [decide_eq_true_eq];split <;> omega
theorem jzji(x y d:Nat)(hx:x<4294967296)(hy:y<4294967296)(hd:d<4294967296):
  (((4294967295^^^x)&&&y)|||((4294967295^^^(x^^^y))&&&d))/2147483648=if(x<2147483648/\2147483648<=y)\/(decide (2147483648<=x)=decide (2147483648<=y)/\2147483648<=d)then 1 else 0:=by
 have hb:(((4294967295^^^x)&&&y)|||((4294967295^^^(x^^^y))&&&d))<2^32:=
  Nat.or_lt_two_pow (Nat.and_lt_two_pow _ (by omega)) (Nat.and_lt_two_pow _ (by omega))
 rw [top31 _ (by omega)];have h1:(4294967295:Nat).testBit 31=true:=(by decide);simp only [Nat.testBit_or,Nat.testBit_and,Nat.testBit_xor,h1,bit31 x hx,bit31 y hy,bit31 d hd];by_cases a:2147483648<=x <;> by_cases b:2147483648<=y <;> by_cases c:2147483648<=d <;> simp [a,b,c,Nat.not_lt.2,Nat.lt_of_not_le]
theorem jzjj(x y c:Int)(hx:0<=x)(hx':x<4294967296)(hy:0<=y)(hy':y<4294967296)(hc:0<=c)(hc':c<=1):
  bits BinOp.or IntKind.u32 (bits BinOp.and IntKind.u32 (bits BinOp.xor IntKind.u32 IntKind.u32.max x) y)
   (bits BinOp.and IntKind.u32 (bits BinOp.xor IntKind.u32 IntKind.u32.max (bits BinOp.xor IntKind.u32 x y)) ((x-y-c)%4294967296))/2147483648= -((x-y-c)/4294967296):=by
 obtain⟨X,rfl⟩:=Int.eq_ofNat_of_zero_le hx;obtain⟨Y,rfl⟩:=Int.eq_ofNat_of_zero_le hy;obtain⟨D,hD⟩:=Int.eq_ofNat_of_zero_le (show 0<=((X:Int)-Y-c)%4294967296 by omega);have hM:IntKind.u32.max=((4294967295:Nat):Int):=(by decide);have qf:X<4294967296:=(by omega);have qe:Y<4294967296:=(by omega);have qg:D<4294967296:=(by omega);rw [hD,hM,u32_xor_nat _ _ (by omega) qf,u32_xor_nat _ _ qf qe,u32_and_nat _ _ (Nat.xor_lt_two_pow (n:=32) (by omega) (by omega)) qe,
  u32_xor_nat _ _ (by omega) (Nat.xor_lt_two_pow (n:=32) (by omega) (by omega)),u32_and_nat _ _ (Nat.xor_lt_two_pow (n:=32) (by omega) (Nat.xor_lt_two_pow (by omega) (by omega))) qg,
  u32_or_nat _ _ (Nat.and_lt_two_pow (n:=32) _ (by omega)) (Nat.and_lt_two_pow (n:=32) _ (by omega))]
 rw [show(2147483648:Int)=((2147483648:Nat):Int)from rfl, <-Int.natCast_ediv,jzji X Y D qf qe qg];have qa:((X<2147483648/\2147483648<=Y)\/(decide (2147483648<=X)=decide (2147483648<=Y)/\2147483648<=D))↔(X:Int)-Y-c<0:=by
  by_cases a:2147483648<=X <;> by_cases b:2147483648<=Y <;> by_cases e:2147483648<=D <;> simp [a,b,e] <;> omega
 by_cases hn:(X:Int)-Y-c<0
 ·rw [if_pos (qa.2 hn)];omega
 ·rw [if_neg (fun h=>hn (qa.1 h))];omega
theorem jzjk(h l:Int)(hx:0<=h)(hx':h<4294967296)(hy:0<=l)(hy':l<4294967296):bits BinOp.or IntKind.u64 (h*4294967296) l=h*4294967296+l:=by
 obtain⟨H,rfl⟩:=Int.eq_ofNat_of_zero_le hx;obtain⟨L,rfl⟩:=Int.eq_ofNat_of_zero_le hy;have e:(H:Int)*4294967296=((4294967296*H:Nat):Int):=(by omega);have qa:4294967296*H|||L=4294967296*H+L:=(Nat.two_pow_add_eq_or_of_lt (i:=32) (b:=L) (by omega) H).symm;rw [e,u64_or_nat _ _ (by omega) (by omega),qa];omega
theorem jzb5(x y c:Int)(w:World)(hx:0<=x)(hx':x<4294967296)(hy:0<=y)(hy':y<4294967296)(hc:0<=c)(hc':c<=1):
  Calls Tryz.prog 200 #[.int .u32 x,.int .u32 y,.int .u32 c] w fun e w'=>e=.returned (.tuple #[.int .u32 ((x+y+c)%4294967296),.int .u32 ((x+y+c)/4294967296)])/\w=w':=by
 go_enter Tryz.func200,Tryz.ntmps200
 go_wp2
 go_ret2
 exact⟨rfl,rfl⟩
theorem jzc1(x y c:Int)(w:World)(hx:0<=x)(hx':x<4294967296)(hy:0<=y)(hy':y<4294967296)(hc:0<=c)(hc':c<=1):
  Calls Tryz.prog 201 #[.int .u32 x,.int .u32 y,.int .u32 c] w fun e w'=>e=.returned (.tuple #[.int .u32 ((x-y-c)%4294967296),.int .u32 (-((x-y-c)/4294967296))])/\w=w':=by
 have HB:=Hx (jzjj x y c hx hx' hy hy' hc hc')
 go_enter Tryz.func201,Tryz.ntmps201
 go_wp2
 go_ret2
 refine⟨?_,rfl⟩;rw [<-HB.out];rfl
theorem div32_any(h l y:Int)(w:World)(hx:0<=h)(hx':h<y)(hy:0<=l)(hy':l<4294967296)(hc:0<y)(hc':y<4294967296):
  Calls Tryz.prog 172 #[.int .u32 h,.int .u32 l,.int .u32 y] w fun e w'=>e=.returned (.tuple #[.int .u32 ((h*4294967296+l)/y),.int .u32 ((h*4294967296+l)%y)])/\∃k,w'=w.drewN k:=by
 have qh:=jzjk h l hx (by omega) hy hy';have qa:0<=h*4294967296+l:=(by omega);have qi:h*4294967296+l<18446744073709551616:=(by omega);have qe:h*4294967296+l<y*4294967296:=(by omega);have qf:(y !=0)=true:=bne_iff_ne.2 (by omega);have qg:decide (y<=h)=false:=by simp;omega
 go_enter Tryz.func172,Tryz.ntmps172
 go_wp2;clear qh qf qg;generalize hZ:h*4294967296+l=Z at*;have HZ:=Hx hZ;clear hZ;have qj:0<=Z/y:=Int.ediv_nonneg qa (by omega);have qn:Z/y<4294967296:=Int.ediv_lt_of_lt_mul hc (by rw [Int.mul_comm];exact qe);have qm:0<=Z%y:=Int.emod_nonneg _ (by omega);have qk:Z%y<y:=Int.emod_lt_of_pos _ hc;have ht:Z.tdiv y=Z/y:=Int.tdiv_eq_ediv_of_nonneg qa;have hm:Z.tmod y=Z%y:=Int.tmod_eq_emod_of_nonneg qa
 go_quiet (fail)
 go_wp2
 go_ret2
 refine⟨?_,_,rfl⟩;rw [HZ.out];rfl
theorem jzbe(A:Option Addr)(n c:Nat)(ds:List Nat)(w:World)(hl:ds.length=n)(hc:n<=c)(hn:n<=1099511627776)(hlt:∀d∈ds,d<B32)(hr:RdT w 167 A (u32s ds)):
  Calls Tryz.prog 102 #[.slice A n c] w (NatPost w (Dig.val B32 ds)):=by
 subst hl
 go_enter Tryz.func102,Tryz.ntmps102
 go_wp2
 go_loop [3] (fun t=>∃k:Nat,k<=ds.length/\t=.int .i64 k/\∀j,k<=j->j<ds.length->ds[j]?.getD 0=0) (fun t=>(intOf t).toNat)
 case atStart=>exact⟨ds.length,yX _,rfl,fun j h1 h2=>by omega⟩
 case round=>
  obtain⟨k,hk,rfl,hz⟩:=hrel;have HZ:=Hx hz;clear hz;by_cases h0:k=0
  ·subst h0
   go_wp2;refine bodyPost_ret (v:=.agg #[.slice none 0 0]) (by simp [results,Tryz.results102,go_sem]) rfl ⟨_,_,_,rfl,?_,(Ext.refl _).alloc _⟩;rw [jzih HZ.out];exact NatR.zero _ _ _
  ·obtain⟨b,o,rfl,hb,qa⟩:=hr.rd.u32 (k:=k-1) (by omega)
   have qe:=qa (k-1) (by omega);clear qa;obtain⟨d,hd⟩:∃d,d=ds[k-1]?.getD 0:=⟨_,rfl⟩;rw [<-hd]at qe;have HD:=Hx hd;clear hd;by_cases hd:d=0
   ·subst hd
    go_wp2
    go_round
    case rel=>exact⟨k-1,by omega,by go_num,fun j h1 h2=>by
     by_cases e:j=k-1
     ·subst e;exact HD.out.symm
     ·exact HZ.out j (by omega) h2⟩
    case measure=>simp [intOf];omega
   ·have qg:((d:Int)==0)=false:=yK.2 (by omega)
    have qf:((k:Int)==0)=false:=yK.2 (by omega);go_wp2;refine bodyPost_ret (v:=.agg #[.slice (some ⟨b,o,none⟩) k k]) (by simp [results,Tryz.results102,go_sem]) rfl ⟨_,_,_,rfl,?_,(Ext.refl _).alloc _⟩;exact(NatR.of_take hr hk HZ.out (fun _=>by rw [<-HD.out];exact hd) hlt (yX _)).keep ((Ext.refl _).alloc _)
theorem jza5(x:Int)(w:World)(h0:0<=x)(h1:x<18446744073709551616):
  Calls Tryz.prog 106 #[.int .u64 x] w (NatPost w x.toNat):=by
 obtain⟨X,rfl⟩:=Int.eq_ofNat_of_zero_le h0
 go_enter Tryz.func106,Tryz.ntmps106
 go_wp2_with fail
 refine(jzbe (some ⟨w.heap.size+1,0,none⟩) 2 2 [X%4294967296,X/4294967296] _ rfl (yX _) (by omega) (by rw [jzo];simp;omega) (RdT.new _ _ (by simp) (by simp [u32s]))).mono ?_;rintro e w1 ⟨A,n,c,rfl,hR,hx⟩;have qa:NatR w1 A n c X:=by
  have e:Dig.val B32 [X%4294967296,X/4294967296]=X:=by simp only [Dig.val,jzo];omega
  rwa [e]at hR
 have H:=Hx qa;clear hR qa;have HB:=Hx (((Blk.new w 33 #[.slice none 0 0]).alloc _).keep hx);obtain⟨hc,hf⟩:=bcell hx;go_wp2;refine bodyPost_ret (v:=.agg #[.slice A n c]) (by simp [results,Tryz.results106,go_sem,(HB.out.set_ 0 _).cell]) rfl ⟨_,_,_,rfl,H.out.set_ HB.out (by decide) _,?_⟩;exact((((Ext.refl _).alloc _).alloc _).trans (hx.mono (by simp;omega))).setCell (by simp) _
theorem jzi(A:Option Addr)(n c:Nat)(w:World):
  Calls Tryz.prog 59 #[.agg #[.slice A n c]] w fun e w'=>e=.returned (.bool ((n:Int)==0))/\Ext w w':=by
 go_enter Tryz.func59,Tryz.ntmps59
 go_wp2;go_ret;exact⟨rfl,(Ext.refl _).alloc _⟩
theorem val2(ds:List Nat)(h:ds.length=2):Dig.val B32 ds=ds[1]?.getD 0*4294967296+ds[0]?.getD 0:=by
 match ds,h with
 | [a,b],_=>simp only [Dig.val,jzo];simp;omega
theorem jz0(A:Option Addr)(n c N:Nat)(w:World)(h:NatR w A n c N)(hN:N<18446744073709551616):
  Calls Tryz.prog 156 #[.agg #[.slice A n c]] w fun e w'=>e=.returned (.tuple #[.int .u64 (N:Int),.bool true])/\Ext w w':=by
 obtain⟨ds,rfl,hc,qe,rfl,hr⟩:=h;have qh:ds.length<=2:=qe.len_le jzeh (by rw [B32_sq];omega);have qf:ds.length=0\/ds.length=1\/ds.length=2:=(by omega);clear qh hN;rcases qf with h|h|h
 ·have hv:Dig.val B32 ds=0:=by rw [List.length_eq_zero_iff.1 h];rfl
  rw [hv,h];clear hv h qe hr hc
  go_enter Tryz.func156,Tryz.ntmps156
  go_wp2
  go_ret2
  exact⟨rfl,(Ext.refl _).alloc _⟩
 ·have hv:Dig.val B32 ds=ds[0]?.getD 0:=by
   match ds,h with
   | [a],_=>simp [Dig.val]
  obtain⟨b,o,rfl,hb,qa⟩:=hr.rd.u32 (k:=0) (by omega);have h0:=qa 0 (by omega);rw [Nat.add_zero]at h0;have qg:=jzj qe.lt 0;rw [jzo]at qg;rw [hv,h];clear hv h qe hr hc qa;generalize ds[0]?.getD 0=d at*
  go_enter Tryz.func156,Tryz.ntmps156
  go_wp2
  go_ret2
  exact⟨rfl,(Ext.refl _).alloc _⟩
 ·have hv:=val2 ds h
  obtain⟨b,o,rfl,hb,qa⟩:=hr.rd.u32 (k:=0) (by omega);have h0:=qa 0 (by omega);rw [Nat.add_zero]at h0;have h1:=qa 1 (by omega);have qg:=jzj qe.lt 0;have qi:=jzj qe.lt 1;rw [jzo]at qg qi;rw [hv,h];clear hv h qe hr hc qa;generalize ds[0]?.getD 0=d at*;generalize ds[1]?.getD 0=f at*;have qj:=jzjk f d (by omega) (by omega) (by omega) (by omega)
  go_enter Tryz.func156,Tryz.ntmps156
  go_wp2
  go_quiet (fail)
  go_wp2
  go_ret2
  have e:((f*4294967296+d:Nat):Int)=(f:Int)*4294967296+(d:Int):=(by omega);rw [e];exact⟨rfl,((Ext.refl _).alloc _).drewN _⟩
theorem jzaj(A:Option Addr)(n c N:Nat)(w:World)(h:NatR w A n c N)(hN:18446744073709551616<=N):
  Calls Tryz.prog 156 #[.agg #[.slice A n c]] w fun e w'=>e=.returned (.tuple #[.int .u64 0,.bool false])/\Ext w w':=by
 obtain⟨ds,rfl,hc,qa,rfl,hr⟩:=h;have qe:3<=ds.length:=by
  have h1:=Dig.val_lt jzm qa.lt;rcases Nat.lt_or_ge ds.length 3 with h|h
  ·have:B32^ds.length<=B32^2:=Nat.pow_le_pow_right jzm (by omega)
   rw [B32_sq]at this;omega
  ·exact h
 have b0:((ds.length:Int)==0)=false:=yK.2 (by omega);have b1:((ds.length:Int)==1)=false:=yK.2 (by omega);have b2:((ds.length:Int)==2)=false:=yK.2 (by omega);clear hN qa hr hc
 go_enter Tryz.func156,Tryz.ntmps156
 go_wp2
 go_ret2
 exact⟨rfl,(Ext.refl _).alloc _⟩
def cmpI(a b:Nat):Int:=if a<b then-1 else if a=b then 0 else 1
theorem jzjl(a b:Nat): -1<=cmpI a b/\cmpI a b<=1:=by unfold cmpI;split <;> (try split) <;> omega
theorem jzan(A1 A2:Option Addr)(n1 c1 n2 c2 a b:Nat)(w:World)(h1:NatR w A1 n1 c1 a)(h2:NatR w A2 n2 c2 b)(hn:n1<=1099511627776):
  Calls Tryz.prog 56 #[.agg #[.slice A1 n1 c1],.agg #[.slice A2 n2 c2]] w fun e w'=>e=.returned (.int .i64 (cmpI a b))/\Ext w w':=by
 obtain⟨xs,rfl,qC,qg,rfl,qn⟩:=h1;obtain⟨ys,rfl,qz,qh,rfl,qo⟩:=h2;by_cases hl:xs.length=ys.length
 ·have qy:((xs.length:Int) !=(ys.length:Int))=false:=by simp [hl]
  have HL:=Hx hl;clear hl
  go_enter Tryz.func56,Tryz.ntmps56
  go_wp2
  go_quiet (fail)
  go_wp2
  go_loopw [7] (fun t wr=>∃(k m:Nat),k<=xs.length/\t=.int .i64 (k-1)/\wr=((w.alloc (.cells #[.slice A1 xs.length c1] 33)).alloc (.cells #[.slice A2 ys.length c2] 33)).drewN m/\∀j,k<=j->j<xs.length->xs[j]?.getD 0=ys[j]?.getD 0) (fun t _=>(intOf t+1).toNat)
  case atStart=>exact⟨xs.length,_,yX _,rfl,rfl,fun j h1 h2=>by omega⟩
  case round=>
   obtain⟨k,m,hk,rfl,rfl,hz⟩:=hrel;have HZ:=Hx hz;clear hz;by_cases h0:k=0
   ·subst h0
    have qa:cmpI (Dig.val B32 xs) (Dig.val B32 ys)=0:=by
     have e:xs=ys:=(by have:=Dig.drop_eq_of HL.out HZ.out;simpa using this);unfold cmpI;rw [e];simp
    have HF:=Hx qa;clear qa;go_wp2;go_ret;rw [HF.out];exact⟨rfl,by repeat (first|exact Ext.refl _|refine Ext.drewN ?_ _|refine Ext.alloc ?_ _)⟩
   ·have qp:=HL.out
    obtain⟨b1,o1,rfl,qD,qf⟩:=qn.rd.u32 (k:=k-1) (by omega);obtain⟨b2,o2,rfl,qA,qe⟩:=qo.rd.u32 (k:=k-1) (by omega);have qt:=qf (k-1) (by omega);have qw:=qe (k-1) (by omega);clear qf qe qn qo;obtain⟨d1,qi⟩:∃d,d=xs[k-1]?.getD 0:=⟨_,rfl⟩;obtain⟨d2,qk⟩:∃d,d=ys[k-1]?.getD 0:=⟨_,rfl⟩;rw [<-qi]at qt;rw [<-qk]at qw;have qm:=Hx qi;have qj:=Hx qk;have i0:(0:Int)<=(k:Int)-1:=(by omega);have i1:(k:Int)-1<(xs.length:Int):=(by omega);have i2:(k:Int)-1<(ys.length:Int):=(by omega);have i3:((k:Int)-1).toNat=k-1:=(by omega);clear qi qk qp;rcases Nat.lt_trichotomy d1 d2 with hd|hd|hd
    ·have hb:decide (d1<d2)=true:=by simpa using hd
     have qa:cmpI (Dig.val B32 xs) (Dig.val B32 ys)= -1:=by
      unfold cmpI;rw [if_pos (Dig.val_lt_of_digit jzm qg.lt HL.out (k:=k-1) (by omega) (fun j h1 h2=>HZ.out j (by omega) h2) (by rw [<-qm.out, <-qj.out];exact hd))]
     have HF:=Hx qa;clear qa;go_wp2
     go_quiet (fail)
     go_wp2;go_ret;rw [HF.out];exact⟨rfl,by repeat (first|exact Ext.refl _|refine Ext.drewN ?_ _|refine Ext.alloc ?_ _)⟩
    ·subst hd
     go_wp2
     go_quiet (fail)
     go_wp2
     go_quiet (fail)
     go_wp2
     go_roundw
     case rel=>exact⟨k-1,_,by omega,by go_num,rfl,fun j h1 h2=>by
      by_cases e:j=k-1
      ·subst e;rw [<-qm.out, <-qj.out]
      ·exact HZ.out j (by omega) h2⟩
     case measure=>simp [intOf];omega
    ·have hb:decide (d1<d2)=false:=by simp;omega
     have qB:decide (d2<d1)=true:=(by simpa using hd);have qa:cmpI (Dig.val B32 xs) (Dig.val B32 ys)=1:=by
      have:=Dig.val_lt_of_digit jzm qh.lt HL.out.symm (k:=k-1) (by have:=HL.out;omega) (fun j h1 h2=>(HZ.out j (by omega) (by have:=HL.out;omega)).symm) (by rw [<-qm.out, <-qj.out];exact hd);unfold cmpI;rw [if_neg (by omega),if_neg (by omega)]
     have HF:=Hx qa;clear qa;go_wp2
     go_quiet (fail)
     go_wp2
     go_quiet (fail)
     go_wp2;go_ret;rw [HF.out];exact⟨rfl,by repeat (first|exact Ext.refl _|refine Ext.drewN ?_ _|refine Ext.alloc ?_ _)⟩
 ·have qy:((xs.length:Int) !=(ys.length:Int))=true:=by simp;omega
  have qx:(decide (xs.length<ys.length)=true/\cmpI (Dig.val B32 xs) (Dig.val B32 ys)= -1)\/(decide (xs.length<ys.length)=false/\cmpI (Dig.val B32 xs) (Dig.val B32 ys)=1):=by
   rcases Nat.lt_or_gt_of_ne hl with h|h
   ·have:=qg.len_lt jzeh qh h
    exact .inl ⟨by simp;omega,by unfold cmpI;rw [if_pos this]⟩
   ·have:=qh.len_lt jzeh qg h
    exact .inr ⟨by simp;omega,by unfold cmpI;rw [if_neg (by omega),if_neg (by omega)]⟩
  clear hl;rcases qx with⟨hd,hv⟩|⟨hd,hv⟩
  all_goals
   have HV:=Hx hv;clear hv
   go_enter Tryz.func56,Tryz.ntmps56
   go_wp2
   go_quiet (fail)
   go_wp2;go_ret;rw [HV.out];exact⟨rfl,by repeat (first|exact Ext.refl _|refine Ext.drewN ?_ _|refine Ext.alloc ?_ _)⟩
theorem Tryz.info167:(Tryz.prog.info? 167).map (fun i=>(i.zero,i.size,i.bytes))=some (some (.int .u32 0),1,4):=by kernel_rfl
theorem jzei{B k x y cr:Nat}{xs ys ds:List Nat}(hx:k<xs.length)(hd:k<ds.length)(ex:x=xs[k]?.getD 0)(ey:y=ys[k]?.getD 0)
  (h:Dig.val B (ds.take k)+B^k*cr=Dig.val B (xs.take k)+Dig.val B (ys.take k)):
  Dig.val B ((ds.set k ((x+y+cr)%B)).take (k+1))+B^(k+1)*((x+y+cr)/B)=Dig.val B (xs.take (k+1))+Dig.val B (ys.take (k+1)):=by
 have hy:Dig.val B (ys.take (k+1))=Dig.val B (ys.take k)+B^k*y:=by
  subst ey;by_cases h:k<ys.length
  ·exact Dig.val_take_succ' B ys k h
  ·rw [yU (by omega),yU (by omega),yI (by omega)];simp
 rw [Dig.val_take_set B ds k _ hd,hy,Dig.val_take_succ' B xs k hx];have e:B^k*((x+y+cr)%B)+B^(k+1)*((x+y+cr)/B)=B^k*(x+y+cr):=by
  rw [vD,Nat.mul_assoc, <-Nat.mul_add,Nat.mod_add_div]
 simp only [List.getD];rw [<-ex];have e2:B^k*(x+y+cr)=B^k*x+B^k*y+B^k*cr:=(by rw [Nat.mul_add,Nat.mul_add]);omega
theorem jzjm(A1 A2:Option Addr)(n1 c1 n2 c2 a b:Nat)(w:World)(h1:NatR w A1 n1 c1 a)(h2:NatR w A2 n2 c2 b)(hn1:n1<=1073741824)(hn2:n2<=1073741824):
  Calls Tryz.prog 160 #[.agg #[.slice A1 n1 c1],.agg #[.slice A2 n2 c2]] w (NatPost w (a+b)):=by
 obtain⟨xs,rfl,qX,qO,rfl,qN⟩:=h1;obtain⟨ys,rfl,qW,qP,rfl,qQ⟩:=h2;by_cases hl:xs.length<ys.length
 ·have qV:decide (xs.length<ys.length)=true:=by simpa using hl
  have qI:xs.length<=ys.length:=(by omega);have qB:=run_make_row' (P:=Tryz.prog) 31 167 (.int .u32 0) 4 Tryz.underlying31 Tryz.info167 rfl .i64 .i64 (ys.length+1) (by omega) (by omega);rw [Int.natCast_add,Int.natCast_one]at qB;clear hl
  go_enter Tryz.func160,Tryz.ntmps160
  go_wp2;clear qB
  go_loopw [6,27] (fun cy i wr=>∃(k cr:Nat) (ds:List Nat),k<=ys.length/\i=.int .i64 k/\cy=.int .u32 cr/\cr<=1/\ds.length=ys.length+1/\(∀d∈ds,d<B32)/\
    Dig.val B32 (ds.take k)+B32^k*cr=Dig.val B32 (ys.take k)+Dig.val B32 (xs.take k)/\
    Row wr (w.heap.size+3) ds/\Blk wr w.heap.size 33 #[.slice A2 ys.length c2]/\Blk wr (w.heap.size+1) 33 #[.slice A1 xs.length c1]/\Blk wr (w.heap.size+2) 33 #[.slice none 0 0]/\Ext w wr)
   (fun _ i _=>ys.length-(intOf i).toNat)
  case atStart=>
   refine⟨0,0,List.replicate (ys.length+1) 0,yZ _,rfl,rfl,yZ _,by simp,fun d hd=>?_,by simp [Dig.val],Row.made _ _ (by simp),?_,?_,?_,?_⟩
   ·have:=uF hd;subst this;exact jzm
   ·exact((((Blk.new w _ _).alloc _).alloc _).alloc _)
   ·exact((Blk.new' (w.alloc _) _ _ (by simp)).alloc _).alloc _
   ·exact(Blk.new' ((w.alloc _).alloc _) _ _ (by simp)).alloc _
   ·exact(((Ext.refl _).alloc _).alloc _).alloc _ |>.alloc _
  case round=>
   obtain⟨k,cr,ds,hk,rfl,rfl,qU,qD,qk,qm,qa,qp,qo,qw,hx⟩:=hrel;have HV:=Hx qm;have qg:=Hx qD;clear qm qD;have ca:=qp.cell 0;have cb:=qo.cell 0;simp only [xI,List.getElem?_cons_zero]at ca cb;by_cases qn:k<ys.length
   ·obtain⟨b1,o1,rfl,qL,qe⟩:=qQ.rd.u32 (k:=k) qn
    have qT:wr.cell? ⟨b1,o1+k,none⟩=_:=(hx.cell (p:=⟨b1,o1+k,none⟩) qL).trans (qe k qn);have qz:=qa.cell (i:=k) (by have:=qg.out;omega);have qE:=qa.frozen k;have qF:=jzj qP.lt k;rw [jzo]at qF;generalize hxe:ys[k]?.getD 0=x at*;generalize ds[k]?.getD 0=dk at*;have HX:=Hx hxe;clear hxe qe;have j1:(k:Int)<(ys.length:Int)+1:=(by omega);by_cases qy:k<xs.length
    ·obtain⟨b2,o2,rfl,qK,qf⟩:=qN.rd.u32 (k:=k) qy
     have qS:wr.cell? ⟨b2,o2+k,none⟩=_:=(hx.cell (p:=⟨b2,o2+k,none⟩) qK).trans (qf k qy);have qJ:=jzj qO.lt k;rw [jzo]at qJ;generalize qt:xs[k]?.getD 0=y at*;have HY:=Hx qt;clear qt qf
     go_wp2_with (go_at_call 200;refine(jzb5 _ _ _ _ (by omega) (by omega) (by omega) (by omega) (by omega) (by omega)).mono ?_;rintro e w' ⟨rfl,rfl⟩)
     have qi:((x:Int)+y+cr)/4294967296=(((x+y+cr)/B32:Nat):Int):=(by rw [jzo];omega);have qj:((x:Int)+y+cr)%4294967296=(((x+y+cr)%B32:Nat):Int):=by rw [jzo];omega
     go_roundw
     case rel=>
      rw [qj];exact⟨k+1,(x+y+cr)/B32,ds.set k ((x+y+cr)%B32),by omega,by go_num,by rw [qi],by rw [jzo];omega,by rw [yV];exact qg.out,Dig.set_lt qk (xT _ jzm),
       jzei qn (by have:=qg.out;omega) HX.out.symm HY.out.symm HV.out,qa.set_ _ _,qp.far (by first|(simp;omega)|simp) _,qo.far (by first|(simp;omega)|simp) _,qw.far (by first|(simp;omega)|simp) _,Below.setCell hx (by first|(simp;omega)|simp) _⟩
     case measure=>simp [intOf];omega
    ·go_wp2_with (go_at_call 200;refine(jzb5 _ _ _ _ (by omega) (by omega) (by omega) (by omega) (by omega) (by omega)).mono ?_;rintro e w' ⟨rfl,rfl⟩)
     have qt:0=xs[k]?.getD 0:=(by rw [yI (by omega)];rfl);have qi:((x:Int)+cr)/4294967296=(((x+0+cr)/B32:Nat):Int):=(by rw [jzo];omega);have qj:((x:Int)+cr)%4294967296=(((x+0+cr)%B32:Nat):Int):=by rw [jzo];omega
     go_roundw
     case rel=>
      rw [qj];exact⟨k+1,(x+0+cr)/B32,ds.set k ((x+0+cr)%B32),by omega,by go_num,by rw [qi],by rw [jzo];omega,by rw [yV];exact qg.out,Dig.set_lt qk (xT _ jzm),
       jzei qn (by have:=qg.out;omega) HX.out.symm qt HV.out,qa.set_ _ _,qp.far (by first|(simp;omega)|simp) _,qo.far (by first|(simp;omega)|simp) _,qw.far (by first|(simp;omega)|simp) _,Below.setCell hx (by first|(simp;omega)|simp) _⟩
     case measure=>simp [intOf];omega
   ·have qH:k=ys.length:=by omega
    subst qH;have qz:=qa.cell (i:=ys.length) (by have:=qg.out;omega);have qE:=qa.frozen ys.length;generalize ds[ys.length]?.getD 0=dk at*;have j1:(ys.length:Int)<(ys.length:Int)+1:=by omega
    go_wp2_with fail
    have qh:=qa.set_ ys.length cr;have qC:Ext w (wr.setCell ⟨w.heap.size+3,ys.length,none⟩ (.int .u32 cr)):=Below.setCell hx (by first|(simp;omega)|simp) _;refine(jzbe (some ⟨w.heap.size+3,0,none⟩) (ys.length+1) (ys.length+1) (ds.set ys.length cr) _ (by rw [yV];exact qg.out) (yX _) (by omega) (Dig.set_lt qk (by rw [jzo];omega)) qh.rdT).mono ?_;rintro e w1 ⟨A,n,c,rfl,hR,qx⟩;have qA:NatR w1 A n c (Dig.val B32 xs+Dig.val B32 ys):=by
     have e1:=Dig.val_take_set B32 ds ys.length cr (by have:=qg.out;omega);rw [yU (by rw [yV];have:=qg.out;omega)]at e1;have e2:=HV.out;rw [yU (yX _),yU qI]at e2;have e3:Dig.val B32 xs+Dig.val B32 ys=Dig.val B32 (ds.set ys.length cr):=(by omega);rw [e3];exact hR
    have H:=Hx qA;have HB:=Hx ((qw.far (p:=⟨w.heap.size+3,ys.length,none⟩) (by first|(simp;omega)|simp) (.int .u32 cr)).keep qx);have qM:=HB.out.cell 0;have qR:=HB.out.frozen 0;simp only [xI,List.getElem?_cons_zero]at qM;have qG:=Hx (qC.tr qx);clear hR qA qx qC qh qa qp qo qw hx ca cb qz qE;go_wp2;refine bodyPost_ret (v:=.agg #[.slice A n c]) (by simp [results,Tryz.results160,go_sem,(HB.out.set_ 0 _).cell]) rfl ⟨_,_,_,rfl,H.out.set_ HB.out (by decide) _,Below.setCell qG.out (by first|(simp;omega)|simp) _⟩
 ·have qV:decide (xs.length<ys.length)=false:=by simp;omega
  have qI:ys.length<=xs.length:=(by omega);have qB:=run_make_row' (P:=Tryz.prog) 31 167 (.int .u32 0) 4 Tryz.underlying31 Tryz.info167 rfl .i64 .i64 (xs.length+1) (by omega) (by omega);rw [Int.natCast_add,Int.natCast_one]at qB;clear hl
  go_enter Tryz.func160,Tryz.ntmps160
  go_wp2;clear qB
  go_loopw [6,27] (fun cy i wr=>∃(k cr:Nat) (ds:List Nat),k<=xs.length/\i=.int .i64 k/\cy=.int .u32 cr/\cr<=1/\ds.length=xs.length+1/\(∀d∈ds,d<B32)/\
    Dig.val B32 (ds.take k)+B32^k*cr=Dig.val B32 (xs.take k)+Dig.val B32 (ys.take k)/\
    Row wr (w.heap.size+3) ds/\Blk wr w.heap.size 33 #[.slice A1 xs.length c1]/\Blk wr (w.heap.size+1) 33 #[.slice A2 ys.length c2]/\Blk wr (w.heap.size+2) 33 #[.slice none 0 0]/\Ext w wr)
   (fun _ i _=>xs.length-(intOf i).toNat)
  case atStart=>
   refine⟨0,0,List.replicate (xs.length+1) 0,yZ _,rfl,rfl,yZ _,by simp,fun d hd=>?_,by simp [Dig.val],Row.made _ _ (by simp),?_,?_,?_,?_⟩
   ·have:=uF hd;subst this;exact jzm
   ·exact((((Blk.new w _ _).alloc _).alloc _).alloc _)
   ·exact((Blk.new' (w.alloc _) _ _ (by simp)).alloc _).alloc _
   ·exact(Blk.new' ((w.alloc _).alloc _) _ _ (by simp)).alloc _
   ·exact(((Ext.refl _).alloc _).alloc _).alloc _ |>.alloc _
  case round=>
   obtain⟨k,cr,ds,hk,rfl,rfl,qU,qD,qk,qm,qa,qp,qo,qw,hx⟩:=hrel;have HV:=Hx qm;have qg:=Hx qD;clear qm qD;have ca:=qp.cell 0;have cb:=qo.cell 0;simp only [xI,List.getElem?_cons_zero]at ca cb;by_cases qn:k<xs.length
   ·obtain⟨b1,o1,rfl,qL,qe⟩:=qN.rd.u32 (k:=k) qn
    have qT:wr.cell? ⟨b1,o1+k,none⟩=_:=(hx.cell (p:=⟨b1,o1+k,none⟩) qL).trans (qe k qn);have qz:=qa.cell (i:=k) (by have:=qg.out;omega);have qE:=qa.frozen k;have qF:=jzj qO.lt k;rw [jzo]at qF;generalize hxe:xs[k]?.getD 0=x at*;generalize ds[k]?.getD 0=dk at*;have HX:=Hx hxe;clear hxe qe;have j1:(k:Int)<(xs.length:Int)+1:=(by omega);by_cases qy:k<ys.length
    ·obtain⟨b2,o2,rfl,qK,qf⟩:=qQ.rd.u32 (k:=k) qy
     have qS:wr.cell? ⟨b2,o2+k,none⟩=_:=(hx.cell (p:=⟨b2,o2+k,none⟩) qK).trans (qf k qy);have qJ:=jzj qP.lt k;rw [jzo]at qJ;generalize qt:ys[k]?.getD 0=y at*;have HY:=Hx qt;clear qt qf
     go_wp2_with (go_at_call 200;refine(jzb5 _ _ _ _ (by omega) (by omega) (by omega) (by omega) (by omega) (by omega)).mono ?_;rintro e w' ⟨rfl,rfl⟩)
     have qi:((x:Int)+y+cr)/4294967296=(((x+y+cr)/B32:Nat):Int):=(by rw [jzo];omega);have qj:((x:Int)+y+cr)%4294967296=(((x+y+cr)%B32:Nat):Int):=by rw [jzo];omega
     go_roundw
     case rel=>
      rw [qj];exact⟨k+1,(x+y+cr)/B32,ds.set k ((x+y+cr)%B32),by omega,by go_num,by rw [qi],by rw [jzo];omega,by rw [yV];exact qg.out,Dig.set_lt qk (xT _ jzm),
       jzei qn (by have:=qg.out;omega) HX.out.symm HY.out.symm HV.out,qa.set_ _ _,qp.far (by first|(simp;omega)|simp) _,qo.far (by first|(simp;omega)|simp) _,qw.far (by first|(simp;omega)|simp) _,Below.setCell hx (by first|(simp;omega)|simp) _⟩
     case measure=>simp [intOf];omega
    ·go_wp2_with (go_at_call 200;refine(jzb5 _ _ _ _ (by omega) (by omega) (by omega) (by omega) (by omega) (by omega)).mono ?_;rintro e w' ⟨rfl,rfl⟩)
     have qt:0=ys[k]?.getD 0:=(by rw [yI (by omega)];rfl);have qi:((x:Int)+cr)/4294967296=(((x+0+cr)/B32:Nat):Int):=(by rw [jzo];omega);have qj:((x:Int)+cr)%4294967296=(((x+0+cr)%B32:Nat):Int):=by rw [jzo];omega
     go_roundw
     case rel=>
      rw [qj];exact⟨k+1,(x+0+cr)/B32,ds.set k ((x+0+cr)%B32),by omega,by go_num,by rw [qi],by rw [jzo];omega,by rw [yV];exact qg.out,Dig.set_lt qk (xT _ jzm),
       jzei qn (by have:=qg.out;omega) HX.out.symm qt HV.out,qa.set_ _ _,qp.far (by first|(simp;omega)|simp) _,qo.far (by first|(simp;omega)|simp) _,qw.far (by first|(simp;omega)|simp) _,Below.setCell hx (by first|(simp;omega)|simp) _⟩
     case measure=>simp [intOf];omega
   ·have qH:k=xs.length:=by omega
    subst qH;have qz:=qa.cell (i:=xs.length) (by have:=qg.out;omega);have qE:=qa.frozen xs.length;generalize ds[xs.length]?.getD 0=dk at*;have j1:(xs.length:Int)<(xs.length:Int)+1:=by omega
    go_wp2_with fail
    have qh:=qa.set_ xs.length cr;have qC:Ext w (wr.setCell ⟨w.heap.size+3,xs.length,none⟩ (.int .u32 cr)):=Below.setCell hx (by first|(simp;omega)|simp) _;refine(jzbe (some ⟨w.heap.size+3,0,none⟩) (xs.length+1) (xs.length+1) (ds.set xs.length cr) _ (by rw [yV];exact qg.out) (yX _) (by omega) (Dig.set_lt qk (by rw [jzo];omega)) qh.rdT).mono ?_;rintro e w1 ⟨A,n,c,rfl,hR,qx⟩;have qA:NatR w1 A n c (Dig.val B32 xs+Dig.val B32 ys):=by
     have e1:=Dig.val_take_set B32 ds xs.length cr (by have:=qg.out;omega);rw [yU (by rw [yV];have:=qg.out;omega)]at e1;have e2:=HV.out;rw [yU (yX _),yU qI]at e2;have e3:Dig.val B32 xs+Dig.val B32 ys=Dig.val B32 (ds.set xs.length cr):=(by omega);rw [e3];exact hR
    have H:=Hx qA;have HB:=Hx ((qw.far (p:=⟨w.heap.size+3,xs.length,none⟩) (by first|(simp;omega)|simp) (.int .u32 cr)).keep qx);have qM:=HB.out.cell 0;have qR:=HB.out.frozen 0;simp only [xI,List.getElem?_cons_zero]at qM;have qG:=Hx (qC.tr qx);clear hR qA qx qC qh qa qp qo qw hx ca cb qz qE;go_wp2;refine bodyPost_ret (v:=.agg #[.slice A n c]) (by simp [results,Tryz.results160,go_sem,(HB.out.set_ 0 _).cell]) rfl ⟨_,_,_,rfl,H.out.set_ HB.out (by decide) _,Below.setCell qG.out (by first|(simp;omega)|simp) _⟩
theorem jzjn{B k x y br d br':Nat}{xs ys ds:List Nat}(hx:k<xs.length)(hd:k<ds.length)(ex:x=xs[k]?.getD 0)(ey:y=ys[k]?.getD 0)
  (h:Dig.val B (ds.take k)+Dig.val B (ys.take k)=Dig.val B (xs.take k)+B^k*br) (e:d+y+br=x+B*br'):
  Dig.val B ((ds.set k d).take (k+1))+Dig.val B (ys.take (k+1))=Dig.val B (xs.take (k+1))+B^(k+1)*br':=by
 have hy:Dig.val B (ys.take (k+1))=Dig.val B (ys.take k)+B^k*y:=by
  subst ey;by_cases h:k<ys.length
  ·exact Dig.val_take_succ' B ys k h
  ·rw [yU (by omega),yU (by omega),yI (by omega)];simp
 rw [Dig.val_take_set B ds k _ hd,hy,Dig.val_take_succ' B xs k hx];simp only [List.getD];rw [<-ex];have e2:B^k*(d+y+br)=B^k*(x+B*br'):=(by rw [e]);have e3:B^(k+1)*br'=B^k*(B*br'):=(by rw [vD,Nat.mul_assoc]);rw [Nat.mul_add,Nat.mul_add,Nat.mul_add]at e2;omega
theorem jzc2(x y br:Nat)(hx:x<4294967296)(hy:y<4294967296)(hb:br<=1):
  ∃d br':Nat,((x:Int)-y-br)%4294967296=d/\ -(((x:Int)-y-br)/4294967296)=br'/\d+y+br=x+B32*br'/\d<B32/\br'<=1:=by
 refine⟨(((x:Int)-y-br)%4294967296).toNat,(-(((x:Int)-y-br)/4294967296)).toNat,by omega,by omega,?_,?_,by omega⟩
 ·rw [jzo];omega
 ·rw [jzo];omega
theorem jzfi(A1 A2:Option Addr)(n1 c1 n2 c2 a b:Nat)(w:World)(h1:NatR w A1 n1 c1 a)(h2:NatR w A2 n2 c2 b)(hn1:n1<=1073741824)(hab:b<=a):
  Calls Tryz.prog 161 #[.agg #[.slice A1 n1 c1],.agg #[.slice A2 n2 c2]] w fun e w'=>∃(A:Option Addr) (n c:Nat),e=.returned (.tuple #[.agg #[.slice A n c],.int .i64 0])/\NatR w' A n c (a-b)/\Ext w w':=by
 have H1:=Hx h1;have H2:=Hx h2;obtain⟨xs,rfl,q4,qB,qF,qM⟩:=h1;obtain⟨ys,rfl,qZ,qD,qI,qU⟩:=h2;have qR:ys.length<=xs.length:=by
  rcases Nat.lt_or_ge xs.length ys.length with h|h
  ·have:=qB.len_lt jzeh qD h;omega
  ·exact h
 have hq:0<=cmpI a b:=(by unfold cmpI;rw [if_neg (by omega)];split <;> omega);have qL:=Hx qF;have qW:=Hx qI;clear qF qI;have qT:=run_make_row' (P:=Tryz.prog) 31 167 (.int .u32 0) 4 Tryz.underlying31 Tryz.info167 rfl .i64 .i64 xs.length (by omega) (by omega)
 go_enter Tryz.func161,Tryz.ntmps161
 go_wp2_with fail
 refine(jzan A1 A2 xs.length c1 ys.length c2 a b _ ((H1.out.keep ((Ext.refl _).alloc _)).keep ((Ext.refl _).alloc _) |>.keep ((Ext.refl _).alloc _)) ((H2.out.keep ((Ext.refl _).alloc _)).keep ((Ext.refl _).alloc _) |>.keep ((Ext.refl _).alloc _)) (by omega)).mono ?_;rintro e w1 ⟨rfl,qm⟩;have qj:=(((Blk.new w 33 #[.slice A1 xs.length c1]).alloc (.cells #[.slice A2 ys.length c2] 33)).alloc (.cells #[.slice none 0 0] 33)).keep qm;have qi:=((Blk.new' (g:=w.heap.size+1) (w.alloc (.cells #[.slice A1 xs.length c1] 33)) 33 #[.slice A2 ys.length c2] (by simp)).alloc (.cells #[.slice none 0 0] 33)).keep qm;have qk:=(Blk.new' (g:=w.heap.size+2) ((w.alloc (.cells #[.slice A1 xs.length c1] 33)).alloc (.cells #[.slice A2 ys.length c2] 33)) 33 #[.slice none 0 0] (by simp)).keep qm;have qE:Ext w w1:=((((Ext.refl w).alloc _).alloc _).alloc _).tr qm;have hz:w.heap.size+3<=w1.heap.size:=(by have:=qm.size;simp at this;omega);have qO:w.heap.size<w1.heap.size:=(by omega);have qN:w.heap.size+1<w1.heap.size:=(by omega);have ca:=qj.cell 0;have cb:=qi.cell 0;simp only [xI,List.getElem?_cons_zero]at ca cb;have qY:=Hx qE;clear qm qE H1 H2;generalize hq':cmpI a b=q at*;clear hq';go_wp2;clear qT qO qN
 go_loopw [7,23] (fun cy i wr=>∃(k br:Nat) (ds:List Nat),k<=xs.length/\i=.int .i64 k/\cy=.int .u32 br/\br<=1/\ds.length=xs.length/\(∀d∈ds,d<B32)/\
   Dig.val B32 (ds.take k)+Dig.val B32 (ys.take k)=Dig.val B32 (xs.take k)+B32^k*br/\
   Row wr w1.heap.size ds/\Blk wr w.heap.size 33 #[.slice A1 xs.length c1]/\Blk wr (w.heap.size+1) 33 #[.slice A2 ys.length c2]/\Blk wr (w.heap.size+2) 33 #[.slice none 0 0]/\Ext w wr)
  (fun _ i _=>xs.length-(intOf i).toNat)
 case atStart=>
  refine⟨0,0,List.replicate xs.length 0,yZ _,rfl,rfl,yZ _,by simp,fun d hd=>?_,by simp [Dig.val],Row.made _ _ rfl,qj.alloc _,qi.alloc _,qk.alloc _,qY.out.alloc _⟩;have:=uF hd;subst this;exact jzm
 case round=>
  clear qj qi qk ca cb;obtain⟨k,cr,ds,hk,rfl,rfl,qJ,qK,qg,qn,qa,qj,qi,qk,hx⟩:=hrel;have HV:=Hx qn;have qh:=Hx qK;clear qn qK;have ca:=qj.cell 0;have cb:=qi.cell 0;simp only [xI,List.getElem?_cons_zero]at ca cb;by_cases qo:k<xs.length
  ·obtain⟨b1,o1,rfl,qV,qe⟩:=qM.rd.u32 (k:=k) qo
   have q3:wr.cell? ⟨b1,o1+k,none⟩=_:=(hx.cell (p:=⟨b1,o1+k,none⟩) qV).trans (qe k qo);have q2:=qa.cell (i:=k) (by have:=qh.out;omega);have q5:=qa.frozen k;have qt:=jzj qB.lt k;rw [jzo]at qt;generalize hxe:xs[k]?.getD 0=x at*;generalize ds[k]?.getD 0=dk at*;have HX:=Hx hxe;clear hxe qe;by_cases qC:k<ys.length
   ·obtain⟨b2,o2,rfl,qS,qf⟩:=qU.rd.u32 (k:=k) qC
    have q1:wr.cell? ⟨b2,o2+k,none⟩=_:=(hx.cell (p:=⟨b2,o2+k,none⟩) qS).trans (qf k qC);have qH:=jzj qD.lt k;rw [jzo]at qH;generalize qp:ys[k]?.getD 0=y at*;have HY:=Hx qp;clear qp qf
    go_wp2_with (go_at_call 201;refine(jzc1 _ _ _ _ (by omega) (by omega) (by omega) (by omega) (by omega) (by omega)).mono ?_;rintro e w' ⟨rfl,rfl⟩)
    obtain⟨d,qy,ed,eb,qx,qw,qz⟩:=jzc2 x y cr qt qH qJ
    go_roundw
    case rel=>
     rw [ed];exact⟨k+1,qy,ds.set k d,by omega,by go_num,by rw [eb],qz,by rw [yV];exact qh.out,Dig.set_lt qg qw,
      jzjn qo (by have:=qh.out;omega) HX.out.symm HY.out.symm HV.out qx,qa.set_ _ _,qj.far (by first|(simp;omega)|simp) _,qi.far (by first|(simp;omega)|simp) _,qk.far (by first|(simp;omega)|simp) _,Below.setCell hx (by first|(simp;omega)|simp) _⟩
    case measure=>simp [intOf];omega
   ·go_wp2_with (go_at_call 201;refine(jzc1 _ _ _ _ (by omega) (by omega) (by omega) (by omega) (by omega) (by omega)).mono ?_;rintro e w' ⟨rfl,rfl⟩)
    have qp:0=ys[k]?.getD 0:=(by rw [yI (by omega)];rfl);obtain⟨d,qy,ed,eb,qx,qw,qz⟩:=jzc2 x 0 cr qt (by omega) qJ;simp only [Int.natCast_zero,Int.sub_zero]at ed eb
    go_roundw
    case rel=>
     rw [ed];exact⟨k+1,qy,ds.set k d,by omega,by go_num,by rw [eb],qz,by rw [yV];exact qh.out,Dig.set_lt qg qw,
      jzjn qo (by have:=qh.out;omega) HX.out.symm qp HV.out qx,qa.set_ _ _,qj.far (by first|(simp;omega)|simp) _,qi.far (by first|(simp;omega)|simp) _,qk.far (by first|(simp;omega)|simp) _,Below.setCell hx (by first|(simp;omega)|simp) _⟩
    case measure=>simp [intOf];omega
  ·have qQ:k=xs.length:=by omega
   subst qQ
   go_wp2_with fail
   refine(jzbe (some ⟨w1.heap.size,0,none⟩) xs.length xs.length ds _ qh.out (yX _) (by omega) qg qa.rdT).mono ?_;rintro e w2 ⟨A,n,c,rfl,hR,qA⟩;have qG:NatR w2 A n c (a-b):=by
    have e2:=HV.out;rw [yU (by rw [qh.out];exact yX _),yU (yX _),yU qR,qL.out,qW.out]at e2;have h3:=Dig.val_lt jzm qg;rw [qh.out]at h3;have h4:cr=0:=by
     rcases Nat.eq_zero_or_pos cr with h|h
     ·exact h
     ·have:cr=1:=by omega
      subst this;omega
    subst h4;have:Dig.val B32 ds=a-b:=(by omega);rw [<-this];exact hR
   have H:=Hx qG;have HB:=Hx (qk.keep qA);have qX:=HB.out.cell 0;have q0:=HB.out.frozen 0;simp only [xI,List.getElem?_cons_zero]at qX;have qP:=Hx (hx.tr qA);clear hR qG qA qa qj qi qk hx ca cb;go_wp2;refine bodyPost_ret (v:=.tuple #[.agg #[.slice A n c],.int .i64 0]) (by simp [results,Tryz.results161,go_sem,(HB.out.set_ 0 _).cell]) rfl ⟨_,_,_,rfl,H.out.set_ HB.out (by decide) _,Below.setCell qP.out (by first|(simp;omega)|simp) _⟩
theorem mul_step{B j x y cr V S:Nat}{ds:List Nat}(hj:j<ds.length)(h:Dig.val B ds+B^j*cr=V+S):
  Dig.val B (ds.set j ((cr+(x*y+ds[j]?.getD 0))%B))+B^(j+1)*((cr+(x*y+ds[j]?.getD 0))/B)=V+(S+B^j*(x*y)):=by
 have h1:=Dig.val_set B ds j ((cr+(x*y+ds[j]?.getD 0))%B) hj;generalize ds[j]?.getD 0=d at*;have e:B^j*((cr+(x*y+d))%B)+B^(j+1)*((cr+(x*y+d))/B)=B^j*(cr+(x*y+d)):=by
  rw [vD,Nat.mul_assoc, <-Nat.mul_add,Nat.mod_add_div]
 have e2:B^j*(cr+(x*y+d))=B^j*cr+(B^j*(x*y)+B^j*d):=(by rw [Nat.mul_add,Nat.mul_add]);omega
theorem mul_sum{B i k x y:Nat}{ys:List Nat}(hk:k<ys.length)(ey:y=ys[k]?.getD 0):
  x*B^i*Dig.val B (ys.take k)+B^(i+k)*(x*y)=x*B^i*Dig.val B (ys.take (k+1)):=by
 rw [Dig.val_take_succ' B ys k hk];simp only [List.getD];rw [<-ey,Nat.mul_add,Nat.pow_add];simp only [Nat.mul_assoc,vE,Nat.mul_left_comm]
theorem mul_outer{B i x:Nat}{xs:List Nat}(v:Nat)(hi:i<xs.length)(ex:x=xs[i]?.getD 0):
  Dig.val B (xs.take i)*v+x*B^i*v=Dig.val B (xs.take (i+1))*v:=by
 rw [Dig.val_take_succ' B xs i hi];simp only [List.getD];rw [<-ex,xP,vE x]
theorem jzii(x y cr d:Nat)(hx:x<4294967296)(hy:y<4294967296)(hc:cr<4294967296)(hd:d<4294967296):
  (x:Int)*y<=18446744065119617025/\0<=(x:Int)*y/\(cr+(x*y+d))/B32<B32/\((cr:Int)+(x*y+d))/4294967296=(((cr+(x*y+d))/B32:Nat):Int)/\((cr:Int)+(x*y+d))%4294967296=(((cr+(x*y+d))%B32:Nat):Int):=by
 have h1:x*y<=4294967295*4294967295:=Nat.mul_le_mul (by omega) (by omega);have e:(x:Int)*y=((x*y:Nat):Int):=(by rw [Int.natCast_mul]);rw [e,jzo];refine⟨by omega,by omega,by omega,by omega,by omega⟩
theorem jzfj(A1 A2:Option Addr)(n1 c1 n2 c2 a b:Nat)(w:World)(h1:NatR w A1 n1 c1 a)(h2:NatR w A2 n2 c2 b)(hn1:n1<=1073741824)(hn2:n2<=1073741824):
  Calls Tryz.prog 58 #[.agg #[.slice A1 n1 c1],.agg #[.slice A2 n2 c2]] w (NatPost w (a*b)):=by
 obtain⟨xs,rfl,ve,qX,qM,qV⟩:=h1;obtain⟨ys,rfl,vc,qZ,qP,q7⟩:=h2;have qI:=Hx qM;have qU:=Hx qP;clear qM qP;by_cases z1:xs.length=0
 ·have zb:((xs.length:Int)==0)=true:=by simp;exact List.length_eq_zero_iff.1 z1
  have hz:a*b=0:=(by rw [<-qI.out,List.length_eq_zero_iff.1 z1];simp [Dig.val]);rw [hz];clear z1 hz
  go_enter Tryz.func58,Tryz.ntmps58
  go_wp2_with fail
  refine(jzi A1 xs.length c1 _).mono ?_;rintro e w1 ⟨rfl,qe⟩;have qf:=(Blk.new' (g:=w.heap.size+2) ((w.alloc (.cells #[.slice A1 xs.length c1] 33)).alloc (.cells #[.slice A2 ys.length c2] 33)) 33 #[.slice none 0 0] (by simp)).keep qe;have HX:=Hx (((((Ext.refl w).alloc _).alloc _).alloc _).tr qe);obtain⟨hc,hf⟩:=bcell qe;go_wp2;refine bodyPost_ret (v:=.agg #[.slice none 0 0]) (by simp [results,Tryz.results58,go_sem,(qf.set_ 0 _).cell]) rfl ⟨_,_,_,rfl,NatR.zero _ _ _,Below.setCell HX.out (by first|(simp;omega)|simp) _⟩
 have q4:((xs.length:Int)==0)=false:=(by simp;exact fun h=>z1 (by rw [h];rfl));by_cases z2:ys.length=0
 ·have zb:((ys.length:Int)==0)=true:=by simp;exact List.length_eq_zero_iff.1 z2
  have hz:a*b=0:=(by rw [<-qU.out,List.length_eq_zero_iff.1 z2];simp [Dig.val]);rw [hz];clear z1 z2 hz
  go_enter Tryz.func58,Tryz.ntmps58
  go_wp2_with fail
  refine(jzi A1 xs.length c1 _).mono ?_;rintro e w1 ⟨rfl,qe⟩;have qf:=(Blk.new' (g:=w.heap.size+2) ((w.alloc (.cells #[.slice A1 xs.length c1] 33)).alloc (.cells #[.slice A2 ys.length c2] 33)) 33 #[.slice none 0 0] (by simp)).keep qe;have HX:=Hx (((((Ext.refl w).alloc _).alloc _).alloc _).tr qe);obtain⟨hc,hf⟩:=bcell qe
  go_wp2_with fail
  refine(jzi A2 ys.length c2 _).mono ?_;rintro e w2 ⟨rfl,qn⟩;have qg:=qf.keep qn;have qz:=Hx (HX.out.tr qn);have qH:=qg.cell 0;have qW:=qg.frozen 0;simp only [xI,List.getElem?_cons_zero]at qH;clear qe qn hc hf qf;go_wp2;refine bodyPost_ret (v:=.agg #[.slice none 0 0]) (by simp [results,Tryz.results58,go_sem,(qg.set_ 0 _).cell]) rfl ⟨_,_,_,rfl,NatR.zero _ _ _,Below.setCell qz.out (by first|(simp;omega)|simp) _⟩
 have q0:((ys.length:Int)==0)=false:=(by simp;exact fun h=>z2 (by rw [h];rfl));have qR:=run_make_row' (P:=Tryz.prog) 31 167 (.int .u32 0) 4 Tryz.underlying31 Tryz.info167 rfl .i64 .i64 (xs.length+ys.length) (by omega) (by omega);rw [Int.natCast_add]at qR;clear z1 z2
 go_enter Tryz.func58,Tryz.ntmps58
 go_wp2_with fail
 refine(jzi A1 xs.length c1 _).mono ?_;rintro e w1 ⟨rfl,qe⟩;have qj:=(((Blk.new w 33 #[.slice A1 xs.length c1]).alloc (.cells #[.slice A2 ys.length c2] 33)).alloc (.cells #[.slice none 0 0] 33)).keep qe;have qi:=((Blk.new' (g:=w.heap.size+1) (w.alloc (.cells #[.slice A1 xs.length c1] 33)) 33 #[.slice A2 ys.length c2] (by simp)).alloc (.cells #[.slice none 0 0] 33)).keep qe;have qf:=(Blk.new' (g:=w.heap.size+2) ((w.alloc (.cells #[.slice A1 xs.length c1] 33)).alloc (.cells #[.slice A2 ys.length c2] 33)) 33 #[.slice none 0 0] (by simp)).keep qe;have HX:=Hx (((((Ext.refl w).alloc _).alloc _).alloc _).tr qe);obtain⟨hc,hf⟩:=bcell qe
 go_wp2_with fail
 refine(jzi A2 ys.length c2 _).mono ?_;rintro e w2 ⟨rfl,qn⟩;have qt:=qj.keep qn;have qx:=qi.keep qn;have qg:=qf.keep qn;have qz:=Hx (HX.out.tr qn);have hz:w.heap.size+3<=w2.heap.size:=(by have:=qe.size;have h':=qn.size;simp at this;omega);have q1:w.heap.size<w2.heap.size:=(by omega);have qY:w.heap.size+1<w2.heap.size:=(by omega);have ca:=qt.cell 0;have cb:=qx.cell 0;simp only [xI,List.getElem?_cons_zero]at ca cb;clear qe qn hc hf qf qj qi HX;go_wp2;clear qR q1 qY q4 q0
 go_loopw [29] (fun it wr=>∃(i:Nat) (ds:List Nat),i<=xs.length/\it=.int .i64 i/\ds.length=xs.length+ys.length/\(∀d∈ds,d<B32)/\
   Dig.val B32 ds=Dig.val B32 (xs.take i)*Dig.val B32 ys/\(∀j,i+ys.length<=j->ds[j]?.getD 0=0)/\
   Row wr w2.heap.size ds/\Blk wr w.heap.size 33 #[.slice A1 xs.length c1]/\Blk wr (w.heap.size+1) 33 #[.slice A2 ys.length c2]/\Blk wr (w.heap.size+2) 33 #[.slice none 0 0]/\Ext w wr)
  (fun i _=>xs.length-(intOf i).toNat)
 case atStart=>
  refine⟨0,List.replicate (xs.length+ys.length) 0,yZ _,rfl,by simp,fun d hd=>?_,by simp [Dig.val,Dig.val_replicate],fun j _=>?_,Row.made _ _ rfl,qt.alloc _,qx.alloc _,qg.alloc _,qz.out.alloc _⟩
  ·have:=uF hd;subst this;exact jzm
  ·rw [xB];split <;> rfl
 case round=>
  clear qt qx qg ca cb qz;obtain⟨wo,rfl⟩:∃wo:World,wo=wr:=⟨_,rfl⟩;obtain⟨i,ds,hi,rfl,qT,qB,qA,qo,qa,qj,qi,qf,hx⟩:=hrel;have HV:=Hx qA;have qJ:=Hx qT;have HZ:=Hx qo;clear qA qT qo;have ca:=qj.cell 0;have cb:=qi.cell 0;simp only [xI,List.getElem?_cons_zero]at ca cb;by_cases qC:i<xs.length
  ·obtain⟨b1,o1,rfl,q8,qk⟩:=qV.rd.u32 (k:=i) qC
   have q6:wo.cell? ⟨b1,o1+i,none⟩=_:=(hx.cell (p:=⟨b1,o1+i,none⟩) q8).trans (qk i qC);have qK:=jzj qX.lt i;rw [jzo]at qK;generalize hxe:xs[i]?.getD 0=x at*;have HX:=Hx hxe;clear hxe qk;go_wp2
   go_loopw [8,37] (fun cy kt wr=>∃(k cr:Nat) (es:List Nat),k<=ys.length/\kt=.int .i64 k/\cy=.int .u64 cr/\cr<B32/\es.length=xs.length+ys.length/\(∀d∈es,d<B32)/\
     Dig.val B32 es+B32^(i+k)*cr=Dig.val B32 ds+x*B32^i*Dig.val B32 (ys.take k)/\(∀j,i+ys.length<=j->es[j]?.getD 0=0)/\
     Row wr w2.heap.size es/\Blk wr w.heap.size 33 #[.slice (some ⟨b1,o1,none⟩) xs.length c1]/\Blk wr (w.heap.size+1) 33 #[.slice A2 ys.length c2]/\Blk wr (w.heap.size+2) 33 #[.slice none 0 0]/\Ext w wr)
    (fun _ k _=>ys.length-(intOf k).toNat)
   case atStart=>exact⟨0,0,ds,yZ _,rfl,rfl,jzm,qJ.out,qB,by simp [Dig.val],HZ.out,qa,qj,qi,qf,hx⟩
   case round=>
    clear q6 qa qj qi qf hx ca cb;obtain⟨k,cr,es,hk,rfl,rfl,qG,qS,qw,qp,qh,qa,qj,qi,qf,hx⟩:=hrel;have qL:=Hx qp;have qy:=Hx qS;have qF:=Hx qh;clear qp qS qh;have ca:=qj.cell 0;have cb:=qi.cell 0;simp only [xI,List.getElem?_cons_zero]at ca cb;rw [jzo]at qG;by_cases qD:k<ys.length
    ·obtain⟨b2,o2,rfl,q5,qm⟩:=q7.rd.u32 (k:=k) qD
     have vd:wr.cell? ⟨b2,o2+k,none⟩=_:=(hx.cell (p:=⟨b2,o2+k,none⟩) q5).trans (qm k qD);have qO:=jzj qZ.lt k;rw [jzo]at qO;generalize hye:ys[k]?.getD 0=y at*;have HY:=Hx hye;clear hye qm;have q2:=qa.cell (i:=i+k) (by have:=qy.out;omega);have va:=qa.frozen (i+k);have qQ:=jzj qw (i+k);rw [jzo]at qQ;generalize hde:es[i+k]?.getD 0=d at*;have HD:=Hx hde;clear hde;obtain⟨t1,t2,t3,t4,t5⟩:=jzii x y cr d qK qO qG qQ;have T3:=Hx t3;have T4:=Hx t4;have T5:=Hx t5;clear t3 t4 t5;have j1:(i:Int)+k<(xs.length:Int)+ys.length:=(by omega);have j2:((i:Int)+k).toNat=i+k:=(by omega);go_wp2
     go_roundw
     case rel=>
      rw [T5.out];have hs:=mul_step (B:=B32) (x:=x) (y:=y) (by have:=qy.out;omega:i+k<es.length) qL.out;rw [HD.out,Nat.add_assoc i k 1]at hs;refine⟨k+1,(cr+(x*y+d))/B32,es.set (i+k) ((cr+(x*y+d))%B32),by omega,by go_num,by rw [T4.out],T3.out,by rw [yV];exact qy.out,Dig.set_lt qw (xT _ jzm),?_,?_,qa.set_ _ _,qj.far (by first|(simp;omega)|simp) _,qi.far (by first|(simp;omega)|simp) _,qf.far (by first|(simp;omega)|simp) _,Below.setCell hx (by first|(simp;omega)|simp) _⟩
      ·rw [<-mul_sum qD HY.out.symm];exact hs
      ·intro j hj
       rw [List.getElem?_set,if_neg (by omega)];exact qF.out j hj
     case measure=>simp [intOf];omega
    ·have q3:k=ys.length:=by omega
     subst q3;have q2:=qa.cell (i:=i+ys.length) (by have:=qy.out;omega);have va:=qa.frozen (i+ys.length);have j1:(i:Int)+ys.length<(xs.length:Int)+ys.length:=(by omega);have j2:((i:Int)+ys.length).toNat=i+ys.length:=(by omega);generalize hde:es[i+ys.length]?.getD 0=d at*;have HD:=Hx hde;clear hde;go_wp2
     go_roundw
     case rel=>
      refine⟨i+1,es.set (i+ys.length) cr,by omega,by go_num,by rw [yV];exact qy.out,Dig.set_lt qw (by rw [jzo];exact qG),?_,?_,qa.set_ _ _,qj.far (by first|(simp;omega)|simp) _,qi.far (by first|(simp;omega)|simp) _,qf.far (by first|(simp;omega)|simp) _,Below.setCell hx (by first|(simp;omega)|simp) _⟩
      ·have e1:=Dig.val_set B32 es (i+ys.length) cr (by have:=qy.out;omega)
       rw [qF.out _ (yX _),Nat.mul_zero,Nat.add_zero]at e1;have e2:=qL.out;rw [yU (yX _),HV.out,mul_outer _ qC HX.out.symm]at e2;omega
      ·intro j hj
       rw [List.getElem?_set,if_neg (by omega)];exact qF.out j (by omega)
     case measure=>simp [intOf];omega
  ·have q9:i=xs.length:=by omega
   subst q9
   go_wp2_with fail
   refine(jzbe (some ⟨w2.heap.size,0,none⟩) (xs.length+ys.length) (xs.length+ys.length) ds _ qJ.out (yX _) (by omega) qB qa.rdT).mono ?_;rintro e w3 ⟨A,n,c,rfl,hR,qE⟩;have qN:NatR w3 A n c (a*b):=by
    have e2:=HV.out;rw [yU (yX _),qI.out,qU.out]at e2;rw [<-e2];exact hR
   have H:=Hx qN;have HB:=Hx (qf.keep qE);have qH:=HB.out.cell 0;have qW:=HB.out.frozen 0;simp only [xI,List.getElem?_cons_zero]at qH;have qz:=Hx (hx.tr qE);clear hR qN qE qa qj qi qf hx ca cb;go_wp2;refine bodyPost_ret (v:=.agg #[.slice A n c]) (by simp [results,Tryz.results58,go_sem,(HB.out.set_ 0 _).cell]) rfl ⟨_,_,_,rfl,H.out.set_ HB.out (by decide) _,Below.setCell qz.out (by first|(simp;omega)|simp) _⟩
theorem jzjo{B k x b q r rest:Nat}{xs ds:List Nat}(hx:k<xs.length)(hd:k<ds.length)(ex:x=xs[k]?.getD 0)
  (h:Dig.val B (xs.drop (k+1))=Dig.val B (ds.drop (k+1))*b+rest) (e:rest*B+x=q*b+r):
  Dig.val B (xs.drop k)=Dig.val B ((ds.set k q).drop k)*b+r:=by
 rw [Dig.drop_set_self ds k q hd,Dig.val_cons,Dig.val_drop' B xs k hx,h];simp only [List.getD];rw [<-ex,xP,Nat.mul_add, <-Nat.mul_assoc];have:B*rest=rest*B:=vE _ _;omega
theorem jzij(rest x b:Nat)(hr:rest<b)(hx:x<4294967296)(hb:b<4294967296):
  ∃q r:Nat,((rest:Int)*4294967296+x)/b=q/\((rest:Int)*4294967296+x)%b=r/\rest*B32+x=q*b+r/\q<B32/\r<b:=by
 refine⟨(rest*4294967296+x)/b,(rest*4294967296+x)%b,by simp,by simp,?_,?_,xT _ (by omega)⟩
 ·rw [jzo,vE _ b,Nat.div_add_mod]
 ·rw [jzo]
  exact(Nat.div_lt_iff_lt_mul (by omega)).2 (by omega)
theorem jzaz(A1:Option Addr)(n1 c1 a b:Nat)(w:World)(h1:NatR w A1 n1 c1 a)(hn1:n1<=1073741824)(hb0:0<b)(hbB:b<4294967296):
  Calls Tryz.prog 128 #[.agg #[.slice A1 n1 c1],.int .u32 (b:Int)] w fun e w'=>∃(A:Option Addr) (n c:Nat),e=.returned (.tuple #[.agg #[.slice A n c],.int .u32 ((a%b:Nat):Int)])/\NatR w' A n c (a/b)/\Ext w w':=by
 obtain⟨xs,rfl,qK,qF,qn,qx⟩:=h1;have qw:=Hx qn;clear qn;have qD:=run_make_row' (P:=Tryz.prog) 31 167 (.int .u32 0) 4 Tryz.underlying31 Tryz.info167 rfl .i64 .i64 xs.length (by omega) (by omega)
 go_enter Tryz.func128,Tryz.ntmps128
 go_wp2;clear qD
 go_loopw [7,8] (fun cy it wr=>∃(k rest:Nat) (ds:List Nat),k<=xs.length/\it=.int .i64 (k-1)/\cy=.int .u32 rest/\rest<b/\ds.length=xs.length/\(∀d∈ds,d<B32)/\
   Dig.val B32 (xs.drop k)=Dig.val B32 (ds.drop k)*b+rest/\
   Row wr (w.heap.size+2) ds/\Blk wr w.heap.size 33 #[.slice A1 xs.length c1]/\Blk wr (w.heap.size+1) 33 #[.slice none 0 0]/\Ext w wr)
  (fun _ i _=>(intOf i+1).toNat)
 case atStart=>
  refine⟨xs.length,0,List.replicate xs.length 0,yX _,rfl,rfl,hb0,by simp,fun d hd=>?_,?_,Row.made _ _ (by simp),((Blk.new w _ _).alloc _).alloc _,(Blk.new' (w.alloc _) _ _ (by simp)).alloc _,(((Ext.refl _).alloc _).alloc _).alloc _⟩
  ·have:=uF hd;subst this;exact jzm
  ·rw [List.drop_of_length_le (yX _),List.drop_of_length_le (by simp)];simp [Dig.val]
 case round=>
  obtain⟨k,cr,ds,hk,rfl,rfl,qi,qt,qg,qf,qe,qk,qj,hx⟩:=hrel;have HV:=Hx qf;have qh:=Hx qt;clear qf qt;have ca:=qk.cell 0;simp only [xI,List.getElem?_cons_zero]at ca;by_cases qC:0<k
  ·obtain⟨b1,o1,rfl,qG,qa⟩:=qx.rd.u32 (k:=k-1) (by omega)
   have qI:wr.cell? ⟨b1,o1+(k-1),none⟩=_:=(hx.cell (p:=⟨b1,o1+(k-1),none⟩) qG).trans (qa (k-1) (by omega));have qM:=qe.cell (i:=k-1) (by have:=qh.out;omega);have qL:=qe.frozen (k-1);have qp:=jzj qF.lt (k-1);rw [jzo]at qp;generalize hxe:xs[k-1]?.getD 0=x at*;generalize ds[k-1]?.getD 0=dk at*;have HX:=Hx hxe;clear hxe qa
   go_wp2_with (go_at_call 172;refine(div32_any _ _ _ _ (by omega) (by omega) (by omega) (by omega) (by omega) (by omega)).mono ?_;rintro e w' ⟨rfl,m,rfl⟩)
   obtain⟨q,r,eq,er,qE,qB,qA⟩:=jzij cr x b qi qp hbB
   go_roundw
   case rel=>
    rw [eq];exact⟨k-1,r,ds.set (k-1) q,by omega,by go_num,by rw [er],qA,by rw [yV];exact qh.out,Dig.set_lt qg qB,
     jzjo (by omega) (by have:=qh.out;omega) HX.out.symm (by rw [Nat.sub_add_cancel qC];exact HV.out) qE,(qe.drewN _).set_ _ _,(qk.drewN _).far (by first|(simp;omega)|simp) _,(qj.drewN _).far (by first|(simp;omega)|simp) _,Below.setCell (hx.drewN _) (by first|(simp;omega)|simp) _⟩
   case measure=>simp [intOf];omega
  ·have qz:k=0:=by omega
   subst qz
   go_wp2_with fail
   refine(jzbe (some ⟨w.heap.size+2,0,none⟩) xs.length xs.length ds _ qh.out (yX _) (by omega) qg qe.rdT).mono ?_;rintro e w2 ⟨A,n,c,rfl,hR,qm⟩;have e2:=HV.out;simp only [List.drop_zero]at e2;rw [qw.out]at e2;have ed:Dig.val B32 ds=a/b:=by
    rw [e2,vE,Nat.mul_add_div hb0,Nat.div_eq_of_lt qi,Nat.add_zero]
   have em:cr=a%b:=by
    rw [e2,vE,Nat.mul_add_mod,Nat.mod_eq_of_lt qi]
   have qo:NatR w2 A n c (a/b):=(by rw [<-ed];exact hR);have H:=Hx qo;have HM:=Hx em;have HB:=Hx (qj.keep qm);have qH:=HB.out.cell 0;have qJ:=HB.out.frozen 0;simp only [xI,List.getElem?_cons_zero]at qH;have qy:=Hx (hx.tr qm);clear hR qo qm qe qk qj hx ca e2 ed em;go_wp2;refine bodyPost_ret (v:=.tuple #[.agg #[.slice A n c],.int .u32 (cr:Int)]) (by simp [results,Tryz.results128,go_sem,(HB.out.set_ 0 _).cell]) rfl ⟨_,_,_,by rw [<-HM.out],H.out.set_ HB.out (by decide) _,Below.setCell qy.out (by first|(simp;omega)|simp) _⟩
section
variable {w w':World} {g:Nat} {t:TypeId}
theorem Blk.one{v:Value}(h:Blk w g t #[v]):w.cell? ⟨g,0,none⟩=some v/\w.frozen? ⟨g,0,none⟩=false:=⟨h.cell 0,h.frozen 0⟩
theorem Blk.three{a b c:Value}(h:Blk w g t #[a,b,c]):(w.cell? ⟨g,0,none⟩=some a/\w.cell? ⟨g,1,none⟩=some b/\w.cell? ⟨g,2,none⟩=some c)/\
 w.frozen? ⟨g,0,none⟩=false/\w.frozen? ⟨g,1,none⟩=false/\w.frozen? ⟨g,2,none⟩=false:=⟨⟨h.cell 0,h.cell 1,h.cell 2⟩,h.frozen 0,h.frozen 1,h.frozen 2⟩
end
theorem boxes1(w:World)(c0:Array Value)(t0:TypeId):Blk (w.alloc (.cells c0 t0)) w.heap.size t0 c0/\Ext w (w.alloc (.cells c0 t0)):=⟨Blk.new w _ _,(Ext.refl w).alloc _⟩
theorem boxes2(w:World)(c0:Array Value)(t0:TypeId)(c1:Array Value)(t1:TypeId):
  Blk ((w.alloc (.cells c0 t0)).alloc (.cells c1 t1)) w.heap.size t0 c0/\Blk ((w.alloc (.cells c0 t0)).alloc (.cells c1 t1)) (w.heap.size+1) t1 c1/\Ext w ((w.alloc (.cells c0 t0)).alloc (.cells c1 t1)):=
 ⟨(Blk.new w _ _).alloc _,Blk.new' _ _ _ (by simp),((Ext.refl w).alloc _).alloc _⟩
theorem boxes3(w:World)(c0:Array Value)(t0:TypeId)(c1:Array Value)(t1:TypeId)(c2:Array Value)(t2:TypeId):
  Blk (((w.alloc (.cells c0 t0)).alloc (.cells c1 t1)).alloc (.cells c2 t2)) w.heap.size t0 c0/\Blk (((w.alloc (.cells c0 t0)).alloc (.cells c1 t1)).alloc (.cells c2 t2)) (w.heap.size+1) t1 c1/\
  Blk (((w.alloc (.cells c0 t0)).alloc (.cells c1 t1)).alloc (.cells c2 t2)) (w.heap.size+1+1) t2 c2/\Ext w (((w.alloc (.cells c0 t0)).alloc (.cells c1 t1)).alloc (.cells c2 t2)):=
 ⟨((Blk.new w _ _).alloc _).alloc _,(Blk.new' _ _ _ (by simp)).alloc _,Blk.new' _ _ _ (by simp),(((Ext.refl w).alloc _).alloc _).alloc _⟩
theorem boxes4(w:World)(c0:Array Value)(t0:TypeId)(c1:Array Value)(t1:TypeId)(c2:Array Value)(t2:TypeId)(c3:Array Value)(t3:TypeId):
  Blk ((((w.alloc (.cells c0 t0)).alloc (.cells c1 t1)).alloc (.cells c2 t2)).alloc (.cells c3 t3)) w.heap.size t0 c0/\Blk ((((w.alloc (.cells c0 t0)).alloc (.cells c1 t1)).alloc (.cells c2 t2)).alloc (.cells c3 t3)) (w.heap.size+1) t1 c1/\
  Blk ((((w.alloc (.cells c0 t0)).alloc (.cells c1 t1)).alloc (.cells c2 t2)).alloc (.cells c3 t3)) (w.heap.size+1+1) t2 c2/\Blk ((((w.alloc (.cells c0 t0)).alloc (.cells c1 t1)).alloc (.cells c2 t2)).alloc (.cells c3 t3)) (w.heap.size+1+1+1) t3 c3/\
  Ext w ((((w.alloc (.cells c0 t0)).alloc (.cells c1 t1)).alloc (.cells c2 t2)).alloc (.cells c3 t3)):=
 ⟨(((Blk.new w _ _).alloc _).alloc _).alloc _,((Blk.new' _ _ _ (by simp)).alloc _).alloc _,(Blk.new' _ _ _ (by simp)).alloc _,Blk.new' _ _ _ (by simp),((((Ext.refl w).alloc _).alloc _).alloc _).alloc _⟩
theorem Ext.set_{a w:World}(h:Ext a w){p:Addr}(hp:a.heap.size<=p.block)(u:Value):Ext a (w.setCell p u):=Below.setCell h hp u
def DivPost(w:World)(q r:Nat)(e:Ending)(w':World):Prop:=
 ∃(A:Option Addr) (n c:Nat) (A':Option Addr) (n' c':Nat),e=.returned (.tuple #[.agg #[.slice A n c],.agg #[.slice A' n' c'],.int .i64 0])/\NatR w' A n c q/\NatR w' A' n' c' r/\Ext w w'
theorem jzd3(A1 A2:Option Addr)(n1 c1 n2 c2 a b:Nat)(w:World)(h1:NatR w A1 n1 c1 a)(h2:NatR w A2 n2 c2 b)(hn1:n1<=1073741824)(hab:a<b):
  Calls Tryz.prog 105 #[.agg #[.slice A1 n1 c1],.agg #[.slice A2 n2 c2]] w (DivPost w 0 a):=by
 have H1:=Hx h1;have H2:=Hx h2;have z2:((n2:Int)==0)=false:=by
  have:=h2.eq_zero;exact yK.2 (by omega)
 have hq:cmpI a b= -1:=(by unfold cmpI;rw [if_pos hab]);have HQ:=Hx hq;clear h1 h2 hq
 go_enter Tryz.func105,Tryz.ntmps105
 go_wp2_with fail
 refine(jzi A2 n2 c2 _).mono ?_;rintro e w1 ⟨rfl,qg⟩;obtain⟨qf,qi,qa,qe,e0⟩:=boxes4 w #[.slice A1 n1 c1] 33 #[.slice A2 n2 c2] 33 #[.slice none 0 0] 33 #[.slice none 0 0] 33;have HX:=Hx (e0.tr qg);have qf:=qf.keep qg;have qi:=qi.keep qg;have qa:=qa.keep qg;have qe:=qe.keep qg;have ca:=qf.one.1;have cb:=qi.one.1;clear e0 qg
 go_wp2_with fail
 refine(jzan A1 A2 n1 c1 n2 c2 a b _ (H1.out.keep HX.out) (H2.out.keep HX.out) (by omega)).mono ?_;rintro e w2 ⟨rfl,qh⟩;rw [HQ.out];have qf:=qf.keep qh;have qa:=qa.keep qh;have qe:=qe.keep qh;have qj:=Hx (HX.out.tr qh);obtain⟨d1,_⟩:=qf.one;obtain⟨d2,f2⟩:=qa.one;obtain⟨d3,f3⟩:=qe.one;clear qh ca cb qi;go_wp2
 go_region
 go_wp2;have qm:=(qa.set_ 0 (.slice none 0 0)).far (p:=⟨w.heap.size+1+1+1,0,none⟩) (by first|(simp;omega)|simp) (.slice A1 n1 c1);have qk:=(qe.far (p:=⟨w.heap.size+1+1,0,none⟩) (by first|(simp;omega)|simp) (.slice none 0 0));refine bodyPost_ret (v:=.tuple #[.agg #[.slice none 0 0],.agg #[.slice A1 n1 c1],.int .i64 0]) (by simp [results,Tryz.results105,go_sem,qm.cell,(qk.set_ 0 _).cell]) rfl
  ⟨_,_,_,_,_,_,rfl,NatR.zero _ _ _,?_,?_⟩
 ·exact((H1.out.keep qj.out).set_ (p:=⟨w.heap.size+1+1,0,none⟩) qa (by decide) _).set_ (p:=⟨w.heap.size+1+1+1,0,none⟩) qk (by decide) _
 ·exact((qj.out.set_ (by first|(simp;omega)|simp) _).set_ (by first|(simp;omega)|simp) _).drewN 1
theorem jzgd(A1 A2:Option Addr)(n1 c1 n2 c2 a b:Nat)(w:World)(h1:NatR w A1 n1 c1 a)(h2:NatR w A2 n2 c2 b)(hn1:n1<=1073741824)(hb0:0<b)(hab:b<=a)(ha:a<18446744073709551616):
  Calls Tryz.prog 105 #[.agg #[.slice A1 n1 c1],.agg #[.slice A2 n2 c2]] w (DivPost w (a/b) (a%b)):=by
 have H1:=Hx h1;have H2:=Hx h2;have z2:((n2:Int)==0)=false:=by
  have:=h2.eq_zero;exact yK.2 (by omega)
 have hq:0<=cmpI a b:=(by unfold cmpI;rw [if_neg (by omega)];split <;> omega);clear h1 h2
 go_enter Tryz.func105,Tryz.ntmps105
 go_wp2_with fail
 refine(jzi A2 n2 c2 _).mono ?_;rintro e w1 ⟨rfl,qh⟩;obtain⟨qg,qf,qa,qe,e0⟩:=boxes4 w #[.slice A1 n1 c1] 33 #[.slice A2 n2 c2] 33 #[.slice none 0 0] 33 #[.slice none 0 0] 33;have HX:=Hx (e0.tr qh);have qg:=qg.keep qh;have qf:=qf.keep qh;have qa:=qa.keep qh;have qe:=qe.keep qh;have ca:=qg.one.1;have cb:=qf.one.1;clear e0 qh
 go_wp2_with fail
 refine(jzan A1 A2 n1 c1 n2 c2 a b _ (H1.out.keep HX.out) (H2.out.keep HX.out) (by omega)).mono ?_;rintro e w2 ⟨rfl,qi⟩;generalize cmpI a b=q at*;have qg:=qg.keep qi;have qf:=qf.keep qi;have qa:=qa.keep qi;have qe:=qe.keep qi;have qo:=Hx (HX.out.tr qi);have ca:=qg.one.1;have cb:=qf.one.1;clear qi HX
 go_wp2_with fail
 refine(jz0 A1 n1 c1 a _ (H1.out.keep qo.out) ha).mono ?_;rintro e w3 ⟨rfl,qj⟩;have qf:=qf.keep qj;have qa:=qa.keep qj;have qe:=qe.keep qj;have qw:=Hx (qo.out.tr qj);have cb:=qf.one.1;clear qj qo qg ca
 go_wp2_with fail
 refine(jz0 A2 n2 c2 b _ (H2.out.keep qw.out) (by omega)).mono ?_;rintro e w4 ⟨rfl,qk⟩;have qa:=qa.keep qk;have qe:=qe.keep qk;have qp:=Hx (qw.out.tr qk);obtain⟨d2,f2⟩:=qa.one;obtain⟨d3,f3⟩:=qe.one;obtain⟨Q,hQ⟩:∃Q,Q=a/b:=⟨_,rfl⟩;obtain⟨R,qn⟩:∃R,R=a%b:=⟨_,rfl⟩;have qG:(a:Int).tdiv b=(Q:Int):=(by rw [Int.tdiv_eq_ediv_of_nonneg (by omega),hQ];simp);have qE:(a:Int).tmod b=(R:Int):=(by rw [Int.tmod_eq_emod_of_nonneg (by omega),qn];simp);have qH:Q<=a:=(by rw [hQ];exact Nat.div_le_self _ _);have qI:R<b:=(by rw [qn];exact xT _ hb0);have qJ:¬b=0:=(by omega);have qF:IntKind.u64.wrap (Q:Int)=(Q:Int):=(by rw [IntKind.wrap_u64];exact Int.emod_eq_of_lt (by omega) (by omega));have HQ:=Hx hQ;have HR:=Hx qn;clear qk qw qf cb hQ qn;go_wp2;have qa:Blk w4.drew _ _ _:=qa;have qe:Blk w4.drew _ _ _:=qe;have qp:Hid (Ext w w4.drew):=qp.out.drewN 1;have qy:True:=trivial
 go_region_held3 (fun _=>True) (trivial) (first
  |(go_at_call 106;have _t:=qy;refine(jza5 _ _ (by omega) (by omega)).mono ?_;rintro e w5 ⟨A5,n5,c5,rfl,qB,qt⟩;clear qy;have qa:=qa.keep qt;have qe:=qe.keep qt;have qz:=Hx (qp.out.tr qt);obtain⟨d2,f2⟩:=qa.one;obtain⟨d3,f3⟩:=qe.one)
  |(go_at_call 106;refine(jza5 _ _ (by omega) (by omega)).mono ?_;rintro e w6 ⟨A6,n6,c6,rfl,qC,qm⟩;have qa:=qa.keep qm;have qe:=qe.keep qm;have qA:=Hx (qz.out.tr qm);obtain⟨d2,f2⟩:=qa.one;obtain⟨d3,f3⟩:=qe.one))
 go_wp2;have e1:NatR w6 A5 n5 c5 (a/b):=(by have:=qB.keep qm;rw [<-HQ.out];exact this);have e2:NatR w6 A6 n6 c6 (a%b):=(by rw [<-HR.out];exact qC);have qD:=(qa.set_ 0 (.slice A5 n5 c5)).far (p:=⟨w.heap.size+1+1+1,0,none⟩) (by first|(simp;omega)|simp) (.slice A6 n6 c6);have qx:=(qe.far (p:=⟨w.heap.size+1+1,0,none⟩) (by first|(simp;omega)|simp) (.slice A5 n5 c5));refine bodyPost_ret (v:=.tuple #[.agg #[.slice A5 n5 c5],.agg #[.slice A6 n6 c6],.int .i64 0]) (by simp [results,Tryz.results105,go_sem,qD.cell,(qx.set_ 0 _).cell]) rfl
  ⟨_,_,_,_,_,_,rfl,?_,?_,?_⟩
 ·exact(e1.set_ (p:=⟨w.heap.size+1+1,0,none⟩) qa (by decide) _).set_ (p:=⟨w.heap.size+1+1+1,0,none⟩) qx (by decide) _
 ·exact(e2.set_ (p:=⟨w.heap.size+1+1,0,none⟩) qa (by decide) _).set_ (p:=⟨w.heap.size+1+1+1,0,none⟩) qx (by decide) _
 ·exact((qA.out.set_ (by first|(simp;omega)|simp) _).set_ (by first|(simp;omega)|simp) _)
def DivModAt(x y:Nat):Prop:=∀(A1 A2:Option Addr) (n1 c1 n2 c2:Nat) (w:World),NatR w A1 n1 c1 x->NatR w A2 n2 c2 y->n1<=1073741824->n2<=1073741824->
 Calls Tryz.prog 105 #[.agg #[.slice A1 n1 c1],.agg #[.slice A2 n2 c2]] w (DivPost w (x/y) (x%y))
theorem jza6{x y:Nat}(hy:0<y)(hx:x<18446744073709551616):DivModAt x y:=fun A1 A2 n1 c1 n2 c2 w h1 h2 hn1 _=>by
 rcases Nat.lt_or_ge x y with h|h
 ·rw [Nat.div_eq_of_lt h,Nat.mod_eq_of_lt h];exact jzd3 A1 A2 n1 c1 n2 c2 x y w h1 h2 hn1 h
 ·exact jzgd A1 A2 n1 c1 n2 c2 x y w h1 h2 hn1 hy h hx
theorem NatR.len_le{w w':World}{A A':Option Addr}{n c N n' c' M:Nat}(h:NatR w A n c N)(h':NatR w' A' n' c' M)(hle:N<=M):n<=n':=by
 obtain⟨xs,rfl,_,hx,rfl,_⟩:=h;obtain⟨ys,rfl,_,hy,rfl,_⟩:=h';rcases Nat.lt_or_ge ys.length xs.length with h|h
 ·have:=hy.len_lt jzeh hx h;omega
 ·exact h
theorem gcd_any(A1 A2:Option Addr)(n1 c1 n2 c2 a b:Nat)(w:World)(h1:NatR w A1 n1 c1 a)(h2:NatR w A2 n2 c2 b)(hn1:n1<=1073741824)(hn2:n2<=1073741824)
  (qt:18446744073709551616<=a\/18446744073709551616<=b->∀x y,0<y->DivModAt x y):
  Calls Tryz.prog 104 #[.agg #[.slice A1 n1 c1],.agg #[.slice A2 n2 c2]] w (NatPost w (Nat.gcd a b)):=by
 have qS:=Hx qt;have H1:=Hx h1;have H2:=Hx h2;clear qt h1 h2
 go_enter Tryz.func104,Tryz.ntmps104
 go_wp2;obtain⟨qe,qf,qa,e0⟩:=boxes3 w #[.slice A1 n1 c1] 33 #[.slice A2 n2 c2] 33 #[.slice none 0 0] 33
 go_loopg [5] b (fun m t wr=>∃(A A':Option Addr) (n c n' c' x y:Nat),t=t/\y<=m/\Blk wr w.heap.size 33 #[.slice A n c]/\Blk wr (w.heap.size+1) 33 #[.slice A' n' c']/\Blk wr (w.heap.size+1+1) 33 #[.slice none 0 0]/\
  NatR wr A n c x/\NatR wr A' n' c' y/\n<=1073741824/\n'<=1073741824/\Nat.gcd x y=Nat.gcd a b/\(18446744073709551616<=x\/18446744073709551616<=y->18446744073709551616<=a\/18446744073709551616<=b)/\Ext w wr)
 case atStart=>exact⟨A1,A2,n1,c1,n2,c2,a,b,rfl,yX _,qe,qf,qa,H1.out.keep e0,H2.out.keep e0,hn1,hn2,rfl,id,e0⟩
 case round=>
  clear qe qf qa e0 H1 H2;obtain⟨A,A',n,c,n',c',x,y,_,q7,qe,qf,qa,hx,hy,hn,qM,hg,qp,qn⟩:=hrel;have ca:=qe.one.1;have cb:=qf.one.1;have G:=Hx hg;have qK:=Hx qp;have NX:=Hx hx;have NY:=Hx hy;clear hg qp;by_cases q2:y=0
  ·have zb:((n':Int)==0)=true:=by have:=hy.eq_zero;simp;omega
   clear hx hy
   go_wp2_with fail
   refine(jzi A' n' c' _).mono ?_;rintro e w1 ⟨rfl,qg⟩;have qe:=qe.keep qg;have qa:=qa.keep qg;have ca:=qe.one.1;obtain⟨d2,f2⟩:=qa.one;have qw:=Hx (qn.tr qg);have qm:=Hx (NX.out.keep qg);have qj:x=Nat.gcd a b:=(by rw [<-G.out,q2,Nat.gcd_zero_right]);have HF:=Hx qj;clear qg qj;go_wp2;refine bodyPost_ret (v:=.agg #[.slice A n c]) (by simp [results,Tryz.results104,go_sem,(qa.set_ 0 _).cell]) rfl ⟨_,_,_,rfl,by rw [<-HF.out];exact qm.out.set_ qa (by decide) _,qw.out.set_ (by first|(simp;omega)|simp) _⟩
  ·have zb:((n':Int)==0)=false:=by have:=hy.eq_zero;exact yK.2 (by omega)
   clear hx hy
   go_wp2_with fail
   refine(jzi A' n' c' _).mono ?_;rintro e w1 ⟨rfl,qg⟩;have qe:=qe.keep qg;have qf:=qf.keep qg;have qa:=qa.keep qg;have ca:=qe.one.1;have cb:=qf.one.1;have qw:=Hx (qn.tr qg);have qm:=Hx (NX.out.keep qg);have qN:=Hx (NY.out.keep qg);clear qg;by_cases qJ:x<18446744073709551616/\y<18446744073709551616
   ·obtain⟨qI,qC⟩:=qJ
    go_wp2_with fail
    refine(jz0 A n c x _ qm.out qI).mono ?_;rintro e w2 ⟨rfl,qh⟩;have qf:=qf.keep qh;have qa:=qa.keep qh;have cb:=qf.one.1;have qz:=Hx (qw.out.tr qh);have qo:=Hx (qN.out.keep qh);clear qh
    go_wp2_with fail
    refine(jz0 A' n' c' y _ qo.out qC).mono ?_;rintro e w3 ⟨rfl,qi⟩;have qa:=qa.keep qi;have qx:=Hx (qz.out.tr qi);clear qi;go_wp2
    go_loopw [5,7] (fun t5 t7 wr=>∃(p q m:Nat),t5=.int .u64 p/\t7=.int .u64 q/\p<18446744073709551616/\q<18446744073709551616/\Nat.gcd p q=Nat.gcd a b/\wr=w3.drewN m) (fun _ t7 _=>(intOf t7).toNat)
    case atStart=>exact⟨x,y,0,rfl,rfl,qI,qC,G.out,rfl⟩
    case round=>
     obtain⟨p,q,m,rfl,rfl,hp,hq,qR,rfl⟩:=hrel;have GP:=Hx qR;clear qR;by_cases qy:q=0
     ·subst qy
      have qj:p=Nat.gcd a b:=(by rw [<-GP.out,Nat.gcd_zero_right]);have HF:=Hx qj;clear qj
      go_wp2_with fail
      refine(jza5 p _ (by omega) (by omega)).mono ?_;rintro e w5 ⟨A5,n5,c5,rfl,qF,qA⟩;have qa:=(qa.drewN m).keep qA;obtain⟨d2,f2⟩:=qa.one;have qX:=Hx ((qx.out.drewN m).tr qA);have R5:=Hx qF;clear qA qF;go_wp2;refine bodyPost_ret (v:=.agg #[.slice A5 n5 c5]) (by simp [results,Tryz.results104,go_sem,(qa.set_ 0 _).cell]) rfl ⟨_,_,_,rfl,?_,qX.out.set_ (by first|(simp;omega)|simp) _⟩;have:=R5.out.set_ (p:=⟨w.heap.size+1+1,0,none⟩) qa (by decide) (.slice A5 n5 c5);rw [xL,HF.out]at this;exact this
     ·have q9:((q:Int) !=0)=true:=bne_iff_ne.2 (by omega)
      have q0:¬q=0:=qy;obtain⟨r,hr⟩:∃r,r=p%q:=⟨_,rfl⟩;have q8:(p:Int).tmod q=(r:Int):=(by rw [Int.tmod_eq_emod_of_nonneg (by omega),hr];simp);have q6:r<q:=(by rw [hr];exact xT _ (by omega));have HR:=Hx hr;clear hr qy;go_wp2
      go_quiet (fail)
      go_wp2
      go_roundw
      case rel=>exact⟨q,r,m+nq,rfl,rfl,hq,by omega,by rw [HR.out, <-GP.out,Nat.gcd_comm p q,Nat.gcd_rec q p,Nat.gcd_comm],by rw [World.drewN_drewN]⟩
      case measure=>simp [intOf];omega
   ·have qt:=qS.out (qK.out (by omega)) x y (by omega)
    have HD:=Hx qt;obtain⟨v1,qB,qG,qU⟩:∃(v:Int) (bl:Bool),Calls Tryz.prog 156 #[.agg #[.slice A n c]] w1 (fun e w'=>e=.returned (.tuple #[.int .u64 v,.bool bl])/\Ext w1 w')/\(bl=true->18446744073709551616<=y):=by
     rcases Nat.lt_or_ge x 18446744073709551616 with h|h
     ·exact⟨_,_,jz0 A n c x _ qm.out h,fun _=>by omega⟩
     ·exact⟨_,_,jzaj A n c x _ qm.out h,fun h=>by cases h⟩
    have qQ:=Hx qG;have qO:=Hx qU;clear qt qJ qS qG qU
    go_wp2_with fail
    refine qQ.out.mono ?_;rintro e w2 ⟨rfl,qh⟩;have qe:=qe.keep qh;have qf:=qf.keep qh;have qa:=qa.keep qh;have cb:=qf.one.1;have qz:=Hx (qw.out.tr qh);have qZ:=Hx (qm.out.keep qh);have qo:=Hx (qN.out.keep qh);obtain⟨v2,qY,qD,qP⟩:∃(v:Int) (bl:Bool),Calls Tryz.prog 156 #[.agg #[.slice A' n' c']] w2 (fun e w'=>e=.returned (.tuple #[.int .u64 v,.bool bl])/\Ext w2 w')/\(18446744073709551616<=y->bl=false):=by
     rcases Nat.lt_or_ge y 18446744073709551616 with h|h
     ·exact⟨_,_,jz0 A' n' c' y _ qo.out h,fun _=>by omega⟩
     ·exact⟨_,_,jzaj A' n' c' y _ qo.out h,fun _=>rfl⟩
    have qT:=Hx qD;have qV:=Hx qP;clear qh qD qP qQ
    go_wp2_with fail
    refine qT.out.mono ?_;rintro e w3 ⟨rfl,qi⟩;have qe:=qe.keep qi;have qf:=qf.keep qi;have qa:=qa.keep qi;have ca:=qe.one.1;have cb:=qf.one.1;have qx:=Hx (qz.out.tr qi);have q1:=Hx (qZ.out.keep qi);have qH:=Hx (qo.out.keep qi);have qW:qB=false\/(qB=true/\qY=false):=by
     cases qB
     ·exact .inl rfl
     ·exact .inr ⟨rfl,qV.out (qO.out rfl)⟩
    clear qi qT qO qV;rcases qW with rfl|⟨rfl,rfl⟩
    all_goals
     go_wp2_with fail
     refine(HD.out A A' n c n' c' _ q1.out qH.out hn qM).mono ?_;rintro e w4 ⟨B1,k1,d1,B2,k2,d2,rfl,hQ,hR,qk⟩;have qe:=qe.keep qk;have qf:=qf.keep qk;have qa:=qa.keep qk;have z0:=qe.lt;have z1:=qf.lt;have f0:=qe.one.2;have f1:=qf.one.2;have ca:=qe.one.1;have cb:=qf.one.1;have q3:=Hx (qx.out.tr qk);have qE:=Hx (qH.out.keep qk);have qL:=Hx hR;clear qk hQ hR;go_wp2
     go_region
     go_wp2;have hm:x%y<y:=xT _ (by omega);have b0:=(qe.set_ 0 (.slice A' n' c')).far (p:=⟨w.heap.size+1,0,none⟩) (by first|(simp;omega)|simp) (.slice B2 k2 d2);have b1:=(qf.far (p:=⟨w.heap.size,0,none⟩) (by first|(simp;omega)|simp) (.slice A' n' c'));have b2:=(qa.far (p:=⟨w.heap.size,0,none⟩) (by first|(simp;omega)|simp) (.slice A' n' c')).far (p:=⟨w.heap.size+1,0,none⟩) (by first|(simp;omega)|simp) (.slice B2 k2 d2);have q5:=(qE.out.set_ (p:=⟨w.heap.size,0,none⟩) qe (by decide) (.slice A' n' c')).set_ (p:=⟨w.heap.size+1,0,none⟩) b1 (by decide) (.slice B2 k2 d2);have q4:=(qL.out.set_ (p:=⟨w.heap.size,0,none⟩) qe (by decide) (.slice A' n' c')).set_ (p:=⟨w.heap.size+1,0,none⟩) b1 (by decide) (.slice B2 k2 d2);have e5:=(q3.out.set_ (p:=⟨w.heap.size,0,none⟩) (by first|(simp;omega)|simp) (.slice A' n' c')).set_ (p:=⟨w.heap.size+1,0,none⟩) (by first|(simp;omega)|simp) (.slice B2 k2 d2)
     go_roundg (x%y)
     case measure=>omega
     case rel=>
      have e6:Ext ((w4.setCell ⟨w.heap.size,0,none⟩ (.slice A' n' c')).setCell ⟨w.heap.size+1,0,none⟩ (.slice B2 k2 d2)) ((((w4.setCell ⟨w.heap.size,0,none⟩ (.slice A' n' c')).setCell ⟨w.heap.size+1,0,none⟩ (.slice B2 k2 d2)).alloc (.cells #[.slice B1 k1 d1] 33)).alloc (.cells #[.slice B2 k2 d2] 33)).drew:=(((Ext.refl _).alloc _).alloc _).drewN 1;refine⟨A',B2,n',c',k2,d2,y,x%y,trivial,yX _,?_,?_,?_,?_,?_,qM,?_,?_,?_,?_⟩
      ·exact b0.keep e6
      ·exact(b1.set_ 0 (.slice B2 k2 d2)).keep e6
      ·exact b2.keep e6
      ·exact q5.keep e6
      ·exact q4.keep e6
      ·have:=qL.out.len_le qE.out (by omega);omega
      ·rw [<-G.out,Nat.gcd_comm x y,Nat.gcd_rec y x,Nat.gcd_comm]
      ·intro h;exact qK.out (.inr (by omega))
      ·exact e5.tr e6
end Go.Proofs.YthbmikapohlikaaGreatDoor
