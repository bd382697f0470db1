/- Part 8 of 24 of what the Flows claims share (the white space is struck, the texts are joined). -/
import Derived.Lib.SliceRun
import Derived.Test.YthbmikapohlikaaGreatDoorZ07
set_option linter.unusedVariables false
set_option linter.unusedSimpArgs false
set_option maxRecDepth 100000
set_option maxHeartbeats 8000000
namespace Go.Proofs.YthbmikapohlikaaGreatDoor
open Go.RowKit
def QP(w:World)(g:Nat)(qs:List Rat):Prop:=
 ∃cur:Array Value,Blk w g 35 cur/\∀(i:Nat) (q:Rat),qs[i]?=some q->∃(neg:Bool) (A:Option Addr) (n c:Nat) (A':Option Addr) (n' c':Nat),
  (cur[i*3]?=some (.bool neg)/\cur[i*3+1]?=some (.slice A n c)/\cur[i*3+2]?=some (.slice A' n' c'))/\RatR w neg A n c A' n' c' q
theorem QP.keep{w w':World}{g:Nat}{qs:List Rat}(h:QP w g qs)(hx:Ext w w'):QP w' g qs:=by
 obtain⟨qa,h1,h2⟩:=h;refine⟨qa,h1.keep hx,fun i q hq=>?_⟩;obtain⟨neg,A,n,c,A',n',c',h3,h4⟩:=h2 i q hq;exact⟨neg,A,n,c,A',n',c',h3,h4.keep hx⟩
theorem QP.lt{w:World}{g:Nat}{qs:List Rat}(h:QP w g qs):g<w.heap.size:=by
 obtain⟨qa,h1,_⟩:=h;exact h1.lt
theorem QP.at_{w:World}{g:Nat}{qs:List Rat}(h:QP w g qs){i:Nat}{q:Rat}(hl:qs[i]?=some q):
  ∃(neg:Bool) (A:Option Addr) (n c:Nat) (A':Option Addr) (n' c':Nat),
   (w.cell? ⟨g,i*3,none⟩=some (.bool neg)/\w.cell? ⟨g,i*3+1,none⟩=some (.slice A n c)/\w.cell? ⟨g,i*3+2,none⟩=some (.slice A' n' c'))/\
   (w.frozen? ⟨g,i*3,none⟩=false/\w.frozen? ⟨g,i*3+1,none⟩=false/\w.frozen? ⟨g,i*3+2,none⟩=false)/\RatR w neg A n c A' n' c' q:=by
 obtain⟨qa,h1,h2⟩:=h;obtain⟨neg,A,n,c,A',n',c',⟨e0,e1,e2⟩,h4⟩:=h2 i q hl;exact⟨neg,A,n,c,A',n',c',⟨by rw [h1.cell];exact e0,by rw [h1.cell];exact e1,by rw [h1.cell];exact e2⟩,⟨h1.frozen _,h1.frozen _,h1.frozen _⟩,h4⟩
theorem QP.take{w:World}{g:Nat}{qs:List Rat}(h:QP w g qs)(m:Nat):QP w g (qs.take m):=by
 obtain⟨qa,h1,h2⟩:=h;refine⟨qa,h1,fun i q hq=>h2 i q ?_⟩;rw [xG]at hq
 split at hq
 ·exact hq
 ·cases hq
theorem jzcr{cur:Array Value}{m j:Nat}{u0 u1 u2:Value}(hm:m*3+2<cur.size):(((cur.setIfInBounds (m*3) u0).setIfInBounds (m*3+1) u1).setIfInBounds (m*3+2) u2)[j]?=if j=m*3 then some u0 else if j=m*3+1 then some u1 else if j=m*3+2 then some u2 else cur[j]?:=by
 rw [Array.getElem?_setIfInBounds,Array.getElem?_setIfInBounds,Array.getElem?_setIfInBounds];simp only [Array.size_setIfInBounds]
 repeat' split
 all_goals first|rfl|omega
theorem QP.put{w:World}{g m:Nat}{qs:List Rat}{q:Rat}{neg:Bool}{A:Option Addr}{n c:Nat}{A':Option Addr}{n' c':Nat}(h:QP w g qs)(hm:m<qs.length)(hl:RatR w neg A n c A' n' c' q):
  QP (((w.setCell ⟨g,m*3,none⟩ (.bool neg)).setCell ⟨g,m*3+1,none⟩ (.slice A n c)).setCell ⟨g,m*3+2,none⟩ (.slice A' n' c')) g (qs.set m q):=by
 obtain⟨qf,h1,h2⟩:=h;have g2:=((jze w g (m*3) (.bool neg)).trans (jze _ g (m*3+1) (.slice A n c))).trans (jze _ g (m*3+2) (.slice A' n' c'));have b:=((h1.set_ (m*3) (.bool neg)).set_ (m*3+1) (.slice A n c)).set_ (m*3+2) (.slice A' n' c');have qa:m*3+2<qf.size:=by
  obtain⟨_,_,_,_,_,_,_,⟨_,_,e2⟩,_⟩:=h2 m _ (yG hm);exact(Array.getElem?_eq_some_iff.1 e2).1
 refine⟨_,b,fun i p hi=>?_⟩;by_cases e:m=i
 ·subst e
  rw [yM hm]at hi;injection hi with hi
  subst hi;refine⟨neg,A,n,c,A',n',c',⟨?_,?_,?_⟩,hl.other g2 h1 (by decide)⟩
  ·rw [jzcr qa,if_pos rfl]
  ·rw [jzcr qa,if_neg (by omega),if_pos rfl]
  ·rw [jzcr qa,if_neg (by omega),if_neg (by omega),if_pos rfl]
 ·rw [vN e]at hi
  obtain⟨qe,B,k,d,B',k',d',⟨e0,e1,e2⟩,h4⟩:=h2 i p hi;refine⟨qe,B,k,d,B',k',d',⟨?_,?_,?_⟩,h4.other g2 h1 (by decide)⟩
  ·rw [jzcr qa,if_neg (by omega),if_neg (by omega),if_neg (by omega)];exact e0
  ·rw [jzcr qa,if_neg (by omega),if_neg (by omega),if_neg (by omega)];exact e1
  ·rw [jzcr qa,if_neg (by omega),if_neg (by omega),if_neg (by omega)];exact e2
end Go.Proofs.YthbmikapohlikaaGreatDoor
namespace Go.Proofs.YthbmikapohlikaaGreatDoor
def atL(l:List Nat)(i:Nat):Nat:=l[i]?.getD 0
def swapL(l:List Nat)(i j:Nat):List Nat:=(l.set i (atL l j)).set j (atL l i)
theorem atL_get{l:List Nat}{i:Nat}(h:i<l.length):l[i]?=some (atL l i):=by
 unfold atL;rw [yG h];rfl
theorem atL_set(l:List Nat)(i k v:Nat)(hi:i<l.length):atL (l.set i v) k=if k=i then v else atL l k:=by
 unfold atL;by_cases e:k=i
 ·subst e;rw [yM hi,if_pos rfl];rfl
 ·rw [vN (fun h=>e h.symm),if_neg e]
open Go.RowKit
def NRow(w:World)(g:Nat)(l:List Nat):Prop:=∃cs:Array Value,Blk w g 3 cs/\∀i,i<l.length->cs[i]?=some (.int .i64 ((atL l i:Nat):Int))
theorem NRow.keep{w w':World}{g:Nat}{l:List Nat}(h:NRow w g l)(hx:Ext w w'):NRow w' g l:=by
 obtain⟨cs,h1,h2⟩:=h;exact⟨cs,h1.keep hx,h2⟩
theorem NRow.cell{w:World}{g:Nat}{l:List Nat}(h:NRow w g l){i:Nat}(hi:i<l.length):w.cell? ⟨g,i,none⟩=some (.int .i64 ((atL l i:Nat):Int)):=by
 obtain⟨cs,h1,h2⟩:=h;rw [h1.cell];exact h2 i hi
theorem NRow.lt{w:World}{g:Nat}{l:List Nat}(h:NRow w g l):g<w.heap.size:=by
 obtain⟨cs,h1,_⟩:=h;exact h1.lt
theorem NRow.frozen{w:World}{g:Nat}{l:List Nat}(h:NRow w g l)(i:Nat):w.frozen? ⟨g,i,none⟩=false:=by
 obtain⟨cs,h1,_⟩:=h;exact h1.frozen i
theorem NRow.put{w:World}{g:Nat}{l:List Nat}(h:NRow w g l){i:Nat}(v:Nat)(hi:i<l.length):NRow (w.setCell ⟨g,i,none⟩ (.int .i64 ((v:Nat):Int))) g (l.set i v):=by
 obtain⟨cs,h1,h2⟩:=h;refine⟨_,h1.set_ i _,fun k hk=>?_⟩;rw [yV]at hk;rw [atL_set _ _ _ _ hi,Array.getElem?_setIfInBounds];have hs:=(Array.getElem?_eq_some_iff.1 (h2 i hi)).1;by_cases e:i=k
 ·subst e;rw [if_pos rfl,if_pos hs,if_pos rfl]
 ·rw [if_neg e,if_neg (fun h=>e h.symm)];exact h2 k hk
theorem NRow.swap{w:World}{g:Nat}{l:List Nat}(h:NRow w g l){i j:Nat}(hi:i<l.length)(hj:j<l.length):NRow ((w.setCell ⟨g,i,none⟩ (.int .i64 ((atL l j:Nat):Int))).setCell ⟨g,j,none⟩ (.int .i64 ((atL l i:Nat):Int))) g (swapL l i j):=
 (h.put (atL l j) hi).put (atL l i) (by rw [yV];exact hj)
theorem OI.row{w:World}{B:Nat}{A:Option Addr}{n c:Nat}{l:List Nat}(h:OI w B (.slice A n c) l)(hl:l.length=n)(h0:0<n):∃g,A=some ⟨g,0,none⟩/\B<=g/\NRow w g l:=by
 obtain⟨h1,h2⟩:=h;rcases h2 with⟨h3,h4⟩|⟨g',cap,cur,h3,h4,h5,h6,h7,h8,h9⟩
 ·have:l=[]:=by simpa [ints]using h4
  subst this;simp at hl;omega
 ·injection h3 with e1 e2 e3
  refine⟨g',e1,h4,cur,h5,fun i hi=>?_⟩;have qa:(cur.toList.take l.length)[i]?=(ints l)[i]?:=by
   have:=h9;rw [<-this];simp
  rw [xG,if_pos hi]at qa;rw [<-Array.getElem?_toList,qa];unfold ints;rw [yW,atL_get hi];rfl
theorem QR.other{w w':World}{cs:List Value}{q:Rat}{g:Nat}{t':TypeId}{cs':Array Value}(h:QR w cs q)(hg:w.grownBy w' (some g))(hb:Blk w g t' cs')(hne:167≠t'):QR w' cs q:=by
 obtain⟨neg,A,n,c,A',n',c',e,h1⟩:=h;exact⟨neg,A,n,c,A',n',c',e,h1.other hg hb hne⟩
def QB(w:World)(g:Nat)(qs:List Rat):Prop:=
 ∃css:List (List Value),css.length=qs.length/\(∀cs∈css,cs.length=3)/\Blk w g 35 css.flatten.toArray/\∀(i:Nat) (q:Rat),qs[i]?=some q->∃cs,css[i]?=some cs/\QR w cs q
theorem QB.keep{w w':World}{g:Nat}{qs:List Rat}(h:QB w g qs)(hx:Ext w w'):QB w' g qs:=by
 obtain⟨css,h1,h2,h3,h4⟩:=h;refine⟨css,h1,h2,h3.keep hx,fun i q hl=>?_⟩;obtain⟨cs,k1,k2⟩:=h4 i q hl;exact⟨cs,k1,k2.keep hx⟩
theorem QB.lt{w:World}{g:Nat}{qs:List Rat}(h:QB w g qs):g<w.heap.size:=by
 obtain⟨css,_,_,h3,_⟩:=h;exact h3.lt
theorem QB.blk{w:World}{g:Nat}{qs:List Rat}(h:QB w g qs):∃cs,Blk w g 35 cs:=by
 obtain⟨css,_,_,h3,_⟩:=h;exact⟨_,h3⟩
theorem QB.at_{w:World}{g:Nat}{qs:List Rat}(h:QB w g qs){i:Nat}{q:Rat}(hl:qs[i]?=some q):
  ∃(neg:Bool) (A:Option Addr) (n c:Nat) (A':Option Addr) (n' c':Nat),
   (w.cell? ⟨g,i*3,none⟩=some (.bool neg)/\w.cell? ⟨g,i*3+1,none⟩=some (.slice A n c)/\w.cell? ⟨g,i*3+2,none⟩=some (.slice A' n' c'))/\
   (w.frozen? ⟨g,i*3,none⟩=false/\w.frozen? ⟨g,i*3+1,none⟩=false/\w.frozen? ⟨g,i*3+2,none⟩=false)/\RatR w neg A n c A' n' c' q:=by
 obtain⟨css,h1,h2,h3,h4⟩:=h;obtain⟨cs,k1,neg,A,n,c,A',n',c',rfl,k2⟩:=h4 i q hl;have hi:=(yH.1 hl).1;have qa:∀k,k<3->w.cell? ⟨g,i*3+k,none⟩=([.bool neg,.slice A n c,.slice A' n' c']:List Value)[k]?:=fun k hk=>by
  rw [h3.cell,xI,jzu css h2 i k (by omega) hk,k1];rfl
 exact⟨neg,A,n,c,A',n',c',⟨qa 0 (by omega),qa 1 (by omega),qa 2 (by omega)⟩,⟨h3.frozen _,h3.frozen _,h3.frozen _⟩,k2⟩
theorem QB.other{w w':World}{g g':Nat}{qs:List Rat}{t':TypeId}{cs':Array Value}(h:QB w g qs)(hg:w.grownBy w' (some g'))(hb:Blk w g' t' cs')(hne:167≠t')(hgg:g≠g'):QB w' g qs:=by
 obtain⟨css,h1,h2,h3,h4⟩:=h;refine⟨css,h1,h2,(hg.block g h3.lt (fun e=>hgg (by injection e))).trans h3,fun i q hq=>?_⟩;obtain⟨cs,k1,k2⟩:=h4 i q hq;exact⟨cs,k1,k2.other hg hb hne⟩
theorem jzdz{K:Nat}(css:List (List Value))(h2:∀cs∈css,cs.length=K)(m:Nat)(hml:m<css.length)(c1:List Value)(k:Nat)(v:Value)(hc:c1.length=K)(hk:k<K):((css.set m c1).flatten).set (m*K+k) v=(css.set m (c1.set k v)).flatten:=by
 have qa:∀c∈css.set m c1,c.length=K:=fun c hcc=>by
  rcases xE hcc with h|h
  ·exact h2 c h
  ·rw [h];exact hc
 have h:=jza3 (css.set m c1) qa m k v (by rw [yV];exact hml) hk;rw [yM hml,Option.getD_some,List.set_set]at h;exact h
theorem QB.put{w:World}{g m:Nat}{qs:List Rat}{q:Rat}{neg:Bool}{A:Option Addr}{n c:Nat}{A':Option Addr}{n' c':Nat}(h:QB w g qs)(hm:m<qs.length)(hl:RatR w neg A n c A' n' c' q):
  QB (((w.setCell ⟨g,m*3,none⟩ (.bool neg)).setCell ⟨g,m*3+1,none⟩ (.slice A n c)).setCell ⟨g,m*3+2,none⟩ (.slice A' n' c')) g (qs.set m q):=by
 obtain⟨css,h1,h2,h3,h4⟩:=h;have g2:=((jze w g (m*3) (.bool neg)).trans (jze _ g (m*3+1) (.slice A n c))).trans (jze _ g (m*3+2) (.slice A' n' c'));have qa:m<css.length:=(by omega);obtain⟨cs,qf⟩:∃cs,css[m]?=some cs:=⟨_,yG qa⟩;have qe:cs.length=3:=h2 cs (yJ qf);have e0:css=css.set m cs:=by
  apply uK;intro i;by_cases e:m=i
  ·subst e;rw [yM qa];exact qf
  ·rw [vN e]
 have b:=((h3.set_ (m*3+0) (.bool neg)).set_ (m*3+1) (.slice A n c)).set_ (m*3+2) (.slice A' n' c');rw [yD,yD,yD,e0,jzdz css h2 m qa cs 0 _ qe (by omega),jzdz css h2 m qa _ 1 _ (by simp [qe]) (by omega),jzdz css h2 m qa _ 2 _ (by simp [qe]) (by omega)]at b;have e3:((cs.set 0 (.bool neg)).set 1 (.slice A n c)).set 2 (.slice A' n' c')=[.bool neg,.slice A n c,.slice A' n' c']:=by
  rcases cs with _|⟨a0,_|⟨a1,_|⟨a2,_|⟨a3,r⟩⟩⟩⟩
  all_goals first|(simp at qe;done)|rfl
 rw [e3]at b;refine⟨css.set m [.bool neg,.slice A n c,.slice A' n' c'],by simp [h1],fun c hcc=>?_,b,fun i p hi=>?_⟩
 ·rcases xE hcc with h|h
  ·exact h2 c h
  ·rw [h];rfl
 ·by_cases e:m=i
  ·subst e
   rw [yM hm]at hi;injection hi with hi
   subst hi;exact⟨_,yM qa,neg,A,n,c,A',n',c',rfl,hl.other g2 h3 (by decide)⟩
  ·rw [vN e]at hi
   obtain⟨qg,k1,k2⟩:=h4 i p hi;exact⟨qg,by rw [vN e];exact k1,k2.other g2 h3 (by decide)⟩
theorem QB.ql{w:World}{g:Nat}{qs:List Rat}(h:QB w g qs):QL w (some ⟨g,0,none⟩) qs:=by
 obtain⟨css,h1,h2,h3,h4⟩:=h;exact⟨css,h1,h2,(RdT.of_blk h3 rfl).rd,h4⟩
theorem jzfx(N:Nat):madeCells #[.bool false,.slice none 0 0,.slice none 0 0] (N*3)=(List.replicate N [Value.bool false,.slice none 0 0,.slice none 0 0]).flatten.toArray:=by
 apply Array.ext';apply uK;intro i;have qa:∀cs∈List.replicate N [Value.bool false,.slice none 0 0,.slice none 0 0],cs.length=3:=fun cs h=>(by rw [uF h];rfl);have hl:=jzs _ qa;rw [xC]at hl;by_cases hi:i<N*3
 ·have h1:=jzu _ qa (i/3) (i%3) (by rw [xC];omega) (by omega)
  rw [show i/3*3+i%3=i by omega,xB,if_pos (by omega),Option.getD_some]at h1;simp only [];rw [h1];have h2:(madeCells #[.bool false,.slice none 0 0,.slice none 0 0] (N*3)).toList[i]?=some ((#[.bool false,.slice none 0 0,.slice none 0 0]:Array Value)[i%3]!):=by
   simp [madeCells,hi]
  rw [h2];have h6:i%3=0\/i%3=1\/i%3=2:=(by omega);rcases h6 with e|e|e <;> rw [e] <;> rfl
 ·rw [yI (by simp [madeCells];omega),yI (by simp only [];omega)]
theorem QB.made(w:World)(N:Nat):QB (w.alloc (.cells (madeCells #[.bool false,.slice none 0 0,.slice none 0 0] (N*3)) 35)) w.heap.size (List.replicate N 0):=by
 refine⟨List.replicate N [.bool false,.slice none 0 0,.slice none 0 0],by simp,fun cs h=>by rw [uF h];rfl,?_,fun i q hq=>?_⟩
 ·rw [jzfx];exact Blk.new _ _ _
 ·rw [xB]at hq
  split at hq
  ·rename_i hi
   injection hq with hq
   subst hq;exact⟨_,by rw [xB,if_pos hi],false,none,0,0,none,0,0,rfl,jz6 _⟩
  ·cases hq
theorem SzQ.mkQ_{s:Bool}{n d k:Nat}(hd:d≠0)(hn:n<B32^k)(hdd:d<B32^k):SzQ (mkQ s n d) k:=by
 refine⟨?_,?_⟩
 ·rw [jzjq _ hd];exact Nat.lt_of_le_of_lt (Nat.div_le_self _ _) hn
 ·rw [jzjr _ hd];exact Nat.lt_of_le_of_lt (Nat.div_le_self _ _) hdd
theorem jzcc{a b k m:Nat}(ha:a<B32^k)(hb:b<B32^m):a*b<B32^(k+m):=by
 rw [Nat.pow_add];rcases Nat.eq_zero_or_pos b with h0|h0
 ·rw [h0,Nat.mul_zero];exact Nat.mul_pos (Nat.pow_pos jzm) (Nat.pow_pos jzm)
 ·exact Nat.mul_lt_mul_of_lt_of_le ha (Nat.le_of_lt hb) (Nat.pow_pos jzm)
theorem SzQ.mul{a b:Rat}{k m:Nat}(ha:SzQ a k)(hb:SzQ b m):SzQ (a*b) (k+m):=by
 rw [jzka];exact SzQ.mkQ_ (Nat.mul_ne_zero a.den_nz b.den_nz) (jzcc ha.1 hb.1) (jzcc ha.2 hb.2)
theorem SzQ.div{a b:Rat}{k m:Nat}(ha:SzQ a k)(hb:SzQ b m)(h0:b≠0):SzQ (a/b) (k+m):=by
 have hn:b.num≠0:=fun e=>h0 (Rat.num_eq_zero.1 e);rw [div_mkQ a b h0];refine SzQ.mkQ_ (Nat.mul_ne_zero (by omega) a.den_nz) (jzcc ha.1 hb.2) ?_;rw [Nat.add_comm];exact jzcc hb.1 ha.2
theorem SzQ.fl{a:Rat}{k:Nat}(ha:SzQ a k)(hk:1<=k):SzQ (flQ a) k:=by
 unfold flQ flN;refine SzQ.mkQ_ (by decide) (Nat.lt_of_le_of_lt (Nat.div_le_self _ _) ha.1) ?_;have h1:=Nat.pow_le_pow_right jzm hk;have h2:1<B32^1:=(by decide);omega
theorem sgn_negS(q:Rat):sgnI q<0↔q<0:=by
 have h:q.num<0↔q<0:=(by rw [<-Int.not_le,Rat.num_nonneg,Rat.not_le]);unfold sgnI
 split
 ·rename_i h0
  rw [<-h,h0]
 ·split
  ·rename_i h1;exact⟨fun _=>h.1 h1,fun _=>by decide⟩
  ·rename_i h1;exact⟨fun x=>by omega,fun x=>absurd (h.2 x) h1⟩
theorem NRow.made(w:World)(n:Nat):NRow (w.alloc (.cells (madeCells #[.int .i64 0] n) 3)) w.heap.size (List.replicate n 0):=by
 refine⟨_,Blk.new _ _ _,fun i hi=>?_⟩;rw [xC]at hi;rw [<-Array.getElem?_toList,toList_madeCells_one];unfold atL;rw [xB,if_pos hi,xB,if_pos hi];rfl
theorem NRow.rdT{w:World}{g:Nat}{l:List Nat}(h:NRow w g l):RdT w 3 (some ⟨g,0,none⟩) (ints l):=fun _=>by
 obtain⟨cs,h1,h2⟩:=h;refine⟨g,0,cs,(0,0),rfl,h1,fun i hi=>?_⟩;rw [jzx]at hi;rw [Nat.zero_add,h2 i hi];unfold ints;rw [yW,atL_get hi];rfl
structure FrS(S:Nat->Prop)(w w':World):Prop where
 os:w'.os=w.os
 tape:w'.tape=w.tape
 output:w'.output=w.output
 size:w.heap.size<=w'.heap.size
 block:∀b,b<w.heap.size->¬S b->w'.heap[b]?=w.heap[b]?
def NoT(S:Nat->Prop)(w:World)(t:TypeId):Prop:=∀b,S b->∀cs fr,w.heap[b]?≠some (.cells cs t fr)
section
variable {S S':Nat->Prop} {w w' w2:World}
theorem FrS.of_ext(h:Ext w w'):FrS S w w':=⟨h.os,h.tape,h.output,h.size,fun b hb _=>h.block b hb⟩
theorem FrS.refl(S:Nat->Prop)(w:World):FrS S w w:=FrS.of_ext (Ext.refl w)
theorem FrS.of_grown{row:Option Nat}(h:w.grownBy w' row)(hs:∀g,row=some g->S g):FrS S w w':=⟨h.os,h.tape,h.output,h.size,fun b hb hn=>h.block b hb (fun e=>hn (hs b e.symm))⟩
theorem FrS.tr(h:FrS S w w')(k:FrS S' w' w2)(hs:∀b,S' b->S b\/w.heap.size<=b):FrS S w w2:=
 ⟨k.os.trans h.os,k.tape.trans h.tape,k.output.trans h.output,yY h.size k.size,fun b hb hn=>(k.block b (yL hb h.size) (fun h1=>by
  rcases hs b h1 with h2|h2
  ·exact hn h2
  ·omega)).trans (h.block b hb hn)⟩
theorem FrS.mono(h:FrS S w w')(hs:∀b,S b->S' b):FrS S' w w':=⟨h.os,h.tape,h.output,h.size,fun b hb hn=>h.block b hb fun h1=>hn (hs b h1)⟩
theorem FrS.ext{w0:World}(k:FrS S w w')(h:Ext w0 w)(hs:∀b,S b->w0.heap.size<=b):Ext w0 w':=
 ⟨k.os.trans h.os,k.tape.trans h.tape,k.output.trans h.output,yY h.size k.size,fun b hb=>(k.block b (yL hb h.size) (fun h1=>by have:=hs b h1;omega)).trans (h.block b hb)⟩
theorem FrS.blk{b:Nat}{t:TypeId}{cs:Array Value}(k:FrS S w w')(h:Blk w b t cs)(hb:¬S b):Blk w' b t cs:=(k.block b h.lt hb).trans h
theorem FrS.rdT{t:TypeId}{A:Option Addr}{xs:List Value}(k:FrS S w w')(hn:NoT S w t)(h:RdT w t A xs):RdT w' t A xs:=fun hx=>by
 obtain⟨b,o,cs,fr,e1,e2,e3⟩:=h hx;refine⟨b,o,cs,fr,e1,(k.block b (jza8 e2) (fun h1=>?_)).trans e2,e3⟩;exact hn b h1 cs fr e2
theorem FrS.natR{A:Option Addr}{n c N:Nat}(k:FrS S w w')(hn:NoT S w 167)(h:NatR w A n c N):NatR w' A n c N:=by
 obtain⟨ds,h1,h2,h3,h4,h5⟩:=h;exact⟨ds,h1,h2,h3,h4,k.rdT hn h5⟩
theorem FrS.ratR{neg:Bool}{A:Option Addr}{n c:Nat}{A':Option Addr}{n' c':Nat}{q:Rat}(k:FrS S w w')(hn:NoT S w 167)(h:RatR w neg A n c A' n' c' q):RatR w' neg A n c A' n' c' q:=
 ⟨h.1,k.natR hn h.2.1,k.natR hn h.2.2⟩
theorem FrS.qr{cs:List Value}{q:Rat}(k:FrS S w w')(hn:NoT S w 167)(h:QR w cs q):QR w' cs q:=by
 obtain⟨neg,A,n,c,A',n',c',e,h1⟩:=h;exact⟨neg,A,n,c,A',n',c',e,k.ratR hn h1⟩
theorem FrS.own{B n s:Nat}{e:TypeId}{v:Value}{xs:List Value}(k:FrS S w w')(h:w.ownsRow B e s v n xs)(hn:∀g,v.ownBlock=some g->¬S g):w'.ownsRow B e s v n xs:=by
 refine⟨h.1,?_⟩;rcases h.2 with h1|⟨g,cap,cur,h1,h2,h3,h4⟩
 ·exact .inl h1
 ·exact .inr ⟨g,cap,cur,h1,h2,(k.block g (jza8 h3) (hn g (by rw [h1];rfl))).trans h3,h4⟩
theorem FrS.oq{B:Nat}{v:Value}{qs:List Rat}(k:FrS S w w')(hn:NoT S w 167)(h:OQ QR 35 w B v qs)(hv:∀g,v.ownBlock=some g->¬S g):OQ QR 35 w' B v qs:=by
 obtain⟨css,h1,h2,h3,h4⟩:=h;refine⟨css,h1,h2,k.own h3 hv,fun i q hq=>?_⟩;obtain⟨cs,k1,k2⟩:=h4 i q hq;exact⟨cs,k1,k.qr hn k2⟩
theorem jz3{B n s:Nat}{e:TypeId}{v:Value}{xs:List Value}(h:w.ownsRow B e s v n xs){g:Nat}(hg:v.ownBlock=some g){t:TypeId}(ht:e≠t):∀cs fr,w.heap[g]?≠some (.cells cs t fr):=fun cs fr e2=>by
 rcases h.2 with⟨h1,_⟩|⟨g',cap,cur,h1,h2,h3,h4⟩
 ·rw [h1]at hg;cases hg
 ·rw [h1]at hg
  injection hg with hg
  have hg:g'=g:=hg;subst hg;rw [h3]at e2;injection e2 with e2
  injection e2 with _ e2
  exact ht e2
theorem NoT.one{g:Nat}{t t':TypeId}{cs:Array Value}(h:Blk w g t cs)(ht:t≠t'):NoT (fun b=>b=g) w t':=fun b hb cs' fr e=>by
 subst hb;unfold Blk at h;rw [h]at e;injection e with e
 injection e with _ e
 exact ht e
theorem jzl{B n s:Nat}{e:TypeId}{v:Value}{xs:List Value}(h:w.ownsRow B e s v n xs){g:Nat}(hg:v.ownBlock=some g):∃cs,Blk w g e cs:=by
 rcases h.2 with⟨h1,_⟩|⟨g',cap,cur,h1,h2,h3,h4⟩
 ·rw [h1]at hg;cases hg
 ·rw [h1]at hg
  injection hg with hg
  have hg:g'=g:=hg;subst hg;exact⟨cur,h3⟩
theorem OQ.cell{B g c:Nat}{qs:List Rat}{n:Nat}(h:OQ QR 35 w B (.slice (some ⟨g,0,none⟩) n c) qs){i:Nat}{q:Rat}(hl:qs[i]?=some q):
  ∃(neg:Bool) (A:Option Addr) (n c:Nat) (A':Option Addr) (n' c':Nat),
   (w.cell? ⟨g,i*3,none⟩=some (.bool neg)/\w.cell? ⟨g,i*3+1,none⟩=some (.slice A n c)/\w.cell? ⟨g,i*3+2,none⟩=some (.slice A' n' c'))/\
   (w.frozen? ⟨g,i*3,none⟩=false/\w.frozen? ⟨g,i*3+1,none⟩=false/\w.frozen? ⟨g,i*3+2,none⟩=false)/\RatR w neg A n c A' n' c' q:=by
 obtain⟨css,h1,h2,h3,h4⟩:=h;obtain⟨cs,k1,neg,A,n1,c1,A',n',c',rfl,k2⟩:=h4 i q hl;have hi:=(yH.1 hl).1;obtain⟨cb,hb⟩:=jzl h3 (g:=g) rfl;have qa:∀k,k<3->w.cell? ⟨g,i*3+k,none⟩=([.bool neg,.slice A n1 c1,.slice A' n' c']:List Value)[k]?:=fun k hk=>by
  have hf:=jzu css h2 i k (by omega) hk;rw [k1]at hf;rcases h3.2 with⟨e,_⟩|⟨g',cap,cur,e,_,h5,h6,h7,h8,h9⟩
  ·cases e
  ·injection e with e1 e2 e3
   injection e1 with e1
   injection e1 with e1
   subst e1;have qe:Blk w g 35 cur:=h5;rw [qe.cell, <-Array.getElem?_toList];rw [<-h9,xG,if_pos (by omega)]at hf;exact hf
 exact⟨neg,A,n1,c1,A',n',c',⟨qa 0 (by omega),qa 1 (by omega),qa 2 (by omega)⟩,⟨hb.frozen _,hb.frozen _,hb.frozen _⟩,k2⟩
theorem jzbi{B g n c s k:Nat}{e:TypeId}{xs:List Value}(h:w.ownsRow B e s (.slice (some ⟨g,0,none⟩) n c) n xs)(u:Value):(w.setCell ⟨g,k,none⟩ u).ownsRow B e s (.slice (some ⟨g,0,none⟩) n c) n (xs.set k u):=by
 refine⟨by rw [yV];exact h.1,?_⟩;rcases h.2 with⟨h3,h4⟩|⟨g',cap,cur,h3,h4,h5,h6,h7,h8,h9⟩
 ·cases h3
 ·have qa:=h3
  injection h3 with e1 e2 e3
  injection e1 with e1
  injection e1 with e1
  subst e1;refine .inr ⟨g,cap,cur.setIfInBounds k u,qa,h4,(show Blk w g e cur from h5).set_ k u,h6,h7,by simpa using h8,?_⟩;rw [Array.toList_setIfInBounds, <-h9,List.take_set]
theorem grown3(w:World)(g i:Nat)(v0 v1 v2:Value):w.grownBy (((w.setCell ⟨g,i,none⟩ v0).setCell ⟨g,i+1,none⟩ v1).setCell ⟨g,i+2,none⟩ v2) (some g):=
 ((jze w g i v0).trans (jze _ g (i+1) v1)).trans (jze _ g (i+2) v2)
theorem OQ.put{B g n c m:Nat}{qs:List Rat}{q:Rat}{neg:Bool}{A:Option Addr}{n1 c1:Nat}{A':Option Addr}{n' c':Nat}(h:OQ QR 35 w B (.slice (some ⟨g,0,none⟩) n c) qs)(hn:qs.length=n)(hm:m<qs.length)(hl:RatR w neg A n1 c1 A' n' c' q):
  OQ QR 35 (((w.setCell ⟨g,m*3,none⟩ (.bool neg)).setCell ⟨g,m*3+1,none⟩ (.slice A n1 c1)).setCell ⟨g,m*3+2,none⟩ (.slice A' n' c')) B (.slice (some ⟨g,0,none⟩) n c) (qs.set m q):=by
 obtain⟨css,h1,h2,h3,h4⟩:=h;rw [hn]at h3;obtain⟨cb,hb⟩:=jzl h3 (g:=g) rfl;have g2:=grown3 w g (m*3) (.bool neg) (.slice A n1 c1) (.slice A' n' c');have qa:m<css.length:=(by omega);obtain⟨cs,qf⟩:∃cs,css[m]?=some cs:=⟨_,yG qa⟩;have qe:cs.length=3:=h2 cs (yJ qf);have e0:css=css.set m cs:=by
  apply uK;intro i;by_cases e:m=i
  ·subst e;rw [yM qa];exact qf
  ·rw [vN e]
 have b:=jzbi (k:=m*3+2) (jzbi (k:=m*3+1) (jzbi (k:=m*3+0) h3 (.bool neg)) (.slice A n1 c1)) (.slice A' n' c');rw [e0,jzdz css h2 m qa cs 0 _ qe (by omega),jzdz css h2 m qa _ 1 _ (by simp [qe]) (by omega),jzdz css h2 m qa _ 2 _ (by simp [qe]) (by omega)]at b;have e3:((cs.set 0 (.bool neg)).set 1 (.slice A n1 c1)).set 2 (.slice A' n' c')=[.bool neg,.slice A n1 c1,.slice A' n' c']:=by
  rcases cs with _|⟨a0,_|⟨a1,_|⟨a2,_|⟨a3,r⟩⟩⟩⟩
  all_goals first|(simp at qe;done)|rfl
 rw [e3]at b;refine⟨css.set m [.bool neg,.slice A n1 c1,.slice A' n' c'],by simp [h1],fun c hcc=>?_,by rw [yV,hn];exact b,fun i p hi=>?_⟩
 ·rcases xE hcc with h|h
  ·exact h2 c h
  ·rw [h];rfl
 ·by_cases e:m=i
  ·subst e
   rw [yM hm]at hi;injection hi with hi
   subst hi;exact⟨_,yM qa,neg,A,n1,c1,A',n',c',rfl,hl.other g2 hb (by decide)⟩
  ·rw [vN e]at hi
   obtain⟨qg,k1,k2⟩:=h4 i p hi;exact⟨qg,by rw [vN e];exact k1,k2.other g2 hb (by decide)⟩
def RwC(w:World)(cs:List Value)(V:Value)(q:Rat):Prop:=
 ∃(neg:Bool) (A:Option Addr) (n c:Nat) (A':Option Addr) (n' c':Nat),cs=[V,.bool neg,.slice A n c,.slice A' n' c']/\RatR w neg A n c A' n' c' q
theorem RwC.keep{cs:List Value}{V:Value}{q:Rat}(h:RwC w cs V q)(hx:Ext w w'):RwC w' cs V q:=by
 obtain⟨neg,A,n,c,A',n',c',e,h1⟩:=h;exact⟨neg,A,n,c,A',n',c',e,h1.keep hx⟩
theorem FrS.rwc{cs:List Value}{V:Value}{q:Rat}(k:FrS S w w')(hn:NoT S w 167)(h:RwC w cs V q):RwC w' cs V q:=by
 obtain⟨neg,A,n,c,A',n',c',e,h1⟩:=h;exact⟨neg,A,n,c,A',n',c',e,k.ratR hn h1⟩
end
end Go.Proofs.YthbmikapohlikaaGreatDoor
namespace Go.Proofs.YthbmikapohlikaaGreatDoor
namespace Sx
def sm:Nat->(Nat->Rat)->Rat
 |0,_=>0
 |n+1,f=>sm n f+f n
theorem sm_congr:∀(n:Nat) {f g:Nat->Rat},(∀k,k<n->f k=g k)->sm n f=sm n g
 |0,_,_,_=>rfl
 |n+1,f,g,h=>by
  show sm n f+f n=sm n g+g n;rw [sm_congr n (fun k hk=>h k (by omega)),h n (by omega)]
theorem sm_zero:∀(n:Nat) {f:Nat->Rat},(∀k,k<n->f k=0)->sm n f=0
 |0,_,_=>rfl
 |n+1,f,h=>by
  show sm n f+f n=0;rw [sm_zero n (fun k hk=>h k (by omega)),h n (by omega)];grind
theorem sm_add:∀(n:Nat) (f g:Nat->Rat),sm n (fun k=>f k+g k)=sm n f+sm n g
 |0,_,_=>by show(0:Rat)=0+0;grind
 |n+1,f,g=>by
  show sm n (fun k=>f k+g k)+(f n+g n)=(sm n f+f n)+(sm n g+g n);rw [sm_add n f g];grind
theorem jzbj:∀(n:Nat) (c:Rat) (f:Nat->Rat),sm n (fun k=>c*f k)=c*sm n f
 |0,c,_=>by show(0:Rat)=c*0;grind
 |n+1,c,f=>by
  show sm n (fun k=>c*f k)+c*f n=c*(sm n f+f n);rw [jzbj n c f];grind
theorem jzke(n:Nat)(c:Rat)(f:Nat->Rat):sm n (fun k=>f k*c)=sm n f*c:=by
 rw [Rat.mul_comm, <-jzbj];exact sm_congr n fun k _=>Rat.mul_comm _ _
theorem sm_sub(n:Nat)(f g:Nat->Rat):sm n (fun k=>f k-g k)=sm n f-sm n g:=by
 have h:=sm_add n (fun k=>f k-g k) g;have h2:sm n (fun k=>f k-g k+g k)=sm n f:=sm_congr n fun k _=>(by grind);rw [h2]at h;grind
theorem sm_one:∀(n:Nat) {f:Nat->Rat} {l:Nat},l<n->(∀k,k<n->k≠l->f k=0)->sm n f=f l
 |n+1,f,l,hl,h=>by
  show sm n f+f n=f l;by_cases e:l=n
  ·subst e
   rw [sm_zero l (fun k hk=>h k (by omega) (by omega))];grind
  ·rw [sm_one n (by omega) (fun k hk hkl=>h k (by omega) hkl),h n (by omega) (fun e2=>e e2.symm)];grind
theorem jzd7(n:Nat):∀(m:Nat) (f:Nat->Nat->Rat),sm n (fun k=>sm m (fun l=>f k l))=sm m (fun l=>sm n (fun k=>f k l))
 |0,f=>sm_zero n fun k _=>rfl
 |m+1,f=>by
  show sm n (fun k=>sm m (fun l=>f k l)+f k m)=sm m (fun l=>sm n (fun k=>f k l))+sm n (fun k=>f k m);rw [sm_add,jzd7 n m f]
theorem sm_nn:∀(n:Nat) {f:Nat->Rat},(∀k,k<n->0<=f k)->0<=sm n f
 |0,_,_=>vC
 |n+1,f,h=>by
  show 0<=sm n f+f n;have h1:=sm_nn n (fun k hk=>h k (by omega));have h2:=h n (by omega);grind
theorem sm_le:∀(n:Nat) {f g:Nat->Rat},(∀k,k<n->f k<=g k)->sm n f<=sm n g
 |0,_,_,_=>vC
 |n+1,f,g,h=>by
  show sm n f+f n<=sm n g+g n;have h1:=sm_le n (fun k hk=>h k (by omega));have h2:=h n (by omega);grind
theorem sm_pos:∀(n:Nat) {f:Nat->Rat},0<sm n f->∃k,k<n/\0<f k
 |0,f,h=>absurd h (by show¬(0:Rat)<0;exact Rat.lt_irrefl)
 |n+1,f,h=>by
  have h:0<sm n f+f n:=h;by_cases h1:0<f n
  ·exact⟨n,by omega,h1⟩
  ·obtain⟨k,hk,h2⟩:=sm_pos n (f:=f) (by grind)
   exact⟨k,by omega,h2⟩
def piv(M:Nat->Nat->Rat)(i e:Nat):Nat->Nat->Rat:=fun k v=>if k=i then M i v/M i e else M k v-M k e*(M i v/M i e)
def pivB(bas:Nat->Nat)(i e:Nat):Nat->Nat:=fun k=>if k=i then e else bas k
structure Dict(m nv:Nat)(M:Nat->Nat->Rat)(bas:Nat->Nat):Prop where
 unit:∀l,l<m->∀k,k<=m->M k (bas l)=if k=l then 1 else 0
 lt:∀l,l<m->bas l<nv
theorem Dict.inj{m nv:Nat}{M:Nat->Nat->Rat}{bas:Nat->Nat}(h:Dict m nv M bas){k l:Nat}(hk:k<m)(hl:l<m)(e:bas k=bas l):k=l:=by
 by_cases h1:k=l
 ·exact h1
 ·have h2:=h.unit k hk k (by omega)
  have h3:=h.unit l hl k (by omega);rw [e]at h2;rw [h2,if_pos rfl,if_neg h1]at h3;exact absurd h3 (by decide)
theorem piv_i(M:Nat->Nat->Rat)(i e v:Nat):piv M i e i v=M i v/M i e:=by unfold piv;rw [if_pos rfl]
theorem piv_k(M:Nat->Nat->Rat){i k:Nat}(e v:Nat)(h:k≠i):piv M i e k v=M k v-M k e*(M i v/M i e):=by unfold piv;rw [if_neg h]
theorem jzkf(bas:Nat->Nat)(i e:Nat):pivB bas i e i=e:=by unfold pivB;rw [if_pos rfl]
theorem jziv(bas:Nat->Nat){i k:Nat}(e:Nat)(h:k≠i):pivB bas i e k=bas k:=by unfold pivB;rw [if_neg h]
theorem Dict.pivot{m nv:Nat}{M:Nat->Nat->Rat}{bas:Nat->Nat}(h:Dict m nv M bas){i e:Nat}(hi:i<m)(he:e<nv)(hp:M i e≠0):Dict m nv (piv M i e) (pivB bas i e):=by
 refine⟨fun l hl k hk=>?_,fun l hl=>?_⟩
 ·by_cases qa:l=i
  ·subst qa
   rw [jzkf];by_cases qe:k=l
   ·subst qe;rw [piv_i,if_pos rfl];grind
   ·rw [piv_k M e e qe,if_neg qe];grind
  ·rw [jziv bas e qa]
   have h0:=h.unit l hl i (by omega);rw [if_neg (fun e=>qa e.symm)]at h0;by_cases qe:k=i
   ·subst qe
    rw [piv_i,h0,if_neg (fun e=>qa e.symm)];grind
   ·rw [piv_k M e _ qe,h0,h.unit l hl k hk];grind
 ·by_cases qa:l=i
  ·rw [qa,jzkf];exact he
  ·rw [jziv bas e qa];exact h.lt l hl
def Sp(m:Nat)(M M':Nat->Nat->Rat):Prop:=∃(A:Nat->Nat->Rat) (L:Nat->Rat),(∀k,k<m->∀v,M' k v=sm m fun l=>A k l*M l v)/\∀v,M' m v=M m v+sm m fun l=>L l*M l v
theorem Sp.refl(m:Nat)(M:Nat->Nat->Rat):Sp m M M:=⟨fun k l=>if k=l then 1 else 0,fun _=>0,fun k hk v=>by
 rw [sm_one m hk (fun l hl hlk=>by dsimp only;rw [if_neg (fun e=>hlk e.symm)];grind)];dsimp only;rw [if_pos rfl];grind,fun v=>by
 rw [sm_zero m (fun l _=>by grind)];grind⟩
theorem Sp.trans{m:Nat}{M M' M2:Nat->Nat->Rat}(h:Sp m M M')(h2:Sp m M' M2):Sp m M M2:=by
 obtain⟨A,L,h3,h4⟩:=h;obtain⟨A',L',h5,h6⟩:=h2;have qa:∀(C:Nat->Rat) (v:Nat),sm m (fun l=>C l*M' l v)=sm m fun j=>(sm m fun l=>C l*A l j)*M j v:=fun C v=>by
  have e1:sm m (fun l=>C l*M' l v)=sm m fun l=>sm m fun j=>C l*A l j*M j v:=sm_congr m fun l hl=>by
   rw [h3 l hl v, <-jzbj];exact sm_congr m fun j _=>by grind
  rw [e1,jzd7];exact sm_congr m fun j _=>by rw [<-jzke]
 refine⟨fun k j=>sm m fun l=>A' k l*A l j,fun j=>L j+sm m fun l=>L' l*A l j,fun k hk v=>?_,fun v=>?_⟩
 ·rw [h5 k hk v,qa]
 ·rw [h6 v,h4 v,qa,Rat.add_assoc, <-sm_add]
  congr 1
  exact sm_congr m fun j _=>by grind
theorem Sp.fwd{m:Nat}(M:Nat->Nat->Rat){i:Nat}(e:Nat)(hi:i<m):Sp m M (piv M i e):=by
 refine⟨fun k l=>if k=i then(if l=i then 1/M i e else 0)else(if l=k then 1 else if l=i then-M k e/M i e else 0),fun l=>if l=i then-M m e/M i e else 0,fun k hk v=>?_,fun v=>?_⟩
 ·by_cases qa:k=i
  ·subst qa
   rw [piv_i,sm_one m hi (fun l _ hl=>by dsimp only;rw [if_pos rfl,if_neg hl];grind)];dsimp only;rw [if_pos rfl,if_pos rfl];grind
  ·rw [piv_k M e v qa]
   have e1:sm m (fun l=>(if k=i then(if l=i then 1/M i e else 0)else(if l=k then 1 else if l=i then-M k e/M i e else 0))*M l v)=sm m (fun l=>(if l=k then M k v else 0)+(if l=i then(-M k e/M i e)*M i v else 0)):=sm_congr m fun l _=>by
    rw [if_neg qa];by_cases h1:l=k
    ·subst h1;rw [if_pos rfl,if_pos rfl,if_neg qa];grind
    ·rw [if_neg h1,if_neg h1]
     by_cases h2:l=i
     ·subst h2;rw [if_pos rfl,if_pos rfl];grind
     ·rw [if_neg h2,if_neg h2];grind
   rw [e1,sm_add,sm_one m hk (fun l _ hl=>by rw [if_neg hl]),sm_one m hi (fun l _ hl=>by rw [if_neg hl]),if_pos rfl,if_pos rfl];grind
 ·rw [piv_k M e v (by omega),sm_one m hi (fun l _ hl=>by dsimp only;rw [if_neg hl];grind)];dsimp only;rw [if_pos rfl];grind
theorem Sp.bwd{m:Nat}(M:Nat->Nat->Rat){i:Nat}(e:Nat)(hi:i<m)(hp:M i e≠0):Sp m (piv M i e) M:=by
 refine⟨fun k l=>if k=i then(if l=i then M i e else 0)else(if l=k then 1 else if l=i then M k e else 0),fun l=>if l=i then M m e else 0,fun k hk v=>?_,fun v=>?_⟩
 ·by_cases qa:k=i
  ·subst qa
   rw [sm_one m hi (fun l _ hl=>by dsimp only;rw [if_pos rfl,if_neg hl];grind)];dsimp only;rw [if_pos rfl,if_pos rfl,piv_i];grind
  ·have e1:sm m (fun l=>(if k=i then(if l=i then M i e else 0)else(if l=k then 1 else if l=i then M k e else 0))*piv M i e l v)=sm m (fun l=>(if l=k then piv M i e k v else 0)+(if l=i then M k e*piv M i e i v else 0)):=sm_congr m fun l _=>by
    rw [if_neg qa];by_cases h1:l=k
    ·subst h1;rw [if_pos rfl,if_pos rfl,if_neg qa];grind
    ·rw [if_neg h1,if_neg h1]
     by_cases h2:l=i
     ·subst h2;rw [if_pos rfl,if_pos rfl];grind
     ·rw [if_neg h2,if_neg h2];grind
   rw [e1,sm_add,sm_one m hk (fun l _ hl=>by rw [if_neg hl]),sm_one m hi (fun l _ hl=>by rw [if_neg hl]),if_pos rfl,if_pos rfl,piv_k M e v qa,piv_i];grind
 ·rw [sm_one m hi (fun l _ hl=>by dsimp only;rw [if_neg hl];grind)];dsimp only;rw [if_pos rfl,piv_k M e v (by omega),piv_i];grind
theorem Sp.goal{m nv:Nat}{M M':Nat->Nat->Rat}{bas:Nat->Nat}(h:Sp m M M')(hd:Dict m nv M bas)(v:Nat):M' m v=M m v+sm m fun l=>M' m (bas l)*M l v:=by
 obtain⟨A,L,_,h4⟩:=h;rw [h4 v]
 congr 1
 refine sm_congr m fun l hl=>?_;have h5:=h4 (bas l);rw [hd.unit l hl m (by omega),if_neg (by omega),sm_one m hl (fun j hj hjl=>by rw [hd.unit l hl j (by omega),if_neg hjl];grind),hd.unit l hl l (by omega),if_pos rfl]at h5;rw [h5];grind
structure Bl(m nv:Nat)(M:Nat->Nat->Rat)(bas:Nat->Nat)(i e:Nat):Prop where
 hi:i<m
 he:e<nv
 neg:M m e<0
 first:∀v,v<e->0<=M m v
 pos:0<M i e
 least:∀k,k<m->0<M k e->M i nv/M i e<=M k nv/M k e
 tie:∀k,k<m->0<M k e->M i nv/M i e=M k nv/M k e->bas i<=bas k
theorem div_nn{a b:Rat}(h:0<=a)(h2:0<b):0<=a/b:=by
 rw [Rat.div_def];exact vA h (vB (Rat.inv_pos.2 h2))
theorem le_div{a b c:Rat}(h:0<c)(h2:a<=b/c):a*c<=b:=by
 have:=Rat.mul_le_mul_of_nonneg_right h2 (vB h);have e:b/c*c=b:=(by grind);rw [e]at this;exact this
theorem Bl.feas{m nv:Nat}{M:Nat->Nat->Rat}{bas:Nat->Nat}{i e:Nat}(h:Bl m nv M bas i e)(hf:∀k,k<m->0<=M k nv):∀k,k<m->0<=piv M i e k nv:=fun k hk=>by
 have h0:=div_nn (hf i h.hi) h.pos;by_cases qa:k=i
 ·subst qa;rw [piv_i];exact h0
 ·rw [piv_k M e nv qa]
  by_cases hp:0<M k e
  ·have h1:=le_div hp (h.least k hk hp)
   grind
  ·have h1:=hf k hk
   have h2:M k e*(M i nv/M i e)<=0:=by
    have:=Rat.mul_le_mul_of_nonneg_right (Rat.not_lt.1 hp) h0;grind
   grind
theorem Bl.goal{m nv:Nat}{M:Nat->Nat->Rat}{bas:Nat->Nat}{i e:Nat}(h:Bl m nv M bas i e)(hf:∀k,k<m->0<=M k nv):M m nv<=piv M i e m nv/\(piv M i e m nv=M m nv->M i nv=0):=by
 have h0:=div_nn (hf i h.hi) h.pos;have qa:m≠i:=(by have:=h.hi;omega);rw [piv_k M e nv qa];refine⟨?_,fun e2=>?_⟩
 ·have:=Rat.mul_le_mul_of_nonneg_right (vB h.neg) h0
  grind
 ·have h3:M m e*(M i nv/M i e)=0:=by grind
  have h4:=h.neg;have h5:=h.pos;have h6:M i nv/M i e=0:=by
   rcases Rat.mul_eq_zero.1 h3 with h7|h7
   ·grind
   ·exact h7
  grind
theorem pigeon:∀(n:Nat) (f:Nat->Nat),(∀k,k<n+1->f k<n)->∃a b,a<b/\b<n+1/\f a=f b
 |0,f,h=>absurd (h 0 (by omega)) (by omega)
 |n+1,f,h=>by
  by_cases h1:∃a,a<n+1/\f a=f (n+1)
  ·obtain⟨a,ha,e⟩:=h1
   exact⟨a,n+1,ha,by omega,e⟩
  ·have qa:∀k,k<n+1->f k≠f (n+1):=fun k hk e=>h1 ⟨k,hk,e⟩
   obtain⟨a,b,qe,hb,e⟩:=pigeon n (fun k=>if f k=n then f (n+1)else f k) (fun k hk=>by
    have h2:=h k (by omega);have h3:=h (n+1) (by omega);have h4:=qa k hk
    split <;> omega)
   refine⟨a,b,qe,by omega,?_⟩;have h5:=qa a (by omega);have h6:=qa b hb;by_cases ea:f a=n
   ·by_cases eb:f b=n
    ·rw [ea,eb]
    ·rw [if_pos ea,if_neg eb]at e;exact absurd e.symm h6
   ·by_cases eb:f b=n
    ·rw [if_neg ea,if_pos eb]at e;exact absurd e h5
    ·rw [if_neg ea,if_neg eb]at e;exact e
def code(p:Nat->Bool):Nat->Nat
 |0=>0
 |n+1=>2*code p n+if p n then 1 else 0
theorem code_lt(p:Nat->Bool):∀n,code p n<2^n
 |0=>by show 0<1;omega
 |n+1=>by
  have h:=code_lt p n;show 2*code p n+(if p n then 1 else 0)<2^(n+1);rw [vD]
  split <;> omega
theorem jzkg{p q:Nat->Bool}:∀{n:Nat},code p n=code q n->∀k,k<n->p k=q k
 |n+1,h,k,hk=>by
  have h:2*code p n+(if p n then 1 else 0)=2*code q n+(if q n then 1 else 0):=h;have e1:p n=q n:=by
   cases h1:p n <;> cases h2:q n
   ·rfl
   ·rw [h1,h2]at h;simp at h;omega
   ·rw [h1,h2]at h;simp at h;omega
   ·rfl
  have e2:code p n=code q n:=(by rw [e1]at h;omega);by_cases qa:k=n
  ·rw [qa];exact e1
  ·exact jzkg e2 k (by omega)
theorem starts{p:Nat->Prop}{a:Nat}:∀{b:Nat},a<=b->¬p a->p b->∃n,a<=n/\n<b/\¬p n/\p (n+1)
 |b,hab,ha,hb=>by
  induction b with
  |zero=>obtain rfl:a=0:=by omega
         exact absurd hb ha
  |succ b ih=>
   by_cases h:p b
   ·by_cases qa:a<=b
    ·obtain⟨n,h1,h2,h3⟩:=ih qa h
     exact⟨n,h1,by omega,h3⟩
    ·obtain rfl:a=b+1:=by omega
     exact absurd hb ha
   ·by_cases qa:a<=b
    ·exact⟨b,qa,by omega,h,hb⟩
    ·obtain rfl:a=b+1:=by omega
     exact absurd hb ha
theorem stops{p:Nat->Prop}{a b:Nat}(hab:a<=b)(ha:p a)(hb:¬p b):∃n,a<=n/\n<b/\p n/\¬p (n+1):=by
 obtain⟨n,h1,h2,h3,h4⟩:=starts (p:=fun n=> ¬p n) hab (fun h=>h ha) hb;exact⟨n,h1,h2,Classical.not_not.1 h3,h4⟩
theorem maxOf(f:Nat->Nat)(a:Nat):∀b,a<b->∃c,a<=c/\c<b/\∀n,a<=n->n<b->f n<=f c
 |b,hab=>by
  induction b with
  |zero=>omega
  |succ b ih=>
   by_cases h:a<b
   ·obtain⟨c,h1,h2,h3⟩:=ih h
    by_cases h4:f b<=f c
    ·exact⟨c,h1,by omega,fun n h5 h6=>by
     by_cases e:n=b
     ·rw [e];exact h4
     ·exact h3 n h5 (by omega)⟩
    ·exact⟨b,by omega,by omega,fun n h5 h6=>by
     by_cases e:n=b
     ·rw [e];exact yX _
     ·have:=h3 n h5 (by omega);omega⟩
   ·obtain rfl:a=b:=by omega
    exact⟨a,yX _,by omega,fun n h5 h6=>by
     obtain rfl:n=a:=(by omega);exact yX _⟩
structure Run(m nv N:Nat)(M:Nat->Nat->Nat->Rat)(bas:Nat->Nat->Nat)(i e:Nat->Nat):Prop where
 dict:Dict m nv (M 0) (bas 0)
 feas:∀k,k<m->0<=M 0 k nv
 bl:∀n,n<N->Bl m nv (M n) (bas n) (i n) (e n)
 nextM:∀n,n<N->M (n+1)=piv (M n) (i n) (e n)
 nextB:∀n,n<N->bas (n+1)=pivB (bas n) (i n) (e n)
section
variable {m nv N:Nat} {M:Nat->Nat->Nat->Rat} {bas:Nat->Nat->Nat} {i e:Nat->Nat}
theorem Run.d(h:Run m nv N M bas i e):∀n,n<=N->Dict m nv (M n) (bas n)/\∀k,k<m->0<=M n k nv
 |0,_=>⟨h.dict,h.feas⟩
 |n+1,hn=>by
  obtain⟨h1,h2⟩:=h.d n (by omega);have h3:=h.bl n (by omega);rw [h.nextM n (by omega),h.nextB n (by omega)];exact⟨h1.pivot h3.hi h3.he (fun e=>by have:=h3.pos;rw [e]at this;exact absurd this (by decide)),h3.feas h2⟩
theorem Run.sp(h:Run m nv N M bas i e){a b:Nat}(hab:a<=b)(hb:b<=N):Sp m (M a) (M b)/\Sp m (M b) (M a):=by
 induction b with
 |zero=>obtain rfl:a=0:=by omega
        exact⟨Sp.refl _ _,Sp.refl _ _⟩
 |succ b ih=>
  by_cases e2:a=b+1
  ·subst e2;exact⟨Sp.refl _ _,Sp.refl _ _⟩
  ·obtain⟨h1,h2⟩:=ih (by omega) (by omega)
   have h3:=h.bl b (by omega);rw [h.nextM b (by omega)];exact⟨h1.trans (Sp.fwd _ _ h3.hi),(Sp.bwd _ _ h3.hi (fun e=>by have:=h3.pos;rw [e]at this;exact absurd this (by decide))).trans h2⟩
theorem Run.sp2(h:Run m nv N M bas i e){a b:Nat}(ha:a<=N)(hb:b<=N):Sp m (M a) (M b):=by
 rcases Nat.le_total a b with h1|h1
 ·exact(h.sp h1 hb).1
 ·exact(h.sp h1 ha).2
theorem Run.mono(h:Run m nv N M bas i e){a b:Nat}(hab:a<=b)(hb:b<=N):M a m nv<=M b m nv:=by
 induction b with
 |zero=>obtain rfl:a=0:=by omega
        exact vC
 |succ b ih=>
  by_cases e2:a=b+1
  ·subst e2;exact vC
  ·have h1:=ih (by omega) (by omega)
   have h3:=((h.bl b (by omega)).goal (h.d b (by omega)).2).1;rw [<-h.nextM b (by omega)]at h3;exact Rat.le_trans h1 h3
def inB(m:Nat)(bas:Nat->Nat)(v:Nat):Prop:=∃l,l<m/\bas l=v
theorem Dict.ent{m nv:Nat}{M:Nat->Nat->Rat}{bas:Nat->Nat}(h:Dict m nv M bas){v:Nat}(hv:M m v≠0):¬inB m bas v:=fun⟨l,hl,e⟩=>by
 have:=h.unit l hl m (yX _);rw [e,if_neg (by omega)]at this;exact hv this
theorem Run.ent(h:Run m nv N M bas i e){n:Nat}(hn:n<N):¬inB m (bas n) (e n)/\inB m (bas (n+1)) (e n):=by
 have h1:=h.bl n hn;refine⟨(h.d n (by omega)).1.ent (fun e2=>by have:=h1.neg;rw [e2]at this;exact absurd this (by decide)),i n,h1.hi,?_⟩;rw [h.nextB n hn,jzkf]
theorem Run.came(h:Run m nv N M bas i e){n v:Nat}(hn:n<N)(h1:¬inB m (bas n) v)(h2:inB m (bas (n+1)) v):e n=v:=by
 obtain⟨l,hl,h3⟩:=h2;rw [h.nextB n hn]at h3;by_cases e2:l=i n
 ·rw [e2,jzkf]at h3;exact h3
 ·rw [jziv _ _ e2]at h3;exact absurd ⟨l,hl,h3⟩ h1
theorem Run.went(h:Run m nv N M bas i e){n v:Nat}(hn:n<N)(h1:inB m (bas n) v)(h2:¬inB m (bas (n+1)) v):bas n (i n)=v:=by
 obtain⟨l,hl,h3⟩:=h1;by_cases e2:l=i n
 ·rw [<-e2];exact h3
 ·refine absurd ⟨l,hl,?_⟩ h2
  rw [h.nextB n hn,jziv _ _ e2];exact h3
theorem Run.still(h:Run m nv N M bas i e){n v:Nat}(hn:n<N)(hz:M n (i n) nv=0)(x:Rat)(hx:x≠0):(∃l,l<m/\bas n l=v/\M n l nv=x)↔∃l,l<m/\bas (n+1) l=v/\M (n+1) l nv=x:=by
 have hr:∀l,l≠i n->bas (n+1) l=bas n l/\M (n+1) l nv=M n l nv:=fun l hl=>by
  rw [h.nextB n hn,h.nextM n hn,jziv _ _ hl,piv_k _ _ _ hl,hz];exact⟨rfl,by grind⟩
 have qe:M (n+1) (i n) nv=0:=(by rw [h.nextM n hn,piv_i,hz];grind);constructor
 ·rintro ⟨l,hl,h1,h2⟩
  have qa:l≠i n:=fun e2=>(by rw [e2,hz]at h2;exact hx h2.symm);obtain⟨h3,h4⟩:=hr l qa;exact⟨l,hl,by rw [h3];exact h1,by rw [h4];exact h2⟩
 ·rintro ⟨l,hl,h1,h2⟩
  have qa:l≠i n:=fun e2=>(by rw [e2,qe]at h2;exact hx h2.symm);obtain⟨h3,h4⟩:=hr l qa;exact⟨l,hl,by rw [<-h3];exact h1,by rw [<-h4];exact h2⟩
theorem Run.stay(h:Run m nv N M bas i e){a b v:Nat}(hab:a<=b)(hb:b<=N)(hz:∀n,a<=n->n<b->M n (i n) nv=0)(x:Rat)(hx:x≠0):(∃l,l<m/\bas a l=v/\M a l nv=x)↔∃l,l<m/\bas b l=v/\M b l nv=x:=by
 induction b with
 |zero=>obtain rfl:a=0:=by omega
        exact Iff.rfl
 |succ b ih=>
  by_cases e2:a=b+1
  ·subst e2;exact Iff.rfl
  ·exact(ih (by omega) (by omega) (fun n h1 h2=>hz n h1 (by omega))).trans (h.still (by omega) (hz b (by omega) (by omega)) x hx)
theorem Run.twice(h:Run m nv N M bas i e){a b:Nat}(hab:a<b)(hb:b<=N)(hs:∀v,inB m (bas a) v↔inB m (bas b) v):False:=by
 have qt:M b m nv=M a m nv:=by
  have h1:=(h.sp2 (a:=a) (b:=b) (by omega) hb).goal (h.d a (by omega)).1 nv;rw [sm_zero m (fun l hl=>by
   obtain⟨k,hk,qy⟩:=(hs (bas a l)).1 ⟨l,hl,rfl⟩;have:=(h.d b hb).1.unit k hk m (yX _);rw [qy,if_neg (by omega)]at this;rw [this];grind)]at h1
  grind
 have hz:∀n,a<=n->n<b->M n (i n) nv=0:=fun n h1 h2=>by
  refine((h.bl n (by omega)).goal (h.d n (by omega)).2).2 ?_;rw [<-h.nextM n (by omega)];have h3:=h.mono h1 (by omega);have h4:=h.mono (a:=n) (b:=n+1) (by omega) (by omega);have h5:=h.mono (a:=n+1) (b:=b) (by omega) hb;grind
 have qD:∀c c' v (x:Rat),a<=c->c<=b->a<=c'->c'<=b->x≠0->(∃l,l<m/\bas c l=v/\M c l nv=x)->∃l,l<m/\bas c' l=v/\M c' l nv=x:=fun c c' v x h1 h2 h3 h4 hx hp=>by
  rcases Nat.le_total c c' with h5|h5
  ·exact(h.stay h5 (by omega) (fun n h6 h7=>hz n (by omega) (by omega)) x hx).1 hp
  ·exact(h.stay h5 (by omega) (fun n h6 h7=>hz n (by omega) (by omega)) x hx).2 hp
 obtain⟨c',qm,qF,qe⟩:=maxOf e a b hab;obtain⟨qB,qx⟩:=h.ent (n:=c') (by omega);obtain⟨c,qh,qo,qi⟩:∃c,a<=c/\c<b/\bas c (i c)=e c':=by
  by_cases hA:inB m (bas a) (e c')
  ·obtain⟨n,h1,h2,h3,h4⟩:=stops (p:=fun n=>inB m (bas n) (e c')) qm hA qB
   exact⟨n,h1,by omega,h.went (by omega) h3 h4⟩
  ·obtain⟨n,h1,h2,h3,h4⟩:=stops (p:=fun n=>inB m (bas n) (e c')) (a:=c'+1) (b:=b) (by omega) qx (fun h5=>hA ((hs _).2 h5))
   exact⟨n,by omega,h2,h.went (by omega) h3 h4⟩
 have qf:=h.bl c (by omega);have qa:=h.bl c' (by omega);have hD:=(h.d c (by omega)).1;have qw:=(h.d c' (by omega)).1;have qA:e c<e c':=by
  have h1:=qe c qh qo;have h2:e c≠e c':=fun e2=>(h.ent (n:=c) (by omega)).1 ⟨i c,qf.hi,by rw [qi,e2]⟩;omega
 have hg:=(h.sp2 (a:=c) (b:=c') (by omega) (by omega)).goal hD (e c);have h1:=qa.first _ qA;have h2:=qf.neg;obtain⟨l,hl,qg⟩:=sm_pos m (f:=fun l=>M c' m (bas c l)*M c l (e c)) (by grind);have qE:M c' m (bas c l)≠0:=fun e2=>(by rw [e2]at qg;grind);have qn:=qw.ent qE;have qC:inB m (bas c) (bas c l):=⟨l,hl,rfl⟩;have qG:bas c l<=e c':=by
  have qj:∃n,a<=n/\n<b/\e n=bas c l:=by
   by_cases hA:inB m (bas a) (bas c l)
   ·obtain⟨n,h3,h4,h5,h6⟩:=starts (p:=fun n=>inB m (bas n) (bas c l)) (a:=c') (b:=b) (by omega) qn ((hs _).1 hA)
    exact⟨n,by omega,h4,h.came (by omega) h5 h6⟩
   ·obtain⟨n,h3,h4,h5,h6⟩:=starts (p:=fun n=>inB m (bas n) (bas c l)) qh hA qC
    exact⟨n,h3,by omega,h.came (by omega) h5 h6⟩
  obtain⟨n,h3,h4,h5⟩:=qj;rw [<-h5];exact qe n h3 h4
 by_cases qk:bas c l=e c'
 ·have qp:l=i c:=hD.inj hl qf.hi (by rw [qk,qi])
  rw [qk,qp]at qg;have h3:=qa.neg;have h4:=Rat.mul_le_mul_of_nonneg_right (vB h3) (vB qf.pos);grind
 ·have h3:=qa.first _ (show bas c l<e c' by omega)
  have h4:0<M c l (e c):=by
   refine Rat.not_le.1 fun h5=>?_;have h6:=yT h5 h3;grind
  have h0:M c l nv=0:=by
   refine Classical.byContradiction fun hx=>?_;obtain⟨k,hk,qz,_⟩:=qD c c' (bas c l) _ qh (by omega) qm (by omega) hx ⟨l,hl,rfl,rfl⟩;exact qn ⟨k,hk,qz⟩
  have h5:=qf.tie l hl h4 (by rw [h0,hz c qh qo];grind);rw [qi]at h5;omega
open Classical in
theorem Run.short(h:Run m nv N M bas i e):N<2^nv:=by
 refine Nat.lt_of_not_le fun hN=>?_;obtain⟨a,b,qa,hb,hc⟩:=pigeon (2^nv) (fun n=>code (fun v=>decide (inB m (bas n) v)) nv) (fun n _=>code_lt _ nv);refine h.twice qa (by omega) fun v=>?_;by_cases hv:v<nv
 ·have:=jzkg hc v hv
  simpa using this
 ·exact⟨fun⟨l,hl,e2⟩=>absurd ((h.d a (by omega)).1.lt l hl) (by omega),fun⟨l,hl,e2⟩=>absurd ((h.d b (by omega)).1.lt l hl) (by omega)⟩
end
end Sx
namespace Sx
def sg(j:Nat):Rat:=if j%2=0 then 1 else-1
theorem sg_succ(j:Nat):sg (j+1)= -sg j:=by
 unfold sg;by_cases h:j%2=0
 ·rw [if_pos h,if_neg (by omega)]
 ·rw [if_neg h,if_pos (by omega)];rfl
def sk(j l:Nat):Nat:=if l<j then l else l+1
def mn(a:Nat->Nat->Rat)(j:Nat):Nat->Nat->Rat:=fun i l=>a (i+1) (sk j l)
def dt:Nat->(Nat->Nat->Rat)->Rat
 |0,_=>1
 |m+1,a=>sm (m+1) fun j=>sg j*a 0 j*dt m (mn a j)
theorem jzbk(m:Nat)(a:Nat->Nat->Rat):dt (m+1) a=sm (m+1) fun j=>sg j*a 0 j*dt m (mn a j):=rfl
theorem jzbl:∀(m:Nat) {a b:Nat->Nat->Rat},(∀i,i<m->∀j,j<m->a i j=b i j)->dt m a=dt m b
 |0,_,_,_=>rfl
 |m+1,a,b,h=>by
  rw [jzbk,jzbk];refine sm_congr _ fun j hj=>?_;have e:dt m (mn a j)=dt m (mn b j):=jzbl m fun i hi l hl=>h (i+1) (by omega) (sk j l) (by unfold sk;split <;> omega);rw [h 0 (by omega) j hj,e]
def rc(a:Nat->Nat->Rat)(k:Nat)(u:Nat->Rat):Nat->Nat->Rat:=fun i j=>if j=k then u i else a i j
theorem jzfy(a:Nat->Nat->Rat)(k:Nat)(u:Nat->Rat):mn (rc a k u) k=mn a k:=by
 funext i l
 unfold mn rc sk;rw [if_neg (by split <;> omega)]
def us(j k:Nat):Nat:=if k<j then k else k-1
theorem mn_rc(a:Nat->Nat->Rat){j k:Nat}(u:Nat->Rat)(h:j≠k):mn (rc a k u) j=rc (mn a j) (us j k) (fun i=>u (i+1)):=by
 funext i l
 unfold mn rc sk us;have:((if l<j then l else l+1)=k)↔(l=if k<j then k else k-1):=(by split <;> split <;> omega);by_cases h2:l=if k<j then k else k-1
 ·rw [if_pos (this.2 h2),if_pos h2]
 ·rw [if_neg (fun h3=>h2 (this.1 h3)),if_neg h2]
theorem rc_at(a:Nat->Nat->Rat)(k:Nat)(u:Nat->Rat)(i:Nat):rc a k u i k=u i:=by unfold rc;rw [if_pos rfl]
theorem rc_ne(a:Nat->Nat->Rat){j k:Nat}(u:Nat->Rat)(i:Nat)(h:j≠k):rc a k u i j=a i j:=by unfold rc;rw [if_neg h]
theorem dt_add:∀(m:Nat) (a:Nat->Nat->Rat) (k:Nat) (u v:Nat->Rat),k<m->dt m (rc a k (fun i=>u i+v i))=dt m (rc a k u)+dt m (rc a k v)
 |0,_,_,_,_,h=>absurd h (by omega)
 |m+1,a,k,u,v,hk=>by
  rw [jzbk,jzbk,jzbk, <-sm_add];refine sm_congr _ fun j hj=>?_;by_cases h:j=k
  ·subst h
   rw [rc_at,rc_at,rc_at,jzfy,jzfy,jzfy];grind
  ·rw [rc_ne _ _ _ h,rc_ne _ _ _ h,rc_ne _ _ _ h,mn_rc _ _ h,mn_rc _ _ h,mn_rc _ _ h,dt_add m _ _ _ _ (by unfold us;split <;> omega)];grind
theorem dt_mul:∀(m:Nat) (a:Nat->Nat->Rat) (k:Nat) (c:Rat) (u:Nat->Rat),k<m->dt m (rc a k (fun i=>c*u i))=c*dt m (rc a k u)
 |0,_,_,_,_,h=>absurd h (by omega)
 |m+1,a,k,c,u,hk=>by
  rw [jzbk,jzbk, <-jzbj];refine sm_congr _ fun j hj=>?_;by_cases h:j=k
  ·subst h
   rw [rc_at,rc_at,jzfy,jzfy];grind
  ·rw [rc_ne _ _ _ h,rc_ne _ _ _ h,mn_rc _ _ h,mn_rc _ _ h,dt_mul m _ _ _ _ (by unfold us;split <;> omega)];grind
theorem dt_sum(m:Nat)(a:Nat->Nat->Rat)(k:Nat)(hk:k<m)(c:Nat->Rat)(u:Nat->Nat->Rat):∀n,dt m (rc a k (fun i=>sm n fun l=>c l*u l i))=sm n fun l=>c l*dt m (rc a k (u l))
 |0=>by
  have h:=dt_mul m a k 0 (fun _=>0) hk;have e:(fun i:Nat=>sm 0 fun l=>c l*u l i)=fun i=>(0:Rat)*(fun _:Nat=>(0:Rat)) i:=by
   funext i
   show(0:Rat)=0*0;grind
  rw [e,h];show 0*_=(0:Rat);grind
 |n+1=>by
  have h:=dt_add m a k (fun i=>sm n fun l=>c l*u l i) (fun i=>c n*u n i) hk;refine Eq.trans h ?_;rw [dt_sum m a k hk c u n,dt_mul m a k _ _ hk];rfl
theorem sm_two(n:Nat){f:Nat->Rat}{k l:Nat}(hk:k<n)(hl:l<n)(hkl:k≠l)(h:∀j,j<n->j≠k->j≠l->f j=0):sm n f=f k+f l:=by
 have e:sm n f=sm n fun j=>(if j=k then f k else 0)+(if j=l then f l else 0):=sm_congr n fun j hj=>by
  by_cases h1:j=k
  ·subst h1;rw [if_pos rfl,if_neg hkl];grind
  ·by_cases h2:j=l
   ·subst h2;rw [if_neg h1,if_pos rfl];grind
   ·rw [if_neg h1,if_neg h2,h j hj h1 h2];grind
 rw [e,sm_add,sm_one n hk (fun j _ hj=>by rw [if_neg hj]),sm_one n hl (fun j _ hj=>by rw [if_neg hj]),if_pos rfl,if_pos rfl]
theorem dt_adj:∀(m:Nat) (a:Nat->Nat->Rat) (k:Nat),k+1<m->(∀i,i<m->a i k=a i (k+1))->dt m a=0
 |0,_,_,h,_=>absurd h (by omega)
 |m+1,a,k,hk,h=>by
  rw [jzbk,sm_two (m+1) (k:=k) (l:=k+1) (by omega) hk (by omega) (fun j hj h1 h2=>by
   have:dt m (mn a j)=0:=by
    by_cases h3:k<j
    ·exact dt_adj m _ k (by omega) (fun i hi=>by
     unfold mn sk;rw [if_pos h3,if_pos (by omega)];exact h (i+1) (by omega))
    ·obtain⟨k',rfl⟩:∃k',k=k'+1:=⟨k-1,by omega⟩
     exact dt_adj m _ k' (by omega) (fun i hi=>by
      unfold mn sk;rw [if_neg (by omega),if_neg (by omega)];exact h (i+1) (by omega))
   rw [this];grind)]
  have e:dt m (mn a k)=dt m (mn a (k+1)):=jzbl m fun i hi l hl=>by
   unfold mn sk;by_cases h1:l<k
   ·rw [if_pos h1,if_pos (by omega)]
   ·by_cases h2:l=k
    ·subst h2
     rw [if_neg (by omega),if_pos (by omega)];exact(h (i+1) (by omega)).symm
    ·rw [if_neg h1,if_neg (by omega)]
  rw [e, <-h 0 (by omega),sg_succ];grind
theorem rc_rc(a:Nat->Nat->Rat){k l:Nat}(u v:Nat->Rat)(h:k≠l):rc (rc a k u) l v=rc (rc a l v) k u:=by
 funext i j
 unfold rc;by_cases h1:j=l
 ·subst h1;rw [if_pos rfl,if_neg (fun e=>h e.symm),if_pos rfl]
 ·rw [if_neg h1,if_neg h1]
theorem dt_swap(m:Nat)(a:Nat->Nat->Rat)(k:Nat)(hk:k+1<m)(u v:Nat->Rat):dt m (rc (rc a k u) (k+1) v)= -dt m (rc (rc a k v) (k+1) u):=by
 have h0:∀x:Nat->Rat,dt m (rc (rc a k x) (k+1) x)=0:=fun x=>dt_adj m _ k hk fun i _=>(by rw [rc_at,rc_ne _ _ _ (by omega),rc_at]);have h1:=h0 (fun i=>u i+v i);have ha:∀x:Nat->Rat,dt m (rc (rc a k (fun i=>u i+v i)) (k+1) x)=dt m (rc (rc a k u) (k+1) x)+dt m (rc (rc a k v) (k+1) x):=fun x=>by
  rw [rc_rc a _ x (by omega),dt_add m _ k u v (by omega),rc_rc a u x (by omega),rc_rc a v x (by omega)]
 rw [dt_add m _ (k+1) u v hk,ha,ha,h0,h0]at h1;grind
theorem rc_own(a:Nat->Nat->Rat)(k:Nat):rc a k (fun i=>a i k)=a:=by
 funext i j
 unfold rc;by_cases h:j=k
 ·rw [if_pos h,h]
 ·rw [if_neg h]
theorem dt_eq:∀(n m:Nat) (a:Nat->Nat->Rat) (k:Nat),k+1+n<m->(∀i,i<m->a i k=a i (k+1+n))->dt m a=0
 |0,m,a,k,hk,h=>dt_adj m a k hk h
 |n+1,m,a,k,hk,h=>by
  have e:a=rc (rc a (k+1+n) (fun i=>a i (k+1+n))) (k+1+n+1) (fun i=>a i (k+1+n+1)):=by
   rw [rc_own];exact(rc_own a (k+1+n+1)).symm
  rw [e,dt_swap m a (k+1+n) hk,dt_eq n m _ k (by omega) (fun i hi=>?_)]
  ·grind
  ·rw [rc_ne _ _ _ (by omega),rc_ne _ _ _ (by omega),rc_ne _ _ _ (by omega),rc_at]
   exact h i hi
theorem dt_two(m:Nat)(a:Nat->Nat->Rat){k l:Nat}(hk:k<m)(hl:l<m)(hkl:k≠l)(h:∀i,i<m->a i k=a i l):dt m a=0:=by
 rcases Nat.lt_or_gt_of_ne hkl with h1|h1
 ·obtain⟨n,rfl⟩:∃n,l=k+1+n:=⟨l-k-1,by omega⟩
  exact dt_eq n m a k hl h
 ·obtain⟨n,rfl⟩:∃n,k=l+1+n:=⟨k-l-1,by omega⟩
  exact dt_eq n m a l hk fun i hi=>(h i hi).symm
theorem cramer(m:Nat)(a:Nat->Nat->Rat)(k:Nat)(hk:k<m)(c:Nat->Rat)(u:Nat->Rat)(h:∀i,i<m->u i=sm m fun l=>c l*a i l):dt m (rc a k u)=c k*dt m a:=by
 have e:dt m (rc a k u)=dt m (rc a k (fun i=>sm m fun l=>c l*(fun l i=>a i l) l i)):=jzbl m fun i hi j hj=>by
  unfold rc;by_cases h1:j=k
  ·rw [if_pos h1,if_pos h1];exact h i hi
  ·rw [if_neg h1,if_neg h1]
 rw [e,dt_sum m a k hk,sm_one m hk (fun l hl hlk=>by
  rw [dt_two m _ hk hl (fun e=>hlk e.symm) (fun i hi=>by rw [rc_at,rc_ne _ _ _ hlk])];grind),rc_own]
theorem dt_unit:∀m,dt m (fun i j=>if i=j then 1 else 0)=1
 |0=>rfl
 |m+1=>by
  rw [jzbk,sm_one (m+1) (l:=0) (by omega) (fun j _ hj=>by rw [if_neg (fun e=>hj e.symm)];grind)];have e:dt m (mn (fun i j=>if i=j then 1 else 0) 0)=dt m (fun i j=>if i=j then 1 else 0):=jzbl m fun i _ j _=>by
   unfold mn sk;rw [if_neg (by omega)]
   dsimp only
   by_cases h:i=j
   ·rw [if_pos h,if_pos (by omega)]
   ·rw [if_neg h,if_neg (by omega)]
  rw [e,dt_unit m,if_pos rfl];unfold sg;rw [if_pos rfl];grind
def isI(q:Rat):Prop:=∃z:Int,q=(z:Rat)
theorem isI.add{a b:Rat}:isI a->isI b->isI (a+b):=fun⟨x,h⟩ ⟨y,h2⟩=>⟨x+y,by rw [h,h2,Rat.intCast_add]⟩
theorem isI.mul{a b:Rat}:isI a->isI b->isI (a*b):=fun⟨x,h⟩ ⟨y,h2⟩=>⟨x*y,by rw [h,h2,Rat.intCast_mul]⟩
theorem isI.neg{a:Rat}:isI a->isI (-a):=fun⟨x,h⟩=>⟨-x,by rw [h,Rat.intCast_neg]⟩
theorem isI.zero:isI 0:=⟨0,rfl⟩
theorem isI.one:isI 1:=⟨1,rfl⟩
theorem isI.sm:∀(n:Nat) {f:Nat->Rat},(∀k,k<n->isI (f k))->isI (sm n f)
 |0,_,_=>isI.zero
 |n+1,_,h=>(isI.sm n fun k hk=>h k (by omega)).add (h n (by omega))
theorem dt_int:∀(m:Nat) {a:Nat->Nat->Rat},(∀i,i<m->∀j,j<m->isI (a i j))->isI (dt m a)
 |0,_,_=>isI.one
 |m+1,a,h=>by
  rw [jzbk];refine isI.sm _ fun j hj=>((?_:isI (sg j)).mul (h 0 (by omega) j hj)).mul (dt_int m fun i hi l hl=>h (i+1) (by omega) _ (by unfold sk;split <;> omega));unfold sg
  split
  ·exact isI.one
  ·exact isI.one.neg
def ab(q:Rat):Rat:=if q<0 then-q else q
theorem ab_nn(q:Rat):0<=ab q:=by unfold ab;split <;> grind
theorem ab_add(a b:Rat):ab (a+b)<=ab a+ab b:=by unfold ab;split <;> split <;> split <;> grind
theorem jzgk(a:Rat):ab (-a)=ab a:=by unfold ab;split <;> split <;> grind
theorem ab_mul(a b:Rat):ab (a*b)=ab a*ab b:=by
 have qa:∀x y:Rat,0<=x->0<=y->ab (x*y)=x*y:=fun x y hx hy=>by
  unfold ab;rw [if_neg (Rat.not_lt.2 (vA hx hy))]
 have hp:∀x:Rat,0<=x->ab x=x:=fun x hx=>(by unfold ab;rw [if_neg (Rat.not_lt.2 hx)]);rcases Rat.le_total (a:=0) (b:=a)with h1|h1 <;> rcases Rat.le_total (a:=0) (b:=b)with h2|h2
 ·rw [qa a b h1 h2,hp a h1,hp b h2]
 ·have h3:=qa a (-b) h1 (by grind)
  rw [<-jzgk b,hp a h1,hp (-b) (by grind), <-h3, <-jzgk];congr 1;grind
 ·have h3:=qa (-a) b (by grind) h2
  rw [<-jzgk a,hp b h2,hp (-a) (by grind), <-h3, <-jzgk];congr 1;grind
 ·have h3:=qa (-a) (-b) (by grind) (by grind)
  rw [<-jzgk a, <-jzgk b,hp (-a) (by grind),hp (-b) (by grind), <-h3];congr 1;grind
theorem ab_sm:∀(n:Nat) (f:Nat->Rat),ab (sm n f)<=sm n fun k=>ab (f k)
 |0,_=>by show ab 0<=0;decide
 |n+1,f=>by
  show ab (sm n f+f n)<=sm n (fun k=>ab (f k))+ab (f n);have h:=ab_add (sm n f) (f n);have h2:=ab_sm n f;grind
def pr:Nat->(Nat->Rat)->Rat
 |0,_=>1
 |n+1,f=>pr n f*f n
theorem pr_nn:∀(n:Nat) {f:Nat->Rat},(∀k,k<n->0<=f k)->0<=pr n f
 |0,_,_=>by show(0:Rat)<=1;decide
 |n+1,_,h=>vA (pr_nn n fun k hk=>h k (by omega)) (h n (by omega))
theorem jzkh:∀(n:Nat) {f g:Nat->Rat},(∀k,k<n->f k=g k)->pr n f=pr n g
 |0,_,_,_=>rfl
 |n+1,f,g,h=>by
  show pr n f*f n=pr n g*g n;rw [jzkh n (fun k hk=>h k (by omega)),h n (by omega)]
theorem pr_le:∀(n:Nat) {f g:Nat->Rat},(∀k,k<n->0<=f k)->(∀k,k<n->f k<=g k)->pr n f<=pr n g
 |0,_,_,_,_=>vC
 |n+1,f,g,h0,h=>by
  show pr n f*f n<=pr n g*g n;have h1:=pr_le n (fun k hk=>h0 k (by omega)) (fun k hk=>h k (by omega));have h2:=pr_nn n (fun k hk=>h0 k (by omega));have h3:=h0 n (by omega);have h4:=h n (by omega);exact Rat.le_trans (Rat.mul_le_mul_of_nonneg_right h1 h3) (yT h4 (Rat.le_trans h2 h1))
theorem pr_sum(x y:Nat->Rat)(hx:∀k,0<=x k)(hy:∀k,0<=y k):∀m,(sm (m+1) fun j=>x j*pr m fun l=>y (sk j l))<=pr (m+1) fun j=>x j+y j
 |0=>by
  show 0+x 0*1<=1*(x 0+y 0);have:=hy 0;grind
 |m+1=>by
  have ih:=pr_sum x y hx hy m;have e1:sm (m+1+1) (fun j=>x j*pr (m+1) fun l=>y (sk j l))=sm (m+1) (fun j=>(x j*pr m fun l=>y (sk j l))*y (m+1))+x (m+1)*pr (m+1) y:=by
   show sm (m+1) _+_=_
   congr 1
   ·refine sm_congr _ fun j hj=>?_
    show x j*(pr m (fun l=>y (sk j l))*y (sk j m))=_;have:sk j m=m+1:=(by unfold sk;rw [if_neg (by omega)]);rw [this];grind
   ·show x (m+1)*(pr (m+1) fun l=>y (sk (m+1) l))=_
    congr 1
    exact jzkh (m+1) fun l hl=>by unfold sk;rw [if_pos (by omega)]
  rw [e1,jzke];show _<=pr (m+1) (fun j=>x j+y j)*(x (m+1)+y (m+1));have h1:=Rat.mul_le_mul_of_nonneg_right ih (hy (m+1));have h2:pr (m+1) y<=pr (m+1) fun j=>x j+y j:=pr_le _ (fun k _=>hy k) (fun k _=>by have:=hx k;grind);have h3:=yT h2 (hx (m+1));grind
theorem sm_shift(n:Nat)(f:Nat->Rat):sm (n+1) f=f 0+sm n fun k=>f (k+1):=by
 induction n with
 |zero=>show(0:Rat)+f 0=f 0+0;grind
 |succ n ih=>
  show sm (n+1) f+f (n+1)=f 0+(sm n (fun k=>f (k+1))+f (n+1));rw [ih];grind
theorem dt_le:∀(m:Nat) (a:Nat->Nat->Rat),ab (dt m a)<=pr m fun j=>sm m fun i=>ab (a i j)
 |0,_=>by show ab 1<=1;decide
 |m+1,a=>by
  have h1:=ab_sm (m+1) fun j=>sg j*a 0 j*dt m (mn a j);have h2:sm (m+1) (fun j=>ab (sg j*a 0 j*dt m (mn a j)))<=sm (m+1) (fun j=>ab (a 0 j)*pr m fun l=>sm m fun i=>ab (a (i+1) (sk j l))):=by
   refine sm_le (m+1) fun j hj=>?_;have h3:ab (sg j)=1:=(by unfold sg;split <;> rfl);have h4:ab (sg j*a 0 j*dt m (mn a j))=ab (a 0 j)*ab (dt m (mn a j)):=(by rw [ab_mul,ab_mul,h3,Rat.one_mul]);rw [h4];exact yT (dt_le m (mn a j)) (ab_nn _)
  have h3:=pr_sum (fun j=>ab (a 0 j)) (fun c=>sm m fun i=>ab (a (i+1) c)) (fun k=>ab_nn _) (fun k=>sm_nn m fun i _=>ab_nn _) m;have h4:(fun j=>ab (a 0 j)+sm m fun i=>ab (a (i+1) j))=fun j=>sm (m+1) fun i=>ab (a i j):=by
   funext j
   exact(sm_shift m fun i=>ab (a i j)).symm
  have h5:pr (m+1) (fun j=>ab (a 0 j)+sm m fun i=>ab (a (i+1) j))=pr (m+1) fun j=>sm (m+1) fun i=>ab (a i j):=(by rw [h4]);rw [jzbk, <-h5];exact Rat.le_trans h1 (Rat.le_trans h2 h3)
def Col(m nv:Nat)(M:Nat->Nat->Rat)(bas:Nat->Nat)(col:Nat->Nat->Rat)(cost:Nat->Rat):Prop:=
 ∀v,v<=nv->(∀i,i<m->col v i=sm m fun l=>M l v*col (bas l) i)/\M m v=(sm m fun l=>M l v*cost (bas l))-cost v
theorem piv_sum{m:Nat}{M:Nat->Nat->Rat}{bas:Nat->Nat}{i e:Nat}(hi:i<m)(hp:M i e≠0)(v:Nat)(f:Nat->Rat):(sm m fun l=>piv M i e l v*f (pivB bas i e l))=(sm m fun l=>M l v*f (bas l))+(M i v/M i e)*(f e-sm m fun l=>M l e*f (bas l)):=by
 have e1:(sm m fun l=>piv M i e l v*f (pivB bas i e l))=sm m fun l=>((M l v*f (bas l))-(M i v/M i e)*(M l e*f (bas l)))+if l=i then(M i v/M i e)*f e else 0:=sm_congr m fun l _=>by
  by_cases h:l=i
  ·subst h;rw [piv_i,jzkf,if_pos rfl];grind
  ·rw [piv_k M e v h,jziv bas e h,if_neg h];grind
 rw [e1,sm_add,sm_sub,jzbj,sm_one m (f:=fun l=>if l=i then(M i v/M i e)*f e else 0) hi (fun l _ hl=>by rw [if_neg hl]),if_pos rfl];grind
theorem Col.pivot{m nv:Nat}{M:Nat->Nat->Rat}{bas:Nat->Nat}{col:Nat->Nat->Rat}{cost:Nat->Rat}(h:Col m nv M bas col cost){i e:Nat}(hi:i<m)(he:e<nv)(hp:M i e≠0):Col m nv (piv M i e) (pivB bas i e) col cost:=fun v hv=>by
 have h1:=h v hv;have h2:=h e (by omega);refine⟨fun j hj=>?_,?_⟩
 ·rw [piv_sum hi hp v fun v=>col v j, <-h1.1 j hj, <-h2.1 j hj];grind
 ·rw [piv_sum hi hp v cost,piv_k M e v (by omega),h1.2,h2.2];grind
def dB(m:Nat)(col:Nat->Nat->Rat)(bas:Nat->Nat):Rat:=dt m fun i l=>col (bas l) i
theorem Col.det{m nv:Nat}{M:Nat->Nat->Rat}{bas:Nat->Nat}{col:Nat->Nat->Rat}{cost:Nat->Rat}(h:Col m nv M bas col cost){k:Nat}(hk:k<m){v:Nat}(hv:v<=nv):dt m (rc (fun i l=>col (bas l) i) k (col v))=M k v*dB m col bas:=
 cramer m _ k hk (fun l=>M l v) (col v) fun i hi=>(h v hv).1 i hi
theorem Col.det_piv{m nv:Nat}{M:Nat->Nat->Rat}{bas:Nat->Nat}{col:Nat->Nat->Rat}{cost:Nat->Rat}(h:Col m nv M bas col cost){i e:Nat}(hi:i<m)(he:e<nv):dB m col (pivB bas i e)=M i e*dB m col bas:=by
 rw [<-h.det hi (show e<=nv by omega)];unfold dB;refine jzbl m fun k _ l _=>?_;unfold rc pivB;by_cases h1:l=i
 ·rw [if_pos h1,if_pos h1]
 ·rw [if_neg h1,if_neg h1]
def RowP(m nv:Nat)(M:Nat->Nat->Rat)(col:Nat->Nat->Rat)(cost:Nat->Rat):Prop:=
 ∀v,v<=nv->(∀k,k<m->M k v=sm m fun i=>M k i*col v i)/\M m v=(sm m fun i=>M m i*col v i)-cost v
theorem RowP.pivot{m nv:Nat}{M:Nat->Nat->Rat}{col:Nat->Nat->Rat}{cost:Nat->Rat}(h:RowP m nv M col cost){i:Nat}(e:Nat)(hi:i<m):RowP m nv (piv M i e) col cost:=fun v hv=>by
 obtain⟨h1,h2⟩:=h v hv;have qf:∀c:Rat,(sm m fun j=>(M i j/M i e)*col v j)=M i v/M i e:=fun _=>by
  have e1:(sm m fun j=>(M i j/M i e)*col v j)=sm m fun j=>(1/M i e)*(M i j*col v j):=sm_congr m fun j _=>(by grind);rw [e1,jzbj, <-h1 i hi];grind
 have qa:∀k,k≠i->(sm m fun j=>piv M i e k j*col v j)=(sm m fun j=>M k j*col v j)-M k e*(M i v/M i e):=fun k hk=>by
  have e1:(sm m fun j=>piv M i e k j*col v j)=sm m fun j=>M k j*col v j-M k e*((M i j/M i e)*col v j):=sm_congr m fun j _=>(by rw [piv_k M e j hk];grind);rw [e1,sm_sub,jzbj,qf 0]
 refine⟨fun k hk=>?_,?_⟩
 ·by_cases qe:k=i
  ·subst qe
   rw [piv_i, <-qf 0];exact sm_congr m fun j _=>by rw [piv_i]
  ·rw [qa k qe,piv_k M e v qe, <-h1 k hk]
 ·rw [qa m (by omega),piv_k M e v (by omega),h2];grind
end Sx
end Go.Proofs.YthbmikapohlikaaGreatDoor
