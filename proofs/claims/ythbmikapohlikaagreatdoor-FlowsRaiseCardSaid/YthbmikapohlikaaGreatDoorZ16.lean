/- Part 16 of 24 of what the Flows claims share (the white space is struck, the texts are joined). -/
import Derived.Test.YthbmikapohlikaaGreatDoorZ15
set_option linter.unusedVariables false
set_option linter.unusedSimpArgs false
set_option maxRecDepth 100000
set_option maxHeartbeats 8000000
namespace Go.Proofs.YthbmikapohlikaaGreatDoor
namespace Sx
open Go.Lib
def valD(l:List UInt8):Nat:=l.foldl (fun n c=>10*n+(c.toNat-48)) 0
theorem jze2{n:Nat}(h:n<256):(UInt8.ofNat n).toNat=n:=by
 rw [UInt8.toNat_ofNat'];omega
theorem jze3(u:Nat):valD (decDigits u)=u:=by
 induction u using Nat.strongRecOn with
 |_ u ih=>
  by_cases h:u<10
  ·rw [decDigits,dif_pos h]
   show 10*0+((UInt8.ofNat (48+u)).toNat-48)=u;rw [jze2 (by omega)];omega
  ·have h1:=ih (u/10) (by omega)
   rw [decDigits,dif_neg h];unfold valD at h1⊢;rw [List.foldl_append,h1];show 10*(u/10)+((UInt8.ofNat (48+u%10)).toNat-48)=u;rw [jze2 (by omega)];omega
theorem jzgj(u:Nat):∀c∈decDigits u,48<=c.toNat:=by
 induction u using Nat.strongRecOn with
 |_ u ih=>
  intro c hc;rw [decDigits]at hc;by_cases h:u<10
  ·rw [dif_pos h]at hc
   rw [xD.1 hc,jze2 (by omega)];omega
  ·rw [dif_neg h]at hc
   rcases xY.1 hc with h1|h1
   ·exact ih (u/10) (by omega) c h1
   ·rw [xD.1 h1,jze2 (by omega)];omega
theorem jzc5(n:Int):∀c∈itoa n,c≠32:=by
 have qa:∀u,∀c∈decDigits u,c≠32:=fun u c hc e=>by
  have:=jzgj u c hc;rw [e]at this;exact absurd this (by decide)
 intro c hc;unfold itoa at hc
 split at hc
 ·rcases xZ.1 hc with rfl|h
  ·decide
  ·exact qa _ c h
 ·exact qa _ c hc
theorem jzle{a b:Int}(h:itoa a=itoa b):a=b:=by
 have no:∀(u v:Nat),(45:UInt8)::decDigits u≠decDigits v:=fun u v e=>by
  have:=jzgj v 45 (by rw [<-e];simp);exact absurd this (by decide)
 unfold itoa at h;by_cases ha:a<0
 ·rw [if_pos ha]at h
  by_cases hb:b<0
  ·rw [if_pos hb]at h
   have h1:=congrArg valD (List.cons.inj h).2;rw [jze3,jze3]at h1;omega
  ·rw [if_neg hb]at h
   exact absurd h (no _ _)
 ·rw [if_neg ha]at h
  by_cases hb:b<0
  ·rw [if_pos hb]at h
   exact absurd h.symm (no _ _)
  ·rw [if_neg hb]at h
   have h1:=congrArg valD h;rw [jze3,jze3]at h1;omega
def nameA(l:List Int):List UInt8:=l.flatMap fun a=>32::itoa a
def nameL(d:Int)(l:List Int):List UInt8:=itoa d++nameA l
theorem jzgt:∀{x y:List UInt8} {u v:List UInt8},(∀c∈x,c≠32)->(∀c∈y,c≠32)->(u=[]\/∃u',u=32::u')->(v=[]\/∃v',v=32::v')->x++u=y++v->x=y/\u=v
 | [],[],u,v,_,_,_,_,h=>⟨rfl,h⟩
 | [],b::y,u,v,_,hy,hu,_,h=>by
   have h:u=b::(y++v):=h;rcases hu with e|⟨u',e⟩
   ·rw [e]at h;cases h
   ·rw [e]at h
    exact absurd (List.cons.inj h).1.symm (hy b (by simp))
 |a::x,[],u,v,hx,_,_,hv,h=>by
  have h:a::(x++u)=v:=h;rcases hv with e|⟨v',e⟩
  ·rw [e]at h;cases h
  ·rw [e]at h
   exact absurd (List.cons.inj h).1 (hx a (by simp))
 |a::x,b::y,u,v,hx,hy,hu,hv,h=>by
  have h:a::(x++u)=b::(y++v):=h;obtain⟨h1,h2⟩:=List.cons.inj h;obtain⟨h3,h4⟩:=jzgt (fun c hc=>hx c (by simp [hc])) (fun c hc=>hy c (by simp [hc])) hu hv h2;exact⟨by rw [h1,h3],h4⟩
theorem jzch(l:List Int):nameA l=[]\/∃u,nameA l=32::u:=by
 cases l with
 |nil=>exact .inl rfl
 |cons a l=>exact .inr ⟨_,rfl⟩
theorem jzhv:∀{l k:List Int},nameA l=nameA k->l=k
 | [],[],_=>rfl
 | [],_::_,h=>by cases h
 |_::_,[],h=>by cases h
 |a::l,b::k,h=>by
  have h:(32:UInt8)::(itoa a++nameA l)=32::(itoa b++nameA k):=h;obtain⟨h1,h2⟩:=jzgt (jzc5 a) (jzc5 b) (jzch l) (jzch k) (List.cons.inj h).2;rw [jzle h1,jzhv h2]
theorem nameL_inj{d e:Int}{l k:List Int}(h:nameL d l=nameL e k):d=e/\l=k:=by
 obtain⟨h1,h2⟩:=jzgt (jzc5 d) (jzc5 e) (jzch l) (jzch k) h;exact⟨jzle h1,jzhv h2⟩
end Sx
end Go.Proofs.YthbmikapohlikaaGreatDoor
namespace Go.Proofs.YthbmikapohlikaaGreatDoor
open Go.RowKit Go.Lib Sx
theorem bldByte(B b:Nat)(bs:List Value)(c:Int)(w:World)(h:Lib.IsBuilder 176 5 B b bs w)(hlen:bs.length+1<=140737488355328)(hBw:B<=w.heap.size):
  Calls Tryz.prog 109 #[.pointer (some ⟨b,0,none⟩),.int .u8 c] w fun e w'=>e=.returned .nilIface/\(Lib.BuilderAt 176 5 B b (.pointer (some ⟨b,0,none⟩)) (bs++[.int .u8 c]) w'/\Below B w w'):=by
 go_enter Tryz.func109,Tryz.ntmps109
 go_wp2_with fail
 refine(bldCheck B b bs _ h).mono ?_;rintro e w1 ⟨rfl,h1,qj⟩;obtain⟨hB,v,qg,qe,qo⟩:=h1;have c0:w1.cell? ⟨b,0,none⟩=some (.pointer (some ⟨b,0,none⟩)):=(by rw [Lib.cell_of_heap qg];rfl);have c1:w1.cell? ⟨b,1,none⟩=some v:=(by rw [Lib.cell_of_heap qg];rfl);have qk:b<w1.heap.size:=by
  rcases Nat.lt_or_ge b w1.heap.size with h'|h'
  ·exact h'
  ·simp [Array.getElem?_eq_none h']at qg
 have qm:B<=w1.heap.size:=yY hBw qj.size
 go_wp2_with (at_builtin;refine jz2 _ 174 5 _ 1 1 rfl _ _ rfl Tryz.underlying174 byteInfo rfl (by decide) B v bs.length bs rfl (qe.kept (jzn ((Ext.refl w1).alloc (.cells #[.int .u8 c] 5))) (jzr _)) [.int .u8 c] rfl (by simp [Value.oneCell']) w1.heap.size rfl (Blk.new w1 5 #[.int .u8 c]) (by unfold maxLen;omega) (by omega) (by simp;omega) ?_)
 intro g9 c9 w2 qf qa _;have qn:(w1.alloc (.cells #[.int .u8 c] 5)).heap[b]?=some (.cells #[.pointer (some ⟨b,0,none⟩),v] 176 (0,0)):=(Lib.alloc_old w1 _ b qk).trans qg;have qi:b<(w1.alloc (.cells #[.int .u8 c] 5)).heap.size:=(by simp;omega);have qh:w2.heap[b]?=some (.cells #[.pointer (some ⟨b,0,none⟩),v] 176 (0,0)):=by
  rw [qa.block b qi (fun e=>qo e.symm)];exact qn
 have d0:w2.cell? ⟨b,0,none⟩=some (.pointer (some ⟨b,0,none⟩)):=(by rw [Lib.cell_of_heap qh];rfl);have d1:w2.cell? ⟨b,1,none⟩=some v:=(by rw [Lib.cell_of_heap qh];rfl);have f1:w2.frozen? ⟨b,1,none⟩=false:=Lib.frozen_of_heap qh 1;go_wp2;go_ret;refine⟨rfl,?_,?_⟩
 ·exact Lib.BuilderAt.put (T:=176) (e:=5) hB qh (bs':=bs++[.int .u8 c]) (by simpa using qf) (by decide)
 ·exact((qj.alloc qm _).grown qa (by simp;omega) (fun k hk=>(qe.lt k hk).1)).setCell (p:=⟨b,1,none⟩) hB _
theorem jzlf(r:Int)(w:World)(ht:Tab w)(hr:i64 r):
  Calls Tryz.prog 108 #[.int .i64 r] w fun e w'=>e=.returned (.string ⟨(Lib.itoa r).toArray⟩)/\Ext w w':=by
 unfold i64 at hr;refine(Tryz.strconv_Itoa r (by omega) (by omega) w ht).mono ?_;rintro e w' ⟨rfl,k,os,rfl⟩;exact⟨rfl,jzj8 _ _ _⟩
theorem dec_len19(r:Nat)(h:r<10000000000000000000):(Lib.decDigits r).length<=19:=by
 rw [Lib.decDigits_length];have h1:=Dig.fixD_pad 18 r (by simp;omega);have h2:∀k r,(Dig.fixD k r).length=k:=fun k=>by
  induction k with
  |zero=>intro r;rfl
  |succ k ih=>intro r;rw [Dig.fixD,yQ,ih];rfl
 have h3:=congrArg List.length h1;rw [h2,yQ,xC,Lib.decDigits_length]at h3;omega
theorem jze4(r:Int)(hr:i64 r):(Lib.itoa r).length<=20:=by
 unfold i64 at hr;unfold Lib.itoa;have h1:∀n:Nat,n<=9223372036854775808->(Lib.decDigits n).length<=19:=fun n hn=>by
  exact dec_len19 n (by omega)
 split
 ·rw [List.length_cons]
  have:=h1 r.natAbs (by omega);omega
 ·have:=h1 r.toNat (by omega)
  omega
theorem jze5(d:Int)(l:List Int)(hd:i64 d)(hl:∀a∈l,i64 a):(nameL d l).length<=20+21*l.length:=by
 have qa:∀l:List Int,(∀a∈l,i64 a)->(nameA l).length<=21*l.length:=fun l=>by
  induction l with
  |nil=>intro _;exact yX _
  |cons a l ih=>
   intro h;have h1:=ih fun b hb=>h b (xO _ hb);have h2:=jze4 a (h a (by simp));have e:nameA (a::l)=(32::Lib.itoa a)++nameA l:=(by unfold nameA;rw [xU]);rw [e,yQ,List.length_cons,List.length_cons];omega
 unfold nameL;rw [yQ];have h1:=qa l hl;have h2:=jze4 d hd;omega
theorem jzlg(d:Int)(l:List Int)(a:Int):nameL d (l++[a])=nameL d l++[32]++Lib.itoa a:=by
 unfold nameL nameA;rw [List.flatMap_append];simp
theorem name_ok(d:Int)(l:List Int)(A:Option Addr)(n c:Nat)(hn:l.length=n)(neg:Bool)(A1:Option Addr)(n1 c1:Nat)(A2:Option Addr)(n2 c2:Nat)(w:World)(ht:Tab w)(hr:Rd w A (iints l))(hll:n<=1000000)(hd:i64 d)(hi:∀a∈l,i64 a):
  Calls Tryz.prog 65 #[.agg #[.int .i64 d,.slice A n c,.bool neg,.slice A1 n1 c1,.slice A2 n2 c2]] w fun e w'=>e=.returned (.string ⟨(nameL d l).toArray⟩)/\Ext w w':=by
 have HT:=Hx ht;have HR:=Hx hr;have HI:=Hx (And.intro hd hi);clear ht hr hd hi;obtain⟨qf,e0⟩:=boxes1 w #[.int .i64 d,.slice A n c,.bool neg,.slice A1 n1 c1,.slice A2 n2 c2] 70;have i0:=qf.cell 0;have i1:=qf.cell 1;have E0:=Hx (And.intro qf e0);have qp:(w.alloc (.cells #[.int .i64 d,.slice A n c,.bool neg,.slice A1 n1 c1,.slice A2 n2 c2] 70)).heap.size=w.heap.size+1:=(by simp);have BD:=Hx (show Lib.IsBuilder 176 5 (w.alloc (.cells #[.int .i64 d,.slice A n c,.bool neg,.slice A1 n1 c1,.slice A2 n2 c2] 70)).heap.size (w.alloc (.cells #[.int .i64 d,.slice A n c,.bool neg,.slice A1 n1 c1,.slice A2 n2 c2] 70)).heap.size [] ((w.alloc (.cells #[.int .i64 d,.slice A n c,.bool neg,.slice A1 n1 c1,.slice A2 n2 c2] 70)).alloc (.cells #[.pointer none,.slice none 0 0] 176))from Lib.fresh_isBuilder _ _ _);have X0:=Hx ((Ext.refl (w.alloc (.cells #[.int .i64 d,.slice A n c,.bool neg,.slice A1 n1 c1,.slice A2 n2 c2] 70))).alloc (.cells #[.pointer none,.slice none 0 0] 176));clear qf e0
 go_enter Tryz.func65,Tryz.ntmps65
 go_upto_region 2 with fail
 rw [<-qp];generalize w.alloc (.cells #[.int .i64 d,.slice A n c,.bool neg,.slice A1 n1 c1,.slice A2 n2 c2] 70)=W0 at*;have qh:w.heap.size<W0.heap.size:=E0.out.1.lt;clear qp;have i0:=jzc i0 (.cells #[.pointer none,.slice none 0 0] 176)
 go_wp2_with fail
 refine(jzlf d _ ((HT.out.keep E0.out.2).keep X0.out) HI.out.1).mono ?_;rintro e w1 ⟨rfl,qa⟩;have B1:=Hx (show Lib.IsBuilder 176 5 W0.heap.size W0.heap.size [] w1 from by
  rcases BD.out with⟨h1,v,h2,h3,h4⟩|⟨h1,v,h2,h3,h4⟩
  ·exact .inl ⟨h1,v,(qa.block _ (by simp)).trans h2,h3.kept (jzn qa) (jzr _),h4⟩
  ·exact .inr ⟨h1,v,(qa.block _ (by simp)).trans h2,h3.kept (jzn qa) (jzr _),h4⟩)
 have X1:=Hx (X0.out.tr qa);clear qa BD X0;have qg:=jze4 d HI.out.1;have e9:(⟨(Lib.itoa d).toArray⟩:ByteArray).size=(Lib.itoa d).length:=by show(Lib.itoa d).toArray.size=_;simp
 go_wp2_with fail
 refine(bldWrite W0.heap.size W0.heap.size [] ⟨(Lib.itoa d).toArray⟩ _ B1.out (by rw [e9];simp;omega) X1.out.size).mono ?_;rintro e w2 ⟨rfl,qn,qw⟩;have B2:=Hx (show Lib.IsBuilder 176 5 W0.heap.size W0.heap.size (Lib.byteCells (nameL d (l.take 0))) w2 from .inr (by
  have e:nameL d (l.take 0)=Lib.itoa d:=(by unfold nameL nameA;simp);rw [e];exact qn))
 have L2:=Hx (show Below W0.heap.size W0 w2 from Below.trans X1.out qw);clear qn qw B1 X1 qg e9;have i1:=(L2.out.cell (p:=⟨w.heap.size,1,none⟩) qh).trans i1;go_wp2
 go_loopg [13] n (fun q it wx=>∃m:Nat,n-m=q/\m<=n/\it=.int .i64 (m:Int)/\Hid (Lib.IsBuilder 176 5 W0.heap.size W0.heap.size (Lib.byteCells (nameL d (l.take m))) wx/\Below W0.heap.size W0 wx))
 case atStart=>exact⟨0,rfl,yZ _,rfl,Hx ⟨B2.out,L2.out⟩⟩
 case round=>
  obtain⟨m,rfl,hm,rfl,I⟩:=hrel;clear B2 L2 i0 i1;by_cases qx:m<n
  ·obtain⟨a,ha⟩:∃a,l[m]?=some a:=⟨_,yG (by omega)⟩
   have HA:=Hx (show i64 a from HI.out.2 a (yJ ha));have NX:=Hx (show nameL d (l.take (m+1))=nameL d (l.take m)++[32]++Lib.itoa a by rw [List.take_add_one,ha];exact jzlg d _ a);obtain⟨b,o,rfl,hb,ca⟩:=((HR.out.keep E0.out.2).keep I.out.2).iint ha;have qo:=Hx (show(nameL d (l.take m)).length<=20+21*n from yY (jze5 d _ HI.out.1 fun a h=>HI.out.2 a (xM h)) (by rw [xF];omega));have nN:(m:Int)<(n:Int):=(by omega);have n0:(0:Int)<=(m:Int):=(by omega);clear ha
   go_wp2_with fail
   refine(bldByte W0.heap.size W0.heap.size _ 32 _ I.out.1 (by rw [Lib.byteCells_length];have:=qo.out;omega) I.out.2.size).mono ?_;rintro e w3 ⟨rfl,qt,qj⟩;have B3:=Hx (show Lib.IsBuilder 176 5 W0.heap.size W0.heap.size (Lib.byteCells (nameL d (l.take m)++[32])) w3 from .inr (by rw [Lib.byteCells_append];exact qt));have L3:=Hx (I.out.2.trans qj);clear qt qj ca
   go_wp2_with fail
   refine(jzlf a _ ((HT.out.keep E0.out.2).keep L3.out) HA.out).mono ?_;rintro e w4 ⟨rfl,qe⟩;have B4:=Hx (show Lib.IsBuilder 176 5 W0.heap.size W0.heap.size (Lib.byteCells (nameL d (l.take m)++[32])) w4 from by
    rcases B3.out with h|h
    ·have hl:=h.lt
     obtain⟨h1,v,h2,h3,h4⟩:=h;exact .inl ⟨h1,v,(qe.block _ hl).trans h2,h3.kept (jzn qe) (jzr _),h4⟩
    ·have hl:=h.lt
     obtain⟨h1,v,h2,h3,h4⟩:=h;exact .inr ⟨h1,v,(qe.block _ hl).trans h2,h3.kept (jzn qe) (jzr _),h4⟩)
   have L4:=Hx (show Below W0.heap.size W0 w4 from Ext.tr (show Ext W0 w3 from L3.out) qe);clear qe B3 L3;have qg:=jze4 a HA.out;have e9:(⟨(Lib.itoa a).toArray⟩:ByteArray).size=(Lib.itoa a).length:=by show(Lib.itoa a).toArray.size=_;simp
   go_wp2_with fail
   refine(bldWrite W0.heap.size W0.heap.size _ ⟨(Lib.itoa a).toArray⟩ _ B4.out (by rw [Lib.byteCells_length,yQ,e9];have:=qo.out;simp;omega) L4.out.size).mono ?_;rintro e w5 ⟨rfl,qm,qk⟩;have B5:=Hx (show Lib.IsBuilder 176 5 W0.heap.size W0.heap.size (Lib.byteCells (nameL d (l.take (m+1)))) w5 from .inr (by
    rw [NX.out,Lib.byteCells_append];exact qm))
   have L5:=Hx (L4.out.trans qk);clear qm qk qg e9;go_wp2
   go_roundg (n-(m+1))
   case measure=>omega
   case rel=>exact⟨m+1,rfl,by omega,by go_num,Hx ⟨B5.out,L5.out⟩⟩
  ·obtain rfl:m=n:=by omega
   rw [yU (by omega)]at I
   go_wp2_with fail
   refine(Tryz.Builder_String_any W0.heap.size W0.heap.size _ _ I.out.1 I.out.2.size).mono ?_;rintro e w9 ⟨rfl,qi⟩;have HE:=Hx (show Ext w w9 from E0.out.2.tr (I.out.2.trans qi));clear qi;go_wp2;go_ret;exact⟨rfl,HE.out⟩
def nameP(p:Nat×List Nat):List UInt8:=nameL (p.1:Int) (p.2.map fun a:Nat=>(a:Int))
theorem jzhw{p q:Nat×List Nat}(h:nameP p=nameP q):p=q:=by
 obtain⟨h1,h2⟩:=nameL_inj h;have e1:p.1=q.1:=(by omega);have e2:p.2=q.2:=by
  have:=congrArg (List.map Int.toNat) h2
  simpa [List.map_map,Function.comp_def]using this
 exact Prod.ext e1 e2
theorem jzhx(p:Nat×List Nat)(P:List (Nat×List Nat)):nameP p∈P.map nameP↔p∈P:=by
 constructor
 ·intro h
  obtain⟨q,hq,e⟩:=List.mem_map.1 h;rw [<-jzhw e];exact hq
 ·exact fun h=>List.mem_map.2 ⟨p,h,rfl⟩
end Go.Proofs.YthbmikapohlikaaGreatDoor
namespace Go.Proofs.YthbmikapohlikaaGreatDoor
open Go.RowKit
theorem jzaq{α:Type}(f:α->List Value)(m:Nat)(hf:∀x,(f x).length=m):∀(l:List α) (i k:Nat) {x:α},l[i]?=some x->k<m->(l.flatMap f)[i*m+k]?=(f x)[k]?
 | [],i,k,x,h,_=>by simp at h
 |y::l,0,k,x,h,hk=>by
  injection h with h
  subst h;rw [xU,Nat.zero_mul,Nat.zero_add,yR (by rw [hf];exact hk)]
 |y::l,i+1,k,x,h,hk=>by
  rw [xU,yS (by rw [hf,xP,xQ];omega),hf,show(i+1)*m+k-m=i*m+k by rw [xP,xQ];omega];exact jzaq f m hf l i k (by simpa using h) hk
theorem jzb3{α:Type}(f:α->List Value)(m:Nat)(hf:∀x,(f x).length=m)(l:List α):(l.flatMap f).length=l.length*m:=by
 induction l with
 |nil=>simp
 |cons y l ih=>rw [xU,yQ,ih,hf,List.length_cons,xP,xQ];omega
structure DmR(w:World)(l:List Dm)(A:Option Addr)(c:Nat):Prop where
 len:l.length<=c
 cap:l.length<=281474976710656
 rd:Rd w A (l.flatMap Dm.cells)
 wf:∀d∈l,d.wf
theorem DmR.keep{w w':World}{l:List Dm}{A:Option Addr}{c:Nat}(h:DmR w l A c)(hx:Ext w w'):DmR w' l A c:=⟨h.len,h.cap,h.rd.keep hx,h.wf⟩
theorem DmR.at_{w:World}{l:List Dm}{A:Option Addr}{c:Nat}(h:DmR w l A c){i:Nat}{d:Dm}(hl:l[i]?=some d):
  ∃b o:Nat,A=some ⟨b,o,none⟩/\b<w.heap.size/\w.cell? ⟨b,o+i*4,none⟩=some (.int .i64 d.src)/\w.cell? ⟨b,o+i*4+1,none⟩=some (.int .i64 d.dst)/\w.cell? ⟨b,o+i*4+2,none⟩=some (.int .i64 d.amount)/\w.cell? ⟨b,o+i*4+3,none⟩=some (.int .i64 d.prio):=by
 have hi:=(yH.1 hl).1;have qa:=jzb3 Dm.cells 4 (fun _=>rfl) l;obtain⟨b,o,e,hb,hc⟩:=h.rd.at_ (i:=i*4) (by rw [qa];omega);have qe:∀k,k<4->w.cell? ⟨b,o+(i*4+k),none⟩=(Dm.cells d)[k]?:=fun k hk=>by
  rw [hc (i*4+k) (by rw [qa];omega)];exact jzaq Dm.cells 4 (fun _=>rfl) l i k hl hk
 exact⟨b,o,e,hb,qe 0 (by omega),qe 1 (by omega),qe 2 (by omega),qe 3 (by omega)⟩
def dmsP(N:Int)(l:List Dm):Bool:=inB N 0 64&&decide (l.length<=64)&&l.all (Dm.ok N)
def fitP(t:Tp)(l:List Dm):Bool:=validP t&&decide (0<l.length)&&dmsP t.nodes l
theorem jza0{t:Tp}{l:List Dm}(hl:l.length<=64):fitP t l=true↔Fit t l:=by
 constructor
 ·intro h
  unfold fitP dmsP at h;rw [vM,vM,vM,xW]at h;exact⟨h.1.1,by simpa using h.1.2,h.2.2⟩
 ·intro h
  have hn:inB t.nodes 0 64=true:=by
   have:=h.v;unfold validP headOk inB at this;unfold inB;simp at this⊢;omega
  unfold fitP dmsP;rw [h.v,hn,yO h.n,yO hl,xW.2 h.ok];rfl
theorem jzbv(n lo hi:Int)(w:World):Calls Tryz.prog 130 #[.int .i64 n,.int .i64 lo,.int .i64 hi] w fun e w'=>e=.returned (.bool (inB n lo hi))/\w=w':=by
 have hd:inB n lo hi=(decide (lo<=n)&&decide (n<=hi)):=(by unfold inB;simp);rw [hd];clear hd;by_cases h1:lo<=n
 ·have qa:decide (lo<=n)=true:=by simpa using h1
  rw [qa]
  go_enter Tryz.func130,Tryz.ntmps130
  go_wp2;go_ret;exact⟨by simp,rfl⟩
 ·have qa:decide (lo<=n)=false:=by simpa using h1
  rw [qa]
  go_enter Tryz.func130,Tryz.ntmps130
  go_wp2;go_ret;exact⟨by simp,rfl⟩
theorem jz8{l:List Dm}{N:Int}{k:Nat}{d:Dm}(hl:l[k]?=some d)(hb:d.ok N=false):l.all (Dm.ok N)=false:=by
 obtain⟨hk,he⟩:=yH.1 hl;rw [List.all_eq_false];exact⟨d,by rw [<-he];exact xR hk,by simp [hb]⟩
theorem jzhy{l:List Dm}{N:Int}(h:∀(j:Nat) (d:Dm),l[j]?=some d->d.ok N=true):l.all (Dm.ok N)=true:=by
 rw [xW];intro d hd;obtain⟨j,hj,rfl⟩:=List.mem_iff_getElem.1 hd;exact h j _ (yG hj)
theorem dValid_ok(N:Int)(A:Option Addr)(c:Nat)(l:List Dm)(w:World)(hd:DmR w l A c):
  Calls Tryz.prog 77 #[.int .i64 N,.slice A l.length c] w fun e w'=>e=.returned (.bool (dmsP N l))/\Ext w w':=by
 have HD:=Hx hd;have qh:=hd.len;have qf:=hd.cap;clear hd;cases k1:inB N 0 64
 ·have HR:=Hx (show dmsP N l=false by unfold dmsP;rw [k1];rfl)
  go_enter Tryz.func77,Tryz.ntmps77
  go_wp2_with (go_at_call 130;refine(jzbv _ _ _ _).mono ?_;rintro e w' ⟨rfl,rfl⟩)
  go_ret;rw [HR.out];exact⟨rfl,Ext.refl _⟩
 by_cases k2:l.length<=64
 case neg=>
  have qj:64<l.length:=(by omega);have HR:=Hx (show dmsP N l=false by unfold dmsP;rw [yP k2];simp)
  go_enter Tryz.func77,Tryz.ntmps77
  go_wp2_with (go_at_call 130;refine(jzbv _ _ _ _).mono ?_;rintro e w' ⟨rfl,rfl⟩)
  go_ret;rw [HR.out];exact⟨rfl,Ext.refl _⟩
 case pos=>
  have HR:=Hx (show dmsP N l=l.all (Dm.ok N) by unfold dmsP;rw [k1,yO k2];rfl);have hN:0<=N/\N<=64:=(by unfold inB at k1;simpa using k1);obtain⟨qi,qe⟩:=hN
  go_enter Tryz.func77,Tryz.ntmps77
  go_wp2_with (go_at_call 130;refine(jzbv _ _ _ _).mono ?_;rintro e w' ⟨rfl,rfl⟩)
  clear k1
  go_loopg [17] l.length (fun q it wx=>∃n:Nat,l.length-n=q/\n<=l.length/\it=.int .i64 (n:Int)/\Hid ((∀j d,j<n->l[j]?=some d->d.ok N=true)/\Ext w wx))
  case atStart=>exact⟨0,rfl,yZ _,rfl,Hx ⟨fun j d h=>by omega,Ext.refl _⟩⟩
  case round=>
   obtain⟨n,rfl,hn,rfl,I⟩:=hrel;by_cases qg:n<l.length
   ·obtain⟨d,hd⟩:∃d,l[n]?=some d:=⟨_,yG qg⟩
    have HL:=Hx hd;obtain⟨b,o,rfl,hb,c0,c1,c2,c3⟩:=(HD.out.keep I.out.2).at_ hd;have nN:(n:Int)<(l.length:Int):=(by omega);have n0:(0:Int)<=(n:Int):=(by omega);have X9:=Hx (I.out.2.alloc (.cells #[.int .i64 d.src,.int .i64 d.dst,.int .i64 d.amount,.int .i64 d.prio] 27));have qa:((d.src==d.dst)=true/\d.ok N=false)\/((d.src==d.dst)=false/\inB d.src 0 (N-1)=false/\d.ok N=false)\/((d.src==d.dst)=false/\inB d.src 0 (N-1)=true/\inB d.dst 0 (N-1)=false/\d.ok N=false)\/
      ((d.src==d.dst)=false/\inB d.src 0 (N-1)=true/\inB d.dst 0 (N-1)=true/\inB d.amount 1 1048576=false/\d.ok N=false)\/
      ((d.src==d.dst)=false/\inB d.src 0 (N-1)=true/\inB d.dst 0 (N-1)=true/\inB d.amount 1 1048576=true/\inB d.prio 0 7=d.ok N):=by
     unfold Dm.ok;cases d.src==d.dst <;> cases inB d.src 0 (N-1) <;> cases inB d.dst 0 (N-1) <;> cases inB d.amount 1 1048576 <;> simp
    clear hd;rcases qa with⟨d1,hf⟩|⟨d1,d2,hf⟩|⟨d1,d2,d3,hf⟩|⟨d1,d2,d3,d4,hf⟩|⟨d1,d2,d3,d4,d5⟩
    case inr.inr.inr.inr=>
     cases hg:inB d.prio 0 7
     ·have HF:=Hx (jz8 HL.out (d5.symm.trans hg))
      clear d5
      go_wp2_with (go_at_call 130;refine(jzbv _ _ _ _).mono ?_;rintro e w' ⟨rfl,rfl⟩)
      go_ret;rw [HR.out,HF.out];exact⟨rfl,X9.out⟩
     ·have OK:=Hx (d5.symm.trans hg)
      clear d5
      go_wp2_with (go_at_call 130;refine(jzbv _ _ _ _).mono ?_;rintro e w' ⟨rfl,rfl⟩)
      go_roundg (l.length-(n+1))
      case measure=>omega
      case rel=>exact⟨n+1,rfl,by omega,by go_num,Hx ⟨fun j d' hj hd'=>by
       by_cases e:j=n
       ·subst e;have:=HL.out;rw [this]at hd';injection hd' with hd';subst hd';exact OK.out
       ·exact I.out.1 j d' (by omega) hd',X9.out⟩⟩
    all_goals
     have HF:=Hx (jz8 HL.out hf);clear hf
     go_wp2_with (go_at_call 130;refine(jzbv _ _ _ _).mono ?_;rintro e w' ⟨rfl,rfl⟩)
     go_ret;rw [HR.out,HF.out];exact⟨rfl,X9.out⟩
   ·obtain rfl:n=l.length:=by omega
    have HF:=Hx (jzhy (l:=l) (N:=N) (fun j d hj=>I.out.1 j d (yH.1 hj).1 hj));go_wp2;go_ret;rw [HR.out,HF.out];exact⟨rfl,I.out.2⟩
theorem jzf5(t:Tp)(AO:Option Addr)(co:Nat)(AL:Option Addr)(cl:Nat)(l:List Dm)(A:Option Addr)(c:Nat)(w:World)(ht:TopR w t AO co AL cl)(hd:DmR w l A c):
  Calls Tryz.prog 38 #[.agg #[.int .i64 t.nodes,.slice AO t.over.length co,.slice AL t.links.length cl],.slice A l.length c] w fun e w'=>e=.returned (.bool (fitP t l))/\Ext w w':=by
 have HT:=Hx (And.intro ht hd);clear ht hd;obtain⟨qa,e0⟩:=boxes1 w #[.int .i64 t.nodes,.slice AO t.over.length co,.slice AL t.links.length cl] 25;have BA:=Hx (And.intro qa e0);obtain⟨⟨i0,i1,i2⟩,_⟩:=qa.three;clear qa e0
 go_enter Tryz.func38,Tryz.ntmps38
 go_wp2_with fail
 refine(jzb7 t AO co AL cl _ (HT.out.1.keep BA.out.2)).mono ?_;rintro e w1 ⟨rfl,qe⟩;have E1:=Hx (And.intro (BA.out.1.keep qe) (BA.out.2.tr qe));clear qe BA i0 i1 i2;obtain⟨⟨i0,i1,i2⟩,_⟩:=E1.out.1.three;cases hv:validP t
 ·have HR:=Hx (show fitP t l=false by unfold fitP;rw [hv];rfl)
  go_wp2_with fail
  go_ret;rw [HR.out];exact⟨rfl,E1.out.2⟩
 ·by_cases hl:0<l.length
  ·have HR:=Hx (show fitP t l=dmsP t.nodes l by unfold fitP;rw [hv,yO hl];rfl)
   have qg:decide ((0:Int)<(l.length:Int))=true:=yO (by omega)
   go_wp2_with fail
   refine(dValid_ok t.nodes A c l _ (HT.out.2.keep E1.out.2)).mono ?_;rintro e w2 ⟨rfl,qf⟩;have E2:=Hx (E1.out.2.tr qf);clear qf
   go_wp2_with fail
   go_ret;rw [HR.out];exact⟨rfl,E2.out⟩
  ·have HR:=Hx (show fitP t l=false by unfold fitP;rw [yP hl];simp)
   have qg:decide ((0:Int)<(l.length:Int))=false:=yP (by omega)
   go_wp2_with fail
   go_ret;rw [HR.out];exact⟨rfl,E1.out.2⟩
section
variable {w w7:World} {B:Nat} {L:TLoc} {T:Sx.Tb}
def setFre'(T:Sx.Tb)(l:List Nat):Sx.Tb:=⟨T.rows,T.bas,l,T.goal,T.cols⟩
theorem TabR.fre_push(h:TabR w B L T){g7 c7 num:Nat}(own7:w7.ownsRow B 3 1 (.slice (some ⟨g7,0,none⟩) (T.fre.length+1) c7) (T.fre.length+1) (ints T.fre++[.int .i64 (num:Int)]))(grow:w.grownBy w7 L.vf.ownBlock)(new7:some g7=L.vf.ownBlock\/w.heap.size<=g7):
  TabR (w7.setCell ⟨L.p,2,none⟩ (.slice (some ⟨g7,0,none⟩) (T.fre.length+1) c7)) B (L.setF (.slice (some ⟨g7,0,none⟩) (T.fre.length+1) c7)) (setFre' T (T.fre++[num]))/\
   FrS L.S w (w7.setCell ⟨L.p,2,none⟩ (.slice (some ⟨g7,0,none⟩) (T.fre.length+1) c7)):=by
 have k7:FrS (fun b=>L.vf.ownBlock=some b) w w7:=FrS.of_grown grow fun g e=>e;have n7:NoT (fun b=>L.vf.ownBlock=some b) w 167:=fun b hb=>jz3 h.fre hb (by decide);have qe:∀{b:Nat} {t:TypeId} {cs:Array Value},Blk w b t cs->3≠t->¬L.vf.ownBlock=some b:=fun hb ht e=>jz3 h.fre e ht _ _ hb;obtain⟨gs,h1,h2⟩:=h.box;have qg:=k7.blk h2 (qe h2 (by decide));have k8:FrS (fun b=>b=L.p) w7 (w7.setCell ⟨L.p,2,none⟩ (.slice (some ⟨g7,0,none⟩) (T.fre.length+1) c7)):=FrS.of_grown (jze w7 L.p 2 _) fun g e=>(by injection e with e;exact e.symm);have n8:NoT (fun b=>b=L.p) w7 167:=NoT.one qg (by decide);have qa:∀{b:Nat} {t:TypeId} {cs:Array Value},Blk w7 b t cs->t≠155->¬b=L.p:=fun hb ht e=>(by rw [e]at hb;exact ht (jzq hb qg).2);have qh:∀{t:TypeId} {v:Value} {n s:Nat} {xs:List Value},w.ownsRow B t s v n xs->3≠t->t≠155->(w7.setCell ⟨L.p,2,none⟩ (.slice (some ⟨g7,0,none⟩) (T.fre.length+1) c7)).ownsRow B t s v n xs:=fun ho ht ht2=>by
  have qf:=k7.own ho fun b hb=>by
   obtain⟨c,hc⟩:=jzl ho hb;exact qe hc ht
  exact k8.own qf fun b hb=>by
   obtain⟨c,hc⟩:=jzl qf hb;exact qa hc ht2
 have qj:∀{v:Value} {qs:List Rat},OQ QR 35 w B v qs->OQ QR 35 (w7.setCell ⟨L.p,2,none⟩ (.slice (some ⟨g7,0,none⟩) (T.fre.length+1) c7)) B v qs:=fun {v qs} ho=>by
  obtain⟨xs,hx⟩:=ho.own;have qf:=k7.oq n7 ho fun b hb=>by
   obtain⟨c,hc⟩:=jzl hx hb;exact qe hc (by decide)
  obtain⟨qp,qn⟩:=qf.own;exact k8.oq n8 qf fun b hb=>by
   obtain⟨c,hc⟩:=jzl qn hb;exact qa hc (by decide)
 obtain⟨n0,A0,m0,d0,qk,qo,qm,rfl,rr⟩:=h1;refine⟨⟨h.rl,h.lo,⟨_,⟨n0,A0,m0,d0,qk,qo,qm,rfl,k8.ratR n8 (k7.ratR n7 rr)⟩,qg.set_ 2 _⟩,?_,h.bl,?_,?_,?_,fun i hi=>qj (h.co i hi),qj h.go,h.sep⟩,(k7.mono (S':=L.S) fun b hb=>.inr (.inr (.inr (.inl hb)))).tr k8 fun b hb=>.inl (.inl hb)⟩
 ·obtain⟨css,h1,h3,h4,h5⟩:=h.rows
  refine⟨css,h1,h3,qh h4 (by decide) (by decide),fun i hi=>?_⟩;obtain⟨c,h6,h7⟩:=h5 i hi;exact⟨c,h6,k8.rwc n8 (k7.rwc n7 h7)⟩
 ·have qi:=k7.own h.bas fun b hb e=>by
   rcases h.bf with h9|h9
   ·rw [h9]at hb;cases hb
   ·exact h9 (hb.trans e.symm)
  exact k8.own qi fun b hb=>by
   obtain⟨c,hc⟩:=jzl qi hb;exact qa hc (by decide)
 ·show(w7.setCell _ _).ownsRow B 3 1 _ (T.fre++[num]).length (ints (T.fre++[num]))
  rw [jzbs,yQ];exact k8.own own7 fun b hb=>by
   obtain⟨c,hc⟩:=jzl own7 hb;exact qa hc (by decide)
 ·show L.vb.ownBlock=none\/L.vb.ownBlock≠some g7
  rcases new7 with e|e
  ·rw [e];exact h.bf
  ·refine .inr fun e2=>?_
   have:=(h.bas.lt g7 e2).2;omega
end
def TmR(w:World)(PT:Option Addr)(ts:List (Nat×Rat)):Prop:=
 ∃css:List (List Value),css.length=ts.length/\(∀cs∈css,cs.length=4)/\RdT w 137 PT css.flatten/\∀(i:Nat) (t:Nat×Rat),ts[i]?=some t->∃cs,css[i]?=some cs/\∃(neg:Bool) (A:Option Addr) (n c:Nat) (A':Option Addr) (n' c':Nat),cs=[.int .i64 (t.1:Int),.bool neg,.slice A n c,.slice A' n' c']/\RatR w neg A n c A' n' c' t.2
theorem TmR.keep{w w':World}{PT:Option Addr}{ts:List (Nat×Rat)}(h:TmR w PT ts)(hx:Ext w w'):TmR w' PT ts:=by
 obtain⟨css,h1,h2,h3,h4⟩:=h;refine⟨css,h1,h2,h3.keep hx,fun i t ht=>?_⟩;obtain⟨cs,k1,neg,A,n,c,A',n',c',k2,k3⟩:=h4 i t ht;exact⟨cs,k1,neg,A,n,c,A',n',c',k2,k3.keep hx⟩
theorem TmR.fr{S:Nat->Prop}{w w':World}{PT:Option Addr}{ts:List (Nat×Rat)}(h:TmR w PT ts)(k:FrS S w w')(n1:NoT S w 137)(n2:NoT S w 167):TmR w' PT ts:=by
 obtain⟨css,h1,h2,h3,h4⟩:=h;refine⟨css,h1,h2,k.rdT n1 h3,fun i t ht=>?_⟩;obtain⟨cs,k1,neg,A,n,c,A',n',c',k2,k3⟩:=h4 i t ht;exact⟨cs,k1,neg,A,n,c,A',n',c',k2,k.ratR n2 k3⟩
theorem TmR.at_{w:World}{PT:Option Addr}{ts:List (Nat×Rat)}(h:TmR w PT ts){i:Nat}{t:Nat×Rat}(ht:ts[i]?=some t):
  ∃(b o:Nat) (neg:Bool) (A:Option Addr) (n c:Nat) (A':Option Addr) (n' c':Nat),PT=some ⟨b,o,none⟩/\b<w.heap.size/\
   (w.cell? ⟨b,o+i*4,none⟩=some (.int .i64 (t.1:Int))/\w.cell? ⟨b,o+i*4+1,none⟩=some (.bool neg)/\w.cell? ⟨b,o+i*4+2,none⟩=some (.slice A n c)/\w.cell? ⟨b,o+i*4+3,none⟩=some (.slice A' n' c'))/\RatR w neg A n c A' n' c' t.2:=by
 obtain⟨css,h1,h2,h3,h4⟩:=h;obtain⟨cs,k1,neg,A,n,c,A',n',c',rfl,k3⟩:=h4 i t ht;have hi:=(yH.1 ht).1;have qa:=jzs css h2;obtain⟨b,o,e,qf,hc⟩:=h3.rd (by intro e;rw [e]at qa;simp at qa;omega);have qe:∀k,k<4->w.cell? ⟨b,o+i*4+k,none⟩=([.int .i64 (t.1:Int),.bool neg,.slice A n c,.slice A' n' c']:List Value)[k]?:=fun k hk=>by
  rw [Nat.add_assoc,hc (i*4+k) (by rw [qa];omega),jzu css h2 i k (by omega) hk,k1];rfl
 exact⟨b,o,neg,A,n,c,A',n',c',e,qf,⟨qe 0 (by omega),qe 1 (by omega),qe 2 (by omega),qe 3 (by omega)⟩,k3⟩
theorem jzab{w:World}{B n s:Nat}{e:TypeId}{v:Value}{xs:List Value}(h:w.ownsRow B e s v n xs):∃A c,v=.slice A n c/\n<=c:=by
 rcases h.2 with⟨h3,h4⟩|⟨g',cap,cur,h3,h4,h5,h6,_⟩
 ·exact⟨none,0,by rw [h3,h4],by omega⟩
 ·exact⟨_,cap,h3,h6⟩
theorem QB.fr{S:Nat->Prop}{w w':World}{g:Nat}{qs:List Rat}(h:QB w g qs)(k:FrS S w w')(hn:NoT S w 167)(hg:¬S g):QB w' g qs:=by
 obtain⟨css,h1,h2,h3,h4⟩:=h;refine⟨css,h1,h2,k.blk h3 hg,fun i q hq=>?_⟩;obtain⟨cs,k1,k2⟩:=h4 i q hq;exact⟨cs,k1,k.qr hn k2⟩
theorem jzi3(m:Nat)(ts:List (Nat×Rat)){n:Nat}{t:Nat×Rat}(h:ts[n]?=some t):valsOf m (ts.take (n+1))=(valsOf m (ts.take n)).set t.1 t.2:=by
 unfold valsOf;rw [List.take_add_one,h];show(ts.take n++[t]).foldl _ _=_;rw [List.foldl_append];rfl
theorem jze6(T:Sx.Tb)(vals:List Rat)(n:Nat):Sx.slk T vals (n+1)=if Sx.atN T.fre n<vals.length/\Sx.at_ vals (Sx.atN T.fre n)≠0 then Sx.slk T vals n++[n]else Sx.slk T vals n:=rfl
theorem jzgu(T:Sx.Tb)(vals:List Rat):∀(n:Nat),∀j∈Sx.slk T vals n,j<n/\Sx.atN T.fre j<vals.length
 |0,_,h=>by cases h
 |n+1,j,h=>by
  rw [jze6]at h;by_cases hc:Sx.atN T.fre n<vals.length/\Sx.at_ vals (Sx.atN T.fre n)≠0
  ·rw [if_pos hc]at h
   rcases xY.1 h with h|h
   ·have:=jzgu T vals n j h
    exact⟨by omega,this.2⟩
   ·rw [xD.1 h]
    exact⟨by omega,hc.1⟩
  ·rw [if_neg hc]at h
   have:=jzgu T vals n j h;exact⟨by omega,this.2⟩
theorem slk_len(T:Sx.Tb)(vals:List Rat):∀(n:Nat),(Sx.slk T vals n).length<=n
 |0=>yX _
 |n+1=>by
  rw [jze6];have:=slk_len T vals n
  split
  ·rw [yQ];simp;omega
  ·omega
structure AddI(w wx:World)(B:Nat)(L:TLoc)(Tc:Sx.Tb)(gt gl:Nat)(nc:Bool)(AC:Option Addr)(lc cc:Nat)(AC':Option Addr)(lc' cc':Nat)(vs:List Rat):Prop where
 tab:TabR wx B L Tc
 fr:FrS L.S w wx
 bt:Blk wx gt 96 #[.pointer (some ⟨L.p,0,none⟩)]
 bc:Blk wx (gt+1) 35 #[.bool nc,.slice AC lc cc,.slice AC' lc' cc']
 bv:Blk wx (gl+1) 37 #[.slice (some ⟨gl,0,none⟩) L.m L.m]
 qb:QB wx gl vs
section
variable {w wx wy:World} {B:Nat} {L:TLoc} {Tc:Sx.Tb} {gt gl:Nat} {nc:Bool} {AC:Option Addr} {lc cc:Nat} {AC':Option Addr} {lc' cc':Nat} {vs:List Rat}
theorem AddI.keep(h:AddI w wx B L Tc gt gl nc AC lc cc AC' lc' cc' vs)(hx:Ext wx wy):AddI w wy B L Tc gt gl nc AC lc cc AC' lc' cc' vs:=
 ⟨h.tab.keep hx,h.fr.tr (FrS.of_ext (S:=L.S) hx) fun b hb=>.inl hb,h.bt.keep hx,h.bc.keep hx,h.bv.keep hx,h.qb.keep hx⟩
theorem AddI.put(h:AddI w wx B L Tc gt gl nc AC lc cc AC' lc' cc' vs)(h1:w.heap.size<=gl)(h2:gt+1<gl)(h0:¬L.S gl){x:Nat}(hx:x<vs.length){neg:Bool}{A:Option Addr}{n c:Nat}{A':Option Addr}{n' c':Nat}{q:Rat}(hq:RatR wx neg A n c A' n' c' q):
  AddI w (((wx.setCell ⟨gl,x*3,none⟩ (.bool neg)).setCell ⟨gl,x*3+1,none⟩ (.slice A n c)).setCell ⟨gl,x*3+2,none⟩ (.slice A' n' c')) B L Tc gt gl nc AC lc cc AC' lc' cc' (vs.set x q):=by
 have k:FrS (fun b=>b=gl) wx (((wx.setCell ⟨gl,x*3,none⟩ (.bool neg)).setCell ⟨gl,x*3+1,none⟩ (.slice A n c)).setCell ⟨gl,x*3+2,none⟩ (.slice A' n' c')):=FrS.of_grown (grown3 wx gl (x*3) _ _ _) fun g e=>(by injection e with e;exact e.symm);obtain⟨cs,hb⟩:=h.qb.blk;have qa:NoT (fun b=>b=gl) wx 167:=NoT.one hb (by decide);exact⟨h.tab.far k qa fun b hb hs=>h0 (hb▸hs),(h.fr.tr k fun b hb=>.inr (by rw [hb];exact h1)),k.blk h.bt (by omega),k.blk h.bc (by omega),k.blk h.bv (by omega),h.qb.put hx hq⟩
theorem AddI.far{S:Nat->Prop}(h:AddI w wx B L Tc gt gl nc AC lc cc AC' lc' cc' vs)(k:FrS S wx wy)(n32:NoT S wx 167)(hs:∀b,S b->w.heap.size<=b/\¬L.S b/\b≠gt/\b≠gt+1/\b≠gl/\b≠gl+1):AddI w wy B L Tc gt gl nc AC lc cc AC' lc' cc' vs:=
 ⟨h.tab.far k n32 fun b hb=>(hs b hb).2.1,h.fr.tr k fun b hb=>.inr (hs b hb).1,k.blk h.bt fun hb=>(hs _ hb).2.2.1 rfl,k.blk h.bc fun hb=>(hs _ hb).2.2.2.1 rfl,k.blk h.bv fun hb=>(hs _ hb).2.2.2.2.2 rfl,h.qb.fr k n32 fun hb=>(hs _ hb).2.2.2.2.1 rfl⟩
end
structure AddB(wx:World)(B0:Nat)(L:TLoc)(gt gl gs:Nat)(vs:List Rat)(vS:Value)(js:List Nat):Prop where
 bt:Blk wx gt 96 #[.pointer (some ⟨L.p,0,none⟩)]
 bv:Blk wx (gl+1) 37 #[.slice (some ⟨gl,0,none⟩) L.m L.m]
 qb:QB wx gl vs
 sb:Blk wx gs 44 #[vS]
 sr:wx.ownsRow B0 3 1 vS js.length (ints js)
theorem AddB.fr{S:Nat->Prop}{wx wy:World}{B0:Nat}{L:TLoc}{gt gl gs:Nat}{vs:List Rat}{vS:Value}{js:List Nat}(h:AddB wx B0 L gt gl gs vs vS js)(k:FrS S wx wy)(n32:NoT S wx 167)(hs:∀b,S b->b≠gt/\b≠gl/\b≠gl+1/\b≠gs/\vS.ownBlock≠some b):AddB wy B0 L gt gl gs vs vS js:=
 ⟨k.blk h.bt fun hb=>(hs _ hb).1 rfl,k.blk h.bv fun hb=>(hs _ hb).2.2.1 rfl,h.qb.fr k n32 fun hb=>(hs _ hb).2.1 rfl,k.blk h.sb fun hb=>(hs _ hb).2.2.2.1 rfl,k.own h.sr fun b hb hS=>(hs _ hS).2.2.2.2 hb⟩
structure RowsI(W6 wx:World)(B:Nat)(L Ln:TLoc)(T':Sx.Tb):Prop where
 tab:TabR wx B Ln T'
 loc:Ln.p=L.p/\Ln.vr=L.vr/\Ln.vb=L.vb/\Ln.vf=L.vf/\Ln.m=L.m
 far:∀b,Ln.S b->L.S b\/W6.heap.size<=b
 fr:FrS L.S W6 wx
theorem RowsI.keep{W6 wx wy:World}{B:Nat}{L Ln:TLoc}{T':Sx.Tb}(h:RowsI W6 wx B L Ln T')(hx:Ext wx wy):RowsI W6 wy B L Ln T':=⟨h.tab.keep hx,h.loc,h.far,h.fr.tr (FrS.of_ext (S:=L.S) hx) fun b hb=>.inl hb⟩
theorem jzlh{W6 wx:World}{L Ln:TLoc}{k g' n c':Nat}(far:∀b,Ln.S b->L.S b\/W6.heap.size<=b)(hk:k<=Ln.m)(hw:W6.heap.size<=wx.heap.size)(hg:some g'=(Ln.V k).ownBlock\/wx.heap.size<=g'):∀b,(Ln.setV k (.slice (some ⟨g',0,none⟩) n c')).S b->L.S b\/W6.heap.size<=b:=by
 intro b hb;rcases hb with rfl|hb|hb|hb|⟨i,hi,hb⟩
 ·exact far _ (.inl rfl)
 ·exact far _ (.inr (.inl hb))
 ·exact far _ (.inr (.inr (.inl hb)))
 ·exact far _ (.inr (.inr (.inr (.inl hb))))
 ·by_cases e:i=k
  ·subst e
   rw [Ln.setV_same]at hb;injection hb with hb
   have hb:g'=b:=hb;subst hb;rcases hg with h1|h1
   ·exact far _ (.inr (.inr (.inr (.inr ⟨i,hk,h1.symm⟩))))
   ·exact .inr (yY hw h1)
  ·rw [Ln.setV_ne _ e]at hb
   exact far _ (.inr (.inr (.inr (.inr ⟨i,hi,hb⟩))))
theorem own_rdS{w:World}{B n c:Nat}{e:TypeId}{A:Option Addr}{xs:List Value}(h:w.ownsRow B e 1 (.slice A n c) n xs):RdT w e A xs:=by
 obtain⟨A',c',e1,_,h2⟩:=jziu h;injection e1 with e1
 rw [e1];exact h2
section
variable {W6 wx:World} {B B0 P gt gl gs:Nat} {L Ln:TLoc} {T T':Sx.Tb} {vals:List Rat} {vS:Value} {js:List Nat}
theorem jzli(h:TabR wx B Ln T')(hf:T'.fre=T.fre)(hp:Ln.p=L.p)(hjs:∀j∈js,j<T.fre.length):∀j∈js,∃gf K cf,wx.cell? ⟨L.p,2,none⟩=some (.slice (some ⟨gf,0,none⟩) K cf)/\j<K/\wx.cell? ⟨gf,j,none⟩=some (.int .i64 (Sx.atN T.fre j:Nat)):=fun j hj=>by
 have qf:=hjs j hj;obtain⟨gf,cf,qe,_⟩:=h.vf_form (by rw [hf];omega);obtain⟨cp,qg,_,p0,p1,p2,p7⟩:=h.goa;have qa:=h.fre;rw [qe,hf]at qa;rw [qe,hf]at p2;exact⟨gf,T.fre.length,cf,by rw [<-hp];exact(qg.cell 2).trans p2,qf,jzbm qa qf⟩
theorem rows_fr(h:RowsI W6 wx B L Ln T'){k g:Nat}{t:TypeId}{cs:Array Value}(hk:k<=Ln.m)(hb:Blk wx g t cs)(ht:t≠167)(hg:L.S g)(hfar:∀b,L.S b->b≠gt/\b≠gl/\b≠gl+1/\b≠gs/\vS.ownBlock≠some b)(hlt:∀b,W6.heap.size<=b->b≠gt/\b≠gl/\b≠gl+1/\b≠gs/\vS.ownBlock≠some b):
  NoT (fun x=>x=g\/(Ln.V k).ownBlock=some x) wx 167/\(∀b,(b=g\/(Ln.V k).ownBlock=some b)->L.S b\/W6.heap.size<=b)/\∀b,(b=g\/(Ln.V k).ownBlock=some b)->b≠gt/\b≠gl/\b≠gl+1/\b≠gs/\vS.ownBlock≠some b:=by
 have h2:∀b,(b=g\/(Ln.V k).ownBlock=some b)->L.S b\/W6.heap.size<=b:=fun b hb=>by
  rcases hb with rfl|hb
  ·exact .inl hg
  ·exact h.far b (.inr (.inr (.inr (.inr ⟨k,hk,hb⟩))))
 refine⟨fun b hbb c fr e=>?_,h2,fun b hbb=>?_⟩
 ·rcases hbb with rfl|hbb
  ·exact NoT.one hb ht b rfl c fr e
  ·obtain⟨qs,h3⟩:=h.tab.oq hk
   obtain⟨xs,h4⟩:=h3.own;exact jz3 h4 hbb (by decide) c fr e
 ·rcases h2 b hbb with h3|h3
  ·exact hfar b h3
  ·exact hlt b h3
theorem addRow_ok(n g cr:Nat)(h:RowsI W6 wx B L Ln (addTo T vals n))(hb:AddB wx B0 L gt gl gs vals vS js)(hjs:js=Sx.slk T vals T.fre.length)(hrl:T.rows.length=L.m)(hB:B<=wx.heap.size)
  (hfar:∀b,L.S b->b≠gt/\b≠gl/\b≠gl+1/\b≠gs/\vS.ownBlock≠some b) (hlt:∀b,W6.heap.size<=b->b≠gt/\b≠gl/\b≠gl+1/\b≠gs/\vS.ownBlock≠some b)
  (hn:n<L.m) (hvr:L.vr=.slice (some ⟨g,0,none⟩) L.m cr) (hok:OkT T) (hsz:SzT T P) (hP1:1<=P) (hP:P<=10000) (hm:L.m<=1000) (hK:T.fre.length<=100000000000) (hvl:vals.length=L.m) (hvz:∀q∈vals,SzQ q P) (hjl:js.length<=1000):
  Calls Tryz.prog 131 #[.pointer (some ⟨g,n*4,none⟩),.int .i64 (Sx.atN T.bas n:Nat),.pointer (some ⟨gl+1,0,none⟩),.pointer (some ⟨gs,0,none⟩),.pointer (some ⟨gt,0,none⟩)] wx
   fun e w'=>e=.returned (.tuple #[])/\∃L2,RowsI W6 w' B L L2 (addTo T vals (n+1))/\AddB w' B0 L gt gl gs vals vS js:=by
 obtain⟨e1,e2,e3,e4,e5⟩:=h.loc;have qh:n<T.rows.length:=(by omega);have qe:(addTo T vals n).row n=T.row n:=(by rw [addTo_row _ _ _ qh,if_neg (by omega)]);have qf:Ln.vr=.slice (some ⟨g,0,none⟩) Ln.m cr:=(by rw [e2,e5];exact hvr);have qa:n<Ln.m:=(by omega);obtain⟨cb,qi,nr,R1,m1,d1,qx,qt,qw,r0,r1,r2,r3,qz⟩:=h.tab.rwa qa qf;have hX:=h.tab.co n qa;rw [qe]at hX;obtain⟨SA,qn,qo,qy⟩:=jzab hb.sr;have qk:=hb.sb;have qm:=hb.sr;rw [qo]at qk qm;have qj:∀j∈js,j<T.fre.length/\Sx.atN T.fre j<L.m:=fun j hj=>by
  rw [hjs]at hj;have:=jzgu T vals _ j hj;rw [hvl]at this;exact this
 have qp:=hok.cl n qh;have qg:(∃i:Nat,((Sx.atN T.bas n:Nat):Int)=(i:Int)/\i<L.m/\(if Sx.atN T.bas n<vals.length then Sx.at_ vals (Sx.atN T.bas n)else 0)=Sx.at_ vals i)\/(¬(0<=((Sx.atN T.bas n:Nat):Int)/\((Sx.atN T.bas n:Nat):Int)<(L.m:Int))/\(if Sx.atN T.bas n<vals.length then Sx.at_ vals (Sx.atN T.bas n)else 0)=0):=by
  by_cases e:Sx.atN T.bas n<vals.length
  ·exact .inl ⟨_,rfl,by omega,if_pos e⟩
  ·exact .inr ⟨by omega,if_neg e⟩
 refine(add1_ok T wx B g (n*4) L.p (gl+1) gl gs gt P L.m qn SA 153 cb (Ln.V n) (T.row n).co vals js _ _ hB qi r0 hX (by decide) (by decide) hb.bv hb.qb hvl qk (own_rdS qm).rd hb.bt
  (jzli h.tab rfl e1 fun j hj=>(qj j hj).1) (fun j hj=>⟨by rw [qp];exact(qj j hj).1,(qj j hj).2⟩) qg (by omega) (hsz.co n qh) hvz hP hP1 hjl (by omega)).mono ?_
 rintro e w' ⟨g',c',rfl,o9,b9,f9,n9⟩;have ht:=h.tab.row_push qa qf qi b9 o9 f9 n9;have hS:L.S g:=.inr (.inl (by rw [hvr];rfl));obtain⟨k1,k2,k3⟩:=rows_fr (gt:=gt) (gl:=gl) (gs:=gs) (vS:=vS) h (Nat.le_of_lt qa) qi (by decide) hS hfar hlt;refine⟨rfl,Ln.setV n (.slice (some ⟨g',0,none⟩) ((T.row n).co.length+1) c'),⟨?_,⟨e1,e2,e3,e4,e5⟩,jzlh h.far (Nat.le_of_lt qa) h.fr.size n9,h.fr.tr f9 k2⟩,hb.fr f9 k1 k3⟩;rw [qe]at ht;rw [jzkv T vals qh];unfold Sx.addR;rw [<-hjs];exact ht
theorem jzlj(h:RowsI W6 wx B L Ln (addTo T vals L.m))(hb:AddB wx B0 L gt gl gs vals vS js)(hjs:js=Sx.slk T vals T.fre.length)(hrl:T.rows.length=L.m)(hB:B<=wx.heap.size)
  (hfar:∀b,L.S b->b≠gt/\b≠gl/\b≠gl+1/\b≠gs/\vS.ownBlock≠some b) (hlt:∀b,W6.heap.size<=b->b≠gt/\b≠gl/\b≠gl+1/\b≠gs/\vS.ownBlock≠some b)
  (hok:OkT T) (hsz:SzT T P) (hP1:1<=P) (hP:P<=10000) (hm:L.m<=1000) (hK:T.fre.length<=100000000000) (hvl:vals.length=L.m) (hvz:∀q∈vals,SzQ q P) (hjl:js.length<=1000):
  Calls Tryz.prog 131 #[.pointer (some ⟨L.p,3,none⟩),.int .i64 (-1),.pointer (some ⟨gl+1,0,none⟩),.pointer (some ⟨gs,0,none⟩),.pointer (some ⟨gt,0,none⟩)] wx
   fun e w'=>e=.returned (.tuple #[])/\∃(L2:TLoc) (g' c':Nat),L2.V L.m=.slice (some ⟨g',0,none⟩) (T.fre.length+1) c'/\RowsI W6 w' B L L2 (setGoal (addTo T vals L.m) ⟨T.goal.co++[Sx.addC T vals T.goal.co 0 js],T.goal.re⟩)/\AddB w' B0 L gt gl gs vals vS js:=by
 obtain⟨e1,e2,e3,e4,e5⟩:=h.loc;obtain⟨cb,qg,⟨nr,R1,m1,d1,qp,qn,qo,r0,r1,r2,r3,qw⟩,p0,p1,p2,p7⟩:=h.tab.goa;have hX:OQ QR 35 wx B (Ln.V Ln.m) T.goal.co:=h.tab.go;obtain⟨SA,qk,qm,qt⟩:=jzab hb.sr;have qf:=hb.sb;have qj:=hb.sr;rw [qm]at qf qj;have qe:∀j∈js,j<T.fre.length/\Sx.atN T.fre j<L.m:=fun j hj=>by
  rw [hjs]at hj;have:=jzgu T vals _ j hj;rw [hvl]at this;exact this
 have qh:=hok.gl;have qa:=qg;rw [e1]at qa;refine(add1_ok T wx B L.p 3 L.p (gl+1) gl gs gt P L.m qk SA 155 cb (Ln.V Ln.m) T.goal.co vals js (-1) 0 hB qa r0 hX (by decide) (by decide) hb.bv hb.qb hvl qf (own_rdS qj).rd hb.bt
  (jzli h.tab rfl e1 fun j hj=>(qe j hj).1) (fun j hj=>⟨by rw [qh];exact(qe j hj).1,(qe j hj).2⟩) (.inr ⟨by omega,rfl⟩) (by omega) hsz.go hvz hP hP1 hjl (by omega)).mono ?_
 rintro e w' ⟨g',c',rfl,o9,b9,f9,n9⟩;obtain⟨k1,k2,k3⟩:=rows_fr (gt:=gt) (gl:=gl) (gs:=gs) (vS:=vS) h (yX _) qa (by decide) (.inl rfl) hfar hlt;rw [<-e1]at b9;have qi:=f9;rw [<-e1]at qi;have ht:=h.tab.goal_push qg b9 o9 qi n9;refine⟨rfl,Ln.setV Ln.m (.slice (some ⟨g',0,none⟩) (T.goal.co.length+1) c'),g',c',?_,⟨ht,⟨e1,e2,e3,e4,e5⟩,jzlh h.far (yX _) h.fr.size n9,h.fr.tr f9 k2⟩,hb.fr f9 k1 k3⟩;rw [<-e5,Ln.setV_same,qh]
end
theorem TabR.go_set{w:World}{B:Nat}{L:TLoc}{T:Sx.Tb}(h:TabR w B L T){gv K cv n:Nat}{q:Rat}{neg:Bool}{A:Option Addr}{n1 c1:Nat}{A':Option Addr}{n1' c1':Nat}(hV:L.V L.m=.slice (some ⟨gv,0,none⟩) K cv)(hK:T.goal.co.length=K)(hn:n<K)(hq:RatR w neg A n1 c1 A' n1' c1' q):
  TabR (((w.setCell ⟨gv,n*3,none⟩ (.bool neg)).setCell ⟨gv,n*3+1,none⟩ (.slice A n1 c1)).setCell ⟨gv,n*3+2,none⟩ (.slice A' n1' c1')) B L (setGoal T ⟨T.goal.co.set n q,T.goal.re⟩)/\
  FrS L.S w (((w.setCell ⟨gv,n*3,none⟩ (.bool neg)).setCell ⟨gv,n*3+1,none⟩ (.slice A n1 c1)).setCell ⟨gv,n*3+2,none⟩ (.slice A' n1' c1')):=by
 obtain⟨cs,hb,hr,_⟩:=h.goa;have qg:=grown3 w gv (n*3) (.bool neg) (.slice A n1 c1) (.slice A' n1' c1');obtain⟨xs,ho⟩:=h.go.own;obtain⟨cr,qe⟩:=jzl ho (show(L.V L.m).ownBlock=some gv by rw [hV];rfl);have qm:L.p≠gv:=fun e=>by
  rw [<-e]at qe;have:=(jzq hb qe).2;exact absurd this (by decide)
 have hF:FrS (fun b=>b=gv) w (((w.setCell ⟨gv,n*3,none⟩ (.bool neg)).setCell ⟨gv,n*3+1,none⟩ (.slice A n1 c1)).setCell ⟨gv,n*3+2,none⟩ (.slice A' n1' c1')):=FrS.of_grown qg fun b e=>(by injection e with e;exact e.symm);have qi:NoT (fun b=>b=gv) w 167:=NoT.one qe (by decide);obtain⟨rn,RA,qk,qh,qj,qf,qa,r0,r1,r2,r3,rr⟩:=hr;refine⟨h.goal_upd hV hb (hF.blk hb qm) (SameBut.refl _ _) ⟨rn,RA,qk,qh,qj,qf,qa,r0,r1,r2,r3,hF.ratR qi rr⟩ ?_ (hF.mono fun b hb=>.inr hb),hF.mono fun b hb=>.inr (.inr (.inr (.inr ⟨L.m,yX _,by rw [hV,hb];rfl⟩)))⟩;rw [hV];have:=h.go;rw [hV]at this;exact this.put hK (by rw [hK];exact hn) hq
theorem addT_eq{T:Sx.Tb}{vals:List Rat}{m:Nat}(hrl:T.rows.length=m)(cost:Rat):setFre' (setGoal (addTo T vals m) ⟨T.goal.co++[Sx.addC T vals T.goal.co 0 (Sx.slk T vals T.fre.length)-cost],T.goal.re⟩) (T.fre++[m+T.cols])=Sx.addT T cost vals:=by
 subst hrl;unfold setFre' setGoal Sx.addT;rw [addTo_all];rfl
theorem setF_far{W6 wx:World}{L Ln:TLoc}{g' n c':Nat}(far:∀b,Ln.S b->L.S b\/W6.heap.size<=b)(hw:W6.heap.size<=wx.heap.size)(hg:some g'=Ln.vf.ownBlock\/wx.heap.size<=g'):∀b,(Ln.setF (.slice (some ⟨g',0,none⟩) n c')).S b->L.S b\/W6.heap.size<=b:=by
 intro b hb;rcases hb with rfl|hb|hb|hb|⟨i,hi,hb⟩
 ·exact far _ (.inl rfl)
 ·exact far _ (.inr (.inl hb))
 ·exact far _ (.inr (.inr (.inl hb)))
 ·injection hb with hb
  have hb:g'=b:=hb;subst hb;rcases hg with h1|h1
  ·exact far _ (.inr (.inr (.inr (.inl h1.symm))))
  ·exact .inr (yY hw h1)
 ·exact far _ (.inr (.inr (.inr (.inr ⟨i,hi,hb⟩))))
theorem mkQ_int(x:Int):mkQ (decide (x<0)) x.natAbs 1=(x:Rat):=by
 unfold mkQ;have e:(if decide (x<0)=true then-((x.natAbs:Nat):Int)else((x.natAbs:Nat):Int))=x:=by
  by_cases h:x<0
  ·rw [if_pos (yO h)];omega
  ·rw [if_neg (by simpa using h)];omega
 rw [e,Rat.mkRat_one]
theorem jzar(x:Int)(w:World)(h:i64 x):Calls Tryz.prog 22 #[.int .i64 x] w (RatPost w (x:Rat)):=by
 have:=jzb6 x w h.1 h.2;rw [mkQ_int]at this;exact this
def OwL{α:Type}(R:World->List Value->α->Prop)(e:TypeId)(s:Nat)(w:World)(B:Nat)(v:Value)(l:List α):Prop:=
 ∃css:List (List Value),css.length=l.length/\(∀cs∈css,cs.length=s)/\w.ownsRow B e s v l.length css.flatten/\∀(i:Nat) (x:α),l[i]?=some x->∃cs,css[i]?=some cs/\R w cs x
section
variable {α:Type} {R R':World->List Value->α->Prop} {e:TypeId} {s:Nat} {w w':World} {B:Nat} {v:Value} {l:List α}
theorem OwL.nil(R:World->List Value->α->Prop)(e:TypeId)(s:Nat)(w:World)(B:Nat):OwL R e s w B (.slice none 0 0) []:=
 ⟨[],rfl,(fun _ h=>by cases h),World.ownsRow_nil _ _ _ _,fun i x h=>by simp at h⟩
theorem OwL.own(h:OwL R e s w B v l):∃xs,w.ownsRow B e s v l.length xs:=by
 obtain⟨css,_,_,h3,_⟩:=h;exact⟨_,h3⟩
theorem OwL.form(h:OwL R e s w B v l):∃A c,v=.slice A l.length c/\l.length<=c:=by
 obtain⟨xs,h⟩:=h.own;exact jzab h
theorem OwL.fr{S:Nat->Prop}(h:OwL R e s w B v l)(k:FrS S w w')(hv:∀g,v.ownBlock=some g->¬S g)(hR:∀cs x,x∈l->R w cs x->R' w' cs x):OwL R' e s w' B v l:=by
 obtain⟨css,h1,h2,h3,h4⟩:=h;refine⟨css,h1,h2,k.own h3 hv,fun i x hx=>?_⟩;obtain⟨cs,k1,k2⟩:=h4 i x hx;exact⟨cs,k1,hR cs x (yJ hx) k2⟩
theorem OwL.keep(h:OwL R e s w B v l)(hx:Ext w w')(hR:∀cs x,R w cs x->R w' cs x):OwL R e s w' B v l:=h.fr (S:=fun _=>False) (FrS.of_ext hx) (fun _ _ h=>h) fun cs x _=>hR cs x
theorem OwL.at_(h:OwL R e s w B v l){i:Nat}{x:α}(hi:l[i]?=some x):∃(g cap:Nat) (cs:List Value),v=.slice (some ⟨g,0,none⟩) l.length cap/\g<w.heap.size/\cs.length=s/\(∀k,k<s->w.cell? ⟨g,i*s+k,none⟩=cs[k]?)/\R w cs x:=by
 have qf:=(yH.1 hi).1;obtain⟨css,h1,h2,h3,h4⟩:=h;obtain⟨g,cap,qg,rfl,_,hb,_,_,_,qe⟩:=jz9 h3 (by omega);obtain⟨cs,k1,k2⟩:=h4 i x hi;refine⟨g,cap,cs,rfl,hb.lt,h2 cs (yJ k1),fun k hk=>?_,k2⟩;have h5:=jzu css h2 i k (by omega) hk;rw [k1,Option.getD_some]at h5;have qa:i*s+k<l.length*s:=by
  have:(i+1)*s<=l.length*s:=xS s qf;rw [xP,xQ]at this;omega
 rw [hb.cell, <-h5, <-qe,xG,if_pos qa];simp
theorem OwL.pushed{x:α}{v':Value}{css:List (List Value)}{us:List Value}(h1:css.length=l.length)(h2:∀cs∈css,cs.length=s)(h4:∀(i:Nat) (y:α),l[i]?=some y->∃cs,css[i]?=some cs/\R w cs y)(hus:us.length=s)(hR:∀cs y,y∈l->R w cs y->R w' cs y)(hx:R w' us x)(own':w'.ownsRow B e s v' (l.length+1) (css.flatten++us)):OwL R e s w' B v' (l++[x]):=by
 refine⟨css++[us],by simp [h1],fun cs hc=>?_,by rw [List.flatten_append,yQ];simpa using own',fun i y hi=>?_⟩
 ·rcases xY.1 hc with hc|hc
  ·exact h2 cs hc
  ·rw [xD.1 hc];exact hus
 ·by_cases e:i<l.length
  ·rw [yR e]at hi
   obtain⟨cs,k1,k2⟩:=h4 i y hi;exact⟨cs,by rw [yR (by omega)];exact k1,hR cs y (yJ hi) k2⟩
  ·have hl:=(yH.1 hi).1
   rw [yQ]at hl;have hl:i<l.length+1:=hl;have e2:i=l.length:=(by omega);subst e2;rw [yS (by omega),Nat.sub_self]at hi;injection hi with hi
   subst hi;exact⟨us,by rw [yS (by omega),h1,Nat.sub_self];rfl,hx⟩
theorem jzbb{n c:Nat}{A:Option Addr}{xs:List Value}(h:w.ownsRow B e s (.slice A n c) n xs):RdT w e A xs:=by
 obtain⟨h1,h2⟩:=h;rcases h2 with⟨h3,h4⟩|⟨g,cap,cur,h3,_,h5,h6,_,_,h9⟩
 ·subst h4
  rw [Nat.zero_mul]at h1;obtain rfl:xs=[]:=List.eq_nil_of_length_eq_zero h1;exact RdT.nil _ _ _
 ·injection h3 with e1 _ _
  subst e1;refine fun _=>⟨g,0,cur,(0,0),rfl,h5,fun i hi=>?_⟩;rw [Nat.zero_add, <-h9,xG,if_pos (by omega)];simp
end
def TmC(w:World)(cs:List Value)(t:Nat×Rat):Prop:=∃(neg:Bool) (A:Option Addr) (n c:Nat) (A':Option Addr) (n' c':Nat),cs=[.int .i64 (t.1:Int),.bool neg,.slice A n c,.slice A' n' c']/\RatR w neg A n c A' n' c' t.2
theorem TmC.keep{w w':World}{cs:List Value}{t:Nat×Rat}(h:TmC w cs t)(hx:Ext w w'):TmC w' cs t:=by
 obtain⟨neg,A,n,c,A',n',c',h1,h2⟩:=h;exact⟨neg,A,n,c,A',n',c',h1,h2.keep hx⟩
theorem TmC.fr{S:Nat->Prop}{w w':World}{cs:List Value}{t:Nat×Rat}(h:TmC w cs t)(k:FrS S w w')(n:NoT S w 167):TmC w' cs t:=by
 obtain⟨neg,A,n1,c,A',n',c',h1,h2⟩:=h;exact⟨neg,A,n1,c,A',n',c',h1,k.ratR n h2⟩
abbrev TmO(w:World)(B:Nat)(v:Value)(ts:List (Nat×Rat)):Prop:=OwL TmC 137 4 w B v ts
theorem TmO.rd{w:World}{B c:Nat}{A:Option Addr}{ts:List (Nat×Rat)}(h:TmO w B (.slice A ts.length c) ts):TmR w A ts:=by
 obtain⟨css,h1,h2,h3,h4⟩:=h;exact⟨css,h1,h2,jzbb h3,h4⟩
def PaC(S:Nat->Prop)(w:World)(cs:List Value)(p:Nat×List Nat):Prop:=∃(A:Option Addr) (c:Nat),cs=[.int .i64 (p.1:Int),.slice A p.2.length c,.bool false,.slice none 0 0,.slice none 0 0]/\p.2.length<=c/\RdT w 3 A (ints p.2)/\(p.2≠ []->∀ad,A=some ad->¬S ad.block)
theorem rdT_away{S:Nat->Prop}{w w':World}{t:TypeId}{A:Option Addr}{xs:List Value}(h:RdT w t A xs)(k:FrS S w w')(hA:xs≠ []->∀ad,A=some ad->¬S ad.block):RdT w' t A xs:=fun hx=>by
 obtain⟨b,o,cs,fr,e1,e2,e3⟩:=h hx;exact⟨b,o,cs,fr,e1,(k.block b (jza8 e2) (hA hx _ e1)).trans e2,e3⟩
theorem PaC.keep{S:Nat->Prop}{w w':World}{cs:List Value}{p:Nat×List Nat}(h:PaC S w cs p)(hx:Ext w w'):PaC S w' cs p:=by
 obtain⟨A,c,h1,h2,h3,h4⟩:=h;exact⟨A,c,h1,h2,h3.keep hx,h4⟩
theorem jze7:(Tryz.prog.info? 70).map (fun i=>(i.zero,i.size,i.bytes))=some (some (.agg #[.int .i64 0,.slice none 0 0,.bool false,.slice none 0 0,.slice none 0 0]),5,88):=by kernel_rfl
theorem jzhz:(Tryz.prog.info? 137).map (fun i=>(i.zero,i.size,i.bytes))=some (some (.agg #[.int .i64 0,.bool false,.slice none 0 0,.slice none 0 0]),4,64):=by kernel_rfl
structure FlR(w0 w:World)(x mb:Nat)(t:Tp)(AO:Option Addr)(co:Nat)(AL:Option Addr)(cl:Nat)(l:List Dm)(AD:Option Addr)(cd:Nat)(L:TLoc)(T:Sx.Tb)(vP:Value)(P Q:List (Nat×List Nat)):Prop where
 ext:Ext w0 w
 top:TopR w0 t AO co AL cl
 dem:DmR w0 l AD cd
 box:Blk w x 99 #[.int .i64 t.nodes,.slice AO t.over.length co,.slice AL t.links.length cl,.slice AD l.length cd,.pointer (some ⟨L.p,0,none⟩),vP,.map (some mb)]
 xlo:w0.heap.size<=x
 tab:TabR w w0.heap.size L T
 m:L.m=2*t.links.length+l.length
 pat:OwL (PaC L.S) 70 5 w w0.heap.size vP P
 map:MpS w mb Q.length (Q.map nameP)
 mlo:w0.heap.size<=mb
def FlB(x mb:Nat)(L:TLoc)(vP:Value)(b:Nat):Prop:=b=x\/b=mb\/L.S b\/vP.ownBlock=some b
section
variable {w0 w w':World} {x mb:Nat} {t:Tp} {AO:Option Addr} {co:Nat} {AL:Option Addr} {cl:Nat} {l:List Dm} {AD:Option Addr} {cd:Nat} {L:TLoc} {T:Sx.Tb} {vP:Value} {P Q:List (Nat×List Nat)}
theorem FlR.keep(h:FlR w0 w x mb t AO co AL cl l AD cd L T vP P Q)(hx:Ext w w'):FlR w0 w' x mb t AO co AL cl l AD cd L T vP P Q:=
 ⟨h.ext.tr hx,h.top,h.dem,h.box.keep hx,h.xlo,h.tab.keep hx,h.m,h.pat.keep hx fun cs x k=>k.keep hx,h.map.keep hx,h.mlo⟩
theorem FlR.lo(h:FlR w0 w x mb t AO co AL cl l AD cd L T vP P Q):(∀b,FlB x mb L vP b->w0.heap.size<=b/\b<w.heap.size)/\NoT (FlB x mb L vP) w 167:=by
 obtain⟨xs,qa⟩:=h.pat.own;refine⟨fun b hb=>?_,fun b hb cs fr e=>?_⟩
 ·rcases hb with rfl|rfl|hb|hb
  ·exact⟨h.xlo,h.box.lt⟩
  ·exact⟨h.mlo,h.map.lt⟩
  ·obtain⟨h1,h2,_⟩:=h.tab.ty hb
   exact⟨h1,h2⟩
  ·exact qa.lt b hb
 ·rcases hb with rfl|rfl|hb|hb
  ·exact NoT.one h.box (by decide) _ rfl cs fr e
  ·obtain⟨D,⟨es,qe,h1,_⟩,_⟩:=h.map
   rw [h1]at e;cases e
  ·exact h.tab.no32 b hb cs fr e
  ·exact jz3 qa hb (by decide) cs fr e
theorem FlR.sep(h:FlR w0 w x mb t AO co AL cl l AD cd L T vP P Q):¬L.S x/\¬L.S mb/\(∀b,vP.ownBlock=some b->¬L.S b/\b≠x/\b≠mb)/\x≠mb:=by
 obtain⟨xs,qa⟩:=h.pat.own;refine⟨fun hs=>?_,fun hs=>?_,fun b hb=>⟨fun hs=>?_,fun e=>?_,fun e=>?_⟩,fun e=>?_⟩
 ·exact h.tab.noT (t:=99) (by decide) (by decide) (by decide) (by decide) x hs _ _ h.box
 ·obtain⟨_,_,cs,t',k1,_⟩:=h.tab.ty hs
  exact h.map.not k1
 ·obtain⟨cs,k⟩:=jzl qa hb
  exact h.tab.noT (t:=70) (by decide) (by decide) (by decide) (by decide) b hs _ _ k
 ·subst e
  exact jz3 qa hb (by decide) _ _ h.box
 ·obtain⟨cs,k⟩:=jzl qa hb
  rw [e]at k;exact h.map.not k
 ·have:=h.box
  rw [e]at this;exact h.map.not this
theorem PaC.fr{S X:Nat->Prop}{w w':World}{cs:List Value}{p:Nat×List Nat}(h:PaC S w cs p)(k:FrS X w w')(hX:NoT X w 3):PaC S w' cs p:=by
 obtain⟨A,c,h1,h2,h3,h4⟩:=h;exact⟨A,c,h1,h2,k.rdT hX h3,h4⟩
theorem MpS.noT{b n:Nat}{ks:List (List UInt8)}(h:MpS w b n ks)(t:TypeId):NoT (fun x=>x=b) w t:=fun x hx cs fr e=>by
 subst hx;obtain⟨D,⟨es,qa,h1,_⟩,_⟩:=h;rw [h1]at e;cases e
theorem FlR.mapped(h:FlR w0 w x mb t AO co AL cl l AD cd L T vP P Q){p:Nat×List Nat}(hg:w.grownBy w' (some mb))(hm:MpS w' mb (Q.length+1) (nameP p::Q.map nameP)):FlR w0 w' x mb t AO co AL cl l AD cd L T vP P (Q++[p]):=by
 have k:FrS (fun b=>b=mb) w w':=FrS.of_grown hg fun g e=>(by injection e with e;exact e.symm);obtain⟨s1,s2,s3,s4⟩:=h.sep;exact⟨k.ext h.ext fun b hb=>by rw [hb];exact h.mlo,h.top,h.dem,k.blk h.box s4,h.xlo,h.tab.far k (h.map.noT _) fun b hb hs=>s2 (hb▸hs),h.m,h.pat.fr k (fun g hg e=>(s3 g hg).2.2 e) fun cs y _ hy=>hy.fr k (h.map.noT _),
  hm.congr (by simp) (fun j=>by simp [or_comm]),h.mlo⟩
theorem FlR.pushed(h:FlR w0 w x mb t AO co AL cl l AD cd L T vP P Q){p:Nat×List Nat}{css:List (List Value)}{us:List Value}{g7 c7:Nat}{w7:World}(h1:css.length=P.length)(h2:∀cs∈css,cs.length=5)(h4:∀(i:Nat) (y:Nat×List Nat),P[i]?=some y->∃cs,css[i]?=some cs/\PaC L.S w cs y)(hus:us.length=5)(hp:PaC L.S w us p)
  (own7:w7.ownsRow w0.heap.size 70 5 (.slice (some ⟨g7,0,none⟩) (P.length+1) c7) (P.length+1) (css.flatten++us)) (grow7:w.grownBy w7 vP.ownBlock):
  FlR w0 (w7.setCell ⟨x,5,none⟩ (.slice (some ⟨g7,0,none⟩) (P.length+1) c7)) x mb t AO co AL cl l AD cd L T (.slice (some ⟨g7,0,none⟩) (P.length+1) c7) (P++[p]) Q/\
   FrS (fun b=>b=x\/vP.ownBlock=some b) w (w7.setCell ⟨x,5,none⟩ (.slice (some ⟨g7,0,none⟩) (P.length+1) c7)):=by
 have k7:FrS (fun b=>vP.ownBlock=some b) w w7:=FrS.of_grown grow7 fun g e=>e;obtain⟨s1,s2,s3,s4⟩:=h.sep;obtain⟨xs,qa⟩:=h.pat.own;have B7:=k7.blk h.box fun e=>(s3 x e).2.1 rfl;have k8:FrS (fun b=>b=x) w7 (w7.setCell ⟨x,5,none⟩ (.slice (some ⟨g7,0,none⟩) (P.length+1) c7)):=FrS.of_grown (jze w7 x 5 _) fun g e=>(by injection e with e;exact e.symm);have n7:∀t,70≠t->NoT (fun b=>vP.ownBlock=some b) w t:=fun t ht b hb=>jz3 qa hb ht;have n8:∀t,99≠t->NoT (fun b=>b=x) w7 t:=fun t ht=>NoT.one B7 ht;have e7:Ext w0 w7:=k7.ext h.ext fun b hb=>(qa.lt b hb).1;have qe:OwL (PaC L.S) 70 5 w7 w0.heap.size (.slice (some ⟨g7,0,none⟩) (P.length+1) c7) (P++[p]):=
  OwL.pushed h1 h2 h4 hus (fun cs y _ hy=>hy.fr k7 (n7 _ (by decide))) (hp.fr k7 (n7 _ (by decide))) own7
 have qf:g7≠x:=fun e=>by
  obtain⟨cs,hb⟩:=jzl own7 (g:=g7) rfl;rw [e]at hb;exact absurd (jzq hb B7).2 (by decide)
 refine⟨⟨k8.ext e7 fun b hb=>by rw [hb];exact h.xlo,h.top,h.dem,B7.set_ 5 _,h.xlo,?_,h.m,qe.fr k8 (fun g hg e=>?_) fun cs y _ hy=>hy.fr k8 (n8 _ (by decide)),(h.map.same (k7.block mb h.map.lt fun e=>(s3 mb e).2.2 rfl)).same (k8.block mb ?_ fun e=>s4 e.symm),h.mlo⟩,(k7.mono fun b hb=>.inr hb).tr k8 fun b hb=>.inl (.inl hb)⟩
 ·exact(h.tab.far k7 (n7 _ (by decide)) fun b hb=>(s3 b hb).1).far k8 (n8 _ (by decide)) fun b hb hs=>s1 (hb▸hs)
 ·injection hg with hg
  have hg:g7=g:=hg;exact qf (hg.trans e)
 ·exact yL h.map.lt k7.size
theorem FlR.tabbed(h:FlR w0 w x mb t AO co AL cl l AD cd L T vP P Q){L':TLoc}{T':Sx.Tb}(ht:TabR w' w0.heap.size L' T')(k:FrS L.S w w')(hp:L'.p=L.p)(hm:L'.m=L.m)(hS:∀b,L'.S b->L.S b\/w.heap.size<=b):FlR w0 w' x mb t AO co AL cl l AD cd L' T' vP P Q:=by
 obtain⟨s1,s2,s3,s4⟩:=h.sep;have bx:=k.blk h.box s1;rw [<-hp]at bx;refine⟨k.ext h.ext fun b hb=>(h.tab.ty hb).1,h.top,h.dem,bx,h.xlo,ht,hm.trans h.m,?_,h.map.same (k.block mb h.map.lt s2),h.mlo⟩;refine h.pat.fr k (fun g hg=>(s3 g hg).1) fun cs y _ hy=>?_;obtain⟨A,c,h1,h2,h3,h4⟩:=hy;have qa:ints y.2≠ []->y.2≠ []:=fun hx e=>hx (by rw [e];rfl);refine⟨A,c,h1,h2,rdT_away h3 k fun hx=>h4 (qa hx),fun hx ad had hs=>?_⟩;rcases hS _ hs with h5|h5
 ·exact h4 hx ad had h5
 ·obtain⟨b,o,qe,fr,e1,e2,_⟩:=h3 (fun e=>hx (by
   have h6:=jzx y.2;rw [e]at h6;exact List.length_eq_zero_iff.1 h6.symm))
  rw [had]at e1;injection e1 with e1
  subst e1;have h7:w.heap.size<=b:=h5;have:=jza8 e2;omega
end
end Go.Proofs.YthbmikapohlikaaGreatDoor
namespace Go.Proofs.YthbmikapohlikaaGreatDoor
open Go Go.RowKit
variable {P:Program} {md:Region.Mode} {ops:Array Oper} {Q:Exit->Act->World->Prop} {S:World->Prop} {L:Nat}
def chainB(md:Region.Mode)(ops:Array Oper)(i:Nat):List Nat->Bool
 | []=>true
 | [m]=>awaitB md ops m i
 |m::m2::rest=>awaitB md ops m m2&&chainB md ops i (m2::rest)
theorem jzed{i:Nat}{listed:Array Bool}(hi:listed.getD i true=false):∀(path:List Nat),chainB md ops i path=true->(∀m∈path,listed.getD m true=false)->∀j∈path,j∉Region.ready md ops listed
 | [],_,_,j,hj,_=>by cases hj
 | [m],hc,_,j,hj,hr=>by
   obtain rfl:j=m:=xD.1 hj;exact jza1 hc hr hi
 |m::m2::rest,hc,hu,j,hj,hr=>by
  have hc:(awaitB md ops m m2&&chainB md ops i (m2::rest))=true:=hc;rw [vM]at hc;rcases xZ.1 hj with e|e
  ·subst e
   exact jza1 hc.1 hr (hu m2 (by simp))
  ·exact jzed hi (m2::rest) hc.2 (fun k hk=>hu k (xO _ hk)) j e hr
theorem jzf6{path:List Nat}{i:Nat}{oi:Oper}{v:Value}(hLp:L∈path)(hc:chainB md ops i path=true)(hi:ops[i]?=some oi)(hiL:i≠L)(hsel:∀(j:Nat) (o:Oper) cs b,ops[j]?=some o->o.op≠.select cs b)
  (hQ:∀c a w,Q (.panic c) (a.put oi.dst v) w->Q (.panic c) a w):
  ∀(qe:Nat) (qa:Array Bool) (a:Act) (w:World),(∀m∈path,qa.getD m true=false)->
   (∀j oj,ops[j]?=some oj->j≠i->qa.getD j true=false->(∀e∈oj.after,Region.binds md e=true->e.on≠i)->oi.apart ops oj=true)->
   i∈Region.ready md ops qa->YieldsIf P ops S oi v a->S w->
   wpAnyL P md ops Q S L qe (qa.setIfInBounds i true) (a.put oi.dst v) w->wpAnyL P md ops Q S L (qe+1) qa a w:=by
 intro qe
 induction qe with
 |zero=>
  intro qa a w _ _ hr hy hS H;refine⟨fun h=>(by rw [h]at hr;cases hr),fun j hj=>?_⟩;by_cases qf:j=i
  ·subst qf;exact hy.wpOp hi hS ⟨fun e=>absurd e hiL,fun _=>⟨hS,H⟩⟩
  ·have:=ready_mono hj qf
   rw [H.1]at this;cases this
 |succ qe ih=>
  intro qa a w qp qg hr hy hS H;refine⟨fun h=>(by rw [h]at hr;cases hr),fun j hj=>?_⟩;by_cases qf:j=i
  ·subst qf;exact hy.wpOp hi hS ⟨fun e=>absurd e hiL,fun _=>⟨hS,H⟩⟩
  ·have qt:j∉path:=fun e=>jzed (mem_ready.1 hr).1 path hc qp j e hj
   have qj:j≠L:=fun e=>qt (e▸hLp);have h1:=H.2 j (ready_mono hj qf);obtain⟨qi,oj,qn,qo⟩:=mem_ready.1 hj;have qk:∀e∈oj.after,Region.binds md e=true->e.on≠i:=fun e he hb heq=>by
    have h1:=qo e he hb;have h0:=(mem_ready.1 hr).1;rw [heq]at h1;rcases Nat.lt_or_ge i qa.size with h'|h'
    ·simp [h']at h0 h1;rw [h0]at h1;cases h1
    ·simp [Array.getElem?_eq_none h']at h1
   have h2:=wpOp_putIf qn (qg j oj qn qf qi qk) (fun cs b=>hsel i oi cs b hi) (fun cs b=>hsel j oj cs b qn) hQ hy h1;have qh:∀k ok,ops[k]?=some ok->k≠i->(qa.setIfInBounds j true).getD k true=false->
     (∀e∈ok.after,Region.binds md e=true->e.on≠i)->oi.apart ops ok=true:=fun k ok hk hki hun hno=>by
    refine qg k ok hk hki ?_ hno;by_cases qw:j=k
    ·subst qw;exact qi
    ·rw [getD_set_ne true qw]at hun;exact hun
   have qm:∀m∈path,(qa.setIfInBounds j true).getD m true=false:=fun m hm=>by
    have qx:j≠m:=fun e=>qt (e▸hm);rw [getD_set_ne true qx];exact qp m hm
   refine wpOp_mono (fun a' w' h3=>⟨fun e=>absurd e qj,fun _=>⟨(h3.2.2 qj).1,ih (qa.setIfInBounds j true) a' w' qm qh (ready_mono hr (Ne.symm qf)) h3.1 (h3.2.2 qj).1 ?_⟩⟩) h2;rw [Array.setIfInBounds_comm _ _ qf];exact(h3.2.2 qj).2
theorem jz5{path:List Nat}{i:Nat}{oi:Oper}{v:Value}{fuel:Nat}{listed:Array Bool}{a:Act}{w:World}(hi:ops[i]?=some oi)(hLp:path.contains L=true)(hc:chainB md ops i path=true)(hlm:path.all (fun m=>!listed.getD m true)=true)(hiL:i≠L)
  (hs:Region.noSelect ops=true) (hf:Region.free md ops listed i=true) (hr:(Region.ready md ops listed).contains i=true)
  (hQ:∀c a w,Q (.panic c) (a.put oi.dst v) w->Q (.panic c) a w) (hy:YieldsIf P ops S oi v a) (hS:S w)
  (h:wpAnyL P md ops Q S L fuel (listed.setIfInBounds i true) (a.put oi.dst v) w):wpAnyL P md ops Q S L (fuel+1) listed a w:=
 jzf6 (by simpa using hLp) hc hi hiL (Region.noSelect_spec hs) hQ fuel listed a w (fun m hm=>by simpa using xW.1 hlm m hm) (Region.free_spec hi hf) (by simpa using hr) hy hS h
end Go.Proofs.YthbmikapohlikaaGreatDoor
