/- Part 4 of 24 of what the Flows claims share (the white space is struck, the texts are joined). -/
import Derived.Maps.AppendAt
import Derived.Deep.AppendLies
import Derived.Lib.OwnKind
import Derived.Deep.Onto
import Derived.Deep.AppendSrc
import Derived.Test.YthbmikapohlikaaGreatDoorZ03
set_option linter.unusedVariables false
set_option linter.unusedSimpArgs false
set_option maxRecDepth 100000
set_option maxHeartbeats 8000000
namespace Go.Proofs.YthbmikapohlikaaGreatDoor
open Go.RowKit
structure Lk where
 a:Int
 b:Int
 c0:Int
 c1:Int
 cap:Int
 delay:Int
 group:Int
structure Tp where
 nodes:Int
 over:List Bool
 links:List Lk
def Lk.cells(l:Lk):List Value:=[.int .i64 l.a,.int .i64 l.b,.int .i64 l.c0,.int .i64 l.c1,.int .i64 l.cap,.int .i64 l.delay,.int .i64 l.group]
def bools(l:List Bool):List Value:=l.map Value.bool
def i64(x:Int):Prop:= -9223372036854775808<=x/\x<=9223372036854775807
def Lk.wf(l:Lk):Prop:=i64 l.a/\i64 l.b/\i64 l.c0/\i64 l.c1/\i64 l.cap/\i64 l.delay/\i64 l.group
structure TopR(w:World)(t:Tp)(AO:Option Addr)(co:Nat)(AL:Option Addr)(cl:Nat):Prop where
 nodes:i64 t.nodes
 lo:t.over.length<=co
 ll:t.links.length<=cl
 co:t.over.length<=281474976710656
 cl:t.links.length<=281474976710656
 over:Rd w AO (bools t.over)
 links:Rd w AL (t.links.flatMap Lk.cells)
 wf:∀l∈t.links,l.wf
theorem TopR.keep{w w':World}{t:Tp}{AO:Option Addr}{co:Nat}{AL:Option Addr}{cl:Nat}(h:TopR w t AO co AL cl)(hb:Ext w w'):TopR w' t AO co AL cl:=
 ⟨h.nodes,h.lo,h.ll,h.co,h.cl,h.over.keep hb,h.links.keep hb,h.wf⟩
theorem jzfn(ls:List Lk)(i k:Nat)(hi:i<ls.length)(hk:k<7):(ls.flatMap Lk.cells)[i*7+k]?=(ls[i]).cells[k]?:=by
 induction ls generalizing i with
 |nil=>simp at hi
 |cons l ls ih=>
  cases i with
  |zero=>
   simp only [xU,Nat.zero_mul,Nat.zero_add,yB];rw [yR (by simp [Lk.cells];omega)]
  |succ i=>
   simp only [xU,yC];rw [yS (by simp [Lk.cells];omega),show(i+1)*7+k-l.cells.length=i*7+k by simp [Lk.cells];omega];exact ih i (by simpa using hi)
theorem jzbz(ls:List Lk):(ls.flatMap Lk.cells).length=ls.length*7:=by
 induction ls with
 |nil=>rfl
 |cons l ls ih=>simp only [xU,yQ,ih,List.length_cons];simp [Lk.cells];omega
theorem TopR.link{w:World}{t:Tp}{AO:Option Addr}{co:Nat}{AL:Option Addr}{cl:Nat}(h:TopR w t AO co AL cl){i:Nat}{l:Lk}(hl:t.links[i]?=some l):
  ∃b o:Nat,AL=some ⟨b,o,none⟩/\b<w.heap.size/\(w.cell? ⟨b,o+i*7,none⟩=some (.int .i64 l.a)/\w.cell? ⟨b,o+i*7+1,none⟩=some (.int .i64 l.b)/\w.cell? ⟨b,o+i*7+2,none⟩=some (.int .i64 l.c0)/\
   w.cell? ⟨b,o+i*7+3,none⟩=some (.int .i64 l.c1)/\w.cell? ⟨b,o+i*7+4,none⟩=some (.int .i64 l.cap)/\w.cell? ⟨b,o+i*7+5,none⟩=some (.int .i64 l.delay)/\w.cell? ⟨b,o+i*7+6,none⟩=some (.int .i64 l.group)):=by
 obtain⟨hi,he⟩:=yH.1 hl;have qa:=jzbz t.links;obtain⟨b,o,e,qe,hc⟩:=h.links (by intro e;rw [e]at qa;simp at qa;omega);have hk:∀k,k<7->w.cell? ⟨b,o+i*7+k,none⟩=l.cells[k]?:=fun k hk=>by
  rw [Nat.add_assoc,hc (i*7+k) (by rw [qa];omega),jzfn t.links i k hi hk,he]
 exact⟨b,o,e,qe,hk 0 (by omega),hk 1 (by omega),hk 2 (by omega),hk 3 (by omega),hk 4 (by omega),hk 5 (by omega),hk 6 (by omega)⟩
def tailP(t:Tp)(a:Nat):Int:=match t.links[a/2]? with
 |some l=>if a%2=0 then l.a else l.b
 |none=> -1
def headP(t:Tp)(a:Nat):Int:=match t.links[a/2]? with
 |some l=>if a%2=0 then l.b else l.a
 |none=> -1
def overP(t:Tp)(n:Int):Bool:=t.over[n.toNat]?.getD false
theorem jzik(n lo hi:Int)(w:World):
  Calls Tryz.prog 120 #[.int .i64 n,.int .i64 lo,.int .i64 hi] w fun e w'=>e=.returned (.bool (decide (lo<=n/\n<=hi)))/\w=w':=by
 have hd:decide (lo<=n/\n<=hi)=(decide (lo<=n)&&decide (n<=hi)):=(by simp);rw [hd];have HD:=Hx (hd);clear hd;by_cases h1:lo<=n
 ·have qa:decide (lo<=n)=true:=by simpa using h1
  rw [qa]
  go_enter Tryz.func120,Tryz.ntmps120
  go_wp2;go_ret;exact⟨by simp,rfl⟩
 ·have qa:decide (lo<=n)=false:=by simpa using h1
  rw [qa]
  go_enter Tryz.func120,Tryz.ntmps120
  go_wp2;go_ret;exact⟨by simp,rfl⟩
theorem jzil(n lo hi:Int)(w:World):
  Calls Tryz.prog 55 #[.int .i64 n,.int .i64 lo,.int .i64 hi] w fun e w'=>e=.returned (.bool (decide (lo<=n/\n<=hi)))/\w=w':=by
 have hd:decide (lo<=n/\n<=hi)=(decide (lo<=n)&&decide (n<=hi)):=(by simp);rw [hd];have HD:=Hx (hd);clear hd;by_cases h1:lo<=n
 ·have qa:decide (lo<=n)=true:=by simpa using h1
  rw [qa]
  go_enter Tryz.func55,Tryz.ntmps55
  go_wp2;go_ret;exact⟨by simp,rfl⟩
 ·have qa:decide (lo<=n)=false:=by simpa using h1
  rw [qa]
  go_enter Tryz.func55,Tryz.ntmps55
  go_wp2;go_ret;exact⟨by simp,rfl⟩
theorem jzej(t:Tp)(AO:Option Addr)(co:Nat)(AL:Option Addr)(cl:Nat)(a:Nat)(w:World)(ht:TopR w t AO co AL cl)(ha:a/2<t.links.length):
  Calls Tryz.prog 111 #[.agg #[.int .i64 t.nodes,.slice AO t.over.length co,.slice AL t.links.length cl],.int .i64 a] w fun e w'=>e=.returned (.int .i64 (tailP t a))/\Ext w w':=by
 have hl:=ht.ll;have qe:=ht.cl;obtain⟨l,qa⟩:∃l,t.links[a/2]?=some l:=⟨_,yG ha⟩;obtain⟨b,o,rfl,hb,c0,c1,_⟩:=ht.link qa;have hv:tailP t a=if a%2=0 then l.a else l.b:=by unfold tailP;rw [qa]
 rw [hv];clear ht qa hv;by_cases h:a%2=0
 ·rw [if_pos h]
  have h':(((a:Int)%2)==0)=true:=(by simp;omega);clear h
  go_enter Tryz.func111,Tryz.ntmps111
  go_wp2;go_ret;exact⟨rfl,(Ext.refl w).alloc _⟩
 ·rw [if_neg h]
  have h':(((a:Int)%2)==0)=false:=yK.2 (by omega);clear h
  go_enter Tryz.func111,Tryz.ntmps111
  go_wp2;go_ret;exact⟨rfl,(Ext.refl w).alloc _⟩
theorem jzjx(a:Nat):a^^^1=if a%2=0 then a+1 else a-1:=by
 have h:(a^^^1)/2=a/2:=(by rw [Nat.xor_div_two];simp);have h2:=@Nat.xor_mod_two_eq_one a 1
 split <;> omega
theorem jzgf(a:Nat)(ha:a<9223372036854775808):bits BinOp.xor IntKind.i64 (a:Int) 1=((a^^^1:Nat):Int):=by
 have hx:a^^^1<2^63:=Nat.xor_lt_two_pow (by omega) (by omega);show IntKind.i64.wrap ((BitVec.ofInt 64 (a:Int)^^^BitVec.ofInt 64 (1:Int)).toNat:Int)=_;have e1:(BitVec.ofInt 64 (a:Int)).toNat=a:=(by rw [BitVec.ofInt_natCast,BitVec.toNat_ofNat];exact Nat.mod_eq_of_lt (by omega));have e2:(BitVec.ofInt 64 (1:Int)).toNat=1:=(by decide);rw [BitVec.toNat_xor,e1,e2,IntKind.wrap_i64];omega
theorem jzg3(t:Tp)(a:Nat):headP t a=tailP t (a^^^1):=by
 unfold headP tailP;have hx:=jzjx a;have h1:(a^^^1)/2=a/2:=(by rw [hx];split <;> omega);have h2:(a^^^1)%2=0↔¬a%2=0:=(by rw [hx];split <;> omega);rw [h1];cases t.links[a/2]? with
 |none=>rfl
 |some l=>
  by_cases h:a%2=0
  ·simp only [if_pos h];rw [if_neg (fun e=>h2.1 e h)]
  ·simp only [if_neg h];rw [if_pos (h2.2 h)]
theorem jzbq(t:Tp)(AO:Option Addr)(co:Nat)(AL:Option Addr)(cl:Nat)(a:Nat)(w:World)(ht:TopR w t AO co AL cl)(ha:a/2<t.links.length):
  Calls Tryz.prog 113 #[.agg #[.int .i64 t.nodes,.slice AO t.over.length co,.slice AL t.links.length cl],.int .i64 a] w fun e w'=>e=.returned (.int .i64 (headP t a))/\Ext w w':=by
 have hl:=ht.ll;have qg:=ht.cl;have hb:=jzgf a (by omega);have hx:=jzjx a;have qe:(a^^^1)/2<t.links.length:=(by rw [hx];split <;> omega);rw [jzg3];have HT:=Hx (ht);generalize a^^^1=a' at*;clear hx ht;obtain⟨qf,e0⟩:=boxes1 w #[.int .i64 t.nodes,.slice AO t.over.length co,.slice AL t.links.length cl] 25
 go_enter Tryz.func113,Tryz.ntmps113
 go_wp2_with fail
 refine(jzej t AO co AL cl a' _ (HT.out.keep e0) qe).mono ?_;rintro e w1 ⟨rfl,qa⟩;have HX:=Hx (e0.tr qa);clear qa e0 qf;go_wp2;go_ret;exact⟨rfl,HX.out⟩
theorem Rd.bool{w:World}{A:Option Addr}{l:List Bool}(h:Rd w A (bools l)){k:Nat}(hk:k<l.length):
  ∃b o:Nat,A=some ⟨b,o,none⟩/\b<w.heap.size/\w.cell? ⟨b,o+k,none⟩=some (.bool (l[k]?.getD false)):=by
 obtain⟨b,o,e,qa,hc⟩:=h.at_ (i:=k) (by simpa [bools]using hk);refine⟨b,o,e,qa,(hc k (by simpa [bools]using hk)).trans ?_⟩;simp [bools,hk]
theorem jzek(t:Tp)(AO:Option Addr)(co:Nat)(AL:Option Addr)(cl:Nat)(n:Int)(w:World)(ht:TopR w t AO co AL cl)(h0:0<=n)(hn:t.over=[]\/n<t.over.length):
  Calls Tryz.prog 112 #[.agg #[.int .i64 t.nodes,.slice AO t.over.length co,.slice AL t.links.length cl],.int .i64 n] w fun e w'=>e=.returned (.bool (overP t n))/\Ext w w':=by
 obtain⟨N,rfl⟩:=Int.eq_ofNat_of_zero_le h0;have qf:=ht.lo;have qg:=ht.co;by_cases he:t.over.length=0
 ·have hv:overP t N=false:=by unfold overP;rw [List.length_eq_zero_iff.1 he];rfl
  rw [hv];have hz:(t.over.length:Int)=0:=(by omega);rw [he];clear ht hn hv hz he
  go_enter Tryz.func112,Tryz.ntmps112
  go_wp2;go_ret;exact⟨rfl,(Ext.refl w).alloc _⟩
 ·have hN:N<t.over.length:=by
   rcases hn with h|h
   ·rw [h]at he;simp at he
   ·omega
  obtain⟨b,o,rfl,hb,hc⟩:=ht.over.bool hN;have hv:overP t N=t.over[N]?.getD false:=rfl;rw [hv];generalize t.over[N]?.getD false=x at*;have qe:decide ((0:Int)<(t.over.length:Int))=true:=(by simp;omega);have qa:0<t.over.length:=(by omega);clear ht hn hv he
  go_enter Tryz.func112,Tryz.ntmps112
  go_wp2;go_ret;exact⟨rfl,(Ext.refl w).alloc _⟩
theorem jzg4(t:Tp)(AO:Option Addr)(co:Nat)(AL:Option Addr)(cl:Nat)(n:Int)(w:World):
  Calls Tryz.prog 81 #[.agg #[.int .i64 t.nodes,.slice AO t.over.length co,.slice AL t.links.length cl],.int .i64 n] w fun e w'=>e=.returned (.bool (decide (0<=n/\n<t.nodes)))/\Ext w w':=by
 have hd:decide (0<=n/\n<t.nodes)=(decide (0<=n)&&decide (n<t.nodes)):=(by simp);rw [hd];have HD:=Hx (hd);clear hd;by_cases h1:0<=n
 ·have qa:decide (0<=n)=true:=by simpa using h1
  rw [qa]
  go_enter Tryz.func81,Tryz.ntmps81
  go_wp2;go_ret;exact⟨by simp,(Ext.refl w).alloc _⟩
 ·have qa:decide (0<=n)=false:=by simpa using h1
  rw [qa]
  go_enter Tryz.func81,Tryz.ntmps81
  go_wp2;go_ret;exact⟨by simp,(Ext.refl w).alloc _⟩
theorem jzac(t:Tp)(AO:Option Addr)(co:Nat)(AL:Option Addr)(cl:Nat)(w:World)(ht:TopR w t AO co AL cl):
  Calls Tryz.prog 68 #[.agg #[.int .i64 t.nodes,.slice AO t.over.length co,.slice AL t.links.length cl]] w fun e w'=>e=.returned (.int .i64 (2*(t.links.length:Int)))/\Ext w w':=by
 have h1:=ht.ll;have h2:=ht.cl;clear ht
 go_enter Tryz.func68,Tryz.ntmps68
 go_wp2;go_ret;exact⟨rfl,(Ext.refl w).alloc _⟩
def fitsP(t:Tp)(down:List Bool):Bool:=decide (down.length=0\/down.length=2*t.links.length)
theorem jzg5(t:Tp)(AO:Option Addr)(co:Nat)(AL:Option Addr)(cl:Nat)(AD:Option Addr)(cd:Nat)(down:List Bool)(w:World)(ht:TopR w t AO co AL cl):
  Calls Tryz.prog 80 #[.agg #[.int .i64 t.nodes,.slice AO t.over.length co,.slice AL t.links.length cl],.slice AD down.length cd] w fun e w'=>e=.returned (.bool (fitsP t down))/\Ext w w':=by
 have HT:=Hx (ht);have h1:=ht.ll;have h2:=ht.cl;clear ht;obtain⟨qe,e0⟩:=boxes1 w #[.int .i64 t.nodes,.slice AO t.over.length co,.slice AL t.links.length cl] 25;by_cases h:down.length=0
 ·have hz:((down.length:Int)==0)=true:=by rw [h];rfl
  have hv:fitsP t down=true:=(by unfold fitsP;simp only [decide_eq_true_eq];exact .inl h);rw [hv];clear hv h
  go_enter Tryz.func80,Tryz.ntmps80
  go_wp2_with fail
  go_ret;exact⟨rfl,e0⟩
 ·have hz:((down.length:Int)==0)=false:=yK.2 (by omega)
  have hv:((down.length:Int)==2*(t.links.length:Int))=fitsP t down:=by
   unfold fitsP;by_cases h':down.length=2*t.links.length
   ·rw [yO (.inr h')];simp;omega
   ·rw [yP (by omega)];exact yK.2 (by omega)
  generalize fitsP t down=v at*;clear h
  go_enter Tryz.func80,Tryz.ntmps80
  go_wp2_with fail
  refine(jzac t AO co AL cl _ (HT.out.keep e0)).mono ?_;rintro e w1 ⟨rfl,qa⟩;have HX:=Hx (e0.tr qa);clear qa e0 qe;go_wp2;go_ret;exact⟨rfl,HX.out⟩
def downP(down:List Bool)(a:Nat):Bool:=down[a]?.getD false
theorem jzc3(AD:Option Addr)(cd:Nat)(down:List Bool)(a:Nat)(w:World)(hd:Rd w AD (bools down))(hc:down.length<=cd)(hcd:down.length<=281474976710656)(ha:down=[]\/a<down.length)(hai:a<=1125899906842624):
  Calls Tryz.prog 135 #[.slice AD down.length cd,.int .i64 a] w fun e w'=>e=.returned (.bool (downP down a))/\w=w':=by
 by_cases he:down.length=0
 ·have hv:downP down a=false:=by unfold downP;rw [List.length_eq_zero_iff.1 he];rfl
  rw [hv];rw [he];clear hd ha hv he
  go_enter Tryz.func135,Tryz.ntmps135
  go_wp2;go_ret;exact⟨rfl,rfl⟩
 ·have hN:a<down.length:=by
   rcases ha with h|h
   ·rw [h]at he;simp at he
   ·omega
  obtain⟨b,o,rfl,hb,qa⟩:=hd.bool hN;have hv:downP down a=down[a]?.getD false:=rfl;rw [hv];generalize down[a]?.getD false=x at*;have qe:0<down.length:=(by omega);clear hd ha hv he
  go_enter Tryz.func135,Tryz.ntmps135
  go_wp2;go_ret;exact⟨rfl,rfl⟩
def usableP(t:Tp)(down:List Bool)(a:Nat)(d:Int):Bool:=!downP down a&&(headP t a==d||!overP t (headP t a))
theorem jzjy(t:Tp)(AO:Option Addr)(co:Nat)(AL:Option Addr)(cl:Nat)(AD:Option Addr)(cd:Nat)(down:List Bool)(a:Nat)(d:Int)(w:World)(ht:TopR w t AO co AL cl)(ha:a/2<t.links.length)
  (hd:Rd w AD (bools down)) (hc:down.length<=cd) (hcd:down.length<=281474976710656) (had:down=[]\/a<down.length) (hh:0<=headP t a) (hh':t.over=[]\/headP t a<t.over.length):
  Calls Tryz.prog 117 #[.agg #[.int .i64 t.nodes,.slice AO t.over.length co,.slice AL t.links.length cl],.slice AD down.length cd,.int .i64 a,.int .i64 d] w fun e w'=>e=.returned (.bool (usableP t down a d))/\Ext w w':=by
 have HT:=Hx (ht);have HD:=Hx (hd);have h1:=ht.ll;have h2:=ht.cl;have qi:a<=562949953421313:=(by omega);obtain⟨qe,e0⟩:=boxes1 w #[.int .i64 t.nodes,.slice AO t.over.length co,.slice AL t.links.length cl] 25;have qf:(downP down a=true/\usableP t down a d=false)\/(downP down a=false/\(headP t a==d)=true/\usableP t down a d=true)\/(downP down a=false/\(headP t a==d)=false/\usableP t down a d=!overP t (headP t a)):=by
  unfold usableP;cases downP down a
  ·cases headP t a==d
   ·exact .inr (.inr ⟨rfl,rfl,rfl⟩)
   ·exact .inr (.inl ⟨rfl,rfl,rfl⟩)
  ·exact .inl ⟨rfl,rfl⟩
 clear ht hd;rcases qf with⟨k1,k2⟩|⟨k1,k2,k3⟩|⟨k1,k2,k3⟩
 case inl=>
  rw [k2];have K1:=Hx (k1);clear k1 k2
  go_enter Tryz.func117,Tryz.ntmps117
  go_wp2_with fail
  refine(jzbq t AO co AL cl a _ (HT.out.keep e0) ha).mono ?_;rintro e w1 ⟨rfl,qa⟩;have HX:=Hx (e0.tr qa);clear qa e0 qe;generalize headP t a=m at*
  go_wp2_with fail
  refine(jzc3 AD cd down a _ (HD.out.keep HX.out) hc hcd had (by omega)).mono ?_;rintro e w2 ⟨rfl,rfl⟩;rw [K1.out];go_wp2;go_ret;exact⟨rfl,HX.out⟩
 case inr.inl=>
  rw [k3];have K1:=Hx (k1);clear k1 k3
  go_enter Tryz.func117,Tryz.ntmps117
  go_wp2_with fail
  refine(jzbq t AO co AL cl a _ (HT.out.keep e0) ha).mono ?_;rintro e w1 ⟨rfl,qa⟩;have HX:=Hx (e0.tr qa);clear qa e0 qe;generalize headP t a=m at*
  go_wp2_with fail
  refine(jzc3 AD cd down a _ (HD.out.keep HX.out) hc hcd had (by omega)).mono ?_;rintro e w2 ⟨rfl,rfl⟩;rw [K1.out];go_wp2;go_ret;exact⟨rfl,HX.out⟩
 case inr.inr=>
  rw [k3];have K1:=Hx (k1);clear k1 k3
  go_enter Tryz.func117,Tryz.ntmps117
  go_wp2_with fail
  refine(jzbq t AO co AL cl a _ (HT.out.keep e0) ha).mono ?_;rintro e w1 ⟨rfl,qa⟩;have HX:=Hx (e0.tr qa);have qe:=qe.keep qa;obtain⟨⟨i0,i1,i2⟩,g0,g1,g2⟩:=qe.three;clear qa e0;generalize hm:headP t a=m at*;have HM:=Hx (hm);clear hm
  go_wp2_with fail
  refine(jzc3 AD cd down a _ (HD.out.keep HX.out) hc hcd had (by omega)).mono ?_;rintro e w2 ⟨rfl,rfl⟩;rw [K1.out]
  go_wp2_with fail
  refine(jzek t AO co AL cl m _ (HT.out.keep HX.out) hh hh').mono ?_;rintro e w3 ⟨rfl,qg⟩;have qh:=Hx (HX.out.tr qg);clear qg;go_wp2;go_ret;rw [HM.out];exact⟨rfl,qh.out⟩
def XW(w:World):Type:={W:World//Ext w W}
instance instNonemptyXW(w:World):Nonempty (XW w):=⟨⟨w,Ext.refl w⟩⟩
def XW.val{w:World}(x:XW w):World:=x.1
theorem XW.ext{w:World}(x:XW w):Ext w x.val:=x.2
theorem jzh{P:Program}{id:Nat}{Q:Exit->Act->World->Prop}{a:Act}{w:World}{l:List Oper}(hm:P.follows .mixedOrders=true)(hB:Region.lexB .any l.toArray=true)
  (h:wpQuiet P l.toArray (fun w'=>∃x:XW w,w'=x.val) (fun a'=>∀w',(∃x:XW w,w'=x.val)->Q .normal a' w') l a):(Code.region id l.toArray true).wp P Q a w:=
 wp_region_quiet (C:=fun w'=>∃x:XW w,w'=x.val) hm hB ⟨⟨w.drew,(Ext.refl w).drewN 1⟩,rfl⟩ (by simpa using h)
theorem Calls.ext_of{P:Program}{f:FuncId}{args:Array Value}{w:World}{x:XW w}{v:Value}(h:Calls P f args x.val fun e w'=>e=.returned v/\Ext x.val w'):
  Calls P f args x.val fun e w''=>e=.returned v/\∃y:XW w,w''=y.val:=
 h.mono fun _ w' ⟨he,hx⟩=>⟨he,⟨w',x.ext.tr hx⟩,rfl⟩
theorem XW.cell{w:World}(b o:Nat)(v:Value)(hb:b<w.heap.size)(hc:w.cell? ⟨b,o,none⟩=some v):∀x:XW w,x.val.cell? ⟨b,o,none⟩=some v:=fun x=>(x.ext.cell (p:=⟨b,o,none⟩) hb).trans hc
def inB(n lo hi:Int):Bool:=decide (lo<=n/\n<=hi)
def ndB(N n:Int):Bool:=decide (0<=n/\n<N)
theorem jza7(n lo hi:Int)(w:World):Calls Tryz.prog 120 #[.int .i64 n,.int .i64 lo,.int .i64 hi] w fun e w'=>e=.returned (.bool (inB n lo hi))/\w=w':=jzik n lo hi w
theorem jzdb(t:Tp)(AO:Option Addr)(co:Nat)(AL:Option Addr)(cl:Nat)(n:Int)(w:World):
 Calls Tryz.prog 81 #[.agg #[.int .i64 t.nodes,.slice AO t.over.length co,.slice AL t.links.length cl],.int .i64 n] w fun e w'=>e=.returned (.bool (ndB t.nodes n))/\Ext w w':=jzg4 t AO co AL cl n w
def Lk.ok(N:Int)(l:Lk):Bool:= !(l.a==l.b)&&ndB N l.a&&ndB N l.b&&inB l.c0 1 65535&&inB l.c1 1 65535&&inB l.cap 0 1048576&&inB l.delay 1 65536&&inB l.group 0 64
def headOk(t:Tp):Bool:=inB t.nodes 1 64&&decide (t.links.length<=256)&&(decide (t.over.length=0)||decide ((t.over.length:Int)=t.nodes))
def validP(t:Tp):Bool:=headOk t&&t.links.all (Lk.ok t.nodes)
theorem jzim(t:Tp)(AO:Option Addr)(co:Nat)(AL:Option Addr)(cl:Nat)(w:World)(ht:TopR w t AO co AL cl)(hh:headOk t=false):
  Calls Tryz.prog 70 #[.agg #[.int .i64 t.nodes,.slice AO t.over.length co,.slice AL t.links.length cl]] w fun e w'=>e=.returned (.bool false)/\Ext w w':=by
 have h1:=ht.lo;have h2:=ht.co;have h3:=ht.ll;have h4:=ht.cl;clear ht;unfold headOk at hh;cases k1:inB t.nodes 1 64
 ·clear hh
  go_enter Tryz.func70,Tryz.ntmps70
  go_wp2_with (go_at_call 120;refine(jza7 _ _ _ _).mono ?_;rintro e w' ⟨rfl,rfl⟩)
  go_ret;exact⟨rfl,(Ext.refl w).alloc _⟩
 ·by_cases k2:t.links.length<=256
  ·have k3:((t.over.length:Int) !=0)=true/\((t.over.length:Int) !=t.nodes)=true:=by
    rw [k1,yO k2]at hh;simp at hh;simp;exact hh
   obtain⟨k3,k4⟩:=k3;clear hh
   go_enter Tryz.func70,Tryz.ntmps70
   go_wp2_with (go_at_call 120;refine(jza7 _ _ _ _).mono ?_;rintro e w' ⟨rfl,rfl⟩)
   go_ret;exact⟨rfl,(Ext.refl w).alloc _⟩
  ·have qa:256<t.links.length:=by omega
   clear hh
   go_enter Tryz.func70,Tryz.ntmps70
   go_wp2_with (go_at_call 120;refine(jza7 _ _ _ _).mono ?_;rintro e w' ⟨rfl,rfl⟩)
   go_ret;exact⟨rfl,(Ext.refl w).alloc _⟩
theorem jzel{ls:List Lk}{N:Int}{k:Nat}{l:Lk}(hl:ls[k]?=some l)(hb:l.ok N=false):ls.all (Lk.ok N)=false:=by
 obtain⟨hk,he⟩:=yH.1 hl;rw [List.all_eq_false];exact⟨l,by rw [<-he];exact xR hk,by simp [hb]⟩
theorem jzjz{ls:List Lk}{N:Int}(h:∀(j:Nat) (l:Lk),ls[j]?=some l->l.ok N=true):ls.all (Lk.ok N)=true:=by
 rw [xW];intro l hl;obtain⟨j,hj,rfl⟩:=List.mem_iff_getElem.1 hl;exact h j _ (yG hj)
theorem jzin(t:Tp)(AO:Option Addr)(co:Nat)(AL:Option Addr)(cl:Nat)(w:World)(ht:TopR w t AO co AL cl)(hh:headOk t=true):
  Calls Tryz.prog 70 #[.agg #[.int .i64 t.nodes,.slice AO t.over.length co,.slice AL t.links.length cl]] w fun e w'=>e=.returned (.bool (t.links.all (Lk.ok t.nodes)))/\Ext w w':=by
 have HT:=Hx (ht);have h1:=ht.lo;have h2:=ht.co;have h3:=ht.ll;have h4:=ht.cl;clear ht;obtain⟨qg,e0⟩:=boxes1 w #[.int .i64 t.nodes,.slice AO t.over.length co,.slice AL t.links.length cl] 25;have BA:=Hx (qg);have k1:inB t.nodes 1 64=true:=(by unfold headOk at hh;simp at hh;exact hh.1.1);have k2:t.links.length<=256:=(by unfold headOk at hh;simp at hh;exact hh.1.2);have k3:(((t.over.length:Int) !=0)=false)\/(((t.over.length:Int) !=0)=true/\((t.over.length:Int) !=t.nodes)=false):=by
  unfold headOk at hh;simp at hh;by_cases h:t.over.length=0
  ·exact .inl (by simp;exact List.length_eq_zero_iff.1 h)
  ·refine .inr ⟨bne_iff_ne.2 (by omega),?_⟩
   have:=hh.2;simp;rcases this with h'|h'
   ·exact absurd (by rw [h'];rfl) h
   ·exact h'
 clear hh qg;rcases k3 with k3|⟨k3,k4⟩
 all_goals
  go_enter Tryz.func70,Tryz.ntmps70
  go_wp2_with (go_at_call 120;refine(jza7 _ _ _ _).mono ?_;rintro e w' ⟨rfl,rfl⟩)
  go_loopw [30] (fun i wr=>∃k:Nat,k<=t.links.length/\i=.int .i64 k/\Blk wr w.heap.size 25 #[.int .i64 t.nodes,.slice AO t.over.length co,.slice AL t.links.length cl]/\(∀j l,j<k->t.links[j]?=some l->l.ok t.nodes=true)/\Ext w wr) (fun i _=>t.links.length-(intOf i).toNat)
  case atStart=>exact⟨0,yZ _,rfl,BA.out,fun j l h=>by omega,e0⟩
  case round=>
   obtain⟨k,hk,rfl,qa,qh,hx⟩:=hrel;have qm:=Hx qh;clear qh e0 BA;by_cases qo:k<t.links.length
   ·obtain⟨l,hl⟩:∃l,t.links[k]?=some l:=⟨_,yG qo⟩
    have HL:=Hx hl;have qk:=HT.out.keep hx;obtain⟨b,o,rfl,hb,c0,c1,c2,c3,c4,c5,c6⟩:=qk.link hl;have HX:=Hx hx;obtain⟨⟨i0,i1,i2⟩,_⟩:=qa.three;clear hl qk hx
    go_upto_region 9 with fail
    go_cut [63] (fun s wx=>s=.bool ((l.a==l.b)||!ndB t.nodes l.a||!ndB t.nodes l.b)/\Blk wx w.heap.size 25 #[.int .i64 t.nodes,.slice AO t.over.length co,.slice (some ⟨b,o,none⟩) t.links.length cl]/\Ext wr wx)
    case first=>
     have x0:=XW.cell _ _ _ qa.lt i0;have x1:=XW.cell _ _ _ qa.lt i1;have x2:=XW.cell _ _ _ qa.lt i2;have y0:=XW.cell _ _ _ hb c0;have y1:=XW.cell _ _ _ hb c1;cases q1:l.a==l.b
     ·cases q2:ndB t.nodes l.a
      ·refine jzh (by kernel_rfl) (by kernel_rfl) ?_
       repeat (go_big_quiet_step ((go_at_call 81;exact Calls.ext_of (jzdb t AO co (some ⟨b,o,none⟩) cl _ _))))
       refine wpQuiet_nil ?_;rintro _ ⟨x,rfl⟩;go_wp2;go_meet;exact⟨by first|(rw [q1,q2,q3];rfl)|(rw [q1,q2];rfl)|(rw [q1];rfl),qa.keep x.ext,x.ext⟩
      ·cases q3:ndB t.nodes l.b
       all_goals
        refine jzh (by kernel_rfl) (by kernel_rfl) ?_
        repeat (go_big_quiet_step ((go_at_call 81;exact Calls.ext_of (jzdb t AO co (some ⟨b,o,none⟩) cl _ _))))
        refine wpQuiet_nil ?_;rintro _ ⟨x,rfl⟩;go_wp2;go_meet;exact⟨by first|(rw [q1,q2,q3];rfl)|(rw [q1,q2];rfl)|(rw [q1];rfl),qa.keep x.ext,x.ext⟩
     ·refine jzh (by kernel_rfl) (by kernel_rfl) ?_
      repeat (go_big_quiet_step ((go_at_call 81;exact Calls.ext_of (jzdb t AO co (some ⟨b,o,none⟩) cl _ _))))
      refine wpQuiet_nil ?_;rintro _ ⟨x,rfl⟩;go_wp2;go_meet;exact⟨by first|(rw [q1,q2,q3];rfl)|(rw [q1,q2];rfl)|(rw [q1];rfl),qa.keep x.ext,x.ext⟩
    case rest=>
     obtain⟨rfl,qf,qe⟩:=hcut;have qi:=Hx (HX.out.tr qe);have c2:=(qe.cell (p:=⟨b,o+k*7+2,none⟩) hb).trans c2;have c3:=(qe.cell (p:=⟨b,o+k*7+3,none⟩) hb).trans c3;have c4:=(qe.cell (p:=⟨b,o+k*7+4,none⟩) hb).trans c4;have c5:=(qe.cell (p:=⟨b,o+k*7+5,none⟩) hb).trans c5;have c6:=(qe.cell (p:=⟨b,o+k*7+6,none⟩) hb).trans c6;have qj:((l.a==l.b||!ndB t.nodes l.a||!ndB t.nodes l.b)=true/\l.ok t.nodes=false)\/((l.a==l.b||!ndB t.nodes l.a||!ndB t.nodes l.b)=false/\((inB l.c0 1 65535=false/\l.ok t.nodes=false)\/(inB l.c0 1 65535=true/\inB l.c1 1 65535=false/\l.ok t.nodes=false)\/
       (inB l.c0 1 65535=true/\inB l.c1 1 65535=true/\inB l.cap 0 1048576=false/\l.ok t.nodes=false)\/(inB l.c0 1 65535=true/\inB l.c1 1 65535=true/\inB l.cap 0 1048576=true/\inB l.delay 1 65536=false/\l.ok t.nodes=false)\/
       (inB l.c0 1 65535=true/\inB l.c1 1 65535=true/\inB l.cap 0 1048576=true/\inB l.delay 1 65536=true/\inB l.group 0 64=l.ok t.nodes))):=by
      unfold Lk.ok;cases l.a==l.b <;> cases ndB t.nodes l.a <;> cases ndB t.nodes l.b <;> cases inB l.c0 1 65535 <;> cases inB l.c1 1 65535 <;> cases inB l.cap 0 1048576 <;> cases inB l.delay 1 65536 <;> simp
     clear qa qe i0 i1 i2 c0 c1;obtain⟨⟨i0,i1,i2⟩,_⟩:=qf.three;generalize hB:(l.a==l.b||!ndB t.nodes l.a||!ndB t.nodes l.b)=bad at*;clear hB;rcases qj with⟨rfl,hf⟩|⟨rfl,⟨d1,hf⟩|⟨d1,d2,hf⟩|⟨d1,d2,d3,hf⟩|⟨d1,d2,d3,d4,hf⟩|⟨d1,d2,d3,d4,d5⟩⟩
     case inr.inr.inr.inr.inr=>
      cases hg:inB l.group 0 64
      ·have hf:=jzel HL.out (d5.symm.trans hg)
       have HF:=Hx hf;clear hf d5
       go_wp2_with (go_at_call 120;refine(jza7 _ _ _ _).mono ?_;rintro e w' ⟨rfl,rfl⟩)
       go_ret;rw [HF.out];exact⟨rfl,qi.out⟩
      ·have OK:=Hx (d5.symm.trans hg)
       clear d5
       go_wp2_with (go_at_call 120;refine(jza7 _ _ _ _).mono ?_;rintro e w' ⟨rfl,rfl⟩)
       go_roundw
       case rel=>exact⟨k+1,by omega,by go_num,qf,fun j l' hj hl'=>by
        by_cases e:j=k
        ·subst e;have:=HL.out;rw [this]at hl';injection hl' with hl';subst hl';exact OK.out
        ·exact qm.out j l' (by omega) hl',qi.out⟩
       case measure=>simp [intOf];omega
     all_goals
      have hf:=jzel HL.out hf;have HF:=Hx hf;clear hf
      go_wp2_with (go_at_call 120;refine(jza7 _ _ _ _).mono ?_;rintro e w' ⟨rfl,rfl⟩)
      go_ret;rw [HF.out];exact⟨rfl,qi.out⟩
   ·have qn:k=t.links.length:=by omega
    subst qn;have HF:=Hx (jzjz (ls:=t.links) (N:=t.nodes) (fun j l hj=>qm.out j l (yH.1 hj).1 hj));go_wp2;go_ret;rw [HF.out];exact⟨rfl,hx⟩
theorem jzb7(t:Tp)(AO:Option Addr)(co:Nat)(AL:Option Addr)(cl:Nat)(w:World)(ht:TopR w t AO co AL cl):
  Calls Tryz.prog 70 #[.agg #[.int .i64 t.nodes,.slice AO t.over.length co,.slice AL t.links.length cl]] w fun e w'=>e=.returned (.bool (validP t))/\Ext w w':=by
 unfold validP;cases hh:headOk t
 ·exact jzim t AO co AL cl w ht hh
 ·rw [Bool.true_and];exact jzin t AO co AL cl w ht hh
theorem jzbr(n lo hi:Int)(w:World):Calls Tryz.prog 55 #[.int .i64 n,.int .i64 lo,.int .i64 hi] w fun e w'=>e=.returned (.bool (inB n lo hi))/\w=w':=jzil n lo hi w
theorem inB_nd(N n:Int):inB n 0 (N-1)=ndB N n:=by unfold inB ndB;rw [decide_eq_decide];omega
theorem jzdc(t:Tp)(AO:Option Addr)(co:Nat)(AL:Option Addr)(cl:Nat)(w:World)(ht:TopR w t AO co AL cl):
  Calls Tryz.prog 19 #[.agg #[.int .i64 t.nodes,.slice AO t.over.length co,.slice AL t.links.length cl]] w fun e w'=>e=.returned (.bool (validP t))/\Ext w w':=by
 have HT:=Hx (ht);have h1:=ht.lo;have h2:=ht.co;have h3:=ht.ll;have h4:=ht.cl;have qt:=ht.nodes;clear ht;obtain⟨qe,e0⟩:=boxes1 w #[.int .i64 t.nodes,.slice AO t.over.length co,.slice AL t.links.length cl] 25;have BA:=Hx (qe)
 have qa:(inB t.nodes 1 64=false/\validP t=false)\/(inB t.nodes 1 64=true/\((((t.over.length:Int) !=0)=true/\((t.over.length:Int) !=t.nodes)=true/\validP t=false)\/
   (((((t.over.length:Int) !=0)=true/\((t.over.length:Int) !=t.nodes)=false)\/((t.over.length:Int) !=0)=false)/\((decide (256<t.links.length)=true/\validP t=false)\/(t.links.length<=256/\validP t=t.links.all (Lk.ok t.nodes)))))):=by
  unfold validP headOk;cases inB t.nodes 1 64
  ·exact .inl ⟨rfl,rfl⟩
  ·refine .inr ⟨rfl,?_⟩
   by_cases k1:t.over.length=0
   ·have e1:((t.over.length:Int) !=0)=false:=by rw [k1];rfl
    refine .inr ⟨.inr e1,?_⟩;by_cases k2:t.links.length<=256
    ·exact .inr ⟨k2,by rw [yO k2,yO k1];rfl⟩
    ·exact .inl ⟨by simp;omega,by rw [yP k2];rfl⟩
   ·have e1:((t.over.length:Int) !=0)=true:=bne_iff_ne.2 (by omega)
    by_cases k3:(t.over.length:Int)=t.nodes
    ·have e2:((t.over.length:Int) !=t.nodes)=false:=by rw [k3];simp
     refine .inr ⟨.inl ⟨e1,e2⟩,?_⟩;by_cases k2:t.links.length<=256
     ·exact .inr ⟨k2,by rw [yO k2,yP k1,yO k3];rfl⟩
     ·exact .inl ⟨by simp;omega,by rw [yP k2];rfl⟩
    ·exact .inl ⟨e1,bne_iff_ne.2 k3,by rw [yP k1,yP k3];simp⟩
 generalize hV:validP t=V at*;have HV:=Hx hV;clear qe hV;rcases qa with⟨k1,rfl⟩|⟨k1,⟨k2,k3,rfl⟩|⟨hh,⟨k4,rfl⟩|⟨k4,k5⟩⟩⟩
 ·skip
  go_enter Tryz.func19,Tryz.ntmps19
  go_wp2_with (go_at_call 55;refine(jzbr _ _ _ _).mono ?_;rintro e w' ⟨rfl,rfl⟩)
  go_ret;exact⟨rfl,e0⟩
 ·skip
  go_enter Tryz.func19,Tryz.ntmps19
  go_wp2_with (go_at_call 55;refine(jzbr _ _ _ _).mono ?_;rintro e w' ⟨rfl,rfl⟩)
  go_ret;exact⟨rfl,e0⟩
 ·have qw:256<t.links.length:=by simpa using k4
  clear k4;rcases hh with⟨k2,k3⟩|k2
  all_goals
   go_enter Tryz.func19,Tryz.ntmps19
   go_wp2_with (go_at_call 55;refine(jzbr _ _ _ _).mono ?_;rintro e w' ⟨rfl,rfl⟩)
   go_ret;exact⟨rfl,e0⟩
 ·have K5:=Hx k5
  clear k5 HV;have hN:1<=t.nodes/\t.nodes<=64:=of_decide_eq_true k1;have qn:=hN.1;have qo:=hN.2;clear hN;rcases hh with⟨k2,k3⟩|k2
  all_goals
   go_enter Tryz.func19,Tryz.ntmps19
   go_wp2_with (go_at_call 55;refine(jzbr _ _ _ _).mono ?_;rintro e w' ⟨rfl,rfl⟩)
   go_loopw [3] (fun i wr=>∃k:Nat,k<=t.links.length/\i=.int .i64 k/\Blk wr w.heap.size 25 #[.int .i64 t.nodes,.slice AO t.over.length co,.slice AL t.links.length cl]/\(∀j l,j<k->t.links[j]?=some l->l.ok t.nodes=true)/\Ext w wr) (fun i _=>t.links.length-(intOf i).toNat)
   case atStart=>exact⟨0,yZ _,rfl,BA.out,fun j l h=>by omega,e0⟩
   case round=>
    obtain⟨k,hk,rfl,qh,qf,hx⟩:=hrel;have qj:=Hx qf;clear qf e0 BA;obtain⟨⟨i0,i1,i2⟩,_⟩:=qh.three;have qp:=qh.lt;by_cases qm:k<t.links.length
    ·obtain⟨l,hl⟩:∃l,t.links[k]?=some l:=⟨_,yG qm⟩
     have HL:=Hx hl;have qi:=HT.out.keep hx;obtain⟨b,o,rfl,hb,c0,c1,c2,c3,c4,c5,c6⟩:=qi.link hl;have HX:=Hx hx;have qg:(inB l.a 0 (t.nodes-1)=false/\l.ok t.nodes=false)\/(inB l.a 0 (t.nodes-1)=true/\inB l.b 0 (t.nodes-1)=false/\l.ok t.nodes=false)\/(inB l.a 0 (t.nodes-1)=true/\inB l.b 0 (t.nodes-1)=true/\(l.a==l.b)=true/\l.ok t.nodes=false)\/
       (inB l.a 0 (t.nodes-1)=true/\inB l.b 0 (t.nodes-1)=true/\(l.a==l.b)=false/\((inB l.c0 1 65535=false/\l.ok t.nodes=false)\/(inB l.c0 1 65535=true/\inB l.c1 1 65535=false/\l.ok t.nodes=false)\/
       (inB l.c0 1 65535=true/\inB l.c1 1 65535=true/\inB l.cap 0 1048576=false/\l.ok t.nodes=false)\/(inB l.c0 1 65535=true/\inB l.c1 1 65535=true/\inB l.cap 0 1048576=true/\inB l.delay 1 65536=false/\l.ok t.nodes=false)\/
       (inB l.c0 1 65535=true/\inB l.c1 1 65535=true/\inB l.cap 0 1048576=true/\inB l.delay 1 65536=true/\inB l.group 0 64=false/\l.ok t.nodes=false)\/
       (inB l.c0 1 65535=true/\inB l.c1 1 65535=true/\inB l.cap 0 1048576=true/\inB l.delay 1 65536=true/\inB l.group 0 64=true/\l.ok t.nodes=true))):=by
      rw [inB_nd,inB_nd];unfold Lk.ok;cases l.a==l.b <;> cases ndB t.nodes l.a <;> cases ndB t.nodes l.b <;> cases inB l.c0 1 65535 <;> cases inB l.c1 1 65535 <;> cases inB l.cap 0 1048576 <;> cases inB l.delay 1 65536 <;> cases inB l.group 0 64 <;> simp
     clear hl qi hx;rcases qg with⟨d1,hf⟩|⟨d1,d2,hf⟩|⟨d1,d2,d3,hf⟩|⟨d1,d2,d3,⟨d4,hf⟩|⟨d4,d5,hf⟩|⟨d4,d5,d6,hf⟩|⟨d4,d5,d6,d7,hf⟩|⟨d4,d5,d6,d7,d8,hf⟩|⟨d4,d5,d6,d7,d8,hf⟩⟩
     case inr.inr.inr.inr.inr.inr.inr.inr=>
      have OK:=Hx hf;clear hf
      go_wp2_with (go_at_call 55;refine(jzbr _ _ _ _).mono ?_;rintro e w' ⟨rfl,rfl⟩)
      go_roundw
      case rel=>exact⟨k+1,by omega,by go_num,qh.alloc _,fun j l' hj hl'=>by
       by_cases e:j=k
       ·subst e;have:=HL.out;rw [this]at hl';injection hl' with hl';subst hl';exact OK.out
       ·exact qj.out j l' (by omega) hl',HX.out.alloc _⟩
      case measure=>simp [intOf];omega
     all_goals
      have hf:=jzel HL.out hf;have HF:=Hx hf;clear hf
      go_wp2_with (go_at_call 55;refine(jzbr _ _ _ _).mono ?_;rintro e w' ⟨rfl,rfl⟩)
      go_ret;rw [K5.out,HF.out];exact⟨rfl,HX.out.alloc _⟩
    ·have qk:k=t.links.length:=by omega
     subst qk;have HF:=Hx (jzjz (ls:=t.links) (N:=t.nodes) (fun j l hj=>qj.out j l (yH.1 hj).1 hj));go_wp2;go_ret;rw [K5.out,HF.out];exact⟨rfl,hx⟩
theorem Tryz.info39:(Tryz.prog.info? 44).map (fun i=>(i.zero,i.size,i.bytes))=some (some (.slice none 0 0),1,24):=by kernel_rfl
theorem Tryz.info3:(Tryz.prog.info? 3).map (fun i=>(i.zero,i.size,i.bytes))=some (some (.int .i64 0),1,8):=by kernel_rfl
def ints(l:List Nat):List Value:=l.map fun a:Nat=>Value.int .i64 (a:Int)
theorem jzx(l:List Nat):(ints l).length=l.length:=by simp [ints]
theorem jzbs(l:List Nat)(a:Nat):ints (l++[a])=ints l++[.int .i64 (a:Int)]:=by simp [ints]
theorem ints_get(l:List Nat)(i:Nat)(h:i<l.length):(ints l)[i]?=some (.int .i64 ((l[i]?.getD 0:Nat):Int)):=by simp [ints,h]
structure Fam(w:World)(g B N:Nat)(V:Nat->Value)(X:Nat->List Nat):Prop where
 row:Blk w g 44 ((List.range N).map V).toArray
 own:∀i,i<N->w.ownsRow B 3 1 (V i) (X i).length (ints (X i))
 sep:∀i j,i<N->j<N->i≠j->(V i).ownBlock=none\/(V i).ownBlock≠(V j).ownBlock
theorem jzfo(N:Nat)(V:Nat->Value)(n:Nat)(v:Value)(hn:n<N):((List.range N).map V).toArray.setIfInBounds n v=((List.range N).map fun i=>if i=n then v else V i).toArray:=by
 apply Array.ext';simp only [yD];apply uK;intro i;by_cases h:i<N
 ·by_cases e:i=n
  ·subst e;simp [h]
  ·rw [vN (by omega)];simp [h,e]
 ·rw [yI (by simp;omega),yI (by simp;omega)]
theorem jzav(N:Nat)(V:Nat->Value)(n:Nat)(hn:n<N):((List.range N).map V).toArray[n]?=some (V n):=by simp [hn]
theorem Fam.far{w:World}{g B N:Nat}{V:Nat->Value}{X:Nat->List Nat}(h:Fam w g B N V X):∀i,i<N->(V i).ownBlock≠some g:=fun i hi=>by
 have ho:=h.own i hi;intro e;obtain⟨_,h2⟩:=ho;rcases h2 with⟨h3,_⟩|⟨g',cap,cur,h3,_,h5,_⟩
 ·rw [h3]at e;cases e
 ·rw [h3]at e
  have:g'=g:=(by simpa [Value.ownBlock]using e);subst this;have hr:=h.row;unfold Blk at hr;rw [h5]at hr;injection hr with hr
  injection hr with _ ht
  revert ht;decide
theorem Fam.rowG{w w1:World}{g B N n:Nat}{V:Nat->Value}{X:Nat->List Nat}(h:Fam w g B N V X)(hn:n<N)(hg:w.grownBy w1 (V n).ownBlock):Blk w1 g 44 ((List.range N).map V).toArray:=
 (hg.block g h.row.lt (fun e=>h.far n hn e.symm)).trans h.row
theorem Fam.app{w w1:World}{g B N n a:Nat}{V:Nat->Value}{X:Nat->List Nat}{v':Value}(h:Fam w g B N V X)(hn:n<N)
  (hown:w1.ownsRow B 3 1 v' ((X n).length+1) (ints (X n)++[.int .i64 (a:Int)])) (hg:w.grownBy w1 (V n).ownBlock) (hb:v'.ownBlock=(V n).ownBlock\/v'.ownBlock=some w.heap.size):
  Fam (w1.setCell ⟨g,n,none⟩ v') g B N (fun i=>if i=n then v' else V i) (fun i=>if i=n then X n++[a]else X i):=by
 have qg:∀i,i<N->(V i).ownBlock≠some g:=fun i hi=>by
  have ho:=h.own i hi;intro e;obtain⟨_,h2⟩:=ho;rcases h2 with⟨h3,_⟩|⟨g',cap,cur,h3,_,h5,_⟩
  ·rw [h3]at e;cases e
  ·rw [h3]at e
   have:g'=g:=(by simpa [Value.ownBlock]using e);subst this;have hr:=h.row;unfold Blk at hr;rw [h5]at hr;injection hr with hr
   injection hr with _ ht
   revert ht;decide
 have qe:Blk w1 g 44 ((List.range N).map V).toArray:=(hg.block g h.row.lt (fun e=>qg n hn e.symm)).trans h.row;have qh:v'.ownBlock≠some g:=by
  rcases hb with e|e
  ·rw [e];exact qg n hn
  ·rw [e];intro e';have:=h.row.lt;injection e' with e';omega
 have qa:∀(u:Value) (m:Nat) (ys:List Value),w1.ownsRow B 3 1 u m ys->u.ownBlock≠some g->(w1.setCell ⟨g,n,none⟩ v').ownsRow B 3 1 u m ys:=fun u m ys ho hu=>by
  refine⟨ho.1,?_⟩;rcases ho.2 with h3|⟨g',cap,cur,h3,h4,h5,h6⟩
  ·exact .inl h3
  ·refine .inr ⟨g',cap,cur,h3,h4,(Below.heap_setCell w1 ⟨g,n,none⟩ v' g' ?_).trans h5,h6⟩
   rintro rfl;exact hu (by rw [h3];simp [Value.ownBlock])
 refine⟨?_,?_,?_⟩
 ·rw [<-jzfo N V n v' hn];exact qe.set_ n v'
 ·intro i hi
  by_cases e:i=n
  ·subst e
   simp only [if_true];rw [yQ,jzbs];exact qa _ _ _ hown qh
  ·simp only [if_neg e]
   refine qa _ _ _ ((h.own i hi).kept hg ?_) (qg i hi);rcases h.sep i n hi hn e with h1|h1
   ·exact .inl h1
   ·exact .inr h1
 ·intro i j hi hj qf
  have qi:∀k,k<N->(V k).ownBlock≠some w.heap.size:=fun k hk e=>by
   have:=(h.own k hk).lt _ e;omega
  by_cases ei:i=n
  ·subst ei
   simp only [if_true,if_neg (fun e:j=i=>qf e.symm)];rcases hb with e|e
   ·rw [e];exact h.sep i j hi hj qf
   ·rw [e];right;exact fun e'=>qi j hj e'.symm
  ·simp only [if_neg ei]
   by_cases ej:j=n
   ·subst ej
    simp only [if_true];rcases hb with e|e
    ·rw [e];exact h.sep i j hi hj qf
    ·rw [e];right;exact qi i hi
   ·simp only [if_neg ej];exact h.sep i j hi hj qf
theorem Fam.alloc{w:World}{g B N:Nat}{V:Nat->Value}{X:Nat->List Nat}(h:Fam w g B N V X)(o:Obj):Fam (w.alloc o) g B N V X:=
 ⟨h.row.alloc o,fun i hi=>(h.own i hi).alloc o,h.sep⟩
theorem Fam.keep{w w':World}{g B N:Nat}{V:Nat->Value}{X:Nat->List Nat}(h:Fam w g B N V X)(hx:Ext w w'):Fam w' g B N V X:=
 ⟨h.row.keep hx,fun i hi=>(h.own i hi).kept (row:=none) ⟨hx.os,hx.tape,hx.output,hx.size,fun k hk _=>hx.block k hk⟩ (by
  by_cases e:(V i).ownBlock=none
  ·exact .inl e
  ·exact .inr e),h.sep⟩
def leavTo(t:Tp)(m n:Nat):List Nat:=(List.range m).filter fun a=>tailP t a==(n:Int)
def leavP(t:Tp)(n:Nat):List Nat:=leavTo t (2*t.links.length) n
theorem jzio(t:Tp)(m n:Nat):leavTo t (m+1) n=if tailP t m==(n:Int)then leavTo t m n++[m]else leavTo t m n:=by
 unfold leavTo;rw [List.range_succ,List.filter_append];by_cases h:tailP t m==(n:Int) <;> simp [h]
theorem jzb8(t:Tp)(m n:Nat):(leavTo t m n).length<=m:=by
 unfold leavTo;exact yY (List.length_filter_le _ _) (by simp)
def LL(w:World)(g N:Nat)(X:Nat->List Nat):Prop:=
 ∃V:Nat->Value,Blk w g 44 ((List.range N).map V).toArray/\∀i,i<N->∃(A:Option Addr) (c:Nat),V i=.slice A (X i).length c/\(X i).length<=c/\RdT w 3 A (ints (X i))
theorem LL.keep{w w':World}{g N:Nat}{X:Nat->List Nat}(h:LL w g N X)(hx:Ext w w'):LL w' g N X:=by
 obtain⟨V,h1,h2⟩:=h;refine⟨V,h1.keep hx,fun i hi=>?_⟩;obtain⟨A,c,h3,h4,h5⟩:=h2 i hi;exact⟨A,c,h3,h4,h5.keep hx⟩
theorem jzai{w:World}{B n:Nat}{v:Value}{l:List Nat}(h:w.ownsRow B 3 1 v n (ints l))(hn:n=l.length):∃(A:Option Addr) (c:Nat),v=.slice A l.length c/\l.length<=c/\RdT w 3 A (ints l):=by
 subst hn;obtain⟨h1,h2⟩:=h;rcases h2 with⟨h3,h4⟩|⟨g',cap,cur,h3,h4,h5,h6,h7,h8,h9⟩
 ·have:l=[]:=by simpa [ints]using h4
  subst this;exact⟨none,0,h3,yX _,RdT.nil _ _ _⟩
 ·refine⟨some ⟨g',0,none⟩,cap,h3,h6,fun _=>⟨g',0,cur,(0,0),rfl,h5,fun i hi=>?_⟩⟩
  rw [<-h9,xG,if_pos (by rw [jzx]at hi;omega),Nat.zero_add];simp
theorem Fam.ll{w:World}{g B N:Nat}{V:Nat->Value}{X:Nat->List Nat}(h:Fam w g B N V X):LL w g N X:=
 ⟨V,h.row,fun i hi=>jzai (h.own i hi) rfl⟩
theorem jzco(t:Tp)(AO:Option Addr)(co:Nat)(AL:Option Addr)(cl:Nat)(w:World)(ht:TopR w t AO co AL cl)(hv:validP t=true):
  Calls Tryz.prog 82 #[.agg #[.int .i64 t.nodes,.slice AO t.over.length co,.slice AL t.links.length cl]] w fun e w'=>∃g N:Nat,t.nodes=(N:Int)/\e=.returned (.slice (some ⟨g,0,none⟩) N N)/\LL w' g N (leavP t)/\Ext w w':=by
 have hN:∃N:Nat,t.nodes=(N:Int)/\1<=N/\N<=64/\t.links.length<=256:=by
  unfold validP headOk inB at hv;simp at hv;exact⟨t.nodes.toNat,by omega,by omega,by omega,by omega⟩
 have qH:∀a,a<2*t.links.length->∃n:Nat,tailP t a=(n:Int)/\(n:Int)<t.nodes:=fun a ha=>by
  unfold validP at hv;rw [vM]at hv;obtain⟨l,hl⟩:∃l,t.links[a/2]?=some l:=⟨_,yG (by omega)⟩;have qI:=xW.1 hv.2 l (yJ hl);unfold Lk.ok ndB at qI;simp at qI;unfold tailP;rw [hl];simp only []
  split
  ·exact⟨l.a.toNat,by omega,by omega⟩
  ·exact⟨l.b.toNat,by omega,by omega⟩
 obtain⟨N,qp,qX,qY,qV⟩:=hN;have HN:=Hx (qp);have HT:=Hx (ht);have TL:=Hx (qH);have h3:=ht.ll;have h4:=ht.cl;clear ht hv qH;obtain⟨ti,hi,qN,qM,qP⟩:=info_parts Tryz.info3;obtain⟨qg,e0⟩:=boxes1 w #[.int .i64 (N:Int),.slice AO t.over.length co,.slice AL t.links.length cl] 25;have qQ:=run_make_row' (P:=Tryz.prog) 72 44 (.slice none 0 0) 24 Tryz.underlying72 Tryz.info39 rfl .i64 .i64 N (by omega) (by omega);have qn:(Value.agg #[.int .i64 t.nodes,.slice AO t.over.length co,.slice AL t.links.length cl])=.agg #[.int .i64 (N:Int),.slice AO t.over.length co,.slice AL t.links.length cl]:=(by rw [qp]);rw [qn];clear qn;have qk:∀(W:World),Ext w W->Calls Tryz.prog 68 #[.agg #[.int .i64 (N:Int),.slice AO t.over.length co,.slice AL t.links.length cl]] W fun e w'=>e=.returned (.int .i64 (2*(t.links.length:Int)))/\Ext W w':=fun W hW=>by
  have:=jzac t AO co AL cl W (HT.out.keep hW);rw [qp]at this;exact this
 have qm:∀(W:World) (a:Nat),Ext w W->a/2<t.links.length->Calls Tryz.prog 111 #[.agg #[.int .i64 (N:Int),.slice AO t.over.length co,.slice AL t.links.length cl],.int .i64 a] W fun e w'=>e=.returned (.int .i64 (tailP t a))/\Ext W w':=fun W a hW ha=>by
  have:=jzej t AO co AL cl a W (HT.out.keep hW) ha;rw [qp]at this;exact this
 have qw:=Hx (qk);have qC:=Hx (qm);clear qk qm qp
 go_enter Tryz.func82,Tryz.ntmps82
 go_wp2_with fail
 refine(qw.out _ (e0.alloc _)).mono ?_;rintro e w1 ⟨rfl,qt⟩;have E1:=Hx ((e0.alloc _).tr qt);have qe:Fam ((w.alloc (.cells #[.int .i64 (N:Int),.slice AO t.over.length co,.slice AL t.links.length cl] 25)).alloc (.cells (madeCells #[.slice none 0 0] N) 44)) (w.heap.size+1) (w.heap.size+2) N (fun _=>.slice none 0 0) (fun _=>[]):=by
  refine⟨?_,fun i hi=>World.ownsRow_nil _ _ _ _,fun i j _ _ _=>.inl rfl⟩;have e:((List.range N).map fun _=>Value.slice none 0 0).toArray=madeCells #[.slice none 0 0] N:=by
   apply Array.toList_inj.1;rw [toList_madeCells_one];simp only [List.map_const',List.length_range]
  rw [e];exact Blk.new' _ _ _ (by simp)
 have qe:=qe.keep qt;have qg:=(qg.alloc (.cells (madeCells #[.slice none 0 0] N) 44)).keep qt;have z1:w.heap.size+2<=w1.heap.size:=(by have:=qt.size;simp at this;omega);clear qt e0 qQ qw;go_wp2
 go_loopw [11] (fun it wr=>∃(m:Nat) (V:Nat->Value),m<=2*t.links.length/\it=.int .i64 m/\Fam wr (w.heap.size+1) (w.heap.size+2) N V (leavTo t m)/\Blk wr w.heap.size 25 #[.int .i64 (N:Int),.slice AO t.over.length co,.slice AL t.links.length cl]/\Ext w wr) (fun i _=>2*t.links.length-(intOf i).toNat)
 case atStart=>exact⟨0,_,yZ _,rfl,qe,qg,E1.out⟩
 case round=>
  clear qe qg E1;obtain⟨m,V,hm,rfl,qe,qg,hx⟩:=hrel;obtain⟨⟨i0,i1,i2⟩,g0,g1,g2⟩:=qg.three;by_cases qL:m<2*t.links.length
  ·obtain⟨n,qG,qD⟩:=TL.out m qL
   rw [HN.out]at qD;have hn:n<N:=(by omega);have TN:=Hx qG;have qE:=Hx qe;have E:=Hx hx;clear qG qD qe hx
   go_wp2_with fail
   refine(qC.out _ m E.out (by omega)).mono ?_;rintro e w2 ⟨rfl,qy⟩;rw [TN.out];have qf:=Hx (qE.out.keep qy);have qg:=qg.keep qy;have E2:=Hx (E.out.tr qy);have qW:w.heap.size+2<=w2.heap.size:=(by have:=qf.out.row.lt;omega);have qO:w2.cell? ⟨w.heap.size+1,n,none⟩=some (V n):=(qf.out.row.cell n).trans (jzav N V n hn);have qj:=qf.out.own n hn;have qS:=jzb8 t m n;have j1:(n:Int)<(N:Int):=(by omega);obtain⟨A,c,hV,_,_⟩:=jzai qj rfl;rw [hV]at qO qj;have HV:=Hx hV;have qF:=Hx qj;clear hV qj qy;generalize hL:(leavTo t m n).length=L at*;have HL:=Hx hL;clear hL
   go_wp2_with (at_builtin;go_must (refine wpList_append_own_at _ rfl (.tmp 22) (.tmp 24) 44 rfl (w.heap.size+2) 3 ti (.int .i64 0) 1 8 Tryz.underlying44 hi qN qM qP rfl (by decide) (.slice A L c) L (ints (leavTo t m n)) rfl (qF.out.alloc _) ⟨w2.heap.size,0,none⟩ 1 1 [.int .i64 (m:Int)] rfl rfl ?c1 ?c2 ?c3 ?c4 ?c5 ?_))
   case c1=>
    intro j u hj
    match j,hj with
    |0,hj=>simp at hj;subst hj;simp [Addr.add]
   case c2=>intro u hu;simp at hu;subst hu;rfl
   case c3=>unfold maxLen;omega
   case c4=>omega
   case c5=>simp;omega
   intro v' w3 qi qa _ qz;have qo:=Hx (qf.out.alloc (.cells #[.int .i64 (m:Int)] 3));rw [<-HV.out]at qa qz;have qh:=qo.out.rowG hn qa;have qU:w3.cell? ⟨w.heap.size+1,n,none⟩=some (V n):=(qh.cell n).trans (jzav N V n hn);have qZ:=qh.frozen n;rw [HV.out]at qU;have qA:Below w.heap.size w w3:=(E2.out.alloc (.cells #[.int .i64 (m:Int)] 3)).grown qa (by simp;omega) (fun k hk=>by have:=(qf.out.own n hn).lt k hk;omega);have qB:Blk w3 w.heap.size 25 #[.int .i64 (N:Int),.slice AO t.over.length co,.slice AL t.links.length cl]:=(qa.block w.heap.size (by have:=qg.lt;simp;omega) (fun e=>by have:=(qf.out.own n hn).lt _ e.symm;omega)).trans (qg.alloc _);have qK:∃g' cap,v'=.slice (some ⟨g',0,none⟩) (L+1) cap:=by
    rcases qi.2 with⟨_,h⟩|⟨g',cap,_,h,_⟩
    ·omega
    ·exact⟨g',cap,h⟩
   obtain⟨g',cap,qJ⟩:=qK;subst qJ;have qx:=Hx (qo.out.app (a:=m) hn (by rw [HL.out];exact qi) qa (by simpa using qz));have hX:(fun i=>if i=n then leavTo t m n++[m]else leavTo t m i)=leavTo t (m+1):=by
    funext i
    rw [jzio,TN.out];by_cases e:i=n
    ·subst e;simp
    ·rw [if_neg e,if_neg (by simp;omega)]
   rw [hX]at qx;clear hX qa qz qi qh qF qE qf qo qg;go_wp2
   go_roundw
   case rel=>exact⟨m+1,_,by omega,by go_num,qx.out,qB.far (by simp) _,Ext.set_ qA (by simp) _⟩
   case measure=>simp [intOf];omega
  ·have qR:m=2*t.links.length:=by omega
   subst qR;have qT:=Hx qe.ll;have E:=Hx hx;clear qe hx;go_wp2;go_ret;exact⟨_,N,HN.out,rfl,qT.out,E.out⟩
theorem jzj0(t:Tp)(a:Nat):headP t a=tailP t (a/2*2+1-a%2):=by
 rw [jzg3]
 congr 1
 rw [jzjx]
 split <;> omega
section
variable {P:Program} (w:World)
theorem jzcp(b o j:Nat):(⟨b,o,none⟩:Addr).add j=⟨b,o+j,none⟩:=by unfold Addr.add;split <;> simp_all
theorem jzfp(base:Nat)(t ty e:TypeId)(i:TypeInfo)(z:Value)(bytes:Nat)(ht:P.underlying t=some (.slice e))(hi:P.info? e=some i)(hz:i.zero=some z)
  (hsize:i.size=1) (hby:i.bytes=bytes) (hzs:z.cells.size=1)
  (v:Value) (n:Nat) (xs:List Value) (hown:w.ownsRow base e 1 v n xs)
  (A:Option Addr) (m c:Nat) (news:List Value) (hm:m=news.length) (hr:Rd w A news) (hA:A=none->m=0/\c=0\/m=0) (h1:∀u∈news,u.oneCell'=true)
  (h63:n+m<=maxLen) (hbytes:(n+m)*bytes<=140737488355328) (hbase:base<=w.heap.size):
  ∃v' w',(Builtin.append_ #[t,t] ty #[v,.slice A m c]).run P w=.ok v' w'/\w'.ownsRow base e 1 v' (n+m) (xs++news)/\w.grownBy w' v.ownBlock/\
   (v'.ownBlock=v.ownBlock\/v'.ownBlock=some w.heap.size):=by
 rcases A with _|ad
 ·have qf:m=0:=by rcases hA rfl with h|h <;> omega
  subst qf;have hn:news=[]:=List.eq_nil_of_length_eq_zero hm.symm;subst hn;refine⟨v,w,?_,by simpa using hown,World.grownBy.refl w _,.inl rfl⟩;rcases hown.2 with⟨rfl,rfl⟩|⟨g,cap,cur,rfl,_,_,hnc,_⟩
  ·simp [Builtin.append_,run_underlying ht,sizeOf,typeInfo,hi,Builtin.lenOf,Builtin.firstCells]
  ·simp [Builtin.append_,run_underlying ht,sizeOf,typeInfo,hi,Builtin.lenOf,Builtin.firstCells,hnc,storeCells]
 ·have qa:∀j u,news[j]?=some u->w.cell? (ad.add j)=some u:=by
   intro j u hu;have hj:j<news.length:=(yH.1 hu).1;obtain⟨b,o,he,_,hc⟩:=hr.at_ hj;injection he with he
   subst he;rw [jzcp,hc j hj,hu]
  obtain⟨v',w',qe,h2,h3,_,h5⟩:=run_append_own_at (P:=P) w base t ty e i z 1 bytes ht hi hz hsize hby hzs (by omega) v n xs hown ad m c news (by rw [hm,Nat.mul_one]) qa h1 h63 hbytes hbase;exact⟨v',w',qe,h2,h3,h5⟩
theorem jzy{o:Oper}{a:Act}{K:Act->World->Prop}{Q:Exit->Act->World->Prop}(s x:Operand)(t:TypeId)
  (ho:o.op=.call {callee:=.builtin .append,args:=#[s,x],argTypes:=#[t,t]})
  (base:Nat) (e:TypeId) (i:TypeInfo) (z:Value) (bytes:Nat) (ht:P.underlying t=some (.slice e)) (hi:P.info? e=some i) (hz:i.zero=some z)
  (hsize:i.size=1) (hby:i.bytes=bytes) (hzs:z.cells.size=1)
  (v:Value) (n:Nat) (xs:List Value) (hs:a.eval s=v) (hown:w.ownsRow base e 1 v n xs)
  (A:Option Addr) (m c:Nat) (news:List Value) (hx:a.eval x=.slice A m c) (hm:m=news.length) (hr:Rd w A news) (hA:A=none->m=0/\c=0\/m=0) (h1:∀u∈news,u.oneCell'=true)
  (h63:n+m<=maxLen) (hbytes:(n+m)*bytes<=140737488355328) (hbase:base<=w.heap.size)
  (h:∀v' w',w'.ownsRow base e 1 v' (n+m) (xs++news)->w.grownBy w' v.ownBlock->(v'.ownBlock=v.ownBlock\/v'.ownBlock=some w.heap.size)->K (a.put o.dst v') w'):o.wp P a w K Q:=by
 obtain⟨v',w',qa,h2,h3,h4⟩:=jzfp (P:=P) w base t o.type e i z bytes ht hi hz hsize hby hzs v n xs hown A m c news hm hr hA h1 h63 hbytes hbase;unfold Oper.wp execOp;simp only [ho,resolve,invoke,builtin,Sem.run_bind,Sem.run_pure,Result.andThen_ok,List.map_toArray,List.map_cons,List.map_nil,hs,hx,qa];exact h v' w' h2 h3 h4
theorem jzbg{ops:Array Oper}{rest:List Oper}{o:Oper}{a:Act}{Q:Exit->Act->World->Prop}(hgd:o.guard=none)(s x:Operand)(t:TypeId)
  (ho:o.op=.call {callee:=.builtin .append,args:=#[s,x],argTypes:=#[t,t]})
  (base:Nat) (e:TypeId) (i:TypeInfo) (z:Value) (bytes:Nat) (ht:P.underlying t=some (.slice e)) (hi:P.info? e=some i) (hz:i.zero=some z)
  (hsize:i.size=1) (hby:i.bytes=bytes) (hzs:z.cells.size=1)
  (v:Value) (n:Nat) (xs:List Value) (hs:a.eval s=v) (hown:w.ownsRow base e 1 v n xs)
  (A:Option Addr) (m c:Nat) (news:List Value) (hx:a.eval x=.slice A m c) (hm:m=news.length) (hr:Rd w A news) (hA:A=none->m=0/\c=0\/m=0) (h1:∀u∈news,u.oneCell'=true)
  (h63:n+m<=maxLen) (hbytes:(n+m)*bytes<=140737488355328) (hbase:base<=w.heap.size)
  (h:∀v' w',w'.ownsRow base e 1 v' (n+m) (xs++news)->w.grownBy w' v.ownBlock->(v'.ownBlock=v.ownBlock\/v'.ownBlock=some w.heap.size)->wpList P ops Q rest (a.put o.dst v') w'):wpList P ops Q (o::rest) a w:=
 wpList_plain hgd fun _ hK=>jzy w s x t ho base e i z bytes ht hi hz hsize hby hzs v n xs hs hown A m c news hx hm hr hA h1 h63 hbytes hbase fun v' w' h2 h3 h4=>hK _ _ (h v' w' h2 h3 h4)
end
theorem jzj1(l:List Nat):∀u∈ints l,u.oneCell'=true:=by
 intro u hu;simp only [ints,List.mem_map]at hu;obtain⟨_,_,rfl⟩:=hu;rfl
theorem jza8{w:World}{i:Nat}{o:Obj}(h:w.heap[i]?=some o):i<w.heap.size:=by
 rcases Nat.lt_or_ge i w.heap.size with hlt|hge
 ·exact hlt
 ·rw [Array.getElem?_eq_none hge]at h;cases h
theorem jzj2{t:Tp}(hv:validP t=true){a:Nat}(ha:a<2*t.links.length):∃h:Nat,headP t a=(h:Int)/\(h:Int)<t.nodes:=by
 rw [jzj0];have qe:a/2*2+1-a%2<2*t.links.length:=(by omega);generalize a/2*2+1-a%2=b at*;unfold validP at hv;rw [vM]at hv;obtain⟨l,hl⟩:∃l,t.links[b/2]?=some l:=⟨_,yG (by omega)⟩;have qa:=xW.1 hv.2 l (yJ hl);unfold Lk.ok ndB at qa;simp at qa;unfold tailP;rw [hl];simp only []
 split
 ·exact⟨l.a.toNat,by omega,by omega⟩
 ·exact⟨l.b.toNat,by omega,by omega⟩
theorem leavP_lt{t:Tp}{n a:Nat}(h:a∈leavP t n):a<2*t.links.length:=by
 unfold leavP leavTo at h;rw [List.mem_filter]at h
 simpa using h.1
theorem jzc{w:World}{p:Addr}{v:Value}(h:w.cell? p=some v)(o:Obj):(w.alloc o).cell? p=some v:=by
 have hb:p.block<w.heap.size:=by
  unfold World.cell? at h;rcases Nat.lt_or_ge p.block w.heap.size with hlt|hge
  ·exact hlt
  ·rw [Array.getElem?_eq_none hge]at h;simp at h
 exact(World.cell?_of_block (Below.heap_alloc _ _ _ hb)).trans h
theorem Tryz.info4:(Tryz.prog.info? 4).map (fun i=>(i.zero,i.size,i.bytes))=some (some (.bool false),1,1):=by kernel_rfl
def simBad2(t:Tp)(s d:Int):Bool:=decide (s<0)||decide (s≥t.nodes)||decide (d<0)||decide (d≥t.nodes)
theorem Rd.ints_{w:World}{A:Option Addr}{l:List Nat}(h:Rd w A (ints l)){k:Nat}(hk:k<l.length):
  ∃b o,A=some ⟨b,o,none⟩/\b<w.heap.size/\w.cell? ⟨b,o+k,none⟩=some (.int .i64 ((l[k]?.getD 0:Nat):Int)):=by
 obtain⟨b,o,e,hb,hc⟩:=h.at_ (i:=k) (by rw [jzx];exact hk);exact⟨b,o,e,hb,(hc k (by rw [jzx];exact hk)).trans (ints_get l k hk)⟩
section
variable {P:Program} (w:World)
end
def on(l:List Bool)(x:Nat):Prop:=l[x]?.getD false=true
theorem RdT.grown{w w':World}{t:TypeId}{A:Option Addr}{xs:List Value}{row:Option Nat}(h:RdT w t A xs)(hg:w.grownBy w' row)(hne:xs≠ []->∀a,A=some a->some a.block≠row):RdT w' t A xs:=fun hx=>by
 obtain⟨b,o,cs,fr,e,hb,hc⟩:=h hx;exact⟨b,o,cs,fr,e,(hg.block b (jza8 hb) (hne hx _ e)).trans hb,hc⟩
section
variable {w0 wR w w':World} {gs:Nat} {clo:Value} {vis:List Bool} {ps:List (List Nat)} {path:List Nat} {pv qv:Value}
theorem jzn(hx:Ext w w'):w.grownBy w' none:=⟨hx.os,hx.tape,hx.output,hx.size,fun k hk _=>hx.block k hk⟩
theorem jzr(v:Value):v.ownBlock=none\/v.ownBlock≠none:=Classical.em _
theorem jze(w:World)(g k:Nat)(u:Value):w.grownBy (w.setCell ⟨g,k,none⟩ u) (some g):=
 ⟨rfl,rfl,rfl,by simp [World.setCell],fun i _ hne=>Below.heap_setCell w ⟨g,k,none⟩ u i (fun e=>hne (by rw [e]))⟩
theorem own_ne{B n g:Nat}{e:TypeId}{v:Value}{xs:List Value}(h:w.ownsRow B e 1 v n xs)(hg:g<B):v.ownBlock=none\/v.ownBlock≠some g:=by
 right
 intro e;have:=(h.lt g e).1;omega
end
end Go.Proofs.YthbmikapohlikaaGreatDoor
