/- Part 4 of 23 of what the Flows claims share (the white space is struck, the texts are joined). -/
import Derived.Maps.AppendAt
import Derived.Deep.AppendLies
import Derived.Lib.OwnKind
import Derived.Deep.Onto
import Derived.Deep.AppendSrc
import Derived.Test.YtllmekijiohgmaaGreatDoorT03
set_option linter.unusedVariables false
set_option linter.unusedSimpArgs false
set_option maxRecDepth 100000
set_option maxHeartbeats 8000000
namespace Go.Proofs.YtllmekijiohgmaaGreatDoor
open Go.RowKit
structure Lk where
 a:Int
 b:Int
 c0:Int
 c1:Int
 cap:Int
 delay:Int
 group:Int
structure Tp where
 nodes:Int
 over:List Bool
 links:List Lk
def Lk.cells(l:Lk):List Value:=[vI l.a,vI l.b,vI l.c0,vI l.c1,vI l.cap,vI l.delay,vI l.group]
def aG(l:List Bool):List Value:=l.map Value.bool
def i64(x:Int):Prop:= -9223372036854775808<=x/\x<=9223372036854775807
def Lk.wf(l:Lk):Prop:=i64 l.a/\i64 l.b/\i64 l.c0/\i64 l.c1/\i64 l.cap/\i64 l.delay/\i64 l.group
structure aF(w:World)(t:Tp)(AO:OA)(co:Nat)(AL:OA)(cl:Nat):Prop where
 nodes:i64 t.nodes
 lo:t.over.length<=co
 ll:t.links.length<=cl
 co:t.over.length<=281474976710656
 cl:t.links.length<=281474976710656
 over:Rd w AO (aG t.over)
 links:Rd w AL (t.links.flatMap Lk.cells)
 wf:∀l∈t.links,l.wf
theorem aF.K{w w'}{t}{AO}{co:Nat}{AL}{cl:Nat}(h:aF w t AO co AL cl)(hb:Ext w w'):aF w' t AO co AL cl:=
 ⟨h.nodes,h.lo,h.ll,h.co,h.cl,h.over.K hb,h.links.K hb,h.wf⟩
theorem jzd0(ls:List Lk)(i k:Nat)(hi:i<ls.length)(hk:k<7):(ls.flatMap Lk.cells)[i*7+k]?=(ls[i]).cells[k]?:=by
 (induction ls generalizing i with|nil=>simp at hi|cons l ls ih=>(cases i with|zero=>simp only[xU,Nat.zero_mul,kQu,yB];rw[yR (by simp[Lk.cells];omega)]|succ i=>simp only[xU,yC];rw[yS (by simp[Lk.cells];omega),show(i+1)*7+k-l.cells.length=i*7+k by simp[Lk.cells];omega];exact ih i (by simpa using hi)))
theorem jzd1(ls:List Lk):(ls.flatMap Lk.cells).length=ls.length*7:=by
 (induction ls with|nil=>rfl|cons l ls ih=>simp only[xU,yQ,ih,kQo];simp[Lk.cells];omega)
theorem aF.link{w}{t}{AO}{co:Nat}{AL}{cl:Nat}(h:aF w t AO co AL cl){i:Nat}{l:Lk}(hl:t.links[i]?=some l):
  ∃b o:Nat,AL=some (aD b o)/\b<w.heap.size/\(w.cell? (aD b (o+i*7))=some (vI l.a)/\w.cell? (aD b (o+i*7+1))=some (vI l.b)/\w.cell? (aD b (o+i*7+2))=some (vI l.c0)/\
   w.cell? (aD b (o+i*7+3))=some (vI l.c1)/\w.cell? (aD b (o+i*7+4))=some (vI l.cap)/\w.cell? (aD b (o+i*7+5))=some (vI l.delay)/\w.cell? (aD b (o+i*7+6))=some (vI l.group)):=by
 obtain⟨hi,he⟩:=yH.1 hl;have qa:=jzd1 t.links;obtain⟨b,o,e,qe,hc⟩:=h.links (by intro e;rw[e]at qa;simp at qa;omega);have hk:∀k,k<7->w.cell? (aD b (o+i*7+k))=l.cells[k]?:=fun k hk=>(by rw[kZw,hc (i*7+k) (by rw[qa];omega),jzd0 t.links i k hi hk,he]);exact⟨b,o,e,qe,hk 0 (by omega),hk 1 (by omega),hk 2 (by omega),hk 3 (by omega),hk 4 (by omega),hk 5 (by omega),hk 6 (by omega)⟩
def aX(t:Tp)(a:Nat):Int:=match t.links[a/2]? with
 |some l=>if a%2=0 then l.a else l.b
 |none=> -1
def aJ(t:Tp)(a:Nat):Int:=match t.links[a/2]? with
 |some l=>if a%2=0 then l.b else l.a
 |none=> -1
def aZ(t:Tp)(n:Int):Bool:=t.over[n.toNat]?.getD false
theorem jzd2(n lo hi:Int)w:
  Calls Tryz.prog 167 #[vI n,vI lo,vI hi] w fun e w'=>e=.returned (.bool (decide (lo<=n/\n<=hi)))/\w=w':=by
 have hd:decide (lo<=n/\n<=hi)=(decide (lo<=n)&&decide (n<=hi)):=(by simp);rw[hd];clear hd;by_cases h1:lo<=n;{(have qa:decide (lo<=n)=true:=by simpa using h1);rw[qa];go_enter Tryz.func167,Tryz.ntmps167;go_wp2;go_ret;exact⟨by simp,rfl⟩};have qa:decide (lo<=n)=false:=(by simpa using h1);rw[qa];go_enter Tryz.func167,Tryz.ntmps167;go_wp2;go_ret;exact⟨by simp,rfl⟩
theorem jzd3(n lo hi:Int)w:
  Calls Tryz.prog 83 #[vI n,vI lo,vI hi] w fun e w'=>e=.returned (.bool (decide (lo<=n/\n<=hi)))/\w=w':=by
 have hd:decide (lo<=n/\n<=hi)=(decide (lo<=n)&&decide (n<=hi)):=(by simp);rw[hd];clear hd;by_cases h1:lo<=n;{(have qa:decide (lo<=n)=true:=by simpa using h1);rw[qa];go_enter Tryz.func83,Tryz.ntmps83;go_wp2;go_ret;exact⟨by simp,rfl⟩};have qa:decide (lo<=n)=false:=(by simpa using h1);rw[qa];go_enter Tryz.func83,Tryz.ntmps83;go_wp2;go_ret;exact⟨by simp,rfl⟩
theorem eX t AO(co:Nat)AL(cl:Nat)(a:Nat)w(ht:aF w t AO co AL cl)(ha:a/2<t.links.length):
  Calls Tryz.prog 52 #[.agg #[vI t.nodes,.s AO t.over.length co,.s AL t.links.length cl],vI a] w fun e w'=>e=.returned (vI (aX t a))/\Ext w w':=by
 (have hl:=ht.ll;have qe:=ht.cl;obtain⟨l,qa⟩:∃l,t.links[a/2]?=some l:=⟨_,yG ha⟩;obtain⟨b,o,rfl,hb,c0,c1,_⟩:=ht.link qa;have hv:aX t a=if a%2=0 then l.a else l.b:=by unfold aX;rw[qa]);rw[hv];clear ht qa hv;by_cases h:a%2=0;{rw[if_pos h];have h':(((a:Int)%2)==0)=true:=(by simp;omega);clear h;go_enter Tryz.func52,Tryz.ntmps52;go_wp2;go_ret;exact⟨rfl,(eR w).alloc _⟩};rw[if_neg h];have h':(((a:Int)%2)==0)=false:=yK.2 (by omega);clear h;go_enter Tryz.func52,Tryz.ntmps52;go_wp2;go_ret;exact⟨rfl,(eR w).alloc _⟩
theorem pU(a:Nat):a^^^1=if a%2=0 then a+1 else a-1:=by
 have h:(a^^^1)/2=a/2:=(by rw[Nat.xor_div_two];simp);have h2:=@Nat.xor_mod_two_eq_one a 1;split <;> omega
theorem jzd4(a:Nat)(ha:a<9223372036854775808):bits BinOp.xor IntKind.i64 (a:Int) 1=((a^^^1:Nat):Int):=by
 have hx:a^^^1<2^63:=Nat.xor_lt_two_pow (by omega) (by omega);show IntKind.i64.wrap ((BitVec.ofInt 64 (a:Int)^^^BitVec.ofInt 64 (1:Int)).toNat:Int)=_;have e1:(BitVec.ofInt 64 (a:Int)).toNat=a:=(by rw[BitVec.ofInt_natCast,BitVec.toNat_ofNat];exact kQv (by omega));have e2:(BitVec.ofInt 64 (1:Int)).toNat=1:=(by decide);rw[BitVec.toNat_xor,e1,e2,IntKind.wrap_i64];omega
theorem uO t(a:Nat):aJ t a=aX t (a^^^1):=by
 (unfold aJ aX;have hx:=pU a;have h1:(a^^^1)/2=a/2:=(by rw[hx];split <;> omega);have h2:(a^^^1)%2=0↔¬a%2=0:=(by rw[hx];split <;> omega);rw[h1];cases t.links[a/2]? with|none=>rfl|some l=>by_cases h:a%2=0;{simp only[if_pos h];rw[if_neg (fun e=>h2.1 e h)]};simp only[if_neg h];rw[if_pos (h2.2 h)])
theorem fM t AO(co:Nat)AL(cl:Nat)(a:Nat)w(ht:aF w t AO co AL cl)(ha:a/2<t.links.length):
  Calls Tryz.prog 87 #[.agg #[vI t.nodes,.s AO t.over.length co,.s AL t.links.length cl],vI a] w fun e w'=>e=.returned (vI (aJ t a))/\Ext w w':=by
 have hl:=ht.ll;have qg:=ht.cl;have hb:=jzd4 a (by omega);have hx:=pU a;have qf:(a^^^1)/2<t.links.length:=(by rw[hx];split <;> omega);rw[uO];have HT:=Hx (ht);generalize a^^^1=a' at*;clear hx ht;obtain⟨qe,e0⟩:=bF w #[vI t.nodes,.s AO t.over.length co,.s AL t.links.length cl] 25;go_enter Tryz.func87,Tryz.ntmps87;(go_wp2_with fail);refine(eX t AO co AL cl a' _ (HT.o.K e0) qf).mono ?_;rintro e w1 ⟨rfl,qa⟩;have HX:=Hx (e0.tr qa);clear qa e0 qe;go_wp2;go_ret;exact⟨rfl,HX.o⟩
theorem Rd.bool{w}{A}{l:List Bool}(h:Rd w A (aG l)){k:Nat}(hk:k<l.length):
  ∃b o:Nat,A=some (aD b o)/\b<w.heap.size/\w.cell? (aD b (o+k))=some (.bool (l[k]?.getD false)):=by
 obtain⟨b,o,e,qa,hc⟩:=h.at_ (i:=k) (by simpa [aG]using hk);refine⟨b,o,e,qa,(hc k (by simpa [aG]using hk)).trans ?_⟩;simp[aG,hk]
theorem lI t AO(co:Nat)AL(cl:Nat)(n:Int)w(ht:aF w t AO co AL cl)(h0:0<=n)(hn:t.over=[]\/n<t.over.length):
  Calls Tryz.prog 138 #[.agg #[vI t.nodes,.s AO t.over.length co,.s AL t.links.length cl],vI n] w fun e w'=>e=.returned (.bool (aZ t n))/\Ext w w':=by
 obtain⟨N,rfl⟩:=kQj h0;have qf:=ht.lo;have qg:=ht.co;by_cases he:t.over.length=0;{(have hv:aZ t N=false:=by unfold aZ;rw[kQp.1 he];rfl);rw[hv];have hz:(t.over.length:Int)=0:=(by omega);rw[he];clear ht hn hv hz he;go_enter Tryz.func138,Tryz.ntmps138;go_wp2;go_ret;exact⟨rfl,(eR w).alloc _⟩};have hN:N<t.over.length:=(by (rcases hn with h|h);{rw[h]at he;simp at he};omega);obtain⟨b,o,rfl,hb,hc⟩:=ht.over.bool hN;have hv:aZ t N=t.over[N]?.getD false:=rfl;rw[hv];generalize t.over[N]?.getD false=x at*;have qe:decide ((0:Int)<(t.over.length:Int))=true:=(by simp;omega);have qa:0<t.over.length:=(by omega);clear ht hn hv he;go_enter Tryz.func138,Tryz.ntmps138;go_wp2;go_ret;exact⟨rfl,(eR w).alloc _⟩
theorem gF(t:Tp)AO(co:Nat)AL(cl:Nat)(n:Int)w:
  Calls Tryz.prog 103 #[.agg #[vI t.nodes,.s AO t.over.length co,.s AL t.links.length cl],vI n] w fun e w'=>e=.returned (.bool (decide (0<=n/\n<t.nodes)))/\Ext w w':=by
 have hd:decide (0<=n/\n<t.nodes)=(decide (0<=n)&&decide (n<t.nodes)):=(by simp);rw[hd];clear hd;by_cases h1:0<=n;{(have qa:decide (0<=n)=true:=by simpa using h1);rw[qa];go_enter Tryz.func103,Tryz.ntmps103;go_wp2;go_ret;exact⟨by simp,(eR w).alloc _⟩};have qa:decide (0<=n)=false:=(by simpa using h1);rw[qa];go_enter Tryz.func103,Tryz.ntmps103;go_wp2;go_ret;exact⟨by simp,(eR w).alloc _⟩
theorem fN t AO(co:Nat)AL(cl:Nat)w(ht:aF w t AO co AL cl):
  Calls Tryz.prog 76 #[.agg #[vI t.nodes,.s AO t.over.length co,.s AL t.links.length cl]] w fun e w'=>e=.returned (vI (2*(t.links.length:Int)))/\Ext w w':=by
 have h1:=ht.ll;have h2:=ht.cl;clear ht;go_enter Tryz.func76,Tryz.ntmps76;go_wp2;go_ret;exact⟨rfl,(eR w).alloc _⟩
def gG(t:Tp)(down:List Bool):Bool:=decide (down.length=0\/down.length=2*t.links.length)
theorem pV t AO(co:Nat)AL(cl:Nat)AD(cd:Nat)(down:List Bool)w(ht:aF w t AO co AL cl):
  Calls Tryz.prog 107 #[.agg #[vI t.nodes,.s AO t.over.length co,.s AL t.links.length cl],.s AD down.length cd] w fun e w'=>e=.returned (.bool (gG t down))/\Ext w w':=by
 have HT:=Hx (ht);have h1:=ht.ll;have h2:=ht.cl;clear ht;obtain⟨qe,e0⟩:=bF w #[vI t.nodes,.s AO t.over.length co,.s AL t.links.length cl] 25;by_cases h:down.length=0;{(have hz:((down.length:Int)==0)=true:=by rw[h];rfl);have hv:gG t down=true:=(by unfold gG;simp only[decide_eq_true_eq];exact .inl h);rw[hv];clear hv h;go_enter Tryz.func107,Tryz.ntmps107;(go_wp2_with fail);go_ret;exact⟨rfl,e0⟩};have hz:((down.length:Int)==0)=false:=yK.2 (by omega);have hv:((down.length:Int)==2*(t.links.length:Int))=gG t down:=(by unfold gG;by_cases h':down.length=2*t.links.length;{rw[yO (.inr h')];simp;omega};rw[yP (by omega)];exact yK.2 (by omega));generalize gG t down=v at*;clear h;go_enter Tryz.func107,Tryz.ntmps107;(go_wp2_with fail);refine(fN t AO co AL cl _ (HT.o.K e0)).mono ?_;rintro e w1 ⟨rfl,qa⟩;have HX:=Hx (e0.tr qa);clear qa e0 qe;go_wp2;go_ret;exact⟨rfl,HX.o⟩
def aU(down:List Bool)(a:Nat):Bool:=down[a]?.getD false
theorem lJ AD(cd:Nat)(down:List Bool)(a:Nat)w(hd:Rd w AD (aG down))(hc:down.length<=cd)(hcd:down.length<=281474976710656)(ha:down=[]\/a<down.length)(hai:a<=1125899906842624):
  Calls Tryz.prog 109 #[.s AD down.length cd,vI a] w fun e w'=>e=.returned (.bool (aU down a))/\w=w':=by
 by_cases he:down.length=0;{(have hv:aU down a=false:=by unfold aU;rw[kQp.1 he];rfl);rw[hv];rw[he];clear hd ha hv he;go_enter Tryz.func109,Tryz.ntmps109;go_wp2;go_ret;exact⟨rfl,rfl⟩};have hN:a<down.length:=(by (rcases ha with h|h);{rw[h]at he;simp at he};omega);obtain⟨b,o,rfl,hb,qe⟩:=hd.bool hN;have hv:aU down a=down[a]?.getD false:=rfl;rw[hv];generalize down[a]?.getD false=x at*;have qa:0<down.length:=(by omega);clear hd ha hv he;go_enter Tryz.func109,Tryz.ntmps109;go_wp2;go_ret;exact⟨rfl,rfl⟩
def fO(t:Tp)(down:List Bool)(a:Nat)(d:Int):Bool:=!aU down a&&(aJ t a==d||!aZ t (aJ t a))
def XW(w:World):Type:={W:World//Ext w W}
instance instNonemptyXW(w:World):Nonempty (XW w):=⟨⟨w,eR w⟩⟩
def XW.val{w:World}(x:XW w):World:=x.1
theorem XW.ext{w}(x:XW w):Ext w x.val:=x.2
theorem bH{P:Program}{id:Nat}{Q:Exit->Act->World->Prop}{a:Act}{w}{l:List Oper}(hm:P.follows .mixedOrders=true)(hB:Region.lexB .any l.toArray=true)
  (h:wpQuiet P l.toArray (fun w'=>∃x:XW w,w'=x.val) (fun a'=>∀w',(∃x:XW w,w'=x.val)->Q .normal a' w') l a):(Code.region id l.toArray true).wp P Q a w:=
 wp_region_quiet (C:=fun w'=>∃x:XW w,w'=x.val) hm hB ⟨⟨w.drew,(eR w).drewN 1⟩,rfl⟩ (by simpa using h)
theorem Calls.ext_of{P:Program}{f:FuncId}{args:Array Value}{w}{x:XW w}{v:Value}(h:Calls P f args x.val fun e w'=>e=.returned v/\Ext x.val w'):
  Calls P f args x.val fun e w''=>e=.returned v/\∃y:XW w,w''=y.val:=
 h.mono fun _ w' ⟨he,hx⟩=>⟨he,⟨w',x.ext.tr hx⟩,rfl⟩
theorem XW.cell{w:World}(b o:Nat)(v:Value)(hb:b<w.heap.size)(hc:w.cell? (aD b o)=some v):∀x:XW w,x.val.cell? (aD b o)=some v:=fun x=>(x.ext.cell (p:=(aD b o)) hb).trans hc
def inB(n lo hi:Int):Bool:=decide (lo<=n/\n<=hi)
def ndB(N n:Int):Bool:=decide (0<=n/\n<N)
theorem gY(n lo hi:Int)w:Calls Tryz.prog 167 #[vI n,vI lo,vI hi] w fun e w'=>e=.returned (.bool (inB n lo hi))/\w=w':=jzd2 n lo hi w
theorem pW(t:Tp)AO(co:Nat)AL(cl:Nat)(n:Int)w:
 Calls Tryz.prog 103 #[.agg #[vI t.nodes,.s AO t.over.length co,.s AL t.links.length cl],vI n] w fun e w'=>e=.returned (.bool (ndB t.nodes n))/\Ext w w':=gF t AO co AL cl n w
def Lk.ok(N:Int)(l:Lk):Bool:= !(l.a==l.b)&&ndB N l.a&&ndB N l.b&&inB l.c0 1 65535&&inB l.c1 1 65535&&inB l.cap 0 1048576&&inB l.delay 1 65536&&inB l.group 0 64
def cX(t:Tp):Bool:=inB t.nodes 1 64&&decide (t.links.length<=256)&&(decide (t.over.length=0)||decide ((t.over.length:Int)=t.nodes))
def aA(t:Tp):Bool:=cX t&&t.links.all (Lk.ok t.nodes)
theorem jzd5 t AO(co:Nat)AL(cl:Nat)w(ht:aF w t AO co AL cl)(hh:cX t=false):
  Calls Tryz.prog 106 #[.agg #[vI t.nodes,.s AO t.over.length co,.s AL t.links.length cl]] w fun e w'=>e=.returned (.bool false)/\Ext w w':=by
 have h1:=ht.lo;have h2:=ht.co;have h3:=ht.ll;have h4:=ht.cl;clear ht;unfold cX at hh;cases k1:inB t.nodes 1 64;{clear hh;go_enter Tryz.func106,Tryz.ntmps106;(go_wp2_with (go_at_call 167;refine(gY _ _ _ _).mono ?_;rintro e w' ⟨rfl,rfl⟩));go_ret;exact⟨rfl,(eR w).alloc _⟩};by_cases k2:t.links.length<=256;{have k3:((t.over.length:Int) !=0)=true/\((t.over.length:Int) !=t.nodes)=true:=(by rw[k1,yO k2]at hh;simp at hh;simp;exact hh);obtain⟨k3,k4⟩:=k3;clear hh;go_enter Tryz.func106,Tryz.ntmps106;(go_wp2_with (go_at_call 167;refine(gY _ _ _ _).mono ?_;rintro e w' ⟨rfl,rfl⟩));go_ret;exact⟨rfl,(eR w).alloc _⟩};have qa:256<t.links.length:=(by omega);clear hh;go_enter Tryz.func106,Tryz.ntmps106;(go_wp2_with (go_at_call 167;refine(gY _ _ _ _).mono ?_;rintro e w' ⟨rfl,rfl⟩));go_ret;exact⟨rfl,(eR w).alloc _⟩
theorem pX{ls:List Lk}{N:Int}{k:Nat}{l:Lk}(hl:ls[k]?=some l)(hb:l.ok N=false):ls.all (Lk.ok N)=false:=by
 obtain⟨hk,he⟩:=yH.1 hl;rw[List.all_eq_false];exact⟨l,by rw[<-he];exact xR hk,by simp[hb]⟩
theorem uP{ls:List Lk}{N:Int}(h:∀(j:Nat) (l:Lk),ls[j]?=some l->l.ok N=true):ls.all (Lk.ok N)=true:=by
 rw[xW];intro l hl;obtain⟨j,hj,rfl⟩:=List.mem_iff_getElem.1 hl;exact h j _ (yG hj)
theorem jzd6 t AO(co:Nat)AL(cl:Nat)w(ht:aF w t AO co AL cl)(hh:cX t=true):
  Calls Tryz.prog 106 #[.agg #[vI t.nodes,.s AO t.over.length co,.s AL t.links.length cl]] w fun e w'=>e=.returned (.bool (t.links.all (Lk.ok t.nodes)))/\Ext w w':=by
 have HT:=Hx (ht);have h1:=ht.lo;have h2:=ht.co;have h3:=ht.ll;have h4:=ht.cl;clear ht;obtain⟨qg,e0⟩:=bF w #[vI t.nodes,.s AO t.over.length co,.s AL t.links.length cl] 25;have BA:=Hx (qg);have k1:inB t.nodes 1 64=true:=(by unfold cX at hh;simp at hh;exact hh.1.1);have k2:t.links.length<=256:=(by unfold cX at hh;simp at hh;exact hh.1.2);have k3:(((t.over.length:Int) !=0)=false)\/(((t.over.length:Int) !=0)=true/\((t.over.length:Int) !=t.nodes)=false):=by
  unfold cX at hh;simp at hh;by_cases h:t.over.length=0
  ·exact .inl (by simp;exact kQp.1 h)
  refine .inr ⟨bne_iff_ne.2 (by omega),?_⟩;have:=hh.2;simp;rcases this with h'|h'
  ·exact absurd (by rw[h'];rfl) h
  exact h'
 clear hh qg;rcases k3 with k3|⟨k3,k4⟩
 all_goals
  go_enter Tryz.func106,Tryz.ntmps106
  go_wp2_with (go_at_call 167;refine(gY _ _ _ _).mono ?_;rintro e w' ⟨rfl,rfl⟩)
  go_loopw [30] (fun i wr=>∃k:Nat,k<=t.links.length/\i=vI k/\Blk wr w.heap.size 25 #[vI t.nodes,.s AO t.over.length co,.s AL t.links.length cl]/\(∀j l,j<k->t.links[j]?=some l->l.ok t.nodes=true)/\Ext w wr) (fun i _=>t.links.length-(intOf i).toNat)
  case atStart=>exact⟨0,yZ _,rfl,BA.o,fun j l h=>by omega,e0⟩
  obtain⟨k,hk,rfl,qa,qh,hx⟩:=hrel;have qm:=Hx qh;clear qh e0 BA;by_cases qn:k<t.links.length
  ·obtain⟨l,hl⟩:∃l,t.links[k]?=some l:=⟨_,yG qn⟩
   have HL:=Hx hl;have qk:=HT.o.K hx;obtain⟨b,o,rfl,hb,c0,c1,c2,c3,c4,c5,c6⟩:=qk.link hl;have HX:=Hx hx;obtain⟨⟨i0,i1,i2⟩,_⟩:=qa.t3;clear hl qk hx
   go_upto_region 9 with fail
   go_cut [63] (fun s wx=>s=.bool ((l.a==l.b)||!ndB t.nodes l.a||!ndB t.nodes l.b)/\Blk wx w.heap.size 25 #[vI t.nodes,.s AO t.over.length co,.s (some (aD b o)) t.links.length cl]/\Ext wr wx)
   case first=>
    have x0:=XW.cell _ _ _ qa.lt i0;have x1:=XW.cell _ _ _ qa.lt i1;have x2:=XW.cell _ _ _ qa.lt i2;have y0:=XW.cell _ _ _ hb c0;have y1:=XW.cell _ _ _ hb c1;cases q1:l.a==l.b
    ·cases q2:ndB t.nodes l.a
     ·refine bH (by kernel_rfl) (by kernel_rfl) ?_
      repeat (go_big_quiet_step ((go_at_call 103;exact Calls.ext_of (pW t AO co (some (aD b o)) cl _ _))))
      refine wpQuiet_nil ?_;rintro _ ⟨x,rfl⟩;go_wp2;go_meet;exact⟨by first|(rw[q1,q2,q3];rfl)|(rw[q1,q2];rfl)|(rw[q1];rfl),qa.K x.ext,x.ext⟩
     cases q3:ndB t.nodes l.b
     all_goals
      refine bH (by kernel_rfl) (by kernel_rfl) ?_
      repeat (go_big_quiet_step ((go_at_call 103;exact Calls.ext_of (pW t AO co (some (aD b o)) cl _ _))))
      refine wpQuiet_nil ?_;rintro _ ⟨x,rfl⟩;go_wp2;go_meet;exact⟨by first|(rw[q1,q2,q3];rfl)|(rw[q1,q2];rfl)|(rw[q1];rfl),qa.K x.ext,x.ext⟩
    refine bH (by kernel_rfl) (by kernel_rfl) ?_
    repeat (go_big_quiet_step ((go_at_call 103;exact Calls.ext_of (pW t AO co (some (aD b o)) cl _ _))))
    refine wpQuiet_nil ?_;rintro _ ⟨x,rfl⟩;go_wp2;go_meet;exact⟨by first|(rw[q1,q2,q3];rfl)|(rw[q1,q2];rfl)|(rw[q1];rfl),qa.K x.ext,x.ext⟩
   obtain⟨rfl,qf,qe⟩:=hcut;have qi:=Hx (HX.o.tr qe);have c2:=(qe.cell (p:=(aD b (o+k*7+2))) hb).trans c2;have c3:=(qe.cell (p:=(aD b (o+k*7+3))) hb).trans c3;have c4:=(qe.cell (p:=(aD b (o+k*7+4))) hb).trans c4;have c5:=(qe.cell (p:=(aD b (o+k*7+5))) hb).trans c5;have c6:=(qe.cell (p:=(aD b (o+k*7+6))) hb).trans c6;have qj:((l.a==l.b||!ndB t.nodes l.a||!ndB t.nodes l.b)=true/\l.ok t.nodes=false)\/((l.a==l.b||!ndB t.nodes l.a||!ndB t.nodes l.b)=false/\((inB l.c0 1 65535=false/\l.ok t.nodes=false)\/(inB l.c0 1 65535=true/\inB l.c1 1 65535=false/\l.ok t.nodes=false)\/
     (inB l.c0 1 65535=true/\inB l.c1 1 65535=true/\inB l.cap 0 1048576=false/\l.ok t.nodes=false)\/(inB l.c0 1 65535=true/\inB l.c1 1 65535=true/\inB l.cap 0 1048576=true/\inB l.delay 1 65536=false/\l.ok t.nodes=false)\/
     (inB l.c0 1 65535=true/\inB l.c1 1 65535=true/\inB l.cap 0 1048576=true/\inB l.delay 1 65536=true/\inB l.group 0 64=l.ok t.nodes))):=by
    unfold Lk.ok;cases l.a==l.b <;> cases ndB t.nodes l.a <;> cases ndB t.nodes l.b <;> cases inB l.c0 1 65535 <;> cases inB l.c1 1 65535 <;> cases inB l.cap 0 1048576 <;> cases inB l.delay 1 65536 <;> simp
   clear qa qe i0 i1 i2 c0 c1;obtain⟨⟨i0,i1,i2⟩,_⟩:=qf.t3;generalize hB:(l.a==l.b||!ndB t.nodes l.a||!ndB t.nodes l.b)=bad at*;clear hB;rcases qj with⟨rfl,hf⟩|⟨rfl,⟨d1,hf⟩|⟨d1,d2,hf⟩|⟨d1,d2,d3,hf⟩|⟨d1,d2,d3,d4,hf⟩|⟨d1,d2,d3,d4,d5⟩⟩
   case inr.inr.inr.inr.inr=>
    cases hg:inB l.group 0 64
    ·have hf:=pX HL.o (d5.symm.trans hg)
     have HF:=Hx hf;clear hf d5
     go_wp2_with (go_at_call 167;refine(gY _ _ _ _).mono ?_;rintro e w' ⟨rfl,rfl⟩)
     go_ret;rw[HF.o];exact⟨rfl,qi.o⟩
    have OK:=Hx (d5.symm.trans hg);clear d5
    go_wp2_with (go_at_call 167;refine(gY _ _ _ _).mono ?_;rintro e w' ⟨rfl,rfl⟩)
    go_roundw
    case rel=>exact⟨k+1,by omega,by go_num,qf,fun j l' hj hl'=>by
     by_cases e:j=k
     ·subst e;have:=HL.o;rw[this]at hl';injection hl' with hl';subst hl';exact OK.o
     exact qm.o j l' (by omega) hl',qi.o⟩
    simp[intOf];omega
   all_goals
    have hf:=pX HL.o hf;have HF:=Hx hf;clear hf
    go_wp2_with (go_at_call 167;refine(gY _ _ _ _).mono ?_;rintro e w' ⟨rfl,rfl⟩)
    go_ret;rw[HF.o];exact⟨rfl,qi.o⟩
  have qo:k=t.links.length:=(by omega);subst qo;have HF:=Hx (uP (ls:=t.links) (N:=t.nodes) (fun j l hj=>qm.o j l (yH.1 hj).1 hj));go_wp2;go_ret;rw[HF.o];exact⟨rfl,hx⟩
theorem lK t AO(co:Nat)AL(cl:Nat)w(ht:aF w t AO co AL cl):
  Calls Tryz.prog 106 #[.agg #[vI t.nodes,.s AO t.over.length co,.s AL t.links.length cl]] w fun e w'=>e=.returned (.bool (aA t))/\Ext w w':=by
 unfold aA;cases hh:cX t;{exact jzd5 t AO co AL cl w ht hh};rw[kZg];exact jzd6 t AO co AL cl w ht hh
theorem gZ(n lo hi:Int)w:Calls Tryz.prog 83 #[vI n,vI lo,vI hi] w fun e w'=>e=.returned (.bool (inB n lo hi))/\w=w':=jzd3 n lo hi w
theorem uQ(N n:Int):inB n 0 (N-1)=ndB N n:=by unfold inB ndB;rw[decide_eq_decide];omega
theorem lL t AO(co:Nat)AL(cl:Nat)w(ht:aF w t AO co AL cl):
  Calls Tryz.prog 42 #[.agg #[vI t.nodes,.s AO t.over.length co,.s AL t.links.length cl]] w fun e w'=>e=.returned (.bool (aA t))/\Ext w w':=by
 have HT:=Hx (ht);have h1:=ht.lo;have h2:=ht.co;have h3:=ht.ll;have h4:=ht.cl;have qt:=ht.nodes;clear ht;obtain⟨qe,e0⟩:=bF w #[vI t.nodes,.s AO t.over.length co,.s AL t.links.length cl] 25;have BA:=Hx (qe);have qa:(inB t.nodes 1 64=false/\aA t=false)\/(inB t.nodes 1 64=true/\((((t.over.length:Int) !=0)=true/\((t.over.length:Int) !=t.nodes)=true/\aA t=false)\/
   (((((t.over.length:Int) !=0)=true/\((t.over.length:Int) !=t.nodes)=false)\/((t.over.length:Int) !=0)=false)/\((decide (256<t.links.length)=true/\aA t=false)\/(t.links.length<=256/\aA t=t.links.all (Lk.ok t.nodes)))))):=by
  unfold aA cX;cases inB t.nodes 1 64
  ·exact .inl ⟨rfl,rfl⟩
  refine .inr ⟨rfl,?_⟩;by_cases k1:t.over.length=0
  ·have e1:((t.over.length:Int) !=0)=false:=by rw[k1];rfl
   refine .inr ⟨.inr e1,?_⟩;by_cases k2:t.links.length<=256
   ·exact .inr ⟨k2,by rw[yO k2,yO k1];rfl⟩
   exact .inl ⟨by simp;omega,by rw[yP k2];rfl⟩
  have e1:((t.over.length:Int) !=0)=true:=bne_iff_ne.2 (by omega);by_cases k3:(t.over.length:Int)=t.nodes
  ·have e2:((t.over.length:Int) !=t.nodes)=false:=by rw[k3];simp
   refine .inr ⟨.inl ⟨e1,e2⟩,?_⟩;by_cases k2:t.links.length<=256
   ·exact .inr ⟨k2,by rw[yO k2,yP k1,yO k3];rfl⟩
   exact .inl ⟨by simp;omega,by rw[yP k2];rfl⟩
  exact .inl ⟨e1,bne_iff_ne.2 k3,by rw[yP k1,yP k3];simp⟩
 generalize hV:aA t=V at*;clear qe hV;rcases qa with⟨k1,rfl⟩|⟨k1,⟨k2,k3,rfl⟩|⟨hh,⟨k4,rfl⟩|⟨k4,k5⟩⟩⟩
 ·skip
  go_enter Tryz.func42,Tryz.ntmps42
  go_wp2_with (go_at_call 83;refine(gZ _ _ _ _).mono ?_;rintro e w' ⟨rfl,rfl⟩)
  go_ret;exact⟨rfl,e0⟩
 ·skip
  go_enter Tryz.func42,Tryz.ntmps42
  go_wp2_with (go_at_call 83;refine(gZ _ _ _ _).mono ?_;rintro e w' ⟨rfl,rfl⟩)
  go_ret;exact⟨rfl,e0⟩
 ·have qo:256<t.links.length:=by simpa using k4
  clear k4;rcases hh with⟨k2,k3⟩|k2
  all_goals
   go_enter Tryz.func42,Tryz.ntmps42
   go_wp2_with (go_at_call 83;refine(gZ _ _ _ _).mono ?_;rintro e w' ⟨rfl,rfl⟩)
   go_ret;exact⟨rfl,e0⟩
 have K5:=Hx k5;clear k5;have hN:1<=t.nodes/\t.nodes<=64:=of_decide_eq_true k1;have qp:=hN.1;have qu:=hN.2;clear hN;rcases hh with⟨k2,k3⟩|k2
 all_goals
  go_enter Tryz.func42,Tryz.ntmps42
  go_wp2_with (go_at_call 83;refine(gZ _ _ _ _).mono ?_;rintro e w' ⟨rfl,rfl⟩)
  go_loopw [3] (fun i wr=>∃k:Nat,k<=t.links.length/\i=vI k/\Blk wr w.heap.size 25 #[vI t.nodes,.s AO t.over.length co,.s AL t.links.length cl]/\(∀j l,j<k->t.links[j]?=some l->l.ok t.nodes=true)/\Ext w wr) (fun i _=>t.links.length-(intOf i).toNat)
  case atStart=>exact⟨0,yZ _,rfl,BA.o,fun j l h=>by omega,e0⟩
  obtain⟨k,hk,rfl,qg,qf,hx⟩:=hrel;have qj:=Hx qf;clear qf e0 BA;obtain⟨⟨i0,i1,i2⟩,_⟩:=qg.t3;have qn:=qg.lt;by_cases qk:k<t.links.length
  ·obtain⟨l,hl⟩:∃l,t.links[k]?=some l:=⟨_,yG qk⟩
   have HL:=Hx hl;have qi:=HT.o.K hx;obtain⟨b,o,rfl,hb,c0,c1,c2,c3,c4,c5,c6⟩:=qi.link hl;have HX:=Hx hx;have qh:(inB l.a 0 (t.nodes-1)=false/\l.ok t.nodes=false)\/(inB l.a 0 (t.nodes-1)=true/\inB l.b 0 (t.nodes-1)=false/\l.ok t.nodes=false)\/(inB l.a 0 (t.nodes-1)=true/\inB l.b 0 (t.nodes-1)=true/\(l.a==l.b)=true/\l.ok t.nodes=false)\/
     (inB l.a 0 (t.nodes-1)=true/\inB l.b 0 (t.nodes-1)=true/\(l.a==l.b)=false/\((inB l.c0 1 65535=false/\l.ok t.nodes=false)\/(inB l.c0 1 65535=true/\inB l.c1 1 65535=false/\l.ok t.nodes=false)\/
     (inB l.c0 1 65535=true/\inB l.c1 1 65535=true/\inB l.cap 0 1048576=false/\l.ok t.nodes=false)\/(inB l.c0 1 65535=true/\inB l.c1 1 65535=true/\inB l.cap 0 1048576=true/\inB l.delay 1 65536=false/\l.ok t.nodes=false)\/
     (inB l.c0 1 65535=true/\inB l.c1 1 65535=true/\inB l.cap 0 1048576=true/\inB l.delay 1 65536=true/\inB l.group 0 64=false/\l.ok t.nodes=false)\/
     (inB l.c0 1 65535=true/\inB l.c1 1 65535=true/\inB l.cap 0 1048576=true/\inB l.delay 1 65536=true/\inB l.group 0 64=true/\l.ok t.nodes=true))):=by
    rw[uQ,uQ];unfold Lk.ok;cases l.a==l.b <;> cases ndB t.nodes l.a <;> cases ndB t.nodes l.b <;> cases inB l.c0 1 65535 <;> cases inB l.c1 1 65535 <;> cases inB l.cap 0 1048576 <;> cases inB l.delay 1 65536 <;> cases inB l.group 0 64 <;> simp
   clear hl qi hx;rcases qh with⟨d1,hf⟩|⟨d1,d2,hf⟩|⟨d1,d2,d3,hf⟩|⟨d1,d2,d3,⟨d4,hf⟩|⟨d4,d5,hf⟩|⟨d4,d5,d6,hf⟩|⟨d4,d5,d6,d7,hf⟩|⟨d4,d5,d6,d7,d8,hf⟩|⟨d4,d5,d6,d7,d8,hf⟩⟩
   case inr.inr.inr.inr.inr.inr.inr.inr=>
    have OK:=Hx hf;clear hf
    go_wp2_with (go_at_call 83;refine(gZ _ _ _ _).mono ?_;rintro e w' ⟨rfl,rfl⟩)
    go_roundw
    case rel=>exact⟨k+1,by omega,by go_num,qg.alloc _,fun j l' hj hl'=>by
     by_cases e:j=k
     ·subst e;have:=HL.o;rw[this]at hl';injection hl' with hl';subst hl';exact OK.o
     exact qj.o j l' (by omega) hl',HX.o.alloc _⟩
    simp[intOf];omega
   all_goals
    have hf:=pX HL.o hf;have HF:=Hx hf;clear hf
    go_wp2_with (go_at_call 83;refine(gZ _ _ _ _).mono ?_;rintro e w' ⟨rfl,rfl⟩)
    go_ret;rw[K5.o,HF.o];exact⟨rfl,HX.o.alloc _⟩
  have qm:k=t.links.length:=(by omega);subst qm;have HF:=Hx (uP (ls:=t.links) (N:=t.nodes) (fun j l hj=>qj.o j l (yH.1 hj).1 hj));go_wp2;go_ret;rw[K5.o,HF.o];exact⟨rfl,hx⟩
theorem Tryz.info39:(Tryz.prog.info? 28).map (fun i=>(i.zero,i.size,i.bytes))=some (some zN,1,24):=by kernel_rfl
theorem Tryz.info3:(Tryz.prog.info? 3).map (fun i=>(i.zero,i.size,i.bytes))=some (some (vI 0),1,8):=by kernel_rfl
def ints(l:LN):List Value:=l.map fun a:Nat=>Value.int .i64 (a:Int)
theorem iQ(l:LN):(ints l).length=l.length:=by simp[ints]
theorem iR(l:LN)(a:Nat):ints (l++[a])=ints l++[vI (a:Int)]:=by simp[ints]
theorem pY(l:LN)(i:Nat)(h:i<l.length):(ints l)[i]?=some (vI ((l[i]?.getD 0:Nat):Int)):=by simp[ints,h]
structure Fam(w:World)(g B N:Nat)(V:Nat->Value)(X:Nat->LN):Prop where
 row:Blk w g 28 ((List.range N).map V).toArray
 own:∀i,i<N->w.ownsRow B 3 1 (V i) (X i).length (ints (X i))
 sep:∀i j,i<N->j<N->i≠j->(V i).ownBlock=none\/(V i).ownBlock≠(V j).ownBlock
theorem jzd7(N:Nat)(V:Nat->Value)(n:Nat)(v:Value)(hn:n<N):((List.range N).map V).toArray.setIfInBounds n v=((List.range N).map fun i=>if i=n then v else V i).toArray:=by
 apply Array.ext';simp only[yD];apply uK;intro i;by_cases h:i<N;{by_cases e:i=n;{subst e;simp[h]};rw[vN (by omega)];simp[h,e]};rw[yI (by simp;omega),yI (by simp;omega)]
theorem iA(N:Nat)(V:Nat->Value)(n:Nat)(hn:n<N):((List.range N).map V).toArray[n]?=some (V n):=by simp[hn]
theorem Fam.far{w}{g B N:Nat}{V:Nat->Value}{X:Nat->LN}(h:Fam w g B N V X):∀i,i<N->(V i).ownBlock≠some g:=fun i hi=>by
 (have ho:=h.own i hi;intro e;obtain⟨_,h2⟩:=ho;rcases h2 with⟨h3,_⟩|⟨g',cap,cur,h3,_,h5,_⟩);{rw[h3]at e;cases e};{rw[h3]at e;(have:g'=g:=(by simpa [Value.ownBlock]using e);subst this;have hr:=h.row;unfold Blk at hr;rw[h5]at hr;injection hr with hr);(injection hr with _ ht);revert ht;decide}
theorem Fam.rowG{w w1}{g B N n:Nat}{V:Nat->Value}{X:Nat->LN}(h:Fam w g B N V X)(hn:n<N)(hg:w.grownBy w1 (V n).ownBlock):Blk w1 g 28 ((List.range N).map V).toArray:=
 (hg.block g h.row.lt (fun e=>h.far n hn e.symm)).trans h.row
theorem Fam.app{w w1:World}{g B N n a:Nat}{V:Nat->Value}{X:Nat->LN}{v':Value}(h:Fam w g B N V X)(hn:n<N)
  (hown:w1.ownsRow B 3 1 v' ((X n).length+1) (ints (X n)++[vI (a:Int)])) (hg:w.grownBy w1 (V n).ownBlock) (hb:v'.ownBlock=(V n).ownBlock\/v'.ownBlock=some w.heap.size):
  Fam (w1.setCell (aD g n) v') g B N (fun i=>if i=n then v' else V i) (fun i=>if i=n then X n++[a]else X i):=by
 have qh:∀i,i<N->(V i).ownBlock≠some g:=fun i hi=>(by (have ho:=h.own i hi;intro e;obtain⟨_,h2⟩:=ho;rcases h2 with⟨h3,_⟩|⟨g',cap,cur,h3,_,h5,_⟩);{rw[h3]at e;cases e};(rw[h3]at e;have:g'=g:=(by simpa [Value.ownBlock]using e);subst this;have hr:=h.row;unfold Blk at hr;rw[h5]at hr;injection hr with hr);(injection hr with _ ht);revert ht;decide);have qe:Blk w1 g 28 ((List.range N).map V).toArray:=(hg.block g h.row.lt (fun e=>qh n hn e.symm)).trans h.row;have qg:v'.ownBlock≠some g:=(by (rcases hb with e|e);{rw[e];exact qh n hn};rw[e];intro e';have:=h.row.lt;injection e' with e';omega);have qa:∀(u:Value) (m:Nat) (ys:List Value),w1.ownsRow B 3 1 u m ys->u.ownBlock≠some g->(w1.setCell (aD g n) v').ownsRow B 3 1 u m ys:=fun u m ys ho hu=>(by (refine⟨ho.1,?_⟩;rcases ho.2 with h3|⟨g',cap,cur,h3,h4,h5,h6⟩);{exact .inl h3};refine .inr ⟨g',cap,cur,h3,h4,(Below.heap_setCell w1 (aD g n) v' g' ?_).trans h5,h6⟩;rintro rfl;exact hu (by rw[h3];simp[Value.ownBlock]));refine⟨?_,?_,?_⟩;{rw[<-jzd7 N V n v' hn];exact qe.sT n v'};{intro i hi;by_cases e:i=n;{subst e;simp only[if_true];rw[yQ,iR];exact qa _ _ _ hown qg};(simp only[if_neg e];refine qa _ _ _ ((h.own i hi).kept hg ?_) (qh i hi);rcases h.sep i n hi hn e with h1|h1);{exact .inl h1};exact .inr h1};intro i j hi hj qf;have qi:∀k,k<N->(V k).ownBlock≠some w.heap.size:=fun k hk e=>(by have:=(h.own k hk).lt _ e;omega);by_cases ei:i=n;{subst ei;(simp only[if_true,if_neg (fun e:j=i=>qf e.symm)];rcases hb with e|e);{rw[e];exact h.sep i j hi hj qf};rw[e];right;exact fun e'=>qi j hj e'.symm};simp only[if_neg ei];by_cases ej:j=n;{subst ej;(simp only[if_true];rcases hb with e|e);{rw[e];exact h.sep i j hi hj qf};rw[e];right;exact qi i hi};simp only[if_neg ej];exact h.sep i j hi hj qf
theorem Fam.alloc{w}{g B N:Nat}{V:Nat->Value}{X:Nat->LN}(h:Fam w g B N V X)(o:Obj):Fam (w.alloc o) g B N V X:=
 ⟨h.row.alloc o,fun i hi=>(h.own i hi).alloc o,h.sep⟩
theorem Fam.K{w w'}{g B N:Nat}{V:Nat->Value}{X:Nat->LN}(h:Fam w g B N V X)(hx:Ext w w'):Fam w' g B N V X:=
 ⟨h.row.K hx,fun i hi=>(h.own i hi).kept (row:=none) ⟨hx.os,hx.tape,hx.output,hx.size,fun k hk _=>hx.block k hk⟩ (by
  by_cases e:(V i).ownBlock=none
  ·exact .inl e
  ·exact .inr e),h.sep⟩
def bV(t:Tp)(m n:Nat):LN:=(List.range m).filter fun a=>aX t a==(n:Int)
def aE(t:Tp)(n:Nat):LN:=bV t (2*t.links.length) n
theorem mW t(m n:Nat):bV t (m+1) n=if aX t m==(n:Int)then bV t m n++[m]else bV t m n:=by
 unfold bV;rw[kZc,List.filter_append];by_cases h:aX t m==(n:Int) <;> simp[h]
theorem fP t(m n:Nat):(bV t m n).length<=m:=by
 unfold bV;exact yY (List.length_filter_le _ _) (by simp)
def LL(w:World)(g N:Nat)(X:Nat->LN):Prop:=
 ∃V:Nat->Value,Blk w g 28 ((List.range N).map V).toArray/\∀i,i<N->∃(A:OA) (c:Nat),V i=.s A (X i).length c/\(X i).length<=c/\RdT w 3 A (ints (X i))
theorem LL.K{w w'}{g N:Nat}{X:Nat->LN}(h:LL w g N X)(hx:Ext w w'):LL w' g N X:=by
 obtain⟨V,h1,h2⟩:=h;refine⟨V,h1.K hx,fun i hi=>?_⟩;obtain⟨A,c,h3,h4,h5⟩:=h2 i hi;exact⟨A,c,h3,h4,h5.K hx⟩
theorem iT{w:World}{B n:Nat}{v:Value}{l:LN}(h:w.ownsRow B 3 1 v n (ints l))(hn:n=l.length):∃(A:OA) (c:Nat),v=.s A l.length c/\l.length<=c/\RdT w 3 A (ints l):=by
 subst hn;obtain⟨h1,h2⟩:=h;rcases h2 with⟨h3,h4⟩|⟨g',cap,cur,h3,h4,h5,h6,h7,h8,h9⟩
 ·have:l=[]:=by simpa [ints]using h4
  subst this;exact⟨none,0,h3,yX _,RdT.nil _ _ _⟩
 refine⟨(sA g'),cap,h3,h6,fun _=>⟨g',0,cur,(0,0),rfl,h5,fun i hi=>?_⟩⟩;rw[<-h9,xG,if_pos (by rw[iQ]at hi;omega),kQu];simp
theorem Fam.ll{w}{g B N:Nat}{V:Nat->Value}{X:Nat->LN}(h:Fam w g B N V X):LL w g N X:=
 ⟨V,h.row,fun i hi=>iT (h.own i hi) rfl⟩
theorem pZ t AO(co:Nat)AL(cl:Nat)w(ht:aF w t AO co AL cl)(hv:aA t=true):
  Calls Tryz.prog 233 #[.agg #[vI t.nodes,.s AO t.over.length co,.s AL t.links.length cl]] w fun e w'=>∃g N:Nat,t.nodes=(N:Int)/\e=.returned (.s (sA g) N N)/\LL w' g N (aE t)/\Ext w w':=by
 have hN:∃N:Nat,t.nodes=(N:Int)/\1<=N/\N<=64/\t.links.length<=256:=(by unfold aA cX inB at hv;simp at hv;exact⟨t.nodes.toNat,by omega,by omega,by omega,by omega⟩);have qE:∀a,a<2*t.links.length->∃n:Nat,aX t a=(n:Int)/\(n:Int)<t.nodes:=fun a ha=>(by unfold aA at hv;rw[vM]at hv;obtain⟨l,hl⟩:∃l,t.links[a/2]?=some l:=⟨_,yG (by omega)⟩;have qD:=xW.1 hv.2 l (yJ hl);unfold Lk.ok ndB at qD;simp at qD;unfold aX;rw[hl];simp only[];split;{exact⟨l.a.toNat,by omega,by omega⟩};exact⟨l.b.toNat,by omega,by omega⟩);obtain⟨N,qw,qY,qW,qX⟩:=hN;have HN:=Hx (qw);have HT:=Hx (ht);have TL:=Hx (qE);have h3:=ht.ll;have h4:=ht.cl;clear ht hv qE;obtain⟨ti,hi,qN,qQ,qL⟩:=info_parts Tryz.info3;obtain⟨qh,e0⟩:=bF w #[vI (N:Int),.s AO t.over.length co,.s AL t.links.length cl] 25;have qR:=run_make_row' (P:=Tryz.prog) 114 28 zN 24 Tryz.underlying114 Tryz.info39 rfl .i64 .i64 N (by omega) (by omega);have qn:(Value.agg #[vI t.nodes,.s AO t.over.length co,.s AL t.links.length cl])=.agg #[vI (N:Int),.s AO t.over.length co,.s AL t.links.length cl]:=(by rw[qw]);rw[qn];clear qn;have qk:∀(W:World),Ext w W->Calls Tryz.prog 76 #[.agg #[vI (N:Int),.s AO t.over.length co,.s AL t.links.length cl]] W fun e w'=>e=.returned (vI (2*(t.links.length:Int)))/\Ext W w':=fun W hW=>(by have:=fN t AO co AL cl W (HT.o.K hW);rw[qw]at this;exact this);have qm:∀(W:World) (a:Nat),Ext w W->a/2<t.links.length->Calls Tryz.prog 52 #[.agg #[vI (N:Int),.s AO t.over.length co,.s AL t.links.length cl],vI a] W fun e w'=>e=.returned (vI (aX t a))/\Ext W w':=fun W a hW ha=>(by have:=eX t AO co AL cl a W (HT.o.K hW) ha;rw[qw]at this;exact this);have qt:=Hx (qk);have qB:=Hx (qm);clear qk qm qw;go_enter Tryz.func233,Tryz.ntmps233;(go_wp2_with fail);refine(qt.o _ (e0.alloc _)).mono ?_;rintro e w1 ⟨rfl,qu⟩;have E1:=Hx ((e0.alloc _).tr qu);have qe:Fam ((w.alloc (.cells #[vI (N:Int),.s AO t.over.length co,.s AL t.links.length cl] 25)).alloc (.cells (madeCells #[zN] N) 28)) (w.heap.size+1) (w.heap.size+2) N (fun _=>zN) (fun _=>[]):=(by refine⟨?_,fun i hi=>World.ownsRow_nil _ _ _ _,fun i j _ _ _=>.inl rfl⟩;have e:((List.range N).map fun _=>Value.slice none 0 0).toArray=madeCells #[zN] N:=(by apply Array.toList_inj.1;rw[toList_madeCells_one];simp only[List.map_const',kZm]);rw[e];exact Blk.new' _ _ _ (by simp));have qe:=qe.K qu;have qh:=(qh.alloc (.cells (madeCells #[zN] N) 28)).K qu;have z1:w.heap.size+2<=w1.heap.size:=(by have:=qu.size;simp at this;omega);clear qu e0 qR qt;go_wp2;(go_loopw [11] (fun it wr=>∃(m:Nat) (V:Nat->Value),m<=2*t.links.length/\it=vI m/\Fam wr (w.heap.size+1) (w.heap.size+2) N V (bV t m)/\Blk wr w.heap.size 25 #[vI (N:Int),.s AO t.over.length co,.s AL t.links.length cl]/\Ext w wr) (fun i _=>2*t.links.length-(intOf i).toNat));(case atStart=>exact⟨0,_,yZ _,rfl,qe,qh,E1.o⟩);clear qe qh E1;obtain⟨m,V,hm,rfl,qe,qh,hx⟩:=hrel;obtain⟨⟨i0,i1,i2⟩,g0,g1,g2⟩:=qh.t3;by_cases qS:m<2*t.links.length;{obtain⟨n,qC,qH⟩:=TL.o m qS;rw[HN.o]at qH;have hn:n<N:=(by omega);have TN:=Hx qC;have qG:=Hx qe;have E:=Hx hx;clear qC qH qe hx;(go_wp2_with fail);refine(qB.o _ m E.o (by omega)).mono ?_;rintro e w2 ⟨rfl,qx⟩;rw[TN.o];have qf:=Hx (qG.o.K qx);have qh:=qh.K qx;have E2:=Hx (E.o.tr qx);have qV:w.heap.size+2<=w2.heap.size:=(by have:=qf.o.row.lt;omega);have qI:w2.cell? (aD (w.heap.size+1) n)=some (V n):=(qf.o.row.cell n).trans (iA N V n hn);have qj:=qf.o.own n hn;have qK:=fP t m n;have j1:(n:Int)<(N:Int):=(by omega);obtain⟨A,c,hV,_,_⟩:=iT qj rfl;rw[hV]at qI qj;have HV:=Hx hV;have qF:=Hx qj;clear hV qj qx;generalize hL:(bV t m n).length=L at*;have HL:=Hx hL;clear hL;(go_wp2_with (at_builtin;go_must (refine wpList_append_own_at _ rfl (.tmp 22) (.tmp 24) 28 rfl (w.heap.size+2) 3 ti (vI 0) 1 8 Tryz.underlying28 hi qN qQ qL rfl (by decide) (.s A L c) L (ints (bV t m n)) rfl (qF.o.alloc _) (aD w2.heap.size 0) 1 1 [vI (m:Int)] rfl rfl ?c1 ?c2 ?c3 ?c4 ?c5 ?_)));(case c1=>intro j u hj;(match j,hj with|0,hj=>simp at hj;subst hj;simp[Addr.add]));(case c2=>intro u hu;simp at hu;subst hu;rfl);(case c3=>unfold maxLen;omega);(case c4=>omega);(case c5=>simp;omega);intro v' w3 qi qa _ qA;have qo:=Hx (qf.o.alloc (.cells #[vI (m:Int)] 3));rw[<-HV.o]at qa qA;have qg:=qo.o.rowG hn qa;have qU:w3.cell? (aD (w.heap.size+1) n)=some (V n):=(qg.cell n).trans (iA N V n hn);have qZ:=qg.frozen n;rw[HV.o]at qU;have qy:Below w.heap.size w w3:=(E2.o.alloc (.cells #[vI (m:Int)] 3)).grown qa (by simp;omega) (fun k hk=>by have:=(qf.o.own n hn).lt k hk;omega);have qz:Blk w3 w.heap.size 25 #[vI (N:Int),.s AO t.over.length co,.s AL t.links.length cl]:=(qa.block w.heap.size (by have:=qh.lt;simp;omega) (fun e=>by have:=(qf.o.own n hn).lt _ e.symm;omega)).trans (qh.alloc _);have qT:∃g' cap,v'=.s (sA g') (L+1) cap:=(by (rcases qi.2 with⟨_,h⟩|⟨g',cap,_,h,_⟩);{omega};exact⟨g',cap,h⟩);obtain⟨g',cap,qO⟩:=qT;subst qO;have qp:=Hx (qo.o.app (a:=m) hn (by rw[HL.o];exact qi) qa (by simpa using qA));have hX:(fun i=>if i=n then bV t m n++[m]else bV t m i)=bV t (m+1):=(by funext i;rw[mW,TN.o];by_cases e:i=n;{subst e;simp};rw[if_neg e,if_neg (by simp;omega)]);rw[hX]at qp;clear hX qa qA qi qg qF qG qf qo qh;go_wp2;go_roundw;(case rel=>exact⟨m+1,_,by omega,by go_num,qp.o,qz.far (by simp) _,Ext.sT qy (by simp) _⟩);simp[intOf];omega};have qM:m=2*t.links.length:=(by omega);subst qM;have qJ:=Hx qe.ll;have E:=Hx hx;clear qe hx;go_wp2;go_ret;exact⟨_,N,HN.o,rfl,qJ.o,E.o⟩
theorem fQ t AO(co:Nat)AL(cl:Nat)w(ht:aF w t AO co AL cl)(hv:aA t=true):
  Calls Tryz.prog 29 #[.agg #[vI t.nodes,.s AO t.over.length co,.s AL t.links.length cl]] w fun e w'=>e=.returned (vI (2*(t.links.length:Int)))/\Ext w w':=by
 have HT:=Hx (ht);have HV:=Hx (hv);have h3:=ht.ll;have h4:=ht.cl;clear ht hv;obtain⟨qa,e0⟩:=bF w #[vI t.nodes,.s AO t.over.length co,.s AL t.links.length cl] 25;go_enter Tryz.func29,Tryz.ntmps29;(go_wp2_with fail);refine(lL t AO co AL cl _ (HT.o.K e0)).mono ?_;rintro e w1 ⟨rfl,qe⟩;rw[HV.o];have qa:=qa.K qe;obtain⟨⟨i0,i1,i2⟩,g0,g1,g2⟩:=qa.t3;have HX:=Hx (e0.tr qe);clear qe e0;go_wp2;go_ret;exact⟨rfl,HX.o⟩
theorem lM t AO(co:Nat)AL(cl:Nat)(a:Nat)w(ht:aF w t AO co AL cl)(hv:aA t=true)(ha:a<2*t.links.length):
  Calls Tryz.prog 26 #[.agg #[vI t.nodes,.s AO t.over.length co,.s AL t.links.length cl],vI a] w fun e w'=>e=.returned (vI (aX t a))/\Ext w w':=by
 (have HT:=Hx (ht);have HV:=Hx (hv);have h3:=ht.ll;have h4:=ht.cl;obtain⟨l,hl⟩:∃l,t.links[a/2]?=some l:=⟨_,yG (by omega)⟩;have qf:aX t a=if a%2=0 then l.a else l.b:=by unfold aX;rw[hl]);rw[qf];obtain⟨b,o,rfl,hb,c0,c1,_⟩:=ht.link hl;clear ht hv qf hl;obtain⟨qe,e0⟩:=bF w #[vI t.nodes,.s AO t.over.length co,.s (some (aD b o)) t.links.length cl] 25;by_cases h:a%2=0;{rw[if_pos h];have h':(((a:Int)%2)==0)=true:=(by simp;omega);clear h;go_enter Tryz.func26,Tryz.ntmps26;(go_wp2_with fail);refine(fQ t AO co (some (aD b o)) cl _ (HT.o.K e0) HV.o).mono ?_;rintro e w1 ⟨rfl,qa⟩;have qe:=qe.K qa;obtain⟨⟨i0,i1,i2⟩,g0,g1,g2⟩:=qe.t3;have HX:=Hx (e0.tr qa);have c0:=(HX.o.cell (p:=(aD b (o+a/2*7))) hb).trans c0;have c1:=(HX.o.cell (p:=(aD b (o+a/2*7+1))) hb).trans c1;clear qa e0;go_wp2;go_ret;exact⟨rfl,HX.o⟩};rw[if_neg h];have h':(((a:Int)%2)==0)=false:=yK.2 (by omega);clear h;go_enter Tryz.func26,Tryz.ntmps26;(go_wp2_with fail);refine(fQ t AO co (some (aD b o)) cl _ (HT.o.K e0) HV.o).mono ?_;rintro e w1 ⟨rfl,qa⟩;have qe:=qe.K qa;obtain⟨⟨i0,i1,i2⟩,g0,g1,g2⟩:=qe.t3;have HX:=Hx (e0.tr qa);have c0:=(HX.o.cell (p:=(aD b (o+a/2*7))) hb).trans c0;have c1:=(HX.o.cell (p:=(aD b (o+a/2*7+1))) hb).trans c1;clear qa e0;go_wp2;go_ret;exact⟨rfl,HX.o⟩
theorem jzd8 t(a:Nat):aJ t a=aX t (a/2*2+1-a%2):=by
 rw[uO];congr 1;rw[pU];split <;> omega
theorem mX t AO(co:Nat)AL(cl:Nat)(a:Nat)w(ht:aF w t AO co AL cl)(hv:aA t=true)(ha:a<2*t.links.length):
  Calls Tryz.prog 27 #[.agg #[vI t.nodes,.s AO t.over.length co,.s AL t.links.length cl],vI a] w fun e w'=>e=.returned (vI (aJ t a))/\Ext w w':=by
 have HT:=Hx (ht);have HV:=Hx (hv);have h3:=ht.ll;have h4:=ht.cl;rw[jzd8];have qh:a/2*2+1-a%2<2*t.links.length:=(by omega);have e1:(a:Int)/2*2+1-(a:Int)%2=((a/2*2+1-a%2:Nat):Int):=(by omega);have E1:=Hx (e1);clear ht hv e1;obtain⟨qa,e0⟩:=bF w #[vI t.nodes,.s AO t.over.length co,.s AL t.links.length cl] 25;go_enter Tryz.func27,Tryz.ntmps27;(go_wp2_with fail);refine(fQ t AO co AL cl _ (HT.o.K e0) HV.o).mono ?_;rintro e w1 ⟨rfl,qe⟩;have qa:=qa.K qe;obtain⟨⟨i0,i1,i2⟩,g0,g1,g2⟩:=qa.t3;have HX:=Hx (e0.tr qe);clear qe e0;(go_wp2_with fail);rw[E1.o];refine(lM t AO co AL cl _ _ (HT.o.K HX.o) HV.o qh).mono ?_;rintro e w2 ⟨rfl,qf⟩;have qg:=Hx (HX.o.tr qf);clear qf;go_wp2;go_ret;exact⟨rfl,qg.o⟩
theorem uR t AO(co:Nat)AL(cl:Nat)(n:Nat)w(ht:aF w t AO co AL cl)(hv:aA t=true):
  Calls Tryz.prog 62 #[.agg #[vI t.nodes,.s AO t.over.length co,.s AL t.links.length cl],vI n] w fun e w'=>e=.returned (.bool (aZ t n))/\Ext w w':=by
 have HT:=Hx (ht);have HV:=Hx (hv);have h1:=ht.lo;have h2:=ht.co;obtain⟨qf,e0⟩:=bF w #[vI t.nodes,.s AO t.over.length co,.s AL t.links.length cl] 25;by_cases hn:n<t.over.length;{obtain⟨b,o,rfl,hb,hc⟩:=ht.over.bool hn;have qa:aZ t n=t.over[n]?.getD false:=rfl;rw[qa];generalize t.over[n]?.getD false=x at*;clear ht hv qa;go_enter Tryz.func62,Tryz.ntmps62;(go_wp2_with fail);refine(lL t (some (aD b o)) co AL cl _ (HT.o.K e0)).mono ?_;rintro e w1 ⟨rfl,qe⟩;rw[HV.o];have qf:=qf.K qe;obtain⟨⟨i0,i1,i2⟩,g0,g1,g2⟩:=qf.t3;have HX:=Hx (e0.tr qe);have hc:=(HX.o.cell (p:=(aD b (o+n))) hb).trans hc;clear qe e0;go_wp2;go_ret;exact⟨rfl,HX.o⟩};have qa:aZ t n=false:=(by unfold aZ;rw[xL,yI (by omega)];rfl);rw[qa];clear ht hv qa;go_enter Tryz.func62,Tryz.ntmps62;(go_wp2_with fail);refine(lL t AO co AL cl _ (HT.o.K e0)).mono ?_;rintro e w1 ⟨rfl,qe⟩;rw[HV.o];have qf:=qf.K qe;obtain⟨⟨i0,i1,i2⟩,g0,g1,g2⟩:=qf.t3;have HX:=Hx (e0.tr qe);clear qe e0;go_wp2;go_ret;exact⟨rfl,HX.o⟩
theorem jzd9 AD(cd:Nat)(down:List Bool)(a:Nat)w(hd:Rd w AD (aG down)):
  Calls Tryz.prog 116 #[.s AD down.length cd,vI a] w fun e w'=>e=.returned (.bool (aU down a))/\w=w':=by
 by_cases hN:a<down.length;{obtain⟨b,o,rfl,hb,qa⟩:=hd.bool hN;have hv:aU down a=down[a]?.getD false:=rfl;rw[hv];generalize down[a]?.getD false=x at*;clear hd hv;go_enter Tryz.func116,Tryz.ntmps116;go_wp2;go_ret;exact⟨rfl,rfl⟩};have hv:aU down a=false:=(by unfold aU;rw[yI (by omega)];rfl);rw[hv];clear hd hv;go_enter Tryz.func116,Tryz.ntmps116;go_wp2;go_ret;exact⟨rfl,rfl⟩
theorem jzea t AO(co:Nat)AL(cl:Nat)(n:Nat)w(ht:aF w t AO co AL cl)(hv:aA t=true)(hll:t.links.length<=256):
  Calls Tryz.prog 84 #[.agg #[vI t.nodes,.s AO t.over.length co,.s AL t.links.length cl],vI n] w fun e w'=>∃(A:OA) (c:Nat),e=.returned (.s A (aE t n).length c)/\(aE t n).length<=c/\RdT w' 3 A (ints (aE t n))/\Ext w w':=by
 have HT:=Hx (ht);have HV:=Hx (hv);have h3:=ht.ll;have h4:=ht.cl;clear ht hv;obtain⟨ti,hi,qu,qy,qA⟩:=info_parts Tryz.info3;obtain⟨qa,e0⟩:=bF w #[vI t.nodes,.s AO t.over.length co,.s AL t.links.length cl] 25;go_enter Tryz.func84,Tryz.ntmps84;go_wp2_with fail
 go_loopw [5,6] (fun v it wr=>∃(m:Nat) (A:OA) (c:Nat),m<=2*t.links.length/\it=vI m/\v=.s A (bV t m n).length c/\wr.ownsRow (w.heap.size+1) 3 1 (.s A (bV t m n).length c) (bV t m n).length (ints (bV t m n))/\
  Blk wr w.heap.size 25 #[vI t.nodes,.s AO t.over.length co,.s AL t.links.length cl]/\Ext w wr) (fun _ i _=>2*t.links.length-(intOf i).toNat)
 (case atStart=>exact⟨0,none,0,yZ _,rfl,rfl,World.ownsRow_nil _ _ _ _,qa,e0⟩);clear qa e0;obtain⟨m,A,c,hm,rfl,rfl,qk,qa,hx⟩:=hrel;obtain⟨⟨i0,i1,i2⟩,g0,g1,g2⟩:=qa.t3;have qz:=fP t m n;have qt:=Hx qk;have E:=Hx hx;clear qk hx;generalize hL:(bV t m n).length=L at*;have HL:=Hx hL;clear hL;(go_wp2_with fail);refine(fQ t AO co AL cl _ (HT.o.K E.o) HV.o).mono ?_;rintro e w1 ⟨rfl,qi⟩;have qa:=qa.K qi;obtain⟨⟨i0,i1,i2⟩,g0,g1,g2⟩:=qa.t3;have E1:=Hx (E.o.tr qi);have qj:=Hx (qt.o.kept (row:=none) (w':=w1) ⟨qi.os,qi.tape,qi.output,qi.size,fun k hk _=>qi.block k hk⟩ (by by_cases e:(Value.slice A L c).ownBlock=none;{exact .inl e};exact .inr e));clear qi qt E;by_cases qC:m<2*t.links.length;{(go_wp2_with fail);refine(lM t AO co AL cl m _ (HT.o.K E1.o) HV.o qC).mono ?_;rintro e w2 ⟨rfl,qh⟩;have qa:=qa.K qh;have E2:=Hx (E1.o.tr qh);have qE:w.heap.size+1<=w2.heap.size:=(by have:=qa.lt;omega);have qe:=Hx (qj.o.kept (row:=none) (w':=w2) ⟨qh.os,qh.tape,qh.output,qh.size,fun k hk _=>qh.block k hk⟩ (by by_cases e:(Value.slice A L c).ownBlock=none;{exact .inl e};exact .inr e));clear qh qj;cases htl:(aX t m==(n:Int));{(have hs:bV t (m+1) n=bV t m n:=by rw[mW,htl];rfl);have HS:=Hx hs;clear hs;go_wp2;go_roundw;(case rel=>exact⟨m+1,A,c,by omega,by go_num,by rw[HS.o,HL.o],by rw[HS.o,HL.o];exact qe.o,qa,E2.o⟩);simp[intOf];omega};have hs:bV t (m+1) n=bV t m n++[m]:=(by rw[mW,htl];rfl);have HS:=Hx hs;clear hs;(go_wp2_with (at_builtin;go_must (refine wpList_append_own_at _ rfl (.tmp 18) (.tmp 20) 28 rfl (w.heap.size+1) 3 ti (vI 0) 1 8 Tryz.underlying28 hi qu qy qA rfl (by decide) (.s A L c) L (ints (bV t m n)) rfl (qe.o.alloc _) (aD w2.heap.size 0) 1 1 [vI (m:Int)] rfl rfl ?c1 ?c2 ?c3 ?c4 ?c5 ?_)));(case c1=>intro j u hj;(match j,hj with|0,hj=>simp at hj;subst hj;simp[Addr.add]));(case c2=>intro u hu;simp at hu;subst hu;rfl);(case c3=>unfold maxLen;omega);(case c4=>omega);(case c5=>simp;omega);intro v' w3 qf qg _ qw;have qp:Below w.heap.size w w3:=(E2.o.alloc (.cells #[vI (m:Int)] 3)).grown qg (by simp;omega) (fun k hk=>by have:=qe.o.lt k hk;omega);have qn:Blk w3 w.heap.size 25 #[vI t.nodes,.s AO t.over.length co,.s AL t.links.length cl]:=(qg.block w.heap.size (by have:=qa.lt;simp;omega) (fun e=>by have:=qe.o.lt _ e.symm;omega)).trans (qa.alloc _);have qD:∃g' cap,v'=.s (sA g') (L+1) cap:=(by (rcases qf.2 with⟨_,h⟩|⟨g',cap,_,h,_⟩);{omega};exact⟨g',cap,h⟩);obtain⟨g',cap,qx⟩:=qD;subst qx;have qo:=Hx qf;clear qg qw qf qe;go_wp2;go_roundw;(case rel=>exact⟨m+1,_,_,by omega,by go_num,by rw[HS.o,yQ,HL.o];rfl,by rw[HS.o,yQ,HL.o,iR];exact qo.o,qn,qp⟩);simp[intOf];omega};have qB:m=2*t.links.length:=(by omega);subst qB;have qm:=iT qj.o HL.o.symm;have HF:=Hx qm;clear qm;go_wp2;go_ret;obtain⟨A',c',e1,e2,e3⟩:=HF.o;exact⟨A',c',congrArg Ending.returned e1,e2,e3,E1.o⟩
section
variable {P:Program} (w:World)
theorem iU(b o j:Nat):((aD b o):Addr).add j=(aD b (o+j)):=by unfold Addr.add;split <;> simp_all
theorem jzeb(base:Nat)(t ty e:TypeId)(i:TypeInfo)(z:Value)(bytes:Nat)(ht:P.underlying t=some (.slice e))(hi:P.info? e=some i)(hz:i.zero=some z)
  (hsize:i.size=1) (hby:i.bytes=bytes) (hzs:z.cells.size=1)
  (v:Value) (n:Nat) (xs:List Value) (hown:w.ownsRow base e 1 v n xs)
  A (m c:Nat) (news:List Value) (hm:m=news.length) (hr:Rd w A news) (hA:A=none->m=0/\c=0\/m=0) (h1:∀u∈news,u.oneCell'=true)
  (h63:n+m<=maxLen) (hbytes:(n+m)*bytes<=140737488355328) (hbase:base<=w.heap.size):
  ∃v' w',(Builtin.append_ #[t,t] ty #[v,.s A m c]).run P w=.ok v' w'/\w'.ownsRow base e 1 v' (n+m) (xs++news)/\w.grownBy w' v.ownBlock/\
   (v'.ownBlock=v.ownBlock\/v'.ownBlock=some w.heap.size):=by
 (rcases A with _|ad);{(have qf:m=0:=by rcases hA rfl with h|h <;> omega);(subst qf;have hn:news=[]:=kQz hm.symm;subst hn;refine⟨v,w,?_,by simpa using hown,World.grownBy.refl w _,.inl rfl⟩;rcases hown.2 with⟨rfl,rfl⟩|⟨g,cap,cur,rfl,_,_,hnc,_⟩);{simp[Builtin.append_,run_underlying ht,sizeOf,typeInfo,hi,Builtin.lenOf,Builtin.firstCells]};simp[Builtin.append_,run_underlying ht,sizeOf,typeInfo,hi,Builtin.lenOf,Builtin.firstCells,hnc,storeCells]};have qa:∀j u,news[j]?=some u->w.cell? (ad.add j)=some u:=(by (intro j u hu;have hj:j<news.length:=(yH.1 hu).1;obtain⟨b,o,he,_,hc⟩:=hr.at_ hj;injection he with he);subst he;rw[iU,hc j hj,hu]);obtain⟨v',w',qe,h2,h3,_,h5⟩:=run_append_own_at (P:=P) w base t ty e i z 1 bytes ht hi hz hsize hby hzs (by omega) v n xs hown ad m c news (by rw[hm,Nat.mul_one]) qa h1 h63 hbytes hbase;exact⟨v',w',qe,h2,h3,h5⟩
theorem jzec{o:Oper}{a:Act}{K:Act->World->Prop}{Q:Exit->Act->World->Prop}(s x:Operand)(t:TypeId)
  (ho:o.op=.call {callee:=.builtin .append,args:=#[s,x],argTypes:=#[t,t]})
  (base:Nat) (e:TypeId) (i:TypeInfo) (z:Value) (bytes:Nat) (ht:P.underlying t=some (.slice e)) (hi:P.info? e=some i) (hz:i.zero=some z)
  (hsize:i.size=1) (hby:i.bytes=bytes) (hzs:z.cells.size=1)
  (v:Value) (n:Nat) (xs:List Value) (hs:a.eval s=v) (hown:w.ownsRow base e 1 v n xs)
  A (m c:Nat) (news:List Value) (hx:a.eval x=.s A m c) (hm:m=news.length) (hr:Rd w A news) (hA:A=none->m=0/\c=0\/m=0) (h1:∀u∈news,u.oneCell'=true)
  (h63:n+m<=maxLen) (hbytes:(n+m)*bytes<=140737488355328) (hbase:base<=w.heap.size)
  (h:∀v' w',w'.ownsRow base e 1 v' (n+m) (xs++news)->w.grownBy w' v.ownBlock->(v'.ownBlock=v.ownBlock\/v'.ownBlock=some w.heap.size)->K (a.put o.dst v') w'):o.wp P a w K Q:=by
 obtain⟨v',w',qa,h2,h3,h4⟩:=jzeb (P:=P) w base t o.type e i z bytes ht hi hz hsize hby hzs v n xs hown A m c news hm hr hA h1 h63 hbytes hbase;unfold Oper.wp execOp;simp only[ho,resolve,invoke,builtin,Sem.run_bind,Sem.run_pure,Result.andThen_ok,List.map_toArray,kZa,List.map_nil,hs,hx,qa];exact h v' w' h2 h3 h4
theorem jzed{ops:Array Oper}{rest:List Oper}{o:Oper}{a:Act}{Q:Exit->Act->World->Prop}(hgd:o.guard=none)(s x:Operand)(t:TypeId)
  (ho:o.op=.call {callee:=.builtin .append,args:=#[s,x],argTypes:=#[t,t]})
  (base:Nat) (e:TypeId) (i:TypeInfo) (z:Value) (bytes:Nat) (ht:P.underlying t=some (.slice e)) (hi:P.info? e=some i) (hz:i.zero=some z)
  (hsize:i.size=1) (hby:i.bytes=bytes) (hzs:z.cells.size=1)
  (v:Value) (n:Nat) (xs:List Value) (hs:a.eval s=v) (hown:w.ownsRow base e 1 v n xs)
  A (m c:Nat) (news:List Value) (hx:a.eval x=.s A m c) (hm:m=news.length) (hr:Rd w A news) (hA:A=none->m=0/\c=0\/m=0) (h1:∀u∈news,u.oneCell'=true)
  (h63:n+m<=maxLen) (hbytes:(n+m)*bytes<=140737488355328) (hbase:base<=w.heap.size)
  (h:∀v' w',w'.ownsRow base e 1 v' (n+m) (xs++news)->w.grownBy w' v.ownBlock->(v'.ownBlock=v.ownBlock\/v'.ownBlock=some w.heap.size)->wpList P ops Q rest (a.put o.dst v') w'):wpList P ops Q (o::rest) a w:=
 wpList_plain hgd fun _ hK=>jzec w s x t ho base e i z bytes ht hi hz hsize hby hzs v n xs hs hown A m c news hx hm hr hA h1 h63 hbytes hbase fun v' w' h2 h3 h4=>hK _ _ (h v' w' h2 h3 h4)
end
theorem jzee(l:LN):∀u∈ints l,u.oneCell'=true:=by
 intro u hu;simp only[ints,kQl]at hu;obtain⟨_,_,rfl⟩:=hu;rfl
theorem rA{w:World}{i:Nat}{o:Obj}(h:w.heap[i]?=some o):i<w.heap.size:=by
 rcases kQd i w.heap.size with hlt|hge
 ·exact hlt
 rw[kQn hge]at h;cases h
theorem rB{w:World}{p:Addr}{v:Value}(h:w.cell? p=some v)(o:Obj):(w.alloc o).cell? p=some v:=by
 have hb:p.block<w.heap.size:=(by (unfold World.cell? at h;rcases kQd p.block w.heap.size with hlt|hge);{exact hlt};rw[kQn hge]at h;simp at h);exact(World.cell?_of_block (Below.heap_alloc _ _ _ hb)).trans h
theorem Tryz.info4:(Tryz.prog.info? 4).map (fun i=>(i.zero,i.size,i.bytes))=some (some (.bool false),1,1):=by kernel_rfl
theorem Rd.ints_{w}{A}{l:LN}(h:Rd w A (ints l)){k:Nat}(hk:k<l.length):
  ∃b o,A=some (aD b o)/\b<w.heap.size/\w.cell? (aD b (o+k))=some (vI ((l[k]?.getD 0:Nat):Int)):=by
 obtain⟨b,o,e,hb,hc⟩:=h.at_ (i:=k) (by rw[iQ];exact hk);exact⟨b,o,e,hb,(hc k (by rw[iQ];exact hk)).trans (pY l k hk)⟩
section
variable {P:Program} (w:World)
end
def on(l:List Bool)(x:Nat):Prop:=l[x]?.getD false=true
theorem RdT.grown{w w'}{t:TypeId}{A}{xs:List Value}{row:Option Nat}(h:RdT w t A xs)(hg:w.grownBy w' row)(hne:xs≠ []->∀a,A=some a->some a.block≠row):RdT w' t A xs:=fun hx=>by
 obtain⟨b,o,cs,fr,e,hb,hc⟩:=h hx;exact⟨b,o,cs,fr,e,(hg.block b (rA hb) (hne hx _ e)).trans hb,hc⟩
section
variable {w0 wR w w':World} {gs:Nat} {clo:Value} {vis:List Bool} {ps:List (List Nat)} {path:List Nat} {pv qv:Value}
theorem iV(hx:Ext w w'):w.grownBy w' none:=⟨hx.os,hx.tape,hx.output,hx.size,fun k hk _=>hx.block k hk⟩
theorem iW(v:Value):v.ownBlock=none\/v.ownBlock≠none:=Classical.em _
theorem bI(w:World)(g k:Nat)(u:Value):w.grownBy (w.setCell (aD g k) u) (some g):=
 ⟨rfl,rfl,rfl,by simp[World.setCell],fun i _ hne=>Below.heap_setCell w (aD g k) u i (fun e=>hne (by rw[e]))⟩
theorem jzef{B n g:Nat}{e:TypeId}{v:Value}{xs:List Value}(h:w.ownsRow B e 1 v n xs)(hg:g<B):v.ownBlock=none\/v.ownBlock≠some g:=by
 right;intro e;have:=(h.lt g e).1;omega
end
end Go.Proofs.YtllmekijiohgmaaGreatDoor
