/- Walks, part 4. -/
import Derived.Maps.AppendAt
import Derived.Deep.AppendLies
import Derived.Test.YtfeeacaofjpkaaaGreatDoorK03
set_option linter.unusedVariables false
set_option linter.unusedSimpArgs false
set_option maxRecDepth 100000
set_option maxHeartbeats 8000000
namespace Go.Proofs.YtfeeacaofjpkaaaGreatDoor
open Go.Proofs.Tryz
open Go.RowKit
structure Lk where
 a:Int
 b:Int
 c0:Int
 c1:Int
 cap:Int
 delay:Int
 group:Int
structure Tp where
 nodes:Int
 over:List Bool
 links:List Lk
abbrev tV (t:Tp) (AO:OA) (co:Nat) (AL:OA) (cl:Nat):Array Value:=#[vI t.nodes,.s AO t.over.length co,.s AL t.links.length cl]
def Lk.cells(l:Lk):List Value:=[vI l.a,vI l.b,vI l.c0,vI l.c1,vI l.cap,vI l.delay,vI l.group]
def bH(l:List Bool):List Value:=l.map Value.bool
def i64(x:Int):Prop:= -9223372036854775808<=x/\x<=9223372036854775807
def Lk.wf(l:Lk):Prop:=i64 l.a/\i64 l.b/\i64 l.c0/\i64 l.c1/\i64 l.cap/\i64 l.delay/\i64 l.group
structure bD(w:World)(t:Tp)(AO:OA)(co:Nat)(AL:OA)(cl:Nat):Prop where
 nodes:i64 t.nodes
 lo:t.over.length<=co
 ll:t.links.length<=cl
 co:t.over.length<=281474976710656
 cl:t.links.length<=281474976710656
 over:Rd w AO (bH t.over)
 links:Rd w AL (t.links.flatMap Lk.cells)
 wf:∀l∈t.links,l.wf
theorem bD.K{w w'}{t}{AO}{co:Nat}{AL}{cl:Nat}(h:bD w t AO co AL cl)(hb:Ext w w'):bD w' t AO co AL cl:=
 ⟨h.nodes,h.lo,h.ll,h.co,h.cl,h.over.K hb,h.links.K hb,h.wf⟩
theorem jzg0(ls:List Lk)(i k:Nat)(hi:i<ls.length)(hk:k<7):(ls.flatMap Lk.cells)[i*7+k]?=(ls[i]).cells[k]?:=by
 (induction ls generalizing i with|nil=>simp at hi|cons l ls ih=>(cases i with|zero=>simp only[xU,Nat.zero_mul,kQu,yB];rw[yR (by simp[Lk.cells];omega)]|succ i=>simp only[xU,yC];rw[yS (by simp[Lk.cells];omega),show(i+1)*7+k-l.cells.length=i*7+k by simp[Lk.cells];omega];exact ih i (by simpa using hi)))
theorem jzg1(ls:List Lk):(ls.flatMap Lk.cells).length=ls.length*7:=by
 (induction ls with|nil=>rfl|cons l ls ih=>simp only[xU,yQ,ih,kQo];simp[Lk.cells];omega)
theorem bD.link{w}{t}{AO}{co:Nat}{AL}{cl:Nat}(h:bD w t AO co AL cl){i:Nat}{l:Lk}(hl:t.links[i]?=some l):
  ∃b o:Nat,AL=some (aD b o)/\b<w.heap.size/\(w.cell? (aD b (o+i*7))=some (vI l.a)/\w.cell? (aD b (o+i*7+1))=some (vI l.b)/\w.cell? (aD b (o+i*7+2))=some (vI l.c0)/\
   w.cell? (aD b (o+i*7+3))=some (vI l.c1)/\w.cell? (aD b (o+i*7+4))=some (vI l.cap)/\w.cell? (aD b (o+i*7+5))=some (vI l.delay)/\w.cell? (aD b (o+i*7+6))=some (vI l.group)):=by
 obtain⟨hi,he⟩:=yH.1 hl;have qa:=jzg1 t.links;obtain⟨b,o,e,qe,hc⟩:=h.links (by intro e;rw[e]at qa;simp at qa;omega);have hk:∀k,k<7->w.cell? (aD b (o+i*7+k))=l.cells[k]?:=fun k hk=>(by rw[kZw,hc (i*7+k) (by rw[qa];omega),jzg0 t.links i k hi hk,he]);exact⟨b,o,e,qe,hk 0 qO,hk 1 qO,hk 2 qO,hk 3 qO,hk 4 qO,hk 5 qO,hk 6 qO⟩
def dQ(t:Tp)(a:Nat):Int:=match t.links[a/2]? with
 |some l=>if a%2=0 then l.a else l.b
 |none=> -1
def aK(t:Tp)(a:Nat):Int:=match t.links[a/2]? with
 |some l=>if a%2=0 then l.b else l.a
 |none=> -1
def bT(t:Tp)(n:Int):Bool:=t.over[n.toNat]?.getD false
theorem jzg2(n lo hi:Int)w:
  Calls prog 134 #[vI n,vI lo,vI hi] w fun e w'=>e=.returned (.bool (decide (lo<=n/\n<=hi)))/\w=w':=by
 have hd:decide (lo<=n/\n<=hi)=(decide (lo<=n)&&decide (n<=hi)):=qS;rw[hd];clear hd;by_cases h1:lo<=n;{(have qa:decide (lo<=n)=true:=by simpa using h1);rw[qa];go_enter func134,ntmps134;go_wp2;go_ret;exact⟨qS,rfl⟩};have qa:decide (lo<=n)=false:=(by simpa using h1);rw[qa];go_enter func134,ntmps134;go_wp2;go_ret;exact⟨qS,rfl⟩
theorem jzg3(n lo hi:Int)w:
  Calls prog 68 #[vI n,vI lo,vI hi] w fun e w'=>e=.returned (.bool (decide (lo<=n/\n<=hi)))/\w=w':=by
 have hd:decide (lo<=n/\n<=hi)=(decide (lo<=n)&&decide (n<=hi)):=qS;rw[hd];clear hd;by_cases h1:lo<=n;{(have qa:decide (lo<=n)=true:=by simpa using h1);rw[qa];go_enter func68,ntmps68;go_wp2;go_ret;exact⟨qS,rfl⟩};have qa:decide (lo<=n)=false:=(by simpa using h1);rw[qa];go_enter func68,ntmps68;go_wp2;go_ret;exact⟨qS,rfl⟩
theorem sU t AO(co:Nat)AL(cl:Nat)(a:Nat)w(ht:bD w t AO co AL cl)(ha:a/2<t.links.length):
  Calls prog 115 #[.agg #[vI t.nodes,.s AO t.over.length co,.s AL t.links.length cl],vI a] w fun e w'=>e=.returned (vI (dQ t a))/\Ext w w':=by
 (have hl:=ht.ll;have qe:=ht.cl;obtain⟨l,qa⟩:∃l,t.links[a/2]?=some l:=⟨_,yG ha⟩;obtain⟨b,o,rfl,hb,c0,c1,_⟩:=ht.link qa;have hv:dQ t a=if a%2=0 then l.a else l.b:=by unfold dQ;rw[qa]);rw[hv];clear ht qa hv;by_cases h:a%2=0;{rw[qE h];have h':(((a:Int)%2)==0)=true:=(by simp;omega);clear h;go_enter func115,ntmps115;go_wp2;go_ret;exact⟨rfl,(eR w).alloc _⟩};rw[qF h];have h':(((a:Int)%2)==0)=false:=yK.2 qO;clear h;go_enter func115,ntmps115;go_wp2;go_ret;exact⟨rfl,(eR w).alloc _⟩
theorem sV(a:Nat):a^^^1=if a%2=0 then a+1 else a-1:=by
 have h:(a^^^1)/2=a/2:=(by rw[Nat.xor_div_two];simp);have h2:=@Nat.xor_mod_two_eq_one a 1;split <;> omega
theorem jzg4(a:Nat)(ha:a<9223372036854775808):bits BinOp.xor IntKind.i64 (a:Int) 1=((a^^^1:Nat):Int):=by
 have hx:a^^^1<2^63:=Nat.xor_lt_two_pow qO qO;show IntKind.i64.wrap ((BitVec.ofInt 64 (a:Int)^^^BitVec.ofInt 64 (1:Int)).toNat:Int)=_;have e1:(BitVec.ofInt 64 (a:Int)).toNat=a:=(by rw[BitVec.ofInt_natCast,BitVec.toNat_ofNat];exact kQv qO);have e2:(BitVec.ofInt 64 (1:Int)).toNat=1:=qD;rw[BitVec.toNat_xor,e1,e2,IntKind.wrap_i64];omega
theorem jz7 t(a:Nat):aK t a=dQ t (a^^^1):=by
 (unfold aK dQ;have hx:=sV a;have h1:(a^^^1)/2=a/2:=(by rw[hx];split <;> omega);have h2:(a^^^1)%2=0↔¬a%2=0:=(by rw[hx];split <;> omega);rw[h1];cases t.links[a/2]? with|none=>rfl|some l=>by_cases h:a%2=0;{simp only[qE h];rw[qF (fun e=>h2.1 e h)]};simp only[qF h];rw[qE (h2.2 h)])
theorem mA t AO(co:Nat)AL(cl:Nat)(a:Nat)w(ht:bD w t AO co AL cl)(ha:a/2<t.links.length):
  Calls prog 106 #[.agg #[vI t.nodes,.s AO t.over.length co,.s AL t.links.length cl],vI a] w fun e w'=>e=.returned (vI (aK t a))/\Ext w w':=by
 have hl:=ht.ll;have qg:=ht.cl;have hb:=jzg4 a qO;have hx:=sV a;have qf:(a^^^1)/2<t.links.length:=(by rw[hx];split <;> omega);rw[jz7];have HT:=Hx (ht);generalize a^^^1=a' at*;clear hx ht;obtain⟨qe,e0⟩:=bA w #[vI t.nodes,.s AO t.over.length co,.s AL t.links.length cl] 25;go_enter func106,ntmps106;go_wp2_with fail;refine(sU t AO co AL cl a' _ (HT.o.K e0) qf).mono ?_;rintro e w1 ⟨rfl,qa⟩;have HX:=Hx (e0.tr qa);clear qa e0 qe;go_wp2;go_ret;exact⟨rfl,HX.o⟩
theorem Rd.bool{w}{A}{l:List Bool}(h:Rd w A (bH l)){k:Nat}(hk:k<l.length):
  ∃b o:Nat,A=some (aD b o)/\b<w.heap.size/\w.cell? (aD b (o+k))=some (.bool (l[k]?.getD false)):=by
 obtain⟨b,o,e,qa,hc⟩:=h.at_ (i:=k) (by simpa [bH]using hk);refine⟨b,o,e,qa,(hc k (by simpa [bH]using hk)).trans ?_⟩;simp[bH,hk]
theorem sW t AO(co:Nat)AL(cl:Nat)(n:Int)w(ht:bD w t AO co AL cl)(h0:0<=n)(hn:t.over=[]\/n<t.over.length):
  Calls prog 116 #[.agg #[vI t.nodes,.s AO t.over.length co,.s AL t.links.length cl],vI n] w fun e w'=>e=.returned (.bool (bT t n))/\Ext w w':=by
 obtain⟨N,rfl⟩:=kQj h0;have qf:=ht.lo;have qg:=ht.co;by_cases he:t.over.length=0;{(have hv:bT t N=false:=by unfold bT;rw[kQp.1 he];rfl);rw[hv];have hz:(t.over.length:Int)=0:=qO;rw[he];clear ht hn hv hz he;go_enter func116,ntmps116;go_wp2;go_ret;exact⟨rfl,(eR w).alloc _⟩};have hN:N<t.over.length:=(by (rcases hn with h|h);{rw[h]at he;simp at he};omega);obtain⟨b,o,rfl,hb,hc⟩:=ht.over.bool hN;have hv:bT t N=t.over[N]?.getD false:=rfl;rw[hv];generalize t.over[N]?.getD false=x at*;have qe:decide ((0:Int)<(t.over.length:Int))=true:=(by simp;omega);have qa:0<t.over.length:=qO;clear ht hn hv he;go_enter func116,ntmps116;go_wp2;go_ret;exact⟨rfl,(eR w).alloc _⟩
theorem jz8(t:Tp)AO(co:Nat)AL(cl:Nat)(n:Int)w:
  Calls prog 74 #[.agg #[vI t.nodes,.s AO t.over.length co,.s AL t.links.length cl],vI n] w fun e w'=>e=.returned (.bool (decide (0<=n/\n<t.nodes)))/\Ext w w':=by
 have hd:decide (0<=n/\n<t.nodes)=(decide (0<=n)&&decide (n<t.nodes)):=qS;rw[hd];clear hd;by_cases h1:0<=n;{(have qa:decide (0<=n)=true:=by simpa using h1);rw[qa];go_enter func74,ntmps74;go_wp2;go_ret;exact⟨qS,(eR w).alloc _⟩};have qa:decide (0<=n)=false:=(by simpa using h1);rw[qa];go_enter func74,ntmps74;go_wp2;go_ret;exact⟨qS,(eR w).alloc _⟩
theorem fX t AO(co:Nat)AL(cl:Nat)w(ht:bD w t AO co AL cl):
  Calls prog 45 #[.agg #[vI t.nodes,.s AO t.over.length co,.s AL t.links.length cl]] w fun e w'=>e=.returned (vI (2*(t.links.length:Int)))/\Ext w w':=by
 have h1:=ht.ll;have h2:=ht.cl;clear ht;go_enter func45,ntmps45;go_wp2;go_ret;exact⟨rfl,(eR w).alloc _⟩
def dX(t:Tp)(down:List Bool):Bool:=decide (down.length=0\/down.length=2*t.links.length)
theorem jz9 t AO(co:Nat)AL(cl:Nat)AD(cd:Nat)(down:List Bool)w(ht:bD w t AO co AL cl):
  Calls prog 73 #[.agg #[vI t.nodes,.s AO t.over.length co,.s AL t.links.length cl],.s AD down.length cd] w fun e w'=>e=.returned (.bool (dX t down))/\Ext w w':=by
 have HT:=Hx (ht);have h1:=ht.ll;have h2:=ht.cl;clear ht;obtain⟨qe,e0⟩:=bA w #[vI t.nodes,.s AO t.over.length co,.s AL t.links.length cl] 25;by_cases h:down.length=0;{(have hz:((down.length:Int)==0)=true:=by rw[h];rfl);have hv:dX t down=true:=(by unfold dX;simp only[decide_eq_true_eq];exact .inl h);rw[hv];clear hv h;go_enter func73,ntmps73;go_wp2_with fail;go_ret;exact⟨rfl,e0⟩};have hz:((down.length:Int)==0)=false:=yK.2 qO;have hv:((down.length:Int)==2*(t.links.length:Int))=dX t down:=(by unfold dX;by_cases h':down.length=2*t.links.length;{rw[yO (.inr h')];simp;omega};rw[yP qO];exact yK.2 qO);generalize dX t down=v at*;clear h;go_enter func73,ntmps73;go_wp2_with fail;refine(fX t AO co AL cl _ (HT.o.K e0)).mono ?_;rintro e w1 ⟨rfl,qa⟩;have HX:=Hx (e0.tr qa);clear qa e0 qe;go_wp2;go_ret;exact⟨rfl,HX.o⟩
def bZ(down:List Bool)(a:Nat):Bool:=down[a]?.getD false
theorem pG AD(cd:Nat)(down:List Bool)(a:Nat)w(hd:Rd w AD (bH down))(hc:down.length<=cd)(hcd:down.length<=281474976710656)(ha:down=[]\/a<down.length)(hai:a<=1125899906842624):
  Calls prog 140 #[.s AD down.length cd,vI a] w fun e w'=>e=.returned (.bool (bZ down a))/\w=w':=by
 by_cases he:down.length=0;{(have hv:bZ down a=false:=by unfold bZ;rw[kQp.1 he];rfl);rw[hv];rw[he];clear hd ha hv he;go_enter func140,ntmps140;go_wp2;go_ret;exact⟨rfl,rfl⟩};have hN:a<down.length:=(by (rcases ha with h|h);{rw[h]at he;simp at he};omega);obtain⟨b,o,rfl,hb,qe⟩:=hd.bool hN;have hv:bZ down a=down[a]?.getD false:=rfl;rw[hv];generalize down[a]?.getD false=x at*;have qa:0<down.length:=qO;clear hd ha hv he;go_enter func140,ntmps140;go_wp2;go_ret;exact⟨rfl,rfl⟩
def dF(t:Tp)(down:List Bool)(a:Nat)(d:Int):Bool:=!bZ down a&&(aK t a==d||!bT t (aK t a))
theorem jzg5 t AO(co:Nat)AL(cl:Nat)AD(cd:Nat)(down:List Bool)(a:Nat)(d:Int)w(ht:bD w t AO co AL cl)(ha:a/2<t.links.length)
  (hd:Rd w AD (bH down)) (hc:down.length<=cd) (hcd:down.length<=281474976710656) (had:down=[]\/a<down.length) (hh:0<=aK t a) (hh':t.over=[]\/aK t a<t.over.length):
  Calls prog 107 #[.agg #[vI t.nodes,.s AO t.over.length co,.s AL t.links.length cl],.s AD down.length cd,vI a,vI d] w fun e w'=>e=.returned (.bool (dF t down a d))/\Ext w w':=by
 have HT:=Hx (ht);have HD:=Hx (hd);have h1:=ht.ll;have h2:=ht.cl;have qi:a<=562949953421313:=qO;obtain⟨qf,e0⟩:=bA w #[vI t.nodes,.s AO t.over.length co,.s AL t.links.length cl] 25;have qe:(bZ down a=true/\dF t down a d=false)\/(bZ down a=false/\(aK t a==d)=true/\dF t down a d=true)\/(bZ down a=false/\(aK t a==d)=false/\dF t down a d=!bT t (aK t a)):=(by unfold dF;cases bZ down a;{cases aK t a==d;{exact .inr (.inr ⟨rfl,rfl,rfl⟩)};exact .inr (.inl ⟨rfl,rfl,rfl⟩)};exact .inl ⟨rfl,rfl⟩);(clear ht hd;rcases qe with⟨k1,k2⟩|⟨k1,k2,k3⟩|⟨k1,k2,k3⟩);(case inl=>rw[k2];have K1:=Hx (k1);clear k1 k2;go_enter func107,ntmps107;go_wp2_with fail;refine(mA t AO co AL cl a _ (HT.o.K e0) ha).mono ?_;rintro e w1 ⟨rfl,qa⟩;have HX:=Hx (e0.tr qa);clear qa e0 qf;generalize aK t a=m at*;go_wp2_with fail;refine(pG AD cd down a _ (HD.o.K HX.o) hc hcd had qO).mono ?_;rintro e w2 ⟨rfl,rfl⟩;rw[K1.o];go_wp2;go_ret;exact⟨rfl,HX.o⟩)
 case inr.inl=>
  rw[k3];have K1:=Hx (k1);clear k1 k3
  go_enter func107,ntmps107
  go_wp2_with fail
  refine(mA t AO co AL cl a _ (HT.o.K e0) ha).mono ?_;rintro e w1 ⟨rfl,qa⟩;have HX:=Hx (e0.tr qa);clear qa e0 qf;generalize aK t a=m at*
  go_wp2_with fail
  refine(pG AD cd down a _ (HD.o.K HX.o) hc hcd had qO).mono ?_;rintro e w2 ⟨rfl,rfl⟩;rw[K1.o];go_wp2;go_ret;exact⟨rfl,HX.o⟩
 case inr.inr=>
  rw[k3];have K1:=Hx (k1);clear k1 k3
  go_enter func107,ntmps107
  go_wp2_with fail
  refine(mA t AO co AL cl a _ (HT.o.K e0) ha).mono ?_;rintro e w1 ⟨rfl,qa⟩;have HX:=Hx (e0.tr qa);have qf:=qf.K qa;obtain⟨⟨i0,i1,i2⟩,g0,g1,g2⟩:=qf.t3;clear qa e0;generalize hm:aK t a=m at*;have HM:=Hx (hm);clear hm
  go_wp2_with fail
  refine(pG AD cd down a _ (HD.o.K HX.o) hc hcd had qO).mono ?_;rintro e w2 ⟨rfl,rfl⟩;rw[K1.o]
  go_wp2_with fail
  refine(sW t AO co AL cl m _ (HT.o.K HX.o) hh hh').mono ?_;rintro e w3 ⟨rfl,qg⟩;have qh:=Hx (HX.o.tr qg);clear qg;go_wp2;go_ret;rw[HM.o];exact⟨rfl,qh.o⟩
def XW(w:World):Type:={W:World//Ext w W}
instance instNonemptyXW(w:World):Nonempty (XW w):=⟨⟨w,eR w⟩⟩
def XW.val{w:World}(x:XW w):World:=x.1
theorem XW.ext{w}(x:XW w):Ext w x.val:=x.2
theorem dG{P:Program}{id:Nat}{Q:Exit->Act->World->Prop}{a:Act}{w}{l:List Oper}(hm:P.follows .mixedOrders=true)(hB:Region.lexB .any l.toArray=true)
  (h:wpQuiet P l.toArray (fun w'=>∃x:XW w,w'=x.val) (fun a'=>∀w',(∃x:XW w,w'=x.val)->Q .normal a' w') l a):(Code.region id l.toArray true).wp P Q a w:=
 wp_region_quiet (C:=fun w'=>∃x:XW w,w'=x.val) hm hB ⟨⟨w.drew,(eR w).drewN 1⟩,rfl⟩ (by simpa using h)
theorem Calls.ext_of{P:Program}{f:FuncId}{args:Array Value}{w}{x:XW w}{v:Value}(h:Calls P f args x.val fun e w'=>e=.returned v/\Ext x.val w'):
  Calls P f args x.val fun e w''=>e=.returned v/\∃y:XW w,w''=y.val:=
 h.mono fun _ w' ⟨he,hx⟩=>⟨he,⟨w',x.ext.tr hx⟩,rfl⟩
theorem XW.cell{w:World}(b o:Nat)(v:Value)(hb:b<w.heap.size)(hc:w.cell? (aD b o)=some v):∀x:XW w,x.val.cell? (aD b o)=some v:=fun x=>(x.ext.cell (p:=(aD b o)) hb).trans hc
def inB(n lo hi:Int):Bool:=decide (lo<=n/\n<=hi)
def ndB(N n:Int):Bool:=decide (0<=n/\n<N)
theorem lI(n lo hi:Int)w:Calls prog 134 #[vI n,vI lo,vI hi] w fun e w'=>e=.returned (.bool (inB n lo hi))/\w=w':=jzg2 n lo hi w
theorem lJ(t:Tp)AO(co:Nat)AL(cl:Nat)(n:Int)w:
 Calls prog 74 #[.agg #[vI t.nodes,.s AO t.over.length co,.s AL t.links.length cl],vI n] w fun e w'=>e=.returned (.bool (ndB t.nodes n))/\Ext w w':=jz8 t AO co AL cl n w
def Lk.ok(N:Int)(l:Lk):Bool:= !(l.a==l.b)&&ndB N l.a&&ndB N l.b&&inB l.c0 1 65535&&inB l.c1 1 65535&&inB l.cap 0 1048576&&inB l.delay 1 65536&&inB l.group 0 64
def cS(t:Tp):Bool:=inB t.nodes 1 64&&decide (t.links.length<=256)&&(decide (t.over.length=0)||decide ((t.over.length:Int)=t.nodes))
def aH(t:Tp):Bool:=cS t&&t.links.all (Lk.ok t.nodes)
theorem jzg6 t AO(co:Nat)AL(cl:Nat)w(ht:bD w t AO co AL cl)(hh:cS t=false):
  Calls prog 69 #[.agg #[vI t.nodes,.s AO t.over.length co,.s AL t.links.length cl]] w fun e w'=>e=.returned bF/\Ext w w':=by
 have h1:=ht.lo;have h2:=ht.co;have h3:=ht.ll;have h4:=ht.cl;clear ht;unfold cS at hh;cases k1:inB t.nodes 1 64;{clear hh;go_enter func69,ntmps69;(go_wp2_with (go_at_call 134;refine(lI _ _ _ _).mono ?_;rintro e w' ⟨rfl,rfl⟩));go_ret;exact⟨rfl,(eR w).alloc _⟩};by_cases k2:t.links.length<=256;{have k3:((t.over.length:Int) !=0)=true/\((t.over.length:Int) !=t.nodes)=true:=(by rw[k1,yO k2]at hh;simp at hh;simp;exact hh);obtain⟨k3,k4⟩:=k3;clear hh;go_enter func69,ntmps69;(go_wp2_with (go_at_call 134;refine(lI _ _ _ _).mono ?_;rintro e w' ⟨rfl,rfl⟩));go_ret;exact⟨rfl,(eR w).alloc _⟩};have qa:256<t.links.length:=qO;clear hh;go_enter func69,ntmps69;(go_wp2_with (go_at_call 134;refine(lI _ _ _ _).mono ?_;rintro e w' ⟨rfl,rfl⟩));go_ret;exact⟨rfl,(eR w).alloc _⟩
theorem sX{ls:List Lk}{N:Int}{k:Nat}{l:Lk}(hl:ls[k]?=some l)(hb:l.ok N=false):ls.all (Lk.ok N)=false:=by
 obtain⟨hk,he⟩:=yH.1 hl;rw[List.all_eq_false];exact⟨l,by rw[<-he];exact xR hk,by simp[hb]⟩
theorem jzaa{ls:List Lk}{N:Int}(h:∀(j:Nat) (l:Lk),ls[j]?=some l->l.ok N=true):ls.all (Lk.ok N)=true:=by
 rw[xW];intro l hl;obtain⟨j,hj,rfl⟩:=List.mem_iff_getElem.1 hl;exact h j _ (yG hj)
theorem jzg7 t AO(co:Nat)AL(cl:Nat)w(ht:bD w t AO co AL cl)(hh:cS t=true):
  Calls prog 69 #[.agg #[vI t.nodes,.s AO t.over.length co,.s AL t.links.length cl]] w fun e w'=>e=.returned (.bool (t.links.all (Lk.ok t.nodes)))/\Ext w w':=by
 have HT:=Hx (ht);have h1:=ht.lo;have h2:=ht.co;have h3:=ht.ll;have h4:=ht.cl;clear ht;obtain⟨qg,e0⟩:=bA w #[vI t.nodes,.s AO t.over.length co,.s AL t.links.length cl] 25;have BA:=Hx (qg);have k1:inB t.nodes 1 64=true:=(by unfold cS at hh;simp at hh;exact hh.1.1);have k2:t.links.length<=256:=(by unfold cS at hh;simp at hh;exact hh.1.2);have k3:(((t.over.length:Int) !=0)=false)\/(((t.over.length:Int) !=0)=true/\((t.over.length:Int) !=t.nodes)=false):=by
  unfold cS at hh;simp at hh;by_cases h:t.over.length=0
  ·exact .inl (by simp;exact kQp.1 h)
  refine .inr ⟨bne_iff_ne.2 qO,?_⟩;have:=hh.2;simp;rcases this with h'|h'
  ·exact absurd (by rw[h'];rfl) h
  exact h'
 clear hh qg;rcases k3 with k3|⟨k3,k4⟩
 all_goals
  go_enter func69,ntmps69
  go_wp2_with (go_at_call 134;refine(lI _ _ _ _).mono ?_;rintro e w' ⟨rfl,rfl⟩)
  go_loopw [30] (fun i wr=>∃k:Nat,k<=t.links.length/\i=vI k/\Blk wr w.heap.size 25 #[vI t.nodes,.s AO t.over.length co,.s AL t.links.length cl]/\(∀j l,j<k->t.links[j]?=some l->l.ok t.nodes=true)/\Ext w wr) (fun i _=>t.links.length-(intOf i).toNat)
  case atStart=>exact⟨0,yZ _,rfl,BA.o,fun j l h=>qO,e0⟩
  obtain⟨k,hk,rfl,qa,qh,hx⟩:=hrel;have qm:=Hx qh;clear qh e0 BA;by_cases qn:k<t.links.length
  ·obtain⟨l,hl⟩:∃l,t.links[k]?=some l:=⟨_,yG qn⟩
   have HL:=Hx hl;have qk:=HT.o.K hx;obtain⟨b,o,rfl,hb,c0,c1,c2,c3,c4,c5,c6⟩:=qk.link hl;have HX:=Hx hx;obtain⟨⟨i0,i1,i2⟩,_⟩:=qa.t3;clear hl qk hx
   go_upto_region 9 with fail
   go_cut [63] (fun s wx=>s=.bool ((l.a==l.b)||!ndB t.nodes l.a||!ndB t.nodes l.b)/\Blk wx w.heap.size 25 #[vI t.nodes,.s AO t.over.length co,.s (some (aD b o)) t.links.length cl]/\Ext wr wx)
   case first=>
    have x0:=XW.cell _ _ _ qa.lt i0;have x1:=XW.cell _ _ _ qa.lt i1;have x2:=XW.cell _ _ _ qa.lt i2;have y0:=XW.cell _ _ _ hb c0;have y1:=XW.cell _ _ _ hb c1;cases q1:l.a==l.b
    ·cases q2:ndB t.nodes l.a
     ·refine dG qK qK ?_
      repeat (go_big_quiet_step ((go_at_call 74;exact Calls.ext_of (lJ t AO co (some (aD b o)) cl _ _))))
      refine wpQuiet_nil ?_;rintro _ ⟨x,rfl⟩;go_wp2;go_meet;exact⟨by first|(rw[q1,q2,q3];rfl)|(rw[q1,q2];rfl)|(rw[q1];rfl),qa.K x.ext,x.ext⟩
     cases q3:ndB t.nodes l.b
     all_goals
      refine dG qK qK ?_
      repeat (go_big_quiet_step ((go_at_call 74;exact Calls.ext_of (lJ t AO co (some (aD b o)) cl _ _))))
      refine wpQuiet_nil ?_;rintro _ ⟨x,rfl⟩;go_wp2;go_meet;exact⟨by first|(rw[q1,q2,q3];rfl)|(rw[q1,q2];rfl)|(rw[q1];rfl),qa.K x.ext,x.ext⟩
    refine dG qK qK ?_
    repeat (go_big_quiet_step ((go_at_call 74;exact Calls.ext_of (lJ t AO co (some (aD b o)) cl _ _))))
    refine wpQuiet_nil ?_;rintro _ ⟨x,rfl⟩;go_wp2;go_meet;exact⟨by first|(rw[q1,q2,q3];rfl)|(rw[q1,q2];rfl)|(rw[q1];rfl),qa.K x.ext,x.ext⟩
   obtain⟨rfl,qf,qe⟩:=hcut;have qi:=Hx (HX.o.tr qe);have c2:=(qe.cell (p:=(aD b (o+k*7+2))) hb).trans c2;have c3:=(qe.cell (p:=(aD b (o+k*7+3))) hb).trans c3;have c4:=(qe.cell (p:=(aD b (o+k*7+4))) hb).trans c4;have c5:=(qe.cell (p:=(aD b (o+k*7+5))) hb).trans c5;have c6:=(qe.cell (p:=(aD b (o+k*7+6))) hb).trans c6;have qj:((l.a==l.b||!ndB t.nodes l.a||!ndB t.nodes l.b)=true/\l.ok t.nodes=false)\/((l.a==l.b||!ndB t.nodes l.a||!ndB t.nodes l.b)=false/\((inB l.c0 1 65535=false/\l.ok t.nodes=false)\/(inB l.c0 1 65535=true/\inB l.c1 1 65535=false/\l.ok t.nodes=false)\/
     (inB l.c0 1 65535=true/\inB l.c1 1 65535=true/\inB l.cap 0 1048576=false/\l.ok t.nodes=false)\/(inB l.c0 1 65535=true/\inB l.c1 1 65535=true/\inB l.cap 0 1048576=true/\inB l.delay 1 65536=false/\l.ok t.nodes=false)\/
     (inB l.c0 1 65535=true/\inB l.c1 1 65535=true/\inB l.cap 0 1048576=true/\inB l.delay 1 65536=true/\inB l.group 0 64=l.ok t.nodes))):=by
    unfold Lk.ok;cases l.a==l.b <;> cases ndB t.nodes l.a <;> cases ndB t.nodes l.b <;> cases inB l.c0 1 65535 <;> cases inB l.c1 1 65535 <;> cases inB l.cap 0 1048576 <;> cases inB l.delay 1 65536 <;> simp
   clear qa qe i0 i1 i2 c0 c1;obtain⟨⟨i0,i1,i2⟩,_⟩:=qf.t3;generalize hB:(l.a==l.b||!ndB t.nodes l.a||!ndB t.nodes l.b)=bad at*;clear hB;rcases qj with⟨rfl,hf⟩|⟨rfl,⟨d1,hf⟩|⟨d1,d2,hf⟩|⟨d1,d2,d3,hf⟩|⟨d1,d2,d3,d4,hf⟩|⟨d1,d2,d3,d4,d5⟩⟩
   case inr.inr.inr.inr.inr=>
    cases hg:inB l.group 0 64
    ·have hf:=sX HL.o (d5.symm.trans hg)
     have HF:=Hx hf;clear hf d5
     go_wp2_with (go_at_call 134;refine(lI _ _ _ _).mono ?_;rintro e w' ⟨rfl,rfl⟩)
     go_ret;rw[HF.o];exact⟨rfl,qi.o⟩
    have OK:=Hx (d5.symm.trans hg);clear d5
    go_wp2_with (go_at_call 134;refine(lI _ _ _ _).mono ?_;rintro e w' ⟨rfl,rfl⟩)
    go_roundw
    case rel=>exact⟨k+1,qO,by go_num,qf,fun j l' hj hl'=>by
     by_cases e:j=k
     ·subst e;have:=HL.o;rw[this]at hl';injection hl' with hl';subst hl';exact OK.o
     exact qm.o j l' qO hl',qi.o⟩
    simp[intOf];omega
   all_goals
    have hf:=sX HL.o hf;have HF:=Hx hf;clear hf
    go_wp2_with (go_at_call 134;refine(lI _ _ _ _).mono ?_;rintro e w' ⟨rfl,rfl⟩)
    go_ret;rw[HF.o];exact⟨rfl,qi.o⟩
  have qo:k=t.links.length:=qO;subst qo;have HF:=Hx (jzaa (ls:=t.links) (N:=t.nodes) (fun j l hj=>qm.o j l (yH.1 hj).1 hj));go_wp2;go_ret;rw[HF.o];exact⟨rfl,hx⟩
theorem pH t AO(co:Nat)AL(cl:Nat)w(ht:bD w t AO co AL cl):
  Calls prog 69 #[.agg #[vI t.nodes,.s AO t.over.length co,.s AL t.links.length cl]] w fun e w'=>e=.returned (.bool (aH t))/\Ext w w':=by
 unfold aH;cases hh:cS t;{exact jzg6 t AO co AL cl w ht hh};rw[kZg];exact jzg7 t AO co AL cl w ht hh
theorem mB(n lo hi:Int)w:Calls prog 68 #[vI n,vI lo,vI hi] w fun e w'=>e=.returned (.bool (inB n lo hi))/\w=w':=jzg3 n lo hi w
theorem jzab(N n:Int):inB n 0 (N-1)=ndB N n:=by unfold inB ndB;rw[decide_eq_decide];omega
theorem nE t AO(co:Nat)AL(cl:Nat)w(ht:bD w t AO co AL cl):
  Calls prog 25 #[.agg #[vI t.nodes,.s AO t.over.length co,.s AL t.links.length cl]] w fun e w'=>e=.returned (.bool (aH t))/\Ext w w':=by
 have HT:=Hx (ht);have h1:=ht.lo;have h2:=ht.co;have h3:=ht.ll;have h4:=ht.cl;have qt:=ht.nodes;clear ht;obtain⟨qe,e0⟩:=bA w #[vI t.nodes,.s AO t.over.length co,.s AL t.links.length cl] 25;have BA:=Hx (qe);have qa:(inB t.nodes 1 64=false/\aH t=false)\/(inB t.nodes 1 64=true/\((((t.over.length:Int) !=0)=true/\((t.over.length:Int) !=t.nodes)=true/\aH t=false)\/
   (((((t.over.length:Int) !=0)=true/\((t.over.length:Int) !=t.nodes)=false)\/((t.over.length:Int) !=0)=false)/\((decide (256<t.links.length)=true/\aH t=false)\/(t.links.length<=256/\aH t=t.links.all (Lk.ok t.nodes)))))):=by
  unfold aH cS;cases inB t.nodes 1 64
  ·exact .inl ⟨rfl,rfl⟩
  refine .inr ⟨rfl,?_⟩;by_cases k1:t.over.length=0
  ·have e1:((t.over.length:Int) !=0)=false:=by rw[k1];rfl
   refine .inr ⟨.inr e1,?_⟩;by_cases k2:t.links.length<=256
   ·exact .inr ⟨k2,by rw[yO k2,yO k1];rfl⟩
   exact .inl ⟨by simp;omega,by rw[yP k2];rfl⟩
  have e1:((t.over.length:Int) !=0)=true:=bne_iff_ne.2 qO;by_cases k3:(t.over.length:Int)=t.nodes
  ·have e2:((t.over.length:Int) !=t.nodes)=false:=by rw[k3];simp
   refine .inr ⟨.inl ⟨e1,e2⟩,?_⟩;by_cases k2:t.links.length<=256
   ·exact .inr ⟨k2,by rw[yO k2,yP k1,yO k3];rfl⟩
   exact .inl ⟨by simp;omega,by rw[yP k2];rfl⟩
  exact .inl ⟨e1,bne_iff_ne.2 k3,by rw[yP k1,yP k3];simp⟩
 generalize hV:aH t=V at*;clear qe hV;rcases qa with⟨k1,rfl⟩|⟨k1,⟨k2,k3,rfl⟩|⟨hh,⟨k4,rfl⟩|⟨k4,k5⟩⟩⟩
 ·skip
  go_enter func25,ntmps25
  go_wp2_with (go_at_call 68;refine(mB _ _ _ _).mono ?_;rintro e w' ⟨rfl,rfl⟩)
  go_ret;exact⟨rfl,e0⟩
 ·skip
  go_enter func25,ntmps25
  go_wp2_with (go_at_call 68;refine(mB _ _ _ _).mono ?_;rintro e w' ⟨rfl,rfl⟩)
  go_ret;exact⟨rfl,e0⟩
 ·have qo:256<t.links.length:=by simpa using k4
  clear k4;rcases hh with⟨k2,k3⟩|k2
  all_goals
   go_enter func25,ntmps25
   go_wp2_with (go_at_call 68;refine(mB _ _ _ _).mono ?_;rintro e w' ⟨rfl,rfl⟩)
   go_ret;exact⟨rfl,e0⟩
 have K5:=Hx k5;clear k5;have hN:1<=t.nodes/\t.nodes<=64:=of_decide_eq_true k1;have qp:=hN.1;have qw:=hN.2;clear hN;rcases hh with⟨k2,k3⟩|k2
 all_goals
  go_enter func25,ntmps25
  go_wp2_with (go_at_call 68;refine(mB _ _ _ _).mono ?_;rintro e w' ⟨rfl,rfl⟩)
  go_loopw [3] (fun i wr=>∃k:Nat,k<=t.links.length/\i=vI k/\Blk wr w.heap.size 25 #[vI t.nodes,.s AO t.over.length co,.s AL t.links.length cl]/\(∀j l,j<k->t.links[j]?=some l->l.ok t.nodes=true)/\Ext w wr) (fun i _=>t.links.length-(intOf i).toNat)
  case atStart=>exact⟨0,yZ _,rfl,BA.o,fun j l h=>qO,e0⟩
  obtain⟨k,hk,rfl,qg,qf,hx⟩:=hrel;have qj:=Hx qf;clear qf e0 BA;obtain⟨⟨i0,i1,i2⟩,_⟩:=qg.t3;have qn:=qg.lt;by_cases qk:k<t.links.length
  ·obtain⟨l,hl⟩:∃l,t.links[k]?=some l:=⟨_,yG qk⟩
   have HL:=Hx hl;have qi:=HT.o.K hx;obtain⟨b,o,rfl,hb,c0,c1,c2,c3,c4,c5,c6⟩:=qi.link hl;have HX:=Hx hx;have qh:(inB l.a 0 (t.nodes-1)=false/\l.ok t.nodes=false)\/(inB l.a 0 (t.nodes-1)=true/\inB l.b 0 (t.nodes-1)=false/\l.ok t.nodes=false)\/(inB l.a 0 (t.nodes-1)=true/\inB l.b 0 (t.nodes-1)=true/\(l.a==l.b)=true/\l.ok t.nodes=false)\/
     (inB l.a 0 (t.nodes-1)=true/\inB l.b 0 (t.nodes-1)=true/\(l.a==l.b)=false/\((inB l.c0 1 65535=false/\l.ok t.nodes=false)\/(inB l.c0 1 65535=true/\inB l.c1 1 65535=false/\l.ok t.nodes=false)\/
     (inB l.c0 1 65535=true/\inB l.c1 1 65535=true/\inB l.cap 0 1048576=false/\l.ok t.nodes=false)\/(inB l.c0 1 65535=true/\inB l.c1 1 65535=true/\inB l.cap 0 1048576=true/\inB l.delay 1 65536=false/\l.ok t.nodes=false)\/
     (inB l.c0 1 65535=true/\inB l.c1 1 65535=true/\inB l.cap 0 1048576=true/\inB l.delay 1 65536=true/\inB l.group 0 64=false/\l.ok t.nodes=false)\/
     (inB l.c0 1 65535=true/\inB l.c1 1 65535=true/\inB l.cap 0 1048576=true/\inB l.delay 1 65536=true/\inB l.group 0 64=true/\l.ok t.nodes=true))):=by
    rw[jzab,jzab];unfold Lk.ok;cases l.a==l.b <;> cases ndB t.nodes l.a <;> cases ndB t.nodes l.b <;> cases inB l.c0 1 65535 <;> cases inB l.c1 1 65535 <;> cases inB l.cap 0 1048576 <;> cases inB l.delay 1 65536 <;> cases inB l.group 0 64 <;> simp
   clear hl qi hx;rcases qh with⟨d1,hf⟩|⟨d1,d2,hf⟩|⟨d1,d2,d3,hf⟩|⟨d1,d2,d3,⟨d4,hf⟩|⟨d4,d5,hf⟩|⟨d4,d5,d6,hf⟩|⟨d4,d5,d6,d7,hf⟩|⟨d4,d5,d6,d7,d8,hf⟩|⟨d4,d5,d6,d7,d8,hf⟩⟩
   case inr.inr.inr.inr.inr.inr.inr.inr=>
    have OK:=Hx hf;clear hf
    go_wp2_with (go_at_call 68;refine(mB _ _ _ _).mono ?_;rintro e w' ⟨rfl,rfl⟩)
    go_roundw
    case rel=>exact⟨k+1,qO,by go_num,qg.alloc _,fun j l' hj hl'=>by
     by_cases e:j=k
     ·subst e;have:=HL.o;rw[this]at hl';injection hl' with hl';subst hl';exact OK.o
     exact qj.o j l' qO hl',HX.o.alloc _⟩
    simp[intOf];omega
   all_goals
    have hf:=sX HL.o hf;have HF:=Hx hf;clear hf
    go_wp2_with (go_at_call 68;refine(mB _ _ _ _).mono ?_;rintro e w' ⟨rfl,rfl⟩)
    go_ret;rw[K5.o,HF.o];exact⟨rfl,HX.o.alloc _⟩
  have qm:k=t.links.length:=qO;subst qm;have HF:=Hx (jzaa (ls:=t.links) (N:=t.nodes) (fun j l hj=>qj.o j l (yH.1 hj).1 hj));go_wp2;go_ret;rw[K5.o,HF.o];exact⟨rfl,hx⟩
theorem Tryz.info39:(prog.info? 42).map (fun i=>(i.zero,i.size,i.bytes))=some (some zN,1,24):=by kernel_rfl
theorem Tryz.info3:(prog.info? 3).map (fun i=>(i.zero,i.size,i.bytes))=some (some (vI 0),1,8):=by kernel_rfl
def ints(l:LN):List Value:=l.map fun a:Nat=>Value.int .i64 (a:Int)
theorem cW(l:LN):(ints l).length=l.length:=by simp[ints]
theorem kU(l:LN)(a:Nat):ints (l++[a])=ints l++[vI (a:Int)]:=by simp[ints]
theorem pI(l:LN)(i:Nat)(h:i<l.length):(ints l)[i]?=some (vI ((l[i]?.getD 0:Nat):Int)):=by simp[ints,h]
structure Fam(w:World)(g B N:Nat)(V:Nat->Value)(X:Nat->LN):Prop where
 row:Blk w g 42 ((List.range N).map V).toArray
 own:∀i,i<N->w.ownsRow B 3 1 (V i) (X i).length (ints (X i))
 sep:∀i j,i<N->j<N->i≠j->(V i).ownBlock=none\/(V i).ownBlock≠(V j).ownBlock
theorem jzg8(N:Nat)(V:Nat->Value)(n:Nat)(v:Value)(hn:n<N):((List.range N).map V).toArray.setIfInBounds n v=((List.range N).map fun i=>if i=n then v else V i).toArray:=by
 apply Array.ext';simp only[yD];apply uK;intro i;by_cases h:i<N;{by_cases e:i=n;{subst e;simp[h]};rw[vN qO];simp[h,e]};rw[yI (by simp;omega),yI (by simp;omega)]
theorem pJ(N:Nat)(V:Nat->Value)(n:Nat)(hn:n<N):((List.range N).map V).toArray[n]?=some (V n):=by simp[hn]
theorem Fam.far{w}{g B N:Nat}{V:Nat->Value}{X:Nat->LN}(h:Fam w g B N V X):∀i,i<N->(V i).ownBlock≠some g:=fun i hi=>by
 (have ho:=h.own i hi;intro e;obtain⟨_,h2⟩:=ho;rcases h2 with⟨h3,_⟩|⟨g',cap,cur,h3,_,h5,_⟩);{rw[h3]at e;cases e};{rw[h3]at e;(have:g'=g:=(by simpa [Value.ownBlock]using e);subst this;have hr:=h.row;unfold Blk at hr;rw[h5]at hr;injection hr with hr);(injection hr with _ ht);revert ht;decide}
theorem Fam.rowG{w w1}{g B N n:Nat}{V:Nat->Value}{X:Nat->LN}(h:Fam w g B N V X)(hn:n<N)(hg:w.grownBy w1 (V n).ownBlock):Blk w1 g 42 ((List.range N).map V).toArray:=
 (hg.block g h.row.lt (fun e=>h.far n hn e.symm)).trans h.row
theorem Fam.app{w w1:World}{g B N n a:Nat}{V:Nat->Value}{X:Nat->LN}{v':Value}(h:Fam w g B N V X)(hn:n<N)
  (hown:w1.ownsRow B 3 1 v' ((X n).length+1) (ints (X n)++[vI (a:Int)])) (hg:w.grownBy w1 (V n).ownBlock) (hb:v'.ownBlock=(V n).ownBlock\/v'.ownBlock=some w.heap.size):
  Fam (w1.setCell (aD g n) v') g B N (fun i=>if i=n then v' else V i) (fun i=>if i=n then X n++[a]else X i):=by
 have qh:∀i,i<N->(V i).ownBlock≠some g:=fun i hi=>(by (have ho:=h.own i hi;intro e;obtain⟨_,h2⟩:=ho;rcases h2 with⟨h3,_⟩|⟨g',cap,cur,h3,_,h5,_⟩);{rw[h3]at e;cases e};(rw[h3]at e;have:g'=g:=(by simpa [Value.ownBlock]using e);subst this;have hr:=h.row;unfold Blk at hr;rw[h5]at hr;injection hr with hr);(injection hr with _ ht);revert ht;decide);have qe:Blk w1 g 42 ((List.range N).map V).toArray:=(hg.block g h.row.lt (fun e=>qh n hn e.symm)).trans h.row;have qg:v'.ownBlock≠some g:=(by (rcases hb with e|e);{rw[e];exact qh n hn};rw[e];intro e';have:=h.row.lt;injection e' with e';omega);have qa:∀(u:Value) (m:Nat) (ys:List Value),w1.ownsRow B 3 1 u m ys->u.ownBlock≠some g->(w1.setCell (aD g n) v').ownsRow B 3 1 u m ys:=fun u m ys ho hu=>(by (refine⟨ho.1,?_⟩;rcases ho.2 with h3|⟨g',cap,cur,h3,h4,h5,h6⟩);{exact .inl h3};refine .inr ⟨g',cap,cur,h3,h4,(Below.heap_setCell w1 (aD g n) v' g' ?_).trans h5,h6⟩;rintro rfl;exact hu (by rw[h3];simp[Value.ownBlock]));refine⟨?_,?_,?_⟩;{rw[<-jzg8 N V n v' hn];exact qe.sT n v'};{intro i hi;by_cases e:i=n;{subst e;simp only[if_true];rw[yQ,kU];exact qa _ _ _ hown qg};(simp only[qF e];refine qa _ _ _ ((h.own i hi).kept hg ?_) (qh i hi);rcases h.sep i n hi hn e with h1|h1);{exact .inl h1};exact .inr h1};intro i j hi hj qf;have qi:∀k,k<N->(V k).ownBlock≠some w.heap.size:=fun k hk e=>(by have:=(h.own k hk).lt _ e;omega);by_cases ei:i=n;{subst ei;(simp only[if_true,qF (fun e:j=i=>qf e.symm)];rcases hb with e|e);{rw[e];exact h.sep i j hi hj qf};rw[e];right;exact fun e'=>qi j hj e'.symm};simp only[qF ei];by_cases ej:j=n;{subst ej;(simp only[if_true];rcases hb with e|e);{rw[e];exact h.sep i j hi hj qf};rw[e];right;exact qi i hi};simp only[qF ej];exact h.sep i j hi hj qf
theorem Fam.alloc{w}{g B N:Nat}{V:Nat->Value}{X:Nat->LN}(h:Fam w g B N V X)(o:Obj):Fam (w.alloc o) g B N V X:=
 ⟨h.row.alloc o,fun i hi=>(h.own i hi).alloc o,h.sep⟩
theorem Fam.K{w w'}{g B N:Nat}{V:Nat->Value}{X:Nat->LN}(h:Fam w g B N V X)(hx:Ext w w'):Fam w' g B N V X:=
 ⟨h.row.K hx,fun i hi=>(h.own i hi).kept (row:=none) ⟨hx.os,hx.tape,hx.output,hx.size,fun k hk _=>hx.block k hk⟩ (by
  by_cases e:(V i).ownBlock=none
  ·exact .inl e
  ·exact .inr e),h.sep⟩
def cE(t:Tp)(m n:Nat):LN:=(List.range m).filter fun a=>dQ t a==(n:Int)
def aL(t:Tp)(n:Nat):LN:=cE t (2*t.links.length) n
theorem sY t(m n:Nat):cE t (m+1) n=if dQ t m==(n:Int)then cE t m n++[m]else cE t m n:=by
 unfold cE;rw[kZc,List.filter_append];by_cases h:dQ t m==(n:Int) <;> simp[h]
theorem lK t(m n:Nat):(cE t m n).length<=m:=by
 unfold cE;exact yY (List.length_filter_le _ _) qS
def LL(w:World)(g N:Nat)(X:Nat->LN):Prop:=
 ∃V:Nat->Value,Blk w g 42 ((List.range N).map V).toArray/\∀i,i<N->∃(A:OA) (c:Nat),V i=.s A (X i).length c/\(X i).length<=c/\RdT w 3 A (ints (X i))
theorem LL.K{w w'}{g N:Nat}{X:Nat->LN}(h:LL w g N X)(hx:Ext w w'):LL w' g N X:=by
 obtain⟨V,h1,h2⟩:=h;refine⟨V,h1.K hx,fun i hi=>?_⟩;obtain⟨A,c,h3,h4,h5⟩:=h2 i hi;exact⟨A,c,h3,h4,h5.K hx⟩
theorem iE{w:World}{B n:Nat}{v:Value}{l:LN}(h:w.ownsRow B 3 1 v n (ints l))(hn:n=l.length):∃(A:OA) (c:Nat),v=.s A l.length c/\l.length<=c/\RdT w 3 A (ints l):=by
 subst hn;obtain⟨h1,h2⟩:=h;rcases h2 with⟨h3,h4⟩|⟨g',cap,cur,h3,h4,h5,h6,h7,h8,h9⟩
 ·have:l=[]:=by simpa [ints]using h4
  subst this;exact⟨none,0,h3,yX _,RdT.nil _ _ _⟩
 refine⟨(sA g'),cap,h3,h6,fun _=>⟨g',0,cur,(0,0),rfl,h5,fun i hi=>?_⟩⟩;rw[<-h9,xG,qE (by rw[cW]at hi;omega),kQu];simp
theorem Fam.ll{w}{g B N:Nat}{V:Nat->Value}{X:Nat->LN}(h:Fam w g B N V X):LL w g N X:=
 ⟨V,h.row,fun i hi=>iE (h.own i hi) rfl⟩
theorem sZ t AO(co:Nat)AL(cl:Nat)w(ht:bD w t AO co AL cl)(hv:aH t=true):
  Calls prog 75 #[.agg #[vI t.nodes,.s AO t.over.length co,.s AL t.links.length cl]] w fun e w'=>∃g N:Nat,t.nodes=(N:Int)/\e=.returned (.s (sA g) N N)/\LL w' g N (aL t)/\Ext w w':=by
 have hN:∃N:Nat,t.nodes=(N:Int)/\1<=N/\N<=64/\t.links.length<=256:=(by unfold aH cS inB at hv;simp at hv;exact⟨t.nodes.toNat,qO,qO,qO,qO⟩);have qJ:∀a,a<2*t.links.length->∃n:Nat,dQ t a=(n:Int)/\(n:Int)<t.nodes:=fun a ha=>(by unfold aH at hv;rw[vM]at hv;obtain⟨l,hl⟩:∃l,t.links[a/2]?=some l:=⟨_,yG qO⟩;have qI:=xW.1 hv.2 l (yJ hl);unfold Lk.ok ndB at qI;simp at qI;unfold dQ;rw[hl];simp only[];split;{exact⟨l.a.toNat,qO,qO⟩};exact⟨l.b.toNat,qO,qO⟩);obtain⟨N,qx,va,q8,q9⟩:=hN;have HN:=Hx (qx);have HT:=Hx (ht);have TL:=Hx (qJ);have h3:=ht.ll;have h4:=ht.cl;clear ht hv qJ;obtain⟨ti,hi,qZ,q2,qX⟩:=info_parts Tryz.info3;obtain⟨qh,e0⟩:=bA w #[vI (N:Int),.s AO t.over.length co,.s AL t.links.length cl] 25;have q3:=run_make_row' (P:=prog) 64 42 zN 24 underlying64 Tryz.info39 rfl .i64 .i64 N qO qO;have qn:(Value.agg #[vI t.nodes,.s AO t.over.length co,.s AL t.links.length cl])=.agg #[vI (N:Int),.s AO t.over.length co,.s AL t.links.length cl]:=(by rw[qx]);rw[qn];clear qn;have qk:∀(W:World),Ext w W->Calls prog 45 #[.agg #[vI (N:Int),.s AO t.over.length co,.s AL t.links.length cl]] W fun e w'=>e=.returned (vI (2*(t.links.length:Int)))/\Ext W w':=fun W hW=>(by have:=fX t AO co AL cl W (HT.o.K hW);rw[qx]at this;exact this);have qm:∀(W:World) (a:Nat),Ext w W->a/2<t.links.length->Calls prog 115 #[.agg #[vI (N:Int),.s AO t.over.length co,.s AL t.links.length cl],vI a] W fun e w'=>e=.returned (vI (dQ t a))/\Ext W w':=fun W a hW ha=>(by have:=sU t AO co AL cl a W (HT.o.K hW) ha;rw[qx]at this;exact this);have qt:=Hx (qk);have qC:=Hx (qm);clear qk qm qx;go_enter func75,ntmps75;go_wp2_with fail;refine(qt.o _ (e0.alloc _)).mono ?_;rintro e w1 ⟨rfl,qw⟩;have E1:=Hx ((e0.alloc _).tr qw);have qe:Fam ((w.alloc (.cells #[vI (N:Int),.s AO t.over.length co,.s AL t.links.length cl] 25)).alloc (.cells (madeCells #[zN] N) 42)) (w.heap.size+1) (w.heap.size+2) N (fun _=>zN) (fun _=>[]):=(by refine⟨?_,fun i hi=>World.ownsRow_nil _ _ _ _,fun i j _ _ _=>.inl rfl⟩;have e:((List.range N).map fun _=>Value.slice none 0 0).toArray=madeCells #[zN] N:=(by apply Array.toList_inj.1;rw[toList_madeCells_one];simp only[List.map_const',kZm]);rw[e];exact Blk.new' _ _ _ qS);have qe:=qe.K qw;have qh:=(qh.alloc (.cells (madeCells #[zN] N) 42)).K qw;have z1:w.heap.size+2<=w1.heap.size:=(by have:=qw.size;simp at this;omega);clear qw e0 q3 qt;go_wp2;(go_loopw [11] (fun it wr=>∃(m:Nat) (V:Nat->Value),m<=2*t.links.length/\it=vI m/\Fam wr (w.heap.size+1) (w.heap.size+2) N V (cE t m)/\Blk wr w.heap.size 25 #[vI (N:Int),.s AO t.over.length co,.s AL t.links.length cl]/\Ext w wr) (fun i _=>2*t.links.length-(intOf i).toNat));exact⟨0,_,yZ _,rfl,qe,qh,E1.o⟩;clear qe qh E1;obtain⟨m,V,hm,rfl,qe,qh,hx⟩:=hrel;obtain⟨⟨i0,i1,i2⟩,g0,g1,g2⟩:=qh.t3;by_cases q4:m<2*t.links.length;{obtain⟨n,qH,qT⟩:=TL.o m q4;rw[HN.o]at qT;have hn:n<N:=qO;have TN:=Hx qH;have qQ:=Hx qe;have E:=Hx hx;clear qH qT qe hx;go_wp2_with fail;refine(qC.o _ m E.o qO).mono ?_;rintro e w2 ⟨rfl,qy⟩;rw[TN.o];have qf:=Hx (qQ.o.K qy);have qh:=qh.K qy;have E2:=Hx (E.o.tr qy);have q7:w.heap.size+2<=w2.heap.size:=(by have:=qf.o.row.lt;omega);have qU:w2.cell? (aD (w.heap.size+1) n)=some (V n):=(qf.o.row.cell n).trans (pJ N V n hn);have qj:=qf.o.own n hn;have qW:=lK t m n;have j1:(n:Int)<(N:Int):=qO;obtain⟨A,c,hV,_,_⟩:=iE qj rfl;rw[hV]at qU qj;have HV:=Hx hV;have qM:=Hx qj;clear hV qj qy;generalize hL:(cE t m n).length=L at*;have HL:=Hx hL;clear hL;(go_wp2_with (at_builtin;go_must (refine wpList_append_own_at _ rfl (.tmp 22) (.tmp 24) 42 rfl (w.heap.size+2) 3 ti (vI 0) 1 8 underlying42 hi qZ q2 qX rfl qD (.s A L c) L (ints (cE t m n)) rfl (qM.o.alloc _) (aD w2.heap.size 0) 1 1 [vI (m:Int)] rfl rfl ?c1 ?c2 ?c3 ?c4 ?c5 ?_)));(case c1=>intro j u hj;(match j,hj with|0,hj=>simp at hj;subst hj;simp[Addr.add]));(case c2=>intro u hu;simp at hu;subst hu;rfl);(case c3=>unfold maxLen;omega);(case c4=>omega);(case c5=>simp;omega);intro v' w3 qi qa _ qB;have qo:=Hx (qf.o.alloc (.cells #[vI (m:Int)] 3));rw[<-HV.o]at qa qB;have qg:=qo.o.rowG hn qa;have q6:w3.cell? (aD (w.heap.size+1) n)=some (V n):=(qg.cell n).trans (pJ N V n hn);have vc:=qg.frozen n;rw[HV.o]at q6;have qz:Below w.heap.size w w3:=(E2.o.alloc (.cells #[vI (m:Int)] 3)).grown qa (by simp;omega) (fun k hk=>by have:=(qf.o.own n hn).lt k hk;omega);have qA:Blk w3 w.heap.size 25 #[vI (N:Int),.s AO t.over.length co,.s AL t.links.length cl]:=(qa.block w.heap.size (by have:=qh.lt;simp;omega) (fun e=>by have:=(qf.o.own n hn).lt _ e.symm;omega)).trans (qh.alloc _);have q5:∃g' cap,v'=.s (sA g') (L+1) cap:=(by (rcases qi.2 with⟨_,h⟩|⟨g',cap,_,h,_⟩);{omega};exact⟨g',cap,h⟩);obtain⟨g',cap,q1⟩:=q5;subst q1;have qp:=Hx (qo.o.app (a:=m) hn (by rw[HL.o];exact qi) qa (by simpa using qB));have hX:(fun i=>if i=n then cE t m n++[m]else cE t m i)=cE t (m+1):=(by funext i;rw[sY,TN.o];by_cases e:i=n;{subst e;simp};rw[qF e,qF (by simp;omega)]);rw[hX]at qp;clear hX qa qB qi qg qM qQ qf qo qh;go_wp2;go_roundw;(case rel=>exact⟨m+1,_,qO,by go_num,qp.o,qA.far qS _,Ext.sT qz qS _⟩);simp[intOf];omega};have qY:m=2*t.links.length:=qO;subst qY;have qV:=Hx qe.ll;have E:=Hx hx;clear qe hx;go_wp2;go_ret;exact⟨_,N,HN.o,rfl,qV.o,E.o⟩
theorem nF t AO(co:Nat)AL(cl:Nat)w(ht:bD w t AO co AL cl)(hv:aH t=true):
  Calls prog 14 #[.agg #[vI t.nodes,.s AO t.over.length co,.s AL t.links.length cl]] w fun e w'=>e=.returned (vI (2*(t.links.length:Int)))/\Ext w w':=by
 have HT:=Hx (ht);have HV:=Hx (hv);have h3:=ht.ll;have h4:=ht.cl;clear ht hv;obtain⟨qa,e0⟩:=bA w #[vI t.nodes,.s AO t.over.length co,.s AL t.links.length cl] 25;go_enter func14,ntmps14;go_wp2_with fail;refine(nE t AO co AL cl _ (HT.o.K e0)).mono ?_;rintro e w1 ⟨rfl,qe⟩;rw[HV.o];have qa:=qa.K qe;obtain⟨⟨i0,i1,i2⟩,g0,g1,g2⟩:=qa.t3;have HX:=Hx (e0.tr qe);clear qe e0;go_wp2;go_ret;exact⟨rfl,HX.o⟩
theorem jzac t AO(co:Nat)AL(cl:Nat)(a:Nat)w(ht:bD w t AO co AL cl)(hv:aH t=true)(ha:a<2*t.links.length):
  Calls prog 169 #[.agg #[vI t.nodes,.s AO t.over.length co,.s AL t.links.length cl],vI a] w fun e w'=>e=.returned (vI (dQ t a))/\Ext w w':=by
 (have HT:=Hx (ht);have HV:=Hx (hv);have h3:=ht.ll;have h4:=ht.cl;obtain⟨l,hl⟩:∃l,t.links[a/2]?=some l:=⟨_,yG qO⟩;have qf:dQ t a=if a%2=0 then l.a else l.b:=by unfold dQ;rw[hl]);rw[qf];obtain⟨b,o,rfl,hb,c0,c1,_⟩:=ht.link hl;clear ht hv qf hl;obtain⟨qe,e0⟩:=bA w #[vI t.nodes,.s AO t.over.length co,.s (some (aD b o)) t.links.length cl] 25;by_cases h:a%2=0;{rw[qE h];have h':(((a:Int)%2)==0)=true:=(by simp;omega);clear h;go_enter func169,ntmps169;go_wp2_with fail;refine(nF t AO co (some (aD b o)) cl _ (HT.o.K e0) HV.o).mono ?_;rintro e w1 ⟨rfl,qa⟩;have qe:=qe.K qa;obtain⟨⟨i0,i1,i2⟩,g0,g1,g2⟩:=qe.t3;have HX:=Hx (e0.tr qa);have c0:=(HX.o.cell (p:=(aD b (o+a/2*7))) hb).trans c0;have c1:=(HX.o.cell (p:=(aD b (o+a/2*7+1))) hb).trans c1;clear qa e0;go_wp2;go_ret;exact⟨rfl,HX.o⟩};rw[qF h];have h':(((a:Int)%2)==0)=false:=yK.2 qO;clear h;go_enter func169,ntmps169;go_wp2_with fail;refine(nF t AO co (some (aD b o)) cl _ (HT.o.K e0) HV.o).mono ?_;rintro e w1 ⟨rfl,qa⟩;have qe:=qe.K qa;obtain⟨⟨i0,i1,i2⟩,g0,g1,g2⟩:=qe.t3;have HX:=Hx (e0.tr qa);have c0:=(HX.o.cell (p:=(aD b (o+a/2*7))) hb).trans c0;have c1:=(HX.o.cell (p:=(aD b (o+a/2*7+1))) hb).trans c1;clear qa e0;go_wp2;go_ret;exact⟨rfl,HX.o⟩
theorem jzad t(a:Nat):aK t a=dQ t (a/2*2+1-a%2):=by
 rw[jz7];congr 1;rw[sV];split <;> omega
theorem jzg9 t AO(co:Nat)AL(cl:Nat)(a:Nat)w(ht:bD w t AO co AL cl)(hv:aH t=true)(ha:a<2*t.links.length):
  Calls prog 120 #[.agg #[vI t.nodes,.s AO t.over.length co,.s AL t.links.length cl],vI a] w fun e w'=>e=.returned (vI (aK t a))/\Ext w w':=by
 have HT:=Hx (ht);have HV:=Hx (hv);have h3:=ht.ll;have h4:=ht.cl;rw[jzad];have qh:a/2*2+1-a%2<2*t.links.length:=qO;have e1:(a:Int)/2*2+1-(a:Int)%2=((a/2*2+1-a%2:Nat):Int):=qO;have E1:=Hx (e1);clear ht hv e1;obtain⟨qa,e0⟩:=bA w #[vI t.nodes,.s AO t.over.length co,.s AL t.links.length cl] 25;go_enter func120,ntmps120;go_wp2_with fail;refine(nF t AO co AL cl _ (HT.o.K e0) HV.o).mono ?_;rintro e w1 ⟨rfl,qe⟩;have qa:=qa.K qe;obtain⟨⟨i0,i1,i2⟩,g0,g1,g2⟩:=qa.t3;have HX:=Hx (e0.tr qe);clear qe e0;go_wp2_with fail;rw[E1.o];refine(jzac t AO co AL cl _ _ (HT.o.K HX.o) HV.o qh).mono ?_;rintro e w2 ⟨rfl,qf⟩;have qg:=Hx (HX.o.tr qf);clear qf;go_wp2;go_ret;exact⟨rfl,qg.o⟩
theorem jzha t AO(co:Nat)AL(cl:Nat)(n:Nat)w(ht:bD w t AO co AL cl)(hv:aH t=true):
  Calls prog 118 #[.agg #[vI t.nodes,.s AO t.over.length co,.s AL t.links.length cl],vI n] w fun e w'=>e=.returned (.bool (bT t n))/\Ext w w':=by
 have HT:=Hx (ht);have HV:=Hx (hv);have h1:=ht.lo;have h2:=ht.co;obtain⟨qf,e0⟩:=bA w #[vI t.nodes,.s AO t.over.length co,.s AL t.links.length cl] 25;by_cases hn:n<t.over.length;{obtain⟨b,o,rfl,hb,hc⟩:=ht.over.bool hn;have qa:bT t n=t.over[n]?.getD false:=rfl;rw[qa];generalize t.over[n]?.getD false=x at*;clear ht hv qa;go_enter func118,ntmps118;go_wp2_with fail;refine(nE t (some (aD b o)) co AL cl _ (HT.o.K e0)).mono ?_;rintro e w1 ⟨rfl,qe⟩;rw[HV.o];have qf:=qf.K qe;obtain⟨⟨i0,i1,i2⟩,g0,g1,g2⟩:=qf.t3;have HX:=Hx (e0.tr qe);have hc:=(HX.o.cell (p:=(aD b (o+n))) hb).trans hc;clear qe e0;go_wp2;go_ret;exact⟨rfl,HX.o⟩};have qa:bT t n=false:=(by unfold bT;rw[xL,yI qO];rfl);rw[qa];clear ht hv qa;go_enter func118,ntmps118;go_wp2_with fail;refine(nE t AO co AL cl _ (HT.o.K e0)).mono ?_;rintro e w1 ⟨rfl,qe⟩;rw[HV.o];have qf:=qf.K qe;obtain⟨⟨i0,i1,i2⟩,g0,g1,g2⟩:=qf.t3;have HX:=Hx (e0.tr qe);clear qe e0;go_wp2;go_ret;exact⟨rfl,HX.o⟩
theorem jzhb AD(cd:Nat)(down:List Bool)(a:Nat)w(hd:Rd w AD (bH down)):
  Calls prog 121 #[.s AD down.length cd,vI a] w fun e w'=>e=.returned (.bool (bZ down a))/\w=w':=by
 by_cases hN:a<down.length;{obtain⟨b,o,rfl,hb,qa⟩:=hd.bool hN;have hv:bZ down a=down[a]?.getD false:=rfl;rw[hv];generalize down[a]?.getD false=x at*;clear hd hv;go_enter func121,ntmps121;go_wp2;go_ret;exact⟨rfl,rfl⟩};have hv:bZ down a=false:=(by unfold bZ;rw[yI qO];rfl);rw[hv];clear hd hv;go_enter func121,ntmps121;go_wp2;go_ret;exact⟨rfl,rfl⟩
theorem jzhc t AO(co:Nat)AL(cl:Nat)(n:Nat)w(ht:bD w t AO co AL cl)(hv:aH t=true)(hll:t.links.length<=256):
  Calls prog 119 #[.agg #[vI t.nodes,.s AO t.over.length co,.s AL t.links.length cl],vI n] w fun e w'=>∃(A:OA) (c:Nat),e=.returned (.s A (aL t n).length c)/\(aL t n).length<=c/\RdT w' 3 A (ints (aL t n))/\Ext w w':=by
 have HT:=Hx (ht);have HV:=Hx (hv);have h3:=ht.ll;have h4:=ht.cl;clear ht hv;obtain⟨ti,hi,qw,qz,qB⟩:=info_parts Tryz.info3;obtain⟨qa,e0⟩:=bA w #[vI t.nodes,.s AO t.over.length co,.s AL t.links.length cl] 25;go_enter func119,ntmps119;go_wp2_with fail
 go_loopw [5,6] (fun v it wr=>∃(m:Nat) (A:OA) (c:Nat),m<=2*t.links.length/\it=vI m/\v=.s A (cE t m n).length c/\wr.ownsRow (w.heap.size+1) 3 1 (.s A (cE t m n).length c) (cE t m n).length (ints (cE t m n))/\
  Blk wr w.heap.size 25 #[vI t.nodes,.s AO t.over.length co,.s AL t.links.length cl]/\Ext w wr) (fun _ i _=>2*t.links.length-(intOf i).toNat)
 (case atStart=>exact⟨0,none,0,yZ _,rfl,rfl,World.ownsRow_nil _ _ _ _,qa,e0⟩);clear qa e0;obtain⟨m,A,c,hm,rfl,rfl,qk,qa,hx⟩:=hrel;obtain⟨⟨i0,i1,i2⟩,g0,g1,g2⟩:=qa.t3;have qA:=lK t m n;have qt:=Hx qk;have E:=Hx hx;clear qk hx;generalize hL:(cE t m n).length=L at*;have HL:=Hx hL;clear hL;go_wp2_with fail;refine(nF t AO co AL cl _ (HT.o.K E.o) HV.o).mono ?_;rintro e w1 ⟨rfl,qi⟩;have qa:=qa.K qi;obtain⟨⟨i0,i1,i2⟩,g0,g1,g2⟩:=qa.t3;have E1:=Hx (E.o.tr qi);have qj:=Hx (qt.o.kept (row:=none) (w':=w1) ⟨qi.os,qi.tape,qi.output,qi.size,fun k hk _=>qi.block k hk⟩ (by by_cases e:(Value.slice A L c).ownBlock=none;{exact .inl e};exact .inr e));clear qi qt E;by_cases qH:m<2*t.links.length;{(go_wp2_with fail);refine(jzac t AO co AL cl m _ (HT.o.K E1.o) HV.o qH).mono ?_;rintro e w2 ⟨rfl,qh⟩;have qa:=qa.K qh;have E2:=Hx (E1.o.tr qh);have qJ:w.heap.size+1<=w2.heap.size:=(by have:=qa.lt;omega);have qe:=Hx (qj.o.kept (row:=none) (w':=w2) ⟨qh.os,qh.tape,qh.output,qh.size,fun k hk _=>qh.block k hk⟩ (by by_cases e:(Value.slice A L c).ownBlock=none;{exact .inl e};exact .inr e));clear qh qj;cases htl:(dQ t m==(n:Int));{(have hs:cE t (m+1) n=cE t m n:=by rw[sY,htl];rfl);have HS:=Hx hs;clear hs;go_wp2;go_roundw;(case rel=>exact⟨m+1,A,c,qO,by go_num,by rw[HS.o,HL.o],by rw[HS.o,HL.o];exact qe.o,qa,E2.o⟩);simp[intOf];omega};have hs:cE t (m+1) n=cE t m n++[m]:=(by rw[sY,htl];rfl);have HS:=Hx hs;clear hs;(go_wp2_with (at_builtin;go_must (refine wpList_append_own_at _ rfl (.tmp 18) (.tmp 20) 42 rfl (w.heap.size+1) 3 ti (vI 0) 1 8 underlying42 hi qw qz qB rfl qD (.s A L c) L (ints (cE t m n)) rfl (qe.o.alloc _) (aD w2.heap.size 0) 1 1 [vI (m:Int)] rfl rfl ?c1 ?c2 ?c3 ?c4 ?c5 ?_)));(case c1=>intro j u hj;(match j,hj with|0,hj=>simp at hj;subst hj;simp[Addr.add]));(case c2=>intro u hu;simp at hu;subst hu;rfl);(case c3=>unfold maxLen;omega);(case c4=>omega);(case c5=>simp;omega);intro v' w3 qf qg _ qx;have qp:Below w.heap.size w w3:=(E2.o.alloc (.cells #[vI (m:Int)] 3)).grown qg (by simp;omega) (fun k hk=>by have:=qe.o.lt k hk;omega);have qn:Blk w3 w.heap.size 25 #[vI t.nodes,.s AO t.over.length co,.s AL t.links.length cl]:=(qg.block w.heap.size (by have:=qa.lt;simp;omega) (fun e=>by have:=qe.o.lt _ e.symm;omega)).trans (qa.alloc _);have qI:∃g' cap,v'=.s (sA g') (L+1) cap:=(by (rcases qf.2 with⟨_,h⟩|⟨g',cap,_,h,_⟩);{omega};exact⟨g',cap,h⟩);obtain⟨g',cap,qy⟩:=qI;subst qy;have qo:=Hx qf;clear qg qx qf qe;go_wp2;go_roundw;(case rel=>exact⟨m+1,_,_,qO,by go_num,by rw[HS.o,yQ,HL.o];rfl,by rw[HS.o,yQ,HL.o,kU];exact qo.o,qn,qp⟩);simp[intOf];omega};have qC:m=2*t.links.length:=qO;subst qC;have qm:=iE qj.o HL.o.symm;have HF:=Hx qm;clear qm;go_wp2;go_ret;obtain⟨A',c',e1,e2,e3⟩:=HF.o;exact⟨A',c',congrArg Ending.returned e1,e2,e3,E1.o⟩
section
variable {P:Program} (w:World)
theorem mC(b o j:Nat):((aD b o):Addr).add j=(aD b (o+j)):=by unfold Addr.add;split <;> simp_all
theorem jzhd(base:Nat)(t ty e:TypeId)(i:TypeInfo)(z:Value)(bytes:Nat)(ht:P.underlying t=some (.slice e))(hi:P.info? e=some i)(hz:i.zero=some z)
  (hsize:i.size=1) (hby:i.bytes=bytes) (hzs:z.cells.size=1)
  (v:Value) (n:Nat) (xs:List Value) (hown:w.ownsRow base e 1 v n xs)
  A (m c:Nat) (news:List Value) (hm:m=news.length) (hr:Rd w A news) (hA:A=none->m=0/\c=0\/m=0) (h1:∀u∈news,u.oneCell'=true)
  (h63:n+m<=maxLen) (hbytes:(n+m)*bytes<=140737488355328) (hbase:base<=w.heap.size):
  ∃v' w',(Builtin.append_ #[t,t] ty #[v,.s A m c]).run P w=.ok v' w'/\w'.ownsRow base e 1 v' (n+m) (xs++news)/\w.grownBy w' v.ownBlock/\
   (v'.ownBlock=v.ownBlock\/v'.ownBlock=some w.heap.size):=by
 (rcases A with _|ad);{(have qf:m=0:=by rcases hA rfl with h|h <;> omega);(subst qf;have hn:news=[]:=kQz hm.symm;subst hn;refine⟨v,w,?_,by simpa using hown,World.grownBy.refl w _,.inl rfl⟩;rcases hown.2 with⟨rfl,rfl⟩|⟨g,cap,cur,rfl,_,_,hnc,_⟩);{simp[Builtin.append_,run_underlying ht,sizeOf,typeInfo,hi,Builtin.lenOf,Builtin.firstCells]};simp[Builtin.append_,run_underlying ht,sizeOf,typeInfo,hi,Builtin.lenOf,Builtin.firstCells,hnc,storeCells]};have qa:∀j u,news[j]?=some u->w.cell? (ad.add j)=some u:=(by (intro j u hu;have hj:j<news.length:=(yH.1 hu).1;obtain⟨b,o,he,_,hc⟩:=hr.at_ hj;injection he with he);subst he;rw[mC,hc j hj,hu]);obtain⟨v',w',qe,h2,h3,_,h5⟩:=run_append_own_at (P:=P) w base t ty e i z 1 bytes ht hi hz hsize hby hzs qO v n xs hown ad m c news (by rw[hm,Nat.mul_one]) qa h1 h63 hbytes hbase;exact⟨v',w',qe,h2,h3,h5⟩
theorem mD{o:Oper}{a:Act}{K:Act->World->Prop}{Q:Exit->Act->World->Prop}(s x:Operand)(t:TypeId)
  (ho:o.op=.call {callee:=.builtin .append,args:=#[s,x],argTypes:=#[t,t]})
  (base:Nat) (e:TypeId) (i:TypeInfo) (z:Value) (bytes:Nat) (ht:P.underlying t=some (.slice e)) (hi:P.info? e=some i) (hz:i.zero=some z)
  (hsize:i.size=1) (hby:i.bytes=bytes) (hzs:z.cells.size=1)
  (v:Value) (n:Nat) (xs:List Value) (hs:a.eval s=v) (hown:w.ownsRow base e 1 v n xs)
  A (m c:Nat) (news:List Value) (hx:a.eval x=.s A m c) (hm:m=news.length) (hr:Rd w A news) (hA:A=none->m=0/\c=0\/m=0) (h1:∀u∈news,u.oneCell'=true)
  (h63:n+m<=maxLen) (hbytes:(n+m)*bytes<=140737488355328) (hbase:base<=w.heap.size)
  (h:∀v' w',w'.ownsRow base e 1 v' (n+m) (xs++news)->w.grownBy w' v.ownBlock->(v'.ownBlock=v.ownBlock\/v'.ownBlock=some w.heap.size)->K (a.put o.dst v') w'):o.wp P a w K Q:=by
 obtain⟨v',w',qa,h2,h3,h4⟩:=jzhd (P:=P) w base t o.type e i z bytes ht hi hz hsize hby hzs v n xs hown A m c news hm hr hA h1 h63 hbytes hbase;unfold Oper.wp execOp;simp only[ho,resolve,invoke,builtin,Sem.run_bind,Sem.run_pure,Result.andThen_ok,List.map_toArray,kZa,List.map_nil,hs,hx,qa];exact h v' w' h2 h3 h4
theorem pK{ops:Array Oper}{rest:List Oper}{o:Oper}{a:Act}{Q:Exit->Act->World->Prop}(hgd:o.guard=none)(s x:Operand)(t:TypeId)
  (ho:o.op=.call {callee:=.builtin .append,args:=#[s,x],argTypes:=#[t,t]})
  (base:Nat) (e:TypeId) (i:TypeInfo) (z:Value) (bytes:Nat) (ht:P.underlying t=some (.slice e)) (hi:P.info? e=some i) (hz:i.zero=some z)
  (hsize:i.size=1) (hby:i.bytes=bytes) (hzs:z.cells.size=1)
  (v:Value) (n:Nat) (xs:List Value) (hs:a.eval s=v) (hown:w.ownsRow base e 1 v n xs)
  A (m c:Nat) (news:List Value) (hx:a.eval x=.s A m c) (hm:m=news.length) (hr:Rd w A news) (hA:A=none->m=0/\c=0\/m=0) (h1:∀u∈news,u.oneCell'=true)
  (h63:n+m<=maxLen) (hbytes:(n+m)*bytes<=140737488355328) (hbase:base<=w.heap.size)
  (h:∀v' w',w'.ownsRow base e 1 v' (n+m) (xs++news)->w.grownBy w' v.ownBlock->(v'.ownBlock=v.ownBlock\/v'.ownBlock=some w.heap.size)->wpList P ops Q rest (a.put o.dst v') w'):wpList P ops Q (o::rest) a w:=
 wpList_plain hgd fun _ hK=>mD w s x t ho base e i z bytes ht hi hz hsize hby hzs v n xs hs hown A m c news hx hm hr hA h1 h63 hbytes hbase fun v' w' h2 h3 h4=>hK _ _ (h v' w' h2 h3 h4)
end
theorem mE(l:LN):∀u∈ints l,u.oneCell'=true:=by
 intro u hu;simp only[ints,kQl]at hu;obtain⟨_,_,rfl⟩:=hu;rfl
structure cJ(w:World)(B:Nat)(v:Value)(ps:List (LN)):Prop where
 ex:∃cells:List Value,cells.length=ps.length/\w.ownsRow B 42 1 v ps.length cells/\
  ∀(i:Nat) (p:LN),ps[i]?=some p->∃(A:OA) (c:Nat),cells[i]?=some (.s A p.length c)/\p.length<=c/\RdT w 3 A (ints p)
theorem cJ.nil w(B:Nat):cJ w B zN []:=⟨[],rfl,World.ownsRow_nil _ _ _ _,fun i p h=>by simp at h⟩
end Go.Proofs.YtfeeacaofjpkaaaGreatDoor
