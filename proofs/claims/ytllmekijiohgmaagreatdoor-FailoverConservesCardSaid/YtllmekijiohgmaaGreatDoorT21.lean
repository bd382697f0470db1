/- Part 21 of 23 of what the Flows claims share (the white space is struck, the texts are joined). -/
import Derived.Test.YtllmekijiohgmaaGreatDoorT20
set_option linter.unusedVariables false
set_option linter.unusedSimpArgs false
set_option maxRecDepth 100000
set_option maxHeartbeats 8000000
namespace Go.Proofs.YtllmekijiohgmaaGreatDoor
namespace Fo
section
variable (t:Tp) (kd nm:Int) (d:Nat)
end
section
variable {t:Tp} {kd nm:Int} {d:Nat}
theorem jzby(g:Gok t){n v:Nat}(hn:n<t.nodes.toNat)(hv:v<t.nodes.toNat)(hu:unB t n v=true)(hne:n≠v):∃a,nxP t [] n v=[a]/\unB t (hdN t a) v=true/\ptP t [] n v=a::ptP t [] (hdN t a) v/\a<2*t.links.length/\tlN t a=n:=by
 obtain⟨_,D⟩:=g.ds (down:=[]) hv;have hc:∀a,a<2*t.links.length->1<=csZ t a:=fun a ha=>(g.cs a ha).1;have h1:cnt (2*t.links.length) (tlN t) (hdN t) (csZ t) (okD t [] v) v (dsP t [] v) n=1:=(by unfold unB at hu;exact beq_iff_eq.1 hu);(rw[kE hc,if_neg hne]at h1;rcases rS _ _ (fun b hb=>by have qe:=fE hc hb;exact D.cnt_pos hc g.hd ((dsP t [] v (hdN t b)).toNat+1) (hdN t b) (g.hd b (dY.1 hb).1) qe.2 (by omega)) h1 with⟨h12,_⟩|⟨b,h12,_,h13⟩);{cases h12};have hm:b∈nxt (2*t.links.length) (tlN t) (hdN t) (csZ t) (okD t [] v) v (dsP t [] v) n:=(by rw[h12];simp);have qa:=dY.1 hm;have h0:0<=dsP t [] v n:=(by have:=hc b qa.1;have h5:=qa.2.2.2.2.1;have h6:=qa.2.2.2.2.2;omega);obtain⟨a,l,h2,h3⟩:=D.pth_eq hc hn hne h0;rw[h12]at h2;injection h2 with h2 _;subst h2;exact⟨b,h12,by unfold unB;exact beq_iff_eq.2 h13,h3,qa.1,qa.2.1⟩
theorem jzbz{n:Nat}:∀{st:List Sg} {s:Sg} {l:List Sg},cH n st=s::l->s≠(1,n)
 | [],_,_,h=>by cases h
 |a::st,s,l,h=>by
  unfold cH at h
  split at h
  ·exact jzbz h
  ·rename_i e
   injection h with h _
   rw[<-h];exact e
theorem tQ{p:Nat->Bool}:∀{k:Nat},cK p k≠0->p (cK p k)=true
 |0,h=>absurd rfl h
 |k+1,h=>by
  unfold cK at h⊢
  split
  ·assumption
  ·rename_i h1
   rw[if_neg h1]at h;exact tQ h
theorem tR{ok:Nat->Bool}:∀(k:Nat) {p:LN} {s:Nat},wkP (2*t.links.length) (tlN t) (hdN t) ok d s p->k<p.length->wkP (2*t.links.length) (tlN t) (hdN t) ok d (hdN t (p[k]?.getD 0)) (p.drop (k+1))
 |_,[],_,_,hk=>by simp at hk
 |0,a::p,_,h,_=>h.2.2.2
 |k+1,a::p,_,h,hk=>tR k h.2.2.2 (by simpa using hk)
theorem jzb0(g:Gok t){down:List Bool}{p:LN}(h:upW t down p){k:Nat}(h0:0<k)(hk:k<=p.length)(hc:cG t p k=true):
  tlN t (p[0]?.getD 0)≠hdN t (p[k-1]?.getD 0)/\unB t (tlN t (p[0]?.getD 0)) (hdN t (p[k-1]?.getD 0))=true/\ptP t [] (tlN t (p[0]?.getD 0)) (hdN t (p[k-1]?.getD 0))=p.take k:=by
 rw[jzfw g h h0 hk]at hc;unfold rT at hc;simp only[vM,Bool.not_eq_true',decide_eq_true_eq,yK]at hc;exact⟨hc.1.1.1,hc.1.1.2,hc.2⟩
theorem jzb1{P:Nat->List Sg->Prop}:∀{l:List Gp} {x:Gp},(∀g∈l,P g.node g.st)->P x.node x.st->∀g∈bK l x,P g.node g.st
 | [],x,_,hx,g,hg=>by
   obtain rfl:g=x:=(by simpa [bK]using hg);exact hx
 |a::l,x,hl,hx,g,hg=>by
  unfold bK at hg
  split at hg
  ·rcases xZ.1 hg with rfl|hg
   ·exact hl a (by simp)
   ·exact hl g (by simp[hg])
  ·rcases xZ.1 hg with rfl|hg
   ·exact hl g (by simp)
   ·exact jzb1 (fun b hb=>hl b (by simp[hb])) hx g hg
end
end Fo
namespace Fo
section
variable {t:Tp} {kd nm:Int} {n d dst h:Nat}
def bU(t:Tp):Nat->List Sg->Prop
 |_,[]=>True
 |n,(k,m)::st=>(k=2/\m<2*t.links.length/\bU t (hdN t m) st)\/(k=1/\m<t.nodes.toNat/\unB t n m=true/\bU t m st)
theorem bU.sg:∀{st:List Sg} {n:Nat},bU t n st->∀s∈st,sgB t s
 | [],_,_,_,h=>by cases h
 |(k,m)::st,n,h,s,hs=>by
  rcases h with⟨rfl,h1,h2⟩|⟨rfl,h1,_,h2⟩ <;> rcases xZ.1 hs with rfl|hs
  ·exact .inr ⟨rfl,h1⟩
  ·exact h2.sg s hs
  ·exact .inl ⟨rfl,h1⟩
  ·exact h2.sg s hs
theorem bU.pop:∀{st:List Sg} {n:Nat},bU t n st->bU t n (cH n st)
 | [],_,h=>h
 |(k,m)::st,n,h=>by
  unfold cH
  split
  ·rename_i e
   injection e with e1 e2
   subst e1 e2;rcases h with⟨h,_⟩|⟨_,_,_,h2⟩
   ·cases h
   ·exact h2.pop
  ·exact h
theorem bU.lst(g:Gok t){down:List Bool}{ok:Nat->Bool}{st:List Sg}(hs:bU t d st):∀(m:Nat) (p:LN) (n:Nat),p.length<=m->upW t down p->
  wkP (2*t.links.length) (tlN t) (hdN t) ok d n p->bU t n (dL t m p++st)
 |0,p,n,hl,_,hw=>by
  obtain rfl:p=[]:=kQp.1 (by omega);obtain rfl:n=d:=hw;exact hs
 |m+1,[],n,_,_,hw=>by
  obtain rfl:n=d:=hw;exact hs
 |m+1,a::q,n,hl,hu,hw=>by
  have ha:=hu.arc a (by simp);have qa:q.length<=m:=(by simpa using hl);obtain⟨_,_,w1,w2⟩:=hw;unfold dL;simp only;by_cases hk:cK (cG t (a::q)) (a::q).length=0
  ·rw[if_pos hk]
   exact .inl ⟨rfl,ha.1,bU.lst g hs m q (hdN t a) qa hu.tail w2⟩
  rw[if_neg hk];have qe:=nI (cG t (a::q)) (a::q).length;have ht:=tQ hk;generalize cK (cG t (a::q)) (a::q).length=k at*;obtain⟨c1,c2,c3⟩:=jzb0 g hu (by omega) qe ht;rw[show(a::q)[0]?.getD 0=a from rfl,w1]at c1 c2 c3;have w3:wkP (2*t.links.length) (tlN t) (hdN t) ok d n (a::q):=⟨ha.1,by assumption,w1,w2⟩;have w4:=tR (k-1) w3 (by omega);rw[Nat.sub_add_cancel (by omega)]at w4;have hy:(a::q)[k-1]?=some (a::q)[k-1]:=yG (by omega);have qf:(a::q)[k-1]?.getD 0<2*t.links.length:=by
   rw[hy,kQ1];exact(hu.arc _ (xR _)).1
  refine .inr ⟨rfl,g.hd _ qf,c2,bU.lst g hs m ((a::q).drop k) _ ?_ (hu.drop k) w4⟩;rw[List.length_drop];simp only[kQo]at*;omega
theorem bU.rep(hv:aA t=true){down:List Bool}(hn:n<t.nodes.toNat)(hd:d<t.nodes.toNat):dG t down n d=.no\/((dG t down n d).rep=true/\∃a,(dG t down n d).arcs=[a]/\∀st,bU t d st->bU t (hdN t a) ((dG t down n d).push++st)):=by
 have g:=Gok.of hv;unfold dG;split;{exact .inl rfl};rename_i h1;split;{exact .inl rfl};right;(rw[Bool.or_eq_true,Bool.not_eq_true',beq_iff_eq,not_or,Bool.not_eq_false]at h1;obtain⟨h3,h4⟩:=h1;obtain⟨u1,_,_⟩:=mE (N:=t.nodes.toNat) hv (by omega) hn hd h3;unfold bJ at h3;rw[decide_eq_true_eq]at h3;obtain⟨_,D⟩:=g.ds (down:=down) hd;have w1:wkP (2*t.links.length) (tlN t) (hdN t) (okD t down d) d n (ptP t down n d):=(D.pth_ok (fun a ha=>(g.cs a ha).1) g.hd ((dsP t down d n).toNat+1) n hn h3 (by omega)).1;generalize ptP t down n d=p at*;refine⟨rfl,?_⟩;cases p with|nil=>exact absurd (show n=d from w1) h4|cons a q=>refine⟨a,rfl,fun st hs=>?_⟩;show bU t (hdN t a) (dM (bG t (a::q))++st);obtain⟨ha,w0,w2,w3⟩:=w1;unfold bG;rw[kQo];unfold dL;simp only;by_cases hk:cK (cG t (a::q)) (a::q).length=0;{rw[if_pos hk];exact bU.lst g hs q.length q (hdN t a) (yX _) u1.tail w3};rw[if_neg hk];have qe:=nI (cG t (a::q)) (a::q).length;have ht:=tQ hk;generalize cK (cG t (a::q)) (a::q).length=k at*;obtain⟨c1,c2,c3⟩:=jzb0 g u1 (by omega) qe ht;rw[show(a::q)[0]?.getD 0=a from rfl,w2]at c1 c2 c3;have w4:=tR (k-1) (show wkP (2*t.links.length) (tlN t) (hdN t) (okD t down d) d n (a::q)from⟨ha,w0,w2,w3⟩) (by omega);rw[Nat.sub_add_cancel (by omega)]at w4;have hy:(a::q)[k-1]?=some (a::q)[k-1]:=yG (by omega);have qa:hdN t ((a::q)[k-1]?.getD 0)<t.nodes.toNat:=(by rw[hy,kQ1];exact g.hd _ (u1.arc _ (xR _)).1);obtain⟨b,_,k2,k3,_,_⟩:=jzby g hn qa c2 c1;have e:a=b:=(by rw[c3]at k3;obtain⟨j,rfl⟩:∃j,k=j+1:=⟨k-1,by omega⟩;rw[List.take_succ_cons]at k3;injection k3);subst e;show bU t (hdN t a) ((1,_)::(dL t q.length ((a::q).drop k)++st));refine .inr ⟨rfl,qa,k2,bU.lst g hs _ _ _ ?_ (u1.drop k) w4⟩;rw[List.length_drop];simp only[kQo];omega)
theorem bU.ent(hv:aA t=true)(hn:n<t.nodes.toNat)(hd:d<t.nodes.toNat):cL t (bQ t kd nm n) n d=⟨nxP t [] n d,false,[]⟩\/cL t (bQ t kd nm n) n d=.no\/((cL t (bQ t kd nm n) n d).rep=true/\∃a,(cL t (bQ t kd nm n) n d).arcs=[a]/\∀st,bU t d st->bU t (hdN t a) ((cL t (bQ t kd nm n) n d).push++st)):=by
 unfold cL;split;{exact .inl rfl};exact .inr (bU.rep hv hn hd)
def mK(t:Tp)(x:LN×List Sg×Int):Prop:=(x.1.length<=1\/x.2.1=[])/\∀a∈x.1,bU t (hdN t a) x.2.1
theorem iM{s:List Sg}{r:Int}:mK t ([],s,r):=⟨.inl (yZ _),fun _ h=>by cases h⟩
theorem jzb2{e:En}{st:List Sg}(he:e=.no\/(e.rep=true/\∃a,e.arcs=[a]/\∀st,bU t d st->bU t (hdN t a) (e.push++st)))(h0:e.arcs≠ [])(hs:bU t d st.tail):mK t (cQ e st):=by
 (rcases he with rfl|⟨h1,a,h2,h3⟩);{exact absurd rfl h0};unfold cQ;rw[if_pos h1];split;{exact iM};rw[h2];refine⟨.inl (yX _),fun b hb=>?_⟩;obtain rfl:b=a:=(by simpa using hb);exact h3 _ hs
theorem jzb3{m:Nat}{e:En}(h:(bW t kd nm n).es[m]?=some e):m<t.nodes.toNat/\e=cL t (bQ t kd nm n) n m:=by
 unfold bW at h;simp only[yW]at h;by_cases hm:m<t.nodes.toNat;{rw[xJ hm]at h;(injection h with h);exact⟨hm,h.symm⟩};rw[yI (by simpa using hm)]at h;cases h
theorem pE(hv:aA t=true)(hn:n<t.nodes.toNat):mK t (goN (bW t kd nm n) dst h):=by
 unfold goN;split;{exact iM};split;{exact iM};split;{exact iM};rename_i e he;obtain⟨hm,rfl⟩:=jzb3 he;split;{exact iM};rename_i h0;(rcases bU.ent (kd:=kd) (nm:=nm) hv hn hm with h1|h1);{rw[h1];exact⟨.inr rfl,fun _ _=>trivial⟩};exact jzb2 h1 h0 trivial
theorem jzlv(hv:aA t=true)(hn:n<t.nodes.toNat){st:List Sg}(E:bU t n st):mK t (cM t (bW t kd nm n) dst h st):=by
 have g:=Gok.of hv;have E:=E.pop;have hp:=fun s l=>@jzbz n st s l;unfold cM;have e0:(bW t kd nm n).node=n:=rfl;rw[e0];revert E hp;(cases cH n st with|nil=>exact fun _ _=>pE hv hn|cons s l=>obtain⟨k,m⟩:=s;intro E hp;have hp:=hp (k,m) l rfl;unfold goS;simp only;split;{exact iM};(rcases E with⟨rfl,h1,h2⟩|⟨rfl,h1,h2,h3⟩);{rw[if_pos rfl];split;{exact iM};split;{exact pE hv hn};refine⟨.inl (yX _),fun b hb=>?_⟩;obtain rfl:b=m:=(by simpa using hb);exact h2};rw[if_neg (by decide)];split;{exact pE hv hn};rename_i e he;obtain⟨_,rfl⟩:=jzb3 he;split;{exact pE hv hn};rename_i h0;(rcases bU.ent (kd:=kd) (nm:=nm) hv hn h1 with h4|h4);{rw[h4];have qa:n≠m:=fun e=>hp (by rw[e]);obtain⟨a,k1,k2,_,_,_⟩:=jzby g hn h1 h2 qa;show mK t (nxP t [] n m,(1,m)::l,0);rw[k1];refine⟨.inl (yX _),fun b hb=>?_⟩;obtain rfl:b=a:=(by simpa using hb);exact .inr ⟨rfl,h1,k2,h3⟩};exact jzb2 h4 h0 h3)
def emL(l:List Gp):LN:=(l.filter fun g=>g.st.isEmpty).map (·.node)
def fuN(l:List Gp):Nat:=(l.filter fun g=>!g.st.isEmpty).length
theorem jzb4:∀l:List Gp,l.length=(emL l).length+fuN l
 | []=>rfl
 |g::l=>by
  have:=jzb4 l;unfold emL fuN at this⊢;cases e:g.st.isEmpty
  ·rw[List.filter_cons_of_neg (by simp[e]),List.filter_cons_of_pos (by simp[e])]
   simp only[kQo];omega
  ·rw[List.filter_cons_of_pos (by simp[e]),List.filter_cons_of_neg (by simp[e])]
   simp only[kQo,kZa];omega
theorem mL(g:Gp)(l:List Gp):emL (g::l)=if g.st=[]then g.node::emL l else emL l:=by
 (unfold emL;cases e:g.st with|nil=>rw[if_pos rfl,List.filter_cons_of_pos (by simp[e])];rfl|cons a b=>rw[if_neg (by simp),List.filter_cons_of_neg (by simp[e])])
theorem mM(g:Gp)(l:List Gp):fuN (g::l)=if g.st=[]then fuN l else fuN l+1:=by
 (unfold fuN;cases e:g.st with|nil=>rw[if_pos rfl,List.filter_cons_of_neg (by simp[e])]|cons a b=>rw[if_neg (by simp),List.filter_cons_of_pos (by simp[e])];rfl)
theorem jzb5:∀(l:List Gp) (x:Gp),fuN (bK l x)<=fuN l+1/\(x.st=[]->fuN (bK l x)=fuN l)
 | [],x=>by
   show fuN [x]<=fuN []+1/\(x.st=[]->fuN [x]=fuN []);rw[mM];refine⟨by split <;> omega,fun h=>by rw[if_pos h]⟩
 |g::l,x=>by
  unfold bK
  split
  ·rw[mM,mM]
   exact⟨by simp only;omega,fun _=>rfl⟩
  ·rw[mM,mM]
   have ih:=jzb5 l x;refine⟨?_,fun h=>?_⟩
   ·have:=ih.1;split <;> omega
   ·rw[ih.2 h]
theorem jzb6:∀(l:List Gp) (x:Gp),(x.st≠ []->emL (bK l x)=emL l)/\(∀n,n∈emL (bK l x)->n∈emL l\/n=x.node)/\((emL l).Nodup->(emL (bK l x)).Nodup)
 | [],x=>by
   show(x.st≠ []->emL [x]=emL [])/\(∀n,n∈emL [x]->n∈emL []\/n=x.node)/\((emL []).Nodup->(emL [x]).Nodup);rw[mL];refine⟨fun h=>by rw[if_neg h],fun n hn=>?_,fun _=>?_⟩
   ·split at hn
    ·rcases xZ.1 hn with rfl|hn
     ·exact .inr rfl
     ·exact .inl hn
    ·exact .inl hn
   ·split
    ·exact kZo.2 ⟨by simp[emL],List.nodup_nil⟩
    ·exact List.nodup_nil
 |g::l,x=>by
  unfold bK
  split
  ·rename_i e
   rw[mL,mL];exact⟨fun _=>rfl,fun n h=>.inl h,fun h=>h⟩
  ·rename_i e
   obtain⟨i1,i2,i3⟩:=jzb6 l x;rw[mL,mL];by_cases hg:g.st=[]
   ·rw[if_pos hg,if_pos hg]
    refine⟨fun h=>by rw[i1 h],fun n hn=>?_,fun hd=>?_⟩
    ·rcases xZ.1 hn with rfl|hn
     ·exact .inl (by simp)
     ·rcases i2 n hn with h|h
      ·exact .inl (by simp[h])
      ·exact .inr h
    ·obtain⟨h1,h2⟩:=kZo.1 hd
     refine kZo.2 ⟨fun h=>?_,i3 h2⟩;rcases i2 _ h with h|h
     ·exact h1 h
     ·by_cases hx:x.st=[]
      ·exact e ⟨h,by rw[hg,hx]⟩
      ·rw[i1 hx]at*;contradiction
   ·rw[if_neg hg,if_neg hg]
    exact⟨i1,i2,i3⟩
structure NcF(t:Tp)(k:Nat)(l:List Gp):Prop where
 nd:(emL l).Nodup
 lt:∀n∈emL l,n<t.nodes.toNat
 fu:fuN l<=k
 enc:∀g∈l,g.node<t.nodes.toNat/\bU t g.node g.st
theorem NcF.len{k:Nat}{l:List Gp}(h:NcF t k l):l.length<=t.nodes.toNat+k:=by
 have h1:=jzb4 l;have h2:=oV _ _ h.nd h.lt;have h3:=h.fu;omega
theorem NcF.add{k:Nat}{l:List Gp}(h:NcF t k l){x:Gp}(hx:x.node<t.nodes.toNat)(he:bU t x.node x.st):NcF t (k+1) (bK l x)/\(x.st=[]->NcF t k (bK l x)):=by
 obtain⟨f1,f2⟩:=jzb5 l x;obtain⟨_,e2,e3⟩:=jzb6 l x;have qa:∀n∈emL (bK l x),n<t.nodes.toNat:=fun n hn=>(by (rcases e2 n hn with h1|h1);{exact h.lt n h1};rw[h1];exact hx);have qe:=jzb1 (P:=fun n st=>n<t.nodes.toNat/\bU t n st) (l:=l) (x:=x) h.enc ⟨hx,he⟩;have:=h.fu;exact⟨⟨e3 h.nd,qa,by omega,qe⟩,fun h0=>⟨e3 h.nd,qa,by have:=f2 h0;omega,qe⟩⟩
theorem NcF.outs_e{q:Rat}{k:Nat}:∀(arcs:LN) (f:Fs),NcF t k f.nx->(∀a∈arcs,hdN t a<t.nodes.toNat)->NcF t k (arcs.foldl (bZ t [] q) f).nx
 | [],_,h,_=>h
 |a::arcs,f,h,ha=>NcF.outs_e arcs _ ((h.add (x:=⟨hdN t a,[],q⟩) (ha a (by simp)) trivial).2 rfl) fun b hb=>ha b (by simp[hb])
theorem NcF.grp(hv:aA t=true){k:Nat}{f:Fs}(h0:NcF t k f.nx){g:Gp}(hg:g.node<t.nodes.toNat)(he:bU t g.node g.st):NcF t (k+1) (grS t (aC t kd nm) dst h f g).nx:=by
 have gk:=Gok.of hv;have qa:NcF t (k+1) f.nx:=⟨h0.nd,h0.lt,by have:=h0.fu;omega,h0.enc⟩;unfold grS;split;{exact qa};rename_i x hx;obtain⟨_,rfl⟩:=tB hx;have h1:=lS (nK gk hg kd nm) dst h he.sg;have h2:=jzlv (kd:=kd) (nm:=nm) (dst:=dst) (h:=h) hv hg he;split;rename_i arcs st r e;rw[e]at h1 h2;split;{split <;> exact qa};(have hh:∀a∈arcs,hdN t a<t.nodes.toNat:=fun a ha=>gk.hd a (h1.arc a ha).1;obtain⟨h3,h4⟩:=h2;simp only at h3 h4;rcases h3 with h3|h3);{(match arcs,h3,hh,h4 with| [],_,_,_=>exact qa| [a],_,hh,h4=>exact(h0.add (x:=⟨hdN t a,st,g.am/((([a]:LN).length:Nat):Rat)⟩) (hh a (by simp)) (h4 a (by simp))).1)};subst h3;exact NcF.outs_e arcs f qa hh
theorem NcF.round(hv:aA t=true):∀(gs:List Gp) (k:Nat) (f:Fs),(∀g∈gs,g.node<t.nodes.toNat/\bU t g.node g.st)->NcF t k f.nx->NcF t (k+gs.length) (gs.foldl (grS t (aC t kd nm) dst h) f).nx
 | [],_,_,_,h=>h
 |g::gs,k,f,hg,h0=>by
  have h1:=NcF.round hv gs (k+1) _ (fun x hx=>hg x (by simp[hx])) (h0.grp (kd:=kd) (nm:=nm) (dst:=dst) (h:=h) hv (hg g (by simp)).1 (hg g (by simp)).2);rw[kQo,show k+(gs.length+1)=k+1+gs.length by omega];exact h1
theorem jzb7(hv:aA t=true){sh:LQ}{gs:List Gp}{c:Nat}(hl:gs.length<=c)(hg:∀g∈gs,g.node<t.nodes.toNat/\bU t g.node g.st):∀h,(stG t (aC t kd nm) dst sh gs h).nx.length<=c+t.nodes.toNat*h/\∀g∈(stG t (aC t kd nm) dst sh gs h).nx,g.node<t.nodes.toNat/\bU t g.node g.st
 |0=>⟨hl,hg⟩
 |h+1=>by
  obtain⟨i1,i2⟩:=jzb7 hv hl hg h;have h1:=NcF.round (kd:=kd) (nm:=nm) (dst:=dst) (h:=h) hv (stG t (aC t kd nm) dst sh gs h).nx 0 ⟨(stG t (aC t kd nm) dst sh gs h).sh,(stG t (aC t kd nm) dst sh gs h).lo,[]⟩ i2 ⟨List.nodup_nil,fun _ h=>(nomatch h),yX 0,fun _ h=>(nomatch h)⟩;have h2:=h1.len;refine⟨?_,h1.enc⟩;show(rdS t (aC t kd nm) dst h _ _ _).nx.length<=_;unfold rdS;rw[Nat.mul_succ];omega
theorem jzlw(hv:aA t=true)(hN:t.nodes.toNat<=64){sh:LQ}{s:Nat}(hs:s<t.nodes.toNat){r:LN}(hr:∀a∈r,a<2*t.links.length)(q:Rat)(h:Nat):(stG t (aC t kd nm) dst sh [⟨s,r.map fun a=>(2,a),q⟩] h).nx.length<=100000:=by
 have key:∀(r:LN) (n:Nat),(∀a∈r,a<2*t.links.length)->bU t n (r.map fun a=>(2,a)):=fun r=>(by (induction r with|nil=>exact fun _ _=>trivial|cons a r ih=>exact fun n hr=>.inl ⟨rfl,hr a (by simp),ih _ fun b hb=>hr b (by simp[hb])⟩));have h1:=(jzb7 (kd:=kd) (nm:=nm) (dst:=dst) (sh:=sh) (gs:=[⟨s,r.map fun a=>(2,a),q⟩]) (c:=1) hv (yX _) (fun g hg=>by obtain rfl:g=_:=(by simpa using hg);exact⟨hs,key r s hr⟩) h).1;(rcases kQd 255 h with h2|h2);{obtain⟨j,rfl⟩:∃j,h=j+1:=⟨h-1,by omega⟩;show(rdS t (aC t kd nm) dst j _ _ _).nx.length<=_;unfold rdS;rw[oQ (by omega) _ _ rfl];exact yZ _};have h3:t.nodes.toNat*h<=64*255:=kQq hN h2;omega
end
end Fo
namespace Fo
open Sx
theorem kH:∀(N:Nat) {x:Nat} (c:Rat),x<N->sm N (fun n=>if x=n then c else 0)=c
 |0,_,_,h=>by omega
 |N+1,x,c,h=>by
  show sm N (fun n=>if x=n then c else 0)+(if x=N then c else 0)=c;by_cases e:x=N
  ·rw[if_pos e,lW N fun k hk=>if_neg (by omega)];grind
  ·rw[if_neg e,kH N c (by omega)];grind
def ntT(t:Tp)(sh:LQ)(n m:Nat):Rat:=sm m fun a=>(if tlN t a=n then shA sh a else 0)-(if hdN t a=n then shA sh a else 0)
def ntL(t:Tp)(sh:LQ)(m:Nat):LQ:=(List.range t.nodes.toNat).map fun n=>ntT t sh n m
section
variable {t:Tp} {sh:List Rat} {s:Nat}
theorem gP(m:Nat):(ntL t sh m).length=t.nodes.toNat:=by unfold ntL;simp
theorem kV{m n:Nat}(hn:n<t.nodes.toNat):(ntL t sh m)[n]?=some (ntT t sh n m):=by
 unfold ntL;rw[yW,xJ hn];rfl
theorem jzlx:ntL t sh 0=List.replicate t.nodes.toNat 0:=by
 unfold ntL;apply uK;intro i;rw[yW,xB];by_cases h:i<t.nodes.toNat;{rw[xJ h,if_pos h];rfl};rw[yI (by simpa using h),if_neg h];rfl
theorem jzb8(n m:Nat):ntT t sh n (m+1)=ntT t sh n m+((if tlN t m=n then shA sh m else 0)-(if hdN t m=n then shA sh m else 0)):=rfl
theorem jzly{m:Nat}(h:tlN t m<t.nodes.toNat)(hh:hdN t m<t.nodes.toNat)(hne:tlN t m≠hdN t m):((ntL t sh m).set (tlN t m) (ntT t sh (tlN t m) m+shA sh m)).set (hdN t m) (ntT t sh (hdN t m) m-shA sh m)=ntL t sh (m+1):=by
 apply uK;intro i;by_cases hi:i<t.nodes.toNat;{rw[kV hi,jzb8];by_cases e1:hdN t m=i;{subst e1;rw[yM (by rw[yV,gP];exact hi),if_neg hne,if_pos rfl];congr 1;grind};rw[vN e1];by_cases e2:tlN t m=i;{subst e2;rw[yM (by rw[gP];exact hi),if_pos rfl,if_neg e1];congr 1;grind};rw[vN e2,kV hi,if_neg e1,if_neg e2];congr 1;grind};rw[yI (by rw[yV,yV,gP];omega),yI (by rw[gP];omega)]
theorem tT(n:Nat):kN t s n sh=(if n=s then 1 else 0)-ntT t sh n (2*t.links.length):=by
 unfold kN ntT;have key:∀m,(sm m fun a=>(if hdN t a=n then shA sh a else 0)-(if tlN t a=n then shA sh a else 0))= -(sm m fun a=>(if tlN t a=n then shA sh a else 0)-(if hdN t a=n then shA sh a else 0)):=fun m=>(by (induction m with|zero=>show(0:Rat)= -0;grind|succ m ih=>show sm m _+_= -(sm m _+_);rw[ih];grind));rw[key];grind
def ntS(t:Tp)(sh:LQ)(s:Nat):LQ:=(ntL t sh (2*t.links.length)).set s (ntT t sh s (2*t.links.length)-1)
theorem jzlz{n:Nat}(hn:n<t.nodes.toNat):(ntS t sh s)[n]?=some (-kN t s n sh):=by
 unfold ntS;rw[tT];by_cases e:s=n;{subst e;rw[yM (by rw[gP];exact hn),if_pos rfl];congr 1;grind};rw[vN e,kV hn,if_neg fun h=>e h.symm];congr 1;grind
theorem jzb9(hg:Gok t):∀m,m<=2*t.links.length->sm t.nodes.toNat (fun n=>ntT t sh n m)=0
 |0,_=>lW _ fun _ _=>rfl
 |m+1,h=>by
  have h1:=nO t.nodes.toNat (fun n=>ntT t sh n m) fun n=>(if tlN t m=n then shA sh m else 0)-(if hdN t m=n then shA sh m else 0);have h2:=nO t.nodes.toNat (fun n=>if tlN t m=n then shA sh m else 0) fun n=> -(if hdN t m=n then shA sh m else 0);have h3:=sD t.nodes.toNat (-1) fun n=>(if hdN t m=n then shA sh m else 0);rw[kH _ _ (hg.hd m (by omega))]at h3;rw[kH _ _ (hg.tl m (by omega))]at h2;have e:(sm t.nodes.toNat fun n=> -(if hdN t m=n then shA sh m else 0))= -shA sh m:=by
   rw[lV t.nodes.toNat (g:=fun n=> -1*(if hdN t m=n then shA sh m else 0)) fun k _=>by grind];grind
  rw[e]at h2;rw[jzb9 hg m (by omega)]at h1;show sm t.nodes.toNat (fun n=>ntT t sh n m+((if tlN t m=n then shA sh m else 0)-(if hdN t m=n then shA sh m else 0)))=0;rw[h1];have h4:sm t.nodes.toNat (fun n=>(if tlN t m=n then shA sh m else 0)-(if hdN t m=n then shA sh m else 0))=shA sh m+ -shA sh m:=by
   rw[<-h2];exact lV _ fun k _=>by grind
  rw[h4];grind
theorem jzca(hg:Gok t)(hs:s<t.nodes.toNat):sm t.nodes.toNat (fun n=>kN t s n sh)=1:=by
 have h1:=nO t.nodes.toNat (fun n=>if s=n then(1:Rat)else 0) fun n=> -1*ntT t sh n (2*t.links.length);rw[sD,jzb9 hg _ (yX _),kH _ _ hs]at h1;rw[lV _ (g:=fun n=>(if s=n then(1:Rat)else 0)+ -1*ntT t sh n (2*t.links.length)) fun k _=>by rw[tT];by_cases e:k=s;{rw[if_pos e,if_pos e.symm];grind};rw[if_neg e,if_neg fun h=>e h.symm];grind,h1];grind
def suN(f:Nat->Rat)(d:Nat):Nat->Rat
 |0=>0
 |n+1=>if n=d then suN f d n else suN f d n+f n
theorem jzcb(f:Nat->Rat)(d:Nat):∀n,suN f d n=sm n f-(if d<n then f d else 0)
 |0=>by rw[if_neg (Nat.not_lt_zero _)];show(0:Rat)=0-0;grind
 |n+1=>by
  show(if n=d then suN f d n else suN f d n+f n)=sm n f+f n-_;rw[jzcb f d n];by_cases e:n=d
  ·subst e
   rw[if_pos rfl,if_neg (by omega),if_pos (by omega)];grind
  ·rw[if_neg e]
   by_cases h:d<n
   ·rw[if_pos h,if_pos (by omega)];grind
   ·rw[if_neg h,if_neg (by omega)];grind
end
theorem jzcc{t}{kd nm:Int}{s dst h:Nat}{sh:LQ}{lo:Rat}(hr:RI t kd nm s dst h sh lo [])(hg:Gok t)(hs:s<t.nodes.toNat)(hd:dst<t.nodes.toNat):
  (∀n,0<=kN t s n sh)/\suN (fun n=>kN t s n sh) dst t.nodes.toNat<=lo/\lo<=1:=by
 have h1:=hr.ci.lt;have h2:=hr.ci.at_;have h3:=hr.ci.le;have z:prN [] dst=0:=rfl;have z2:aP []=0:=rfl;have e0:∀n:Nat,(if(0:Nat)=n then(0:Rat)else 0)=0:=fun n=>(by split <;> rfl);refine⟨fun n=>?_,?_,?_⟩;{have:=h1 n;have z3:prN [] n=0:=rfl;rw[z3,e0]at this;show(0:Rat)<=_;have e:(0:Rat)+0+0=0:=(by grind);rw[<-e];exact this};{rw[jzcb,if_pos hd,jzca hg hs];rw[z,z2,e0]at h2;have h2:0+0+0+1-lo-0-0-0<=kN t s dst sh:=h2;grind};have h3:lo+aP []+aP []+0<=1:=h3;rw[z2]at h3;grind
theorem tU{h:Nat}(hh:h<=256):∀{q:Rat},isI (q*dH h)-> -8192<=q->q<=8192->SzQ q 440:=fun {q} ⟨z,hz⟩ h1 h2=>by
 have hd:=sW h;have hm:=jzag hh;have h0:(0:Rat)<=dH h:=Rat.intCast_nonneg.2 (by omega);have qe:z<=8192*dF^h:=(by have h3:=kQ5 h2 h0;rw[hz]at h3;unfold dH at h3;have h3:((z:Int):Rat)<=((8192:Int):Rat)*((dF^h:Int):Rat):=h3;rw[<-kZu]at h3;exact kQt.1 h3);have qa: -(8192*dF^h)<=z:=(by have h3:=kQ5 h1 h0;rw[hz]at h3;unfold dH at h3;have h3:((-8192:Int):Rat)*((dF^h:Int):Rat)<=((z:Int):Rat):=h3;rw[<-kZu]at h3;have:=kQt.1 h3;omega);have h3:=jzf (q:=q) (D:=dF^h) (N:=z) (Z:=(8192*dF^256).natAbs) (by omega) hz (by omega) (by omega);have h4:8192*dF^256<(B32^440:Nat):=(by decide+kernel);exact⟨by have:=h3.1;omega,by have:=h3.2;omega⟩
theorem jzcd{sh:LQ}{h:Nat}(hq:∀q∈sh,QB_ h (h:Rat) q)(a:Nat):0<=shA sh a/\shA sh a<=(h:Rat)/\isI (shA sh a*dH h):=by
 (unfold shA;cases e:sh[a]? with|none=>refine⟨vC,jzax h,?_⟩;show isI (0*dH h);rw[Rat.zero_mul];exact isI.zero|some q=>have:=hq q (yJ e);exact⟨this.nn,this.top,this.int⟩)
theorem tV{t}{sh:LQ}{h:Nat}(hq:∀q∈sh,QB_ h (h:Rat) q)(n:Nat):∀m:Nat, -((m:Int):Rat)*((h:Int):Rat)<=ntT t sh n m/\ntT t sh n m<=((m:Int):Rat)*((h:Int):Rat)/\isI (ntT t sh n m*dH h)
 |0=>by
  have e:((0:Nat):Int)=0:=rfl;have e2:((0:Int):Rat)=0:=rfl;have e3:ntT t sh n 0=0:=rfl;rw[e,e2,e3,Rat.zero_mul];exact⟨by grind,by grind,by show isI (0*dH h);rw[Rat.zero_mul];exact isI.zero⟩
 |m+1=>by
  obtain⟨i1,i2,i3⟩:=tV (t:=t) hq n m;obtain⟨b1,b2,b3⟩:=jzcd hq m;have b2:shA sh m<=((h:Int):Rat):=b2;have hp:=jzax h;have key:∀b:Bool, -((h:Int):Rat)<=(if b then shA sh m else 0)/\(if b then shA sh m else 0)<=((h:Int):Rat)/\0<=(if b then shA sh m else 0)/\isI ((if b then shA sh m else 0)*dH h):=fun b=>by
   cases b
   ·exact⟨by show-((h:Int):Rat)<=0;grind,hp,vC,by show isI (0*dH h);rw[Rat.zero_mul];exact isI.zero⟩
   ·exact⟨by show-((h:Int):Rat)<=shA sh m;grind,b2,b1,b3⟩
  obtain⟨k1,k2,k3,k4⟩:=key (decide (tlN t m=n));obtain⟨j1,j2,j3,j4⟩:=key (decide (hdN t m=n));simp only[decide_eq_true_eq]at k1 k2 k3 k4 j1 j2 j3 j4;rw[jzb8,jzaw];refine⟨by grind,by grind,?_⟩;have e:(ntT t sh n m+((if tlN t m=n then shA sh m else 0)-(if hdN t m=n then shA sh m else 0)))*dH h=ntT t sh n m*dH h+((if tlN t m=n then shA sh m else 0)*dH h+ -((if hdN t m=n then shA sh m else 0)*dH h)):=(by grind);rw[e];exact i3.add (k4.add j4.neg)
theorem tW{t}{sh:LQ}{h:Nat}(hh:h<=256)(hq:∀q∈sh,QB_ h (h:Rat) q){m:Nat}(hm:m<=18)(n:Nat):SzQ (ntT t sh n m) 440:=by
 obtain⟨h1,h2,h3⟩:=tV (t:=t) hq n m;have e:((m:Int):Rat)*((h:Int):Rat)=((m*h:Nat):Int):=(by rw[kZk,kZu]);have e2:m*h<=18*256:=kQq hm hh;have e3:(((m*h:Nat):Int):Rat)<=((8192:Int):Rat):=kQt.2 (by omega);have e4:((8192:Int):Rat)=8192:=rfl;refine tU hh h3 ?_ ?_ <;> grind
theorem jzl0{t}{kd nm:Int}{s dst h:Nat}{sh:LQ}{lo:Rat}(hr:RI t kd nm s dst h sh lo [])(hh:h<=256)(hg:Gok t)(hs:s<t.nodes.toNat)(hd:dst<t.nodes.toNat):(∀n,n<t.nodes.toNat->SzQ (-kN t s n sh) 440)/\∀n,n<=t.nodes.toNat->SzQ (suN (fun n=>kN t s n sh) dst n) 440:=by
 obtain⟨c1,c2,c3⟩:=jzcc hr hg hs hd;have hI:∀n,isI (kN t s n sh*dH h):=fun n=>(by have h3:=(tV (t:=t) hr.shq n (2*t.links.length)).2.2;rw[tT,Rat.sub_eq_add_neg,Rat.add_mul,Rat.neg_mul];refine isI.add ?_ h3.neg;split;{rw[Rat.one_mul];exact jzae h};rw[Rat.zero_mul];exact isI.zero);have qf:∀N,0<=sm N (fun n=>kN t s n sh)/\∀n,n<N->kN t s n sh<=sm N (fun n=>kN t s n sh):=fun N=>(by (induction N with|zero=>exact⟨vC,fun n h=>by omega⟩|succ N ih=>have e:sm (N+1) (fun n=>kN t s n sh)=sm N (fun n=>kN t s n sh)+kN t s N sh:=rfl;rw[e];have:=c1 N;refine⟨by grind,fun n hn=>?_⟩;by_cases h:n=N;{subst h;grind};have:=ih.2 n (by omega);grind));have qa:∀N,0<=suN (fun n=>kN t s n sh) dst N/\suN (fun n=>kN t s n sh) dst N<=sm N (fun n=>kN t s n sh)/\isI (suN (fun n=>kN t s n sh) dst N*dH h):=fun N=>(by (induction N with|zero=>exact⟨vC,vC,by show isI (0*dH h);rw[Rat.zero_mul];exact isI.zero⟩|succ N ih=>have e:sm (N+1) (fun n=>kN t s n sh)=sm N (fun n=>kN t s n sh)+kN t s N sh:=rfl;rw[e];have:=c1 N;show 0<=(if N=dst then suN _ dst N else suN _ dst N+kN t s N sh)/\(if N=dst then suN _ dst N else suN _ dst N+kN t s N sh)<=_/\isI ((if N=dst then suN _ dst N else suN _ dst N+kN t s N sh)*dH h);obtain⟨i1,i2,i3⟩:=ih;split;{exact⟨i1,by grind,i3⟩};exact⟨by grind,by grind,by rw[Rat.add_mul];exact i3.add (hI N)⟩));have qe:∀N,N<=t.nodes.toNat->sm N (fun n=>kN t s n sh)<=1:=fun N hN=>(by have key:∀k,sm N (fun n=>kN t s n sh)<=sm (N+k) (fun n=>kN t s n sh):=fun k=>(by (induction k with|zero=>exact vC|succ k ih=>have e:sm (N+k+1) (fun n=>kN t s n sh)=sm (N+k) (fun n=>kN t s n sh)+kN t s (N+k) sh:=rfl;show _<=sm (N+k+1) (fun n=>kN t s n sh);rw[e];have:=c1 (N+k);grind));have h1:=key (t.nodes.toNat-N);rw[Nat.add_sub_cancel' hN,jzca hg hs]at h1;exact h1);refine⟨fun n hn=>?_,fun n hn=>?_⟩;{have h1:=(qf t.nodes.toNat).2 n hn;have h2:=qe _ (yX _);have h3:=c1 n;refine tU hh ?_ (by grind) (by grind);rw[Rat.neg_mul];exact(hI n).neg};obtain⟨i1,i2,i3⟩:=qa n;have h2:=qe n hn;exact tU hh i3 (by grind) (by grind)
end Fo
end Go.Proofs.YtllmekijiohgmaaGreatDoor
namespace Go.Proofs.YtllmekijiohgmaaGreatDoor
open Go.RowKit
namespace Fo
theorem pwU{a b n:Nat}(hab:a<=b)(h:n<B32^a):n<B32^b:=yL h (kQk (by decide) hab)
theorem jzce{q:Rat}{a b:Nat}(hab:a<=b)(h:SzQ q a):SzQ q b:=⟨pwU hab h.1,pwU hab h.2⟩
theorem jzcf{t}(hv:aA t=true)(hL:t.links.length<=9){kd nm:Int}{r:LN}(hs:tlN t (r[0]?.getD 0)<t.nodes.toNat)(hr:∀a∈r,a<2*t.links.length):
  ∃h,h<=256/\(bY t kd nm r).1.length=2*t.links.length/\(∀q∈(bY t kd nm r).1,QB_ h (h:Rat) q)/\(∀a,ofB t kd nm a=true->shA (bY t kd nm r).1 a=0)/\SzQ (bY t kd nm r).2 440/\
   (kd=2/\nm=(tlN t (r[0]?.getD 0):Int)->(bY t kd nm r).2=1)/\(¬(kd=2/\nm=(tlN t (r[0]?.getD 0):Int))->RI t kd nm (tlN t (r[0]?.getD 0)) (hdN t (r[r.length-1]?.getD 0)) h (bY t kd nm r).1 (bY t kd nm r).2 []):=by
 have g:=Gok.of hv;by_cases h:kd=2/\nm=(tlN t (r[0]?.getD 0):Int);{(have e:bY t kd nm r=(List.replicate (2*t.links.length) 0,1):=by unfold bY;rw[if_pos h]);rw[e];exact⟨0,yZ _,by simp,fun q hq=>by rw[uF hq];exact QB_.zero (vC),fun a _=>tM _ _,(show SzQ 1 440 by unfold SzQ;decide+kernel),fun _=>rfl,fun h2=>absurd h h2⟩};have e:bY t kd nm r=iF t (aC t kd nm) r:=(by unfold bY;rw[if_neg h]);have r0:=RI.start (t:=t) (kd:=kd) (nm:=nm) (d:=hdN t (r[r.length-1]?.getD 0)) hs (st:=r.map fun a=>(2,a)) fun x hx=>(by obtain⟨a,ha,rfl⟩:=kQl.1 hx;exact .inr ⟨rfl,hr a ha⟩);obtain⟨h',h1,h2⟩:=jzay g hL 257 0 _ _ _ rfl ⟨by decide,fun h=>absurd h (by decide)⟩ r0;have h2:RI t kd nm (tlN t (r[0]?.getD 0)) (hdN t (r[r.length-1]?.getD 0)) h' (iF t (aC t kd nm) r).1 (iF t (aC t kd nm) r).2 []:=h2;rw[e];have hb:((h':Int):Rat)<=((512:Int):Rat):=kQt.2 (by omega);have hz:=h2.loq.sz h1 hb;exact⟨h',h1,h2.ci.len,h2.shq,h2.off,jzce (by decide) hz,fun h3=>absurd h3 h,fun _=>h2⟩
theorem jzl1{q:Rat}(h:0<=q):aQ q=0\/aQ q=1:=by
 unfold aQ;have:=Rat.num_nonneg.2 h;by_cases e:q.num=0;{rw[if_pos e];exact .inl rfl};rw[if_neg e,if_neg (by omega)];exact .inr rfl
theorem jzl2{q:Rat}(h:0<=q):aQ (-q)=0\/aQ (-q)= -1:=by
 unfold aQ;have h1:=Rat.num_nonneg.2 h;have h2:(-q).num= -q.num:=rfl;rw[h2];by_cases e:q.num=0;{rw[if_pos (by omega)];exact .inl rfl};rw[if_neg (by omega),if_pos (by omega)];exact .inr rfl
theorem jzcg{a b:Rat}(h:a<=b):decide (dP a b<=0)=true:=by
 refine yO ?_;unfold dP;split;{decide};rename_i h1;have e:a=b:=Rat.le_antisymm h (kQ4.1 h1);rw[if_pos e];exact Int.le_refl _
theorem jzl3(a:Rat):dP a a=0:=by
 unfold dP;rw[if_neg (kZf),if_pos rfl]
theorem pF{W}{a b:Rat}{n1 n2:Bool}{A1 A1' A2 A2'}{l1 c1 l1' c1' l2 c2 l2' c2':Nat}(s1:SzQ a 440)(h1:aO W n1 A1 l1 c1 A1' l1' c1' a)(s2:SzQ b 440)(h2:aO W n2 A2 l2 c2 A2' l2' c2' b):l1<=134217728/\l1'<=134217728/\l2<=134217728/\l2'<=134217728:=by
 obtain⟨a1,a2⟩:=h1.lens s1;obtain⟨a3,a4⟩:=h2.lens s2;omega
theorem jzl4{f:Nat->Rat}{d k:Nat}(e:k=d):suN f d (k+1)=suN f d k:=by
 show(if k=d then suN f d k else suN f d k+f k)=_;rw[if_pos e]
theorem jzl5{f:Nat->Rat}{d k:Nat}(e:¬k=d):suN f d (k+1)=suN f d k-(-f k):=by
 show(if k=d then suN f d k else suN f d k+f k)=_;rw[if_neg e];grind
structure CwI(w wx:World)(t:Tp)(AO:OA)(co:Nat)(AL:OA)(cl gt gS gl gn:Nat)(Q:Array Value)(sh:LQ)(lo:Rat)(net:LQ):Prop where
 ex:Ext w wx
 tb:Blk wx gt 25 #[vI t.nodes,.s AO t.over.length co,.s AL t.links.length cl]
 qb:Blk wx (gt+1) 31 Q
 qs:QB wx gS sh
 lb:LoB wx gl lo
 ns:QB wx gn net
 ne:gS≠gn/\gl≠gn/\w.heap.size<=gn
section
variable {w wx wy:World} {t:Tp} {AO:Option Addr} {co:Nat} {AL:Option Addr} {cl gt gS gl gn:Nat} {Q:Array Value} {sh net:List Rat} {lo:Rat}
theorem CwI.K(h:CwI w wx t AO co AL cl gt gS gl gn Q sh lo net)(hx:Ext wx wy):CwI w wy t AO co AL cl gt gS gl gn Q sh lo net:=
 ⟨h.ex.tr hx,h.tb.K hx,h.qb.K hx,h.qs.K hx,h.lb.K hx,h.ns.K hx,h.ne⟩
theorem CwI.put(h:CwI w wx t AO co AL cl gt gS gl gn Q sh lo net){m:Nat}{q:Rat}{neg:Bool}{A}{n c:Nat}{A'}{n' c':Nat}(hm:m<net.length)(hl:aO wx neg A n c A' n' c' q):
  CwI w (((wx.setCell (aD gn (m*3)) (.bool neg)).setCell (aD gn (m*3+1)) (.s A n c)).setCell (aD gn (m*3+2)) (.s A' n' c')) t AO co AL cl gt gS gl gn Q sh lo (net.set m q):=by
 have k:FrS (fun b=>b=gn) wx _:=eG (S:=fun b=>b=gn) (nF wx gn (m*3) (.bool neg) (.s A n c) (.s A' n' c')) fun y e=>(by (injection e with e);exact e.symm);obtain⟨cq,hq⟩:=h.ns.blk;have n1:NoT (fun b=>b=gn) wx 168:=NoT.one hq (by decide);exact⟨k.ext h.ex fun b hb=>by have hb:b=gn:=hb;have:=h.ne.2.2;omega,k.blk h.tb (bL h.tb hq (by decide)),k.blk h.qb (bL h.qb hq (by decide)),gM h.qs k h.ne.1 n1,h.lb.fr k h.ne.2.1 n1,h.ns.put hm hl,h.ne⟩
theorem CwI.box(h:CwI w wx t AO co AL cl gt gS gl gn Q sh lo net){gm:Nat}{cs:Array Value}(hb:Blk wx gm 40 cs)(hne:gm≠gS/\gm≠gl/\gm≠gn/\w.heap.size<=gm)(k:FrS (fun b=>b=gm) wx wy):CwI w wy t AO co AL cl gt gS gl gn Q sh lo net:=by
 have n1:NoT (fun b=>b=gm) wx 168:=NoT.one hb (by decide);exact⟨k.ext h.ex fun b hb=>by have hb:b=gm:=hb;have:=hne.2.2.2;omega,k.blk h.tb (bL h.tb hb (by decide)),k.blk h.qb (bL h.qb hb (by decide)),gM h.qs k (fun e=>hne.1 e.symm) n1,h.lb.fr k (fun e=>hne.2.1 e.symm) n1,gM h.ns k (fun e=>hne.2.2.1 e.symm) n1,h.ne⟩
end
end Fo
namespace Fo
def FsP(w:World)(L:Nat)(r:LQ×Rat)(e:Ending)(w':World):Prop:=∃(g:Nat) (neg:Bool) (A:OA) (n c:Nat) (A':OA) (n' c':Nat),e=.returned (.tuple #[.s (sA g) L L,.agg #[.bool neg,.s A n c,.s A' n' c'],vI 0])/\QB w' g r.1/\aO w' neg A n c A' n' c' r.2/\Ext w w'/\w.heap.size<=g
theorem jzch:∀css:List (List Value),(∀cs∈css,cs.length=3)->css.flatten.length=3*css.length
 | [],_=>rfl
 |c::css,h=>by
  rw[List.flatten_cons,yQ,jzch css fun x hx=>h x (by simp[hx]),h c (by simp),kQo];omega
theorem jzl6{w}{g h:Nat}{qs:LQ}{cs:Array Value}(hq:QB w g qs)(hb:Blk w h 40 cs)(h3:cs.size=3)(hl:qs.length≠1):g≠h:=fun e=>by
 subst e;obtain⟨qe,h1,h2,qa,_⟩:=hq;unfold Blk at hb qa;rw[hb]at qa;injection qa with e
 injection e with e
 have h4:=jzch qe h2;have h5:cs.size=qe.flatten.length:=(by rw[e];simp);omega
theorem pA{t}:∀(x:LN) (s:Nat),(nds t s x).length=x.length+1
 | [],_=>rfl
 |a::x,s=>by
  show(nds t (aJ t a).toNat x).length+1=x.length+1+1;rw[pA x]
theorem jzci{t}(hv:aA t=true){d:Nat}:∀(x:LN) (s:Nat) (first:Bool),PO t s first x d->s<t.nodes.toNat->∀a∈nds t s x,a<t.nodes.toNat
 | [],s,_,_,hs,a,ha=>by
   have ha:a∈ [s]:=ha;rw[xD.1 ha];exact hs
 |b::x,s,_,h,hs,a,ha=>by
  have ha:a∈s::nds t (aJ t b).toNat x:=ha;rcases xZ.1 ha with rfl|ha
  ·exact hs
  ·exact jzci hv x _ false h.2.2 ((Gok.of hv).hd b (fK.1 h.1).1) a ha
theorem jzl7{t}(hv:aA t=true){s d:Nat}(hs:s<t.nodes.toNat){x:LN}(h:Lpl t s d x):x.length+1<=t.nodes.toNat:=by
 have h1:=oV t.nodes.toNat (nds t s x) h.2 (jzci hv x s true h.1 hs);rw[pA]at h1;exact h1
theorem jzcj t AO(co:Nat)AL(cl:Nat)(kd nm:Int)(N:Nat)R(m cR:Nat)(r:LN)w
  (ht:aF w t AO co AL cl) (hv:aA t=true) (hw:wnP t kd nm=true) (hN:t.nodes=(N:Int)) (h12:N<=12) (hL9:t.links.length<=9) (hTab:Tab w) (hR:Rd w R (ints r)) (hm:r.length=m) (hc:m<=cR) (hrt:rtB t (r.map fun a:Nat=>(a:Int))=true):
  Calls Tryz.prog 12 #[.agg #[vI t.nodes,.s AO t.over.length co,.s AL t.links.length cl],.agg #[vI kd,vI nm],.s R m cR] w (FsP w (2*t.links.length) (bY t kd nm r)):=by
 have g:=Gok.of hv;have qj:t.nodes.toNat=N:=(by omega);obtain⟨r',e1,qk,hr,qo⟩:=jzbr hv hrt;obtain rfl:r=r':=(by have h:=congrArg (List.map Int.toNat) e1;rw[List.map_map,List.map_map]at h;have e:∀l:LN,l.map (Int.toNat ∘ fun a:Nat=>(a:Int))=l:=fun l=>(by (induction l with|nil=>rfl|cons a l ih=>rw[kZa,ih];rfl));rw[e,e]at h;exact h);have qn:0<m:=(by rw[<-hm];exact List.length_pos_iff.2 qk);have qh:r[0]?.getD 0∈r:=(by rw[yG (by omega),kQ1];exact xR _);have qg:m<=32:=(by have:=jzl7 hv (g.tl _ (hr _ qh)) qo;omega);have TB:Hid (∀W,Ext w W->Calls Tryz.prog 18 #[.agg #[vI t.nodes,.s AO t.over.length co,.s AL t.links.length cl],.agg #[vI kd,vI nm]] W (TsP W (aC t kd nm))):=Hx (fun W hx=>jzkz t AO co AL cl kd nm N W (ht.K hx) hv hw hN h12);have RT:Hid (∀W,Ext w W->Calls Tryz.prog 44 #[.agg #[vI t.nodes,.s AO t.over.length co,.s AL t.links.length cl],.s R m cR] W fun e w'=>e=.returned (.bool true)/\Ext W w'):=Hx (fun W hx=>by have h:=jzld t AO co AL cl R m cR (r.map fun a:Nat=>(a:Int)) W (ht.K hx) hv (by have e:aR (r.map fun a:Nat=>(a:Int))=ints r:=(by unfold aR ints;rw[List.map_map];rfl);rw[e];exact hR.K hx) (by rw[xV];exact hm) hc (by omega);rw[hrt]at h;exact h);have SH:Hid (∀W TA cT,Ext w W->RdL TbC 60 3 W TA (aC t kd nm)->Calls Tryz.prog 45 #[.agg #[vI t.nodes,.s AO t.over.length co,.s AL t.links.length cl],.s TA N cT,.agg #[vI kd,vI nm],.s R m cR] W (ShP W (2*t.links.length) (bY t kd nm r))):=Hx (fun W TA cT hx hT=>jzlu t AO co AL cl kd nm N TA cT R m cR r W (ht.K hx) hv hN h12 hL9 (hTab.K hx) hT (hR.K hx) hm qn qg hr fun h=>jzlw hv (by omega) (g.tl _ (hr _ qh)) hr 1 h);have qp:Hid ((bY t kd nm r).1.length=2*t.links.length):=Hx (by obtain⟨_,_,h,_⟩:=jzcf (kd:=kd) (nm:=nm) hv hL9 (g.tl _ (hr _ qh)) hr;exact h);have TL:Hid ((aC t kd nm).length=N):=Hx (by unfold aC;simp[qj]);have B0:=Hx (enW w #[vI t.nodes,.s AO t.over.length co,.s AL t.links.length cl] #[vI kd,vI nm] #[.bool false,zN,zN] 25 27 40);clear ht hv hw hN h12 hL9 hTab hR hm hc hrt g qj e1 qk hr qo qn qh qg;go_enter Tryz.func12,Tryz.ntmps12;(go_upto_region 1 with fail);generalize ((w.alloc (.cells #[vI t.nodes,.s AO t.over.length co,.s AL t.links.length cl] 25)).alloc (.cells #[vI kd,vI nm] 27)).alloc (.cells #[.bool false,zN,zN] 40)=w1 at*;generalize hgt:w.heap.size=gt at*;have qt:=Hx hgt;clear hgt;obtain⟨⟨i0,i1,i2⟩,_⟩:=B0.o.1.t3;have j0:w1.cell? (aD (gt+1) 0)=some (vI kd):=B0.o.2.1.cell 0;have j1:w1.cell? (aD (gt+1) 1)=some (vI nm):=B0.o.2.1.cell 1;(go_wp2_with fail);refine(TB.o _ B0.o.2.2.2).mono ?_;rintro e w2 ⟨VT,rfl,OT,x2⟩;obtain⟨TA,cT,rfl,_⟩:=OT.form;rw[TL.o];have RD:Hid (RdL TbC 60 3 w2 TA (aC t kd nm)):=Hx (OwL.rd OT rfl);have B2:Hid (Blk w2 gt 25 #[vI t.nodes,.s AO t.over.length co,.s AL t.links.length cl]/\Blk w2 (gt+1) 27 #[vI kd,vI nm]/\Blk w2 (gt+1+1) 40 #[.bool false,zN,zN]/\Ext w w2):=Hx (⟨B0.o.1.K x2,B0.o.2.1.K x2,B0.o.2.2.1.K x2,B0.o.2.2.2.tr x2⟩);clear OT x2 i0 i1 i2 j0 j1 B0;obtain⟨⟨i0,i1,i2⟩,_⟩:=B2.o.1.t3;(go_wp2_with fail);refine(RT.o _ B2.o.2.2.2).mono ?_;rintro e w3 ⟨rfl,x3⟩;have qm:=Hx (RD.o.K x3 fun cs x hc=>hc.K x3);have B3:Hid (Blk w3 gt 25 #[vI t.nodes,.s AO t.over.length co,.s AL t.links.length cl]/\Blk w3 (gt+1) 27 #[vI kd,vI nm]/\Blk w3 (gt+1+1) 40 #[.bool false,zN,zN]/\Ext w w3):=Hx (⟨B2.o.1.K x3,B2.o.2.1.K x3,B2.o.2.2.1.K x3,B2.o.2.2.2.tr x3⟩);clear x3 i0 i1 i2 B2 RD;obtain⟨⟨i0,i1,i2⟩,_⟩:=B3.o.1.t3;have j0:w3.cell? (aD (gt+1) 0)=some (vI kd):=B3.o.2.1.cell 0;have j1:w3.cell? (aD (gt+1) 1)=some (vI nm):=B3.o.2.1.cell 1;go_wp2_with fail
 refine(SH.o _ TA cT B3.o.2.2.2 qm.o).mono ?_;rintro e w4 ⟨gS,n1,A1,l1,c1,qf,qa,qe,rfl,hq,hl,x4,qi⟩;have Q4:=Hx (kQa hq hl);have qu:Hid (gS≠gt+1+1/\w.heap.size<=gS):=Hx (⟨jzl6 hq (B3.o.2.2.1.K x4) rfl (by rw[qp.o];omega),yY B3.o.2.2.2.size qi⟩);have B4:Hid (Blk w4 (gt+1+1) 40 #[.bool false,zN,zN]/\Ext w w4):=Hx (⟨B3.o.2.2.1.K x4,B3.o.2.2.2.tr x4⟩);clear hq hl x4 qi i0 i1 i2 j0 j1 B3 qm;have X5:Ext w4 (w4.alloc (.cells #[.bool n1,.s A1 l1 c1,.s qf qa qe] 40)):=(eR w4).alloc _;have Q5:=Hx (show Blk (w4.alloc (.cells #[.bool n1,.s A1 l1 c1,.s qf qa qe] 40)) w4.heap.size 40 #[.bool n1,.s A1 l1 c1,.s qf qa qe]/\Blk (w4.alloc (.cells #[.bool n1,.s A1 l1 c1,.s qf qa qe] 40)) (gt+1+1) 40 #[.bool false,zN,zN]/\Ext w (w4.alloc (.cells #[.bool n1,.s A1 l1 c1,.s qf qa qe] 40))/\QB (w4.alloc (.cells #[.bool n1,.s A1 l1 c1,.s qf qa qe] 40)) gS (bY t kd nm r).1/\aO (w4.alloc (.cells #[.bool n1,.s A1 l1 c1,.s qf qa qe] 40)) n1 A1 l1 c1 qf qa qe (bY t kd nm r).2/\w4.heap.size≠gt+1+1/\gS≠gt+1+1/\w.heap.size<=gS from
  ⟨eN w4 _ _,B4.o.1.K X5,B4.o.2.tr X5,Q4.o.1.K X5,Q4.o.2.K X5,by have:=B4.o.1.lt;omega,qu.o⟩)
 clear X5 Q4 B4;(go_upto_region 7 with fail);(generalize (w4.alloc (.cells #[.bool n1,.s A1 l1 c1,.s qf qa qe] 40))=w5 at*;generalize w4.heap.size=gl at*;have XD:Hid (Ext w5 w5.drew):=Hx ((eR w5).drewN 1);have HSW:Hid (w5.drew.cell? (aD gl 0)=some (.bool n1)/\w5.drew.cell? (aD gl 1)=some (.s A1 l1 c1)/\w5.drew.cell? (aD gl 2)=some (.s qf qa qe)):=Hx ((Q5.o.1.K XD.o).t3.1);have DB:=Hx (Q5.o.2.1.K XD.o);refine wp_region_last (fun W=>W.cell? (aD gl 0)=some (.bool n1)/\W.cell? (aD gl 1)=some (.s A1 l1 c1)/\W.cell? (aD gl 2)=some (.s qf qa qe)) 4 (by kernel_rfl) ?_;generalize w5.drew=wd at*;refine wP 0 rfl HSW.o ?_;try simp only[Act.put,yA,yB,yC,yD,yE,yF]);refine wV 1 rfl HSW.o ?_;(refine wP 2 rfl HSW.o ?_;try simp only[Act.put,yA,yB,yC,yD,yE,yF]);obtain⟨⟨d0,d1,d2⟩,f0,f1,f2⟩:=DB.o.t3;have S5:=Hx (eD (.bool n1) (.s A1 l1 c1) (.s qf qa qe) DB.o);have LB:=Hx (S5.o.2.blk (Q5.o.1.K XD.o) Q5.o.2.2.2.2.2.1);have F:Hid (FsP w (2*t.links.length) (bY t kd nm r) (.returned (.tuple #[.s (sA gS) (2*t.links.length) (2*t.links.length),.agg #[.bool n1,.s A1 l1 c1,.s qf qa qe],vI 0])) (((wd.setCell (aD (gt+1+1) 0) (.bool n1)).setCell (aD (gt+1+1) 1) (.s A1 l1 c1)).setCell (aD (gt+1+1) 2) (.s qf qa qe))):=Hx (by have nu:NoT (fun b=>b=gt+1+1) wd 168:=NoT.one DB.o (by decide);exact⟨gS,n1,A1,l1,c1,qf,qa,qe,rfl,gM (Q5.o.2.2.2.1.K XD.o) S5.o.2 Q5.o.2.2.2.2.2.2.1 nu,S5.o.2.ratR nu (Q5.o.2.2.2.2.1.K XD.o),S5.o.2.ext (Q5.o.2.2.1.tr XD.o) fun b hb=>by have hb:b=gt+1+1:=hb;have:=qt.o;omega,Q5.o.2.2.2.2.2.2.2⟩);(refine wC 3 rfl (fun KK hK=>?_);go_simp;refine hK.o _ _ LB.o.t3.1 ?_;clear hK KK HSW;try simp only[Act.put,yD,yE,yF]);(obtain⟨⟨r0,r1,r2⟩,_⟩:=S5.o.1.t3;clear S5 d0 d1 d2 f0 f1 f2 DB LB;generalize (((wd.setCell (aD (gt+1+1) 0) (.bool n1)).setCell (aD (gt+1+1) 1) (.s A1 l1 c1)).setCell (aD (gt+1+1) 2) (.s qf qa qe))=w6 at*;refine aV (by kernel_rfl) rfl (by rfl) (fun KK hK=>?_);go_simp;refine hK.o _ _ ?_;clear hK KK;try simp only[Act.put,yD,yE,yF]);refine wpAny_done (by kernel_rfl) ?_ _;go_wp2;refine bodyPost_ret (v:=.tuple #[.s (sA gS) (2*t.links.length) (2*t.links.length),.agg #[.bool n1,.s A1 l1 c1,.s qf qa qe],vI 0]) ?_ rfl F.o;simp[results,Tryz.results12,go_sem,asAddr,Result.andThen,r0,r1,r2]
end Fo
namespace Fo
theorem jzl8:(Tryz.prog.info? 118).map (fun i=>(i.zero,i.size,i.bytes))=some (some (.agg #[vI 0,vI 0,vI 0,vI 0,vI 0,vI 0,vI 0]),7,56):=by kernel_rfl
def kW(i:Nat):Lk:=⟨i,((i+1)%4:Nat),1,1,3,1,0⟩
theorem jzl9:(List.range 4).map kW=eY.links:=rfl
def iO(k:Nat):List Value:=((List.range k).map kW).flatMap Lk.cells
theorem jzma(k:Nat):iO (k+1)=iO k++(kW k).cells:=by
 unfold iO;rw[kZc,List.map_append,List.flatMap_append];simp
theorem jzck w:
  Calls Tryz.prog 41 #[] w fun e w'=>∃(AL:OA) (cl:Nat),e=.returned (.agg #[vI 4,zN,.s AL 4 cl])/\aF w' eY none 0 AL cl/\Ext w w':=by
 go_enter Tryz.func41,Tryz.ntmps41;go_wp2;(go_loopw [2] (fun it wr=>∃(k:Nat) (v:Value),k<=4/\it=vI k/\wr.ownsRow (w.heap.size+2) 118 7 v k (iO k)/\Blk wr (w.heap.size+1) 25 #[vI 4,zN,v]/\Blk wr w.heap.size 25 #[vI 0,zN,zN]/\Ext w wr) (fun i _=>4-(intOf i).toNat));(case atStart=>exact⟨0,zN,by omega,rfl,World.ownsRow_nil _ _ _ _,Blk.new' _ _ _ (by simp),(eN w _ _).alloc _,((eR w).alloc _).alloc _⟩);obtain⟨k,v,hk,rfl,qe,qg,qh,hx⟩:=hrel;obtain⟨A,c,rfl,qn⟩:=oFA qe;obtain⟨⟨i0,i1,i2⟩,g0,g1,g2⟩:=qg.t3;have OW:=Hx qe;have B1:=Hx qg;have B0:=Hx qh;have EX:=Hx hx;clear qe qg qh hx;by_cases qt:k<4;{have CS:=Hx (show(kW k).cells=[vI (k:Int),vI (((k:Int)+1)%4),vI 1,vI 1,vI 3,vI 1,vI 0] by unfold kW Lk.cells;simp);have BC:=Hx (eN wr 118 #[vI (k:Int),vI (((k:Int)+1)%4),vI 1,vI 1,vI 3,vI 1,vI 0]);have XC:=Hx ((eR wr).alloc (.cells #[vI (k:Int),vI (((k:Int)+1)%4),vI 1,vI 1,vI 3,vI 1,vI 0] 118));have VB:=Hx ((eE (S:=fun _=>False) XC.o).own OW.o (fun _ _ h=>h));have qu:=B1.o.lt;(go_wp2_with (at_builtin;refine dW _ 23 118 _ 7 56 rfl _ _ rfl Tryz.underlying23 jzl8 rfl (by decide) (w.heap.size+2) (.s A k c) k (iO k) rfl VB.o [vI (k:Int),vI (((k:Int)+1)%4),vI 1,vI 1,vI 3,vI 1,vI 0] rfl (by simp[Value.oneCell']) wr.heap.size rfl BC.o (by unfold maxLen;omega) (by omega) (by simp;omega) ?_));intro g8 c8 w8 qf qa qk;have k8:=eG (S:=fun b=>(Value.slice A k c).ownBlock=some b) qa fun g e=>e;have qi:∀kk,(Value.slice A k c).ownBlock=some kk->w.heap.size+2<=kk:=fun kk hkk=>(OW.o.lt kk hkk).1;have qg:Blk w8 (w.heap.size+1) 25 #[vI 4,zN,.s A k c]:=(qa.block _ (B1.o.alloc _).lt (fun e=>by have:=qi _ e.symm;omega)).trans (B1.o.alloc _);have qh:Blk w8 w.heap.size 25 #[vI 0,zN,zN]:=(qa.block _ (B0.o.alloc _).lt (fun e=>by have:=qi _ e.symm;omega)).trans (B0.o.alloc _);have qm:Ext w w8:=Below.grown (EX.o.alloc _) qa (EX.o.alloc _).size (fun kk hkk=>by have:=qi kk hkk;omega);obtain⟨⟨i0,i1,i2⟩,g0,g1,g2⟩:=qg.t3;have qj:Hid (World.ownsRow (w8.setCell (aD (w.heap.size+1) 2) (.s (sA g8) (k+1) c8)) (w.heap.size+2) 118 7 (.s (sA g8) (k+1) c8) (k+1) (iO (k+1))):=Hx (by rw[jzma,CS.o];refine qf.kept (bI w8 (w.heap.size+1) 2 _) (.inr ?_);intro e;have:=(qf.lt _ e).1;omega);have N1:=Hx (qg.sT 2 (.s (sA g8) (k+1) c8));have N0:=Hx (qh.far (p:=(aD (w.heap.size+1) 2)) (by simp only;omega) (.s (sA g8) (k+1) c8));have NE:=Hx (Ext.sT qm (p:=(aD (w.heap.size+1) 2)) (by simp only;omega) (.s (sA g8) (k+1) c8));clear qf qa qk k8 qi qg qh qm;go_wp2;go_roundw;(case rel=>exact⟨k+1,_,by omega,by go_num,qj.o,N1.o,N0.o,NE.o⟩);simp[intOf];omega};have qo:k=4:=(by omega);subst qo;have qp:=B0.o.lt;obtain⟨_,z0,z1,z2⟩:=B0.o.t3;have TR:Hid (∀W:World,W.ownsRow (w.heap.size+2) 118 7 (.s A 4 c) 4 (iO 4)->aF W eY none 0 A c):=Hx (fun W h=>⟨(by unfold i64;decide),by decide,qn,by decide,by decide,Rd.nil _ _,(dX h).rd,fun l hl=>by rw[<-jzl9]at hl;obtain⟨i,hi,rfl⟩:=kQl.1 hl;have:=vX.1 hi;unfold kW Lk.wf i64;simp only[];omega⟩)
 have Q3:=Hx (((B0.o.sT 0 (vI 4)).sT 1 zN).sT 2 (.s A 4 c));have k3:FrS (fun b=>b=w.heap.size) wr (((wr.setCell (aD w.heap.size 0) (vI 4)).setCell (aD w.heap.size 1) zN).setCell (aD w.heap.size 2) (.s A 4 c)):=eG (nF wr w.heap.size 0 _ _ _) fun g e=>(by injection e with e;exact e.symm);have qj:=Hx (show aF (((wr.setCell (aD w.heap.size 0) (vI 4)).setCell (aD w.heap.size 1) zN).setCell (aD w.heap.size 2) (.s A 4 c)) eY none 0 A c/\Ext w (((wr.setCell (aD w.heap.size 0) (vI 4)).setCell (aD w.heap.size 1) zN).setCell (aD w.heap.size 2) (.s A 4 c))from
  ⟨TR.o _ (k3.own OW.o fun g hg=>by have:=(OW.o.lt g hg).1;omega),k3.ext EX.o fun b hb=>by omega⟩)
 clear k3;go_wp2;have q3:=Q3.o;exact bodyPost_ret (v:=.agg #[vI 4,zN,.s A 4 c]) (by simp[results,Tryz.results41,go_sem,q3.cell]) rfl ⟨A,c,rfl,qj.o.1,qj.o.2⟩
end Fo
namespace Fo
theorem jzmb{w}{neg:Bool}{A}{n c:Nat}{A'}{n' c':Nat}{q:Rat}(h:aO w neg A n c A' n' c' q)(hn:n<=1048576)(hn':n'<=1048576):(dT q).length<=40000002:=by
 have h1:=nD h.2.1 hn;have h2:=nD h.2.2 hn';have h3:q.den=1\/dk q=q.den:=(by unfold dk;by_cases e:q.den=1;{exact .inl e};rw[if_neg e];exact .inr rfl);unfold dT;rw[yQ,yQ];have e1:(if q.num<0 then [45]else([]:List UInt8)).length<=1:=(by split <;> simp);have e2:(if q.den=1 then([]:List UInt8)else [47]++Lib.decDigits q.den).length<=20000001:=(by split;{simp};rename_i h4;(rcases h3 with h3|h3);{exact absurd h3 h4};rw[h3]at h2;rw[yQ];simp only[kQo,List.length_nil];omega);omega
def txR(l:LQ):List UInt8:=l.flatMap fun q=>dT q++[32]
theorem jzmc{l:LQ}{k:Nat}{q:Rat}(h:l[k]?=some q):txR (l.take (k+1))=txR (l.take k)++(dT q++[32]):=by
 unfold txR;rw[kQr,h,List.flatMap_append];simp
theorem jzcl(g n:Nat)(qs:LQ)w(hq:QB w g qs)(hn:qs.length=n)(hz:∀q∈qs,SzQ q 430)(qg:Tab w)(hb:n<=18):
  Calls Tryz.prog 14 #[.s (sA g) n n] w fun e w'=>e=.returned (.string ⟨(txR qs).toArray⟩)/\Ext w w':=by
 have HQ:=Hx (kQa hq (kQa hn (kQa hz qg)));clear hq hn hz qg;go_enter Tryz.func14,Tryz.ntmps14;go_wp2;go_loopg [3,4] n (fun q s it wx=>∃k:Nat,n-k=q/\k<=n/\it=vI (k:Int)/\s=.string ⟨(txR (qs.take k)).toArray⟩/\(txR (qs.take k)).length<=40000003*k/\Hid (Ext w wx));(case atStart=>exact⟨0,rfl,yZ _,rfl,rfl,yX _,Hx (eR w)⟩);obtain⟨k,rfl,hk,rfl,rfl,hl,X⟩:=hrel;by_cases qi:k<n;{obtain⟨q,hq⟩:∃q,qs[k]?=some q:=⟨_,yG (by rw[HQ.o.2.1];exact qi)⟩;obtain⟨n1,A1,l1,c1,qh,qf,qe,⟨y0,y1,y2⟩,_,qa⟩:=(HQ.o.1.K X.o).at_ hq;obtain⟨qk,qm⟩:=qa.lens (HQ.o.2.2.1 q (yJ hq));have qo:=jzmb qa (by omega) (by omega);clear qk qm;have TX:Hid (Calls Tryz.prog 16 #[.agg #[.bool n1,.s A1 l1 c1,.s qh qf qe]] wr fun e w'=>e=.returned (.string ⟨(dT q).toArray⟩)/\Ext wr w'):=Hx (by obtain⟨h1,h2⟩:=qa.lens (HQ.o.2.2.1 q (yJ hq));exact wD n1 A1 l1 c1 qh qf qe q wr qa (by omega) (by omega) (HQ.o.2.2.2.K X.o));have TS:=Hx (jzmc hq);have kN:(k:Int)<(n:Int):=(by omega);have k0:(0:Int)<=(k:Int):=(by omega);clear hq qa;(go_wp2_with fail);refine TX.o.mono ?_;rintro e w2 ⟨rfl,x2⟩;have X2:=Hx (X.o.tr x2);clear x2;have SE:Hid (ByteArray.mk (txR (qs.take k)).toArray++(ByteArray.mk (dT q).toArray++ByteArray.mk #[32])=ByteArray.mk (txR (qs.take (k+1))).toArray):=Hx (by rw[TS.o];apply ByteArray.ext;simp[ByteArray.data_append]);have qj:(txR (qs.take (k+1))).length<=40000003*(k+1):=(by rw[TS.o,yQ,yQ];simp only[kQo,List.length_nil];omega);go_wp2;go_roundg (n-(k+1));(case measure=>omega);exact⟨k+1,rfl,by omega,by go_num,by rw[SE.o],qj,X2⟩};obtain rfl:k=n:=(by omega);have qn:¬((k:Int)<(k:Int)):=(by omega);have F:Hid (txR (qs.take k)=txR qs):=Hx (by rw[yU (Nat.le_of_eq HQ.o.2.1)]);rw[F.o];go_wp2;go_ret;exact⟨rfl,X.o⟩
end Fo
namespace Fo
theorem jzcm:dT 0=[48]:=by
 unfold dT;rw[show(0:Rat).num=0 from rfl,show(0:Rat).den=1 from rfl];simp[Lib.decDigits]
theorem sF:dT 1=[49]:=by
 unfold dT;rw[show(1:Rat).num=1 from rfl,show(1:Rat).den=1 from rfl];simp[Lib.decDigits]
theorem tx_a:txR [0,0,0,0,0,1,0,1]=[48,32,48,32,48,32,48,32,48,32,49,32,48,32,49,32]:=by
 unfold txR;simp[jzcm,sF]
theorem tx_b:txR [1,1,0,0,0,1,0,1]=[49,32,49,32,48,32,48,32,48,32,49,32,48,32,49,32]:=by
 unfold txR;simp[jzcm,sF]
theorem jzmd:aA eY=true:=by decide+kernel
theorem jzme:rtB eY ([0,2].map fun a:Nat=>(a:Int))=true:=by decide+kernel
theorem jzmf:∀q∈([0,0,0,0,0,1,0,1]:LQ),SzQ q 430:=by
 intro q hq;have h:q=0\/q=1:=(by simp at hq;grind);rcases h with rfl|rfl <;> (unfold SzQ;decide+kernel)
theorem jzmg:∀q∈([1,1,0,0,0,1,0,1]:LQ),SzQ q 430:=by
 intro q hq;have h:q=1\/q=0:=(by simp at hq;grind);rcases h with rfl|rfl <;> (unfold SzQ;decide+kernel)
theorem jzcn(k:Int)(hk:k=0\/k=1)AL(cl:Nat)(g:Nat)w(ht:aF w eY none 0 AL cl)(hta:Tab w)(hb:Rd w (sA g) (ints [0,2])):
  Calls Tryz.prog 12 #[.agg #[vI 4,zN,.s AL 4 cl],.agg #[vI 1,vI k],.s (sA g) 2 2] w (FsP w 8 (bY eY 1 k [0,2])):=
 jzcj eY none 0 AL cl 1 k 4 (sA g) 2 2 [0,2] w ht jzmd (by rcases hk with rfl|rfl <;> decide+kernel) rfl (by decide) (by decide) hta hb rfl (yX _) jzme
theorem jzmh w(hta:Tab w):Calls Tryz.prog 9 #[] w fun e w'=>e=.returned (.bool true)/\Ext w w':=by
 have HT:=Hx hta;clear hta;go_enter Tryz.func9,Tryz.ntmps9;(go_wp2_with fail);refine(jzck _).mono ?_;rintro e w1 ⟨AL,cl,rfl,ht,x1⟩;have qm:Ext w1 (w1.alloc (.cells #[vI 0,vI 2] 3)):=(eR w1).alloc _;have S1:=Hx (jzcn 0 (.inl rfl) AL cl w1.heap.size _ (ht.K qm) (HT.o.K (x1.tr qm)) (Rd.new w1 _ _ rfl rfl));have E1:=Hx (x1.tr qm);rw[jzfx]at S1;clear ht x1 qm;go_wp2_with fail
 refine S1.o.mono ?_;rintro e w2 ⟨g1,n1,A1,l1,c1,qi,qh,qg,rfl,qo,qt,x2,_⟩;have qn:Ext w2 (w2.alloc (.cells #[.bool n1,.s A1 l1 c1,.s qi qh qg] 40)):=(eR w2).alloc _;have Q1:=Hx (show QB (w2.alloc (.cells #[.bool n1,.s A1 l1 c1,.s qi qh qg] 40)) g1 [0,0,0,0,0,1,0,1]/\aO (w2.alloc (.cells #[.bool n1,.s A1 l1 c1,.s qi qh qg] 40)) n1 A1 l1 c1 qi qh qg 0/\Ext w (w2.alloc (.cells #[.bool n1,.s A1 l1 c1,.s qi qh qg] 40))/\Blk (w2.alloc (.cells #[.bool n1,.s A1 l1 c1,.s qi qh qg] 40)) w2.heap.size 40 #[.bool n1,.s A1 l1 c1,.s qi qh qg]from
  ⟨qo.K qn,qt.K qn,(E1.o.tr x2).tr qn,eN w2 _ _⟩)
 clear qo qt x2 qn S1 E1;(go_upto_region 2 with fail);generalize w2.alloc (.cells #[.bool n1,.s A1 l1 c1,.s qi qh qg] 40)=w3 at*;generalize w2.heap.size=b1 at*;(go_wp2_with fail);refine(jzck _).mono ?_;rintro e w4 ⟨AM,cm,rfl,ht,x4⟩;have qj:Ext w4 (w4.alloc (.cells #[vI 0,vI 2] 3)):=(eR w4).alloc _;have S2:=Hx (jzcn 1 (.inr rfl) AM cm w4.heap.size _ (ht.K qj) (HT.o.K (Q1.o.2.2.1.tr (x4.tr qj))) (Rd.new w4 _ _ rfl rfl));have E4:=Hx (x4.tr qj);rw[jzfy]at S2;clear ht x4 qj;go_wp2_with fail
 refine S2.o.mono ?_;rintro e w5 ⟨g2,n2,A2,l2,c2,qa,qf,qe,rfl,qw,qp,x5,_⟩;have qk:Ext w5 (w5.alloc (.cells #[.bool n2,.s A2 l2 c2,.s qa qf qe] 40)):=(eR w5).alloc _;have E5:=Hx ((E4.o.tr x5).tr qk);have Q2:=Hx (show QB (w5.alloc (.cells #[.bool n2,.s A2 l2 c2,.s qa qf qe] 40)) g2 [1,1,0,0,0,1,0,1]/\aO (w5.alloc (.cells #[.bool n2,.s A2 l2 c2,.s qa qf qe] 40)) n2 A2 l2 c2 qa qf qe 0/\Ext w (w5.alloc (.cells #[.bool n2,.s A2 l2 c2,.s qa qf qe] 40))/\Blk (w5.alloc (.cells #[.bool n2,.s A2 l2 c2,.s qa qf qe] 40)) w5.heap.size 40 #[.bool n2,.s A2 l2 c2,.s qa qf qe]from
  ⟨qw.K qk,qp.K qk,Q1.o.2.2.1.tr E5.o,eN w5 _ _⟩)
 have Q3:=Hx (show QB (w5.alloc (.cells #[.bool n2,.s A2 l2 c2,.s qa qf qe] 40)) g1 [0,0,0,0,0,1,0,1]/\aO (w5.alloc (.cells #[.bool n2,.s A2 l2 c2,.s qa qf qe] 40)) n1 A1 l1 c1 qi qh qg 0/\Blk (w5.alloc (.cells #[.bool n2,.s A2 l2 c2,.s qa qf qe] 40)) b1 40 #[.bool n1,.s A1 l1 c1,.s qi qh qg]from
  ⟨Q1.o.1.K E5.o,Q1.o.2.1.K E5.o,Q1.o.2.2.2.K E5.o⟩)
 clear qw qp x5 qk S2 E4 E5 Q1;(go_upto_region 3 with fail);generalize w5.alloc (.cells #[.bool n2,.s A2 l2 c2,.s qa qf qe] 40)=w6 at*;generalize w5.heap.size=b2 at*;have s0:aQ 0=0:=rfl;obtain⟨⟨i0,i1,i2⟩,_⟩:=Q3.o.2.2.t3;(go_wp2_with fail);refine(eC n1 A1 l1 c1 qi qh qg 0 _ Q3.o.2.1).mono ?_;rintro e w7 ⟨rfl,x7⟩;have X7:=Hx x7;rw[s0];clear i0 i1 i2 x7;obtain⟨⟨i0,i1,i2⟩,_⟩:=(Q2.o.2.2.2.K X7.o).t3;(go_wp2_with fail);refine(eC n2 A2 l2 c2 qa qf qe 0 _ (Q2.o.2.1.K X7.o)).mono ?_;rintro e w8 ⟨rfl,x8⟩;have X8:=Hx (X7.o.tr x8);rw[s0];clear i0 i1 i2 x8 X7;have T1:=Hx (jzcl g1 8 _ w8 (Q3.o.1.K X8.o) rfl jzmf (HT.o.K (Q2.o.2.2.1.tr X8.o)) (by decide));rw[tx_a]at T1;(go_wp2_with fail);refine T1.o.mono ?_;rintro e w9 ⟨rfl,x9⟩;have X9:=Hx (X8.o.tr x9);clear x9 X8 T1;have T2:=Hx (jzcl g2 8 _ w9 (Q2.o.1.K X9.o) rfl jzmg (HT.o.K (Q2.o.2.2.1.tr X9.o)) (by decide));rw[tx_b]at T2;(go_wp2_with fail);refine T2.o.mono ?_;rintro e qx ⟨rfl,qu⟩;have F:=Hx (Q2.o.2.2.1.tr (X9.o.tr qu));clear qu X9 T2;go_wp2;go_ret;exact⟨rfl,F.o⟩
end Fo
namespace Fo
structure eV(w:World)(t:Tp)(AO:OA)(co:Nat)(AL:OA)(cl:Nat):Prop where
 nodes:i64 t.nodes
 lo:t.over.length<=co
 ll:t.links.length<=cl
 over:Rd w AO (aG t.over)
 links:Rd w AL (t.links.flatMap Lk.cells)
 wf:∀x∈t.links,x.wf
section
variable {w w':World} {t:Tp} {AO:Option Addr} {co:Nat} {AL:Option Addr} {cl:Nat}
theorem eV.K(h:eV w t AO co AL cl)(hx:Ext w w'):eV w' t AO co AL cl:=⟨h.nodes,h.lo,h.ll,h.over.K hx,h.links.K hx,h.wf⟩
theorem eV.top(h:eV w t AO co AL cl)(h1:t.links.length<=256)(h2:t.over.length<=64):aF w t AO co AL cl:=⟨h.nodes,h.lo,h.ll,by omega,by omega,h.over,h.links,h.wf⟩
theorem mO(h:cX t=true):t.links.length<=256/\t.over.length<=64:=by
 unfold cX inB at h;simp at h;have h1:=h.1.1;rcases h.2 with h2|h2
 ·rw[h2];exact⟨h.1.2,by decide⟩
 exact⟨h.1.2,by omega⟩
theorem tX(h:aA t=true):cX t=true:=by
 unfold aA at h;rw[vM]at h;exact h.1
theorem eV.tv(h:eV w t AO co AL cl)(hv:aA t=true):aF w t AO co AL cl:=h.top (mO (tX hv)).1 (mO (tX hv)).2
end
theorem tY t AO(co:Nat)AL(cl:Nat)w(h:eV w t AO co AL cl):
  Calls Tryz.prog 42 #[.agg #[vI t.nodes,.s AO t.over.length co,.s AL t.links.length cl]] w fun e w'=>e=.returned (.bool (aA t))/\Ext w w':=by
 by_cases hh:cX t=true
 ·exact lL t AO co AL cl w (h.top (mO hh).1 (mO hh).2)
 have hv:aA t=false:=by
  unfold aA;rw[Bool.not_eq_true]at hh;rw[hh];rfl
 rw[hv];have qf:=h.nodes;have qa:inB t.nodes 1 64=false\/(inB t.nodes 1 64=true/\((((t.over.length:Int) !=0)=true/\((t.over.length:Int) !=t.nodes)=true)\/
   (((((t.over.length:Int) !=0)=true/\((t.over.length:Int) !=t.nodes)=false)\/((t.over.length:Int) !=0)=false)/\256<t.links.length))):=by
  unfold cX at hh;cases h0:inB t.nodes 1 64
  ·exact .inl rfl
  refine .inr ⟨rfl,?_⟩;rw[h0,kZg]at hh;by_cases k1:t.over.length=0
  ·have e1:((t.over.length:Int) !=0)=false:=by rw[k1];rfl
   refine .inr ⟨.inr e1,?_⟩;rw[yO k1,Bool.true_or,Bool.and_true,decide_eq_true_eq]at hh;omega
  have e1:((t.over.length:Int) !=0)=true:=bne_iff_ne.2 (by omega);by_cases k3:(t.over.length:Int)=t.nodes
  ·have e2:((t.over.length:Int) !=t.nodes)=false:=by rw[k3];simp
   refine .inr ⟨.inl ⟨e1,e2⟩,?_⟩;rw[yO k3,Bool.or_true,Bool.and_true,decide_eq_true_eq]at hh;omega
  exact .inl ⟨e1,bne_iff_ne.2 k3⟩
 obtain⟨qe,e0⟩:=bF w #[vI t.nodes,.s AO t.over.length co,.s AL t.links.length cl] 25;have E0:=Hx e0;obtain⟨⟨i0,i1,i2⟩,_⟩:=qe.t3;clear h qe e0 hh hv;rcases qa with k1|⟨k1,⟨k2,k3⟩|⟨⟨k2,k3⟩|k2,k4⟩⟩
 all_goals
  go_enter Tryz.func42,Tryz.ntmps42
  go_wp2_with (go_at_call 83;refine(gZ _ _ _ _).mono ?_;rintro e w' ⟨rfl,rfl⟩)
  go_ret;exact⟨rfl,E0.o⟩
end Fo
end Go.Proofs.YtllmekijiohgmaaGreatDoor
