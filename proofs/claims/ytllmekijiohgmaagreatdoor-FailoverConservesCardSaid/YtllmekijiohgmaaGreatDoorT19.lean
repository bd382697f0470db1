/- Part 19 of 23 of what the Flows claims share (the white space is struck, the texts are joined). -/
import Derived.Test.YtllmekijiohgmaaGreatDoorT18
set_option linter.unusedVariables false
set_option linter.unusedSimpArgs false
set_option maxRecDepth 100000
set_option maxHeartbeats 8000000
namespace Go.Proofs.YtllmekijiohgmaaGreatDoor
open Go.RowKit
namespace Fo
structure ShI(w wx:World)(t:Tp)(AO:OA)(co:Nat)(AL:OA)(cl gt gS gl:Nat)(sh:LQ)(lo:Rat):Prop where
 ex:Ext w wx
 tb:Blk wx gt 25 #[vI t.nodes,.s AO t.over.length co,.s AL t.links.length cl]
 rb:Blk wx (gt+1+1) 40 #[.bool false,zN,zN]
 qs:QB wx gS sh
 lb:LoB wx gl lo
 ne:gS≠gt+1+1/\gl≠gt+1+1/\gS≠gl
 low:w.heap.size<=gS/\w.heap.size<=gl
structure ShJ(w wB wx:World)(t:Tp)(AO:OA)(co:Nat)(AL:OA)(cl gt gS gl:Nat)(src dst h:Nat)(V:Value)(gs:List Gp)(V':Value)(mb:Nat)(f:Fs):Prop where
 I:ShI w wx t AO co AL cl gt gS gl f.sh f.lo
 pr:OwL (GpM src dst h) 150 10 wx w.heap.size V gs
 prb:∀b,V.ownBlock=some b->b<wB.heap.size
 nx:OwL (GpM src dst (h+1)) 150 10 wx wB.heap.size V' f.nx
 mp:MpG fA wx mb f.nx.length (mG f.nx)
 mbl:wB.heap.size<=mb
 lB:w.heap.size<=wB.heap.size/\wB.heap.size<=wx.heap.size
section
variable {w wB wx wy:World} {t:Tp} {AO:Option Addr} {co:Nat} {AL:Option Addr} {cl gt gS gl:Nat} {src dst h:Nat} {V:Value} {gs:List Gp} {V':Value} {mb:Nat} {f:Fs} {sh:List Rat} {lo:Rat}
theorem ShI.K(I:ShI w wx t AO co AL cl gt gS gl sh lo)(hx:Ext wx wy):ShI w wy t AO co AL cl gt gS gl sh lo:=
 ⟨I.ex.tr hx,I.tb.K hx,I.rb.K hx,I.qs.K hx,I.lb.K hx,I.ne,I.low⟩
theorem ShI.fr{S:Nat->Prop}(I:ShI w wx t AO co AL cl gt gS gl sh lo)(k:FrS S wx wy)(n1:NoT S wx 168)(n2:NoT S wx 25)(n3:NoT S wx 40)(hl:∀b,S b->w.heap.size<=b):ShI w wy t AO co AL cl gt gS gl sh lo:=by
 obtain⟨cq,hq⟩:=I.qs.blk;obtain⟨_,_,_,_,_,_,_,qa,_⟩:=id I.lb;exact⟨k.ext I.ex hl,k.blk I.tb fun e=>n2 _ e _ _ I.tb,k.blk I.rb fun e=>n3 _ e _ _ I.rb,gM I.qs k (fun e=>n3 _ e _ _ hq) n1,I.lb.fr k (fun e=>n3 _ e _ _ qa) n1,I.ne,I.low⟩
theorem ShJ.K(J:ShJ w wB wx t AO co AL cl gt gS gl src dst h V gs V' mb f)(hx:Ext wx wy):ShJ w wB wy t AO co AL cl gt gS gl src dst h V gs V' mb f:=
 ⟨J.I.K hx,J.pr.K hx fun cs x hc=>hc.K hx,J.prb,J.nx.K hx fun cs x hc=>hc.K hx,J.mp.K hx,J.mbl,J.lB.1,yY J.lB.2 hx.size⟩
theorem gO{α:Type}{R:World->List Value->α->Prop}{e:TypeId}{s B:Nat}{v:Value}{l:List α}(o:OwL R e s wx B v l){b:Nat}(hb:v.ownBlock=some b):∃cs,Blk wx b e cs:=by
 obtain⟨xs,ho⟩:=o.own;rcases ho.2 with⟨e1,_⟩|⟨g,cap,cur,e1,_,h3,_⟩
 ·rw[e1]at hb;cases hb
 rw[e1]at hb;injection hb with hb
 subst hb;exact⟨_,h3⟩
theorem kT{n:Nat}{m:Nat×List UInt8->Option Value}(hm:MpG fA wx mb n m)(ty:TypeId):NoT (fun b=>b=mb) wx ty:=fun b hb cs fr e=>by
 have hb:b=mb:=hb;subst hb;obtain⟨es,qa,h1,_⟩:=hm;rw[h1]at e;cases e
theorem ShJ.share{a:Nat}{q:Rat}{neg:Bool}{A}{n c:Nat}{A'}{n' c':Nat}(J:ShJ w wB wx t AO co AL cl gt gS gl src dst h V gs V' mb f)(ha:a<f.sh.length)(hl:aO wx neg A n c A' n' c' q):
  ShJ w wB (((wx.setCell (aD gS (a*3)) (.bool neg)).setCell (aD gS (a*3+1)) (.s A n c)).setCell (aD gS (a*3+2)) (.s A' n' c')) t AO co AL cl gt gS gl src dst h V gs V' mb ⟨f.sh.set a q,f.lo,f.nx⟩/\
  FrS (fun b=>b=gS) wx (((wx.setCell (aD gS (a*3)) (.bool neg)).setCell (aD gS (a*3+1)) (.s A n c)).setCell (aD gS (a*3+2)) (.s A' n' c')):=by
 have k:FrS (fun b=>b=gS) wx _:=eG (S:=fun b=>b=gS) (nF wx gS (a*3) (.bool neg) (.s A n c) (.s A' n' c')) fun y e=>(by (injection e with e);exact e.symm);obtain⟨cq,hq⟩:=J.I.qs.blk;have n1:NoT (fun b=>b=gS) wx 168:=NoT.one hq (by decide);have nS:NoT (fun b=>b=gS) wx 148:=NoT.one hq (by decide);have qe:=J.I.low.1;refine⟨⟨⟨k.ext J.I.ex fun b hb=>by have hb:b=gS:=hb;omega,k.blk J.I.tb (bL J.I.tb hq (by decide)),k.blk J.I.rb fun e=>J.I.ne.1 e.symm,J.I.qs.put ha hl,J.I.lb.fr k (fun e=>J.I.ne.2.2 e.symm) n1,J.I.ne,J.I.low⟩,J.pr.fr k (fun b hb e=>?_) (fun cs x _ hc=>hc.fr k nS n1),J.prb,J.nx.fr k (fun b hb e=>?_) (fun cs x _ hc=>hc.fr k nS n1),J.mp.same (k.block _ J.mp.lt fun e=>?_),J.mbl,J.lB.1,yY J.lB.2 k.size⟩,k⟩;{obtain⟨cs,qa⟩:=gO J.pr hb;exact bL qa hq (by decide) e};{obtain⟨cs,qa⟩:=gO J.nx hb;exact bL qa hq (by decide) e};have e:mb=gS:=e;subst e;exact J.mp.not hq
theorem ShJ.loss{q:Rat}{neg:Bool}{A}{n c:Nat}{A'}{n' c':Nat}(J:ShJ w wB wx t AO co AL cl gt gS gl src dst h V gs V' mb f)(hl:aO wx neg A n c A' n' c' q):
  ShJ w wB (((wx.setCell (aD gl 0) (.bool neg)).setCell (aD gl 1) (.s A n c)).setCell (aD gl 2) (.s A' n' c')) t AO co AL cl gt gS gl src dst h V gs V' mb ⟨f.sh,q,f.nx⟩:=by
 obtain⟨_,_,_,_,_,_,_,hq,_⟩:=id J.I.lb;obtain⟨b3,k⟩:=eD (.bool neg) (.s A n c) (.s A' n' c') hq;have n1:NoT (fun b=>b=gl) wx 168:=NoT.one hq (by decide);have nS:NoT (fun b=>b=gl) wx 148:=NoT.one hq (by decide);have qe:=J.I.low.2;refine⟨⟨k.ext J.I.ex fun b hb=>by have hb:b=gl:=hb;omega,k.blk J.I.tb (bL J.I.tb hq (by decide)),k.blk J.I.rb fun e=>J.I.ne.2.1 e.symm,gM J.I.qs k (fun e=>J.I.ne.2.2 e) n1,⟨_,_,_,_,_,_,_,b3,k.ratR n1 hl⟩,J.I.ne,J.I.low⟩,J.pr.fr k (fun b hb e=>?_) (fun cs x _ hc=>hc.fr k nS n1),J.prb,J.nx.fr k (fun b hb e=>?_) (fun cs x _ hc=>hc.fr k nS n1),J.mp.same (k.block _ J.mp.lt fun e=>?_),J.mbl,J.lB.1,yY J.lB.2 k.size⟩;{obtain⟨cs,qa⟩:=gO J.pr hb;exact bL qa hq (by decide) e};{obtain⟨cs,qa⟩:=gO J.nx hb;exact bL qa hq (by decide) e};have e:mb=gl:=e;subst e;exact J.mp.not hq
theorem ShJ.amount{i n1 c1 gb:Nat}{x:Gp}{q:Rat}{neg:Bool}{A}{n c:Nat}{A'}{n' c':Nat}(J:ShJ w wB wx t AO co AL cl gt gS gl src dst h V gs (.s (sA gb) n1 c1) mb f)(hn:f.nx.length=n1)(hi:f.nx[i]?=some x)(hl:aO wx neg A n c A' n' c' q):
  ShJ w wB (((wx.setCell (aD gb (i*10+7)) (.bool neg)).setCell (aD gb (i*10+7+1)) (.s A n c)).setCell (aD gb (i*10+7+2)) (.s A' n' c')) t AO co AL cl gt gS gl src dst h V gs (.s (sA gb) n1 c1) mb ⟨f.sh,f.lo,f.nx.set i ⟨x.node,x.st,q⟩⟩/\
  FrS (fun b=>b=gb) wx (((wx.setCell (aD gb (i*10+7)) (.bool neg)).setCell (aD gb (i*10+7+1)) (.s A n c)).setCell (aD gb (i*10+7+2)) (.s A' n' c'))/\∃cs,Blk wx gb 150 cs:=by
 obtain⟨o,k,cs,hb⟩:=jzjd J.nx hn hi hl;obtain⟨xs,ho⟩:=J.nx.own;have qa:=(ho.lt gb rfl).1;have n1:NoT (fun b=>b=gb) wx 168:=NoT.one hb (by decide);have nS:NoT (fun b=>b=gb) wx 148:=NoT.one hb (by decide);have hB:=J.lB.1;refine⟨⟨J.I.fr k n1 (NoT.one hb (by decide)) (NoT.one hb (by decide)) fun b e=>by have e:b=gb:=e;omega,J.pr.fr k (fun b hb2 e=>?_) (fun cs x _ hc=>hc.fr k nS n1),J.prb,o,?_,J.mbl,J.lB.1,yY J.lB.2 k.size⟩,k,cs,hb⟩;{have:=J.prb b hb2;have e:b=gb:=e;omega};have h1:=J.mp.same (k.block _ J.mp.lt fun e=>by have e:mb=gb:=e;subst e;exact J.mp.not hb);rw[jzix hi];simpa using h1
end
structure ShM(w wB wx:World)(t:Tp)(AO:OA)(co:Nat)(AL:OA)(cl gt gS gl:Nat)(src dst h:Nat)(V:Value)(gs:List Gp)(V':Value)(mb:Nat)(f:Fs):Prop where
 I:ShI w wx t AO co AL cl gt gS gl f.sh f.lo
 pr:OwL (GpM src dst h) 150 10 wx w.heap.size V gs
 prb:∀b,V.ownBlock=some b->b<wB.heap.size
 nx:OwL (GpM src dst (h+1)) 150 10 wx wB.heap.size V' f.nx
 mbl:wB.heap.size<=mb
 lB:w.heap.size<=wB.heap.size/\wB.heap.size<=wx.heap.size
structure ShK(wx:World)(src dst gpt gq:Nat)(part:Rat)(A5:OA)(n5 c5:Nat)(st:List Sg)(hq:Nat)(AR:OA)(arcs:LN):Prop where
 pt:LoB wx gpt part
 qb:Blk wx gq 147 #[vI 0,vI (src:Int),vI (dst:Int),vI 0,.s A5 n5 c5,vI (hq:Int)]
 qs:bB wx A5 st
 ar:RdT wx 3 AR (ints arcs)
section
variable {w wB wx wy:World} {t:Tp} {AO:Option Addr} {co:Nat} {AL:Option Addr} {cl gt gS gl:Nat} {src dst h:Nat} {V:Value} {gs:List Gp} {V':Value} {mb:Nat} {f:Fs} {gpt gq:Nat} {part:Rat} {A5:Option Addr} {n5 c5:Nat} {st:List Sg} {hq:Nat} {AR:Option Addr} {arcs:List Nat}
theorem ShK.K(K:ShK wx src dst gpt gq part A5 n5 c5 st hq AR arcs)(hx:Ext wx wy):ShK wy src dst gpt gq part A5 n5 c5 st hq AR arcs:=⟨K.pt.K hx,K.qb.K hx,K.qs.K hx,K.ar.K hx⟩
theorem ShK.fr{S:Nat->Prop}(K:ShK wx src dst gpt gq part A5 n5 c5 st hq AR arcs)(k:FrS S wx wy)(n1:NoT S wx 168)(n2:NoT S wx 148)(n3:NoT S wx 3)(n4:NoT S wx 147)(hp:¬S gpt):ShK wy src dst gpt gq part A5 n5 c5 st hq AR arcs:=
 ⟨K.pt.fr k hp n1,k.blk K.qb fun e=>n4 _ e _ _ K.qb,K.qs.fr k n2,k.rdT n3 K.ar⟩
theorem ShJ.m(J:ShJ w wB wx t AO co AL cl gt gS gl src dst h V gs V' mb f):ShM w wB wx t AO co AL cl gt gS gl src dst h V gs V' mb f:=⟨J.I,J.pr,J.prb,J.nx,J.mbl,J.lB⟩
theorem ShM.j(M:ShM w wB wx t AO co AL cl gt gS gl src dst h V gs V' mb f)(hm:MpG fA wx mb f.nx.length (mG f.nx)):ShJ w wB wx t AO co AL cl gt gS gl src dst h V gs V' mb f:=⟨M.I,M.pr,M.prb,M.nx,hm,M.mbl,M.lB⟩
theorem ShM.K(J:ShM w wB wx t AO co AL cl gt gS gl src dst h V gs V' mb f)(hx:Ext wx wy):ShM w wB wy t AO co AL cl gt gS gl src dst h V gs V' mb f:=
 ⟨J.I.K hx,J.pr.K hx fun cs x hc=>hc.K hx,J.prb,J.nx.K hx fun cs x hc=>hc.K hx,J.mbl,J.lB.1,yY J.lB.2 hx.size⟩
theorem ShJ.turned(J:ShJ w wB wx t AO co AL cl gt gS gl src dst h V gs V' mb f)(gr:wx.grownBy wy (some mb)):ShM w wB wy t AO co AL cl gt gS gl src dst h V gs V' mb f/\FrS (fun b=>b=mb) wx wy:=by
 have k:FrS (fun b=>b=mb) wx wy:=eG gr fun y e=>(by (injection e with e);exact e.symm);have qe:=J.mbl;have hB:=J.lB.1;have n1:=kT J.mp 168;have nS:=kT J.mp 148;have nG:=kT J.mp 150;refine⟨⟨J.I.fr k n1 (kT J.mp _) (kT J.mp _) fun b e=>by have e:b=mb:=e;omega,J.pr.fr k (fun b hb e=>?_) (fun cs x _ hc=>hc.fr k nS n1),J.prb,J.nx.fr k (fun b hb e=>?_) (fun cs x _ hc=>hc.fr k nS n1),J.mbl,J.lB.1,yY J.lB.2 k.size⟩,k⟩;{obtain⟨cs,qa⟩:=gO J.pr hb;exact nG _ e _ _ qa};obtain⟨cs,qa⟩:=gO J.nx hb;exact nG _ e _ _ qa
theorem ShM.push{g' c' n1:Nat}{x:Gp}{css:List (List Value)}{us:List Value}(J:ShM w wB wx t AO co AL cl gt gS gl src dst h V gs V' mb f)(hm:MpG fA wx mb (f.nx.length+1) (mG (f.nx++[x])))(hn:f.nx.length=n1)(h1:css.length=f.nx.length)(h2:∀cs∈css,cs.length=10)(h3:wx.ownsRow wB.heap.size 150 10 V' n1 css.flatten)(h4:∀(i:Nat) (x:Gp),f.nx[i]?=some x->∃cs,css[i]?=some cs/\GpM src dst (h+1) wx cs x)(hX:GpM src dst (h+1) wx us x)(own':wy.ownsRow wB.heap.size 150 10 (.s (sA g') (n1+1) c') (n1+1) (css.flatten++us))(gr:wx.grownBy wy V'.ownBlock):
  ShJ w wB wy t AO co AL cl gt gS gl src dst h V gs (.s (sA g') (n1+1) c') mb ⟨f.sh,f.lo,f.nx++[x]⟩/\FrS (fun b=>V'.ownBlock=some b) wx wy:=by
 have k:FrS (fun b=>V'.ownBlock=some b) wx wy:=eG gr fun g e=>e;have qa:∀b,V'.ownBlock=some b->wB.heap.size<=b:=fun b hb=>(h3.lt b hb).1;have hB:=J.lB.1;have nt:∀ty,150≠ty->NoT (fun b=>V'.ownBlock=some b) wx ty:=fun ty hne b hb=>aW h3 hb hne;have n1:NoT (fun b=>V'.ownBlock=some b) wx 168:=nt _ (by decide);have nS:NoT (fun b=>V'.ownBlock=some b) wx 148:=nt _ (by decide);subst hn;refine⟨⟨J.I.fr k n1 (nt _ (by decide)) (nt _ (by decide)) fun b hb=>yY hB (qa b hb),J.pr.fr k (fun b hb e=>?_) (fun cs x _ hc=>hc.fr k nS n1),J.prb,OwL.pushed (R:=GpM src dst (h+1)) h1 h2 h4 hX.len (fun cs y _ hc=>hc.fr k nS n1) (hX.fr k nS n1) own',?_,J.mbl,J.lB.1,yY J.lB.2 k.size⟩,k⟩;{have:=J.prb b hb;have:=qa b e;omega};have h9:=hm.same (k.block _ hm.lt fun e=>by obtain⟨cs,qe⟩:=gO (R:=GpM src dst (h+1)) (l:=f.nx) ⟨css,h1,h2,h3,h4⟩ e;exact hm.not qe);simpa using h9
end
end Fo
end Go.Proofs.YtllmekijiohgmaaGreatDoor
namespace Go.Proofs.YtllmekijiohgmaaGreatDoor
namespace Fo
open Sx
theorem tM(L a:Nat):shA (List.replicate L 0) a=0:=by
 unfold shA;rw[xB];split <;> rfl
theorem jzbs t(s n:Nat):kN t s n (List.replicate (2*t.links.length) 0)=if n=s then 1 else 0:=by
 unfold kN;rw[lW _ fun a _=>by rw[tM];split <;> split <;> grind];split <;> grind
theorem RI.start{t:Tp}{kd nm:Int}{s d:Nat}(hs:s<t.nodes.toNat){st:List Sg}(hst:∀x∈st,sgB t x):RI t kd nm s d 0 (List.replicate (2*t.links.length) 0) 0 [⟨s,st,1⟩]:=by
 have e1:aP [⟨s,st,1⟩]=1:=(by show(1:Rat)+0=1;grind);(have e0:aP []=0:=rfl;have ep:∀n,prN [⟨s,st,1⟩] n=if n=s then 1 else 0:=fun n=>(by show(if s=n then(1:Rat)else 0)+0=_;by_cases e:n=s;{rw[if_pos e,if_pos e.symm];grind};rw[if_neg e,if_neg fun h=>e h.symm];grind));have en:∀n,prN [] n=0:=fun n=>rfl;refine⟨⟨by simp,fun n=>?_,?_,?_⟩,fun g hg=>?_,fun q hq=>?_,QB_.zero vC,fun a _=>tM _ _⟩;{show prN [⟨s,st,1⟩] n+prN [] n+(if 0=n then 0 else 0)<=kN t s n (List.replicate (2*t.links.length) 0);rw[ep,en,jzbs];split <;> split <;> grind};{show prN [⟨s,st,1⟩] d+prN [] d+(if 0=d then 0 else 0)+1-0-aP [⟨s,st,1⟩] -aP [] -0<=kN t s d (List.replicate (2*t.links.length) 0);rw[ep,en,jzbs,e1,e0];split <;> split <;> grind};{show(0:Rat)+aP [⟨s,st,1⟩]+aP []+0<=1;rw[e1,e0];grind};{(obtain rfl:g=_:=by simpa using hg);refine⟨hs,hst,show(0:Rat)<=1 by decide,?_⟩;show isI (1*dH 0);rw[Rat.one_mul];exact jzae 0};rw[uF hq];exact QB_.zero vC
end Fo
end Go.Proofs.YtllmekijiohgmaaGreatDoor
namespace Go.Proofs.YtllmekijiohgmaaGreatDoor
namespace Fo
open Sx
section
variable {t:Tp} {kd nm:Int} {s dst h:Nat} {sh:List Rat} {lo:Rat} {gs:List Gp}
def rdF(t:Tp)(T:List Tb)(dst h:Nat)(sh:LQ)(lo:Rat)(gs:List Gp)(i:Nat):Fs:=(gs.take i).foldl (grS t T dst h) ⟨sh,lo,[]⟩
theorem jzbt{T:List Tb}{i:Nat}{g:Gp}(hg:gs[i]?=some g):rdF t T dst h sh lo gs (i+1)=grS t T dst h (rdF t T dst h sh lo gs i) g:=by
 unfold rdF;rw[kQr,hg,kZt];rfl
theorem jzle{T:List Tb}{i:Nat}(hi:gs.length<=i):rdF t T dst h sh lo gs i=rdS t T dst h sh lo gs:=by
 unfold rdF rdS;rw[yU hi]
theorem tN{i:Nat}{g:Gp}(hg:gs[i]?=some g):aP (gs.take (i+1))=aP (gs.take i)+g.am:=by
 rw[kQr,hg];have key:∀(l:List Gp) (g:Gp),aP (l++[g])=aP l+g.am:=fun l g=>(by (induction l with|nil=>show g.am+0=0+g.am;grind|cons x l ih=>show x.am+aP (l++[g])=x.am+aP l+g.am;rw[ih];grind));exact key _ _
theorem jzlf(hn:∀g∈gs,0<=g.am)(i:Nat):aP (gs.take i)<=aP gs:=by
 have key:∀(l k:List Gp),aP (l++k)=aP l+aP k:=fun l k=>(by (induction l with|nil=>show aP k=0+aP k;grind|cons x l ih=>show x.am+aP (l++k)=x.am+aP l+aP k;rw[ih];grind));have h1:=key (gs.take i) (gs.drop i);rw[kZz]at h1;have h2:=(oH (gs.drop i) fun g hg=>hn g (List.mem_of_mem_drop hg)).1;rw[h1];grind
theorem jzlg{i:Nat}{g:Gp}(hg:gs[i]?=some g)(hn:∀g∈gs,0<=g.am)(h1:aP (gs.take (i+1))<=1):g.am<=1:=by
 rw[tN hg]at h1;have h2:=(oH (gs.take i) fun x hx=>hn x (xM hx)).1;grind
theorem jzbu{g:Gp}(hg:GpB t h g)(h1:g.am<=1)(hh:h<=256):SzQ g.am 430:=(hg.qb h1).sz hh (by decide+kernel)
theorem jzlh{l:List Gp}{x:Gp}(hl:∀g∈l,g.st.length<=32)(hx:x.st.length<=32):∀g∈bK l x,g.st.length<=32:=by
 (induction l with|nil=>intro g hg;obtain rfl:g=x:=(by simpa [bK]using hg);exact hx|cons a l ih=>intro g hg;unfold bK at hg;split at hg;{(rcases xZ.1 hg with rfl|hg);{exact hl a (by simp)};exact hl g (by simp[hg])};(rcases xZ.1 hg with rfl|hg);{exact hl g (by simp)};exact ih (fun b hb=>hl b (by simp[hb])) g hg)
theorem tO{st:List Sg}(hs:st.length<=32)(q:Rat):∀(arcs:LN) (f:Fs),(∀g∈f.nx,g.st.length<=32)->∀g∈(arcs.foldl (bZ t st q) f).nx,g.st.length<=32
 | [],_,h=>h
 |a::arcs,f,h=>tO hs q arcs (bZ t st q f a) (jzlh h hs)
theorem jzbv(l:List Gp)(x:Gp):l.length<=(bK l x).length:=by
 (induction l with|nil=>exact yZ _|cons a l ih=>unfold bK;split;{exact yX _};rw[kQo,kQo];omega)
theorem tP(st:List Sg)(q:Rat):∀(arcs:LN) (f:Fs),f.nx.length<=(arcs.foldl (bZ t st q) f).nx.length
 | [],_=>yX _
 |a::arcs,f=>yY (jzbv f.nx _) (tP st q arcs (bZ t st q f a))
theorem jzli(T:List Tb)(f:Fs)(g:Gp):f.nx.length<=(grS t T dst h f g).nx.length:=by
 unfold grS;split;{exact yX _};split;split;{split <;> exact yX _};exact tP _ _ _ _
theorem jzbw(T:List Tb):∀(l:List Gp) (f:Fs),f.nx.length<=(l.foldl (grS t T dst h) f).nx.length
 | [],_=>yX _
 |g::l,f=>yY (jzli T f g) (jzbw T l (grS t T dst h f g))
theorem jzlj(T:List Tb)(i:Nat):(rdF t T dst h sh lo gs i).nx.length<=(rdS t T dst h sh lo gs).nx.length:=by
 have e:rdS t T dst h sh lo gs=(gs.drop i).foldl (grS t T dst h) (rdF t T dst h sh lo gs i):=(by unfold rdS rdF;rw[<-kZt,kZz]);rw[e];exact jzbw T _ _
def stG(t:Tp)(T:List Tb)(dst:Nat)(sh:LQ)(gs:List Gp):Nat->Fs
 |0=>⟨sh,0,gs⟩
 |h+1=>rdS t T dst h (stG t T dst sh gs h).sh (stG t T dst sh gs h).lo (stG t T dst sh gs h).nx
structure PtF(t:Tp)(h:Nat)(P:Rat)(f:Fs):Prop where
 fs:FsB t h (h:Rat) P f
 st:∀g∈f.nx,g.st.length<=32
theorem jzbx(hr:RI t kd nm s dst h sh lo gs)(gk:Gok t)(hL:t.links.length<=9)(hl:∀g∈gs,g.st.length<=32):∀i,i<=gs.length->PtF t h (aP (gs.take i)) (rdF t (aC t kd nm) dst h sh lo gs i)
 |0,_=>⟨hr.fsb,fun _ h=>by cases h⟩
 |i+1,hi=>by
  obtain⟨g,hg⟩:∃g,gs[i]?=some g:=⟨_,yG (by omega)⟩;have ih:=jzbx hr gk hL hl i (by omega);rw[jzbt hg,tN hg];refine⟨ih.fs.grp gk hL (oO gk) dst (hr.gp g (yJ hg)),?_⟩;unfold grS
  split
  ·exact ih.st
  ·rename_i x hx
   have h1:=jzaz (oO gk _ _ hx) dst h (hl g (yJ hg))
   split
   rename_i arcs st r e
   rw[e]at h1
   split
   ·split <;> exact ih.st
   ·exact tO h1 _ arcs _ ih.st
theorem jzlk{P:Rat}{f:Fs}(hf:PtF t h P f)(gk:Gok t){st:List Sg}(hst:∀s∈st,sgB t s)(h32:st.length<=32){q:Rat}(hq:0<=q)(hi:isI (q*dH (h+1))){arcs:LN}(ha:∀a∈arcs,a<2*t.links.length)(j:Nat)(hj:j<=arcs.length)(hP:P+(arcs.length:Rat)*q<=1):PtF t h (P+((arcs.take j).length:Rat)*q) ((arcs.take j).foldl (bZ t st q) f)/\P+((arcs.take j).length:Rat)*q<=1:=by
 refine⟨⟨hf.fs.outs gk hst hq hi (arcs.take j) fun a h=>ha a (xM h),tO h32 q _ _ hf.st⟩,?_⟩;have h1:((arcs.take j).length:Rat)<=(arcs.length:Rat):=(by show(((arcs.take j).length:Int):Rat)<=((arcs.length:Int):Rat);rw[xF];exact kQt.2 (by omega));have h2:=kQ5 h1 hq;grind
theorem PtF.szs{P:Rat}{f:Fs}(hf:PtF t h P f)(hh:h<=255)(hP:P<=1):(∀q∈f.sh,SzQ q 430)/\SzQ f.lo 430/\∀g∈f.nx,SzQ g.am 430:=hf.fs.szs hh (by grind)
end
end Fo
end Go.Proofs.YtllmekijiohgmaaGreatDoor
